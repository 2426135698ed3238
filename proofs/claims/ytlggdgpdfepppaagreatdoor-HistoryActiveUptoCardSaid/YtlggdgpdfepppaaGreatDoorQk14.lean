/- plan.Fixes, plan.Same and the reference's. Altitudes, windows and distances read: record.altitude, window, ParseWindow, ParseDist; leg.dist, leg.speed, leg.ref. A block of the caller's own that is written cell by cell; what a call that writes such blocks leaves alone. Windows read: record.window, record.ParseWindow. Edits in plain Lean: their fields, the first error, the text, the loose reading of a text. No program in sight. -/
import Derived.Test.YtlggdgpdfepppaaGreatDoorQk10
import Derived.Test.YtlggdgpdfepppaaGreatDoorQk13
import Derived.Test.YtlggdgpdfepppaaGreatDoorQk01
import Derived.Test.YtlggdgpdfepppaaGreatDoorQk12
import Derived.Test.YtlggdgpdfepppaaGreatDoorQk03
import Derived.Laws.OwnMore
import Derived.Lib.AppendStr
import Derived.Lib.AtoiErrMem
import Derived.Lib.ConvBytes
import Derived.Test.YtlggdgpdfepppaaGreatDoorQk09
import Derived.Test.YtlggdgpdfepppaaGreatDoorQk07
import Derived.Lib.ParseIntBCases
import Derived.Lib.AtoiAll
namespace Go.Proofs.YtlggdgpdfepppaaGreatDoor
open Go.RowKit
set_option linter.unusedVariables false
set_option linter.unusedSimpArgs false
def sameB (p q : Plan) : Bool := p.from_ == q.from_ && p.to_ == q.to_ && p.active == q.active && eqGo p.es q.es
set_option maxHeartbeats 2000000 in
set_option maxRecDepth 100000 in
theorem same_any (p q : Plan) (A B : Option Addr) (c d : Nat) (w : World) (hp : p.es.length ≤ 4000000000) (hq : q.es.length ≤ 4000000000) (hc : p.es.length ≤ c) (hd : q.es.length ≤ d) (hE : Ents w A p.es) (hF : Ents w B q.es) :
   Calls Tryz.prog 17 #[p.val A c, q.val B d] w (Ret w (.bool (sameB p q))) := by
  go_enter Tryz.func17, Tryz.ntmps17
  go_upto_region 1 with (fail)
  generalize hW : (w.alloc _).alloc _ = W
  have X0 : Blk W w.heap.size (p.arr A c) := by rw [← hW]; exact (Blk.new w _ _).alloc _
  have R0 : Blk W (w.heap.size + 1) (q.arr B d) := by rw [← hW, ← World.size_alloc w (.cells (p.arr A c) 24)]; exact Blk.new _ _ _
  have B0 : Below w.heap.size w W := by rw [← hW]; go_grown
  clear hW
  have c1 := X0.cell
  have c2 := X0.lt
  have d1 := R0.cell
  have d2 := R0.lt
  have hcall := Lib.hid (sequal_any p.es q.es A B c d W hp hq hc hd (hE.below (B := 0) B0) (hF.below (B := 0) B0))
  obtain ⟨a1, h1⟩ : ∃ a, (p.from_ == q.from_) = a := ⟨_, rfl⟩
  obtain ⟨a2, h2⟩ : ∃ a, (p.to_ == q.to_) = a := ⟨_, rfl⟩
  obtain ⟨a3, h3⟩ : ∃ a, (p.active == q.active) = a := ⟨_, rfl⟩
  have HS := Lib.hid (show sameB p q = (a1 && a2 && a3 && eqGo p.es q.es) by rw [sameB, h1, h2, h3])
  cases a1 <;> cases a2 <;> cases a3
  all_goals
    go_wp2_with (go_at_call 35; refine callQ hcall.out ?_; intro n)
    all_goals (go_ret; exact Ret.bool (by rw [HS.out]; simp) (by first | exact B0 | exact below_drewN B0 _))
end Go.Proofs.YtlggdgpdfepppaaGreatDoor
namespace Go.Proofs.YtlggdgpdfepppaaGreatDoor
open Go.RowKit Go.Sort
set_option linter.unusedVariables false
set_option linter.unusedSimpArgs false
set_option maxRecDepth 100000
theorem cut_ret (l : List UInt8) (c : UInt8) (w : World) (hL : Laid w) (hl : l.length ≤ 4000000000) :
    Calls Tryz.prog 80 #[.string ⟨l.toArray⟩, .string ⟨#[c]⟩] w (Ret w (.tuple #[.string ⟨(cutAt c l).1.toArray⟩, .string ⟨(cutAt c l).2.1.toArray⟩, .bool (cutAt c l).2.2])) :=
  (cut_any l c w hL hl).mono fun e w' ⟨h1, n, h2⟩ => ⟨h1, by rw [h2]; exact below_drewN (Below.refl _ _) n⟩
end Go.Proofs.YtlggdgpdfepppaaGreatDoor
namespace Go.Proofs.YtlggdgpdfepppaaGreatDoor
open Go.RowKit
set_option linter.unusedVariables false
set_option linter.unusedSimpArgs false
theorem Blk.setCell {W : World} {g : Nat} {cs : Array Value} (h : Blk W g cs) (k : Nat) (v : Value) : Blk (W.setCell ⟨g, k, none⟩ v) g (cs.setIfInBounds k v) := by
  obtain ⟨t, h⟩ := h
  have hlt : g < W.heap.size := by
    rcases Nat.lt_or_ge g W.heap.size with hlt | hge
    · exact hlt
    · rw [Array.getElem?_eq_none hge] at h; cases h
  refine ⟨t, ?_⟩
  simp only [World.setCell, Array.getElem?_modify, if_true, h]
  rfl
theorem Blk.setFar {W : World} {g g' : Nat} {cs : Array Value} (h : Blk W g cs) (hne : g ≠ g') (k : Nat) (v : Value) : Blk (W.setCell ⟨g', k, none⟩ v) g cs := by
  obtain ⟨t, h⟩ := h
  exact ⟨t, (Below.heap_setCell W ⟨g', k, none⟩ v g hne).trans h⟩
theorem below_setCell {B g : Nat} {w0 w : World} (hb : Below B w0 w) (hBg : B ≤ g) (k : Nat) (v : Value) : Below B w0 (w.setCell ⟨g, k, none⟩ v) := hb.setCell (by simpa using hBg) v
end Go.Proofs.YtlggdgpdfepppaaGreatDoor
namespace Go.Proofs.YtlggdgpdfepppaaGreatDoor
open Go.RowKit Go.Sort
set_option linter.unusedVariables false
set_option linter.unusedSimpArgs false
set_option maxRecDepth 100000
theorem wmk (a b : Int) : Win.arr ⟨a, b⟩ = #[.int .i64 a, .int .i64 b] := rfl
attribute [local go_sem] wmk
theorem spl_win (a b c d : Int) : splice #[.int .i64 a, .int .i64 b] 0 #[.int .i64 c, .int .i64 d] = #[.int .i64 c, .int .i64 d] := rfl
attribute [local go_sem] spl_win
end Go.Proofs.YtlggdgpdfepppaaGreatDoor
namespace Go.Proofs.YtlggdgpdfepppaaGreatDoor
open Go.RowKit
set_option linter.unusedVariables false
set_option linter.unusedSimpArgs false
structure EditV where
  op : Int
  at_ : Int
  ref : List UInt8
  name : List UInt8
  rway : List UInt8
  trans : List UInt8
  lo : Int
  hi : Int
  speed : Int
  course : Int
  dist : Int
  turn : Int
def edOrder : List UInt8 := [97, 114, 110, 119, 116, 104, 115, 99, 100, 117]
def formF (op : Int) : List UInt8 :=
  ([[], [97, 114], [97], [97], [97, 104], [97, 115], [97, 100], [97, 99, 100, 117], [97, 114, 110], [110, 119, 116], [110, 119, 116], [110, 116], [97, 110]] : List (List UInt8)).getD op.toNat []
def formW (op : Int) : List UInt8 :=
  ([[], [73, 78, 83, 69, 82, 84], [68, 69, 76, 69, 84, 69], [68, 73, 82, 69, 67, 84], [65, 76, 84], [83, 80, 68], [82, 78, 80], [72, 79, 76, 68], [65, 73, 82, 87, 65, 89],
    [68, 69, 80, 65, 82, 84, 85, 82, 69], [65, 82, 82, 73, 86, 65, 76], [65, 80, 80, 82, 79, 65, 67, 72], [68, 73, 86, 69, 82, 84]] : List (List UInt8)).getD op.toNat []
def betweenS (n lo hi : Int) : Int := if n < lo ∨ hi < n then 2 else 0
def namedS (b : Bool) : Int := if b then 0 else 5
def checkF (e : EditV) (c : UInt8) : Int :=
  if c = 97 then betweenS e.at_ 0 60
  else if c = 114 then namedS (refB e.ref)
  else if c = 110 then (if e.op = 12 then namedS (pairB e.name 47 6) else namedS (nameB e.name 8))
  else if c = 119 then namedS (e.rway.isEmpty || nameB e.rway 6)
  else if c = 116 then namedS (e.trans.isEmpty || nameB e.trans 8)
  else if c = 104 then (if e.lo < -200000 ∨ e.hi < e.lo ∨ 6000000 < e.hi then 2 else 0)
  else if c = 115 then betweenS e.speed 0 1000
  else if c = 99 then betweenS e.course 0 129599999
  else if c = 100 then (if e.op = 6 then betweenS e.dist 0 120000 else betweenS e.dist 1 2000000)
  else if c = 117 then (if e.turn = 1 ∨ e.turn = 2 then 0 else 1)
  else 0
def zeroF (e : EditV) (c : UInt8) : Bool :=
  if c = 97 then e.at_ == 0
  else if c = 114 then e.ref.isEmpty
  else if c = 110 then e.name.isEmpty
  else if c = 119 then e.rway.isEmpty
  else if c = 116 then e.trans.isEmpty
  else if c = 104 then e.lo == 0 && e.hi == 0
  else if c = 115 then e.speed == 0
  else if c = 99 then e.course == 0
  else if c = 100 then e.dist == 0
  else e.turn == 0
def stE (e : EditV) (c : UInt8) : Int := if (formF e.op).contains c then checkF e c else if zeroF e c then 0 else 1
def chkGo (e : EditV) : List UInt8 → Int
  | [] => 0
  | c :: r => orE (stE e c) (chkGo e r)
def editCheck (e : EditV) : Int := if e.op < 1 ∨ 12 < e.op then 17 else chkGo e edOrder
end Go.Proofs.YtlggdgpdfepppaaGreatDoor
