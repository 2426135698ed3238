/- The reference's Join: the same entries. plan.Fixes, plan.Same and the reference's. -/
import Derived.Test.YtlggdgpdfepppaaGreatDoorPk31
import Derived.Test.YtlggdgpdfepppaaGreatDoorPk17
import Derived.Test.YtlggdgpdfepppaaGreatDoorPk10
import Derived.Test.YtlggdgpdfepppaaGreatDoorPk16
namespace Go.Proofs.YtlggdgpdfepppaaGreatDoor
open Go.RowKit
set_option linter.unusedVariables false
set_option linter.unusedSimpArgs false
attribute [local go_sem] run_bs2
end Go.Proofs.YtlggdgpdfepppaaGreatDoor
namespace Go.Proofs.YtlggdgpdfepppaaGreatDoor
open Go.RowKit
set_option linter.unusedVariables false
set_option linter.unusedSimpArgs false
def sameB (p q : Plan) : Bool := p.from_ == q.from_ && p.to_ == q.to_ && p.active == q.active && eqGo p.es q.es
set_option maxHeartbeats 2000000 in
set_option maxRecDepth 100000 in
theorem same_any (p q : Plan) (A B : Option Addr) (c d : Nat) (w : World) (hp : p.es.length ≤ 4000000000) (hq : q.es.length ≤ 4000000000) (hc : p.es.length ≤ c) (hd : q.es.length ≤ d) (hE : Ents w A p.es) (hF : Ents w B q.es) :
   Calls Tryz.prog 17 #[p.val A c, q.val B d] w (Ret w (.bool (sameB p q))) := by
  go_enter Tryz.func17, Tryz.ntmps17
  go_upto_region 1 with (fail)
  generalize hW : (w.alloc _).alloc _ = W
  have X0 : Blk W w.heap.size (p.arr A c) := by rw [← hW]; exact (Blk.new w _ _).alloc _
  have R0 : Blk W (w.heap.size + 1) (q.arr B d) := by rw [← hW, ← World.size_alloc w (.cells (p.arr A c) 24)]; exact Blk.new _ _ _
  have B0 : Below w.heap.size w W := by rw [← hW]; go_grown
  clear hW
  have c1 := X0.cell
  have c2 := X0.lt
  have d1 := R0.cell
  have d2 := R0.lt
  have hcall := Lib.hid (sequal_any p.es q.es A B c d W hp hq hc hd (hE.below (B := 0) B0) (hF.below (B := 0) B0))
  obtain ⟨a1, h1⟩ : ∃ a, (p.from_ == q.from_) = a := ⟨_, rfl⟩
  obtain ⟨a2, h2⟩ : ∃ a, (p.to_ == q.to_) = a := ⟨_, rfl⟩
  obtain ⟨a3, h3⟩ : ∃ a, (p.active == q.active) = a := ⟨_, rfl⟩
  have HS := Lib.hid (show sameB p q = (a1 && a2 && a3 && eqGo p.es q.es) by rw [sameB, h1, h2, h3])
  cases a1 <;> cases a2 <;> cases a3
  all_goals
    go_wp2_with (go_at_call 35; refine callQ hcall.out ?_; intro n)
    all_goals (go_ret; exact Ret.bool (by rw [HS.out]; simp) (by first | exact B0 | exact below_drewN B0 _))
end Go.Proofs.YtlggdgpdfepppaaGreatDoor
