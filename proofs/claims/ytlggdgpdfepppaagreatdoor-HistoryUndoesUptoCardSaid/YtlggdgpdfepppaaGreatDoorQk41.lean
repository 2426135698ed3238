/- Databases, fixes and legs opened out of their readings. Airways, procedures and databases opened out of their readings. Printed by wip/mkgd.py. An edit opened out of its reading. The acts of a script opened out of their readings. -/
import Derived.Test.YtlggdgpdfepppaaGreatDoorQk24
import Derived.Test.YtlggdgpdfepppaaGreatDoorQk32
import Derived.Test.YtlggdgpdfepppaaGreatDoorQk25
import Derived.Test.YtlggdgpdfepppaaGreatDoorQk29
import Derived.Test.YtlggdgpdfepppaaGreatDoorQk39
import Derived.Test.YtlggdgpdfepppaaGreatDoorQk18
namespace Go.Proofs.YtlggdgpdfepppaaGreatDoor
open Go.RowKit Go.ChangeShapes Go.WideShapes Go.Deep
set_option linter.unusedVariables false
set_option linter.unusedSimpArgs false
theorem cells_fixv_1 : Tryz.prog.cellsOf 216 = 1 := by kernel_rfl
theorem cells_fixv_2 : Tryz.prog.cellsOf 41 = 2 := by kernel_rfl
theorem cells_fixv : Tryz.prog.cellsOf 218 = 7 := by kernel_rfl
def FixV.bnd (x : FixV) (N : Nat) : Prop := x.ident.length ≤ N ∧ x.region.length ≤ N
section
variable {H : Type} {enc : TypeId × Value → H} {w : World} {base : Nat} {spare : Nat → Bool} {held : Bool}
theorem list_n_fixv {α : Type _} {l : List α} (h : l.length = 7) : ∃ x0 x1 x2 x3 x4 x5 x6, l = [x0, x1, x2, x3, x4, x5, x6] := by
  match l, h with
  | [x0, x1, x2, x3, x4, x5, x6], _ => exact ⟨x0, x1, x2, x3, x4, x5, x6, rfl⟩
theorem list_f_fixv {α : Type _} {l : List α} (h : l.length = 6) : ∃ x0 x1 x2 x3 x4 x5, l = [x0, x1, x2, x3, x4, x5] := by
  match l, h with
  | [x0, x1, x2, x3, x4, x5], _ => exact ⟨x0, x1, x2, x3, x4, x5, rfl⟩
theorem open_fixv {fuel : Nat} {cs : List Value} {y : DataW H × List MemPlace} (h : DataW.trod enc Tryz.prog w base spare held fuel 218 cs = some y) : ∃ x : FixV, cs = x.arr.toList ∧ x.bnd (Rows.uptoBulk y.1) := by
  obtain ⟨xs, n, _, hx, hlen, hxl, hf⟩ := DataW.trod_struct Tryz.underlying218 h
  rw [cells_fixv] at hlen
  obtain ⟨c0, c1, c2, c3, c4, c5, c6, rfl⟩ := list_n_fixv hlen
  obtain ⟨y0, y1, y2, y3, y4, y5, rfl⟩ := list_f_fixv hxl
  have g0 := fld hf 0 9 0 1 rfl cells_str
  have g1 := fld hf 1 9 1 1 rfl cells_str
  have g2 := fld hf 2 216 2 1 rfl cells_fixv_1
  have g3 := fld hf 3 41 3 2 rfl cells_fixv_2
  have g4 := fld hf 4 2 5 1 rfl cells_i64
  have g5 := fld hf 5 2 6 1 rfl cells_i64
  simp only [List.drop_succ_cons, List.drop_zero, List.take_succ_cons, List.take_zero, List.getElem?_cons_succ, List.getElem?_cons_zero] at g0 g1 g2 g3 g4 g5
  obtain ⟨v0, e0, b0⟩ := open_str g0
  obtain ⟨v1, e1, b1⟩ := open_str g1
  obtain ⟨v2, e2, _⟩ := DataW.trod_int Tryz.underlying216 g2
  obtain ⟨v3, v3', e3⟩ := open_two Tryz.underlying41 cells_fixv_2 ⟨rfl, rfl⟩ ⟨rfl, rfl⟩ g3
  obtain ⟨v4, e4, _⟩ := DataW.trod_int Tryz.underlying2 g4
  obtain ⟨v5, e5, _⟩ := DataW.trod_int Tryz.underlying2 g5
  simp only [List.cons.injEq, and_true] at e2 e4 e5
  have hy : Rows.uptoBulk y.1 = Rows.uptoBulkAll [y0.1, y1.1, y2.1, y3.1, y4.1, y5.1] + 1 := by rw [hx]; simp [Rows.uptoBulk]
  have p0 : Rows.uptoBulk y0.1 ≤ Rows.uptoBulkAll [y0.1, y1.1, y2.1, y3.1, y4.1, y5.1] := bulk_part (by simp)
  have p1 : Rows.uptoBulk y1.1 ≤ Rows.uptoBulkAll [y0.1, y1.1, y2.1, y3.1, y4.1, y5.1] := bulk_part (by simp)
  refine ⟨⟨v0, v1, v2, v3, v3', v4, v5⟩, ?_, ?_⟩
  · have e : [c0, c1, c2, c3, c4, c5, c6] = [c0] ++ [c1] ++ [c2] ++ [c3, c4] ++ [c5] ++ [c6] := rfl
    rw [e, e0, e1, e2, e3, e4, e5]
    rfl
  · exact ⟨by show v0.length ≤ _; omega, by show v1.length ≤ _; omega⟩
end
theorem FixV.bnd.mono {x : FixV} {a b : Nat} (h : x.bnd a) (hab : a ≤ b) : x.bnd b := ⟨Nat.le_trans h.1 hab, Nat.le_trans h.2 hab⟩
theorem cells_posT : Tryz.prog.cellsOf 41 = 2 := by kernel_rfl
theorem cells_db : Tryz.prog.cellsOf 48 = 9 := by kernel_rfl
theorem list9 {α : Type _} {l : List α} (h : l.length = 9) : ∃ x0 x1 x2 x3 x4 x5 x6 x7 x8, l = [x0, x1, x2, x3, x4, x5, x6, x7, x8] := by
  match l, h with
  | [x0, x1, x2, x3, x4, x5, x6, x7, x8], _ => exact ⟨x0, x1, x2, x3, x4, x5, x6, x7, x8, rfl⟩
section
variable {H : Type} {enc : TypeId × Value → H} {w : World} {base : Nat} {spare : Nat → Bool} {held : Bool}
theorem list5 {α : Type _} {l : List α} (h : l.length = 5) : ∃ x0 x1 x2 x3 x4, l = [x0, x1, x2, x3, x4] := by
  match l, h with
  | [x0, x1, x2, x3, x4], _ => exact ⟨x0, x1, x2, x3, x4, rfl⟩
theorem open_fixes {fuel : Nat} {v : Value} {y : DataW H × List MemPlace} (h : DataW.trod enc Tryz.prog w base spare held fuel 44 [v] = some y) :
    ∃ (l : List FixV) (A : Option Addr) (c : Nat), v = .slice A l.length c ∧ l.length ≤ c ∧ c ≤ maxLen ∧ Items w A 7 (l.map FixV.arr) ∧ l.length ≤ Rows.uptoBulk y.1 ∧ ∀ x ∈ l, x.bnd (Rows.uptoBulk y.1) :=
  open_items FixV.arr FixV.bnd (fun x a b hab h => h.mono hab) Tryz.underlying44 cells_fixv (by omega) FixV.arr_sz (fun h => open_fixv h) h
def Leg.bnd (l : Leg) (N : Nat) : Prop := l.fix.length ≤ N ∧ l.center.length ≤ N
theorem open_legs {fuel : Nat} {v : Value} {y : DataW H × List MemPlace} (h : DataW.trod enc Tryz.prog w base spare held fuel 179 [v] = some y) :
    ∃ (l : List Leg) (A : Option Addr) (c : Nat), v = .slice A l.length c ∧ l.length ≤ c ∧ c ≤ maxLen ∧ Items w A 13 (l.map Leg.arr) ∧ l.length ≤ Rows.uptoBulk y.1 ∧ ∀ x ∈ l, x.bnd (Rows.uptoBulk y.1) :=
  open_items Leg.arr Leg.bnd (fun x a b hab h => ⟨Nat.le_trans h.1 hab, Nat.le_trans h.2 hab⟩) Tryz.underlying179 cells_leg (by omega) (fun _ => rfl) (fun h => by obtain ⟨l, e, b1, b2⟩ := open_leg h; exact ⟨l, e, b1, b2⟩) h
end
end Go.Proofs.YtlggdgpdfepppaaGreatDoor
namespace Go.Proofs.YtlggdgpdfepppaaGreatDoor
open Go.RowKit Go.ChangeShapes Go.WideShapes Go.Deep
set_option linter.unusedVariables false
set_option linter.unusedSimpArgs false
theorem cells_apt_1 : Tryz.prog.cellsOf 56 = 2 := by kernel_rfl
theorem cells_apt : Tryz.prog.cellsOf 181 = 4 := by kernel_rfl
def APt.bnd (x : APt) (N : Nat) : Prop := x.ref.length ≤ N
section
variable {H : Type} {enc : TypeId × Value → H} {w : World} {base : Nat} {spare : Nat → Bool} {held : Bool}
theorem list_n_apt {α : Type _} {l : List α} (h : l.length = 4) : ∃ x0 x1 x2 x3, l = [x0, x1, x2, x3] := by
  match l, h with
  | [x0, x1, x2, x3], _ => exact ⟨x0, x1, x2, x3, rfl⟩
theorem list_f_apt {α : Type _} {l : List α} (h : l.length = 3) : ∃ x0 x1 x2, l = [x0, x1, x2] := by
  match l, h with
  | [x0, x1, x2], _ => exact ⟨x0, x1, x2, rfl⟩
theorem open_apt {fuel : Nat} {cs : List Value} {y : DataW H × List MemPlace} (h : DataW.trod enc Tryz.prog w base spare held fuel 181 cs = some y) : ∃ x : APt, cs = x.arr.toList ∧ x.bnd (Rows.uptoBulk y.1) := by
  obtain ⟨xs, n, _, hx, hlen, hxl, hf⟩ := DataW.trod_struct Tryz.underlying181 h
  rw [cells_apt] at hlen
  obtain ⟨c0, c1, c2, c3, rfl⟩ := list_n_apt hlen
  obtain ⟨y0, y1, y2, rfl⟩ := list_f_apt hxl
  have g0 := fld hf 0 9 0 1 rfl cells_str
  have g1 := fld hf 1 56 1 2 rfl cells_apt_1
  have g2 := fld hf 2 5 3 1 rfl cells_u8
  simp only [List.drop_succ_cons, List.drop_zero, List.take_succ_cons, List.take_zero, List.getElem?_cons_succ, List.getElem?_cons_zero] at g0 g1 g2
  obtain ⟨v0, e0, b0⟩ := open_str g0
  obtain ⟨v1, v1', e1⟩ := open_two Tryz.underlying56 cells_apt_1 ⟨rfl, rfl⟩ ⟨rfl, rfl⟩ g1
  obtain ⟨v2, e2, _⟩ := DataW.trod_int Tryz.underlying5 g2
  simp only [List.cons.injEq, and_true] at e2
  have hy : Rows.uptoBulk y.1 = Rows.uptoBulkAll [y0.1, y1.1, y2.1] + 1 := by rw [hx]; simp [Rows.uptoBulk]
  have p0 : Rows.uptoBulk y0.1 ≤ Rows.uptoBulkAll [y0.1, y1.1, y2.1] := bulk_part (by simp)
  refine ⟨⟨v0, v1, v1', v2⟩, ?_, ?_⟩
  · have e : [c0, c1, c2, c3] = [c0] ++ [c1, c2] ++ [c3] := rfl
    rw [e, e0, e1, e2]
    rfl
  · exact by show v0.length ≤ _; omega
end
theorem APt.bnd.mono {x : APt} {a b : Nat} (h : x.bnd a) (hab : a ≤ b) : x.bnd b := Nat.le_trans h hab
theorem cells_apts : Tryz.prog.cellsOf 172 = 1 := by kernel_rfl
theorem cells_awyT : Tryz.prog.cellsOf 174 = 2 := by kernel_rfl
theorem cells_awys : Tryz.prog.cellsOf 45 = 1 := by kernel_rfl
theorem cells_legsG : Tryz.prog.cellsOf 179 = 1 := by kernel_rfl
theorem cells_prtT : Tryz.prog.cellsOf 225 = 3 := by kernel_rfl
theorem cells_prts : Tryz.prog.cellsOf 184 = 1 := by kernel_rfl
theorem cells_prcT : Tryz.prog.cellsOf 186 = 4 := by kernel_rfl
theorem cells_prcs : Tryz.prog.cellsOf 46 = 1 := by kernel_rfl
theorem cells_pkind : Tryz.prog.cellsOf 223 = 1 := by kernel_rfl
theorem cells_prkind : Tryz.prog.cellsOf 148 = 1 := by kernel_rfl
theorem cells_fixesG : Tryz.prog.cellsOf 44 = 1 := by kernel_rfl
theorem cells_hdrG : Tryz.prog.cellsOf 43 = 6 := by kernel_rfl
def AwyV.bnd (a : AwyV) (N : Nat) : Prop := a.name.length ≤ N ∧ a.pts.length ≤ N ∧ ∀ p ∈ a.pts, p.bnd N
def PartV.bnd (x : PartV) (N : Nat) : Prop := x.name.length ≤ N ∧ x.legs.length ≤ N ∧ ∀ l ∈ x.legs, l.bnd N
def ProcV.bnd (p : ProcV) (N : Nat) : Prop := p.airport.length ≤ N ∧ p.name.length ≤ N ∧ p.parts.length ≤ N ∧ ∀ x ∈ p.parts, x.bnd N
theorem AwyV.bnd.mono {x : AwyV} {a b : Nat} (h : x.bnd a) (hab : a ≤ b) : x.bnd b := ⟨Nat.le_trans h.1 hab, Nat.le_trans h.2.1 hab, fun p hp => (h.2.2 p hp).mono hab⟩
theorem Leg.bnd.mono {x : Leg} {a b : Nat} (h : x.bnd a) (hab : a ≤ b) : x.bnd b := ⟨Nat.le_trans h.1 hab, Nat.le_trans h.2 hab⟩
theorem PartV.bnd.mono {x : PartV} {a b : Nat} (h : x.bnd a) (hab : a ≤ b) : x.bnd b := ⟨Nat.le_trans h.1 hab, Nat.le_trans h.2.1 hab, fun p hp => (h.2.2 p hp).mono hab⟩
theorem ProcV.bnd.mono {x : ProcV} {a b : Nat} (h : x.bnd a) (hab : a ≤ b) : x.bnd b := ⟨Nat.le_trans h.1 hab, Nat.le_trans h.2.1 hab, Nat.le_trans h.2.2.1 hab, fun p hp => (h.2.2.2 p hp).mono hab⟩
theorem list2G {α : Type _} {l : List α} (h : l.length = 2) : ∃ x0 x1, l = [x0, x1] := by
  match l, h with
  | [x0, x1], _ => exact ⟨x0, x1, rfl⟩
theorem list3G {α : Type _} {l : List α} (h : l.length = 3) : ∃ x0 x1 x2, l = [x0, x1, x2] := by
  match l, h with
  | [x0, x1, x2], _ => exact ⟨x0, x1, x2, rfl⟩
theorem list4G {α : Type _} {l : List α} (h : l.length = 4) : ∃ x0 x1 x2 x3, l = [x0, x1, x2, x3] := by
  match l, h with
  | [x0, x1, x2, x3], _ => exact ⟨x0, x1, x2, x3, rfl⟩
structure Cell (w : World) (α : Type) (n : Nat) (at_ : Array Value → α → Prop) where
  cs : Array Value
  v : α
  size : cs.size = n
  ok : at_ cs v
theorem Cell.list {w : World} {α : Type} {n : Nat} {at_ : Array Value → α → Prop} (l : List (Cell w α n at_)) :
    (l.map Cell.cs).length = (l.map Cell.v).length ∧ ∀ (i : Nat) (cs : Array Value) (x : α), (l.map Cell.cs)[i]? = some cs → (l.map Cell.v)[i]? = some x → at_ cs x := by
  refine ⟨by simp, fun i cs x h1 h2 => ?_⟩
  rw [List.getElem?_map] at h1 h2
  cases hq : l[i]? with
  | none => rw [hq] at h1; cases h1
  | some q =>
    rw [hq] at h1 h2
    obtain rfl : q.cs = cs := by simpa using h1
    obtain rfl : q.v = x := by simpa using h2
    exact q.ok
section
variable {H : Type} {enc : TypeId × Value → H} {w : World} {base : Nat} {spare : Nat → Bool} {held : Bool}
theorem open_apts {fuel : Nat} {v : Value} {y : DataW H × List MemPlace} (h : DataW.trod enc Tryz.prog w base spare held fuel 172 [v] = some y) :
    ∃ (l : List APt) (A : Option Addr) (c : Nat), v = .slice A l.length c ∧ l.length ≤ c ∧ c ≤ maxLen ∧ Items w A 4 (l.map APt.arr) ∧ l.length ≤ Rows.uptoBulk y.1 ∧ ∀ x ∈ l, x.bnd (Rows.uptoBulk y.1) :=
  open_items APt.arr APt.bnd (fun x a b hab h => h.mono hab) Tryz.underlying172 cells_apt (by omega) APt.arr_sz (fun h => open_apt h) h
theorem open_awy {fuel : Nat} {cs : List Value} {y : DataW H × List MemPlace} (h : DataW.trod enc Tryz.prog w base spare held fuel 174 cs = some y) :
    ∃ q : Cell w AwyV 2 (AwyAt w), cs = q.cs.toList ∧ q.v.bnd (Rows.uptoBulk y.1) := by
  obtain ⟨xs, n, _, hx, hlen, hxl, hf⟩ := DataW.trod_struct Tryz.underlying174 h
  rw [cells_awyT] at hlen
  obtain ⟨c0, c1, rfl⟩ := list2G hlen
  obtain ⟨y0, y1, rfl⟩ := list2G hxl
  have g0 := fld hf 0 9 0 1 rfl cells_str
  have g1 := fld hf 1 172 1 1 rfl cells_apts
  simp only [List.drop_succ_cons, List.drop_zero, List.take_succ_cons, List.take_zero, List.getElem?_cons_succ, List.getElem?_cons_zero] at g0 g1
  obtain ⟨v0, e0, b0⟩ := open_str g0
  obtain ⟨l, A, c, rfl, hc, _, hI, hn, hb⟩ := open_apts g1
  have hy : Rows.uptoBulk y.1 = Rows.uptoBulkAll [y0.1, y1.1] + 1 := by rw [hx]; simp [Rows.uptoBulk]
  have p0 : Rows.uptoBulk y0.1 ≤ Rows.uptoBulkAll [y0.1, y1.1] := bulk_part (by simp)
  have p1 : Rows.uptoBulk y1.1 ≤ Rows.uptoBulkAll [y0.1, y1.1] := bulk_part (by simp)
  refine ⟨⟨awyArr ⟨v0, l⟩ A c, ⟨v0, l⟩, rfl, ⟨⟨A, c, rfl, hc, hI⟩⟩⟩, ?_, ?_⟩
  · show [c0, _] = _
    rw [e0]
    rfl
  · exact ⟨by show v0.length ≤ _; omega, by show l.length ≤ _; omega, fun p hp => (hb p hp).mono (by omega)⟩
theorem open_awys {fuel : Nat} {v : Value} {y : DataW H × List MemPlace} (h : DataW.trod enc Tryz.prog w base spare held fuel 45 [v] = some y) :
    ∃ (l : List AwyV) (A : Option Addr) (c : Nat), v = .slice A l.length c ∧ l.length ≤ c ∧ c ≤ maxLen ∧ AwysAt w A l ∧ l.length ≤ Rows.uptoBulk y.1 ∧ ∀ x ∈ l, x.bnd (Rows.uptoBulk y.1) := by
  obtain ⟨l, A, c, e, hc, hm, hI, hn, hb⟩ := open_items (α := Cell w AwyV 2 (AwyAt w)) Cell.cs (fun q N => q.v.bnd N) (fun x a b hab h => h.mono hab) Tryz.underlying45 cells_awyT (by omega) Cell.size (fun h => open_awy h) h
  refine ⟨l.map Cell.v, A, c, by simpa using e, by simpa using hc, hm, ⟨⟨l.map Cell.cs, (Cell.list l).1, hI, (Cell.list l).2⟩⟩, by simpa using hn, ?_⟩
  intro x hx
  obtain ⟨q, hq, rfl⟩ := List.mem_map.1 hx
  exact hb q hq
theorem open_prt {fuel : Nat} {cs : List Value} {y : DataW H × List MemPlace} (h : DataW.trod enc Tryz.prog w base spare held fuel 225 cs = some y) :
    ∃ q : Cell w PartV 3 (PrtAt w), cs = q.cs.toList ∧ q.v.bnd (Rows.uptoBulk y.1) := by
  obtain ⟨xs, n, _, hx, hlen, hxl, hf⟩ := DataW.trod_struct Tryz.underlying225 h
  rw [cells_prtT] at hlen
  obtain ⟨c0, c1, c2, rfl⟩ := list3G hlen
  obtain ⟨y0, y1, y2, rfl⟩ := list3G hxl
  have g0 := fld hf 0 223 0 1 rfl cells_pkind
  have g1 := fld hf 1 9 1 1 rfl cells_str
  have g2 := fld hf 2 179 2 1 rfl cells_legsG
  simp only [List.drop_succ_cons, List.drop_zero, List.take_succ_cons, List.take_zero, List.getElem?_cons_succ, List.getElem?_cons_zero] at g0 g1 g2
  obtain ⟨v0, e0, _⟩ := DataW.trod_int Tryz.underlying223 g0
  obtain ⟨v1, e1, b1⟩ := open_str g1
  obtain ⟨l, A, c, rfl, hc, _, hI, hn, hb⟩ := open_legs g2
  have hy : Rows.uptoBulk y.1 = Rows.uptoBulkAll [y0.1, y1.1, y2.1] + 1 := by rw [hx]; simp [Rows.uptoBulk]
  have p1 : Rows.uptoBulk y1.1 ≤ Rows.uptoBulkAll [y0.1, y1.1, y2.1] := bulk_part (by simp)
  have p2 : Rows.uptoBulk y2.1 ≤ Rows.uptoBulkAll [y0.1, y1.1, y2.1] := bulk_part (by simp)
  simp only [List.cons.injEq, and_true] at e0
  refine ⟨⟨prtArr ⟨v0, v1, l⟩ A c, ⟨v0, v1, l⟩, rfl, ⟨⟨A, c, rfl, hc, hI⟩⟩⟩, ?_, ?_⟩
  · show [c0, c1, _] = _
    rw [e0, e1]
    rfl
  · exact ⟨by show v1.length ≤ _; omega, by show l.length ≤ _; omega, fun p hp => (hb p hp).mono (by omega)⟩
theorem open_prts {fuel : Nat} {v : Value} {y : DataW H × List MemPlace} (h : DataW.trod enc Tryz.prog w base spare held fuel 184 [v] = some y) :
    ∃ (l : List PartV) (A : Option Addr) (c : Nat), v = .slice A l.length c ∧ l.length ≤ c ∧ c ≤ maxLen ∧ PrtsAt w A l ∧ l.length ≤ Rows.uptoBulk y.1 ∧ ∀ x ∈ l, x.bnd (Rows.uptoBulk y.1) := by
  obtain ⟨l, A, c, e, hc, hm, hI, hn, hb⟩ := open_items (α := Cell w PartV 3 (PrtAt w)) Cell.cs (fun q N => q.v.bnd N) (fun x a b hab h => h.mono hab) Tryz.underlying184 cells_prtT (by omega) Cell.size (fun h => open_prt h) h
  refine ⟨l.map Cell.v, A, c, by simpa using e, by simpa using hc, hm, ⟨⟨l.map Cell.cs, (Cell.list l).1, hI, (Cell.list l).2⟩⟩, by simpa using hn, ?_⟩
  intro x hx
  obtain ⟨q, hq, rfl⟩ := List.mem_map.1 hx
  exact hb q hq
theorem open_prc {fuel : Nat} {cs : List Value} {y : DataW H × List MemPlace} (h : DataW.trod enc Tryz.prog w base spare held fuel 186 cs = some y) :
    ∃ q : Cell w ProcV 4 (PrcAt w), cs = q.cs.toList ∧ q.v.bnd (Rows.uptoBulk y.1) := by
  obtain ⟨xs, n, _, hx, hlen, hxl, hf⟩ := DataW.trod_struct Tryz.underlying186 h
  rw [cells_prcT] at hlen
  obtain ⟨c0, c1, c2, c3, rfl⟩ := list4G hlen
  obtain ⟨y0, y1, y2, y3, rfl⟩ := list4G hxl
  have g0 := fld hf 0 9 0 1 rfl cells_str
  have g1 := fld hf 1 9 1 1 rfl cells_str
  have g2 := fld hf 2 148 2 1 rfl cells_prkind
  have g3 := fld hf 3 184 3 1 rfl cells_prts
  simp only [List.drop_succ_cons, List.drop_zero, List.take_succ_cons, List.take_zero, List.getElem?_cons_succ, List.getElem?_cons_zero] at g0 g1 g2 g3
  obtain ⟨v0, e0, b0⟩ := open_str g0
  obtain ⟨v1, e1, b1⟩ := open_str g1
  obtain ⟨v2, e2, _⟩ := DataW.trod_int Tryz.underlying148 g2
  obtain ⟨l, A, c, rfl, hc, _, hI, hn, hb⟩ := open_prts g3
  have hy : Rows.uptoBulk y.1 = Rows.uptoBulkAll [y0.1, y1.1, y2.1, y3.1] + 1 := by rw [hx]; simp [Rows.uptoBulk]
  have p0 : Rows.uptoBulk y0.1 ≤ Rows.uptoBulkAll [y0.1, y1.1, y2.1, y3.1] := bulk_part (by simp)
  have p1 : Rows.uptoBulk y1.1 ≤ Rows.uptoBulkAll [y0.1, y1.1, y2.1, y3.1] := bulk_part (by simp)
  have p3 : Rows.uptoBulk y3.1 ≤ Rows.uptoBulkAll [y0.1, y1.1, y2.1, y3.1] := bulk_part (by simp)
  simp only [List.cons.injEq, and_true] at e2
  refine ⟨⟨prcArr ⟨v0, v1, v2, l⟩ A c, ⟨v0, v1, v2, l⟩, rfl, ⟨⟨A, c, rfl, hc, hI⟩⟩⟩, ?_, ?_⟩
  · show [c0, c1, c2, _] = _
    rw [e0, e1, e2]
    rfl
  · exact ⟨by show v0.length ≤ _; omega, by show v1.length ≤ _; omega, by show l.length ≤ _; omega, fun p hp => (hb p hp).mono (by omega)⟩
theorem open_prcs {fuel : Nat} {v : Value} {y : DataW H × List MemPlace} (h : DataW.trod enc Tryz.prog w base spare held fuel 46 [v] = some y) :
    ∃ (l : List ProcV) (A : Option Addr) (c : Nat), v = .slice A l.length c ∧ l.length ≤ c ∧ c ≤ maxLen ∧ PrcsAt w A l ∧ l.length ≤ Rows.uptoBulk y.1 ∧ ∀ x ∈ l, x.bnd (Rows.uptoBulk y.1) := by
  obtain ⟨l, A, c, e, hc, hm, hI, hn, hb⟩ := open_items (α := Cell w ProcV 4 (PrcAt w)) Cell.cs (fun q N => q.v.bnd N) (fun x a b hab h => h.mono hab) Tryz.underlying46 cells_prcT (by omega) Cell.size (fun h => open_prc h) h
  refine ⟨l.map Cell.v, A, c, by simpa using e, by simpa using hc, hm, ⟨⟨l.map Cell.cs, (Cell.list l).1, hI, (Cell.list l).2⟩⟩, by simpa using hn, ?_⟩
  intro x hx
  obtain ⟨q, hq, rfl⟩ := List.mem_map.1 hx
  exact hb q hq
end
structure GdAt (w : World) (d : DBs) (G : GDB) : Prop where
  db : DbAt w d G.fixes
  lat : d.lat = G.olat
  lon : d.lon = G.olon
  air : ∃ A c, d.cells[7]? = some (.slice A G.airways.length c) ∧ G.airways.length ≤ c ∧ AwysAt w A G.airways
  prc : ∃ A c, d.cells[8]? = some (.slice A G.procs.length c) ∧ G.procs.length ≤ c ∧ PrcsAt w A G.procs
  airN : G.airways.length ≤ 9000000000
  prcN : G.procs.length ≤ 9000000000
  airS : ∀ a ∈ G.airways, a.small
  prcS : ∀ p ∈ G.procs, p.small
theorem GdAt.below {w w' : World} {d : DBs} {G : GDB} (h : GdAt w d G) (hb : Below w.heap.size w w') : GdAt w' d G := by
  obtain ⟨A, c, h1, h2, h3⟩ := h.air
  obtain ⟨B, e, k1, k2, k3⟩ := h.prc
  exact ⟨h.db.below hb, h.lat, h.lon, ⟨A, c, h1, h2, h3.below hb⟩, ⟨B, e, k1, k2, k3.below hb⟩, h.airN, h.prcN, h.airS, h.prcS⟩
theorem AwyV.smallOf {a : AwyV} {N : Nat} (h : a.bnd N) (hN : N ≤ 4000000) : a.small := ⟨by have := h.1; omega, by have := h.2.1; omega, fun p hp => by have := h.2.2 p hp; unfold APt.bnd at this; omega⟩
theorem Leg.smallOfG {l : Leg} {N : Nat} (h : l.bnd N) (hN : N ≤ 4000000000) : l.small := ⟨by have := h.1; omega, by have := h.2; omega⟩
theorem PartV.smallOf {x : PartV} {N : Nat} (h : x.bnd N) (hN : N ≤ 4000000) : x.small := ⟨by have := h.1; omega, by have := h.2.1; omega, fun l hl => Leg.smallOfG (show l.bnd N from h.2.2 l hl) (by omega)⟩
theorem ProcV.smallOf {p : ProcV} {N : Nat} (h : p.bnd N) (hN : N ≤ 4000000) : p.small := ⟨by have := h.1; omega, by have := h.2.1; omega, by have := h.2.2.1; omega, fun x hx => PartV.smallOf (show x.bnd N from h.2.2.2 x hx) hN⟩
section
variable {H : Type} {enc : TypeId × Value → H} {w : World} {base : Nat} {spare : Nat → Bool} {held : Bool}
theorem open_gdb {fuel : Nat} {cs : List Value} {y : DataW H × List MemPlace} (h : DataW.trod enc Tryz.prog w base spare held fuel 48 cs = some y) (hN : Rows.uptoBulk y.1 ≤ 4000000) :
    ∃ (d : DBs) (G : GDB), cs = d.cells.toList ∧ GdAt w d G ∧ G.short := by
  obtain ⟨xs, n, _, hx, hlen, hxl, hf⟩ := DataW.trod_struct Tryz.underlying48 h
  rw [cells_db] at hlen
  obtain ⟨c0, c1, c2, c3, c4, c5, c6, c7, c8, rfl⟩ := list9 hlen
  obtain ⟨y0, y1, y2, y3, rfl⟩ := list4G hxl
  have g0 := fld hf 0 43 0 6 rfl cells_hdrG
  have g1 := fld hf 1 44 6 1 rfl cells_fixesG
  have g2 := fld hf 2 45 7 1 rfl cells_awys
  have g3 := fld hf 3 46 8 1 rfl cells_prcs
  simp only [List.drop_succ_cons, List.drop_zero, List.take_succ_cons, List.take_zero, List.getElem?_cons_succ, List.getElem?_cons_zero] at g0 g1 g2 g3
  obtain ⟨xs', n', _, hx', hlen', hxl', hf'⟩ := DataW.trod_struct Tryz.underlying43 g0
  obtain ⟨z0, z1, z2, z3, z4, rfl⟩ := list5 hxl'
  have q4 := fld hf' 4 41 4 2 rfl cells_posT
  simp only [List.drop_succ_cons, List.drop_zero, List.take_succ_cons, List.take_zero, List.getElem?_cons_succ, List.getElem?_cons_zero] at q4
  obtain ⟨a, b, e4⟩ := open_two Tryz.underlying41 cells_posT ⟨rfl, rfl⟩ ⟨rfl, rfl⟩ q4
  simp only [List.cons.injEq, and_true] at e4
  obtain ⟨l, A, c, rfl, hc, _, hI, hn, hb⟩ := open_fixes g1
  obtain ⟨l2, A2, e2, rfl, hc2, _, hI2, hn2, hb2⟩ := open_awys g2
  obtain ⟨l3, A3, e3, rfl, hc3, _, hI3, hn3, hb3⟩ := open_prcs g3
  have hy : Rows.uptoBulk y.1 = Rows.uptoBulkAll [y0.1, y1.1, y2.1, y3.1] + 1 := by rw [hx]; simp [Rows.uptoBulk]
  have p1 : Rows.uptoBulk y1.1 ≤ Rows.uptoBulkAll [y0.1, y1.1, y2.1, y3.1] := bulk_part (by simp)
  have p2 : Rows.uptoBulk y2.1 ≤ Rows.uptoBulkAll [y0.1, y1.1, y2.1, y3.1] := bulk_part (by simp)
  have p3 : Rows.uptoBulk y3.1 ≤ Rows.uptoBulkAll [y0.1, y1.1, y2.1, y3.1] := bulk_part (by simp)
  refine ⟨⟨#[c0, c1, c2, c3, c4, c5, .slice A l.length c, .slice A2 l2.length e2, .slice A3 l3.length e3], a, b, A, l.length, c⟩, ⟨a, b, l, l2, l3⟩, rfl, ?_⟩
  have hfs : ∀ f ∈ l, f.ident.length ≤ 1000000000 ∧ f.region.length ≤ 1000000000 := fun f hf => by
    have := hb f hf
    exact ⟨by have := this.1; omega, by have := this.2; omega⟩
  have has : ∀ x ∈ l2, x.small := fun x hx => AwyV.smallOf (show x.bnd _ from hb2 x hx) (by omega)
  have hps : ∀ x ∈ l3, x.small := fun x hx => ProcV.smallOf (show x.bnd _ from hb3 x hx) (by omega)
  refine ⟨⟨⟨⟨rfl, ?_, ?_, rfl⟩, rfl, hc, hI, by show l.length ≤ _; omega, fun f hf => ?_⟩, rfl, rfl, ⟨A2, e2, rfl, hc2, hI2⟩, ⟨A3, e3, rfl, hc3, hI3⟩, by show l2.length ≤ _; omega, by show l3.length ≤ _; omega, has, hps⟩, ⟨hfs, fun a ha => (has a ha).each, fun p hp x hx => ((hps p hp).each x hx).each⟩⟩
  · show some c4 = _; rw [e4.1]
  · show some c5 = _; rw [e4.2]
  · have := hb f hf
    exact ⟨by have := this.1; omega, by have := this.2; omega⟩
end
end Go.Proofs.YtlggdgpdfepppaaGreatDoor
namespace Go.Proofs.YtlggdgpdfepppaaGreatDoor
open Go.RowKit Go.ChangeShapes Go.WideShapes Go.Deep
set_option linter.unusedVariables false
set_option linter.unusedSimpArgs false
theorem cells_edt_1 : Tryz.prog.cellsOf 54 = 1 := by kernel_rfl
theorem cells_edt_2 : Tryz.prog.cellsOf 56 = 2 := by kernel_rfl
theorem cells_edt : Tryz.prog.cellsOf 58 = 12 := by kernel_rfl
def EditV.bnd (x : EditV) (N : Nat) : Prop := x.ref.length ≤ N ∧ x.name.length ≤ N ∧ x.rway.length ≤ N ∧ x.trans.length ≤ N
section
variable {H : Type} {enc : TypeId × Value → H} {w : World} {base : Nat} {spare : Nat → Bool} {held : Bool}
theorem list_n_edt {α : Type _} {l : List α} (h : l.length = 12) : ∃ x0 x1 x2 x3 x4 x5 x6 x7 x8 x9 x10 x11, l = [x0, x1, x2, x3, x4, x5, x6, x7, x8, x9, x10, x11] := by
  match l, h with
  | [x0, x1, x2, x3, x4, x5, x6, x7, x8, x9, x10, x11], _ => exact ⟨x0, x1, x2, x3, x4, x5, x6, x7, x8, x9, x10, x11, rfl⟩
theorem list_f_edt {α : Type _} {l : List α} (h : l.length = 11) : ∃ x0 x1 x2 x3 x4 x5 x6 x7 x8 x9 x10, l = [x0, x1, x2, x3, x4, x5, x6, x7, x8, x9, x10] := by
  match l, h with
  | [x0, x1, x2, x3, x4, x5, x6, x7, x8, x9, x10], _ => exact ⟨x0, x1, x2, x3, x4, x5, x6, x7, x8, x9, x10, rfl⟩
theorem open_edt {fuel : Nat} {cs : List Value} {y : DataW H × List MemPlace} (h : DataW.trod enc Tryz.prog w base spare held fuel 58 cs = some y) : ∃ x : EditV, cs = x.arr.toList ∧ x.bnd (Rows.uptoBulk y.1) := by
  obtain ⟨xs, n, _, hx, hlen, hxl, hf⟩ := DataW.trod_struct Tryz.underlying58 h
  rw [cells_edt] at hlen
  obtain ⟨c0, c1, c2, c3, c4, c5, c6, c7, c8, c9, c10, c11, rfl⟩ := list_n_edt hlen
  obtain ⟨y0, y1, y2, y3, y4, y5, y6, y7, y8, y9, y10, rfl⟩ := list_f_edt hxl
  have g0 := fld hf 0 54 0 1 rfl cells_edt_1
  have g1 := fld hf 1 3 1 1 rfl cells_int
  have g2 := fld hf 2 9 2 1 rfl cells_str
  have g3 := fld hf 3 9 3 1 rfl cells_str
  have g4 := fld hf 4 9 4 1 rfl cells_str
  have g5 := fld hf 5 9 5 1 rfl cells_str
  have g6 := fld hf 6 56 6 2 rfl cells_edt_2
  have g7 := fld hf 7 2 8 1 rfl cells_i64
  have g8 := fld hf 8 2 9 1 rfl cells_i64
  have g9 := fld hf 9 2 10 1 rfl cells_i64
  have g10 := fld hf 10 5 11 1 rfl cells_u8
  simp only [List.drop_succ_cons, List.drop_zero, List.take_succ_cons, List.take_zero, List.getElem?_cons_succ, List.getElem?_cons_zero] at g0 g1 g2 g3 g4 g5 g6 g7 g8 g9 g10
  obtain ⟨v0, e0, _⟩ := DataW.trod_int Tryz.underlying54 g0
  obtain ⟨v1, e1, _⟩ := DataW.trod_int Tryz.underlying3 g1
  obtain ⟨v2, e2, b2⟩ := open_str g2
  obtain ⟨v3, e3, b3⟩ := open_str g3
  obtain ⟨v4, e4, b4⟩ := open_str g4
  obtain ⟨v5, e5, b5⟩ := open_str g5
  obtain ⟨v6, v6', e6⟩ := open_two Tryz.underlying56 cells_edt_2 ⟨rfl, rfl⟩ ⟨rfl, rfl⟩ g6
  obtain ⟨v7, e7, _⟩ := DataW.trod_int Tryz.underlying2 g7
  obtain ⟨v8, e8, _⟩ := DataW.trod_int Tryz.underlying2 g8
  obtain ⟨v9, e9, _⟩ := DataW.trod_int Tryz.underlying2 g9
  obtain ⟨v10, e10, _⟩ := DataW.trod_int Tryz.underlying5 g10
  simp only [List.cons.injEq, and_true] at e0 e1 e7 e8 e9 e10
  have hy : Rows.uptoBulk y.1 = Rows.uptoBulkAll [y0.1, y1.1, y2.1, y3.1, y4.1, y5.1, y6.1, y7.1, y8.1, y9.1, y10.1] + 1 := by rw [hx]; simp [Rows.uptoBulk]
  have p2 : Rows.uptoBulk y2.1 ≤ Rows.uptoBulkAll [y0.1, y1.1, y2.1, y3.1, y4.1, y5.1, y6.1, y7.1, y8.1, y9.1, y10.1] := bulk_part (by simp)
  have p3 : Rows.uptoBulk y3.1 ≤ Rows.uptoBulkAll [y0.1, y1.1, y2.1, y3.1, y4.1, y5.1, y6.1, y7.1, y8.1, y9.1, y10.1] := bulk_part (by simp)
  have p4 : Rows.uptoBulk y4.1 ≤ Rows.uptoBulkAll [y0.1, y1.1, y2.1, y3.1, y4.1, y5.1, y6.1, y7.1, y8.1, y9.1, y10.1] := bulk_part (by simp)
  have p5 : Rows.uptoBulk y5.1 ≤ Rows.uptoBulkAll [y0.1, y1.1, y2.1, y3.1, y4.1, y5.1, y6.1, y7.1, y8.1, y9.1, y10.1] := bulk_part (by simp)
  refine ⟨⟨v0, v1, v2, v3, v4, v5, v6, v6', v7, v8, v9, v10⟩, ?_, ?_⟩
  · have e : [c0, c1, c2, c3, c4, c5, c6, c7, c8, c9, c10, c11] = [c0] ++ [c1] ++ [c2] ++ [c3] ++ [c4] ++ [c5] ++ [c6, c7] ++ [c8] ++ [c9] ++ [c10] ++ [c11] := rfl
    rw [e, e0, e1, e2, e3, e4, e5, e6, e7, e8, e9, e10]
    rfl
  · exact ⟨by show v2.length ≤ _; omega, by show v3.length ≤ _; omega, by show v4.length ≤ _; omega, by show v5.length ≤ _; omega⟩
end
theorem EditV.bnd.mono {x : EditV} {a b : Nat} (h : x.bnd a) (hab : a ≤ b) : x.bnd b := ⟨Nat.le_trans h.1 hab, Nat.le_trans h.2.1 hab, Nat.le_trans h.2.2.1 hab, Nat.le_trans h.2.2.2 hab⟩
end Go.Proofs.YtlggdgpdfepppaaGreatDoor
namespace Go.Proofs.YtlggdgpdfepppaaGreatDoor
open Go.RowKit Go.ChangeShapes Go.WideShapes Go.Deep
set_option linter.unusedVariables false
set_option linter.unusedSimpArgs false
theorem cells_act : Tryz.prog.cellsOf 68 = 18 := by kernel_rfl
theorem cells_edtA : Tryz.prog.cellsOf 58 = 12 := by kernel_rfl
theorem cells_planA : Tryz.prog.cellsOf 24 = 4 := by kernel_rfl
def actArr (a : ActV) (A : Option Addr) (c : Nat) : Array Value :=
  #[.int .u8 a.kind, .int .u8 a.e.op, .int .i64 a.e.at_, .string ⟨a.e.ref.toArray⟩, .string ⟨a.e.name.toArray⟩, .string ⟨a.e.rway.toArray⟩, .string ⟨a.e.trans.toArray⟩, .int .i64 a.e.lo, .int .i64 a.e.hi, .int .i64 a.e.speed, .int .i64 a.e.course, .int .i64 a.e.dist, .int .u8 a.e.turn,
    .int .i64 a.to_, .string ⟨a.plan.from_.toArray⟩, .string ⟨a.plan.to_.toArray⟩, .slice A a.plan.es.length c, .int .i64 a.plan.active]
structure ActAt (w : World) (cs : Array Value) (a : ActV) : Prop where
  ex : ∃ A c, cs = actArr a A c ∧ a.plan.es.length ≤ c ∧ Ents w A a.plan.es
structure ActsAt (w : World) (A : Option Addr) (l : List ActV) : Prop where
  ex : ∃ css : List (Array Value), css.length = l.length ∧ Items w A 18 css ∧ ∀ (i : Nat) (cs : Array Value) (x : ActV), css[i]? = some cs → l[i]? = some x → ActAt w cs x
def Plan.bnd (p : Plan) (N : Nat) : Prop := p.from_.length ≤ N ∧ p.to_.length ≤ N ∧ p.es.length ≤ N ∧ ∀ x ∈ p.es, x.leg.fix.length ≤ N ∧ x.leg.center.length ≤ N ∧ x.via.length ≤ N
def ActV.bnd (a : ActV) (N : Nat) : Prop := (0 ≤ a.kind ∧ a.kind ≤ 255) ∧ a.e.bnd N ∧ a.plan.bnd N
theorem Plan.bnd.mono {p : Plan} {a b : Nat} (h : p.bnd a) (hab : a ≤ b) : p.bnd b :=
  ⟨Nat.le_trans h.1 hab, Nat.le_trans h.2.1 hab, Nat.le_trans h.2.2.1 hab, fun x hx => by obtain ⟨q1, q2, q3⟩ := h.2.2.2 x hx; exact ⟨by omega, by omega, by omega⟩⟩
theorem ActV.bnd.mono {x : ActV} {a b : Nat} (h : x.bnd a) (hab : a ≤ b) : x.bnd b := ⟨h.1, h.2.1.mono hab, h.2.2.mono hab⟩
theorem Plan.bnd.small {p : Plan} {N : Nat} (h : p.bnd N) (hN : N ≤ 4000000000) : p.small :=
  ⟨Nat.le_trans h.1 hN, Nat.le_trans h.2.1 hN, Nat.le_trans h.2.2.1 hN, fun x hx => by obtain ⟨q1, q2, q3⟩ := h.2.2.2 x hx; exact ⟨⟨by omega, by omega⟩, by omega⟩⟩
theorem list18 {α : Type _} {l : List α} (h : l.length = 18) : ∃ x0 x1 x2 x3 x4 x5 x6 x7 x8 x9 x10 x11 x12 x13 x14 x15 x16 x17, l = [x0, x1, x2, x3, x4, x5, x6, x7, x8, x9, x10, x11, x12, x13, x14, x15, x16, x17] := by
  match l, h with
  | [x0, x1, x2, x3, x4, x5, x6, x7, x8, x9, x10, x11, x12, x13, x14, x15, x16, x17], _ => exact ⟨x0, x1, x2, x3, x4, x5, x6, x7, x8, x9, x10, x11, x12, x13, x14, x15, x16, x17, rfl⟩
section
variable {H : Type} {enc : TypeId × Value → H} {w : World} {base : Nat} {spare : Nat → Bool} {held : Bool}
theorem open_planN {fuel : Nat} {cs : List Value} {y : DataW H × List MemPlace} (h : DataW.trod enc Tryz.prog w base spare held fuel 24 cs = some y) :
    ∃ (p : Plan) (A : Option Addr) (c : Nat), cs = (p.arr A c).toList ∧ p.es.length ≤ c ∧ Ents w A p.es ∧ p.bnd (Rows.uptoBulk y.1) := by
  obtain ⟨xs, n, _, hx, hlen, hxl, hf⟩ := DataW.trod_struct Tryz.underlying24 h
  rw [cells_planA] at hlen
  obtain ⟨c0, c1, c2, c3, rfl⟩ := list4 hlen
  obtain ⟨y0, y1, y2, y3, rfl⟩ := list4 hxl
  have g0 := fld hf 0 9 0 1 rfl cells_str
  have g1 := fld hf 1 9 1 1 rfl cells_str
  have g2 := fld hf 2 22 2 1 rfl cells_es
  have g3 := fld hf 3 3 3 1 rfl cells_int
  simp only [List.drop_succ_cons, List.drop_zero, List.take_succ_cons, List.take_zero, List.getElem?_cons_succ, List.getElem?_cons_zero] at g0 g1 g2 g3
  obtain ⟨s0, e0, b0⟩ := open_str g0
  obtain ⟨s1, e1, b1⟩ := open_str g1
  obtain ⟨es, A, c, e2, hc, hE, b2, b3⟩ := open_ents g2
  obtain ⟨k, e3, _⟩ := DataW.trod_int Tryz.underlying3 g3
  simp only [List.cons.injEq, and_true] at e3
  have hy : Rows.uptoBulk y.1 = Rows.uptoBulkAll [y0.1, y1.1, y2.1, y3.1] + 1 := by rw [hx]; simp [Rows.uptoBulk]
  have p0 : Rows.uptoBulk y0.1 ≤ Rows.uptoBulkAll [y0.1, y1.1, y2.1, y3.1] := bulk_part (by simp)
  have p1 : Rows.uptoBulk y1.1 ≤ Rows.uptoBulkAll [y0.1, y1.1, y2.1, y3.1] := bulk_part (by simp)
  have p2 : Rows.uptoBulk y2.1 ≤ Rows.uptoBulkAll [y0.1, y1.1, y2.1, y3.1] := bulk_part (by simp)
  refine ⟨⟨s0, s1, es, k⟩, A, c, ?_, hc, hE, ?_⟩
  · rw [e0, e1, e2, e3]; rfl
  · exact ⟨by show s0.length ≤ _; omega, by show s1.length ≤ _; omega, by show es.length ≤ _; omega, fun x hx' => by obtain ⟨q1, q2, q3⟩ := b3 x hx'; exact ⟨by omega, by omega, by omega⟩⟩
theorem open_act {fuel : Nat} {cs : List Value} {y : DataW H × List MemPlace} (h : DataW.trod enc Tryz.prog w base spare held fuel 68 cs = some y) :
    ∃ q : Cell w ActV 18 (ActAt w), cs = q.cs.toList ∧ q.v.bnd (Rows.uptoBulk y.1) := by
  obtain ⟨xs, n, _, hx, hlen, hxl, hf⟩ := DataW.trod_struct Tryz.underlying68 h
  rw [cells_act] at hlen
  obtain ⟨c0, c1, c2, c3, c4, c5, c6, c7, c8, c9, c10, c11, c12, c13, c14, c15, c16, c17, rfl⟩ := list18 hlen
  obtain ⟨y0, y1, y2, y3, rfl⟩ := list4G hxl
  have g0 := fld hf 0 5 0 1 rfl cells_u8
  have g1 := fld hf 1 58 1 12 rfl cells_edtA
  have g2 := fld hf 2 3 13 1 rfl cells_int
  have g3 := fld hf 3 24 14 4 rfl cells_planA
  simp only [List.drop_succ_cons, List.drop_zero, List.take_succ_cons, List.take_zero, List.getElem?_cons_succ, List.getElem?_cons_zero] at g0 g1 g2 g3
  obtain ⟨v0, e0, _, wf⟩ := DataW.trod_int Tryz.underlying5 g0
  obtain ⟨v1, e1, b1⟩ := open_edt g1
  obtain ⟨v2, e2, _⟩ := DataW.trod_int Tryz.underlying3 g2
  obtain ⟨v3, A, c, e3, hc, hE, b3⟩ := open_planN g3
  simp only [List.cons.injEq, and_true] at e0 e2
  have hy : Rows.uptoBulk y.1 = Rows.uptoBulkAll [y0.1, y1.1, y2.1, y3.1] + 1 := by rw [hx]; simp [Rows.uptoBulk]
  have p1 : Rows.uptoBulk y1.1 ≤ Rows.uptoBulkAll [y0.1, y1.1, y2.1, y3.1] := bulk_part (by simp)
  have p3 : Rows.uptoBulk y3.1 ≤ Rows.uptoBulkAll [y0.1, y1.1, y2.1, y3.1] := bulk_part (by simp)
  refine ⟨⟨actArr ⟨v0, v1, v2, v3⟩ A c, ⟨v0, v1, v2, v3⟩, rfl, ⟨⟨A, c, rfl, hc, hE⟩⟩⟩, ?_, ?_⟩
  · have e : [c0, c1, c2, c3, c4, c5, c6, c7, c8, c9, c10, c11, c12, c13, c14, c15, c16, c17] = [c0] ++ [c1, c2, c3, c4, c5, c6, c7, c8, c9, c10, c11, c12] ++ [c13] ++ [c14, c15, c16, c17] := rfl
    rw [e, e0, e1, e2, e3]
    rfl
  · exact ⟨Go.bounds_u8 wf, b1.mono (by omega), b3.mono (by omega)⟩
theorem open_acts {fuel : Nat} {v : Value} {y : DataW H × List MemPlace} (h : DataW.trod enc Tryz.prog w base spare held fuel 66 [v] = some y) :
    ∃ (l : List ActV) (A : Option Addr) (c : Nat), v = .slice A l.length c ∧ l.length ≤ c ∧ c ≤ maxLen ∧ ActsAt w A l ∧ l.length ≤ Rows.uptoBulk y.1 ∧ ∀ x ∈ l, x.bnd (Rows.uptoBulk y.1) := by
  obtain ⟨l, A, c, e, hc, hm, hI, hn, hb⟩ := open_items (α := Cell w ActV 18 (ActAt w)) Cell.cs (fun q N => q.v.bnd N) (fun x a b hab h => h.mono hab) Tryz.underlying66 cells_act (by omega) Cell.size (fun h => open_act h) h
  refine ⟨l.map Cell.v, A, c, by simpa using e, by simpa using hc, hm, ⟨⟨l.map Cell.cs, (Cell.list l).1, hI, (Cell.list l).2⟩⟩, by simpa using hn, ?_⟩
  intro x hx
  obtain ⟨q, hq, rfl⟩ := List.mem_map.1 hx
  exact hb q hq
set_option maxRecDepth 100000 in
theorem open_actsT {r : Reach} {b0 : Nat} {v : Value} {d : DataW H} {ps : List MemPlace} (hv : Value.okWide Tryz.prog w r b0 66 v) (h : DataW.Trod enc Tryz.prog w base spare held 66 v d ps) :
    ∃ (l : List ActV) (A : Option Addr) (c : Nat), v = .slice A l.length c ∧ l.length ≤ c ∧ ActsAt w A l ∧ l.length ≤ Rows.uptoBulk d ∧ ∀ x ∈ l, x.bnd (Rows.uptoBulk d) := by
  obtain ⟨fuel, hf⟩ := h
  obtain ⟨a0, l0, c0, rfl⟩ := okWide_slice Tryz.underlying66 hv
  have hc1 : (Value.slice a0 l0 c0).cells.toList = [.slice a0 l0 c0] := rfl
  rw [hc1] at hf
  obtain ⟨l, A, c, e, hc, _, hI, b1, b2⟩ := open_acts hf
  exact ⟨l, A, c, e, hc, hI, b1, b2⟩
set_option maxRecDepth 100000 in
theorem open_edtsT {r : Reach} {b0 : Nat} {v : Value} {d : DataW H} {ps : List MemPlace} (hv : Value.okWide Tryz.prog w r b0 49 v) (h : DataW.Trod enc Tryz.prog w base spare held 49 v d ps) :
    ∃ (l : List EditV) (A : Option Addr) (c : Nat), v = .slice A l.length c ∧ l.length ≤ c ∧ Items w A 12 (l.map EditV.arr) ∧ l.length ≤ Rows.uptoBulk d ∧ ∀ x ∈ l, x.bnd (Rows.uptoBulk d) := by
  obtain ⟨fuel, hf⟩ := h
  obtain ⟨a0, l0, c0, rfl⟩ := okWide_slice Tryz.underlying49 hv
  have hc1 : (Value.slice a0 l0 c0).cells.toList = [.slice a0 l0 c0] := rfl
  rw [hc1] at hf
  obtain ⟨l, A, c, e, hc, _, hI, b1, b2⟩ := open_items EditV.arr EditV.bnd (fun x a b hab h => h.mono hab) Tryz.underlying49 cells_edtA (by omega) EditV.arr_sz (fun h => open_edt h) hf
  exact ⟨l, A, c, e, hc, hI, b1, b2⟩
end
end Go.Proofs.YtlggdgpdfepppaaGreatDoor
