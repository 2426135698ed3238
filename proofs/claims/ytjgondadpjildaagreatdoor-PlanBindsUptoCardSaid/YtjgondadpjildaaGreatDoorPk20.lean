/- Databases, fixes and legs opened out of their readings. -/
import Derived.Test.YtjgondadpjildaaGreatDoorPk17
import Derived.Test.YtjgondadpjildaaGreatDoorPk19
namespace Go.Proofs.YtjgondadpjildaaGreatDoor
open Go.RowKit Go.ChangeShapes Go.WideShapes Go.Deep
set_option linter.unusedVariables false
set_option linter.unusedSimpArgs false
theorem cells_fixv_1 : Tryz.prog.cellsOf 67 = 1 := by kernel_rfl
theorem cells_fixv_2 : Tryz.prog.cellsOf 23 = 2 := by kernel_rfl
theorem cells_fixv : Tryz.prog.cellsOf 69 = 7 := by kernel_rfl
def FixV.bnd (x : FixV) (N : Nat) : Prop := x.ident.length ≤ N ∧ x.region.length ≤ N
section
variable {H : Type} {enc : TypeId × Value → H} {w : World} {base : Nat} {spare : Nat → Bool} {held : Bool}
theorem list_n_fixv {α : Type _} {l : List α} (h : l.length = 7) : ∃ x0 x1 x2 x3 x4 x5 x6, l = [x0, x1, x2, x3, x4, x5, x6] := by
  match l, h with
  | [x0, x1, x2, x3, x4, x5, x6], _ => exact ⟨x0, x1, x2, x3, x4, x5, x6, rfl⟩
theorem list_f_fixv {α : Type _} {l : List α} (h : l.length = 6) : ∃ x0 x1 x2 x3 x4 x5, l = [x0, x1, x2, x3, x4, x5] := by
  match l, h with
  | [x0, x1, x2, x3, x4, x5], _ => exact ⟨x0, x1, x2, x3, x4, x5, rfl⟩
theorem open_fixv {fuel : Nat} {cs : List Value} {y : DataW H × List MemPlace} (h : DataW.trod enc Tryz.prog w base spare held fuel 69 cs = some y) : ∃ x : FixV, cs = x.arr.toList ∧ x.bnd (Rows.uptoBulk y.1) := by
  obtain ⟨xs, n, _, hx, hlen, hxl, hf⟩ := DataW.trod_struct Tryz.underlying69 h
  rw [cells_fixv] at hlen
  obtain ⟨c0, c1, c2, c3, c4, c5, c6, rfl⟩ := list_n_fixv hlen
  obtain ⟨y0, y1, y2, y3, y4, y5, rfl⟩ := list_f_fixv hxl
  have g0 := fld hf 0 9 0 1 rfl cells_str
  have g1 := fld hf 1 9 1 1 rfl cells_str
  have g2 := fld hf 2 67 2 1 rfl cells_fixv_1
  have g3 := fld hf 3 23 3 2 rfl cells_fixv_2
  have g4 := fld hf 4 2 5 1 rfl cells_i64
  have g5 := fld hf 5 2 6 1 rfl cells_i64
  simp only [List.drop_succ_cons, List.drop_zero, List.take_succ_cons, List.take_zero, List.getElem?_cons_succ, List.getElem?_cons_zero] at g0 g1 g2 g3 g4 g5
  obtain ⟨v0, e0, b0⟩ := open_str g0
  obtain ⟨v1, e1, b1⟩ := open_str g1
  obtain ⟨v2, e2, _⟩ := DataW.trod_int Tryz.underlying67 g2
  obtain ⟨v3, v3', e3⟩ := open_two Tryz.underlying23 cells_fixv_2 ⟨rfl, rfl⟩ ⟨rfl, rfl⟩ g3
  obtain ⟨v4, e4, _⟩ := DataW.trod_int Tryz.underlying2 g4
  obtain ⟨v5, e5, _⟩ := DataW.trod_int Tryz.underlying2 g5
  simp only [List.cons.injEq, and_true] at e2 e4 e5
  have hy : Rows.uptoBulk y.1 = Rows.uptoBulkAll [y0.1, y1.1, y2.1, y3.1, y4.1, y5.1] + 1 := by rw [hx]; simp [Rows.uptoBulk]
  have p0 : Rows.uptoBulk y0.1 ≤ Rows.uptoBulkAll [y0.1, y1.1, y2.1, y3.1, y4.1, y5.1] := bulk_part (by simp)
  have p1 : Rows.uptoBulk y1.1 ≤ Rows.uptoBulkAll [y0.1, y1.1, y2.1, y3.1, y4.1, y5.1] := bulk_part (by simp)
  refine ⟨⟨v0, v1, v2, v3, v3', v4, v5⟩, ?_, ?_⟩
  · have e : [c0, c1, c2, c3, c4, c5, c6] = [c0] ++ [c1] ++ [c2] ++ [c3, c4] ++ [c5] ++ [c6] := rfl
    rw [e, e0, e1, e2, e3, e4, e5]
    rfl
  · exact ⟨by show v0.length ≤ _; omega, by show v1.length ≤ _; omega⟩
end
theorem FixV.bnd.mono {x : FixV} {a b : Nat} (h : x.bnd a) (hab : a ≤ b) : x.bnd b := ⟨Nat.le_trans h.1 hab, Nat.le_trans h.2 hab⟩
theorem cells_hdr : Tryz.prog.cellsOf 25 = 6 := by kernel_rfl
theorem cells_posT : Tryz.prog.cellsOf 23 = 2 := by kernel_rfl
theorem cells_fixes : Tryz.prog.cellsOf 26 = 1 := by kernel_rfl
theorem cells_db : Tryz.prog.cellsOf 30 = 9 := by kernel_rfl
theorem list9 {α : Type _} {l : List α} (h : l.length = 9) : ∃ x0 x1 x2 x3 x4 x5 x6 x7 x8, l = [x0, x1, x2, x3, x4, x5, x6, x7, x8] := by
  match l, h with
  | [x0, x1, x2, x3, x4, x5, x6, x7, x8], _ => exact ⟨x0, x1, x2, x3, x4, x5, x6, x7, x8, rfl⟩
section
variable {H : Type} {enc : TypeId × Value → H} {w : World} {base : Nat} {spare : Nat → Bool} {held : Bool}
theorem list5 {α : Type _} {l : List α} (h : l.length = 5) : ∃ x0 x1 x2 x3 x4, l = [x0, x1, x2, x3, x4] := by
  match l, h with
  | [x0, x1, x2, x3, x4], _ => exact ⟨x0, x1, x2, x3, x4, rfl⟩
theorem open_fixes {fuel : Nat} {v : Value} {y : DataW H × List MemPlace} (h : DataW.trod enc Tryz.prog w base spare held fuel 26 [v] = some y) :
    ∃ (l : List FixV) (A : Option Addr) (c : Nat), v = .slice A l.length c ∧ l.length ≤ c ∧ c ≤ maxLen ∧ Items w A 7 (l.map FixV.arr) ∧ l.length ≤ Rows.uptoBulk y.1 ∧ ∀ x ∈ l, x.bnd (Rows.uptoBulk y.1) :=
  open_items FixV.arr FixV.bnd (fun x a b hab h => h.mono hab) Tryz.underlying26 cells_fixv (by omega) FixV.arr_sz (fun h => open_fixv h) h
/-- A database: its origin, its fixes. -/
theorem open_db {fuel : Nat} {cs : List Value} {y : DataW H × List MemPlace} (h : DataW.trod enc Tryz.prog w base spare held fuel 30 cs = some y) :
    ∃ (d : DBs) (l : List FixV), cs = d.cells.toList ∧ d.Ok ∧ d.fn = l.length ∧ l.length ≤ d.fc ∧ Items w d.fa 7 (l.map FixV.arr) ∧ l.length ≤ Rows.uptoBulk y.1 ∧ ∀ x ∈ l, x.bnd (Rows.uptoBulk y.1) := by
  obtain ⟨xs, n, _, hx, hlen, hxl, hf⟩ := DataW.trod_struct Tryz.underlying30 h
  rw [cells_db] at hlen
  obtain ⟨c0, c1, c2, c3, c4, c5, c6, c7, c8, rfl⟩ := list9 hlen
  obtain ⟨y0, y1, y2, y3, rfl⟩ := list4 hxl
  have g0 := fld hf 0 25 0 6 rfl cells_hdr
  have g1 := fld hf 1 26 6 1 rfl cells_fixes
  simp only [List.drop_succ_cons, List.drop_zero, List.take_succ_cons, List.take_zero, List.getElem?_cons_succ, List.getElem?_cons_zero] at g0 g1
  obtain ⟨xs', n', _, hx', hlen', hxl', hf'⟩ := DataW.trod_struct Tryz.underlying25 g0
  obtain ⟨z0, z1, z2, z3, z4, rfl⟩ := list5 hxl'
  have q4 := fld hf' 4 23 4 2 rfl cells_posT
  simp only [List.drop_succ_cons, List.drop_zero, List.take_succ_cons, List.take_zero, List.getElem?_cons_succ, List.getElem?_cons_zero] at q4
  obtain ⟨a, b, e4⟩ := open_two Tryz.underlying23 cells_posT ⟨rfl, rfl⟩ ⟨rfl, rfl⟩ q4
  simp only [List.cons.injEq, and_true] at e4
  obtain ⟨l, A, c, rfl, hc, _, hI, hn, hb⟩ := open_fixes g1
  have hy : Rows.uptoBulk y.1 = Rows.uptoBulkAll [y0.1, y1.1, y2.1, y3.1] + 1 := by rw [hx]; simp [Rows.uptoBulk]
  have p1 : Rows.uptoBulk y1.1 ≤ Rows.uptoBulkAll [y0.1, y1.1, y2.1, y3.1] := bulk_part (by simp)
  refine ⟨⟨#[c0, c1, c2, c3, c4, c5, .slice A l.length c, c7, c8], a, b, A, l.length, c⟩, l, rfl, ⟨rfl, ?_, ?_, rfl⟩, rfl, hc, hI, by omega, fun x hx => (hb x hx).mono (by omega)⟩
  · show some c4 = _; rw [e4.1]
  · show some c5 = _; rw [e4.2]
def Leg.bnd (l : Leg) (N : Nat) : Prop := l.fix.length ≤ N ∧ l.center.length ≤ N
theorem open_legs {fuel : Nat} {v : Value} {y : DataW H × List MemPlace} (h : DataW.trod enc Tryz.prog w base spare held fuel 31 [v] = some y) :
    ∃ (l : List Leg) (A : Option Addr) (c : Nat), v = .slice A l.length c ∧ l.length ≤ c ∧ c ≤ maxLen ∧ Items w A 13 (l.map Leg.arr) ∧ l.length ≤ Rows.uptoBulk y.1 ∧ ∀ x ∈ l, x.bnd (Rows.uptoBulk y.1) :=
  open_items Leg.arr Leg.bnd (fun x a b hab h => ⟨Nat.le_trans h.1 hab, Nat.le_trans h.2 hab⟩) Tryz.underlying31 cells_leg (by omega) (fun _ => rfl) (fun h => by obtain ⟨l, e, b1, b2⟩ := open_leg h; exact ⟨l, e, b1, b2⟩) h
end
end Go.Proofs.YtjgondadpjildaaGreatDoor
