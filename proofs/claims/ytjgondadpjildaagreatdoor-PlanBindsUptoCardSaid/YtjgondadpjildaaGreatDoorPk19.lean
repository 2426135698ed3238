/- The arguments of the statements opened: entries, slices of entries, plans out of their readings; the bound on what is read. -/
import Derived.Test.YtjgondadpjildaaGreatDoorPk12
import Derived.Test.YtjgondadpjildaaGreatDoorPk01
import Derived.Test.YtjgondadpjildaaGreatDoorPk18
import Derived.OpenShut
import Derived.Deep.Slices
import Derived.Deep.Fields
import Derived.ChangeSame
namespace Go.Proofs.YtjgondadpjildaaGreatDoor
open Go.RowKit Go.ChangeShapes Go.WideShapes Go.Deep
set_option linter.unusedVariables false
set_option linter.unusedSimpArgs false
theorem cells_lt : Tryz.prog.cellsOf 32 = 1 := by kernel_rfl
theorem cells_sec : Tryz.prog.cellsOf 39 = 1 := by kernel_rfl
theorem cells_win : Tryz.prog.cellsOf 34 = 2 := by kernel_rfl
theorem cells_pt : Tryz.prog.cellsOf 38 = 2 := by kernel_rfl
theorem cells_leg : Tryz.prog.cellsOf 36 = 13 := by kernel_rfl
theorem cells_ent : Tryz.prog.cellsOf 41 = 20 := by kernel_rfl
theorem cells_es : Tryz.prog.cellsOf 43 = 1 := by kernel_rfl
theorem cells_plan : Tryz.prog.cellsOf 52 = 4 := by kernel_rfl
section
variable {H : Type} {enc : TypeId × Value → H} {w : World} {base : Nat} {spare : Nat → Bool} {held : Bool}
theorem open_leg {fuel : Nat} {cs : List Value} {y : DataW H × List MemPlace} (h : DataW.trod enc Tryz.prog w base spare held fuel 36 cs = some y) : ∃ l : Leg, cs = l.arr.toList ∧ l.fix.length ≤ Rows.uptoBulk y.1 ∧ l.center.length ≤ Rows.uptoBulk y.1 := by
  obtain ⟨xs, n, _, hx, hlen, hxl, hf⟩ := DataW.trod_struct Tryz.underlying36 h
  rw [cells_leg] at hlen
  obtain ⟨c0, c1, c2, c3, c4, c5, c6, c7, c8, c9, c10, c11, c12, rfl⟩ := list13 hlen
  obtain ⟨y0, y1, y2, y3, y4, y5, y6, y7, y8, y9, y10, y11, rfl⟩ := list12 hxl
  have g0 := fld hf 0 32 0 1 rfl cells_lt
  have g1 := fld hf 1 9 1 1 rfl cells_str
  have g2 := fld hf 2 9 2 1 rfl cells_str
  have g3 := fld hf 3 5 3 1 rfl cells_u8
  have g4 := fld hf 4 4 4 1 rfl cells_bool
  have g5 := fld hf 5 2 5 1 rfl cells_i64
  have g6 := fld hf 6 2 6 1 rfl cells_i64
  have g7 := fld hf 7 2 7 1 rfl cells_i64
  have g8 := fld hf 8 2 8 1 rfl cells_i64
  have g9 := fld hf 9 34 9 2 rfl cells_win
  have g10 := fld hf 10 2 11 1 rfl cells_i64
  have g11 := fld hf 11 2 12 1 rfl cells_i64
  simp only [List.drop_succ_cons, List.drop_zero, List.take_succ_cons, List.take_zero, List.getElem?_cons_succ, List.getElem?_cons_zero] at g0 g1 g2 g3 g4 g5 g6 g7 g8 g9 g10 g11
  obtain ⟨v0, e0, _⟩ := DataW.trod_int Tryz.underlying32 g0
  obtain ⟨v1, e1, b1⟩ := open_str g1
  obtain ⟨v2, e2, b2⟩ := open_str g2
  obtain ⟨v3, e3, _⟩ := DataW.trod_int Tryz.underlying5 g3
  obtain ⟨v4, e4, _⟩ := DataW.trod_bool Tryz.underlying4 g4
  obtain ⟨v5, e5, _⟩ := DataW.trod_int Tryz.underlying2 g5
  obtain ⟨v6, e6, _⟩ := DataW.trod_int Tryz.underlying2 g6
  obtain ⟨v7, e7, _⟩ := DataW.trod_int Tryz.underlying2 g7
  obtain ⟨v8, e8, _⟩ := DataW.trod_int Tryz.underlying2 g8
  obtain ⟨v9, v10, e9⟩ := open_two Tryz.underlying34 cells_win ⟨rfl, rfl⟩ ⟨rfl, rfl⟩ g9
  obtain ⟨v11, e11, _⟩ := DataW.trod_int Tryz.underlying2 g10
  obtain ⟨v12, e12, _⟩ := DataW.trod_int Tryz.underlying2 g11
  simp only [List.cons.injEq, and_true] at e0 e3 e4 e5 e6 e7 e8 e9 e11 e12
  obtain ⟨e9, e10⟩ := e9
  have hy : Rows.uptoBulk y.1 = Rows.uptoBulkAll [y0.1, y1.1, y2.1, y3.1, y4.1, y5.1, y6.1, y7.1, y8.1, y9.1, y10.1, y11.1] + 1 := by rw [hx]; simp [Rows.uptoBulk]
  have p1 : Rows.uptoBulk y1.1 ≤ Rows.uptoBulkAll [y0.1, y1.1, y2.1, y3.1, y4.1, y5.1, y6.1, y7.1, y8.1, y9.1, y10.1, y11.1] := bulk_part (by simp)
  have p2 : Rows.uptoBulk y2.1 ≤ Rows.uptoBulkAll [y0.1, y1.1, y2.1, y3.1, y4.1, y5.1, y6.1, y7.1, y8.1, y9.1, y10.1, y11.1] := bulk_part (by simp)
  refine ⟨⟨v0, v1, v2, v3, v4, v5, v6, v7, v8, v9, v10, v11, v12⟩, ?_, ?_, ?_⟩
  · rw [e0, e1, e2, e3, e4, e5, e6, e7, e8, e9, e10, e11, e12]; rfl
  · show v1.length ≤ _; omega
  · show v2.length ≤ _; omega
theorem open_ent {fuel : Nat} {cs : List Value} {y : DataW H × List MemPlace} (h : DataW.trod enc Tryz.prog w base spare held fuel 41 cs = some y) :
    ∃ x : Entry, cs = x.arr.toList ∧ x.leg.fix.length ≤ Rows.uptoBulk y.1 ∧ x.leg.center.length ≤ Rows.uptoBulk y.1 ∧ x.via.length ≤ Rows.uptoBulk y.1 := by
  obtain ⟨xs, n, _, hx, hlen, hxl, hf⟩ := DataW.trod_struct Tryz.underlying41 h
  rw [cells_ent] at hlen
  obtain ⟨c0, c1, c2, c3, c4, c5, c6, c7, c8, c9, c10, c11, c12, c13, c14, c15, c16, c17, c18, c19, rfl⟩ := list20 hlen
  obtain ⟨y0, y1, y2, y3, y4, y5, rfl⟩ := list6 hxl
  have g0 := fld hf 0 4 0 1 rfl cells_bool
  have g1 := fld hf 1 36 1 13 rfl cells_leg
  have g2 := fld hf 2 38 14 2 rfl cells_pt
  have g3 := fld hf 3 38 16 2 rfl cells_pt
  have g4 := fld hf 4 39 18 1 rfl cells_sec
  have g5 := fld hf 5 9 19 1 rfl cells_str
  simp only [List.drop_succ_cons, List.drop_zero, List.take_succ_cons, List.take_zero, List.getElem?_cons_succ, List.getElem?_cons_zero] at g0 g1 g2 g3 g4 g5
  obtain ⟨v0, e0, _⟩ := DataW.trod_bool Tryz.underlying4 g0
  obtain ⟨l, e1, b1, b2⟩ := open_leg g1
  obtain ⟨v2, v3, e2⟩ := open_two Tryz.underlying38 cells_pt ⟨rfl, rfl⟩ ⟨rfl, rfl⟩ g2
  obtain ⟨v4, v5, e3⟩ := open_two Tryz.underlying38 cells_pt ⟨rfl, rfl⟩ ⟨rfl, rfl⟩ g3
  obtain ⟨v6, e4, _⟩ := DataW.trod_int Tryz.underlying39 g4
  obtain ⟨v7, e5, b5⟩ := open_str g5
  have hy : Rows.uptoBulk y.1 = Rows.uptoBulkAll [y0.1, y1.1, y2.1, y3.1, y4.1, y5.1] + 1 := by rw [hx]; simp [Rows.uptoBulk]
  have p1 : Rows.uptoBulk y1.1 ≤ Rows.uptoBulkAll [y0.1, y1.1, y2.1, y3.1, y4.1, y5.1] := bulk_part (by simp)
  have p5 : Rows.uptoBulk y5.1 ≤ Rows.uptoBulkAll [y0.1, y1.1, y2.1, y3.1, y4.1, y5.1] := bulk_part (by simp)
  refine ⟨⟨v0, l, v2, v3, v4, v5, v6, v7⟩, ?_, ?_, ?_, ?_⟩
  · simp only [List.cons.injEq, and_true] at e0 e2 e3 e4
    have e1' : [c1, c2, c3, c4, c5, c6, c7, c8, c9, c10, c11, c12, c13] = l.arr.toList := e1
    have : [c0, c1, c2, c3, c4, c5, c6, c7, c8, c9, c10, c11, c12, c13, c14, c15, c16, c17, c18, c19] = [c0] ++ [c1, c2, c3, c4, c5, c6, c7, c8, c9, c10, c11, c12, c13] ++ [c14, c15, c16, c17, c18, c19] := rfl
    rw [this, e1', e0, e2.1, e2.2, e3.1, e3.2, e4, e5]; rfl
  · show l.fix.length ≤ _; omega
  · show l.center.length ≤ _; omega
  · show v7.length ≤ _; omega
end
section
variable {H : Type} {enc : TypeId × Value → H} {w : World} {base : Nat} {spare : Nat → Bool} {held : Bool}
/-- A slice of entries: where it lies, what it holds, how much of the bulk it takes. -/
theorem open_ents {fuel : Nat} {v : Value} {y : DataW H × List MemPlace} (h : DataW.trod enc Tryz.prog w base spare held fuel 43 [v] = some y) :
    ∃ (es : List Entry) (A : Option Addr) (c : Nat), v = .slice A es.length c ∧ es.length ≤ c ∧ Ents w A es ∧ es.length ≤ Rows.uptoBulk y.1 ∧ ∀ x ∈ es, x.leg.fix.length ≤ Rows.uptoBulk y.1 ∧ x.leg.center.length ≤ Rows.uptoBulk y.1 ∧ x.via.length ≤ Rows.uptoBulk y.1 := by
  rcases open_slice Tryz.underlying43 h with ⟨h0, hx⟩ | ⟨a, len, cap, m, n, D, Pl, hcs, hb, hl, hm, hmm, hx, hi⟩
  · exact ⟨[], none, 0, by simpa using h0, by simp, Ents.nil _ _, by simp, by simp⟩
  · rw [cells_ent] at hi
    have hlm : len ≤ m := by rw [hmm]; split <;> omega
    obtain ⟨es, hel, hes⟩ := list_of (P := fun i (x : Entry) => (∀ j, j < 20 → w.cell? ((a.add (i * 20)).add j) = x.arr[j]?) ∧ x.leg.fix.length ≤ Rows.uptoBulk (D i) ∧ x.leg.center.length ≤ Rows.uptoBulk (D i) ∧ x.via.length ≤ Rows.uptoBulk (D i)) len (fun i hil => by
      obtain ⟨cs', hc, ht⟩ := hi i (by omega)
      obtain ⟨x, e, b1, b2, b3⟩ := open_ent ht
      obtain ⟨_, hcl, hat⟩ := World.cells?_some hc
      refine ⟨x, fun j hj => ?_, b1, b2, b3⟩
      rw [hat j hj, e]; simp)
    have hbk : Rows.uptoBulkAll ((List.range len).map D) + 1 ≤ Rows.uptoBulk y.1 := by rw [hx]; simp only [Rows.uptoBulk]; omega
    have hD : ∀ i, i < len → Rows.uptoBulk (D i) ≤ Rows.uptoBulk y.1 := fun i hil => by
      have := bulk_part (show D i ∈ (List.range len).map D from List.mem_map.2 ⟨i, by simpa using hil, rfl⟩)
      omega
    have hln := bulk_len ((List.range len).map D)
    simp only [List.length_map, List.length_range] at hln
    refine ⟨es, some a, cap, by rw [hel]; simpa using hcs, by omega, ⟨fun hne => ?_⟩, by omega, fun x hx' => ?_⟩
    · obtain ⟨b, off, spot⟩ := a
      have hpos : 0 < es.length := List.length_pos_iff.2 hne
      have h0 := (hes 0 es[0] (List.getElem?_eq_getElem hpos)).1 0 (by omega)
      have hsp : spot = none := by
        cases spot with
        | none => rfl
        | some q =>
          exfalso
          rw [Entry.arr0] at h0
          unfold World.cell? Addr.add at h0
          split at h0 <;> simp at h0
      subst hsp
      refine ⟨b, off, rfl, ?_, fun i x hx' j hj => ?_⟩
      · rw [Entry.arr0, addr_add, addr_add] at h0
        exact block_lt_of_cell h0
      · have := (hes i x hx').1 j hj
        rw [addr_add, addr_add] at this
        exact this
    · obtain ⟨i, hi', hxi⟩ := List.getElem_of_mem hx'
      have hb := (hes i x (by rw [← hxi]; exact List.getElem?_eq_getElem hi')).2
      have := hD i (by omega)
      omega
end
end Go.Proofs.YtjgondadpjildaaGreatDoor
