/- Arguments opened out of their readings: what is of no particular struct; the bound on what is read. The arguments of the statements opened: entries, slices of entries, plans out of their readings; the bound on what is read. From the rows' premises to the walks': what the listed variables hold; a plan among the arguments. strconv.ParseInt of every string, its error left aside. -/
import Derived.Test.YtnmpfmelaninbaaGreatDoorPk17
import Derived.OpenShut
import Derived.Deep.Slices
import Derived.Deep.Fields
import Derived.ChangeSame
import Derived.Deep.DeepHandedRow
import Derived.Carry
import Derived.LaidSub
import Derived.Test.YtnmpfmelaninbaaGreatDoorPk06
import Derived.Test.YtnmpfmelaninbaaGreatDoorPk01
import Derived.Test.YtnmpfmelaninbaaGreatDoorPk12
import Derived.Lib.ConvBytes
namespace Go.Proofs.YtnmpfmelaninbaaGreatDoor
open Go.RowKit Go.ChangeShapes Go.WideShapes Go.Deep
set_option linter.unusedVariables false
set_option linter.unusedSimpArgs false
theorem bulk_one {H : Type} (d : DataW H) : 1 ≤ Rows.uptoBulk d := by
  cases d with
  | lit l => cases l <;> simp [Rows.uptoBulk]
  | nil => simp [Rows.uptoBulk]
  | ptr d => simp [Rows.uptoBulk]
  | slice elems spare => simp [Rows.uptoBulk]
  | agg parts => simp [Rows.uptoBulk]
  | iface t d => simp [Rows.uptoBulk]
  | map entries => simp [Rows.uptoBulk]
  | held h => simp [Rows.uptoBulk]
theorem bulk_part {H : Type} {d : DataW H} {l : List (DataW H)} (h : d ∈ l) : Rows.uptoBulk d ≤ Rows.uptoBulkAll l := by
  induction l with
  | nil => cases h
  | cons x r ih =>
    simp only [Rows.uptoBulkAll]
    cases List.mem_cons.1 h with
    | inl e => subst e; omega
    | inr e => have := ih e; omega
theorem bulk_len {H : Type} (l : List (DataW H)) : l.length ≤ Rows.uptoBulkAll l := by
  induction l with
  | nil => simp [Rows.uptoBulkAll]
  | cons x r ih => have := bulk_one x; simp only [Rows.uptoBulkAll, List.length_cons]; omega
theorem bulk_str {H : Type} (s : ByteArray) : Rows.uptoBulk (DataW.lit (H := H) (.string s.data.toList)) = s.data.toList.length + 1 := by simp [Rows.uptoBulk]
theorem list2 {α : Type _} {l : List α} (h : l.length = 2) : ∃ x0 x1, l = [x0, x1] := by
  match l, h with
  | [x0, x1], _ => exact ⟨x0, x1, rfl⟩
theorem list4 {α : Type _} {l : List α} (h : l.length = 4) : ∃ x0 x1 x2 x3, l = [x0, x1, x2, x3] := by
  match l, h with
  | [x0, x1, x2, x3], _ => exact ⟨x0, x1, x2, x3, rfl⟩
theorem list6 {α : Type _} {l : List α} (h : l.length = 6) : ∃ x0 x1 x2 x3 x4 x5, l = [x0, x1, x2, x3, x4, x5] := by
  match l, h with
  | [x0, x1, x2, x3, x4, x5], _ => exact ⟨x0, x1, x2, x3, x4, x5, rfl⟩
theorem list12 {α : Type _} {l : List α} (h : l.length = 12) : ∃ x0 x1 x2 x3 x4 x5 x6 x7 x8 x9 x10 x11, l = [x0, x1, x2, x3, x4, x5, x6, x7, x8, x9, x10, x11] := by
  match l, h with
  | [x0, x1, x2, x3, x4, x5, x6, x7, x8, x9, x10, x11], _ => exact ⟨x0, x1, x2, x3, x4, x5, x6, x7, x8, x9, x10, x11, rfl⟩
theorem list13 {α : Type _} {l : List α} (h : l.length = 13) : ∃ x0 x1 x2 x3 x4 x5 x6 x7 x8 x9 x10 x11 x12, l = [x0, x1, x2, x3, x4, x5, x6, x7, x8, x9, x10, x11, x12] := by
  match l, h with
  | [x0, x1, x2, x3, x4, x5, x6, x7, x8, x9, x10, x11, x12], _ => exact ⟨x0, x1, x2, x3, x4, x5, x6, x7, x8, x9, x10, x11, x12, rfl⟩
theorem list20 {α : Type _} {l : List α} (h : l.length = 20) : ∃ x0 x1 x2 x3 x4 x5 x6 x7 x8 x9 x10 x11 x12 x13 x14 x15 x16 x17 x18 x19, l = [x0, x1, x2, x3, x4, x5, x6, x7, x8, x9, x10, x11, x12, x13, x14, x15, x16, x17, x18, x19] := by
  match l, h with
  | [x0, x1, x2, x3, x4, x5, x6, x7, x8, x9, x10, x11, x12, x13, x14, x15, x16, x17, x18, x19], _ => exact ⟨x0, x1, x2, x3, x4, x5, x6, x7, x8, x9, x10, x11, x12, x13, x14, x15, x16, x17, x18, x19, rfl⟩
theorem cells_i64 : Tryz.prog.cellsOf 2 = 1 := by kernel_rfl
theorem cells_int : Tryz.prog.cellsOf 3 = 1 := by kernel_rfl
theorem cells_bool : Tryz.prog.cellsOf 4 = 1 := by kernel_rfl
theorem cells_str : Tryz.prog.cellsOf 9 = 1 := by kernel_rfl
theorem cells_u8 : Tryz.prog.cellsOf 5 = 1 := by kernel_rfl
theorem list_of {α : Type} {P : Nat → α → Prop} : ∀ (n : Nat), (∀ i, i < n → ∃ x, P i x) → ∃ l : List α, l.length = n ∧ ∀ i x, l[i]? = some x → P i x
  | 0, _ => ⟨[], rfl, by simp⟩
  | n + 1, h => by
    obtain ⟨l, hl, hp⟩ := list_of n fun i hi => h i (by omega)
    obtain ⟨x, hx⟩ := h n (by omega)
    refine ⟨l ++ [x], by simp [hl], fun i y hy => ?_⟩
    rcases Nat.lt_or_ge i l.length with hi | hi
    · rw [List.getElem?_append_left hi] at hy; exact hp i y hy
    · rw [List.getElem?_append_right hi] at hy
      have h0 : i - l.length = 0 := by
        rcases Nat.eq_zero_or_pos (i - l.length) with h0 | h0
        · exact h0
        · rw [List.getElem?_eq_none (by simp; omega)] at hy; cases hy
      rw [h0] at hy
      simp at hy
      subst hy
      have : i = n := by omega
      subst this; exact hx
section
variable {H : Type} {enc : TypeId × Value → H} {w : World} {base : Nat} {spare : Nat → Bool} {held : Bool}
theorem fld {n : Nat} {cs : List Value} {fs : Array Field} {xs : List (DataW H × List MemPlace)} (hf : ∀ (i : Nat) (f : Field), fs[i]? = some f → DataW.trod enc Tryz.prog w base spare held n f.type ((cs.drop f.offset).take (Tryz.prog.cellsOf f.type)) = xs[i]?)
    (i ty off k : Nat) (h : (fs[i]?).map (fun f => (f.type, f.offset)) = some (ty, off)) (hk : Tryz.prog.cellsOf ty = k) : DataW.trod enc Tryz.prog w base spare held n ty ((cs.drop off).take k) = xs[i]? := by
  cases hi : fs[i]? with
  | none => simp [hi] at h
  | some f =>
    simp [hi] at h
    have := hf i f hi
    rw [h.1, h.2, hk] at this
    exact this
theorem open_two {t : TypeId} {fuel : Nat} {cs : List Value} {y : DataW H × List MemPlace} {f0 f1 : Field} (hu : Tryz.prog.underlying t = some (.struct #[f0, f1])) (hc : Tryz.prog.cellsOf t = 2)
    (h0 : f0.type = 2 ∧ f0.offset = 0) (h1 : f1.type = 2 ∧ f1.offset = 1) (h : DataW.trod enc Tryz.prog w base spare held fuel t cs = some y) : ∃ a b, cs = [.int .i64 a, .int .i64 b] := by
  obtain ⟨xs, n, _, hx, hlen, hxl, hf⟩ := DataW.trod_struct hu h
  rw [hc] at hlen
  obtain ⟨a, b, rfl⟩ := list2 hlen
  obtain ⟨y0, y1, rfl⟩ := list2 hxl
  have g0 := hf 0 f0 rfl
  have g1 := hf 1 f1 rfl
  rw [h0.1, h0.2, cells_i64] at g0
  rw [h1.1, h1.2, cells_i64] at g1
  obtain ⟨a', e0, _⟩ := DataW.trod_int Tryz.underlying2 g0
  obtain ⟨b', e1, _⟩ := DataW.trod_int Tryz.underlying2 g1
  simp at e0 e1
  exact ⟨a', b', by rw [e0, e1]⟩
theorem open_str {fuel : Nat} {v : Value} {y : DataW H × List MemPlace} (h : DataW.trod enc Tryz.prog w base spare held fuel 9 [v] = some y) : ∃ s : List UInt8, v = .string ⟨s.toArray⟩ ∧ s.length + 1 = Rows.uptoBulk y.1 := by
  obtain ⟨s, e, hx, _⟩ := DataW.trod_string Tryz.underlying9 h
  refine ⟨s.data.toList, by simpa using e, ?_⟩
  rw [hx]; simp [Rows.uptoBulk]
/-- A slice of structs: where it lies, what it holds, how much of the bulk it takes. -/
theorem open_items {α : Type} {ts te : TypeId} {n : Nat} (arrOf : α → Array Value) (bnd : α → Nat → Prop) (hmono : ∀ x a b, a ≤ b → bnd x a → bnd x b) (hut : Tryz.prog.underlying ts = some (.slice te)) (hce : Tryz.prog.cellsOf te = n) (hn : 0 < n) (hsz : ∀ x, (arrOf x).size = n)
    (hopen : ∀ {fuel : Nat} {cs : List Value} {y : DataW H × List MemPlace}, DataW.trod enc Tryz.prog w base spare held fuel te cs = some y → ∃ x, cs = (arrOf x).toList ∧ bnd x (Rows.uptoBulk y.1))
    {fuel : Nat} {v : Value} {y : DataW H × List MemPlace} (h : DataW.trod enc Tryz.prog w base spare held fuel ts [v] = some y) :
    ∃ (l : List α) (A : Option Addr) (c : Nat), v = .slice A l.length c ∧ l.length ≤ c ∧ c ≤ maxLen ∧ Items w A n (l.map arrOf) ∧ l.length ≤ Rows.uptoBulk y.1 ∧ ∀ x ∈ l, bnd x (Rows.uptoBulk y.1) := by
  rcases open_slice hut h with ⟨h0, hx⟩ | ⟨a, len, cap, m, n', D, Pl, hcs, hb, hl, hm, hmm, hx, hi⟩
  · exact ⟨[], none, 0, by simpa using h0, by simp, by unfold maxLen; omega, Items.nil _ _ _, by simp, by simp⟩
  · rw [hce] at hi
    have hlm : len ≤ m := by rw [hmm]; split <;> omega
    obtain ⟨es, hel, hes⟩ := list_of (P := fun i (x : α) => (∀ j, j < n → w.cell? ((a.add (i * n)).add j) = (arrOf x)[j]?) ∧ bnd x (Rows.uptoBulk (D i))) len (fun i hil => by
      obtain ⟨cs', hc, ht⟩ := hi i (by omega)
      obtain ⟨x, e, b1⟩ := hopen ht
      obtain ⟨_, hcl, hat⟩ := World.cells?_some hc
      refine ⟨x, fun j hj => ?_, b1⟩
      rw [hat j hj, e]; simp)
    have hbk : Rows.uptoBulkAll ((List.range len).map D) + 1 ≤ Rows.uptoBulk y.1 := by rw [hx]; simp only [Rows.uptoBulk]; omega
    have hD : ∀ i, i < len → Rows.uptoBulk (D i) ≤ Rows.uptoBulk y.1 := fun i hil => by
      have := bulk_part (show D i ∈ (List.range len).map D from List.mem_map.2 ⟨i, by simpa using hil, rfl⟩)
      omega
    have hln := bulk_len ((List.range len).map D)
    simp only [List.length_map, List.length_range] at hln
    refine ⟨es, some a, cap, by rw [hel]; simpa using hcs, by omega, by omega, ⟨fun hne => ?_⟩, by omega, fun x hx' => ?_⟩
    · obtain ⟨b, off, spot⟩ := a
      have hne' : es ≠ [] := by rintro rfl; exact hne rfl
      have hpos : 0 < es.length := List.length_pos_iff.2 hne'
      have h0 := (hes 0 es[0] (List.getElem?_eq_getElem hpos)).1 0 hn
      have hv : ∃ u, (arrOf es[0])[0]? = some u := ⟨_, Array.getElem?_eq_getElem (by rw [hsz]; exact hn)⟩
      obtain ⟨u, hv⟩ := hv
      have hsp : spot = none := by
        cases spot with
        | none => rfl
        | some q =>
          exfalso
          rw [hv] at h0
          unfold World.cell? Addr.add at h0
          split at h0 <;> simp at h0
      subst hsp
      refine ⟨b, off, rfl, ?_, fun i x hx' j hj => ?_⟩
      · rw [hv, addr_add, addr_add] at h0
        exact block_lt_of_cell h0
      · rw [List.getElem?_map] at hx'
        cases hq : es[i]? with
        | none => rw [hq] at hx'; cases hx'
        | some z =>
          rw [hq] at hx'
          obtain rfl : arrOf z = x := by simpa using hx'
          have := (hes i z hq).1 j hj
          rw [addr_add, addr_add] at this
          exact this
    · obtain ⟨i, hi', hxi⟩ := List.getElem_of_mem hx'
      have hb := (hes i x (by rw [← hxi]; exact List.getElem?_eq_getElem hi')).2
      exact hmono _ _ _ (hD i (by omega)) hb
end
end Go.Proofs.YtnmpfmelaninbaaGreatDoor
namespace Go.Proofs.YtnmpfmelaninbaaGreatDoor
open Go.RowKit Go.ChangeShapes Go.WideShapes Go.Deep
set_option linter.unusedVariables false
set_option linter.unusedSimpArgs false
theorem cells_lt : Tryz.prog.cellsOf 50 = 1 := by kernel_rfl
theorem cells_sec : Tryz.prog.cellsOf 55 = 1 := by kernel_rfl
theorem cells_win : Tryz.prog.cellsOf 24 = 2 := by kernel_rfl
theorem cells_pt : Tryz.prog.cellsOf 54 = 2 := by kernel_rfl
theorem cells_leg : Tryz.prog.cellsOf 52 = 13 := by kernel_rfl
theorem cells_ent : Tryz.prog.cellsOf 57 = 20 := by kernel_rfl
theorem cells_es : Tryz.prog.cellsOf 44 = 1 := by kernel_rfl
theorem cells_plan : Tryz.prog.cellsOf 46 = 4 := by kernel_rfl
section
variable {H : Type} {enc : TypeId × Value → H} {w : World} {base : Nat} {spare : Nat → Bool} {held : Bool}
theorem open_leg {fuel : Nat} {cs : List Value} {y : DataW H × List MemPlace} (h : DataW.trod enc Tryz.prog w base spare held fuel 52 cs = some y) : ∃ l : Leg, cs = l.arr.toList ∧ l.fix.length ≤ Rows.uptoBulk y.1 ∧ l.center.length ≤ Rows.uptoBulk y.1 := by
  obtain ⟨xs, n, _, hx, hlen, hxl, hf⟩ := DataW.trod_struct Tryz.underlying52 h
  rw [cells_leg] at hlen
  obtain ⟨c0, c1, c2, c3, c4, c5, c6, c7, c8, c9, c10, c11, c12, rfl⟩ := list13 hlen
  obtain ⟨y0, y1, y2, y3, y4, y5, y6, y7, y8, y9, y10, y11, rfl⟩ := list12 hxl
  have g0 := fld hf 0 50 0 1 rfl cells_lt
  have g1 := fld hf 1 9 1 1 rfl cells_str
  have g2 := fld hf 2 9 2 1 rfl cells_str
  have g3 := fld hf 3 5 3 1 rfl cells_u8
  have g4 := fld hf 4 4 4 1 rfl cells_bool
  have g5 := fld hf 5 2 5 1 rfl cells_i64
  have g6 := fld hf 6 2 6 1 rfl cells_i64
  have g7 := fld hf 7 2 7 1 rfl cells_i64
  have g8 := fld hf 8 2 8 1 rfl cells_i64
  have g9 := fld hf 9 24 9 2 rfl cells_win
  have g10 := fld hf 10 2 11 1 rfl cells_i64
  have g11 := fld hf 11 2 12 1 rfl cells_i64
  simp only [List.drop_succ_cons, List.drop_zero, List.take_succ_cons, List.take_zero, List.getElem?_cons_succ, List.getElem?_cons_zero] at g0 g1 g2 g3 g4 g5 g6 g7 g8 g9 g10 g11
  obtain ⟨v0, e0, _⟩ := DataW.trod_int Tryz.underlying50 g0
  obtain ⟨v1, e1, b1⟩ := open_str g1
  obtain ⟨v2, e2, b2⟩ := open_str g2
  obtain ⟨v3, e3, _⟩ := DataW.trod_int Tryz.underlying5 g3
  obtain ⟨v4, e4, _⟩ := DataW.trod_bool Tryz.underlying4 g4
  obtain ⟨v5, e5, _⟩ := DataW.trod_int Tryz.underlying2 g5
  obtain ⟨v6, e6, _⟩ := DataW.trod_int Tryz.underlying2 g6
  obtain ⟨v7, e7, _⟩ := DataW.trod_int Tryz.underlying2 g7
  obtain ⟨v8, e8, _⟩ := DataW.trod_int Tryz.underlying2 g8
  obtain ⟨v9, v10, e9⟩ := open_two Tryz.underlying24 cells_win ⟨rfl, rfl⟩ ⟨rfl, rfl⟩ g9
  obtain ⟨v11, e11, _⟩ := DataW.trod_int Tryz.underlying2 g10
  obtain ⟨v12, e12, _⟩ := DataW.trod_int Tryz.underlying2 g11
  simp only [List.cons.injEq, and_true] at e0 e3 e4 e5 e6 e7 e8 e9 e11 e12
  obtain ⟨e9, e10⟩ := e9
  have hy : Rows.uptoBulk y.1 = Rows.uptoBulkAll [y0.1, y1.1, y2.1, y3.1, y4.1, y5.1, y6.1, y7.1, y8.1, y9.1, y10.1, y11.1] + 1 := by rw [hx]; simp [Rows.uptoBulk]
  have p1 : Rows.uptoBulk y1.1 ≤ Rows.uptoBulkAll [y0.1, y1.1, y2.1, y3.1, y4.1, y5.1, y6.1, y7.1, y8.1, y9.1, y10.1, y11.1] := bulk_part (by simp)
  have p2 : Rows.uptoBulk y2.1 ≤ Rows.uptoBulkAll [y0.1, y1.1, y2.1, y3.1, y4.1, y5.1, y6.1, y7.1, y8.1, y9.1, y10.1, y11.1] := bulk_part (by simp)
  refine ⟨⟨v0, v1, v2, v3, v4, v5, v6, v7, v8, v9, v10, v11, v12⟩, ?_, ?_, ?_⟩
  · rw [e0, e1, e2, e3, e4, e5, e6, e7, e8, e9, e10, e11, e12]; rfl
  · show v1.length ≤ _; omega
  · show v2.length ≤ _; omega
theorem open_ent {fuel : Nat} {cs : List Value} {y : DataW H × List MemPlace} (h : DataW.trod enc Tryz.prog w base spare held fuel 57 cs = some y) :
    ∃ x : Entry, cs = x.arr.toList ∧ x.leg.fix.length ≤ Rows.uptoBulk y.1 ∧ x.leg.center.length ≤ Rows.uptoBulk y.1 ∧ x.via.length ≤ Rows.uptoBulk y.1 := by
  obtain ⟨xs, n, _, hx, hlen, hxl, hf⟩ := DataW.trod_struct Tryz.underlying57 h
  rw [cells_ent] at hlen
  obtain ⟨c0, c1, c2, c3, c4, c5, c6, c7, c8, c9, c10, c11, c12, c13, c14, c15, c16, c17, c18, c19, rfl⟩ := list20 hlen
  obtain ⟨y0, y1, y2, y3, y4, y5, rfl⟩ := list6 hxl
  have g0 := fld hf 0 4 0 1 rfl cells_bool
  have g1 := fld hf 1 52 1 13 rfl cells_leg
  have g2 := fld hf 2 54 14 2 rfl cells_pt
  have g3 := fld hf 3 54 16 2 rfl cells_pt
  have g4 := fld hf 4 55 18 1 rfl cells_sec
  have g5 := fld hf 5 9 19 1 rfl cells_str
  simp only [List.drop_succ_cons, List.drop_zero, List.take_succ_cons, List.take_zero, List.getElem?_cons_succ, List.getElem?_cons_zero] at g0 g1 g2 g3 g4 g5
  obtain ⟨v0, e0, _⟩ := DataW.trod_bool Tryz.underlying4 g0
  obtain ⟨l, e1, b1, b2⟩ := open_leg g1
  obtain ⟨v2, v3, e2⟩ := open_two Tryz.underlying54 cells_pt ⟨rfl, rfl⟩ ⟨rfl, rfl⟩ g2
  obtain ⟨v4, v5, e3⟩ := open_two Tryz.underlying54 cells_pt ⟨rfl, rfl⟩ ⟨rfl, rfl⟩ g3
  obtain ⟨v6, e4, _⟩ := DataW.trod_int Tryz.underlying55 g4
  obtain ⟨v7, e5, b5⟩ := open_str g5
  have hy : Rows.uptoBulk y.1 = Rows.uptoBulkAll [y0.1, y1.1, y2.1, y3.1, y4.1, y5.1] + 1 := by rw [hx]; simp [Rows.uptoBulk]
  have p1 : Rows.uptoBulk y1.1 ≤ Rows.uptoBulkAll [y0.1, y1.1, y2.1, y3.1, y4.1, y5.1] := bulk_part (by simp)
  have p5 : Rows.uptoBulk y5.1 ≤ Rows.uptoBulkAll [y0.1, y1.1, y2.1, y3.1, y4.1, y5.1] := bulk_part (by simp)
  refine ⟨⟨v0, l, v2, v3, v4, v5, v6, v7⟩, ?_, ?_, ?_, ?_⟩
  · simp only [List.cons.injEq, and_true] at e0 e2 e3 e4
    have e1' : [c1, c2, c3, c4, c5, c6, c7, c8, c9, c10, c11, c12, c13] = l.arr.toList := e1
    have : [c0, c1, c2, c3, c4, c5, c6, c7, c8, c9, c10, c11, c12, c13, c14, c15, c16, c17, c18, c19] = [c0] ++ [c1, c2, c3, c4, c5, c6, c7, c8, c9, c10, c11, c12, c13] ++ [c14, c15, c16, c17, c18, c19] := rfl
    rw [this, e1', e0, e2.1, e2.2, e3.1, e3.2, e4, e5]; rfl
  · show l.fix.length ≤ _; omega
  · show l.center.length ≤ _; omega
  · show v7.length ≤ _; omega
end
section
variable {H : Type} {enc : TypeId × Value → H} {w : World} {base : Nat} {spare : Nat → Bool} {held : Bool}
/-- A slice of entries: where it lies, what it holds, how much of the bulk it takes. -/
theorem open_ents {fuel : Nat} {v : Value} {y : DataW H × List MemPlace} (h : DataW.trod enc Tryz.prog w base spare held fuel 44 [v] = some y) :
    ∃ (es : List Entry) (A : Option Addr) (c : Nat), v = .slice A es.length c ∧ es.length ≤ c ∧ Ents w A es ∧ es.length ≤ Rows.uptoBulk y.1 ∧ ∀ x ∈ es, x.leg.fix.length ≤ Rows.uptoBulk y.1 ∧ x.leg.center.length ≤ Rows.uptoBulk y.1 ∧ x.via.length ≤ Rows.uptoBulk y.1 := by
  rcases open_slice Tryz.underlying44 h with ⟨h0, hx⟩ | ⟨a, len, cap, m, n, D, Pl, hcs, hb, hl, hm, hmm, hx, hi⟩
  · exact ⟨[], none, 0, by simpa using h0, by simp, Ents.nil _ _, by simp, by simp⟩
  · rw [cells_ent] at hi
    have hlm : len ≤ m := by rw [hmm]; split <;> omega
    obtain ⟨es, hel, hes⟩ := list_of (P := fun i (x : Entry) => (∀ j, j < 20 → w.cell? ((a.add (i * 20)).add j) = x.arr[j]?) ∧ x.leg.fix.length ≤ Rows.uptoBulk (D i) ∧ x.leg.center.length ≤ Rows.uptoBulk (D i) ∧ x.via.length ≤ Rows.uptoBulk (D i)) len (fun i hil => by
      obtain ⟨cs', hc, ht⟩ := hi i (by omega)
      obtain ⟨x, e, b1, b2, b3⟩ := open_ent ht
      obtain ⟨_, hcl, hat⟩ := World.cells?_some hc
      refine ⟨x, fun j hj => ?_, b1, b2, b3⟩
      rw [hat j hj, e]; simp)
    have hbk : Rows.uptoBulkAll ((List.range len).map D) + 1 ≤ Rows.uptoBulk y.1 := by rw [hx]; simp only [Rows.uptoBulk]; omega
    have hD : ∀ i, i < len → Rows.uptoBulk (D i) ≤ Rows.uptoBulk y.1 := fun i hil => by
      have := bulk_part (show D i ∈ (List.range len).map D from List.mem_map.2 ⟨i, by simpa using hil, rfl⟩)
      omega
    have hln := bulk_len ((List.range len).map D)
    simp only [List.length_map, List.length_range] at hln
    refine ⟨es, some a, cap, by rw [hel]; simpa using hcs, by omega, ⟨fun hne => ?_⟩, by omega, fun x hx' => ?_⟩
    · obtain ⟨b, off, spot⟩ := a
      have hpos : 0 < es.length := List.length_pos_iff.2 hne
      have h0 := (hes 0 es[0] (List.getElem?_eq_getElem hpos)).1 0 (by omega)
      have hsp : spot = none := by
        cases spot with
        | none => rfl
        | some q =>
          exfalso
          rw [Entry.arr0] at h0
          unfold World.cell? Addr.add at h0
          split at h0 <;> simp at h0
      subst hsp
      refine ⟨b, off, rfl, ?_, fun i x hx' j hj => ?_⟩
      · rw [Entry.arr0, addr_add, addr_add] at h0
        exact block_lt_of_cell h0
      · have := (hes i x hx').1 j hj
        rw [addr_add, addr_add] at this
        exact this
    · obtain ⟨i, hi', hxi⟩ := List.getElem_of_mem hx'
      have hb := (hes i x (by rw [← hxi]; exact List.getElem?_eq_getElem hi')).2
      have := hD i (by omega)
      omega
end
end Go.Proofs.YtnmpfmelaninbaaGreatDoor
namespace Go.Proofs.YtnmpfmelaninbaaGreatDoor
open Go.RowKit Go.ChangeShapes Go.WideShapes Go.Deep
set_option linter.unusedVariables false
set_option linter.unusedSimpArgs false
/-- What a listed variable's cells hold. -/
def laidCells : DataW Unit → Array Value
  | .agg l => (l.map fun | .lit (.int k n) => Value.int k n | .lit (.string b) => .string ⟨b.toArray⟩ | _ => .bool false).toArray
  | _ => #[]
def setBlk (h : Array Obj) (g : Nat) (cs : Array Value) : Array Obj := h.modify g fun
  | .cells _ t frozen => .cells cs t frozen
  | o => o
theorem laidVars_mem {w : World} : ∀ {l : List (String × DataW Unit)} {ps : List MemPlace}, DataW.LaidVars Tryz.prog w l ps → ∀ n d, (n, d) ∈ l →
    ∃ g t cs fuel p, Tryz.prog.globalNamed n = some g ∧ (Tryz.prog.globals[g]?).map (·.type) = some t ∧ w.var? Tryz.prog n = some cs ∧ DataW.trod (fun _ => ()) Tryz.prog w 0 (fun _ => true) false fuel t cs.toList = some (d, p)
  | [], _, _, n, d, hm => by cases hm
  | (n', d') :: r, ps, h, n, d, hm => by
    obtain ⟨g, t, cs, fuel, p, q, h1, h2, h3, h4, h5, _⟩ := h
    rcases List.mem_cons.1 hm with e | hm
    · injection e with e1 e2
      subst e1; subst e2
      exact ⟨g, t, cs, fuel, p, h1, h2, h3, h4⟩
    · exact laidVars_mem h5 n d hm
theorem tab_of {w : World} {l : List (String × DataW Unit)} {ps : List MemPlace} (h : DataW.LaidVars Tryz.prog w l ps) {n : String} {k : IntKind} {zs : List Int} {g : Nat} {t e : TypeId} {m : Nat}
    (hg : Tryz.prog.globalNamed n = some g) (hty : (Tryz.prog.globals[g]?).map (·.type) = some t) (ht : Tryz.prog.underlying t = some (.array m e)) (he : Tryz.prog.underlying e = some (.int k)) (hce : Tryz.prog.cellsOf e = 1) (hct : Tryz.prog.cellsOf t = m)
    (hm : (n, Lib.tabData k zs) ∈ l) : Lib.TabIs Tryz.prog w n k zs := by
  obtain ⟨g', t', cs, fuel, p, hg', ht', hvar, hd⟩ := laidVars_mem h n _ hm
  obtain rfl := Option.some.inj (hg.symm.trans hg')
  obtain rfl := Option.some.inj (hty.symm.trans ht')
  unfold Lib.TabIs
  rw [hvar, ← Lib.cells_of_tab ht he hce hct hd]
def strData (ss : List (List UInt8)) : DataW Unit := .agg (ss.map fun s => .lit (.string s))
theorem strs_of {w : World} {l : List (String × DataW Unit)} {ps : List MemPlace} (h : DataW.LaidVars Tryz.prog w l ps) {n : String} {ss : List (List UInt8)} {g : Nat} {t e : TypeId} {m : Nat}
    (hg : Tryz.prog.globalNamed n = some g) (hty : (Tryz.prog.globals[g]?).map (·.type) = some t) (ht : Tryz.prog.underlying t = some (.array m e)) (he : Tryz.prog.underlying e = some .string) (hce : Tryz.prog.cellsOf e = 1)
    (hm : (n, strData ss) ∈ l) : ∀ k, k < m → k < ss.length ∧ w.cell? ⟨g, k, none⟩ = some (.string ⟨(ss.getD k []).toArray⟩) := by
  obtain ⟨g', t', cs, fuel, p, hg', ht', hvar, hd⟩ := laidVars_mem h n _ hm
  obtain rfl := Option.some.inj (hg.symm.trans hg')
  obtain rfl := Option.some.inj (hty.symm.trans ht')
  obtain ⟨xs, m', _, hx, hlen, hxl, hf⟩ := DataW.trod_array ht hd
  intro k hk
  have h1 := hf k hk
  rw [hce, Nat.mul_one, List.getElem?_eq_getElem (by omega)] at h1
  obtain ⟨s, e1, e2, _⟩ := DataW.trod_string he h1
  have h2 : (strData ss) = .agg (xs.map (·.1)) := by simp only [Prod.mk.injEq] at hx; exact hx.1
  unfold strData at h2
  injection h2 with h2
  have h3 : (ss.map fun s => (DataW.lit (H := Unit) (.string s)))[k]? = (xs.map (·.1))[k]? := by rw [h2]
  rw [List.getElem?_map, List.getElem?_map, List.getElem?_eq_getElem (show k < xs.length by omega)] at h3
  cases hs : ss[k]? with
  | none => rw [hs] at h3; cases h3
  | some s' =>
    rw [hs, e2] at h3
    have h4 : s' = s.data.toList := by simpa using h3
    have hkl : k < ss.length := (List.getElem?_eq_some_iff.1 hs).1
    refine ⟨hkl, ?_⟩
    have hc : cs.toList[k]? = some (.string s) := by
      have hkc : k < cs.toList.length := by
        rcases Nat.lt_or_ge k cs.toList.length with h | h
        · exact h
        · rw [List.drop_of_length_le h] at e1; simp at e1
      rw [List.drop_eq_getElem_cons hkc] at e1
      simp at e1
      rw [List.getElem?_eq_getElem hkc]; simp [e1]
    rw [World.var?_cell hg hvar k]
    simp only [Array.getElem?_toList] at hc
    rw [hc, List.getD_eq_getElem?_getD, hs, h4]
    rfl
theorem gUses : Tryz.prog.globalNamed "flightdeck/leg.uses" = some 4 := by kernel_rfl
section
variable {H : Type} {enc : TypeId × Value → H} {w : World} {base : Nat} {spare : Nat → Bool} {held : Bool}
set_option maxRecDepth 100000 in
theorem open_planT {r : Reach} {b0 : Nat} {v : Value} {d : DataW H} {ps : List MemPlace} (hv : Value.okWide Tryz.prog w r b0 46 v) (h : DataW.Trod enc Tryz.prog w base spare held 46 v d ps) :
    ∃ (p : Plan) (A : Option Addr) (c : Nat), v = p.val A c ∧ p.es.length ≤ c ∧ Ents w A p.es ∧ p.es.length ≤ Rows.uptoBulk d ∧ (Rows.uptoBulk d ≤ 4000000000 → p.small) := by
  obtain ⟨cs, rfl, hsz⟩ := okWide_struct Tryz.underlying46 hv
  obtain ⟨fuel, hf⟩ := h
  obtain ⟨xs, n, _, hx, hlen, hxl, hf⟩ := DataW.trod_struct Tryz.underlying46 hf
  rw [cells_plan] at hsz
  have hl4 : cs.toList.length = 4 := by simpa using hsz
  obtain ⟨c0, c1, c2, c3, hcs⟩ := list4 hl4
  obtain ⟨y0, y1, y2, y3, rfl⟩ := list4 hxl
  have g0 := fld hf 0 9 0 1 rfl cells_str
  have g1 := fld hf 1 9 1 1 rfl cells_str
  have g2 := fld hf 2 44 2 1 rfl cells_es
  have g3 := fld hf 3 3 3 1 rfl cells_int
  have hvc : (Value.agg cs).cells.toList = [c0, c1, c2, c3] := hcs
  rw [hvc] at g0 g1 g2 g3
  simp only [List.drop_succ_cons, List.drop_zero, List.take_succ_cons, List.take_zero, List.getElem?_cons_succ, List.getElem?_cons_zero] at g0 g1 g2 g3
  obtain ⟨s0, e0, b0⟩ := open_str g0
  obtain ⟨s1, e1, b1⟩ := open_str g1
  obtain ⟨es, A, c, e2, hc, hE, b2, b3⟩ := open_ents g2
  obtain ⟨k, e3, _⟩ := DataW.trod_int Tryz.underlying3 g3
  simp only [List.cons.injEq, and_true] at e3
  simp only [Prod.mk.injEq] at hx
  have hy : Rows.uptoBulk d = Rows.uptoBulkAll [y0.1, y1.1, y2.1, y3.1] + 1 := by rw [hx.1]; simp [Rows.uptoBulk]
  have p0 : Rows.uptoBulk y0.1 ≤ Rows.uptoBulkAll [y0.1, y1.1, y2.1, y3.1] := bulk_part (by simp)
  have p1 : Rows.uptoBulk y1.1 ≤ Rows.uptoBulkAll [y0.1, y1.1, y2.1, y3.1] := bulk_part (by simp)
  have p2 : Rows.uptoBulk y2.1 ≤ Rows.uptoBulkAll [y0.1, y1.1, y2.1, y3.1] := bulk_part (by simp)
  refine ⟨⟨s0, s1, es, k⟩, A, c, ?_, hc, hE, ?_, fun hN => ⟨?_, ?_, ?_, fun x hx' => ?_⟩⟩
  · have : cs = #[c0, c1, c2, c3] := by apply Array.toList_inj.1; rw [hcs]
    rw [this, e0, e1, e2, e3]; rfl
  · show es.length ≤ _; omega
  · show s0.length ≤ _; omega
  · show s1.length ≤ _; omega
  · show es.length ≤ _; omega
  · obtain ⟨q1, q2, q3⟩ := b3 x hx'
    exact ⟨⟨by omega, by omega⟩, by omega⟩
set_option maxRecDepth 100000 in
theorem open_entsT {r : Reach} {b0 : Nat} {v : Value} {d : DataW H} {ps : List MemPlace} (hv : Value.okWide Tryz.prog w r b0 44 v) (h : DataW.Trod enc Tryz.prog w base spare held 44 v d ps) :
    ∃ (es : List Entry) (A : Option Addr) (c : Nat), v = .slice A es.length c ∧ es.length ≤ c ∧ Ents w A es ∧ es.length ≤ Rows.uptoBulk d ∧ (Rows.uptoBulk d ≤ 4000000000 → ∀ x ∈ es, x.small) := by
  obtain ⟨fuel, hf⟩ := h
  obtain ⟨a0, l0, c0, rfl⟩ := okWide_slice Tryz.underlying44 hv
  have hc1 : (Value.slice a0 l0 c0).cells.toList = [.slice a0 l0 c0] := rfl
  rw [hc1] at hf
  obtain ⟨es, A, c, e, hc, hE, b1, b2⟩ := open_ents hf
  exact ⟨es, A, c, e, hc, hE, b1, fun hN x hx => by obtain ⟨q1, q2, q3⟩ := b2 x hx; simp only at q1 q2 q3 b1; exact ⟨⟨by omega, by omega⟩, by omega⟩⟩
end
end Go.Proofs.YtnmpfmelaninbaaGreatDoor
namespace Go.Proofs.YtnmpfmelaninbaaGreatDoor
open Go.RowKit
set_option linter.unusedVariables false
set_option linter.unusedSimpArgs false
/-- What the sentinels of strconv hold. -/
structure ErrsAt (w : World) : Prop where
  range : ∃ ev, w.cell? ⟨9, 0, none⟩ = some ev ∧ (ev = .nilIface ∨ ∃ te pe, ev = .iface te pe)
  form : ∃ ev, w.cell? ⟨8, 0, none⟩ = some ev ∧ (ev = .nilIface ∨ ∃ te pe, ev = .iface te pe)
theorem ErrsAt.below {w w' : World} (h : ErrsAt w) (hb : Below w.heap.size w w') : ErrsAt w' := by
  obtain ⟨⟨a, a1, a2⟩, ⟨b, b1, b2⟩⟩ := h
  exact ⟨⟨a, by rw [hb.cell (p := ⟨_, 0, none⟩) (block_lt_of_cell a1)]; exact a1, a2⟩, ⟨b, by rw [hb.cell (p := ⟨_, 0, none⟩) (block_lt_of_cell b1)]; exact b1, b2⟩⟩
/-- The call returns a number, and some error or none. -/
def RetNum (W : World) (n : Int) : Ending → World → Prop := fun e w' => (∃ ev, e = .returned (.tuple #[.int .i64 n, ev])) ∧ Below W.heap.size W w'
theorem parseIntP_any (l : List UInt8) (w : World) (hl : l.length ≤ 4000000000) (hR : ErrsAt w) : Calls Tryz.prog 104 #[.string ⟨l.toArray⟩, .int .i64 10, .int .i64 64] w (RetNum w (numP l)) := by
  unfold numP
  cases hp : Lib.parseIntB 64 l with
  | ok v =>
    refine (Tryz.strconv_ParseInt_10_at64_ok ⟨l.toArray⟩ (by simp [ByteArray.size]; omega) v (by simpa using hp) w).mono fun e w' ⟨h1, h2⟩ => ⟨⟨_, h1⟩, ?_⟩
    rcases h2 with rfl | ⟨t, rfl⟩
    · exact Below.refl _ _
    · exact Lib.bytesWorld_below _ _ _
  | range =>
    obtain ⟨ev, h1, h2⟩ := hR.range
    exact (Tryz.strconv_ParseInt_10_at64_range ⟨l.toArray⟩ (by simp [ByteArray.size]; omega) (by simpa using hp) ev w h1 h2).mono fun e w' ⟨N, h3, _, _, h4⟩ => ⟨⟨_, by simpa using h3⟩, h4⟩
  | _ =>
    obtain ⟨ev, h1, h2⟩ := hR.form
    exact (Tryz.strconv_ParseInt_10_at64_syntax ⟨l.toArray⟩ (by simp [ByteArray.size]; omega) (by simpa using hp) ev w h1 h2).mono fun e w' ⟨N, h3, _, _, h4⟩ => ⟨⟨_, h3⟩, h4⟩
theorem callNum {P : Program} {f : FuncId} {args : Array Value} {W : World} {n : Int} {K : Ending → World → Prop} (h : Calls P f args W (RetNum W n)) (k : ∀ ev w', Below W.heap.size W w' → K (.returned (.tuple #[.int .i64 n, ev])) w') : Calls P f args W K :=
  h.mono fun e w' ⟨⟨ev, he⟩, hb⟩ => by subst he; exact k ev w' hb
end Go.Proofs.YtnmpfmelaninbaaGreatDoor
