/- Arguments opened out of their readings: what is of no particular struct; the bound on what is read. What the listed variables read as: tables of numbers, tables of strings. The arguments of the statements opened: entries, slices of entries, plans out of their readings; the bound on what is read. Layer 58: the arguments opened. From the rows' premises to the walks' of layer 58: what the listed variables hold. -/
import Derived.Test.YtlleijickhifmaaGreatDoorPk11
import Derived.OpenShut
import Derived.Deep.Slices
import Derived.Deep.Fields
import Derived.ChangeSame
import Derived.Deep.DeepHandedRow
import Derived.Carry
import Derived.LaidSub
import Derived.Test.YtlleijickhifmaaGreatDoorPk01
import Derived.Test.YtlleijickhifmaaGreatDoorPk05
import Derived.Test.YtlleijickhifmaaGreatDoorPk08
import Derived.Lay
import Derived.Test.YtlleijickhifmaaGreatDoorPk10
import Derived.Test.YtlleijickhifmaaGreatDoorPk21
namespace Go.Proofs.YtlleijickhifmaaGreatDoor
open Go.RowKit Go.ChangeShapes Go.WideShapes Go.Deep
set_option linter.unusedVariables false
set_option linter.unusedSimpArgs false
theorem bulk_one {H : Type} (d : DataW H) : 1 ≤ Rows.uptoBulk d := by
  cases d with
  | lit l => cases l <;> simp [Rows.uptoBulk]
  | nil => simp [Rows.uptoBulk]
  | ptr d => simp [Rows.uptoBulk]
  | slice elems spare => simp [Rows.uptoBulk]
  | agg parts => simp [Rows.uptoBulk]
  | iface t d => simp [Rows.uptoBulk]
  | map entries => simp [Rows.uptoBulk]
  | held h => simp [Rows.uptoBulk]
theorem bulk_part {H : Type} {d : DataW H} {l : List (DataW H)} (h : d ∈ l) : Rows.uptoBulk d ≤ Rows.uptoBulkAll l := by
  induction l with
  | nil => cases h
  | cons x r ih =>
    simp only [Rows.uptoBulkAll]
    cases List.mem_cons.1 h with
    | inl e => subst e; omega
    | inr e => have := ih e; omega
theorem bulk_len {H : Type} (l : List (DataW H)) : l.length ≤ Rows.uptoBulkAll l := by
  induction l with
  | nil => simp [Rows.uptoBulkAll]
  | cons x r ih => have := bulk_one x; simp only [Rows.uptoBulkAll, List.length_cons]; omega
theorem bulk_str {H : Type} (s : ByteArray) : Rows.uptoBulk (DataW.lit (H := H) (.string s.data.toList)) = s.data.toList.length + 1 := by simp [Rows.uptoBulk]
theorem list2 {α : Type _} {l : List α} (h : l.length = 2) : ∃ x0 x1, l = [x0, x1] := by
  match l, h with
  | [x0, x1], _ => exact ⟨x0, x1, rfl⟩
theorem list4 {α : Type _} {l : List α} (h : l.length = 4) : ∃ x0 x1 x2 x3, l = [x0, x1, x2, x3] := by
  match l, h with
  | [x0, x1, x2, x3], _ => exact ⟨x0, x1, x2, x3, rfl⟩
theorem list6 {α : Type _} {l : List α} (h : l.length = 6) : ∃ x0 x1 x2 x3 x4 x5, l = [x0, x1, x2, x3, x4, x5] := by
  match l, h with
  | [x0, x1, x2, x3, x4, x5], _ => exact ⟨x0, x1, x2, x3, x4, x5, rfl⟩
theorem list12 {α : Type _} {l : List α} (h : l.length = 12) : ∃ x0 x1 x2 x3 x4 x5 x6 x7 x8 x9 x10 x11, l = [x0, x1, x2, x3, x4, x5, x6, x7, x8, x9, x10, x11] := by
  match l, h with
  | [x0, x1, x2, x3, x4, x5, x6, x7, x8, x9, x10, x11], _ => exact ⟨x0, x1, x2, x3, x4, x5, x6, x7, x8, x9, x10, x11, rfl⟩
theorem list13 {α : Type _} {l : List α} (h : l.length = 13) : ∃ x0 x1 x2 x3 x4 x5 x6 x7 x8 x9 x10 x11 x12, l = [x0, x1, x2, x3, x4, x5, x6, x7, x8, x9, x10, x11, x12] := by
  match l, h with
  | [x0, x1, x2, x3, x4, x5, x6, x7, x8, x9, x10, x11, x12], _ => exact ⟨x0, x1, x2, x3, x4, x5, x6, x7, x8, x9, x10, x11, x12, rfl⟩
theorem list20 {α : Type _} {l : List α} (h : l.length = 20) : ∃ x0 x1 x2 x3 x4 x5 x6 x7 x8 x9 x10 x11 x12 x13 x14 x15 x16 x17 x18 x19, l = [x0, x1, x2, x3, x4, x5, x6, x7, x8, x9, x10, x11, x12, x13, x14, x15, x16, x17, x18, x19] := by
  match l, h with
  | [x0, x1, x2, x3, x4, x5, x6, x7, x8, x9, x10, x11, x12, x13, x14, x15, x16, x17, x18, x19], _ => exact ⟨x0, x1, x2, x3, x4, x5, x6, x7, x8, x9, x10, x11, x12, x13, x14, x15, x16, x17, x18, x19, rfl⟩
theorem cells_i64 : Tryz.prog.cellsOf 2 = 1 := by kernel_rfl
theorem cells_int : Tryz.prog.cellsOf 3 = 1 := by kernel_rfl
theorem cells_bool : Tryz.prog.cellsOf 4 = 1 := by kernel_rfl
theorem cells_str : Tryz.prog.cellsOf 9 = 1 := by kernel_rfl
theorem cells_u8 : Tryz.prog.cellsOf 5 = 1 := by kernel_rfl
theorem list_of {α : Type} {P : Nat → α → Prop} : ∀ (n : Nat), (∀ i, i < n → ∃ x, P i x) → ∃ l : List α, l.length = n ∧ ∀ i x, l[i]? = some x → P i x
  | 0, _ => ⟨[], rfl, by simp⟩
  | n + 1, h => by
    obtain ⟨l, hl, hp⟩ := list_of n fun i hi => h i (by omega)
    obtain ⟨x, hx⟩ := h n (by omega)
    refine ⟨l ++ [x], by simp [hl], fun i y hy => ?_⟩
    rcases Nat.lt_or_ge i l.length with hi | hi
    · rw [List.getElem?_append_left hi] at hy; exact hp i y hy
    · rw [List.getElem?_append_right hi] at hy
      have h0 : i - l.length = 0 := by
        rcases Nat.eq_zero_or_pos (i - l.length) with h0 | h0
        · exact h0
        · rw [List.getElem?_eq_none (by simp; omega)] at hy; cases hy
      rw [h0] at hy
      simp at hy
      subst hy
      have : i = n := by omega
      subst this; exact hx
section
variable {H : Type} {enc : TypeId × Value → H} {w : World} {base : Nat} {spare : Nat → Bool} {held : Bool}
theorem fld {n : Nat} {cs : List Value} {fs : Array Field} {xs : List (DataW H × List MemPlace)} (hf : ∀ (i : Nat) (f : Field), fs[i]? = some f → DataW.trod enc Tryz.prog w base spare held n f.type ((cs.drop f.offset).take (Tryz.prog.cellsOf f.type)) = xs[i]?)
    (i ty off k : Nat) (h : (fs[i]?).map (fun f => (f.type, f.offset)) = some (ty, off)) (hk : Tryz.prog.cellsOf ty = k) : DataW.trod enc Tryz.prog w base spare held n ty ((cs.drop off).take k) = xs[i]? := by
  cases hi : fs[i]? with
  | none => simp [hi] at h
  | some f =>
    simp [hi] at h
    have := hf i f hi
    rw [h.1, h.2, hk] at this
    exact this
theorem open_two {t : TypeId} {fuel : Nat} {cs : List Value} {y : DataW H × List MemPlace} {f0 f1 : Field} (hu : Tryz.prog.underlying t = some (.struct #[f0, f1])) (hc : Tryz.prog.cellsOf t = 2)
    (h0 : f0.type = 2 ∧ f0.offset = 0) (h1 : f1.type = 2 ∧ f1.offset = 1) (h : DataW.trod enc Tryz.prog w base spare held fuel t cs = some y) : ∃ a b, cs = [.int .i64 a, .int .i64 b] := by
  obtain ⟨xs, n, _, hx, hlen, hxl, hf⟩ := DataW.trod_struct hu h
  rw [hc] at hlen
  obtain ⟨a, b, rfl⟩ := list2 hlen
  obtain ⟨y0, y1, rfl⟩ := list2 hxl
  have g0 := hf 0 f0 rfl
  have g1 := hf 1 f1 rfl
  rw [h0.1, h0.2, cells_i64] at g0
  rw [h1.1, h1.2, cells_i64] at g1
  obtain ⟨a', e0, _⟩ := DataW.trod_int Tryz.underlying2 g0
  obtain ⟨b', e1, _⟩ := DataW.trod_int Tryz.underlying2 g1
  simp at e0 e1
  exact ⟨a', b', by rw [e0, e1]⟩
theorem open_str {fuel : Nat} {v : Value} {y : DataW H × List MemPlace} (h : DataW.trod enc Tryz.prog w base spare held fuel 9 [v] = some y) : ∃ s : List UInt8, v = .string ⟨s.toArray⟩ ∧ s.length + 1 = Rows.uptoBulk y.1 := by
  obtain ⟨s, e, hx, _⟩ := DataW.trod_string Tryz.underlying9 h
  refine ⟨s.data.toList, by simpa using e, ?_⟩
  rw [hx]; simp [Rows.uptoBulk]
/-- A slice of structs: where it lies, what it holds, how much of the bulk it takes. -/
theorem open_items {α : Type} {ts te : TypeId} {n : Nat} (arrOf : α → Array Value) (bnd : α → Nat → Prop) (hmono : ∀ x a b, a ≤ b → bnd x a → bnd x b) (hut : Tryz.prog.underlying ts = some (.slice te)) (hce : Tryz.prog.cellsOf te = n) (hn : 0 < n) (hsz : ∀ x, (arrOf x).size = n)
    (hopen : ∀ {fuel : Nat} {cs : List Value} {y : DataW H × List MemPlace}, DataW.trod enc Tryz.prog w base spare held fuel te cs = some y → ∃ x, cs = (arrOf x).toList ∧ bnd x (Rows.uptoBulk y.1))
    {fuel : Nat} {v : Value} {y : DataW H × List MemPlace} (h : DataW.trod enc Tryz.prog w base spare held fuel ts [v] = some y) :
    ∃ (l : List α) (A : Option Addr) (c : Nat), v = .slice A l.length c ∧ l.length ≤ c ∧ c ≤ maxLen ∧ Items w A n (l.map arrOf) ∧ l.length ≤ Rows.uptoBulk y.1 ∧ ∀ x ∈ l, bnd x (Rows.uptoBulk y.1) := by
  rcases open_slice hut h with ⟨h0, hx⟩ | ⟨a, len, cap, m, n', D, Pl, hcs, hb, hl, hm, hmm, hx, hi⟩
  · exact ⟨[], none, 0, by simpa using h0, by simp, by unfold maxLen; omega, Items.nil _ _ _, by simp, by simp⟩
  · rw [hce] at hi
    have hlm : len ≤ m := by rw [hmm]; split <;> omega
    obtain ⟨es, hel, hes⟩ := list_of (P := fun i (x : α) => (∀ j, j < n → w.cell? ((a.add (i * n)).add j) = (arrOf x)[j]?) ∧ bnd x (Rows.uptoBulk (D i))) len (fun i hil => by
      obtain ⟨cs', hc, ht⟩ := hi i (by omega)
      obtain ⟨x, e, b1⟩ := hopen ht
      obtain ⟨_, hcl, hat⟩ := World.cells?_some hc
      refine ⟨x, fun j hj => ?_, b1⟩
      rw [hat j hj, e]; simp)
    have hbk : Rows.uptoBulkAll ((List.range len).map D) + 1 ≤ Rows.uptoBulk y.1 := by rw [hx]; simp only [Rows.uptoBulk]; omega
    have hD : ∀ i, i < len → Rows.uptoBulk (D i) ≤ Rows.uptoBulk y.1 := fun i hil => by
      have := bulk_part (show D i ∈ (List.range len).map D from List.mem_map.2 ⟨i, by simpa using hil, rfl⟩)
      omega
    have hln := bulk_len ((List.range len).map D)
    simp only [List.length_map, List.length_range] at hln
    refine ⟨es, some a, cap, by rw [hel]; simpa using hcs, by omega, by omega, ⟨fun hne => ?_⟩, by omega, fun x hx' => ?_⟩
    · obtain ⟨b, off, spot⟩ := a
      have hne' : es ≠ [] := by rintro rfl; exact hne rfl
      have hpos : 0 < es.length := List.length_pos_iff.2 hne'
      have h0 := (hes 0 es[0] (List.getElem?_eq_getElem hpos)).1 0 hn
      have hv : ∃ u, (arrOf es[0])[0]? = some u := ⟨_, Array.getElem?_eq_getElem (by rw [hsz]; exact hn)⟩
      obtain ⟨u, hv⟩ := hv
      have hsp : spot = none := by
        cases spot with
        | none => rfl
        | some q =>
          exfalso
          rw [hv] at h0
          unfold World.cell? Addr.add at h0
          split at h0 <;> simp at h0
      subst hsp
      refine ⟨b, off, rfl, ?_, fun i x hx' j hj => ?_⟩
      · rw [hv, addr_add, addr_add] at h0
        exact block_lt_of_cell h0
      · rw [List.getElem?_map] at hx'
        cases hq : es[i]? with
        | none => rw [hq] at hx'; cases hx'
        | some z =>
          rw [hq] at hx'
          obtain rfl : arrOf z = x := by simpa using hx'
          have := (hes i z hq).1 j hj
          rw [addr_add, addr_add] at this
          exact this
    · obtain ⟨i, hi', hxi⟩ := List.getElem_of_mem hx'
      have hb := (hes i x (by rw [← hxi]; exact List.getElem?_eq_getElem hi')).2
      exact hmono _ _ _ (hD i (by omega)) hb
end
end Go.Proofs.YtlleijickhifmaaGreatDoor
namespace Go.Proofs.YtlleijickhifmaaGreatDoor
open Go.RowKit Go.ChangeShapes Go.WideShapes Go.Deep
set_option linter.unusedVariables false
set_option linter.unusedSimpArgs false
theorem laidVars_memG {w : World} : ∀ {l : List (String × DataW Unit)} {ps : List MemPlace}, DataW.LaidVars Tryz.prog w l ps → ∀ n d, (n, d) ∈ l →
    ∃ g t cs fuel p, Tryz.prog.globalNamed n = some g ∧ (Tryz.prog.globals[g]?).map (·.type) = some t ∧ w.var? Tryz.prog n = some cs ∧ DataW.trod (fun _ => ()) Tryz.prog w 0 (fun _ => true) false fuel t cs.toList = some (d, p)
  | [], _, _, n, d, hm => by cases hm
  | (n', d') :: r, ps, h, n, d, hm => by
    obtain ⟨g, t, cs, fuel, p, q, h1, h2, h3, h4, h5, _⟩ := h
    rcases List.mem_cons.1 hm with e | hm
    · injection e with e1 e2
      subst e1; subst e2
      exact ⟨g, t, cs, fuel, p, h1, h2, h3, h4⟩
    · exact laidVars_memG h5 n d hm
theorem tab_ofG {w : World} {l : List (String × DataW Unit)} {ps : List MemPlace} (h : DataW.LaidVars Tryz.prog w l ps) {n : String} {k : IntKind} {zs : List Int} {g : Nat} {t e : TypeId} {m : Nat}
    (hg : Tryz.prog.globalNamed n = some g) (hty : (Tryz.prog.globals[g]?).map (·.type) = some t) (ht : Tryz.prog.underlying t = some (.array m e)) (he : Tryz.prog.underlying e = some (.int k)) (hce : Tryz.prog.cellsOf e = 1) (hct : Tryz.prog.cellsOf t = m)
    (hm : (n, Lib.tabData k zs) ∈ l) : Lib.TabIs Tryz.prog w n k zs := by
  obtain ⟨g', t', cs, fuel, p, hg', ht', hvar, hd⟩ := laidVars_memG h n _ hm
  obtain rfl := Option.some.inj (hg.symm.trans hg')
  obtain rfl := Option.some.inj (hty.symm.trans ht')
  unfold Lib.TabIs
  rw [hvar, ← Lib.cells_of_tab ht he hce hct hd]
def strDataG (ss : List (List UInt8)) : DataW Unit := .agg (ss.map fun s => .lit (.string s))
theorem strs_ofG {w : World} {l : List (String × DataW Unit)} {ps : List MemPlace} (h : DataW.LaidVars Tryz.prog w l ps) {n : String} {ss : List (List UInt8)} {g : Nat} {t e : TypeId} {m : Nat}
    (hg : Tryz.prog.globalNamed n = some g) (hty : (Tryz.prog.globals[g]?).map (·.type) = some t) (ht : Tryz.prog.underlying t = some (.array m e)) (he : Tryz.prog.underlying e = some .string) (hce : Tryz.prog.cellsOf e = 1)
    (hm : (n, strDataG ss) ∈ l) : ∀ k, k < m → k < ss.length ∧ w.cell? ⟨g, k, none⟩ = some (.string ⟨(ss.getD k []).toArray⟩) := by
  obtain ⟨g', t', cs, fuel, p, hg', ht', hvar, hd⟩ := laidVars_memG h n _ hm
  obtain rfl := Option.some.inj (hg.symm.trans hg')
  obtain rfl := Option.some.inj (hty.symm.trans ht')
  obtain ⟨xs, m', _, hx, hlen, hxl, hf⟩ := DataW.trod_array ht hd
  intro k hk
  have h1 := hf k hk
  rw [hce, Nat.mul_one, List.getElem?_eq_getElem (by omega)] at h1
  obtain ⟨s, e1, e2, _⟩ := DataW.trod_string he h1
  have h2 : (strDataG ss) = .agg (xs.map (·.1)) := by simp only [Prod.mk.injEq] at hx; exact hx.1
  unfold strDataG at h2
  injection h2 with h2
  have h3 : (ss.map fun s => (DataW.lit (H := Unit) (.string s)))[k]? = (xs.map (·.1))[k]? := by rw [h2]
  rw [List.getElem?_map, List.getElem?_map, List.getElem?_eq_getElem (show k < xs.length by omega)] at h3
  cases hs : ss[k]? with
  | none => rw [hs] at h3; cases h3
  | some s' =>
    rw [hs, e2] at h3
    have h4 : s' = s.data.toList := by simpa using h3
    have hkl : k < ss.length := (List.getElem?_eq_some_iff.1 hs).1
    refine ⟨hkl, ?_⟩
    have hc : cs.toList[k]? = some (.string s) := by
      have hkc : k < cs.toList.length := by
        rcases Nat.lt_or_ge k cs.toList.length with h | h
        · exact h
        · rw [List.drop_of_length_le h] at e1; simp at e1
      rw [List.drop_eq_getElem_cons hkc] at e1
      simp at e1
      rw [List.getElem?_eq_getElem hkc]; simp [e1]
    rw [World.var?_cell hg hvar k]
    simp only [Array.getElem?_toList] at hc
    rw [hc, List.getD_eq_getElem?_getD, hs, h4]
    rfl
end Go.Proofs.YtlleijickhifmaaGreatDoor
namespace Go.Proofs.YtlleijickhifmaaGreatDoor
open Go.RowKit Go.ChangeShapes Go.WideShapes Go.Deep
set_option linter.unusedVariables false
set_option linter.unusedSimpArgs false
theorem cells_lt : Tryz.prog.cellsOf 75 = 1 := by kernel_rfl
theorem cells_sec : Tryz.prog.cellsOf 78 = 1 := by kernel_rfl
theorem cells_win : Tryz.prog.cellsOf 51 = 2 := by kernel_rfl
theorem cells_pt : Tryz.prog.cellsOf 28 = 2 := by kernel_rfl
theorem cells_leg : Tryz.prog.cellsOf 77 = 13 := by kernel_rfl
theorem cells_ent : Tryz.prog.cellsOf 80 = 20 := by kernel_rfl
theorem cells_es : Tryz.prog.cellsOf 24 = 1 := by kernel_rfl
theorem cells_plan : Tryz.prog.cellsOf 26 = 4 := by kernel_rfl
section
variable {H : Type} {enc : TypeId × Value → H} {w : World} {base : Nat} {spare : Nat → Bool} {held : Bool}
theorem open_leg {fuel : Nat} {cs : List Value} {y : DataW H × List MemPlace} (h : DataW.trod enc Tryz.prog w base spare held fuel 77 cs = some y) : ∃ l : Leg, cs = l.arr.toList ∧ l.fix.length ≤ Rows.uptoBulk y.1 ∧ l.center.length ≤ Rows.uptoBulk y.1 := by
  obtain ⟨xs, n, _, hx, hlen, hxl, hf⟩ := DataW.trod_struct Tryz.underlying77 h
  rw [cells_leg] at hlen
  obtain ⟨c0, c1, c2, c3, c4, c5, c6, c7, c8, c9, c10, c11, c12, rfl⟩ := list13 hlen
  obtain ⟨y0, y1, y2, y3, y4, y5, y6, y7, y8, y9, y10, y11, rfl⟩ := list12 hxl
  have g0 := fld hf 0 75 0 1 rfl cells_lt
  have g1 := fld hf 1 9 1 1 rfl cells_str
  have g2 := fld hf 2 9 2 1 rfl cells_str
  have g3 := fld hf 3 5 3 1 rfl cells_u8
  have g4 := fld hf 4 4 4 1 rfl cells_bool
  have g5 := fld hf 5 2 5 1 rfl cells_i64
  have g6 := fld hf 6 2 6 1 rfl cells_i64
  have g7 := fld hf 7 2 7 1 rfl cells_i64
  have g8 := fld hf 8 2 8 1 rfl cells_i64
  have g9 := fld hf 9 51 9 2 rfl cells_win
  have g10 := fld hf 10 2 11 1 rfl cells_i64
  have g11 := fld hf 11 2 12 1 rfl cells_i64
  simp only [List.drop_succ_cons, List.drop_zero, List.take_succ_cons, List.take_zero, List.getElem?_cons_succ, List.getElem?_cons_zero] at g0 g1 g2 g3 g4 g5 g6 g7 g8 g9 g10 g11
  obtain ⟨v0, e0, _⟩ := DataW.trod_int Tryz.underlying75 g0
  obtain ⟨v1, e1, b1⟩ := open_str g1
  obtain ⟨v2, e2, b2⟩ := open_str g2
  obtain ⟨v3, e3, _⟩ := DataW.trod_int Tryz.underlying5 g3
  obtain ⟨v4, e4, _⟩ := DataW.trod_bool Tryz.underlying4 g4
  obtain ⟨v5, e5, _⟩ := DataW.trod_int Tryz.underlying2 g5
  obtain ⟨v6, e6, _⟩ := DataW.trod_int Tryz.underlying2 g6
  obtain ⟨v7, e7, _⟩ := DataW.trod_int Tryz.underlying2 g7
  obtain ⟨v8, e8, _⟩ := DataW.trod_int Tryz.underlying2 g8
  obtain ⟨v9, v10, e9⟩ := open_two Tryz.underlying51 cells_win ⟨rfl, rfl⟩ ⟨rfl, rfl⟩ g9
  obtain ⟨v11, e11, _⟩ := DataW.trod_int Tryz.underlying2 g10
  obtain ⟨v12, e12, _⟩ := DataW.trod_int Tryz.underlying2 g11
  simp only [List.cons.injEq, and_true] at e0 e3 e4 e5 e6 e7 e8 e9 e11 e12
  obtain ⟨e9, e10⟩ := e9
  have hy : Rows.uptoBulk y.1 = Rows.uptoBulkAll [y0.1, y1.1, y2.1, y3.1, y4.1, y5.1, y6.1, y7.1, y8.1, y9.1, y10.1, y11.1] + 1 := by rw [hx]; simp [Rows.uptoBulk]
  have p1 : Rows.uptoBulk y1.1 ≤ Rows.uptoBulkAll [y0.1, y1.1, y2.1, y3.1, y4.1, y5.1, y6.1, y7.1, y8.1, y9.1, y10.1, y11.1] := bulk_part (by simp)
  have p2 : Rows.uptoBulk y2.1 ≤ Rows.uptoBulkAll [y0.1, y1.1, y2.1, y3.1, y4.1, y5.1, y6.1, y7.1, y8.1, y9.1, y10.1, y11.1] := bulk_part (by simp)
  refine ⟨⟨v0, v1, v2, v3, v4, v5, v6, v7, v8, v9, v10, v11, v12⟩, ?_, ?_, ?_⟩
  · rw [e0, e1, e2, e3, e4, e5, e6, e7, e8, e9, e10, e11, e12]; rfl
  · show v1.length ≤ _; omega
  · show v2.length ≤ _; omega
theorem open_ent {fuel : Nat} {cs : List Value} {y : DataW H × List MemPlace} (h : DataW.trod enc Tryz.prog w base spare held fuel 80 cs = some y) :
    ∃ x : Entry, cs = x.arr.toList ∧ x.leg.fix.length ≤ Rows.uptoBulk y.1 ∧ x.leg.center.length ≤ Rows.uptoBulk y.1 ∧ x.via.length ≤ Rows.uptoBulk y.1 := by
  obtain ⟨xs, n, _, hx, hlen, hxl, hf⟩ := DataW.trod_struct Tryz.underlying80 h
  rw [cells_ent] at hlen
  obtain ⟨c0, c1, c2, c3, c4, c5, c6, c7, c8, c9, c10, c11, c12, c13, c14, c15, c16, c17, c18, c19, rfl⟩ := list20 hlen
  obtain ⟨y0, y1, y2, y3, y4, y5, rfl⟩ := list6 hxl
  have g0 := fld hf 0 4 0 1 rfl cells_bool
  have g1 := fld hf 1 77 1 13 rfl cells_leg
  have g2 := fld hf 2 28 14 2 rfl cells_pt
  have g3 := fld hf 3 28 16 2 rfl cells_pt
  have g4 := fld hf 4 78 18 1 rfl cells_sec
  have g5 := fld hf 5 9 19 1 rfl cells_str
  simp only [List.drop_succ_cons, List.drop_zero, List.take_succ_cons, List.take_zero, List.getElem?_cons_succ, List.getElem?_cons_zero] at g0 g1 g2 g3 g4 g5
  obtain ⟨v0, e0, _⟩ := DataW.trod_bool Tryz.underlying4 g0
  obtain ⟨l, e1, b1, b2⟩ := open_leg g1
  obtain ⟨v2, v3, e2⟩ := open_two Tryz.underlying28 cells_pt ⟨rfl, rfl⟩ ⟨rfl, rfl⟩ g2
  obtain ⟨v4, v5, e3⟩ := open_two Tryz.underlying28 cells_pt ⟨rfl, rfl⟩ ⟨rfl, rfl⟩ g3
  obtain ⟨v6, e4, _⟩ := DataW.trod_int Tryz.underlying78 g4
  obtain ⟨v7, e5, b5⟩ := open_str g5
  have hy : Rows.uptoBulk y.1 = Rows.uptoBulkAll [y0.1, y1.1, y2.1, y3.1, y4.1, y5.1] + 1 := by rw [hx]; simp [Rows.uptoBulk]
  have p1 : Rows.uptoBulk y1.1 ≤ Rows.uptoBulkAll [y0.1, y1.1, y2.1, y3.1, y4.1, y5.1] := bulk_part (by simp)
  have p5 : Rows.uptoBulk y5.1 ≤ Rows.uptoBulkAll [y0.1, y1.1, y2.1, y3.1, y4.1, y5.1] := bulk_part (by simp)
  refine ⟨⟨v0, l, v2, v3, v4, v5, v6, v7⟩, ?_, ?_, ?_, ?_⟩
  · simp only [List.cons.injEq, and_true] at e0 e2 e3 e4
    have e1' : [c1, c2, c3, c4, c5, c6, c7, c8, c9, c10, c11, c12, c13] = l.arr.toList := e1
    have : [c0, c1, c2, c3, c4, c5, c6, c7, c8, c9, c10, c11, c12, c13, c14, c15, c16, c17, c18, c19] = [c0] ++ [c1, c2, c3, c4, c5, c6, c7, c8, c9, c10, c11, c12, c13] ++ [c14, c15, c16, c17, c18, c19] := rfl
    rw [this, e1', e0, e2.1, e2.2, e3.1, e3.2, e4, e5]; rfl
  · show l.fix.length ≤ _; omega
  · show l.center.length ≤ _; omega
  · show v7.length ≤ _; omega
end
section
variable {H : Type} {enc : TypeId × Value → H} {w : World} {base : Nat} {spare : Nat → Bool} {held : Bool}
/-- A slice of entries: where it lies, what it holds, how much of the bulk it takes. -/
theorem open_ents {fuel : Nat} {v : Value} {y : DataW H × List MemPlace} (h : DataW.trod enc Tryz.prog w base spare held fuel 24 [v] = some y) :
    ∃ (es : List Entry) (A : Option Addr) (c : Nat), v = .slice A es.length c ∧ es.length ≤ c ∧ Ents w A es ∧ es.length ≤ Rows.uptoBulk y.1 ∧ ∀ x ∈ es, x.leg.fix.length ≤ Rows.uptoBulk y.1 ∧ x.leg.center.length ≤ Rows.uptoBulk y.1 ∧ x.via.length ≤ Rows.uptoBulk y.1 := by
  rcases open_slice Tryz.underlying24 h with ⟨h0, hx⟩ | ⟨a, len, cap, m, n, D, Pl, hcs, hb, hl, hm, hmm, hx, hi⟩
  · exact ⟨[], none, 0, by simpa using h0, by simp, Ents.nil _ _, by simp, by simp⟩
  · rw [cells_ent] at hi
    have hlm : len ≤ m := by rw [hmm]; split <;> omega
    obtain ⟨es, hel, hes⟩ := list_of (P := fun i (x : Entry) => (∀ j, j < 20 → w.cell? ((a.add (i * 20)).add j) = x.arr[j]?) ∧ x.leg.fix.length ≤ Rows.uptoBulk (D i) ∧ x.leg.center.length ≤ Rows.uptoBulk (D i) ∧ x.via.length ≤ Rows.uptoBulk (D i)) len (fun i hil => by
      obtain ⟨cs', hc, ht⟩ := hi i (by omega)
      obtain ⟨x, e, b1, b2, b3⟩ := open_ent ht
      obtain ⟨_, hcl, hat⟩ := World.cells?_some hc
      refine ⟨x, fun j hj => ?_, b1, b2, b3⟩
      rw [hat j hj, e]; simp)
    have hbk : Rows.uptoBulkAll ((List.range len).map D) + 1 ≤ Rows.uptoBulk y.1 := by rw [hx]; simp only [Rows.uptoBulk]; omega
    have hD : ∀ i, i < len → Rows.uptoBulk (D i) ≤ Rows.uptoBulk y.1 := fun i hil => by
      have := bulk_part (show D i ∈ (List.range len).map D from List.mem_map.2 ⟨i, by simpa using hil, rfl⟩)
      omega
    have hln := bulk_len ((List.range len).map D)
    simp only [List.length_map, List.length_range] at hln
    refine ⟨es, some a, cap, by rw [hel]; simpa using hcs, by omega, ⟨fun hne => ?_⟩, by omega, fun x hx' => ?_⟩
    · obtain ⟨b, off, spot⟩ := a
      have hpos : 0 < es.length := List.length_pos_iff.2 hne
      have h0 := (hes 0 es[0] (List.getElem?_eq_getElem hpos)).1 0 (by omega)
      have hsp : spot = none := by
        cases spot with
        | none => rfl
        | some q =>
          exfalso
          rw [Entry.arr0] at h0
          unfold World.cell? Addr.add at h0
          split at h0 <;> simp at h0
      subst hsp
      refine ⟨b, off, rfl, ?_, fun i x hx' j hj => ?_⟩
      · rw [Entry.arr0, addr_add, addr_add] at h0
        exact block_lt_of_cell h0
      · have := (hes i x hx').1 j hj
        rw [addr_add, addr_add] at this
        exact this
    · obtain ⟨i, hi', hxi⟩ := List.getElem_of_mem hx'
      have hb := (hes i x (by rw [← hxi]; exact List.getElem?_eq_getElem hi')).2
      have := hD i (by omega)
      omega
end
end Go.Proofs.YtlleijickhifmaaGreatDoor
namespace Go.Proofs.YtlleijickhifmaaGreatDoor
open Go.RowKit Go.ChangeShapes Go.WideShapes Go.Deep
set_option linter.unusedVariables false
set_option linter.unusedSimpArgs false
structure Est where
  px : Int
  py : Int
  lx : Int
  ly : Int
  usable : Bool
  excluded : Int

def Est.arr (x : Est) : Array Value := #[.int .i64 x.px, .int .i64 x.py, .int .i64 x.lx, .int .i64 x.ly, .bool x.usable, .int .i64 x.excluded]
abbrev Est.val (x : Est) : Value := .agg x.arr
theorem Est.arr_size (x : Est) : x.arr.size = 6 := rfl
theorem Est.arr_sz (x : Est) : x.arr.size = 6 := by simp [Est.arr]
theorem Est.arr_one (x : Est) : x.arr.all (·.oneCell') = true := by simp [Est.arr, Value.oneCell']
theorem Est.arr0 (x : Est) : x.arr[0]? = some (.int .i64 x.px) := rfl
theorem Est.arr1 (x : Est) : x.arr[1]? = some (.int .i64 x.py) := rfl
theorem Est.arr2 (x : Est) : x.arr[2]? = some (.int .i64 x.lx) := rfl
theorem Est.arr3 (x : Est) : x.arr[3]? = some (.int .i64 x.ly) := rfl
theorem Est.arr4 (x : Est) : x.arr[4]? = some (.bool x.usable) := rfl
theorem Est.arr5 (x : Est) : x.arr[5]? = some (.int .i64 x.excluded) := rfl
attribute [go_sem] Est.arr0 Est.arr1 Est.arr2 Est.arr3 Est.arr4 Est.arr5
structure Prg where
  a : Int
  b : Int
  done : Bool

def Prg.arr (x : Prg) : Array Value := #[.int .i64 x.a, .int .i64 x.b, .bool x.done]
abbrev Prg.val (x : Prg) : Value := .agg x.arr
theorem Prg.arr_size (x : Prg) : x.arr.size = 3 := rfl
theorem Prg.arr_sz (x : Prg) : x.arr.size = 3 := by simp [Prg.arr]
theorem Prg.arr_one (x : Prg) : x.arr.all (·.oneCell') = true := by simp [Prg.arr, Value.oneCell']
theorem Prg.arr0 (x : Prg) : x.arr[0]? = some (.int .i64 x.a) := rfl
theorem Prg.arr1 (x : Prg) : x.arr[1]? = some (.int .i64 x.b) := rfl
theorem Prg.arr2 (x : Prg) : x.arr[2]? = some (.bool x.done) := rfl
attribute [go_sem] Prg.arr0 Prg.arr1 Prg.arr2
structure Cfl where
  a : Int
  b : Int

def Cfl.arr (x : Cfl) : Array Value := #[.int .i64 x.a, .int .i64 x.b]
abbrev Cfl.val (x : Cfl) : Value := .agg x.arr
theorem Cfl.arr_size (x : Cfl) : x.arr.size = 2 := rfl
theorem Cfl.arr_sz (x : Cfl) : x.arr.size = 2 := by simp [Cfl.arr]
theorem Cfl.arr_one (x : Cfl) : x.arr.all (·.oneCell') = true := by simp [Cfl.arr, Value.oneCell']
theorem Cfl.arr0 (x : Cfl) : x.arr[0]? = some (.int .i64 x.a) := rfl
theorem Cfl.arr1 (x : Cfl) : x.arr[1]? = some (.int .i64 x.b) := rfl
attribute [go_sem] Cfl.arr0 Cfl.arr1
structure Tgt where
  lat : Int
  vert : Int
  phase : Int
  bank : Int
  speed : Int
  alt : Int
  vs : Int

def Tgt.arr (x : Tgt) : Array Value := #[.int .u8 x.lat, .int .u8 x.vert, .int .u8 x.phase, .int .i64 x.bank, .int .i64 x.speed, .int .i64 x.alt, .int .i64 x.vs]
abbrev Tgt.val (x : Tgt) : Value := .agg x.arr
theorem Tgt.arr_size (x : Tgt) : x.arr.size = 7 := rfl
theorem Tgt.arr_sz (x : Tgt) : x.arr.size = 7 := by simp [Tgt.arr]
theorem Tgt.arr_one (x : Tgt) : x.arr.all (·.oneCell') = true := by simp [Tgt.arr, Value.oneCell']
theorem Tgt.arr0 (x : Tgt) : x.arr[0]? = some (.int .u8 x.lat) := rfl
theorem Tgt.arr1 (x : Tgt) : x.arr[1]? = some (.int .u8 x.vert) := rfl
theorem Tgt.arr2 (x : Tgt) : x.arr[2]? = some (.int .u8 x.phase) := rfl
theorem Tgt.arr3 (x : Tgt) : x.arr[3]? = some (.int .i64 x.bank) := rfl
theorem Tgt.arr4 (x : Tgt) : x.arr[4]? = some (.int .i64 x.speed) := rfl
theorem Tgt.arr5 (x : Tgt) : x.arr[5]? = some (.int .i64 x.alt) := rfl
theorem Tgt.arr6 (x : Tgt) : x.arr[6]? = some (.int .i64 x.vs) := rfl
attribute [go_sem] Tgt.arr0 Tgt.arr1 Tgt.arr2 Tgt.arr3 Tgt.arr4 Tgt.arr5 Tgt.arr6
theorem cells_est_1 : Tryz.prog.cellsOf 28 = 2 := by kernel_rfl
theorem cells_est : Tryz.prog.cellsOf 30 = 6 := by kernel_rfl
def Est.bnd (x : Est) (N : Nat) : Prop := True
section
variable {H : Type} {enc : TypeId × Value → H} {w : World} {base : Nat} {spare : Nat → Bool} {held : Bool}
theorem list_n_est {α : Type _} {l : List α} (h : l.length = 6) : ∃ x0 x1 x2 x3 x4 x5, l = [x0, x1, x2, x3, x4, x5] := by
  match l, h with
  | [x0, x1, x2, x3, x4, x5], _ => exact ⟨x0, x1, x2, x3, x4, x5, rfl⟩
theorem list_f_est {α : Type _} {l : List α} (h : l.length = 5) : ∃ x0 x1 x2 x3 x4, l = [x0, x1, x2, x3, x4] := by
  match l, h with
  | [x0, x1, x2, x3, x4], _ => exact ⟨x0, x1, x2, x3, x4, rfl⟩
theorem open_est {fuel : Nat} {cs : List Value} {y : DataW H × List MemPlace} (h : DataW.trod enc Tryz.prog w base spare held fuel 30 cs = some y) : ∃ x : Est, cs = x.arr.toList ∧ x.bnd (Rows.uptoBulk y.1) := by
  obtain ⟨xs, n, _, hx, hlen, hxl, hf⟩ := DataW.trod_struct Tryz.underlying30 h
  rw [cells_est] at hlen
  obtain ⟨c0, c1, c2, c3, c4, c5, rfl⟩ := list_n_est hlen
  obtain ⟨y0, y1, y2, y3, y4, rfl⟩ := list_f_est hxl
  have g0 := fld hf 0 28 0 2 rfl cells_est_1
  have g1 := fld hf 1 2 2 1 rfl cells_i64
  have g2 := fld hf 2 2 3 1 rfl cells_i64
  have g3 := fld hf 3 4 4 1 rfl cells_bool
  have g4 := fld hf 4 3 5 1 rfl cells_int
  simp only [List.drop_succ_cons, List.drop_zero, List.take_succ_cons, List.take_zero, List.getElem?_cons_succ, List.getElem?_cons_zero] at g0 g1 g2 g3 g4
  obtain ⟨v0, v0', e0⟩ := open_two Tryz.underlying28 cells_est_1 ⟨rfl, rfl⟩ ⟨rfl, rfl⟩ g0
  obtain ⟨v1, e1, _⟩ := DataW.trod_int Tryz.underlying2 g1
  obtain ⟨v2, e2, _⟩ := DataW.trod_int Tryz.underlying2 g2
  obtain ⟨v3, e3, _⟩ := DataW.trod_bool Tryz.underlying4 g3
  obtain ⟨v4, e4, _⟩ := DataW.trod_int Tryz.underlying3 g4
  simp only [List.cons.injEq, and_true] at e1 e2 e3 e4
  have hy : Rows.uptoBulk y.1 = Rows.uptoBulkAll [y0.1, y1.1, y2.1, y3.1, y4.1] + 1 := by rw [hx]; simp [Rows.uptoBulk]
  refine ⟨⟨v0, v0', v1, v2, v3, v4⟩, ?_, ?_⟩
  · have e : [c0, c1, c2, c3, c4, c5] = [c0, c1] ++ [c2] ++ [c3] ++ [c4] ++ [c5] := rfl
    rw [e, e0, e1, e2, e3, e4]
    rfl
  · trivial
end
theorem Est.bnd.mono {x : Est} {a b : Nat} (h : x.bnd a) (hab : a ≤ b) : x.bnd b := trivial
theorem cells_prg : Tryz.prog.cellsOf 32 = 3 := by kernel_rfl
def Prg.bnd (x : Prg) (N : Nat) : Prop := True
section
variable {H : Type} {enc : TypeId × Value → H} {w : World} {base : Nat} {spare : Nat → Bool} {held : Bool}
theorem list_n_prg {α : Type _} {l : List α} (h : l.length = 3) : ∃ x0 x1 x2, l = [x0, x1, x2] := by
  match l, h with
  | [x0, x1, x2], _ => exact ⟨x0, x1, x2, rfl⟩
theorem open_prg {fuel : Nat} {cs : List Value} {y : DataW H × List MemPlace} (h : DataW.trod enc Tryz.prog w base spare held fuel 32 cs = some y) : ∃ x : Prg, cs = x.arr.toList ∧ x.bnd (Rows.uptoBulk y.1) := by
  obtain ⟨xs, n, _, hx, hlen, hxl, hf⟩ := DataW.trod_struct Tryz.underlying32 h
  rw [cells_prg] at hlen
  obtain ⟨c0, c1, c2, rfl⟩ := list_n_prg hlen
  obtain ⟨y0, y1, y2, rfl⟩ := list_n_prg hxl
  have g0 := fld hf 0 3 0 1 rfl cells_int
  have g1 := fld hf 1 3 1 1 rfl cells_int
  have g2 := fld hf 2 4 2 1 rfl cells_bool
  simp only [List.drop_succ_cons, List.drop_zero, List.take_succ_cons, List.take_zero, List.getElem?_cons_succ, List.getElem?_cons_zero] at g0 g1 g2
  obtain ⟨v0, e0, _⟩ := DataW.trod_int Tryz.underlying3 g0
  obtain ⟨v1, e1, _⟩ := DataW.trod_int Tryz.underlying3 g1
  obtain ⟨v2, e2, _⟩ := DataW.trod_bool Tryz.underlying4 g2
  simp only [List.cons.injEq, and_true] at e0 e1 e2
  have hy : Rows.uptoBulk y.1 = Rows.uptoBulkAll [y0.1, y1.1, y2.1] + 1 := by rw [hx]; simp [Rows.uptoBulk]
  refine ⟨⟨v0, v1, v2⟩, ?_, ?_⟩
  · have e : [c0, c1, c2] = [c0] ++ [c1] ++ [c2] := rfl
    rw [e, e0, e1, e2]
    rfl
  · trivial
end
theorem Prg.bnd.mono {x : Prg} {a b : Nat} (h : x.bnd a) (hab : a ≤ b) : x.bnd b := trivial
theorem cells_cfl : Tryz.prog.cellsOf 35 = 2 := by kernel_rfl
def Cfl.bnd (x : Cfl) (N : Nat) : Prop := True
section
variable {H : Type} {enc : TypeId × Value → H} {w : World} {base : Nat} {spare : Nat → Bool} {held : Bool}
theorem list_n_cfl {α : Type _} {l : List α} (h : l.length = 2) : ∃ x0 x1, l = [x0, x1] := by
  match l, h with
  | [x0, x1], _ => exact ⟨x0, x1, rfl⟩
theorem open_cfl {fuel : Nat} {cs : List Value} {y : DataW H × List MemPlace} (h : DataW.trod enc Tryz.prog w base spare held fuel 35 cs = some y) : ∃ x : Cfl, cs = x.arr.toList ∧ x.bnd (Rows.uptoBulk y.1) := by
  obtain ⟨xs, n, _, hx, hlen, hxl, hf⟩ := DataW.trod_struct Tryz.underlying35 h
  rw [cells_cfl] at hlen
  obtain ⟨c0, c1, rfl⟩ := list_n_cfl hlen
  obtain ⟨y0, y1, rfl⟩ := list_n_cfl hxl
  have g0 := fld hf 0 3 0 1 rfl cells_int
  have g1 := fld hf 1 3 1 1 rfl cells_int
  simp only [List.drop_succ_cons, List.drop_zero, List.take_succ_cons, List.take_zero, List.getElem?_cons_succ, List.getElem?_cons_zero] at g0 g1
  obtain ⟨v0, e0, _⟩ := DataW.trod_int Tryz.underlying3 g0
  obtain ⟨v1, e1, _⟩ := DataW.trod_int Tryz.underlying3 g1
  simp only [List.cons.injEq, and_true] at e0 e1
  have hy : Rows.uptoBulk y.1 = Rows.uptoBulkAll [y0.1, y1.1] + 1 := by rw [hx]; simp [Rows.uptoBulk]
  refine ⟨⟨v0, v1⟩, ?_, ?_⟩
  · have e : [c0, c1] = [c0] ++ [c1] := rfl
    rw [e, e0, e1]
    rfl
  · trivial
end
theorem Cfl.bnd.mono {x : Cfl} {a b : Nat} (h : x.bnd a) (hab : a ≤ b) : x.bnd b := trivial
theorem cells_tgt : Tryz.prog.cellsOf 40 = 7 := by kernel_rfl
def Tgt.bnd (x : Tgt) (N : Nat) : Prop := True
section
variable {H : Type} {enc : TypeId × Value → H} {w : World} {base : Nat} {spare : Nat → Bool} {held : Bool}
theorem list_n_tgt {α : Type _} {l : List α} (h : l.length = 7) : ∃ x0 x1 x2 x3 x4 x5 x6, l = [x0, x1, x2, x3, x4, x5, x6] := by
  match l, h with
  | [x0, x1, x2, x3, x4, x5, x6], _ => exact ⟨x0, x1, x2, x3, x4, x5, x6, rfl⟩
theorem open_tgt {fuel : Nat} {cs : List Value} {y : DataW H × List MemPlace} (h : DataW.trod enc Tryz.prog w base spare held fuel 40 cs = some y) : ∃ x : Tgt, cs = x.arr.toList ∧ x.bnd (Rows.uptoBulk y.1) := by
  obtain ⟨xs, n, _, hx, hlen, hxl, hf⟩ := DataW.trod_struct Tryz.underlying40 h
  rw [cells_tgt] at hlen
  obtain ⟨c0, c1, c2, c3, c4, c5, c6, rfl⟩ := list_n_tgt hlen
  obtain ⟨y0, y1, y2, y3, y4, y5, y6, rfl⟩ := list_n_tgt hxl
  have g0 := fld hf 0 5 0 1 rfl cells_u8
  have g1 := fld hf 1 5 1 1 rfl cells_u8
  have g2 := fld hf 2 5 2 1 rfl cells_u8
  have g3 := fld hf 3 2 3 1 rfl cells_i64
  have g4 := fld hf 4 2 4 1 rfl cells_i64
  have g5 := fld hf 5 2 5 1 rfl cells_i64
  have g6 := fld hf 6 2 6 1 rfl cells_i64
  simp only [List.drop_succ_cons, List.drop_zero, List.take_succ_cons, List.take_zero, List.getElem?_cons_succ, List.getElem?_cons_zero] at g0 g1 g2 g3 g4 g5 g6
  obtain ⟨v0, e0, _⟩ := DataW.trod_int Tryz.underlying5 g0
  obtain ⟨v1, e1, _⟩ := DataW.trod_int Tryz.underlying5 g1
  obtain ⟨v2, e2, _⟩ := DataW.trod_int Tryz.underlying5 g2
  obtain ⟨v3, e3, _⟩ := DataW.trod_int Tryz.underlying2 g3
  obtain ⟨v4, e4, _⟩ := DataW.trod_int Tryz.underlying2 g4
  obtain ⟨v5, e5, _⟩ := DataW.trod_int Tryz.underlying2 g5
  obtain ⟨v6, e6, _⟩ := DataW.trod_int Tryz.underlying2 g6
  simp only [List.cons.injEq, and_true] at e0 e1 e2 e3 e4 e5 e6
  have hy : Rows.uptoBulk y.1 = Rows.uptoBulkAll [y0.1, y1.1, y2.1, y3.1, y4.1, y5.1, y6.1] + 1 := by rw [hx]; simp [Rows.uptoBulk]
  refine ⟨⟨v0, v1, v2, v3, v4, v5, v6⟩, ?_, ?_⟩
  · have e : [c0, c1, c2, c3, c4, c5, c6] = [c0] ++ [c1] ++ [c2] ++ [c3] ++ [c4] ++ [c5] ++ [c6] := rfl
    rw [e, e0, e1, e2, e3, e4, e5, e6]
    rfl
  · trivial
end
theorem Tgt.bnd.mono {x : Tgt} {a b : Nat} (h : x.bnd a) (hab : a ≤ b) : x.bnd b := trivial
theorem cells_term : Tryz.prog.cellsOf 23 = 3 := by kernel_rfl
def Term.bnd (x : Term) (N : Nat) : Prop := x.pad.length ≤ N
section
variable {H : Type} {enc : TypeId × Value → H} {w : World} {base : Nat} {spare : Nat → Bool} {held : Bool}
theorem list_n_term {α : Type _} {l : List α} (h : l.length = 3) : ∃ x0 x1 x2, l = [x0, x1, x2] := by
  match l, h with
  | [x0, x1, x2], _ => exact ⟨x0, x1, x2, rfl⟩
theorem open_term {fuel : Nat} {cs : List Value} {y : DataW H × List MemPlace} (h : DataW.trod enc Tryz.prog w base spare held fuel 23 cs = some y) : ∃ x : Term, cs = x.arr.toList ∧ x.bnd (Rows.uptoBulk y.1) := by
  obtain ⟨xs, n, _, hx, hlen, hxl, hf⟩ := DataW.trod_struct Tryz.underlying23 h
  rw [cells_term] at hlen
  obtain ⟨c0, c1, c2, rfl⟩ := list_n_term hlen
  obtain ⟨y0, y1, y2, rfl⟩ := list_n_term hxl
  have g0 := fld hf 0 3 0 1 rfl cells_int
  have g1 := fld hf 1 3 1 1 rfl cells_int
  have g2 := fld hf 2 9 2 1 rfl cells_str
  simp only [List.drop_succ_cons, List.drop_zero, List.take_succ_cons, List.take_zero, List.getElem?_cons_succ, List.getElem?_cons_zero] at g0 g1 g2
  obtain ⟨v0, e0, _⟩ := DataW.trod_int Tryz.underlying3 g0
  obtain ⟨v1, e1, _⟩ := DataW.trod_int Tryz.underlying3 g1
  obtain ⟨v2, e2, b2⟩ := open_str g2
  simp only [List.cons.injEq, and_true] at e0 e1
  have hy : Rows.uptoBulk y.1 = Rows.uptoBulkAll [y0.1, y1.1, y2.1] + 1 := by rw [hx]; simp [Rows.uptoBulk]
  have p2 : Rows.uptoBulk y2.1 ≤ Rows.uptoBulkAll [y0.1, y1.1, y2.1] := bulk_part (by simp)
  refine ⟨⟨v0, v1, v2⟩, ?_, ?_⟩
  · have e : [c0, c1, c2] = [c0] ++ [c1] ++ [c2] := rfl
    rw [e, e0, e1, e2]
    rfl
  · exact by show v2.length ≤ _; omega
end
theorem Term.bnd.mono {x : Term} {a b : Nat} (h : x.bnd a) (hab : a ≤ b) : x.bnd b := Nat.le_trans h hab
theorem cells_pred : Tryz.prog.cellsOf 37 = 4 := by kernel_rfl
theorem cells_view : Tryz.prog.cellsOf 44 = 42 := by kernel_rfl
theorem cells_errno : Tryz.prog.cellsOf 42 = 1 := by kernel_rfl
theorem cells_ss : Tryz.prog.cellsOf 41 = 1 := by kernel_rfl
theorem cells_is : Tryz.prog.cellsOf 38 = 1 := by kernel_rfl
theorem cells_ps : Tryz.prog.cellsOf 33 = 1 := by kernel_rfl
theorem list3 {α : Type _} {l : List α} (h : l.length = 3) : ∃ x0 x1 x2, l = [x0, x1, x2] := by
  match l, h with
  | [x0, x1, x2], _ => exact ⟨x0, x1, x2, rfl⟩
theorem lcons {α : Type _} {l : List α} {n : Nat} (h : l.length = n + 1) : ∃ x r, l = x :: r ∧ r.length = n := by
  cases l with
  | nil => simp at h
  | cons x r => exact ⟨x, r, rfl, by simpa using h⟩
set_option maxRecDepth 100000 in
theorem list42 {α : Type _} {l : List α} (h : l.length = 42) : ∃ c0 c1 c2 c3 c4 c5 c6 c7 c8 c9 c10 c11 c12 c13 c14 c15 c16 c17 c18 c19 c20 c21 c22 c23 c24 c25 c26 c27 c28 c29 c30 c31 c32 c33 c34 c35 c36 c37 c38 c39 c40 c41, l = [c0, c1, c2, c3, c4, c5, c6, c7, c8, c9, c10, c11, c12, c13, c14, c15, c16, c17, c18, c19, c20, c21, c22, c23, c24, c25, c26, c27, c28, c29, c30, c31, c32, c33, c34, c35, c36, c37, c38, c39, c40, c41] := by
  obtain ⟨c0, r0, rfl, h1⟩ := lcons h
  obtain ⟨c1, r1, rfl, h2⟩ := lcons h1
  obtain ⟨c2, r2, rfl, h3⟩ := lcons h2
  obtain ⟨c3, r3, rfl, h4⟩ := lcons h3
  obtain ⟨c4, r4, rfl, h5⟩ := lcons h4
  obtain ⟨c5, r5, rfl, h6⟩ := lcons h5
  obtain ⟨c6, r6, rfl, h7⟩ := lcons h6
  obtain ⟨c7, r7, rfl, h8⟩ := lcons h7
  obtain ⟨c8, r8, rfl, h9⟩ := lcons h8
  obtain ⟨c9, r9, rfl, h10⟩ := lcons h9
  obtain ⟨c10, r10, rfl, h11⟩ := lcons h10
  obtain ⟨c11, r11, rfl, h12⟩ := lcons h11
  obtain ⟨c12, r12, rfl, h13⟩ := lcons h12
  obtain ⟨c13, r13, rfl, h14⟩ := lcons h13
  obtain ⟨c14, r14, rfl, h15⟩ := lcons h14
  obtain ⟨c15, r15, rfl, h16⟩ := lcons h15
  obtain ⟨c16, r16, rfl, h17⟩ := lcons h16
  obtain ⟨c17, r17, rfl, h18⟩ := lcons h17
  obtain ⟨c18, r18, rfl, h19⟩ := lcons h18
  obtain ⟨c19, r19, rfl, h20⟩ := lcons h19
  obtain ⟨c20, r20, rfl, h21⟩ := lcons h20
  obtain ⟨c21, r21, rfl, h22⟩ := lcons h21
  obtain ⟨c22, r22, rfl, h23⟩ := lcons h22
  obtain ⟨c23, r23, rfl, h24⟩ := lcons h23
  obtain ⟨c24, r24, rfl, h25⟩ := lcons h24
  obtain ⟨c25, r25, rfl, h26⟩ := lcons h25
  obtain ⟨c26, r26, rfl, h27⟩ := lcons h26
  obtain ⟨c27, r27, rfl, h28⟩ := lcons h27
  obtain ⟨c28, r28, rfl, h29⟩ := lcons h28
  obtain ⟨c29, r29, rfl, h30⟩ := lcons h29
  obtain ⟨c30, r30, rfl, h31⟩ := lcons h30
  obtain ⟨c31, r31, rfl, h32⟩ := lcons h31
  obtain ⟨c32, r32, rfl, h33⟩ := lcons h32
  obtain ⟨c33, r33, rfl, h34⟩ := lcons h33
  obtain ⟨c34, r34, rfl, h35⟩ := lcons h34
  obtain ⟨c35, r35, rfl, h36⟩ := lcons h35
  obtain ⟨c36, r36, rfl, h37⟩ := lcons h36
  obtain ⟨c37, r37, rfl, h38⟩ := lcons h37
  obtain ⟨c38, r38, rfl, h39⟩ := lcons h38
  obtain ⟨c39, r39, rfl, h40⟩ := lcons h39
  obtain ⟨c40, r40, rfl, h41⟩ := lcons h40
  obtain ⟨c41, r41, rfl, h42⟩ := lcons h41
  obtain rfl := List.length_eq_zero_iff.1 h42
  exact ⟨c0, c1, c2, c3, c4, c5, c6, c7, c8, c9, c10, c11, c12, c13, c14, c15, c16, c17, c18, c19, c20, c21, c22, c23, c24, c25, c26, c27, c28, c29, c30, c31, c32, c33, c34, c35, c36, c37, c38, c39, c40, c41, rfl⟩
theorem list20y {α : Type _} {l : List α} (h : l.length = 20) : ∃ y0 y1 y2 y3 y4 y5 y6 y7 y8 y9 y10 y11 y12 y13 y14 y15 y16 y17 y18 y19, l = [y0, y1, y2, y3, y4, y5, y6, y7, y8, y9, y10, y11, y12, y13, y14, y15, y16, y17, y18, y19] := by
  match l, h with
  | [y0, y1, y2, y3, y4, y5, y6, y7, y8, y9, y10, y11, y12, y13, y14, y15, y16, y17, y18, y19], _ => exact ⟨y0, y1, y2, y3, y4, y5, y6, y7, y8, y9, y10, y11, y12, y13, y14, y15, y16, y17, y18, y19, rfl⟩
section
variable {H : Type} {enc : TypeId × Value → H} {w : World} {base : Nat} {spare : Nat → Bool} {held : Bool}
theorem open_planC {fuel : Nat} {cs : List Value} {y : DataW H × List MemPlace} (h : DataW.trod enc Tryz.prog w base spare held fuel 26 cs = some y) :
    ∃ (p : Plan) (A : Option Addr) (c : Nat), cs = (p.arr A c).toList ∧ p.es.length ≤ c ∧ Ents w A p.es ∧ (Rows.uptoBulk y.1 ≤ 4000000000 → p.small) := by
  obtain ⟨xs, n, _, hx, hlen, hxl, hf⟩ := DataW.trod_struct Tryz.underlying26 h
  rw [cells_plan] at hlen
  obtain ⟨c0, c1, c2, c3, rfl⟩ := list4 hlen
  obtain ⟨y0, y1, y2, y3, rfl⟩ := list4 hxl
  have g0 := fld hf 0 9 0 1 rfl cells_str
  have g1 := fld hf 1 9 1 1 rfl cells_str
  have g2 := fld hf 2 24 2 1 rfl cells_es
  have g3 := fld hf 3 3 3 1 rfl cells_int
  simp only [List.drop_succ_cons, List.drop_zero, List.take_succ_cons, List.take_zero, List.getElem?_cons_succ, List.getElem?_cons_zero] at g0 g1 g2 g3
  obtain ⟨s0, e0, b0⟩ := open_str g0
  obtain ⟨s1, e1, b1⟩ := open_str g1
  obtain ⟨es, A, c, e2, hc, hE, b2, b3⟩ := open_ents g2
  obtain ⟨k, e3, _⟩ := DataW.trod_int Tryz.underlying3 g3
  simp only [List.cons.injEq, and_true] at e3
  have hy : Rows.uptoBulk y.1 = Rows.uptoBulkAll [y0.1, y1.1, y2.1, y3.1] + 1 := by rw [hx]; simp [Rows.uptoBulk]
  have p0 : Rows.uptoBulk y0.1 ≤ Rows.uptoBulkAll [y0.1, y1.1, y2.1, y3.1] := bulk_part (by simp)
  have p1 : Rows.uptoBulk y1.1 ≤ Rows.uptoBulkAll [y0.1, y1.1, y2.1, y3.1] := bulk_part (by simp)
  have p2 : Rows.uptoBulk y2.1 ≤ Rows.uptoBulkAll [y0.1, y1.1, y2.1, y3.1] := bulk_part (by simp)
  refine ⟨⟨s0, s1, es, k⟩, A, c, ?_, hc, hE, fun hb => ?_⟩
  · rw [e0, e1, e2, e3]; rfl
  · exact ⟨by show s0.length ≤ _; omega, by show s1.length ≤ _; omega, by show es.length ≤ _; omega, fun x hx' => by obtain ⟨q1, q2, q3⟩ := b3 x hx'; exact ⟨⟨by omega, by omega⟩, by omega⟩⟩
/-- A slice, whatever it holds. -/
theorem open_anyslice {ts te : TypeId} {fuel : Nat} {v : Value} {y : DataW H × List MemPlace} (hut : Tryz.prog.underlying ts = some (.slice te)) (h : DataW.trod enc Tryz.prog w base spare held fuel ts [v] = some y) : ∃ A n c, v = .slice A n c := by
  rcases open_slice hut h with ⟨h0, _⟩ | ⟨a, len, cap, m, n', D, Pl, hcs, _⟩
  · exact ⟨none, 0, 0, by simpa using h0⟩
  · exact ⟨some a, len, cap, by simpa using hcs⟩
theorem open_strC {fuel : Nat} {cs : List Value} {y : DataW H × List MemPlace} (h : DataW.trod enc Tryz.prog w base spare held fuel 9 cs = some y) : ∃ s : List UInt8, cs = (#[.string ⟨s.toArray⟩] : Array Value).toList ∧ s.length ≤ Rows.uptoBulk y.1 := by
  obtain ⟨s, e, hx, _⟩ := DataW.trod_string Tryz.underlying9 h
  refine ⟨s.data.toList, by simpa using e, ?_⟩
  rw [hx]; simp [Rows.uptoBulk]
/-- A slice of strings: where it lies, what it holds. -/
theorem open_strs {fuel : Nat} {v : Value} {y : DataW H × List MemPlace} (h : DataW.trod enc Tryz.prog w base spare held fuel 41 [v] = some y) :
    ∃ (ss : List (List UInt8)) (A : Option Addr) (c : Nat), v = .slice A ss.length c ∧ ss.length ≤ c ∧ Strs w A ss ∧ ss.length ≤ Rows.uptoBulk y.1 ∧ ∀ s ∈ ss, s.length ≤ Rows.uptoBulk y.1 := by
  obtain ⟨l, A, c, h1, h2, h3, h4, h5, h6⟩ := open_items (fun s : List UInt8 => (#[.string ⟨s.toArray⟩] : Array Value)) (fun s N => s.length ≤ N) (fun x a b hab hb => Nat.le_trans hb hab) Tryz.underlying41 cells_str (by decide) (fun x => rfl) (fun h => open_strC h) h
  refine ⟨l, A, c, h1, h2, ⟨fun hne => ?_⟩, h5, h6⟩
  obtain ⟨b, o, hA, hb, hc⟩ := h4.at_ (by simpa using hne)
  refine ⟨b, o, hA, hb, fun i s hs => ?_⟩
  have := hc i #[.string ⟨s.toArray⟩] (by rw [List.getElem?_map, hs]; rfl) 0 (by omega)
  rw [Nat.mul_one, Nat.add_zero] at this
  exact this
theorem open_pred {fuel : Nat} {cs : List Value} {y : DataW H × List MemPlace} (h : DataW.trod enc Tryz.prog w base spare held fuel 37 cs = some y) : ∃ A n c a b q, cs = [.slice A n c, .int .i64 a, .int .i64 b, .bool q] := by
  obtain ⟨xs, n, _, hx, hlen, hxl, hf⟩ := DataW.trod_struct Tryz.underlying37 h
  rw [cells_pred] at hlen
  obtain ⟨c0, c1, c2, c3, rfl⟩ := list4 hlen
  obtain ⟨y0, y1, y2, rfl⟩ := list3 hxl
  have g0 := fld hf 0 33 0 1 rfl cells_ps
  have g1 := fld hf 1 35 1 2 rfl cells_cfl
  have g2 := fld hf 2 4 3 1 rfl cells_bool
  simp only [List.drop_succ_cons, List.drop_zero, List.take_succ_cons, List.take_zero, List.getElem?_cons_succ, List.getElem?_cons_zero] at g0 g1 g2
  obtain ⟨A, n, c, e0⟩ := open_anyslice Tryz.underlying33 g0
  obtain ⟨q, e1, _⟩ := open_cfl g1
  obtain ⟨v2, e2, _⟩ := DataW.trod_bool Tryz.underlying4 g2
  simp only [List.cons.injEq, and_true] at e2
  have e1' : [c1, c2] = [.int .i64 q.a, .int .i64 q.b] := e1
  simp only [List.cons.injEq, and_true] at e1'
  exact ⟨A, n, c, q.a, q.b, v2, by rw [e0, e1'.1, e1'.2, e2]⟩
set_option maxRecDepth 100000 in
set_option maxHeartbeats 4000000 in
theorem open_viewT {r : Reach} {b0 : Nat} {v : Value} {d : DataW H} {ps : List MemPlace} (hv : Value.okWide Tryz.prog w r b0 44 v) (h : DataW.Trod enc Tryz.prog w base spare held 44 v d ps) :
    ∃ (vw : Vw) (d' : VAd) (arr : Array Value), v = .agg arr ∧ vw.At d' arr ∧ (Rows.uptoBulk d ≤ 4000000000 → vw.ok w d') := by
  obtain ⟨cs, rfl, hsz⟩ := okWide_struct Tryz.underlying44 hv
  obtain ⟨fuel, hf⟩ := h
  obtain ⟨xs, n, _, hx, hlen, hxl, hf⟩ := DataW.trod_struct Tryz.underlying44 hf
  rw [cells_view] at hsz
  have hl42 : cs.toList.length = 42 := by simpa using hsz
  obtain ⟨c0, c1, c2, c3, c4, c5, c6, c7, c8, c9, c10, c11, c12, c13, c14, c15, c16, c17, c18, c19, c20, c21, c22, c23, c24, c25, c26, c27, c28, c29, c30, c31, c32, c33, c34, c35, c36, c37, c38, c39, c40, c41, hcs⟩ := list42 hl42
  obtain ⟨y0, y1, y2, y3, y4, y5, y6, y7, y8, y9, y10, y11, y12, y13, y14, y15, y16, y17, y18, y19, rfl⟩ := list20y hxl
  have g0 := fld hf 0 26 0 4 rfl cells_plan
  have g1 := fld hf 1 26 4 4 rfl cells_plan
  have g2 := fld hf 2 4 8 1 rfl cells_bool
  have g3 := fld hf 3 30 9 6 rfl cells_est
  have g4 := fld hf 4 2 15 1 rfl cells_i64
  have g5 := fld hf 5 32 16 3 rfl cells_prg
  have g6 := fld hf 6 2 19 1 rfl cells_i64
  have g7 := fld hf 7 37 20 4 rfl cells_pred
  have g8 := fld hf 8 38 24 1 rfl cells_is
  have g9 := fld hf 9 40 25 7 rfl cells_tgt
  have g10 := fld hf 10 41 32 1 rfl cells_ss
  have g11 := fld hf 11 2 33 1 rfl cells_i64
  have g12 := fld hf 12 2 34 1 rfl cells_i64
  have g13 := fld hf 13 2 35 1 rfl cells_i64
  have g14 := fld hf 14 2 36 1 rfl cells_i64
  have g15 := fld hf 15 4 37 1 rfl cells_bool
  have g16 := fld hf 16 42 38 1 rfl cells_errno
  have g17 := fld hf 17 2 39 1 rfl cells_i64
  have g18 := fld hf 18 9 40 1 rfl cells_str
  have g19 := fld hf 19 2 41 1 rfl cells_i64
  have hvc : (Value.agg cs).cells.toList = [c0, c1, c2, c3, c4, c5, c6, c7, c8, c9, c10, c11, c12, c13, c14, c15, c16, c17, c18, c19, c20, c21, c22, c23, c24, c25, c26, c27, c28, c29, c30, c31, c32, c33, c34, c35, c36, c37, c38, c39, c40, c41] := hcs
  rw [hvc] at g0 g1 g2 g3 g4 g5 g6 g7 g8 g9 g10 g11 g12 g13 g14 g15 g16 g17 g18 g19
  simp only [List.drop_succ_cons, List.drop_zero, List.take_succ_cons, List.take_zero, List.getElem?_cons_succ, List.getElem?_cons_zero] at g0 g1 g2 g3 g4 g5 g6 g7 g8 g9 g10 g11 g12 g13 g14 g15 g16 g17 g18 g19
  obtain ⟨p0, A0, k0, e0, hc0, hE0, hs0⟩ := open_planC g0
  have e0' : [c0, c1, c2, c3] = [.string ⟨p0.from_.toArray⟩, .string ⟨p0.to_.toArray⟩, .slice A0 p0.es.length k0, .int .i64 p0.active] := e0
  obtain ⟨p1, A1, k1, e1, hc1, hE1, hs1⟩ := open_planC g1
  have e1' : [c4, c5, c6, c7] = [.string ⟨p1.from_.toArray⟩, .string ⟨p1.to_.toArray⟩, .slice A1 p1.es.length k1, .int .i64 p1.active] := e1
  obtain ⟨v2, e2', _⟩ := DataW.trod_bool Tryz.underlying4 g2
  obtain ⟨es, e3, _⟩ := open_est g3
  have e3' : [c9, c10, c11, c12, c13, c14] = [.int .i64 es.px, .int .i64 es.py, .int .i64 es.lx, .int .i64 es.ly, .bool es.usable, .int .i64 es.excluded] := e3
  obtain ⟨v4, e4', _⟩ := DataW.trod_int Tryz.underlying2 g4
  obtain ⟨pg, e5, _⟩ := open_prg g5
  have e5' : [c16, c17, c18] = [.int .i64 pg.a, .int .i64 pg.b, .bool pg.done] := e5
  obtain ⟨v6, e6', _⟩ := DataW.trod_int Tryz.underlying2 g6
  obtain ⟨pA, pn, pc, pa, pb, pq, e7'⟩ := open_pred g7
  obtain ⟨iA, il, ic, e8'⟩ := open_anyslice Tryz.underlying38 g8
  obtain ⟨tg, e9, _⟩ := open_tgt g9
  have e9' : [c25, c26, c27, c28, c29, c30, c31] = [.int .u8 tg.lat, .int .u8 tg.vert, .int .u8 tg.phase, .int .i64 tg.bank, .int .i64 tg.speed, .int .i64 tg.alt, .int .i64 tg.vs] := e9
  obtain ⟨ss, sA, sc, e10', hsc, hS, hsl, hse⟩ := open_strs g10
  obtain ⟨v11, e11', _⟩ := DataW.trod_int Tryz.underlying2 g11
  obtain ⟨v12, e12', _⟩ := DataW.trod_int Tryz.underlying2 g12
  obtain ⟨v13, e13', _⟩ := DataW.trod_int Tryz.underlying2 g13
  obtain ⟨v14, e14', _⟩ := DataW.trod_int Tryz.underlying2 g14
  obtain ⟨v15, e15', _⟩ := DataW.trod_bool Tryz.underlying4 g15
  obtain ⟨v16, e16', _⟩ := DataW.trod_int Tryz.underlying42 g16
  obtain ⟨v17, e17', _⟩ := DataW.trod_int Tryz.underlying2 g17
  obtain ⟨v18, e18', _⟩ := open_str g18
  obtain ⟨v19, e19', _⟩ := DataW.trod_int Tryz.underlying2 g19
  simp only [List.cons.injEq, and_true] at e0' e1' e2' e3' e4' e5' e6' e7' e9' e11' e12' e13' e14' e15' e16' e17' e19'
  obtain ⟨rfl, rfl, rfl, rfl⟩ := e0'
  obtain ⟨rfl, rfl, rfl, rfl⟩ := e1'
  subst e2'
  obtain ⟨rfl, rfl, rfl, rfl, rfl, rfl⟩ := e3'
  subst e4'
  obtain ⟨rfl, rfl, rfl⟩ := e5'
  subst e6'
  obtain ⟨rfl, rfl, rfl, rfl⟩ := e7'
  subst e8'
  obtain ⟨rfl, rfl, rfl, rfl, rfl, rfl, rfl⟩ := e9'
  subst e10'
  subst e11'
  subst e12'
  subst e13'
  subst e14'
  subst e15'
  subst e16'
  subst e17'
  subst e18'
  subst e19'
  have hcs' : cs = #[.string ⟨p0.from_.toArray⟩, .string ⟨p0.to_.toArray⟩, .slice A0 p0.es.length k0, .int .i64 p0.active, .string ⟨p1.from_.toArray⟩, .string ⟨p1.to_.toArray⟩, .slice A1 p1.es.length k1, .int .i64 p1.active, .bool v2, .int .i64 es.px, .int .i64 es.py, .int .i64 es.lx, .int .i64 es.ly, .bool es.usable, .int .i64 es.excluded, .int .i64 v4, .int .i64 pg.a, .int .i64 pg.b, .bool pg.done, .int .i64 v6, .slice pA pn pc, .int .i64 pa, .int .i64 pb, .bool pq, .slice iA il ic, .int .u8 tg.lat, .int .u8 tg.vert, .int .u8 tg.phase, .int .i64 tg.bank, .int .i64 tg.speed, .int .i64 tg.alt, .int .i64 tg.vs, .slice sA ss.length sc, .int .i64 v11, .int .i64 v12, .int .i64 v13, .int .i64 v14, .bool v15, .int .i64 v16, .int .i64 v17, .string ⟨v18.toArray⟩, .int .i64 v19] := by
    apply Array.toList_inj.1
    rw [hcs]
  have hx1 := hx
  simp only [Prod.mk.injEq] at hx1
  have hy : Rows.uptoBulk d = Rows.uptoBulkAll [y0.1, y1.1, y2.1, y3.1, y4.1, y5.1, y6.1, y7.1, y8.1, y9.1, y10.1, y11.1, y12.1, y13.1, y14.1, y15.1, y16.1, y17.1, y18.1, y19.1] + 1 := by rw [hx1.1]; simp [Rows.uptoBulk]
  have b0 : Rows.uptoBulk y0.1 ≤ Rows.uptoBulkAll [y0.1, y1.1, y2.1, y3.1, y4.1, y5.1, y6.1, y7.1, y8.1, y9.1, y10.1, y11.1, y12.1, y13.1, y14.1, y15.1, y16.1, y17.1, y18.1, y19.1] := bulk_part (by simp)
  have b1 : Rows.uptoBulk y1.1 ≤ Rows.uptoBulkAll [y0.1, y1.1, y2.1, y3.1, y4.1, y5.1, y6.1, y7.1, y8.1, y9.1, y10.1, y11.1, y12.1, y13.1, y14.1, y15.1, y16.1, y17.1, y18.1, y19.1] := bulk_part (by simp)
  have b10 : Rows.uptoBulk y10.1 ≤ Rows.uptoBulkAll [y0.1, y1.1, y2.1, y3.1, y4.1, y5.1, y6.1, y7.1, y8.1, y9.1, y10.1, y11.1, y12.1, y13.1, y14.1, y15.1, y16.1, y17.1, y18.1, y19.1] := bulk_part (by simp)
  refine ⟨⟨p0, p1, v2, es.px, es.py, es.lx, es.ly, es.usable, es.excluded, v4, v6, tg.lat, tg.vert, tg.phase, tg.bank, tg.alt, ss, v16⟩, ⟨A0, k0, A1, k1, sA, sc⟩, cs, rfl, ?_, fun hb => ?_⟩
  · subst hcs'
    refine ⟨rfl, by simp [Value.oneCell'], ?_, ?_, rfl, rfl, rfl, rfl, rfl, rfl, rfl, rfl, rfl, rfl, rfl, rfl, rfl, rfl, rfl, rfl⟩
    · intro j hj
      match j, hj with
      | 0, _ | 1, _ | 2, _ | 3, _ => rfl
    · intro j hj
      match j, hj with
      | 0, _ | 1, _ | 2, _ | 3, _ => rfl
  · exact ⟨hs0 (by omega), hs1 (by omega), hc0, hc1, hsc, by show ss.length ≤ _; omega, fun s hs => by have := hse s hs; omega, hE0, hE1, hS⟩
set_option maxRecDepth 100000 in
theorem open_termT {r : Reach} {b0 : Nat} {v : Value} {d : DataW H} {ps : List MemPlace} (hv : Value.okWide Tryz.prog w r b0 23 v) (h : DataW.Trod enc Tryz.prog w base spare held 23 v d ps) :
    ∃ t : Term, v = t.val ∧ t.pad.length ≤ Rows.uptoBulk d := by
  obtain ⟨cs, rfl, hsz⟩ := okWide_struct Tryz.underlying23 hv
  obtain ⟨fuel, hf⟩ := h
  obtain ⟨t, e, hb⟩ := open_term hf
  refine ⟨t, ?_, hb⟩
  have : cs = t.arr := by apply Array.toList_inj.1; exact e
  rw [this]
end
end Go.Proofs.YtlleijickhifmaaGreatDoor
namespace Go.Proofs.YtlleijickhifmaaGreatDoor
open Go.RowKit Go.ChangeShapes Go.WideShapes Go.Deep
set_option linter.unusedVariables false
set_option linter.unusedSimpArgs false
theorem gWords58 : Tryz.prog.globalNamed "flightdeck/page.words" = some 1 := by kernel_rfl
def wordsData : DataW Unit := .slice (wordsL.map fun s => .lit (.string s)) []
set_option maxRecDepth 100000 in
theorem words_of {w : World} {l : List (String × DataW Unit)} (h : laidMet Tryz.prog l w) (hm : ("flightdeck/page.words", wordsData) ∈ l) : WordsAt w := by
  obtain ⟨ps, hv, _, _⟩ := h
  obtain ⟨g', t', cs, fuel, p, hg', ht', hvar, hd⟩ := laidVars_memG hv _ _ hm
  obtain rfl := Option.some.inj (gWords58.symm.trans hg')
  obtain rfl : 41 = t' := Option.some.inj ((show (Tryz.prog.globals[1]?).map (·.type) = some 41 by kernel_rfl).symm.trans ht')
  rcases open_slice1 Tryz.underlying41 cells_str hd with ⟨_, hx⟩ | ⟨a, len, cap, m, n, V, D, Pl, hcs, hb, hlc, hcm, hmm, hx, hi⟩
  · unfold wordsData at hx; cases hx
  · unfold wordsData at hx
    simp only [Prod.mk.injEq, DataW.slice.injEq] at hx
    obtain ⟨⟨hx1, _⟩, _⟩ := hx
    have hlen : len = 10 := by have := congrArg List.length hx1; simpa [wordsL] using this.symm
    subst hlen
    have hc0 : w.cell? ⟨1, 0, none⟩ = some (.slice (some a) 10 cap) := by
      rw [World.var?_cell gWords58 hvar 0]
      have : cs = #[.slice (some a) 10 cap] := Array.toList_inj.1 (by rw [hcs])
      rw [this]; rfl
    have hstr : ∀ i s, wordsL[i]? = some s → w.cell? (a.add i) = some (sval s) := by
      intro i s hs
      have hi10 : i < 10 := by have := (List.getElem?_eq_some_iff.1 hs).1; simpa [wordsL] using this
      obtain ⟨h1, h2⟩ := hi i (by rw [hmm]; split <;> omega)
      obtain ⟨s', e1, e2, _⟩ := DataW.trod_string Tryz.underlying9 h2
      have h3 : (wordsL.map fun s => DataW.lit (H := Unit) (.string s))[i]? = ((List.range 10).map D)[i]? := by rw [hx1]
      rw [List.getElem?_map, hs, List.getElem?_map, List.getElem?_range (by omega)] at h3
      simp only [Option.map_some, Option.some.injEq] at h3
      simp only [Prod.mk.injEq] at e2
      rw [e2.1] at h3
      have h4 : s = s'.data.toList := by simpa using h3
      simp only [List.cons.injEq, and_true] at e1
      rw [h1, e1, h4]
      unfold sval
      simp
    obtain ⟨b, off, spot⟩ := a
    have h0 := hstr 0 kCLR rfl
    have hsp : spot = none := by
      cases spot with
      | none => rfl
      | some q =>
        exfalso
        unfold World.cell? Addr.add sval at h0
        split at h0 <;> simp at h0
    subst hsp
    exact ⟨b, off, cap, hc0, hlc, block_lt_of_cell h0, block_lt_of_cell hc0, fun i s hs => by simpa [addr_add] using hstr i s hs⟩
theorem gErr58 : Tryz.prog.globalNamed "strconv.ErrRange" = some 5 := by kernel_rfl
set_option maxRecDepth 100000 in
theorem err_of {w : World} {l : List (String × DataW Unit)} {d : DataW Unit} (h : laidMet Tryz.prog l w) (hm : ("strconv.ErrRange", d) ∈ l) : ErrAt w := by
  obtain ⟨ps, hv, _, _⟩ := h
  obtain ⟨g', t', cs, fuel, p, hg', ht', hvar, hd⟩ := laidVars_memG hv _ _ hm
  obtain rfl := Option.some.inj (gErr58.symm.trans hg')
  obtain rfl : 96 = t' := Option.some.inj ((show (Tryz.prog.globals[5]?).map (·.type) = some 96 by kernel_rfl).symm.trans ht')
  have key : ∃ ev, cs.toList = [ev] ∧ (ev = .nilIface ∨ ∃ u v, ev = .iface u v) := by
    cases fuel with
    | zero => simp [DataW.trod] at hd
    | succ n =>
      unfold DataW.trod at hd
      rw [Tryz.underlying96] at hd
      split at hd <;> simp_all
  obtain ⟨ev, hcs, hev⟩ := key
  refine ⟨ev, ?_, hev⟩
  rw [World.var?_cell gErr58 hvar 0]
  have : cs = #[ev] := Array.toList_inj.1 (by rw [hcs])
  rw [this]; rfl
theorem gNames58 : Tryz.prog.globalNamed "flightdeck/leg.names" = some 2 := by kernel_rfl
set_option maxRecDepth 100000 in
theorem laid58_of {W : World} {l : List (String × DataW Unit)} (h : laidMet Tryz.prog l W) (hsh : W.ShapedOpen Tryz.prog) (h2 : ("flightdeck/leg.names", strDataG namesTab) ∈ l)
    (h3 : ("internal/strconv.uint64pow10", Lib.tabData .u64 Lib.pow10Tab) ∈ l) : Laid W := by
  obtain ⟨ps, hv, _, _⟩ := h
  have t2 := strs_ofG hv gNames58 (t := 137) (by kernel_rfl) Tryz.underlying137 Tryz.underlying9 (by kernel_rfl) h2
  have t3 := tab_ofG hv gPow10 (t := 185) (by kernel_rfl) Tryz.underlying185 Tryz.underlying158 (by kernel_rfl) (by kernel_rfl) h3
  exact ⟨fun k hk => (t2 k hk).2, Go.Proofs.cell_of_shapedOpen_int (zero := #[.int .i64 0]) (t := 3) hsh (of_decide_eq_true (by kernel_rfl)) (by kernel_rfl) rfl (by kernel_rfl) (by kernel_rfl) Tryz.underlying3, t3⟩
/-- What the walks of this layer need of the world. -/
structure Open58 (w : World) : Prop where
  laid : Laid w
  words : WordsAt w
  err : ErrAt w
theorem Open58.below {w w' : World} (h : Open58 w) (hb : Below w.heap.size w w') : Open58 w' := ⟨h.laid.below hb, h.words.below hb, h.err.below hb⟩
end Go.Proofs.YtlleijickhifmaaGreatDoor
