/- The arguments of the statements opened: legs, windows, types, numbers, texts out of their readings; what the listed variables hold. Decimal numbers as lists of bytes: plain digits, their value, and that the two are inverse. No program in sight. -/
import Derived.Test.YtjijpkimlgbepaaGreatDoorPk06
import Derived.OpenShut
import Derived.Deep.Slices
import Derived.Deep.Fields
import Derived.ChangeSame
import Derived.Deep.DeepHandedRow
import Derived.Carry
import Derived.LaidSub
import Derived.Lib.ItoaNum
import Derived.Lib.ItoaLen
import Derived.Lib.ParseIntBTie
import Derived.Lib.ParseIntBCases
namespace Go.Proofs.YtjijpkimlgbepaaGreatDoor
open Go.RowKit Go.ChangeShapes Go.WideShapes Go.Deep
set_option linter.unusedVariables false
set_option linter.unusedSimpArgs false
theorem bulk_one {H : Type} (d : DataW H) : 1 ≤ Rows.uptoBulk d := by
  cases d with
  | lit l => cases l <;> simp [Rows.uptoBulk]
  | nil => simp [Rows.uptoBulk]
  | ptr d => simp [Rows.uptoBulk]
  | slice elems spare => simp [Rows.uptoBulk]
  | agg parts => simp [Rows.uptoBulk]
  | iface t d => simp [Rows.uptoBulk]
  | map entries => simp [Rows.uptoBulk]
  | held h => simp [Rows.uptoBulk]
theorem bulk_part {H : Type} {d : DataW H} {l : List (DataW H)} (h : d ∈ l) : Rows.uptoBulk d ≤ Rows.uptoBulkAll l := by
  induction l with
  | nil => cases h
  | cons x r ih =>
    simp only [Rows.uptoBulkAll]
    cases List.mem_cons.1 h with
    | inl e => subst e; omega
    | inr e => have := ih e; omega
theorem bulk_len {H : Type} (l : List (DataW H)) : l.length ≤ Rows.uptoBulkAll l := by
  induction l with
  | nil => simp [Rows.uptoBulkAll]
  | cons x r ih => have := bulk_one x; simp only [Rows.uptoBulkAll, List.length_cons]; omega
theorem bulk_str {H : Type} (s : ByteArray) : Rows.uptoBulk (DataW.lit (H := H) (.string s.data.toList)) = s.data.toList.length + 1 := by simp [Rows.uptoBulk]
theorem list2 {α : Type _} {l : List α} (h : l.length = 2) : ∃ x0 x1, l = [x0, x1] := by
  match l, h with
  | [x0, x1], _ => exact ⟨x0, x1, rfl⟩
theorem list4 {α : Type _} {l : List α} (h : l.length = 4) : ∃ x0 x1 x2 x3, l = [x0, x1, x2, x3] := by
  match l, h with
  | [x0, x1, x2, x3], _ => exact ⟨x0, x1, x2, x3, rfl⟩
theorem list6 {α : Type _} {l : List α} (h : l.length = 6) : ∃ x0 x1 x2 x3 x4 x5, l = [x0, x1, x2, x3, x4, x5] := by
  match l, h with
  | [x0, x1, x2, x3, x4, x5], _ => exact ⟨x0, x1, x2, x3, x4, x5, rfl⟩
theorem list12 {α : Type _} {l : List α} (h : l.length = 12) : ∃ x0 x1 x2 x3 x4 x5 x6 x7 x8 x9 x10 x11, l = [x0, x1, x2, x3, x4, x5, x6, x7, x8, x9, x10, x11] := by
  match l, h with
  | [x0, x1, x2, x3, x4, x5, x6, x7, x8, x9, x10, x11], _ => exact ⟨x0, x1, x2, x3, x4, x5, x6, x7, x8, x9, x10, x11, rfl⟩
theorem list13 {α : Type _} {l : List α} (h : l.length = 13) : ∃ x0 x1 x2 x3 x4 x5 x6 x7 x8 x9 x10 x11 x12, l = [x0, x1, x2, x3, x4, x5, x6, x7, x8, x9, x10, x11, x12] := by
  match l, h with
  | [x0, x1, x2, x3, x4, x5, x6, x7, x8, x9, x10, x11, x12], _ => exact ⟨x0, x1, x2, x3, x4, x5, x6, x7, x8, x9, x10, x11, x12, rfl⟩
theorem list20 {α : Type _} {l : List α} (h : l.length = 20) : ∃ x0 x1 x2 x3 x4 x5 x6 x7 x8 x9 x10 x11 x12 x13 x14 x15 x16 x17 x18 x19, l = [x0, x1, x2, x3, x4, x5, x6, x7, x8, x9, x10, x11, x12, x13, x14, x15, x16, x17, x18, x19] := by
  match l, h with
  | [x0, x1, x2, x3, x4, x5, x6, x7, x8, x9, x10, x11, x12, x13, x14, x15, x16, x17, x18, x19], _ => exact ⟨x0, x1, x2, x3, x4, x5, x6, x7, x8, x9, x10, x11, x12, x13, x14, x15, x16, x17, x18, x19, rfl⟩
theorem cells_i64 : Tryz.prog.cellsOf 2 = 1 := by kernel_rfl
theorem cells_bool : Tryz.prog.cellsOf 4 = 1 := by kernel_rfl
theorem cells_str : Tryz.prog.cellsOf 9 = 1 := by kernel_rfl
theorem cells_u8 : Tryz.prog.cellsOf 5 = 1 := by kernel_rfl
theorem cells_lt : Tryz.prog.cellsOf 22 = 1 := by kernel_rfl
theorem cells_win : Tryz.prog.cellsOf 24 = 2 := by kernel_rfl
theorem cells_leg : Tryz.prog.cellsOf 26 = 13 := by kernel_rfl
section
variable {H : Type} {enc : TypeId × Value → H} {w : World} {base : Nat} {spare : Nat → Bool} {held : Bool}
theorem fld {n : Nat} {cs : List Value} {fs : Array Field} {xs : List (DataW H × List MemPlace)} (hf : ∀ (i : Nat) (f : Field), fs[i]? = some f → DataW.trod enc Tryz.prog w base spare held n f.type ((cs.drop f.offset).take (Tryz.prog.cellsOf f.type)) = xs[i]?)
    (i ty off k : Nat) (h : (fs[i]?).map (fun f => (f.type, f.offset)) = some (ty, off)) (hk : Tryz.prog.cellsOf ty = k) : DataW.trod enc Tryz.prog w base spare held n ty ((cs.drop off).take k) = xs[i]? := by
  cases hi : fs[i]? with
  | none => simp [hi] at h
  | some f =>
    simp [hi] at h
    have := hf i f hi
    rw [h.1, h.2, hk] at this
    exact this
theorem open_two {t : TypeId} {fuel : Nat} {cs : List Value} {y : DataW H × List MemPlace} {f0 f1 : Field} (hu : Tryz.prog.underlying t = some (.struct #[f0, f1])) (hc : Tryz.prog.cellsOf t = 2)
    (h0 : f0.type = 2 ∧ f0.offset = 0) (h1 : f1.type = 2 ∧ f1.offset = 1) (h : DataW.trod enc Tryz.prog w base spare held fuel t cs = some y) : ∃ a b, cs = [.int .i64 a, .int .i64 b] := by
  obtain ⟨xs, n, _, hx, hlen, hxl, hf⟩ := DataW.trod_struct hu h
  rw [hc] at hlen
  obtain ⟨a, b, rfl⟩ := list2 hlen
  obtain ⟨y0, y1, rfl⟩ := list2 hxl
  have g0 := hf 0 f0 rfl
  have g1 := hf 1 f1 rfl
  rw [h0.1, h0.2, cells_i64] at g0
  rw [h1.1, h1.2, cells_i64] at g1
  obtain ⟨a', e0, _⟩ := DataW.trod_int Tryz.underlying2 g0
  obtain ⟨b', e1, _⟩ := DataW.trod_int Tryz.underlying2 g1
  simp at e0 e1
  exact ⟨a', b', by rw [e0, e1]⟩
theorem open_str {fuel : Nat} {v : Value} {y : DataW H × List MemPlace} (h : DataW.trod enc Tryz.prog w base spare held fuel 9 [v] = some y) : ∃ s : List UInt8, v = .string ⟨s.toArray⟩ ∧ s.length + 1 = Rows.uptoBulk y.1 := by
  obtain ⟨s, e, hx, _⟩ := DataW.trod_string Tryz.underlying9 h
  refine ⟨s.data.toList, by simpa using e, ?_⟩
  rw [hx]; simp [Rows.uptoBulk]
theorem open_leg {fuel : Nat} {cs : List Value} {y : DataW H × List MemPlace} (h : DataW.trod enc Tryz.prog w base spare held fuel 26 cs = some y) : ∃ l : Leg, cs = l.arr.toList ∧ l.fix.length ≤ Rows.uptoBulk y.1 ∧ l.center.length ≤ Rows.uptoBulk y.1 := by
  obtain ⟨xs, n, _, hx, hlen, hxl, hf⟩ := DataW.trod_struct Tryz.underlying26 h
  rw [cells_leg] at hlen
  obtain ⟨c0, c1, c2, c3, c4, c5, c6, c7, c8, c9, c10, c11, c12, rfl⟩ := list13 hlen
  obtain ⟨y0, y1, y2, y3, y4, y5, y6, y7, y8, y9, y10, y11, rfl⟩ := list12 hxl
  have g0 := fld hf 0 22 0 1 rfl cells_lt
  have g1 := fld hf 1 9 1 1 rfl cells_str
  have g2 := fld hf 2 9 2 1 rfl cells_str
  have g3 := fld hf 3 5 3 1 rfl cells_u8
  have g4 := fld hf 4 4 4 1 rfl cells_bool
  have g5 := fld hf 5 2 5 1 rfl cells_i64
  have g6 := fld hf 6 2 6 1 rfl cells_i64
  have g7 := fld hf 7 2 7 1 rfl cells_i64
  have g8 := fld hf 8 2 8 1 rfl cells_i64
  have g9 := fld hf 9 24 9 2 rfl cells_win
  have g10 := fld hf 10 2 11 1 rfl cells_i64
  have g11 := fld hf 11 2 12 1 rfl cells_i64
  simp only [List.drop_succ_cons, List.drop_zero, List.take_succ_cons, List.take_zero, List.getElem?_cons_succ, List.getElem?_cons_zero] at g0 g1 g2 g3 g4 g5 g6 g7 g8 g9 g10 g11
  obtain ⟨v0, e0, _⟩ := DataW.trod_int Tryz.underlying22 g0
  obtain ⟨v1, e1, b1⟩ := open_str g1
  obtain ⟨v2, e2, b2⟩ := open_str g2
  obtain ⟨v3, e3, _⟩ := DataW.trod_int Tryz.underlying5 g3
  obtain ⟨v4, e4, _⟩ := DataW.trod_bool Tryz.underlying4 g4
  obtain ⟨v5, e5, _⟩ := DataW.trod_int Tryz.underlying2 g5
  obtain ⟨v6, e6, _⟩ := DataW.trod_int Tryz.underlying2 g6
  obtain ⟨v7, e7, _⟩ := DataW.trod_int Tryz.underlying2 g7
  obtain ⟨v8, e8, _⟩ := DataW.trod_int Tryz.underlying2 g8
  obtain ⟨v9, v10, e9⟩ := open_two Tryz.underlying24 cells_win ⟨rfl, rfl⟩ ⟨rfl, rfl⟩ g9
  obtain ⟨v11, e11, _⟩ := DataW.trod_int Tryz.underlying2 g10
  obtain ⟨v12, e12, _⟩ := DataW.trod_int Tryz.underlying2 g11
  simp only [List.cons.injEq, and_true] at e0 e3 e4 e5 e6 e7 e8 e9 e11 e12
  obtain ⟨e9, e10⟩ := e9
  have hy : Rows.uptoBulk y.1 = Rows.uptoBulkAll [y0.1, y1.1, y2.1, y3.1, y4.1, y5.1, y6.1, y7.1, y8.1, y9.1, y10.1, y11.1] + 1 := by rw [hx]; simp [Rows.uptoBulk]
  have p1 : Rows.uptoBulk y1.1 ≤ Rows.uptoBulkAll [y0.1, y1.1, y2.1, y3.1, y4.1, y5.1, y6.1, y7.1, y8.1, y9.1, y10.1, y11.1] := bulk_part (by simp)
  have p2 : Rows.uptoBulk y2.1 ≤ Rows.uptoBulkAll [y0.1, y1.1, y2.1, y3.1, y4.1, y5.1, y6.1, y7.1, y8.1, y9.1, y10.1, y11.1] := bulk_part (by simp)
  refine ⟨⟨v0, v1, v2, v3, v4, v5, v6, v7, v8, v9, v10, v11, v12⟩, ?_, ?_, ?_⟩
  · rw [e0, e1, e2, e3, e4, e5, e6, e7, e8, e9, e10, e11, e12]; rfl
  · show v1.length ≤ _; omega
  · show v2.length ≤ _; omega
end
theorem laidVars_mem {w : World} : ∀ {l : List (String × DataW Unit)} {ps : List MemPlace}, DataW.LaidVars Tryz.prog w l ps → ∀ n d, (n, d) ∈ l →
    ∃ g t cs fuel p, Tryz.prog.globalNamed n = some g ∧ (Tryz.prog.globals[g]?).map (·.type) = some t ∧ w.var? Tryz.prog n = some cs ∧ DataW.trod (fun _ => ()) Tryz.prog w 0 (fun _ => true) false fuel t cs.toList = some (d, p)
  | [], _, _, n, d, hm => by cases hm
  | (n', d') :: r, ps, h, n, d, hm => by
    obtain ⟨g, t, cs, fuel, p, q, h1, h2, h3, h4, h5, _⟩ := h
    rcases List.mem_cons.1 hm with e | hm
    · injection e with e1 e2
      subst e1; subst e2
      exact ⟨g, t, cs, fuel, p, h1, h2, h3, h4⟩
    · exact laidVars_mem h5 n d hm
theorem tab_of {w : World} {l : List (String × DataW Unit)} {ps : List MemPlace} (h : DataW.LaidVars Tryz.prog w l ps) {n : String} {k : IntKind} {zs : List Int} {g : Nat} {t e : TypeId} {m : Nat}
    (hg : Tryz.prog.globalNamed n = some g) (hty : (Tryz.prog.globals[g]?).map (·.type) = some t) (ht : Tryz.prog.underlying t = some (.array m e)) (he : Tryz.prog.underlying e = some (.int k)) (hce : Tryz.prog.cellsOf e = 1) (hct : Tryz.prog.cellsOf t = m)
    (hm : (n, Lib.tabData k zs) ∈ l) : Lib.TabIs Tryz.prog w n k zs := by
  obtain ⟨g', t', cs, fuel, p, hg', ht', hvar, hd⟩ := laidVars_mem h n _ hm
  obtain rfl := Option.some.inj (hg.symm.trans hg')
  obtain rfl := Option.some.inj (hty.symm.trans ht')
  unfold Lib.TabIs
  rw [hvar, ← Lib.cells_of_tab ht he hce hct hd]
def strData (ss : List (List UInt8)) : DataW Unit := .agg (ss.map fun s => .lit (.string s))
theorem strs_of {w : World} {l : List (String × DataW Unit)} {ps : List MemPlace} (h : DataW.LaidVars Tryz.prog w l ps) {n : String} {ss : List (List UInt8)} {g : Nat} {t e : TypeId} {m : Nat}
    (hg : Tryz.prog.globalNamed n = some g) (hty : (Tryz.prog.globals[g]?).map (·.type) = some t) (ht : Tryz.prog.underlying t = some (.array m e)) (he : Tryz.prog.underlying e = some .string) (hce : Tryz.prog.cellsOf e = 1)
    (hm : (n, strData ss) ∈ l) : ∀ k, k < m → k < ss.length ∧ w.cell? ⟨g, k, none⟩ = some (.string ⟨(ss.getD k []).toArray⟩) := by
  obtain ⟨g', t', cs, fuel, p, hg', ht', hvar, hd⟩ := laidVars_mem h n _ hm
  obtain rfl := Option.some.inj (hg.symm.trans hg')
  obtain rfl := Option.some.inj (hty.symm.trans ht')
  obtain ⟨xs, m', _, hx, hlen, hxl, hf⟩ := DataW.trod_array ht hd
  intro k hk
  have h1 := hf k hk
  rw [hce, Nat.mul_one, List.getElem?_eq_getElem (by omega)] at h1
  obtain ⟨s, e1, e2, _⟩ := DataW.trod_string he h1
  have h2 : (strData ss) = .agg (xs.map (·.1)) := by simp only [Prod.mk.injEq] at hx; exact hx.1
  unfold strData at h2
  injection h2 with h2
  have h3 : (ss.map fun s => (DataW.lit (H := Unit) (.string s)))[k]? = (xs.map (·.1))[k]? := by rw [h2]
  rw [List.getElem?_map, List.getElem?_map, List.getElem?_eq_getElem (show k < xs.length by omega)] at h3
  cases hs : ss[k]? with
  | none => rw [hs] at h3; cases h3
  | some s' =>
    rw [hs, e2] at h3
    have h4 : s' = s.data.toList := by simpa using h3
    have hkl : k < ss.length := (List.getElem?_eq_some_iff.1 hs).1
    refine ⟨hkl, ?_⟩
    have hc : cs.toList[k]? = some (.string s) := by
      have hkc : k < cs.toList.length := by
        rcases Nat.lt_or_ge k cs.toList.length with h | h
        · exact h
        · rw [List.drop_of_length_le h] at e1; simp at e1
      rw [List.drop_eq_getElem_cons hkc] at e1
      simp at e1
      rw [List.getElem?_eq_getElem hkc]; simp [e1]
    rw [World.var?_cell hg hvar k]
    simp only [Array.getElem?_toList] at hc
    rw [hc, List.getD_eq_getElem?_getD, hs, h4]
    rfl
theorem gUses : Tryz.prog.globalNamed "flightdeck/leg.uses" = some 1 := by kernel_rfl
theorem gNames : Tryz.prog.globalNamed "flightdeck/leg.names" = some 2 := by kernel_rfl
set_option maxRecDepth 100000 in
theorem laid_of {W : World} {l : List (String × DataW Unit)} (h : laidMet Tryz.prog l W) (hsh : W.ShapedOpen Tryz.prog) (h1 : ("flightdeck/leg.uses", Lib.tabData .u16 usesTab) ∈ l) (h2 : ("flightdeck/leg.names", strData namesTab) ∈ l)
    (h3 : ("internal/strconv.uint64pow10", Lib.tabData .u64 Lib.pow10Tab) ∈ l) : Laid W := by
  obtain ⟨ps, hv, _, _⟩ := h
  have t1 := tab_of hv gUses (t := 43) (by kernel_rfl) Tryz.underlying43 Tryz.underlying42 (by kernel_rfl) (by kernel_rfl) h1
  have t2 := strs_of hv gNames (t := 48) (by kernel_rfl) Tryz.underlying48 Tryz.underlying9 (by kernel_rfl) h2
  have t3 := tab_of hv gPow10 (t := 136) (by kernel_rfl) Tryz.underlying136 Tryz.underlying122 (by kernel_rfl) (by kernel_rfl) h3
  exact ⟨fun k hk => t1.cell gUses k hk, fun k hk => (t2 k hk).2, Go.Proofs.cell_of_shapedOpen_int (zero := #[.int .i64 0]) (t := 3) hsh (of_decide_eq_true (by kernel_rfl)) (by kernel_rfl) rfl (by kernel_rfl) (by kernel_rfl) Tryz.underlying3, t3⟩
section
variable {H : Type} {enc : TypeId × Value → H} {w : World} {base : Nat} {spare : Nat → Bool} {held : Bool}
set_option maxRecDepth 100000 in
theorem open_legT {r : Reach} {b0 : Nat} {v : Value} {d : DataW H} {ps : List MemPlace} (hv : Value.okWide Tryz.prog w r b0 26 v) (h : DataW.Trod enc Tryz.prog w base spare held 26 v d ps) :
    ∃ l : Leg, v = l.val ∧ (Rows.uptoBulk d ≤ 4000000000 → l.small) := by
  obtain ⟨cs, rfl, hsz⟩ := okWide_struct Tryz.underlying26 hv
  obtain ⟨fuel, hf⟩ := h
  have hvc : (Value.agg cs).cells.toList = cs.toList := rfl
  rw [hvc] at hf
  obtain ⟨l, e, b1, b2⟩ := open_leg hf
  refine ⟨l, ?_, fun hN => ⟨by simp only at b1; omega, by simp only at b2; omega⟩⟩
  have : cs = l.arr := by apply Array.toList_inj.1; rw [e]
  rw [this]
set_option maxRecDepth 100000 in
theorem open_winT {r : Reach} {b0 : Nat} {v : Value} {d : DataW H} {ps : List MemPlace} (hv : Value.okWide Tryz.prog w r b0 24 v) (h : DataW.Trod enc Tryz.prog w base spare held 24 v d ps) :
    ∃ lo hi : Int, v = .agg (Win.arr ⟨lo, hi⟩) := by
  obtain ⟨cs, rfl, hsz⟩ := okWide_struct Tryz.underlying24 hv
  obtain ⟨fuel, hf⟩ := h
  have hvc : (Value.agg cs).cells.toList = cs.toList := rfl
  rw [hvc] at hf
  obtain ⟨a, b, e⟩ := open_two Tryz.underlying24 cells_win ⟨rfl, rfl⟩ ⟨rfl, rfl⟩ hf
  refine ⟨a, b, ?_⟩
  have : cs = Win.arr ⟨a, b⟩ := by apply Array.toList_inj.1; rw [e]; rfl
  rw [this]
set_option maxRecDepth 100000 in
theorem open_u8T {r : Reach} {b0 : Nat} {t : TypeId} {v : Value} {d : DataW H} {ps : List MemPlace} (ht : Tryz.prog.underlying t = some (.int .u8)) (hv : Value.okWide Tryz.prog w r b0 t v) (h : DataW.Trod enc Tryz.prog w base spare held t v d ps) : ∃ n : Int, v = .int .u8 n ∧ 0 ≤ n ∧ n ≤ 255 := by
  obtain ⟨n, rfl, _, _, wf⟩ := Go.ChangeShapes.open_int ht hv h
  exact ⟨n, rfl, Go.bounds_u8 wf⟩
end
end Go.Proofs.YtjijpkimlgbepaaGreatDoor
namespace Go.Proofs.YtjijpkimlgbepaaGreatDoor
set_option linter.unusedVariables false
set_option linter.unusedSimpArgs false
def isD (c : UInt8) : Bool := decide (48 ≤ c.toNat) && decide (c.toNat ≤ 57)
def dg (n : Nat) : UInt8 := UInt8.ofNat (48 + n)
theorem dg_toNat {n : Nat} (h : n < 10) : (dg n).toNat = 48 + n := by
  unfold dg; rw [UInt8.toNat_ofNat']; omega
theorem dg_of {c : UInt8} (h : isD c = true) : dg (c.toNat - 48) = c := by
  have h1 : 48 ≤ c.toNat ∧ c.toNat ≤ 57 := by simpa [isD] using h
  apply UInt8.toNat_inj.1
  rw [dg_toNat (by omega)]; omega
theorem isD_dg {n : Nat} (h : n < 10) : isD (dg n) = true := by simp [isD, dg_toNat h]; omega
/-- The value of digits, the ones ahead of them standing for a. -/
def numV (a : Nat) (l : List UInt8) : Nat := l.foldl (fun n c => 10 * n + (c.toNat - 48)) a
theorem numV_nil (a : Nat) : numV a [] = a := rfl
theorem numV_cons (a : Nat) (c : UInt8) (r : List UInt8) : numV a (c :: r) = numV (10 * a + (c.toNat - 48)) r := by unfold numV; rw [List.foldl_cons]
def val (l : List UInt8) : Nat := numV 0 l
theorem numV_append (a : Nat) (l r : List UInt8) : numV a (l ++ r) = numV (numV a l) r := by
  induction l generalizing a with
  | nil => rfl
  | cons c l ih => rw [List.cons_append, numV_cons, numV_cons]; exact ih _
theorem numV_lt : ∀ (l : List UInt8) (hl : l.all isD = true) (a p : Nat), a < p → numV a l < p * 10 ^ l.length
  | [], _, a, p, h => by simpa [numV_nil] using h
  | c :: l, hl, a, p, h => by
    simp only [List.all_cons, Bool.and_eq_true] at hl
    have hc : 48 ≤ c.toNat ∧ c.toNat ≤ 57 := by simpa [isD] using hl.1
    have := numV_lt l hl.2 (10 * a + (c.toNat - 48)) (10 * p) (by omega)
    rw [List.length_cons, Nat.pow_succ, Nat.mul_comm (10 ^ l.length) 10, ← Nat.mul_assoc, Nat.mul_comm p 10]
    rw [numV_cons]
    exact this
theorem numV_ge (l : List UInt8) : ∀ a : Nat, a ≤ numV a l := by
  induction l with
  | nil => intro a; simp [numV_nil]
  | cons c l ih => intro a; have := ih (10 * a + (c.toNat - 48)); simp only [numV_cons]; omega
theorem numV_ge_pow (l : List UInt8) : ∀ (a k : Nat), 10 ^ k ≤ a → 10 ^ (k + l.length) ≤ numV a l := by
  induction l with
  | nil => intro a k h; simp only [numV_nil, List.length_nil, Nat.add_zero]; exact h
  | cons c l ih =>
    intro a k h
    have hp : 10 ^ (k + 1) ≤ 10 * a + (c.toNat - 48) := by rw [Nat.pow_succ]; omega
    have := ih (10 * a + (c.toNat - 48)) (k + 1) hp
    rw [show k + (c :: l).length = k + 1 + l.length by simp; omega]
    simp only [numV_cons]
    exact this
theorem val_lt (l : List UInt8) (hl : l.all isD = true) : val l < 10 ^ l.length := by
  have := numV_lt l hl 0 1 (by decide); rw [Nat.one_mul] at this; exact this
theorem val_snoc (l : List UInt8) (c : UInt8) : val (l ++ [c]) = 10 * val l + (c.toNat - 48) := by unfold val; rw [numV_append, numV_cons, numV_nil]
/-- A number without a sign and without a zero ahead of another digit. -/
def plainB : List UInt8 → Bool
  | [] => false
  | c :: r => (r.isEmpty || c != 48) && (c :: r).all isD
theorem plainB_all {l : List UInt8} (h : plainB l = true) : l.all isD = true := by
  cases l with
  | nil => rfl
  | cons c r => simp only [plainB, Bool.and_eq_true] at h; exact h.2
theorem plainB_ne {l : List UInt8} (h : plainB l = true) : l ≠ [] := by rintro rfl; simp [plainB] at h
theorem dec_small {u : Nat} (h : u < 10) : Lib.decDigits u = [dg u] := Lib.decDigits_one h
theorem dec_big {u : Nat} (h : ¬ u < 10) : Lib.decDigits u = Lib.decDigits (u / 10) ++ [dg (u % 10)] := by rw [Lib.decDigits, dif_neg h]; rfl
theorem val_dec (u : Nat) : val (Lib.decDigits u) = u := by
  induction u using Nat.strongRecOn with
  | ind u ih =>
    by_cases h : u < 10
    · rw [dec_small h]; simp [val, numV_cons, numV_nil, dg_toNat h]
    · rw [dec_big h, val_snoc, ih _ (by omega), dg_toNat (by omega)]; omega
theorem dec_all (u : Nat) : (Lib.decDigits u).all isD = true := by
  induction u using Nat.strongRecOn with
  | ind u ih =>
    by_cases h : u < 10
    · rw [dec_small h]; simp [isD_dg h]
    · rw [dec_big h, List.all_append, ih _ (by omega)]; simp [isD_dg (show u % 10 < 10 by omega)]
theorem dec_ne (u : Nat) : Lib.decDigits u ≠ [] := by
  intro h
  have := Lib.decDigits_length u
  have := Lib.nDigits_pos u
  rw [h] at *; simp at *; omega
theorem dec_head (u : Nat) (h : 0 < u) : ∃ c r, Lib.decDigits u = c :: r ∧ c ≠ 48 := by
  induction u using Nat.strongRecOn with
  | ind u ih =>
    by_cases hu : u < 10
    · refine ⟨dg u, [], dec_small hu, ?_⟩
      intro e
      have := congrArg UInt8.toNat e
      rw [dg_toNat hu] at this
      simp at this; omega
    · obtain ⟨c, r, h1, h2⟩ := ih (u / 10) (by omega) (by omega)
      exact ⟨c, r ++ [dg (u % 10)], by rw [dec_big hu, h1]; rfl, h2⟩
theorem plain_dec (u : Nat) : plainB (Lib.decDigits u) = true := by
  by_cases h : u = 0
  · subst h; rw [dec_small (by decide)]; decide
  · obtain ⟨c, r, h1, h2⟩ := dec_head u (by omega)
    have := dec_all u
    rw [h1] at this ⊢
    simp [plainB, h2] at this ⊢
    exact this
theorem snoc_ind {P : List UInt8 → Prop} (h0 : P []) (h1 : ∀ l c, P l → P (l ++ [c])) (l : List UInt8) : P l := by
  rw [← List.reverse_reverse l]
  induction l.reverse with
  | nil => exact h0
  | cons a r ih => rw [List.reverse_cons]; exact h1 _ _ ih
theorem val_pos (c : UInt8) (r : List UInt8) (hd : isD c = true) (h : c ≠ 48) : 0 < val (c :: r) := by
  have h1 : 48 ≤ c.toNat ∧ c.toNat ≤ 57 := by simpa [isD] using hd
  have h2 : c.toNat ≠ 48 := fun e => h (UInt8.toNat_inj.1 e)
  have := numV_ge r (10 * 0 + (c.toNat - 48))
  simp only [val, numV_cons, numV_nil]; omega
theorem dec_val (l : List UInt8) : plainB l = true → Lib.decDigits (val l) = l := by
  induction l using snoc_ind with
  | h0 => intro h; simp [plainB] at h
  | h1 l c ih =>
    intro h
    have ha := plainB_all h
    rw [List.all_append] at ha
    simp only [List.all_cons, List.all_nil, Bool.and_true, Bool.and_eq_true] at ha
    have hc : 48 ≤ c.toNat ∧ c.toNat ≤ 57 := by simpa [isD] using ha.2
    rw [val_snoc]
    cases l with
    | nil =>
      rw [dec_small (by simp [val, numV_cons, numV_nil]; omega)]
      simp [val, numV_cons, numV_nil, dg_of ha.2]
    | cons a r =>
      have hn : a ≠ 48 := by
        intro e; subst e
        simp [plainB] at h
      have ha' := ha.1
      simp only [List.all_cons, Bool.and_eq_true] at ha'
      have hp : plainB (a :: r) = true := by simp only [plainB, List.all_cons, Bool.and_eq_true]; exact ⟨by simp [hn], ha'⟩
      have := val_pos a r ha'.1 hn
      rw [dec_big (by omega), show (10 * val (a :: r) + (c.toNat - 48)) / 10 = val (a :: r) by omega, ih hp, show (10 * val (a :: r) + (c.toNat - 48)) % 10 = c.toNat - 48 by omega, dg_of ha.2]
theorem dec_len {u k : Nat} (hk : 0 < k) (h : u < 10 ^ k) : (Lib.decDigits u).length ≤ k := by
  rcases Nat.lt_or_ge k (Lib.decDigits u).length with hlt | hge
  · by_cases h0 : u = 0
    · subst h0; rw [dec_small (by decide)] at hlt; simp at hlt; omega
    · obtain ⟨c, r, h1, h2⟩ := dec_head u (by omega)
      have hd := dec_all u
      rw [h1] at hd hlt
      simp only [List.all_cons, Bool.and_eq_true] at hd
      have hv := val_pos c r hd.1 h2
      have e : val (c :: r) = u := by rw [← h1, val_dec]
      have hc : 48 ≤ c.toNat ∧ c.toNat ≤ 57 := by simpa [isD] using hd.1
      have h3 : c.toNat ≠ 48 := fun e => h2 (UInt8.toNat_inj.1 e)
      have := numV_ge_pow r (10 * 0 + (c.toNat - 48)) 0 (by simp; omega)
      rw [show numV (10 * 0 + (c.toNat - 48)) r = u from e] at this
      have h4 : 10 ^ k ≤ 10 ^ (0 + r.length) := Nat.pow_le_pow_right (by decide) (by simp at hlt; omega)
      omega
  · exact hge
theorem parseUintM_digits (M : Nat) (hM : M ≤ 18446744073709551615) : ∀ (l : List UInt8) (a : Nat), l.all isD = true → numV a l ≤ M → Lib.parseUintM M a l = .ok (numV a l)
  | [], a, _, _ => rfl
  | c :: r, a, h, hm => by
    simp only [List.all_cons, Bool.and_eq_true] at h
    have hc : 48 ≤ c.toNat ∧ c.toNat ≤ 57 := by simpa [isD] using h.1
    have hge := numV_ge r (10 * a + (c.toNat - 48))
    simp only [numV_cons] at hm ⊢
    rw [Lib.parseUintM, if_pos hc, if_neg (by omega), if_neg (by omega), Nat.mul_comm a 10]
    exact parseUintM_digits M hM r _ h.2 hm
theorem parseInt_plain (l : List UInt8) (hne : l ≠ []) (h : l.all isD = true) (hv : val l < 9223372036854775808) : Lib.parseIntB 64 l = .ok (val l : Int) := by
  cases l with
  | nil => exact absurd rfl hne
  | cons c r =>
    have h' := h
    simp only [List.all_cons, Bool.and_eq_true] at h'
    have hc : 48 ≤ c.toNat ∧ c.toNat ≤ 57 := by simpa [isD] using h'.1
    rw [Lib.parseIntB_plain 64 c r (by omega) (by omega), Lib.parseUintB, if_neg (by simp), parseUintM_digits _ (by decide) _ _ h (by unfold val at hv; omega)]
    simp only [Lib.signlessC]
    unfold val at hv
    rw [if_neg (by omega)]
    rfl
end Go.Proofs.YtjijpkimlgbepaaGreatDoor
