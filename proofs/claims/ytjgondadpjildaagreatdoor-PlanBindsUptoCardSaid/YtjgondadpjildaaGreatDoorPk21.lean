/- From the rows' premises to the walks': what the listed variables hold; a plan among the arguments. -/
import Derived.Test.YtjgondadpjildaaGreatDoorPk19
import Derived.Deep.DeepHandedRow
import Derived.Carry
import Derived.LaidSub
namespace Go.Proofs.YtjgondadpjildaaGreatDoor
open Go.RowKit Go.ChangeShapes Go.WideShapes Go.Deep
set_option linter.unusedVariables false
set_option linter.unusedSimpArgs false
/-- What a listed variable's cells hold. -/
def laidCells : DataW Unit → Array Value
  | .agg l => (l.map fun | .lit (.int k n) => Value.int k n | .lit (.string b) => .string ⟨b.toArray⟩ | _ => .bool false).toArray
  | _ => #[]
def setBlk (h : Array Obj) (g : Nat) (cs : Array Value) : Array Obj := h.modify g fun
  | .cells _ t frozen => .cells cs t frozen
  | o => o
theorem laidVars_mem {w : World} : ∀ {l : List (String × DataW Unit)} {ps : List MemPlace}, DataW.LaidVars Tryz.prog w l ps → ∀ n d, (n, d) ∈ l →
    ∃ g t cs fuel p, Tryz.prog.globalNamed n = some g ∧ (Tryz.prog.globals[g]?).map (·.type) = some t ∧ w.var? Tryz.prog n = some cs ∧ DataW.trod (fun _ => ()) Tryz.prog w 0 (fun _ => true) false fuel t cs.toList = some (d, p)
  | [], _, _, n, d, hm => by cases hm
  | (n', d') :: r, ps, h, n, d, hm => by
    obtain ⟨g, t, cs, fuel, p, q, h1, h2, h3, h4, h5, _⟩ := h
    rcases List.mem_cons.1 hm with e | hm
    · injection e with e1 e2
      subst e1; subst e2
      exact ⟨g, t, cs, fuel, p, h1, h2, h3, h4⟩
    · exact laidVars_mem h5 n d hm
theorem tab_of {w : World} {l : List (String × DataW Unit)} {ps : List MemPlace} (h : DataW.LaidVars Tryz.prog w l ps) {n : String} {k : IntKind} {zs : List Int} {g : Nat} {t e : TypeId} {m : Nat}
    (hg : Tryz.prog.globalNamed n = some g) (hty : (Tryz.prog.globals[g]?).map (·.type) = some t) (ht : Tryz.prog.underlying t = some (.array m e)) (he : Tryz.prog.underlying e = some (.int k)) (hce : Tryz.prog.cellsOf e = 1) (hct : Tryz.prog.cellsOf t = m)
    (hm : (n, Lib.tabData k zs) ∈ l) : Lib.TabIs Tryz.prog w n k zs := by
  obtain ⟨g', t', cs, fuel, p, hg', ht', hvar, hd⟩ := laidVars_mem h n _ hm
  obtain rfl := Option.some.inj (hg.symm.trans hg')
  obtain rfl := Option.some.inj (hty.symm.trans ht')
  unfold Lib.TabIs
  rw [hvar, ← Lib.cells_of_tab ht he hce hct hd]
def strData (ss : List (List UInt8)) : DataW Unit := .agg (ss.map fun s => .lit (.string s))
theorem strs_of {w : World} {l : List (String × DataW Unit)} {ps : List MemPlace} (h : DataW.LaidVars Tryz.prog w l ps) {n : String} {ss : List (List UInt8)} {g : Nat} {t e : TypeId} {m : Nat}
    (hg : Tryz.prog.globalNamed n = some g) (hty : (Tryz.prog.globals[g]?).map (·.type) = some t) (ht : Tryz.prog.underlying t = some (.array m e)) (he : Tryz.prog.underlying e = some .string) (hce : Tryz.prog.cellsOf e = 1)
    (hm : (n, strData ss) ∈ l) : ∀ k, k < m → k < ss.length ∧ w.cell? ⟨g, k, none⟩ = some (.string ⟨(ss.getD k []).toArray⟩) := by
  obtain ⟨g', t', cs, fuel, p, hg', ht', hvar, hd⟩ := laidVars_mem h n _ hm
  obtain rfl := Option.some.inj (hg.symm.trans hg')
  obtain rfl := Option.some.inj (hty.symm.trans ht')
  obtain ⟨xs, m', _, hx, hlen, hxl, hf⟩ := DataW.trod_array ht hd
  intro k hk
  have h1 := hf k hk
  rw [hce, Nat.mul_one, List.getElem?_eq_getElem (by omega)] at h1
  obtain ⟨s, e1, e2, _⟩ := DataW.trod_string he h1
  have h2 : (strData ss) = .agg (xs.map (·.1)) := by simp only [Prod.mk.injEq] at hx; exact hx.1
  unfold strData at h2
  injection h2 with h2
  have h3 : (ss.map fun s => (DataW.lit (H := Unit) (.string s)))[k]? = (xs.map (·.1))[k]? := by rw [h2]
  rw [List.getElem?_map, List.getElem?_map, List.getElem?_eq_getElem (show k < xs.length by omega)] at h3
  cases hs : ss[k]? with
  | none => rw [hs] at h3; cases h3
  | some s' =>
    rw [hs, e2] at h3
    have h4 : s' = s.data.toList := by simpa using h3
    have hkl : k < ss.length := (List.getElem?_eq_some_iff.1 hs).1
    refine ⟨hkl, ?_⟩
    have hc : cs.toList[k]? = some (.string s) := by
      have hkc : k < cs.toList.length := by
        rcases Nat.lt_or_ge k cs.toList.length with h | h
        · exact h
        · rw [List.drop_of_length_le h] at e1; simp at e1
      rw [List.drop_eq_getElem_cons hkc] at e1
      simp at e1
      rw [List.getElem?_eq_getElem hkc]; simp [e1]
    rw [World.var?_cell hg hvar k]
    simp only [Array.getElem?_toList] at hc
    rw [hc, List.getD_eq_getElem?_getD, hs, h4]
    rfl
theorem gUses : Tryz.prog.globalNamed "flightdeck/leg.uses" = some 0 := by kernel_rfl
theorem gNames : Tryz.prog.globalNamed "flightdeck/leg.names" = some 1 := by kernel_rfl
theorem laid_of {W : World} {l : List (String × DataW Unit)} (h : laidMet Tryz.prog l W) (hsh : W.ShapedOpen Tryz.prog) (h1 : ("flightdeck/leg.uses", Lib.tabData .u16 usesTab) ∈ l) (h2 : ("flightdeck/leg.names", strData namesTab) ∈ l)
    (h3 : ("internal/strconv.uint64pow10", Lib.tabData .u64 Lib.pow10Tab) ∈ l) : Laid W := by
  obtain ⟨ps, hv, _, _⟩ := h
  have t1 := tab_of hv gUses (t := 92) (by kernel_rfl) Tryz.underlying92 Tryz.underlying91 (by kernel_rfl) (by kernel_rfl) h1
  have t2 := strs_of hv gNames (t := 120) (by kernel_rfl) Tryz.underlying120 Tryz.underlying9 (by kernel_rfl) h2
  have t3 := tab_of hv gPow10 (t := 226) (by kernel_rfl) Tryz.underlying226 Tryz.underlying178 (by kernel_rfl) (by kernel_rfl) h3
  exact ⟨fun k hk => t1.cell gUses k hk, fun k hk => (t2 k hk).2, Go.Proofs.cell_of_shapedOpen_int (zero := #[.int .i64 0]) (t := 3) hsh (of_decide_eq_true (by kernel_rfl)) (by kernel_rfl) rfl (by kernel_rfl) (by kernel_rfl) Tryz.underlying3, t3⟩
section
variable {H : Type} {enc : TypeId × Value → H} {w : World} {base : Nat} {spare : Nat → Bool} {held : Bool}
set_option maxRecDepth 100000 in
theorem open_planT {r : Reach} {b0 : Nat} {v : Value} {d : DataW H} {ps : List MemPlace} (hv : Value.okWide Tryz.prog w r b0 52 v) (h : DataW.Trod enc Tryz.prog w base spare held 52 v d ps) :
    ∃ (p : Plan) (A : Option Addr) (c : Nat), v = p.val A c ∧ p.es.length ≤ c ∧ Ents w A p.es ∧ p.es.length ≤ Rows.uptoBulk d ∧ (Rows.uptoBulk d ≤ 4000000000 → p.small) := by
  obtain ⟨cs, rfl, hsz⟩ := okWide_struct Tryz.underlying52 hv
  obtain ⟨fuel, hf⟩ := h
  obtain ⟨xs, n, _, hx, hlen, hxl, hf⟩ := DataW.trod_struct Tryz.underlying52 hf
  rw [cells_plan] at hsz
  have hl4 : cs.toList.length = 4 := by simpa using hsz
  obtain ⟨c0, c1, c2, c3, hcs⟩ := list4 hl4
  obtain ⟨y0, y1, y2, y3, rfl⟩ := list4 hxl
  have g0 := fld hf 0 9 0 1 rfl cells_str
  have g1 := fld hf 1 9 1 1 rfl cells_str
  have g2 := fld hf 2 43 2 1 rfl cells_es
  have g3 := fld hf 3 3 3 1 rfl cells_int
  have hvc : (Value.agg cs).cells.toList = [c0, c1, c2, c3] := hcs
  rw [hvc] at g0 g1 g2 g3
  simp only [List.drop_succ_cons, List.drop_zero, List.take_succ_cons, List.take_zero, List.getElem?_cons_succ, List.getElem?_cons_zero] at g0 g1 g2 g3
  obtain ⟨s0, e0, b0⟩ := open_str g0
  obtain ⟨s1, e1, b1⟩ := open_str g1
  obtain ⟨es, A, c, e2, hc, hE, b2, b3⟩ := open_ents g2
  obtain ⟨k, e3, _⟩ := DataW.trod_int Tryz.underlying3 g3
  simp only [List.cons.injEq, and_true] at e3
  simp only [Prod.mk.injEq] at hx
  have hy : Rows.uptoBulk d = Rows.uptoBulkAll [y0.1, y1.1, y2.1, y3.1] + 1 := by rw [hx.1]; simp [Rows.uptoBulk]
  have p0 : Rows.uptoBulk y0.1 ≤ Rows.uptoBulkAll [y0.1, y1.1, y2.1, y3.1] := bulk_part (by simp)
  have p1 : Rows.uptoBulk y1.1 ≤ Rows.uptoBulkAll [y0.1, y1.1, y2.1, y3.1] := bulk_part (by simp)
  have p2 : Rows.uptoBulk y2.1 ≤ Rows.uptoBulkAll [y0.1, y1.1, y2.1, y3.1] := bulk_part (by simp)
  refine ⟨⟨s0, s1, es, k⟩, A, c, ?_, hc, hE, ?_, fun hN => ⟨?_, ?_, ?_, fun x hx' => ?_⟩⟩
  · have : cs = #[c0, c1, c2, c3] := by apply Array.toList_inj.1; rw [hcs]
    rw [this, e0, e1, e2, e3]; rfl
  · show es.length ≤ _; omega
  · show s0.length ≤ _; omega
  · show s1.length ≤ _; omega
  · show es.length ≤ _; omega
  · obtain ⟨q1, q2, q3⟩ := b3 x hx'
    exact ⟨⟨by omega, by omega⟩, by omega⟩
set_option maxRecDepth 100000 in
theorem open_entsT {r : Reach} {b0 : Nat} {v : Value} {d : DataW H} {ps : List MemPlace} (hv : Value.okWide Tryz.prog w r b0 43 v) (h : DataW.Trod enc Tryz.prog w base spare held 43 v d ps) :
    ∃ (es : List Entry) (A : Option Addr) (c : Nat), v = .slice A es.length c ∧ es.length ≤ c ∧ Ents w A es ∧ es.length ≤ Rows.uptoBulk d ∧ (Rows.uptoBulk d ≤ 4000000000 → ∀ x ∈ es, x.small) := by
  obtain ⟨fuel, hf⟩ := h
  obtain ⟨a0, l0, c0, rfl⟩ := okWide_slice Tryz.underlying43 hv
  have hc1 : (Value.slice a0 l0 c0).cells.toList = [.slice a0 l0 c0] := rfl
  rw [hc1] at hf
  obtain ⟨es, A, c, e, hc, hE, b1, b2⟩ := open_ents hf
  exact ⟨es, A, c, e, hc, hE, b1, fun hN x hx => by obtain ⟨q1, q2, q3⟩ := b2 x hx; simp only at q1 q2 q3 b1; exact ⟨⟨by omega, by omega⟩, by omega⟩⟩
end
end Go.Proofs.YtjgondadpjildaaGreatDoor
