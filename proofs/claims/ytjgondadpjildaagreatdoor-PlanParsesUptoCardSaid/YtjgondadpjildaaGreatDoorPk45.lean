/- The arguments of the statements opened: entries, slices of entries, plans out of their readings; the bound on what is read. From the rows' premises to the walks': what the listed variables hold; a plan among the arguments. -/
import Derived.Test.YtjgondadpjildaaGreatDoorPk09
import Derived.Test.YtjgondadpjildaaGreatDoorPk02
import Derived.Test.YtjgondadpjildaaGreatDoorPk44
import Derived.OpenShut
import Derived.Deep.Slices
import Derived.Deep.Fields
import Derived.ChangeSame
import Derived.Deep.DeepHandedRow
import Derived.Carry
import Derived.LaidSub
namespace Go.Proofs.YtjgondadpjildaaGreatDoor
open Go.RowKit Go.ChangeShapes Go.WideShapes Go.Deep
set_option linter.unusedVariables false
set_option linter.unusedSimpArgs false
theorem cells_lt : Tryz.prog.cellsOf 32 = 1 := by kernel_rfl
theorem cells_sec : Tryz.prog.cellsOf 39 = 1 := by kernel_rfl
theorem cells_win : Tryz.prog.cellsOf 34 = 2 := by kernel_rfl
theorem cells_pt : Tryz.prog.cellsOf 38 = 2 := by kernel_rfl
theorem cells_leg : Tryz.prog.cellsOf 36 = 13 := by kernel_rfl
theorem cells_ent : Tryz.prog.cellsOf 41 = 20 := by kernel_rfl
theorem cells_es : Tryz.prog.cellsOf 43 = 1 := by kernel_rfl
theorem cells_plan : Tryz.prog.cellsOf 52 = 4 := by kernel_rfl
section
variable {H : Type} {enc : TypeId × Value → H} {w : World} {base : Nat} {spare : Nat → Bool} {held : Bool}
theorem open_leg {fuel : Nat} {cs : List Value} {y : DataW H × List MemPlace} (h : DataW.trod enc Tryz.prog w base spare held fuel 36 cs = some y) : ∃ l : Leg, cs = l.arr.toList ∧ l.fix.length ≤ Rows.uptoBulk y.1 ∧ l.center.length ≤ Rows.uptoBulk y.1 := by
  obtain ⟨xs, n, _, hx, hlen, hxl, hf⟩ := DataW.trod_struct Tryz.underlying36 h
  rw [cells_leg] at hlen
  obtain ⟨c0, c1, c2, c3, c4, c5, c6, c7, c8, c9, c10, c11, c12, rfl⟩ := list13 hlen
  obtain ⟨y0, y1, y2, y3, y4, y5, y6, y7, y8, y9, y10, y11, rfl⟩ := list12 hxl
  have g0 := fld hf 0 32 0 1 rfl cells_lt
  have g1 := fld hf 1 9 1 1 rfl cells_str
  have g2 := fld hf 2 9 2 1 rfl cells_str
  have g3 := fld hf 3 5 3 1 rfl cells_u8
  have g4 := fld hf 4 4 4 1 rfl cells_bool
  have g5 := fld hf 5 2 5 1 rfl cells_i64
  have g6 := fld hf 6 2 6 1 rfl cells_i64
  have g7 := fld hf 7 2 7 1 rfl cells_i64
  have g8 := fld hf 8 2 8 1 rfl cells_i64
  have g9 := fld hf 9 34 9 2 rfl cells_win
  have g10 := fld hf 10 2 11 1 rfl cells_i64
  have g11 := fld hf 11 2 12 1 rfl cells_i64
  simp only [List.drop_succ_cons, List.drop_zero, List.take_succ_cons, List.take_zero, List.getElem?_cons_succ, List.getElem?_cons_zero] at g0 g1 g2 g3 g4 g5 g6 g7 g8 g9 g10 g11
  obtain ⟨v0, e0, _⟩ := DataW.trod_int Tryz.underlying32 g0
  obtain ⟨v1, e1, b1⟩ := open_str g1
  obtain ⟨v2, e2, b2⟩ := open_str g2
  obtain ⟨v3, e3, _⟩ := DataW.trod_int Tryz.underlying5 g3
  obtain ⟨v4, e4, _⟩ := DataW.trod_bool Tryz.underlying4 g4
  obtain ⟨v5, e5, _⟩ := DataW.trod_int Tryz.underlying2 g5
  obtain ⟨v6, e6, _⟩ := DataW.trod_int Tryz.underlying2 g6
  obtain ⟨v7, e7, _⟩ := DataW.trod_int Tryz.underlying2 g7
  obtain ⟨v8, e8, _⟩ := DataW.trod_int Tryz.underlying2 g8
  obtain ⟨v9, v10, e9⟩ := open_two Tryz.underlying34 cells_win ⟨rfl, rfl⟩ ⟨rfl, rfl⟩ g9
  obtain ⟨v11, e11, _⟩ := DataW.trod_int Tryz.underlying2 g10
  obtain ⟨v12, e12, _⟩ := DataW.trod_int Tryz.underlying2 g11
  simp only [List.cons.injEq, and_true] at e0 e3 e4 e5 e6 e7 e8 e9 e11 e12
  obtain ⟨e9, e10⟩ := e9
  have hy : Rows.uptoBulk y.1 = Rows.uptoBulkAll [y0.1, y1.1, y2.1, y3.1, y4.1, y5.1, y6.1, y7.1, y8.1, y9.1, y10.1, y11.1] + 1 := by rw [hx]; simp [Rows.uptoBulk]
  have p1 : Rows.uptoBulk y1.1 ≤ Rows.uptoBulkAll [y0.1, y1.1, y2.1, y3.1, y4.1, y5.1, y6.1, y7.1, y8.1, y9.1, y10.1, y11.1] := bulk_part (by simp)
  have p2 : Rows.uptoBulk y2.1 ≤ Rows.uptoBulkAll [y0.1, y1.1, y2.1, y3.1, y4.1, y5.1, y6.1, y7.1, y8.1, y9.1, y10.1, y11.1] := bulk_part (by simp)
  refine ⟨⟨v0, v1, v2, v3, v4, v5, v6, v7, v8, v9, v10, v11, v12⟩, ?_, ?_, ?_⟩
  · rw [e0, e1, e2, e3, e4, e5, e6, e7, e8, e9, e10, e11, e12]; rfl
  · show v1.length ≤ _; omega
  · show v2.length ≤ _; omega
theorem open_ent {fuel : Nat} {cs : List Value} {y : DataW H × List MemPlace} (h : DataW.trod enc Tryz.prog w base spare held fuel 41 cs = some y) :
    ∃ x : Entry, cs = x.arr.toList ∧ x.leg.fix.length ≤ Rows.uptoBulk y.1 ∧ x.leg.center.length ≤ Rows.uptoBulk y.1 ∧ x.via.length ≤ Rows.uptoBulk y.1 := by
  obtain ⟨xs, n, _, hx, hlen, hxl, hf⟩ := DataW.trod_struct Tryz.underlying41 h
  rw [cells_ent] at hlen
  obtain ⟨c0, c1, c2, c3, c4, c5, c6, c7, c8, c9, c10, c11, c12, c13, c14, c15, c16, c17, c18, c19, rfl⟩ := list20 hlen
  obtain ⟨y0, y1, y2, y3, y4, y5, rfl⟩ := list6 hxl
  have g0 := fld hf 0 4 0 1 rfl cells_bool
  have g1 := fld hf 1 36 1 13 rfl cells_leg
  have g2 := fld hf 2 38 14 2 rfl cells_pt
  have g3 := fld hf 3 38 16 2 rfl cells_pt
  have g4 := fld hf 4 39 18 1 rfl cells_sec
  have g5 := fld hf 5 9 19 1 rfl cells_str
  simp only [List.drop_succ_cons, List.drop_zero, List.take_succ_cons, List.take_zero, List.getElem?_cons_succ, List.getElem?_cons_zero] at g0 g1 g2 g3 g4 g5
  obtain ⟨v0, e0, _⟩ := DataW.trod_bool Tryz.underlying4 g0
  obtain ⟨l, e1, b1, b2⟩ := open_leg g1
  obtain ⟨v2, v3, e2⟩ := open_two Tryz.underlying38 cells_pt ⟨rfl, rfl⟩ ⟨rfl, rfl⟩ g2
  obtain ⟨v4, v5, e3⟩ := open_two Tryz.underlying38 cells_pt ⟨rfl, rfl⟩ ⟨rfl, rfl⟩ g3
  obtain ⟨v6, e4, _⟩ := DataW.trod_int Tryz.underlying39 g4
  obtain ⟨v7, e5, b5⟩ := open_str g5
  have hy : Rows.uptoBulk y.1 = Rows.uptoBulkAll [y0.1, y1.1, y2.1, y3.1, y4.1, y5.1] + 1 := by rw [hx]; simp [Rows.uptoBulk]
  have p1 : Rows.uptoBulk y1.1 ≤ Rows.uptoBulkAll [y0.1, y1.1, y2.1, y3.1, y4.1, y5.1] := bulk_part (by simp)
  have p5 : Rows.uptoBulk y5.1 ≤ Rows.uptoBulkAll [y0.1, y1.1, y2.1, y3.1, y4.1, y5.1] := bulk_part (by simp)
  refine ⟨⟨v0, l, v2, v3, v4, v5, v6, v7⟩, ?_, ?_, ?_, ?_⟩
  · simp only [List.cons.injEq, and_true] at e0 e2 e3 e4
    have e1' : [c1, c2, c3, c4, c5, c6, c7, c8, c9, c10, c11, c12, c13] = l.arr.toList := e1
    have : [c0, c1, c2, c3, c4, c5, c6, c7, c8, c9, c10, c11, c12, c13, c14, c15, c16, c17, c18, c19] = [c0] ++ [c1, c2, c3, c4, c5, c6, c7, c8, c9, c10, c11, c12, c13] ++ [c14, c15, c16, c17, c18, c19] := rfl
    rw [this, e1', e0, e2.1, e2.2, e3.1, e3.2, e4, e5]; rfl
  · show l.fix.length ≤ _; omega
  · show l.center.length ≤ _; omega
  · show v7.length ≤ _; omega
end
section
variable {H : Type} {enc : TypeId × Value → H} {w : World} {base : Nat} {spare : Nat → Bool} {held : Bool}
/-- A slice of entries: where it lies, what it holds, how much of the bulk it takes. -/
theorem open_ents {fuel : Nat} {v : Value} {y : DataW H × List MemPlace} (h : DataW.trod enc Tryz.prog w base spare held fuel 43 [v] = some y) :
    ∃ (es : List Entry) (A : Option Addr) (c : Nat), v = .slice A es.length c ∧ es.length ≤ c ∧ Ents w A es ∧ es.length ≤ Rows.uptoBulk y.1 ∧ ∀ x ∈ es, x.leg.fix.length ≤ Rows.uptoBulk y.1 ∧ x.leg.center.length ≤ Rows.uptoBulk y.1 ∧ x.via.length ≤ Rows.uptoBulk y.1 := by
  rcases open_slice Tryz.underlying43 h with ⟨h0, hx⟩ | ⟨a, len, cap, m, n, D, Pl, hcs, hb, hl, hm, hmm, hx, hi⟩
  · exact ⟨[], none, 0, by simpa using h0, by simp, Ents.nil _ _, by simp, by simp⟩
  · rw [cells_ent] at hi
    have hlm : len ≤ m := by rw [hmm]; split <;> omega
    obtain ⟨es, hel, hes⟩ := list_of (P := fun i (x : Entry) => (∀ j, j < 20 → w.cell? ((a.add (i * 20)).add j) = x.arr[j]?) ∧ x.leg.fix.length ≤ Rows.uptoBulk (D i) ∧ x.leg.center.length ≤ Rows.uptoBulk (D i) ∧ x.via.length ≤ Rows.uptoBulk (D i)) len (fun i hil => by
      obtain ⟨cs', hc, ht⟩ := hi i (by omega)
      obtain ⟨x, e, b1, b2, b3⟩ := open_ent ht
      obtain ⟨_, hcl, hat⟩ := World.cells?_some hc
      refine ⟨x, fun j hj => ?_, b1, b2, b3⟩
      rw [hat j hj, e]; simp)
    have hbk : Rows.uptoBulkAll ((List.range len).map D) + 1 ≤ Rows.uptoBulk y.1 := by rw [hx]; simp only [Rows.uptoBulk]; omega
    have hD : ∀ i, i < len → Rows.uptoBulk (D i) ≤ Rows.uptoBulk y.1 := fun i hil => by
      have := bulk_part (show D i ∈ (List.range len).map D from List.mem_map.2 ⟨i, by simpa using hil, rfl⟩)
      omega
    have hln := bulk_len ((List.range len).map D)
    simp only [List.length_map, List.length_range] at hln
    refine ⟨es, some a, cap, by rw [hel]; simpa using hcs, by omega, ⟨fun hne => ?_⟩, by omega, fun x hx' => ?_⟩
    · obtain ⟨b, off, spot⟩ := a
      have hpos : 0 < es.length := List.length_pos_iff.2 hne
      have h0 := (hes 0 es[0] (List.getElem?_eq_getElem hpos)).1 0 (by omega)
      have hsp : spot = none := by
        cases spot with
        | none => rfl
        | some q =>
          exfalso
          rw [Entry.arr0] at h0
          unfold World.cell? Addr.add at h0
          split at h0 <;> simp at h0
      subst hsp
      refine ⟨b, off, rfl, ?_, fun i x hx' j hj => ?_⟩
      · rw [Entry.arr0, addr_add, addr_add] at h0
        exact block_lt_of_cell h0
      · have := (hes i x hx').1 j hj
        rw [addr_add, addr_add] at this
        exact this
    · obtain ⟨i, hi', hxi⟩ := List.getElem_of_mem hx'
      have hb := (hes i x (by rw [← hxi]; exact List.getElem?_eq_getElem hi')).2
      have := hD i (by omega)
      omega
end
end Go.Proofs.YtjgondadpjildaaGreatDoor
namespace Go.Proofs.YtjgondadpjildaaGreatDoor
open Go.RowKit Go.ChangeShapes Go.WideShapes Go.Deep
set_option linter.unusedVariables false
set_option linter.unusedSimpArgs false
/-- What a listed variable's cells hold. -/
def laidCells : DataW Unit → Array Value
  | .agg l => (l.map fun | .lit (.int k n) => Value.int k n | .lit (.string b) => .string ⟨b.toArray⟩ | _ => .bool false).toArray
  | _ => #[]
def setBlk (h : Array Obj) (g : Nat) (cs : Array Value) : Array Obj := h.modify g fun
  | .cells _ t frozen => .cells cs t frozen
  | o => o
theorem laidVars_mem {w : World} : ∀ {l : List (String × DataW Unit)} {ps : List MemPlace}, DataW.LaidVars Tryz.prog w l ps → ∀ n d, (n, d) ∈ l →
    ∃ g t cs fuel p, Tryz.prog.globalNamed n = some g ∧ (Tryz.prog.globals[g]?).map (·.type) = some t ∧ w.var? Tryz.prog n = some cs ∧ DataW.trod (fun _ => ()) Tryz.prog w 0 (fun _ => true) false fuel t cs.toList = some (d, p)
  | [], _, _, n, d, hm => by cases hm
  | (n', d') :: r, ps, h, n, d, hm => by
    obtain ⟨g, t, cs, fuel, p, q, h1, h2, h3, h4, h5, _⟩ := h
    rcases List.mem_cons.1 hm with e | hm
    · injection e with e1 e2
      subst e1; subst e2
      exact ⟨g, t, cs, fuel, p, h1, h2, h3, h4⟩
    · exact laidVars_mem h5 n d hm
theorem tab_of {w : World} {l : List (String × DataW Unit)} {ps : List MemPlace} (h : DataW.LaidVars Tryz.prog w l ps) {n : String} {k : IntKind} {zs : List Int} {g : Nat} {t e : TypeId} {m : Nat}
    (hg : Tryz.prog.globalNamed n = some g) (hty : (Tryz.prog.globals[g]?).map (·.type) = some t) (ht : Tryz.prog.underlying t = some (.array m e)) (he : Tryz.prog.underlying e = some (.int k)) (hce : Tryz.prog.cellsOf e = 1) (hct : Tryz.prog.cellsOf t = m)
    (hm : (n, Lib.tabData k zs) ∈ l) : Lib.TabIs Tryz.prog w n k zs := by
  obtain ⟨g', t', cs, fuel, p, hg', ht', hvar, hd⟩ := laidVars_mem h n _ hm
  obtain rfl := Option.some.inj (hg.symm.trans hg')
  obtain rfl := Option.some.inj (hty.symm.trans ht')
  unfold Lib.TabIs
  rw [hvar, ← Lib.cells_of_tab ht he hce hct hd]
def strData (ss : List (List UInt8)) : DataW Unit := .agg (ss.map fun s => .lit (.string s))
theorem strs_of {w : World} {l : List (String × DataW Unit)} {ps : List MemPlace} (h : DataW.LaidVars Tryz.prog w l ps) {n : String} {ss : List (List UInt8)} {g : Nat} {t e : TypeId} {m : Nat}
    (hg : Tryz.prog.globalNamed n = some g) (hty : (Tryz.prog.globals[g]?).map (·.type) = some t) (ht : Tryz.prog.underlying t = some (.array m e)) (he : Tryz.prog.underlying e = some .string) (hce : Tryz.prog.cellsOf e = 1)
    (hm : (n, strData ss) ∈ l) : ∀ k, k < m → k < ss.length ∧ w.cell? ⟨g, k, none⟩ = some (.string ⟨(ss.getD k []).toArray⟩) := by
  obtain ⟨g', t', cs, fuel, p, hg', ht', hvar, hd⟩ := laidVars_mem h n _ hm
  obtain rfl := Option.some.inj (hg.symm.trans hg')
  obtain rfl := Option.some.inj (hty.symm.trans ht')
  obtain ⟨xs, m', _, hx, hlen, hxl, hf⟩ := DataW.trod_array ht hd
  intro k hk
  have h1 := hf k hk
  rw [hce, Nat.mul_one, List.getElem?_eq_getElem (by omega)] at h1
  obtain ⟨s, e1, e2, _⟩ := DataW.trod_string he h1
  have h2 : (strData ss) = .agg (xs.map (·.1)) := by simp only [Prod.mk.injEq] at hx; exact hx.1
  unfold strData at h2
  injection h2 with h2
  have h3 : (ss.map fun s => (DataW.lit (H := Unit) (.string s)))[k]? = (xs.map (·.1))[k]? := by rw [h2]
  rw [List.getElem?_map, List.getElem?_map, List.getElem?_eq_getElem (show k < xs.length by omega)] at h3
  cases hs : ss[k]? with
  | none => rw [hs] at h3; cases h3
  | some s' =>
    rw [hs, e2] at h3
    have h4 : s' = s.data.toList := by simpa using h3
    have hkl : k < ss.length := (List.getElem?_eq_some_iff.1 hs).1
    refine ⟨hkl, ?_⟩
    have hc : cs.toList[k]? = some (.string s) := by
      have hkc : k < cs.toList.length := by
        rcases Nat.lt_or_ge k cs.toList.length with h | h
        · exact h
        · rw [List.drop_of_length_le h] at e1; simp at e1
      rw [List.drop_eq_getElem_cons hkc] at e1
      simp at e1
      rw [List.getElem?_eq_getElem hkc]; simp [e1]
    rw [World.var?_cell hg hvar k]
    simp only [Array.getElem?_toList] at hc
    rw [hc, List.getD_eq_getElem?_getD, hs, h4]
    rfl
theorem gUses : Tryz.prog.globalNamed "flightdeck/leg.uses" = some 0 := by kernel_rfl
theorem gNames : Tryz.prog.globalNamed "flightdeck/leg.names" = some 1 := by kernel_rfl
theorem laid_of {W : World} {l : List (String × DataW Unit)} (h : laidMet Tryz.prog l W) (hsh : W.ShapedOpen Tryz.prog) (h1 : ("flightdeck/leg.uses", Lib.tabData .u16 usesTab) ∈ l) (h2 : ("flightdeck/leg.names", strData namesTab) ∈ l)
    (h3 : ("internal/strconv.uint64pow10", Lib.tabData .u64 Lib.pow10Tab) ∈ l) : Laid W := by
  obtain ⟨ps, hv, _, _⟩ := h
  have t1 := tab_of hv gUses (t := 92) (by kernel_rfl) Tryz.underlying92 Tryz.underlying91 (by kernel_rfl) (by kernel_rfl) h1
  have t2 := strs_of hv gNames (t := 120) (by kernel_rfl) Tryz.underlying120 Tryz.underlying9 (by kernel_rfl) h2
  have t3 := tab_of hv gPow10 (t := 226) (by kernel_rfl) Tryz.underlying226 Tryz.underlying178 (by kernel_rfl) (by kernel_rfl) h3
  exact ⟨fun k hk => t1.cell gUses k hk, fun k hk => (t2 k hk).2, Go.Proofs.cell_of_shapedOpen_int (zero := #[.int .i64 0]) (t := 3) hsh (of_decide_eq_true (by kernel_rfl)) (by kernel_rfl) rfl (by kernel_rfl) (by kernel_rfl) Tryz.underlying3, t3⟩
section
variable {H : Type} {enc : TypeId × Value → H} {w : World} {base : Nat} {spare : Nat → Bool} {held : Bool}
set_option maxRecDepth 100000 in
theorem open_planT {r : Reach} {b0 : Nat} {v : Value} {d : DataW H} {ps : List MemPlace} (hv : Value.okWide Tryz.prog w r b0 52 v) (h : DataW.Trod enc Tryz.prog w base spare held 52 v d ps) :
    ∃ (p : Plan) (A : Option Addr) (c : Nat), v = p.val A c ∧ p.es.length ≤ c ∧ Ents w A p.es ∧ p.es.length ≤ Rows.uptoBulk d ∧ (Rows.uptoBulk d ≤ 4000000000 → p.small) := by
  obtain ⟨cs, rfl, hsz⟩ := okWide_struct Tryz.underlying52 hv
  obtain ⟨fuel, hf⟩ := h
  obtain ⟨xs, n, _, hx, hlen, hxl, hf⟩ := DataW.trod_struct Tryz.underlying52 hf
  rw [cells_plan] at hsz
  have hl4 : cs.toList.length = 4 := by simpa using hsz
  obtain ⟨c0, c1, c2, c3, hcs⟩ := list4 hl4
  obtain ⟨y0, y1, y2, y3, rfl⟩ := list4 hxl
  have g0 := fld hf 0 9 0 1 rfl cells_str
  have g1 := fld hf 1 9 1 1 rfl cells_str
  have g2 := fld hf 2 43 2 1 rfl cells_es
  have g3 := fld hf 3 3 3 1 rfl cells_int
  have hvc : (Value.agg cs).cells.toList = [c0, c1, c2, c3] := hcs
  rw [hvc] at g0 g1 g2 g3
  simp only [List.drop_succ_cons, List.drop_zero, List.take_succ_cons, List.take_zero, List.getElem?_cons_succ, List.getElem?_cons_zero] at g0 g1 g2 g3
  obtain ⟨s0, e0, b0⟩ := open_str g0
  obtain ⟨s1, e1, b1⟩ := open_str g1
  obtain ⟨es, A, c, e2, hc, hE, b2, b3⟩ := open_ents g2
  obtain ⟨k, e3, _⟩ := DataW.trod_int Tryz.underlying3 g3
  simp only [List.cons.injEq, and_true] at e3
  simp only [Prod.mk.injEq] at hx
  have hy : Rows.uptoBulk d = Rows.uptoBulkAll [y0.1, y1.1, y2.1, y3.1] + 1 := by rw [hx.1]; simp [Rows.uptoBulk]
  have p0 : Rows.uptoBulk y0.1 ≤ Rows.uptoBulkAll [y0.1, y1.1, y2.1, y3.1] := bulk_part (by simp)
  have p1 : Rows.uptoBulk y1.1 ≤ Rows.uptoBulkAll [y0.1, y1.1, y2.1, y3.1] := bulk_part (by simp)
  have p2 : Rows.uptoBulk y2.1 ≤ Rows.uptoBulkAll [y0.1, y1.1, y2.1, y3.1] := bulk_part (by simp)
  refine ⟨⟨s0, s1, es, k⟩, A, c, ?_, hc, hE, ?_, fun hN => ⟨?_, ?_, ?_, fun x hx' => ?_⟩⟩
  · have : cs = #[c0, c1, c2, c3] := by apply Array.toList_inj.1; rw [hcs]
    rw [this, e0, e1, e2, e3]; rfl
  · show es.length ≤ _; omega
  · show s0.length ≤ _; omega
  · show s1.length ≤ _; omega
  · show es.length ≤ _; omega
  · obtain ⟨q1, q2, q3⟩ := b3 x hx'
    exact ⟨⟨by omega, by omega⟩, by omega⟩
set_option maxRecDepth 100000 in
theorem open_entsT {r : Reach} {b0 : Nat} {v : Value} {d : DataW H} {ps : List MemPlace} (hv : Value.okWide Tryz.prog w r b0 43 v) (h : DataW.Trod enc Tryz.prog w base spare held 43 v d ps) :
    ∃ (es : List Entry) (A : Option Addr) (c : Nat), v = .slice A es.length c ∧ es.length ≤ c ∧ Ents w A es ∧ es.length ≤ Rows.uptoBulk d ∧ (Rows.uptoBulk d ≤ 4000000000 → ∀ x ∈ es, x.small) := by
  obtain ⟨fuel, hf⟩ := h
  obtain ⟨a0, l0, c0, rfl⟩ := okWide_slice Tryz.underlying43 hv
  have hc1 : (Value.slice a0 l0 c0).cells.toList = [.slice a0 l0 c0] := rfl
  rw [hc1] at hf
  obtain ⟨es, A, c, e, hc, hE, b1, b2⟩ := open_ents hf
  exact ⟨es, A, c, e, hc, hE, b1, fun hN x hx => by obtain ⟨q1, q2, q3⟩ := b2 x hx; simp only at q1 q2 q3 b1; exact ⟨⟨by omega, by omega⟩, by omega⟩⟩
end
end Go.Proofs.YtjgondadpjildaaGreatDoor
