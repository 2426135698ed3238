/- From the rows' premises to the walks' of layer 58: what the listed variables hold. The reference's texts: distances, windows, and of a leg: the same as the program's. Printed by wip/mkreftx.py. -/
import Derived.Test.YtijfmfdnagjlpaaGreatDoorPk30
import Derived.Test.YtijfmfdnagjlpaaGreatDoorPk11
import Derived.Test.YtijfmfdnagjlpaaGreatDoorPk22
import Derived.Test.YtijfmfdnagjlpaaGreatDoorPk18
import Derived.Test.YtijfmfdnagjlpaaGreatDoorPk05
import Derived.Test.YtijfmfdnagjlpaaGreatDoorPk16
import Derived.Test.YtijfmfdnagjlpaaGreatDoorPk17
namespace Go.Proofs.YtijfmfdnagjlpaaGreatDoor
open Go.RowKit Go.ChangeShapes Go.WideShapes Go.Deep
set_option linter.unusedVariables false
set_option linter.unusedSimpArgs false
theorem gWords58 : Tryz.prog.globalNamed "flightdeck/page.words" = some 0 := by kernel_rfl
def wordsData : DataW Unit := .slice (wordsL.map fun s => .lit (.string s)) []
set_option maxRecDepth 100000 in
theorem words_of {w : World} {l : List (String × DataW Unit)} (h : laidMet Tryz.prog l w) (hm : ("flightdeck/page.words", wordsData) ∈ l) : WordsAt w := by
  obtain ⟨ps, hv, _, _⟩ := h
  obtain ⟨g', t', cs, fuel, p, hg', ht', hvar, hd⟩ := laidVars_mem hv _ _ hm
  obtain rfl := Option.some.inj (gWords58.symm.trans hg')
  obtain rfl : 41 = t' := Option.some.inj ((show (Tryz.prog.globals[0]?).map (·.type) = some 41 by kernel_rfl).symm.trans ht')
  rcases open_slice1 Tryz.underlying41 cells_str hd with ⟨_, hx⟩ | ⟨a, len, cap, m, n, V, D, Pl, hcs, hb, hlc, hcm, hmm, hx, hi⟩
  · unfold wordsData at hx; cases hx
  · unfold wordsData at hx
    simp only [Prod.mk.injEq, DataW.slice.injEq] at hx
    obtain ⟨⟨hx1, _⟩, _⟩ := hx
    have hlen : len = 10 := by have := congrArg List.length hx1; simpa [wordsL] using this.symm
    subst hlen
    have hc0 : w.cell? ⟨0, 0, none⟩ = some (.slice (some a) 10 cap) := by
      rw [World.var?_cell gWords58 hvar 0]
      have : cs = #[.slice (some a) 10 cap] := Array.toList_inj.1 (by rw [hcs])
      rw [this]; rfl
    have hstr : ∀ i s, wordsL[i]? = some s → w.cell? (a.add i) = some (sval s) := by
      intro i s hs
      have hi10 : i < 10 := by have := (List.getElem?_eq_some_iff.1 hs).1; simpa [wordsL] using this
      obtain ⟨h1, h2⟩ := hi i (by rw [hmm]; split <;> omega)
      obtain ⟨s', e1, e2, _⟩ := DataW.trod_string Tryz.underlying9 h2
      have h3 : (wordsL.map fun s => DataW.lit (H := Unit) (.string s))[i]? = ((List.range 10).map D)[i]? := by rw [hx1]
      rw [List.getElem?_map, hs, List.getElem?_map, List.getElem?_range (by omega)] at h3
      simp only [Option.map_some, Option.some.injEq] at h3
      simp only [Prod.mk.injEq] at e2
      rw [e2.1] at h3
      have h4 : s = s'.data.toList := by simpa using h3
      simp only [List.cons.injEq, and_true] at e1
      rw [h1, e1, h4]
      unfold sval
      simp
    obtain ⟨b, off, spot⟩ := a
    have h0 := hstr 0 kCLR rfl
    have hsp : spot = none := by
      cases spot with
      | none => rfl
      | some q =>
        exfalso
        unfold World.cell? Addr.add sval at h0
        split at h0 <;> simp at h0
    subst hsp
    exact ⟨b, off, cap, hc0, hlc, block_lt_of_cell h0, block_lt_of_cell hc0, fun i s hs => by simpa [addr_add] using hstr i s hs⟩
theorem gErr58 : Tryz.prog.globalNamed "strconv.ErrRange" = some 7 := by kernel_rfl
set_option maxRecDepth 100000 in
theorem err_of {w : World} {l : List (String × DataW Unit)} {d : DataW Unit} (h : laidMet Tryz.prog l w) (hm : ("strconv.ErrRange", d) ∈ l) : ErrAt w := by
  obtain ⟨ps, hv, _, _⟩ := h
  obtain ⟨g', t', cs, fuel, p, hg', ht', hvar, hd⟩ := laidVars_mem hv _ _ hm
  obtain rfl := Option.some.inj (gErr58.symm.trans hg')
  obtain rfl : 125 = t' := Option.some.inj ((show (Tryz.prog.globals[7]?).map (·.type) = some 125 by kernel_rfl).symm.trans ht')
  have key : ∃ ev, cs.toList = [ev] ∧ (ev = .nilIface ∨ ∃ u v, ev = .iface u v) := by
    cases fuel with
    | zero => simp [DataW.trod] at hd
    | succ n =>
      unfold DataW.trod at hd
      rw [Tryz.underlying125] at hd
      split at hd <;> simp_all
  obtain ⟨ev, hcs, hev⟩ := key
  refine ⟨ev, ?_, hev⟩
  rw [World.var?_cell gErr58 hvar 0]
  have : cs = #[ev] := Array.toList_inj.1 (by rw [hcs])
  rw [this]; rfl
theorem gNames58 : Tryz.prog.globalNamed "flightdeck/leg.names" = some 1 := by kernel_rfl
set_option maxRecDepth 100000 in
theorem laid58_of {W : World} {l : List (String × DataW Unit)} (h : laidMet Tryz.prog l W) (hsh : W.ShapedOpen Tryz.prog) (h2 : ("flightdeck/leg.names", strData namesTab) ∈ l)
    (h3 : ("internal/strconv.uint64pow10", Lib.tabData .u64 Lib.pow10Tab) ∈ l) : Laid W := by
  obtain ⟨ps, hv, _, _⟩ := h
  have t2 := strs_of hv gNames58 (t := 115) (by kernel_rfl) Tryz.underlying115 Tryz.underlying9 (by kernel_rfl) h2
  have t3 := tab_of hv gPow10 (t := 159) (by kernel_rfl) Tryz.underlying159 Tryz.underlying143 (by kernel_rfl) (by kernel_rfl) h3
  exact ⟨fun k hk => (t2 k hk).2, Go.Proofs.cell_of_shapedOpen_int (zero := #[.int .i64 0]) (t := 3) hsh (of_decide_eq_true (by kernel_rfl)) (by kernel_rfl) rfl (by kernel_rfl) (by kernel_rfl) Tryz.underlying3, t3⟩
/-- What the walks of this layer need of the world. -/
structure Open58 (w : World) : Prop where
  laid : Laid w
  words : WordsAt w
  err : ErrAt w
theorem Open58.below {w w' : World} (h : Open58 w) (hb : Below w.heap.size w w') : Open58 w' := ⟨h.laid.below hb, h.words.below hb, h.err.below hb⟩
end Go.Proofs.YtijfmfdnagjlpaaGreatDoor
namespace Go.Proofs.YtijfmfdnagjlpaaGreatDoor
open Go.RowKit Go.Sort
set_option linter.unusedVariables false
set_option linter.unusedSimpArgs false
section
attribute [local go_sem] ba_cat cat_len
set_option maxHeartbeats 4000000 in
theorem rwinText_in (lo hi : Int) (w : World) (h : winOk lo hi) : Calls Tryz.prog 65 #[.agg (Win.arr ⟨lo, hi⟩)] w (Ret w (.tuple #[.string ⟨(winS lo hi).toArray⟩, .int .i64 0])) := by
  obtain ⟨h1, h2, h3⟩ := h
  have k1 : lo ≤ 6000000 := by omega
  have k2 : -200000 ≤ hi := by omega
  have La := altS_len h1 k1
  have Lb := altS_len k2 h3
  have HW := Lib.hid (show winS lo hi = if lo = -200000 ∧ hi = 6000000 then [45] else if lo = hi then altS lo else if hi = 6000000 then altS lo ++ [43] else if lo = -200000 then altS hi ++ [45] else altS lo ++ (58 :: altS hi) from rfl)
  have c1 := Lib.hid (fun w => raltIn_any lo h1 k1 w)
  have c2 := Lib.hid (fun w => raltIn_any hi k2 h3 w)
  generalize altS lo = A at La HW c1
  generalize altS hi = B at Lb HW c2
  have n1 : ¬ lo < -200000 := by omega
  have n2 : ¬ hi < lo := by omega
  have n3 : ¬ 6000000 < hi := by omega
  clear k1 k2
  go_enter Tryz.func65, Tryz.ntmps65
  simp only [Win.arr]
  go_wp2_with fail
  with_reducible refine callP (c1.out _) ?_
  go_wp2_with fail
  with_reducible refine callP (c2.out _) ?_
  clear c1 c2
  go_wp2
  all_goals
    go_ret2
    refine Ret.text (x := (winS lo hi, 0)) ?_ (alloc_below _ _)
    rw [HW.out]
    (try simp only [cat_two])
    grind
end
def ad (b : Bool) (p w : List UInt8) : List UInt8 := if b then p ++ 32 :: w else p
theorem ad_yes {b : Bool} (hb : b = true) (p w : List UInt8) : ad b p w = p ++ 32 :: w := by rw [hb]; rfl
theorem ad_no {b : Bool} (hb : b = false) (p w : List UInt8) : ad b p w = p := by rw [hb]; rfl
theorem ad_len {p w : List UInt8} {n m : Nat} (b : Bool) (hp : p.length ≤ n) (hw : w.length ≤ m) : (ad b p w).length ≤ n + (m + 1) := by
  unfold ad
  split
  · simp only [List.length_append, List.length_cons]; omega
  · omega
theorem ad_turn (b : Bool) (p : List UInt8) (t : Int) (h : b = true → t = 1 ∨ t = 2) : ad b p (if t = 1 then [76] else [82]) = ad (b && (t == 2)) (ad (b && (t == 1)) p [76]) [82] := by
  cases b
  · rfl
  · rcases h rfl with rfl | rfl <;> rfl
theorem join_snoc (ws : List (List UInt8)) (s : List UInt8) (h : ws ≠ []) : Lib.join (ws ++ [s]) [32] = Lib.join ws [32] ++ 32 :: s := by
  match ws, h with
  | [a], _ => rw [List.singleton_append, join_cons2, join_one, join_one]
  | a :: b :: q, _ =>
    have := join_snoc (b :: q) s (by simp)
    rw [List.cons_append, List.cons_append, join_cons2, join_cons2, ← List.cons_append, this]
    simp
theorem join_opt (ws : List (List UInt8)) (s : List UInt8) (b : Bool) (h : ws ≠ []) : Lib.join (ws ++ opt b s) [32] = ad b (Lib.join ws [32]) s := by
  cases b
  · simp [opt, ad]
  · exact join_snoc ws s h
theorem app_ne {ws v : List (List UInt8)} (h : ws ≠ []) : ws ++ v ≠ [] := by intro e; exact h (List.append_eq_nil_iff.1 e).1
attribute [local go_sem] ba_cat cat_len
theorem spaced (p w : List UInt8) : cat p (cat [32] w) = p ++ 32 :: w := rfl
end Go.Proofs.YtijfmfdnagjlpaaGreatDoor
