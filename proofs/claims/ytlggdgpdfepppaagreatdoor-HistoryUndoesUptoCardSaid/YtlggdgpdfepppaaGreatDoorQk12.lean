/- A region that draws its order, whose first n operations only read or call what keeps memory, and whose last ones come in one order: one walk. No condition. strings.Join over strings as lists of bytes; plan.dash, plan.point. leg.Text: the words of a leg, joined; the texts of its numbers are told by the callees' contracts. Printed by wip/mklegtext.py. The texts of altitudes, windows and distances, and what such texts mean; the two are inverse. No program in sight. What leg.Parse computes, in plain Lean: words taken one by one, each accepted or not. The texts of a valid leg's numbers, and leg.Text of a valid leg. The words of a leg's text and what is read of them, in plain Lean: word by word they are inverse. The text of a plan, in plain Lean. Plans' texts in plain Lean: the loose reading of a valid plan's text is the plan. No program in sight. How long the text of a valid plan may be. No program in sight. -/
import Derived.Test.YtlggdgpdfepppaaGreatDoorQk10
import Derived.StillTail
import Derived.Lib.QuietBelow
import Derived.Test.YtlggdgpdfepppaaGreatDoorQk11
import Derived.Lib.Join
import Derived.Lib.ItoaLen
import Derived.Test.YtlggdgpdfepppaaGreatDoorQk01
import Derived.Lib.Split
import Derived.Test.YtlggdgpdfepppaaGreatDoorQk05
import Derived.Test.YtlggdgpdfepppaaGreatDoorQk03
import Derived.Laws.OwnMore
import Derived.Lib.AppendStr
import Derived.Test.YtlggdgpdfepppaaGreatDoorQk07
import Derived.Lib.ParseIntBCases
namespace Go.Proofs.YtlggdgpdfepppaaGreatDoor
open Go.RowKit Go.Sort
set_option linter.unusedVariables false
set_option linter.unusedSimpArgs false
section
variable {P : Program} {ops : Array Oper} {md : Region.Mode} {C : World → Prop}
def wpAnyT (P : Program) (md : Region.Mode) (ops : Array Oper) (C : World → Prop) (n : Nat) (L : Array Bool → Act → Prop) : Nat → Array Bool → Act → Prop
  | 0, listed, a => L listed a
  | f + 1, listed, a =>
    Region.ready md ops listed ≠ [] ∧ ∀ i ∈ Region.ready md ops listed, i < n ∧ qOp P ops C i (wpAnyT P md ops C n L f (listed.setIfInBounds i true)) a
theorem wpAny_of_headT {n g : Nat} {L : Array Bool → Act → Prop} {Q' : Exit → Act → World → Prop} (hL : ∀ listed a w, C w → L listed a → wpAny P md ops Q' g listed a w) :
    ∀ (f : Nat) (listed : Array Bool) (a : Act) (w : World), C w → wpAnyT P md ops C n L f listed a → wpAny P md ops Q' (f + g) listed a w
  | 0, listed, a, w, hw, h => by rw [Nat.zero_add]; exact hL _ _ _ hw h
  | f + 1, listed, a, w, hw, h => by
    rw [show f + 1 + g = (f + g) + 1 by omega]
    exact ⟨fun h0 => absurd h0 h.1, fun i hi => wpOp_of_qOp hw (fun a' w' hw' h' => wpAny_of_headT hL f _ a' w' hw' h') (h.2 i hi).2⟩
theorem wpAnyT_first {n i : Nat} {oi : Oper} {v : Value} {L : Array Bool → Act → Prop} (hi : ops[i]? = some oi) (hsel : ∀ (j : Nat) (o : Oper) cs b, ops[j]? = some o → o.op ≠ .select cs b)
    (hs : Region.sinkB md ops n = true) (hc : Region.chainB md ops n = true) (hn : n < ops.size) (hin : i < n)
    (hdone : ∀ listed a, L listed a → ∀ j ∈ Region.ready md ops listed, n ≤ j) :
    ∀ (f : Nat) (listed : Array Bool) (a : Act), HeadInv md ops n listed →
      (∀ j oj, ops[j]? = some oj → j ≠ i → listed.getD j true = false → (∀ e ∈ oj.after, Region.binds md e = true → e.on ≠ i) → oi.apart ops oj = true) →
      i ∈ Region.ready md ops listed → YieldsIn P ops C oi v a →
      wpAnyT P md ops C n L f (listed.setIfInBounds i true) (a.put oi.dst v) → wpAnyT P md ops C n L (f + 1) listed a := by
  intro f
  induction f with
  | zero =>
    intro listed a inv _ hr hy H
    have hun := (mem_ready.1 hr).1
    refine ⟨fun h => (by rw [h] at hr; cases hr), fun j hj => ?_⟩
    have hjn : j < n := by
      rcases Nat.lt_or_ge j n with h | h
      · exact h
      · exact absurd hj (tail_waits hs hc hn inv _ i rfl hin hun j h)
    refine ⟨hjn, ?_⟩
    by_cases hji : j = i
    · subst hji; exact hy.qOp hi H
    · have := hdone _ _ H j (ready_mono hj hji)
      omega
  | succ f ih =>
    intro listed a inv hfree hr hy H
    have hun := (mem_ready.1 hr).1
    refine ⟨fun h => (by rw [h] at hr; cases hr), fun j hj => ?_⟩
    have hjn : j < n := by
      rcases Nat.lt_or_ge j n with h | h
      · exact h
      · exact absurd hj (tail_waits hs hc hn inv _ i rfl hin hun j h)
    refine ⟨hjn, ?_⟩
    by_cases hji : j = i
    · subst hji; exact hy.qOp hi H
    · have h1 := (H.2 j (ready_mono hj hji)).2
      obtain ⟨hjun, oj, hoj, hall⟩ := mem_ready.1 hj
      have hnot : ∀ e ∈ oj.after, Region.binds md e = true → e.on ≠ i := fun e he hb heq => by
        have h1 := hall e he hb
        rw [heq, getD_both hun] at h1
        cases h1
      have h2 := qOp_put hoj (hfree j oj hoj hji hjun hnot) (fun cs b => hsel i oi cs b hi) (fun cs b => hsel j oj cs b hoj) hy h1
      have hfree' : ∀ k ok, ops[k]? = some ok → k ≠ i → (listed.setIfInBounds j true).getD k true = false →
          (∀ e ∈ ok.after, Region.binds md e = true → e.on ≠ i) → oi.apart ops ok = true := fun k ok hk hki hun hno => by
        refine hfree k ok hk hki ?_ hno
        by_cases hjk : j = k
        · subst hjk; exact hjun
        · rw [getD_set_ne true hjk] at hun; exact hun
      refine qOp_mono (fun a' h3 => ih (listed.setIfInBounds j true) a' (inv.set hj hjn) hfree' (ready_mono hr (Ne.symm hji)) h3.1 ?_) h2
      rw [Array.setIfInBounds_comm _ _ hji]
      exact h3.2
theorem wpAnyT_lex {n g : Nat} {Lq : Act → Prop} (hsel : Region.noSelect ops = true) (hs : Region.sinkB md ops n = true) (hc : Region.chainB md ops n = true) (hn : n < ops.size) :
    ∀ (l : List Oper) (k : Nat) (listed : Array Bool) (a : Act), (∀ j, j < l.length → l[j]? = ops[k + j]?) → k + l.length = n → HeadInv md ops n listed →
    Region.lexHead md ops g l.length k listed = true → wpQuiet P ops C Lq l a →
    wpAnyT P md ops C n (fun listed' a' => Region.seqB md ops g n listed' = true ∧ Lq a') l.length listed a
  | [], k, listed, a, _, hk, _, hB, h => by
    have : k = n := by simpa using hk
    subst this
    exact ⟨by simpa [Region.lexHead] using hB, h⟩
  | o :: l, k, listed, a, hl, hk, inv, hB, h => by
    have h0 : ops[k]? = some o := by simpa using (hl 0 (by simp)).symm
    simp only [List.length_cons, Region.lexHead, Bool.and_eq_true] at hB
    obtain ⟨⟨hr, hf⟩, hB'⟩ := hB
    have hkn : k < n := by simp only [List.length_cons] at hk; omega
    have hr' : k ∈ Region.ready md ops listed := by simpa using hr
    have hst : qOp P ops C k (wpQuiet P ops C Lq l) a := by unfold qOp; simp only [h0]; exact h
    obtain ⟨v, hy, hK⟩ := yieldsIn_of_qOp h0 hst
    exact wpAnyT_first h0 (Region.noSelect_spec hsel) hs hc hn hkn (fun listed' a' hL => seqB_ready hL.1) l.length listed a inv (Region.free_spec h0 hf) hr' hy
      (wpAnyT_lex hsel hs hc hn l (k + 1) _ _ (fun j hj => by have := hl (j + 1) (by simp; omega); simpa [Nat.add_assoc, Nat.add_comm 1 j] using this) (by simp only [List.length_cons] at hk; omega) (inv.set hr' hkn) hB' hK)
theorem wp_region_quiet_tail {id : Nat} {Q : Exit → Act → World → Prop} {a : Act} {w : World} {l : List Oper} (n : Nat) (hm : P.follows .mixedOrders = true) (hB : Region.lexTailB .any l.toArray n = true) (hC : C { w with drawn := w.drawn + 1 })
    (h : wpQuiet P l.toArray C (fun a' => ∀ w', C w' → wpList P l.toArray Q (l.drop n) a' w') (l.take n) a) : (Code.region id l.toArray true).wp P Q a w := by
  simp only [Region.lexTailB, Bool.and_eq_true, decide_eq_true_eq] at hB
  obtain ⟨⟨⟨⟨hsel, hn⟩, hs⟩, hc⟩, hlex⟩ := hB
  have hn' : n < l.length := by simpa using hn
  have htl : (l.take n).length = n := by simp; omega
  have hdl : (l.drop n).length = l.toArray.size - n := by simp
  have inv0 : HeadInv .any l.toArray n (Array.replicate l.toArray.size false) :=
    ⟨by simp, fun j oj _ hl => (by rw [getD_replicate_false] at hl; cases hl), fun t _ ht => getD_in (by simpa using ht) (getD_replicate_false _ _)⟩
  have H := wpAnyT_lex (md := .any) (g := l.toArray.size - n) hsel hs hc hn (l.take n) 0 _ a (fun j hj => by
    have hj' : j < n := by rw [htl] at hj; exact hj
    simp [hj']) (by simpa using htl) inv0 (by rw [htl]; exact hlex) h
  refine wp_region_any hm ?_
  have := wpAny_of_headT (Q' := Q) (g := l.toArray.size - n) (fun listed a' w' hw' hL => by
    have := wpAny_of_seq (l.drop n) n listed a' w' (fun j => by simp) (by rw [hdl]; exact hL.1) (hL.2 w' hw')
    rw [hdl] at this
    exact this) _ _ _ _ hC H
  rw [htl] at this
  rw [show n + (l.toArray.size - n) = l.toArray.size by simp; omega] at this
  exact this
theorem wp_region_tail_below {id : Nat} {Q : Exit → Act → World → Prop} {a : Act} {w : World} {l : List Oper} (n : Nat) (hm : P.follows .mixedOrders = true) (hB : Region.lexTailB .any l.toArray n = true)
    (h : wpQuiet P l.toArray (fun w' => ∃ p : Regrown, w' = grow (redrawn w p.d) p.os) (fun a' => ∀ w', (∃ p : Regrown, w' = grow (redrawn w p.d) p.os) → wpList P l.toArray Q (l.drop n) a' w') (l.take n) a) : (Code.region id l.toArray true).wp P Q a w :=
  wp_region_quiet_tail n hm hB ⟨⟨w.drawn + 1, #[]⟩, by rw [grow_empty]; rfl⟩ h
theorem Calls.regrown_ret {f : FuncId} {args : Array Value} {w : World} {d : Nat} {os : Array Obj} {v : Value}
    (h : Calls P f args (grow (redrawn w d) os) (Ret (grow (redrawn w d) os) v)) : Calls P f args (grow (redrawn w d) os) fun e w'' => e = .returned v ∧ ∃ p : Regrown, w'' = grow (redrawn w p.d) p.os := Calls.regrown_of h
/-! The same where the first operation (a copy) is taken ahead: what waits for it may come behind the head. -/
def sinkF (md : Region.Mode) (ops : Array Oper) (m n : Nat) : Bool :=
  (List.range n).all fun i => decide (i < m) || (List.range (n + 1)).any fun j => decide (i < j) && Region.waitsFor md ops j i
theorem tail_waitsF {m n : Nat} {listed : Array Bool} (hs : sinkF md ops m n = true) (hc : Region.chainB md ops n = true) (hn : n < ops.size) (inv : HeadInv md ops n listed) :
    ∀ (d i : Nat), n - i = d → m ≤ i → i < n → listed.getD i true = false → ∀ t, n ≤ t → t ∉ Region.ready md ops listed := by
  intro d
  induction d using Nat.strongRecOn with
  | _ d ih =>
    intro i hd hmi hi hun t ht hr
    obtain ⟨_, ot, hot, hall⟩ := mem_ready.1 hr
    have htlt : t < ops.size := (Array.getElem?_eq_some_iff.1 hot).1
    by_cases htn : t = n
    · subst htn
      have h1 := List.all_eq_true.1 hs i (List.mem_range.2 hi)
      have hnm : ¬ i < m := by omega
      simp only [Bool.or_eq_true, decide_eq_true_eq, hnm, false_or] at h1
      obtain ⟨j, hj, hj2⟩ := List.any_eq_true.1 h1
      simp only [Bool.and_eq_true, decide_eq_true_eq] at hj2
      obtain ⟨oj, hoj, e, he, hb, hon⟩ := Region.waitsFor_spec hj2.2
      have hjle : j ≤ t := by have := List.mem_range.1 hj; omega
      by_cases hjt : j = t
      · subst hjt
        have : oj = ot := Option.some.inj (hoj.symm.trans hot)
        subst this
        have h2 := hall e he hb
        rw [hon, getD_both hun] at h2
        cases h2
      · cases hl : listed.getD j false with
        | true =>
          have h2 := inv.closed j oj hoj hl e he hb
          rw [hon, getD_both hun] at h2
          cases h2
        | false =>
          have hjs : j < listed.size := by rw [inv.size]; omega
          exact ih (t - j) (by omega) j rfl (by omega) (by omega) (getD_in hjs hl) t (Nat.le_refl _) hr
    · have h1 := List.all_eq_true.1 hc t (List.mem_range.2 htlt)
      simp only [Bool.or_eq_true, decide_eq_true_eq] at h1
      rcases h1 with h1 | h1
      · omega
      · obtain ⟨o', ho', e, he, hb, hon⟩ := Region.waitsFor_spec h1
        have : o' = ot := Option.some.inj (ho'.symm.trans hot)
        subst this
        have h2 := hall e he hb
        rw [hon, getD_both (inv.tail (t - 1) (by omega) (by omega))] at h2
        cases h2
theorem wpAnyF_first {m n i : Nat} {oi : Oper} {v : Value} {L : Array Bool → Act → Prop} (hi : ops[i]? = some oi) (hsel : ∀ (j : Nat) (o : Oper) cs b, ops[j]? = some o → o.op ≠ .select cs b)
    (hs : sinkF md ops m n = true) (hc : Region.chainB md ops n = true) (hn : n < ops.size) (hmi : m ≤ i) (hin : i < n)
    (hdone : ∀ listed a, L listed a → ∀ j ∈ Region.ready md ops listed, n ≤ j) :
    ∀ (f : Nat) (listed : Array Bool) (a : Act), HeadInv md ops n listed →
      (∀ j oj, ops[j]? = some oj → j ≠ i → listed.getD j true = false → (∀ e ∈ oj.after, Region.binds md e = true → e.on ≠ i) → oi.apart ops oj = true) →
      i ∈ Region.ready md ops listed → YieldsIn P ops C oi v a →
      wpAnyT P md ops C n L f (listed.setIfInBounds i true) (a.put oi.dst v) → wpAnyT P md ops C n L (f + 1) listed a := by
  intro f
  induction f with
  | zero =>
    intro listed a inv _ hr hy H
    have hun := (mem_ready.1 hr).1
    refine ⟨fun h => (by rw [h] at hr; cases hr), fun j hj => ?_⟩
    have hjn : j < n := by
      rcases Nat.lt_or_ge j n with h | h
      · exact h
      · exact absurd hj (tail_waitsF hs hc hn inv _ i rfl hmi hin hun j h)
    refine ⟨hjn, ?_⟩
    by_cases hji : j = i
    · subst hji; exact hy.qOp hi H
    · have := hdone _ _ H j (ready_mono hj hji)
      omega
  | succ f ih =>
    intro listed a inv hfree hr hy H
    have hun := (mem_ready.1 hr).1
    refine ⟨fun h => (by rw [h] at hr; cases hr), fun j hj => ?_⟩
    have hjn : j < n := by
      rcases Nat.lt_or_ge j n with h | h
      · exact h
      · exact absurd hj (tail_waitsF hs hc hn inv _ i rfl hmi hin hun j h)
    refine ⟨hjn, ?_⟩
    by_cases hji : j = i
    · subst hji; exact hy.qOp hi H
    · have h1 := (H.2 j (ready_mono hj hji)).2
      obtain ⟨hjun, oj, hoj, hall⟩ := mem_ready.1 hj
      have hnot : ∀ e ∈ oj.after, Region.binds md e = true → e.on ≠ i := fun e he hb heq => by
        have h1 := hall e he hb
        rw [heq, getD_both hun] at h1
        cases h1
      have h2 := qOp_put hoj (hfree j oj hoj hji hjun hnot) (fun cs b => hsel i oi cs b hi) (fun cs b => hsel j oj cs b hoj) hy h1
      have hfree' : ∀ k ok, ops[k]? = some ok → k ≠ i → (listed.setIfInBounds j true).getD k true = false →
          (∀ e ∈ ok.after, Region.binds md e = true → e.on ≠ i) → oi.apart ops ok = true := fun k ok hk hki hun hno => by
        refine hfree k ok hk hki ?_ hno
        by_cases hjk : j = k
        · subst hjk; exact hjun
        · rw [getD_set_ne true hjk] at hun; exact hun
      refine qOp_mono (fun a' h3 => ih (listed.setIfInBounds j true) a' (inv.set hj hjn) hfree' (ready_mono hr (Ne.symm hji)) h3.1 ?_) h2
      rw [Array.setIfInBounds_comm _ _ hji]
      exact h3.2
theorem wpAnyF_lex {m n g : Nat} {Lq : Act → Prop} (hsel : Region.noSelect ops = true) (hs : sinkF md ops m n = true) (hc : Region.chainB md ops n = true) (hn : n < ops.size) :
    ∀ (l : List Oper) (k : Nat) (listed : Array Bool) (a : Act), (∀ j, j < l.length → l[j]? = ops[k + j]?) → m ≤ k → k + l.length = n → HeadInv md ops n listed →
    Region.lexHead md ops g l.length k listed = true → wpQuiet P ops C Lq l a →
    wpAnyT P md ops C n (fun listed' a' => Region.seqB md ops g n listed' = true ∧ Lq a') l.length listed a
  | [], k, listed, a, _, _, hk, _, hB, h => by
    have : k = n := by simpa using hk
    subst this
    exact ⟨by simpa [Region.lexHead] using hB, h⟩
  | o :: l, k, listed, a, hl, hmk, hk, inv, hB, h => by
    have h0 : ops[k]? = some o := by simpa using (hl 0 (by simp)).symm
    simp only [List.length_cons, Region.lexHead, Bool.and_eq_true] at hB
    obtain ⟨⟨hr, hf⟩, hB'⟩ := hB
    have hkn : k < n := by simp only [List.length_cons] at hk; omega
    have hr' : k ∈ Region.ready md ops listed := by simpa using hr
    have hst : qOp P ops C k (wpQuiet P ops C Lq l) a := by unfold qOp; simp only [h0]; exact h
    obtain ⟨v, hy, hK⟩ := yieldsIn_of_qOp h0 hst
    exact wpAnyF_first h0 (Region.noSelect_spec hsel) hs hc hn hmk hkn (fun listed' a' hL => seqB_ready hL.1) l.length listed a inv (Region.free_spec h0 hf) hr' hy
      (wpAnyF_lex hsel hs hc hn l (k + 1) _ _ (fun j hj => by have := hl (j + 1) (by simp; omega); simpa [Nat.add_assoc, Nat.add_comm 1 j] using this) (by omega) (by simp only [List.length_cons] at hk; omega) (inv.set hr' hkn) hB' hK)
def lexTailF (ops : Array Oper) (n : Nat) : Bool :=
  Region.noSelect ops && decide (n < ops.size) && decide (1 ≤ n) && sinkF .any ops 1 n && Region.chainB .any ops n && Region.free .any ops (Array.replicate ops.size false) 0 && (Region.ready .any ops (Array.replicate ops.size false)).contains 0 &&
    Region.lexHead .any ops (ops.size - n) (n - 1) 1 ((Array.replicate ops.size false).setIfInBounds 0 true)
theorem wp_region_take_tail {id : Nat} {Q : Exit → Act → World → Prop} {a : Act} {w : World} {o0 : Oper} {l : List Oper} {v0 : Value} (n : Nat) (hm : P.follows .mixedOrders = true) (hB : lexTailF (o0 :: l).toArray n = true)
    (hQ : ∀ c a w, Q (.panic c) (a.put o0.dst v0) w → Q (.panic c) a w) (hy : Yields P (o0 :: l).toArray o0 v0 a) (hC : C { w with drawn := w.drawn + 1 })
    (h : wpQuiet P (o0 :: l).toArray C (fun a' => ∀ w', C w' → wpList P (o0 :: l).toArray Q ((o0 :: l).drop n) a' w') (l.take (n - 1)) (a.put o0.dst v0)) : (Code.region id (o0 :: l).toArray true).wp P Q a w := by
  simp only [lexTailF, Bool.and_eq_true, decide_eq_true_eq] at hB
  obtain ⟨⟨⟨⟨⟨⟨⟨hsel, hn⟩, hn1⟩, hs⟩, hc⟩, hf0⟩, hr0⟩, hlex⟩ := hB
  have hn' : n < l.length + 1 := by simpa using hn
  have htl : (l.take (n - 1)).length = n - 1 := by simp; omega
  have hdl : ((o0 :: l).drop n).length = (o0 :: l).toArray.size - n := by simp
  have inv0 : HeadInv .any (o0 :: l).toArray n (Array.replicate (o0 :: l).toArray.size false) :=
    ⟨by simp, fun j oj _ hl => (by rw [getD_replicate_false] at hl; cases hl), fun t _ ht => getD_in (by simpa using ht) (getD_replicate_false _ _)⟩
  have inv1 := inv0.set (i := 0) (by simpa using hr0) (by omega)
  have H := wpAnyF_lex (md := .any) (m := 1) (g := (o0 :: l).toArray.size - n) hsel hs hc hn (l.take (n - 1)) 1 _ (a.put o0.dst v0) (fun j hj => by
    have hj' : j < n - 1 := by rw [htl] at hj; exact hj
    rw [List.getElem?_take, if_pos hj', Nat.add_comm 1 j]; simp) (Nat.le_refl _) (by omega) inv1 (by rw [htl]; exact hlex) h
  refine wp_region_any hm ?_
  have := wpAny_of_headT (Q' := Q) (g := (o0 :: l).toArray.size - n) (fun listed a' w' hw' hL => by
    have := wpAny_of_seq ((o0 :: l).drop n) n listed a' w' (fun j => by simp) (by rw [hdl]; exact hL.1) (hL.2 w' hw')
    rw [hdl] at this
    exact this) _ _ _ _ hC H
  rw [htl] at this
  have h2 := wpAny_take (Q := Q) (i := 0) (oi := o0) (v := v0) (by simp) hsel hf0 hr0 hQ hy this
  rw [show n - 1 + ((o0 :: l).toArray.size - n) + 1 = (o0 :: l).toArray.size by simp; omega] at h2
  exact h2
theorem wp_region_take_tail_below {id : Nat} {Q : Exit → Act → World → Prop} {a : Act} {w : World} {o0 : Oper} {l : List Oper} (v0 : Value) (n : Nat) (hm : P.follows .mixedOrders = true) (hB : lexTailF (o0 :: l).toArray n = true)
    (hQ : ∀ c a w, Q (.panic c) (a.put o0.dst v0) w → Q (.panic c) a w) (hy : Yields P (o0 :: l).toArray o0 v0 a)
    (h : wpQuiet P (o0 :: l).toArray (fun w' => ∃ p : Regrown, w' = grow (redrawn w p.d) p.os) (fun a' => ∀ w', (∃ p : Regrown, w' = grow (redrawn w p.d) p.os) → wpList P (o0 :: l).toArray Q ((o0 :: l).drop n) a' w') (l.take (n - 1)) (a.put o0.dst v0)) : (Code.region id (o0 :: l).toArray true).wp P Q a w :=
  wp_region_take_tail n hm hB hQ hy ⟨⟨w.drawn + 1, #[]⟩, by rw [grow_empty]; rfl⟩ h
end
end Go.Proofs.YtlggdgpdfepppaaGreatDoor
namespace Go.Proofs.YtlggdgpdfepppaaGreatDoor
open Go.RowKit Go.Sort
set_option linter.unusedVariables false
set_option linter.unusedSimpArgs false
theorem ba_append (a b : List UInt8) : (ByteArray.mk a.toArray) ++ (ByteArray.mk b.toArray) = ⟨(a ++ b).toArray⟩ := by
  apply ByteArray.ext
  simp [ByteArray.data_append]
attribute [local go_sem] ba_append
def i64 (n : Int) : Prop := -9223372036854775808 ≤ n ∧ n ≤ 9223372036854775807
end Go.Proofs.YtlggdgpdfepppaaGreatDoor
namespace Go.Proofs.YtlggdgpdfepppaaGreatDoor
open Go.RowKit Go.Sort
set_option linter.unusedVariables false
set_option linter.unusedSimpArgs false
attribute [local go_sem] bit_eq bit_ne ba_append
end Go.Proofs.YtlggdgpdfepppaaGreatDoor
namespace Go.Proofs.YtlggdgpdfepppaaGreatDoor
set_option linter.unusedVariables false
set_option linter.unusedSimpArgs false
def winOk (lo hi : Int) : Prop := -200000 ≤ lo ∧ lo ≤ hi ∧ hi ≤ 6000000
instance (lo hi : Int) : Decidable (winOk lo hi) := by unfold winOk; infer_instance
end Go.Proofs.YtlggdgpdfepppaaGreatDoor
namespace Go.Proofs.YtlggdgpdfepppaaGreatDoor
open Go.RowKit Go.Sort
set_option linter.unusedVariables false
set_option linter.unusedSimpArgs false
def refB (s : List UInt8) : Bool := (splitRef s).2.2 == 0
def speedB : List UInt8 → Bool
  | x :: y :: r => x == 115 && y != 48 && decide (r.length ≤ 3) && (y :: r).all isD
  | _ => false
def speedS (s : List UInt8) : Int × Bool := if speedB s then ((val s.tail : Int), true) else (0, false)
end Go.Proofs.YtlggdgpdfepppaaGreatDoor
namespace Go.Proofs.YtlggdgpdfepppaaGreatDoor
open Go.RowKit Go.Sort
set_option linter.unusedVariables false
set_option linter.unusedSimpArgs false
theorem orE_zero {a b : Int} : orE a b = 0 ↔ a = 0 ∧ b = 0 := by unfold orE; grind
structure LegOk (l : Leg) : Prop where
  known : knownB l.ty = true
  fix : checkRefI l.fix (uB l.ty 1) = 0
  center : checkRefI l.center (uB l.ty 2) = 0
  turn : turnE (uB l.ty 4) l.turn = 0
  over : overB l = false
  course : checkNum l.course (uB l.ty 16) 0 129599999 = 0
  dist : checkNum l.dist (uB l.ty 32) 1 2000000 = 0
  radius : checkNum l.radius (uB l.ty 64) 1 2000000 = 0
  theta : checkNum l.theta (uB l.ty 128) 0 129599999 = 0
  limits : limitsE l = 0
theorem legOk_of {l : Leg} (h : legCheck l = 0) : LegOk l := by
  unfold legCheck at h
  cases hk : knownB l.ty
  · rw [hk] at h; simp at h
  · rw [hk] at h
    simp only [if_true, orE_zero, legC2, legC3, legC4] at h
    obtain ⟨h1, h2, h3, h4, h5, h6, h7, h8, h9⟩ := h
    refine ⟨hk, h1, h2, h3, ?_, h5, h6, h7, h8, h9⟩
    cases ho : overB l
    · rfl
    · rw [ho] at h4; simp at h4
end Go.Proofs.YtlggdgpdfepppaaGreatDoor
namespace Go.Proofs.YtlggdgpdfepppaaGreatDoor
open Go.RowKit Go.Sort
set_option linter.unusedVariables false
set_option linter.unusedSimpArgs false
theorem speed_back {s : List UInt8} (h : (speedS s).2 = true) : 1 ≤ (speedS s).1 ∧ s = 115 :: Lib.decDigits (speedS s).1.toNat := by
  unfold speedS at h ⊢
  by_cases hb : speedB s = true
  · rw [if_pos hb] at h ⊢
    unfold speedB at hb
    split at hb
    · rename_i x y r
      simp only [Bool.and_eq_true, beq_iff_eq, bne_iff_ne, decide_eq_true_eq, ne_eq] at hb
      obtain ⟨⟨⟨rfl, hy⟩, hr⟩, ha⟩ := hb
      have hd : isD y = true := by simp at ha; exact ha.1
      have hp : plainB (y :: r) = true := by
        have := ha
        unfold plainB
        cases r with
        | nil => simpa using ha
        | cons z t => simp [ha, hy] at ha ⊢
      have hv := val_pos y r hd hy
      have he := dec_val _ hp
      simp only [List.tail_cons]
      refine ⟨by omega, ?_⟩
      rw [show ((val (y :: r) : Nat) : Int).toNat = val (y :: r) by omega, he]
    · cases hb
  · rw [if_neg hb] at h; simp at h
theorem refB_iff {s : List UInt8} : refB s = true ↔ checkRefI s true = 0 := by
  unfold refB checkRefI
  simp only [if_true, beq_iff_eq]
  constructor
  · intro h; rw [if_pos h]
  · intro h
    by_cases h2 : (splitRef s).2.2 = 0
    · exact h2
    · rw [if_neg h2] at h; cases h
theorem nameB_all {l : List UInt8} {m : Int} (h : nameB l m = true) : l.all alnum = true := by
  unfold nameB at h
  split at h
  · cases h
  · simp only [Bool.and_eq_true] at h; exact h.2
end Go.Proofs.YtlggdgpdfepppaaGreatDoor
namespace Go.Proofs.YtlggdgpdfepppaaGreatDoor
open Go.RowKit
set_option linter.unusedVariables false
set_option linter.unusedSimpArgs false
theorem orE0 {a b : Int} (h : orE a b = 0) : a = 0 ∧ b = 0 := by grind [orE]
theorem check_each : ∀ (es : List Entry) (prev : Option Entry) (s : Int), checkGo prev s es = 0 → ∀ x ∈ es, x.gap = false → aloneE x = 0
  | [], _, _, _, x, hx, _ => by simp at hx
  | y :: r, prev, s, h, x, hx, hg => by
    simp only [checkGo] at h
    obtain ⟨h1, h2⟩ := orE0 h
    rcases List.mem_cons.1 hx with rfl | hx
    · unfold stepE at h1
      rw [hg] at h1
      exact (orE0 (by simpa using h1)).1
    · exact check_each r _ _ h2 x hx hg
theorem planCheck_ok {p : Plan} (h : planCheck p = 0) : p.es.length ≤ 60 ∧ checkGo none 0 p.es = 0 ∧ -1 ≤ p.active ∧ p.active < 60 := by
  unfold planCheck at h
  split at h
  · simp at h
  · split at h
    · simp at h
    · obtain ⟨h1, h2⟩ := orE0 h
      refine ⟨by omega, h1, ?_⟩
      unfold activeE at h2
      split at h2
      · omega
      · split at h2
        · simp at h2
        · omega
end Go.Proofs.YtlggdgpdfepppaaGreatDoor
namespace Go.Proofs.YtlggdgpdfepppaaGreatDoor
open Go.RowKit
set_option linter.unusedVariables false
set_option linter.unusedSimpArgs false
/-! What the parts of a valid plan's text are made of. -/
theorem cutAt_falseS (c : UInt8) : ∀ l : List UInt8, (cutAt c l).2.2 = false → (cutAt c l).1 = l
  | [], _ => rfl
  | x :: r, h => by
    by_cases hx : x = c
    · simp [cutAt, hx] at h
    · simp only [cutAt, hx, if_false] at h ⊢
      rw [cutAt_falseS c r h]
theorem pairB_parts {l : List UInt8} {c : UInt8} {m : Int} (h : pairB l c m = true) : ∀ x ∈ l, alnum x = true ∨ x = c := by
  unfold pairB pair3 at h
  simp only [Bool.and_eq_true, Bool.or_eq_true, Bool.not_eq_true'] at h
  obtain ⟨h1, h2⟩ := h
  have a1 := List.all_eq_true.1 (nameB_all h1)
  cases hq : (cutAt c l).2.2
  · rw [cutAt_falseS c l hq] at a1
    exact fun x hx => .inl (a1 x hx)
  · rw [hq] at h2
    have h2 : nameB (cutAt c l).2.1 m = true := by simpa using h2
    have a2 := List.all_eq_true.1 (nameB_all h2)
    have hp := cutAt_parts c l hq
    intro x hx
    rw [hp] at hx
    simp only [List.mem_append, List.mem_cons] at hx
    rcases hx with hx | hx | hx
    · exact .inl (a1 x hx)
    · exact .inr hx
    · exact .inl (a2 x hx)
theorem itoa_not {c : UInt8} (h : isD c = false) (h45 : c ≠ 45) (n : Int) : c ∉ Lib.itoa n := by
  have hd : ∀ u : Nat, c ∉ Lib.decDigits u := fun u hm => by
    have := (List.all_eq_true.1 (dec_all u)) c hm
    rw [h] at this; cases this
  by_cases hn : 0 ≤ n
  · obtain ⟨u, rfl⟩ : ∃ u : Nat, n = u := ⟨n.toNat, by omega⟩
    rw [Lib.itoa_nonneg]; exact hd u
  · obtain ⟨u, rfl⟩ : ∃ u : Nat, n = -(u : Int) := ⟨n.natAbs, by omega⟩
    rw [Lib.itoa_neg u (by omega)]
    simp only [List.mem_cons, not_or]
    exact ⟨h45, hd u⟩
theorem alone_parts {x : Entry} (h : aloneE x = 0) : legCheck x.leg = 0 ∧ 1 ≤ x.sec ∧ x.sec ≤ 5 ∧ viaB x.via = true ∧ (-2000000 ≤ x.ex ∧ x.ex ≤ 2000000) ∧ (-2000000 ≤ x.ey ∧ x.ey ≤ 2000000) ∧ (-2000000 ≤ x.mx ∧ x.mx ≤ 2000000) ∧ (-2000000 ≤ x.my ∧ x.my ≤ 2000000) ∧
    (x.leg.fix = [] → x.ex = 0 ∧ x.ey = 0) ∧ (x.leg.center = [] → x.mx = 0 ∧ x.my = 0) := by
  obtain ⟨h1, h2⟩ := orE0 h
  unfold alone2 at h2
  split at h2
  · simp at h2
  · rename_i h3
    split at h2
    · simp at h2
    · rename_i hv
      split at h2
      · simp at h2
      · rename_i h4
        split at h2
        · simp at h2
        · rename_i h6
          have h3 : sectionB x.sec = true := by simpa using h3
          have hv : viaB x.via = true := by simpa using hv
          have h5 : pointB x.ex x.ey = true ∧ pointB x.mx x.my = true := by simpa using h4
          simp only [sectionB, pointB, Bool.and_eq_true, decide_eq_true_eq] at h3 h5
          unfold placedB at h6
          simp only [Bool.or_eq_true, Bool.and_eq_true, Bool.not_eq_true', not_or, not_and, Bool.not_eq_false, beq_iff_eq, List.isEmpty_iff, Bool.and_eq_true] at h6
          refine ⟨h1, by omega, by omega, hv, by omega, by omega, by omega, by omega, fun e => ?_, fun e => ?_⟩
          · have := h6.1 e
            simpa using this
          · have := h6.2 e
            simpa using this
theorem checkGo_each : ∀ (es : List Entry) (prev : Option Entry) (s : Int), checkGo prev s es = 0 → ∀ x ∈ es, x.gap = true → x.eqB gapE = true
  | [], _, _, _, x, hx, _ => by simp at hx
  | y :: r, prev, s, h, x, hx, hg => by
    simp only [checkGo] at h
    obtain ⟨h1, h2⟩ := orE0 h
    rcases List.mem_cons.1 hx with rfl | hx
    · unfold stepE at h1
      rw [hg] at h1
      by_cases he : x.eqB gapE = true
      · exact he
      · simp [he] at h1
    · exact checkGo_each r _ _ h2 x hx hg
theorem place_of {p : Plan} (h : planCheck p = 0) : placeB p.from_ = true ∧ placeB p.to_ = true := by
  unfold planCheck at h
  split at h
  · simp at h
  · rename_i h1
    simpa using h1
end Go.Proofs.YtlggdgpdfepppaaGreatDoor
namespace Go.Proofs.YtlggdgpdfepppaaGreatDoor
open Go.RowKit
set_option linter.unusedVariables false
set_option linter.unusedSimpArgs false
theorem ref_lenT {s : List UInt8} (h : refB s = true) : s.length ≤ 13 := by
  have h0 : (splitRef s).2.2 = 0 := by simpa [refB] using h
  unfold splitRef splitRef3 at h0
  by_cases hq : (cutAt 47 s).2.2 = true
  · rw [if_pos hq] at h0
    by_cases hn : (nameB (cutAt 47 s).1 6 && (nameB (cutAt 47 s).2.1 6 || shortB (cutAt 47 s).2.1)) = true
    · have hp := congrArg List.length (cutAt_parts 47 s hq)
      simp only [Bool.and_eq_true, Bool.or_eq_true] at hn
      have nl : ∀ {l : List UInt8}, nameB l 6 = true → l.length ≤ 6 := fun {l} h => by
        unfold nameB at h
        split at h
        · cases h
        · simp only [Bool.and_eq_true, decide_eq_true_eq] at h; omega
      have a1 := nl hn.1
      have a2 : (cutAt 47 s).2.1.length ≤ 6 := by
        rcases hn.2 with h2 | h2
        · exact nl h2
        · unfold shortB at h2; simp only [Bool.and_eq_true, beq_iff_eq] at h2; omega
      simp only [List.length_append, List.length_cons] at hp
      omega
    · rw [if_neg hn] at h0; cases h0
  · rw [if_neg hq] at h0; cases h0
theorem nameB_lenT {l : List UInt8} {m : Nat} (h : nameB l m = true) : l.length ≤ m := by
  unfold nameB at h
  split at h
  · cases h
  · simp only [Bool.and_eq_true, decide_eq_true_eq] at h; omega
theorem pairB_lenT {l : List UInt8} {c : UInt8} {m : Nat} (h : pairB l c m = true) : l.length ≤ 2 * m + 1 := by
  unfold pairB pair3 at h
  simp only [Bool.and_eq_true, Bool.or_eq_true, Bool.not_eq_true'] at h
  obtain ⟨h1, h2⟩ := h
  have a1 := nameB_lenT h1
  cases hq : (cutAt c l).2.2
  · rw [cutAt_falseS c l hq] at a1; omega
  · rw [hq] at h2
    have h2 : nameB (cutAt c l).2.1 m = true := by simpa using h2
    have a2 := nameB_lenT h2
    have hp := congrArg List.length (cutAt_parts c l hq)
    simp only [List.length_append, List.length_cons] at hp
    omega
/-! What the two parsers answer. -/
def plan0 : Plan := ⟨[], [], [], 0⟩
end Go.Proofs.YtlggdgpdfepppaaGreatDoor
