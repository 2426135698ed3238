/- A region that draws its order, whose first n operations only read or call what keeps memory, and whose last ones come in one order: one walk. No condition. strings.Join over strings as lists of bytes; plan.dash, plan.point. leg.Text: the words of a leg, joined; the texts of its numbers are told by the callees' contracts. Printed by wip/mklegtext.py. Decimal numbers: the contracts of the functions that write and read them. Plain numbers and digits: record.plain, angle.number and what the references have for them. Digits of a fixed width, and the references' own decimal numbers. -/
import Derived.Test.YtjgondadpjildaaGreatDoorPk13
import Derived.StillTail
import Derived.Lib.QuietBelow
import Derived.Test.YtjgondadpjildaaGreatDoorPk14
import Derived.Lib.Join
import Derived.Lib.ItoaLen
import Derived.Test.YtjgondadpjildaaGreatDoorPk01
namespace Go.Proofs.YtjgondadpjildaaGreatDoor
open Go.RowKit Go.Sort
set_option linter.unusedVariables false
set_option linter.unusedSimpArgs false
section
variable {P : Program} {ops : Array Oper} {md : Region.Mode} {C : World → Prop}
def wpAnyT (P : Program) (md : Region.Mode) (ops : Array Oper) (C : World → Prop) (n : Nat) (L : Array Bool → Act → Prop) : Nat → Array Bool → Act → Prop
  | 0, listed, a => L listed a
  | f + 1, listed, a =>
    Region.ready md ops listed ≠ [] ∧ ∀ i ∈ Region.ready md ops listed, i < n ∧ qOp P ops C i (wpAnyT P md ops C n L f (listed.setIfInBounds i true)) a
theorem wpAny_of_headT {n g : Nat} {L : Array Bool → Act → Prop} {Q' : Exit → Act → World → Prop} (hL : ∀ listed a w, C w → L listed a → wpAny P md ops Q' g listed a w) :
    ∀ (f : Nat) (listed : Array Bool) (a : Act) (w : World), C w → wpAnyT P md ops C n L f listed a → wpAny P md ops Q' (f + g) listed a w
  | 0, listed, a, w, hw, h => by rw [Nat.zero_add]; exact hL _ _ _ hw h
  | f + 1, listed, a, w, hw, h => by
    rw [show f + 1 + g = (f + g) + 1 by omega]
    exact ⟨fun h0 => absurd h0 h.1, fun i hi => wpOp_of_qOp hw (fun a' w' hw' h' => wpAny_of_headT hL f _ a' w' hw' h') (h.2 i hi).2⟩
theorem wpAnyT_first {n i : Nat} {oi : Oper} {v : Value} {L : Array Bool → Act → Prop} (hi : ops[i]? = some oi) (hsel : ∀ (j : Nat) (o : Oper) cs b, ops[j]? = some o → o.op ≠ .select cs b)
    (hs : Region.sinkB md ops n = true) (hc : Region.chainB md ops n = true) (hn : n < ops.size) (hin : i < n)
    (hdone : ∀ listed a, L listed a → ∀ j ∈ Region.ready md ops listed, n ≤ j) :
    ∀ (f : Nat) (listed : Array Bool) (a : Act), HeadInv md ops n listed →
      (∀ j oj, ops[j]? = some oj → j ≠ i → listed.getD j true = false → (∀ e ∈ oj.after, Region.binds md e = true → e.on ≠ i) → oi.apart ops oj = true) →
      i ∈ Region.ready md ops listed → YieldsIn P ops C oi v a →
      wpAnyT P md ops C n L f (listed.setIfInBounds i true) (a.put oi.dst v) → wpAnyT P md ops C n L (f + 1) listed a := by
  intro f
  induction f with
  | zero =>
    intro listed a inv _ hr hy H
    have hun := (mem_ready.1 hr).1
    refine ⟨fun h => (by rw [h] at hr; cases hr), fun j hj => ?_⟩
    have hjn : j < n := by
      rcases Nat.lt_or_ge j n with h | h
      · exact h
      · exact absurd hj (tail_waits hs hc hn inv _ i rfl hin hun j h)
    refine ⟨hjn, ?_⟩
    by_cases hji : j = i
    · subst hji; exact hy.qOp hi H
    · have := hdone _ _ H j (ready_mono hj hji)
      omega
  | succ f ih =>
    intro listed a inv hfree hr hy H
    have hun := (mem_ready.1 hr).1
    refine ⟨fun h => (by rw [h] at hr; cases hr), fun j hj => ?_⟩
    have hjn : j < n := by
      rcases Nat.lt_or_ge j n with h | h
      · exact h
      · exact absurd hj (tail_waits hs hc hn inv _ i rfl hin hun j h)
    refine ⟨hjn, ?_⟩
    by_cases hji : j = i
    · subst hji; exact hy.qOp hi H
    · have h1 := (H.2 j (ready_mono hj hji)).2
      obtain ⟨hjun, oj, hoj, hall⟩ := mem_ready.1 hj
      have hnot : ∀ e ∈ oj.after, Region.binds md e = true → e.on ≠ i := fun e he hb heq => by
        have h1 := hall e he hb
        rw [heq, getD_both hun] at h1
        cases h1
      have h2 := qOp_put hoj (hfree j oj hoj hji hjun hnot) (fun cs b => hsel i oi cs b hi) (fun cs b => hsel j oj cs b hoj) hy h1
      have hfree' : ∀ k ok, ops[k]? = some ok → k ≠ i → (listed.setIfInBounds j true).getD k true = false →
          (∀ e ∈ ok.after, Region.binds md e = true → e.on ≠ i) → oi.apart ops ok = true := fun k ok hk hki hun hno => by
        refine hfree k ok hk hki ?_ hno
        by_cases hjk : j = k
        · subst hjk; exact hjun
        · rw [getD_set_ne true hjk] at hun; exact hun
      refine qOp_mono (fun a' h3 => ih (listed.setIfInBounds j true) a' (inv.set hj hjn) hfree' (ready_mono hr (Ne.symm hji)) h3.1 ?_) h2
      rw [Array.setIfInBounds_comm _ _ hji]
      exact h3.2
theorem wpAnyT_lex {n g : Nat} {Lq : Act → Prop} (hsel : Region.noSelect ops = true) (hs : Region.sinkB md ops n = true) (hc : Region.chainB md ops n = true) (hn : n < ops.size) :
    ∀ (l : List Oper) (k : Nat) (listed : Array Bool) (a : Act), (∀ j, j < l.length → l[j]? = ops[k + j]?) → k + l.length = n → HeadInv md ops n listed →
    Region.lexHead md ops g l.length k listed = true → wpQuiet P ops C Lq l a →
    wpAnyT P md ops C n (fun listed' a' => Region.seqB md ops g n listed' = true ∧ Lq a') l.length listed a
  | [], k, listed, a, _, hk, _, hB, h => by
    have : k = n := by simpa using hk
    subst this
    exact ⟨by simpa [Region.lexHead] using hB, h⟩
  | o :: l, k, listed, a, hl, hk, inv, hB, h => by
    have h0 : ops[k]? = some o := by simpa using (hl 0 (by simp)).symm
    simp only [List.length_cons, Region.lexHead, Bool.and_eq_true] at hB
    obtain ⟨⟨hr, hf⟩, hB'⟩ := hB
    have hkn : k < n := by simp only [List.length_cons] at hk; omega
    have hr' : k ∈ Region.ready md ops listed := by simpa using hr
    have hst : qOp P ops C k (wpQuiet P ops C Lq l) a := by unfold qOp; simp only [h0]; exact h
    obtain ⟨v, hy, hK⟩ := yieldsIn_of_qOp h0 hst
    exact wpAnyT_first h0 (Region.noSelect_spec hsel) hs hc hn hkn (fun listed' a' hL => seqB_ready hL.1) l.length listed a inv (Region.free_spec h0 hf) hr' hy
      (wpAnyT_lex hsel hs hc hn l (k + 1) _ _ (fun j hj => by have := hl (j + 1) (by simp; omega); simpa [Nat.add_assoc, Nat.add_comm 1 j] using this) (by simp only [List.length_cons] at hk; omega) (inv.set hr' hkn) hB' hK)
theorem wp_region_quiet_tail {id : Nat} {Q : Exit → Act → World → Prop} {a : Act} {w : World} {l : List Oper} (n : Nat) (hm : P.follows .mixedOrders = true) (hB : Region.lexTailB .any l.toArray n = true) (hC : C { w with drawn := w.drawn + 1 })
    (h : wpQuiet P l.toArray C (fun a' => ∀ w', C w' → wpList P l.toArray Q (l.drop n) a' w') (l.take n) a) : (Code.region id l.toArray true).wp P Q a w := by
  simp only [Region.lexTailB, Bool.and_eq_true, decide_eq_true_eq] at hB
  obtain ⟨⟨⟨⟨hsel, hn⟩, hs⟩, hc⟩, hlex⟩ := hB
  have hn' : n < l.length := by simpa using hn
  have htl : (l.take n).length = n := by simp; omega
  have hdl : (l.drop n).length = l.toArray.size - n := by simp
  have inv0 : HeadInv .any l.toArray n (Array.replicate l.toArray.size false) :=
    ⟨by simp, fun j oj _ hl => (by rw [getD_replicate_false] at hl; cases hl), fun t _ ht => getD_in (by simpa using ht) (getD_replicate_false _ _)⟩
  have H := wpAnyT_lex (md := .any) (g := l.toArray.size - n) hsel hs hc hn (l.take n) 0 _ a (fun j hj => by
    have hj' : j < n := by rw [htl] at hj; exact hj
    simp [hj']) (by simpa using htl) inv0 (by rw [htl]; exact hlex) h
  refine wp_region_any hm ?_
  have := wpAny_of_headT (Q' := Q) (g := l.toArray.size - n) (fun listed a' w' hw' hL => by
    have := wpAny_of_seq (l.drop n) n listed a' w' (fun j => by simp) (by rw [hdl]; exact hL.1) (hL.2 w' hw')
    rw [hdl] at this
    exact this) _ _ _ _ hC H
  rw [htl] at this
  rw [show n + (l.toArray.size - n) = l.toArray.size by simp; omega] at this
  exact this
/-- The same at the class 'what was in memory is as it was'. -/
theorem wp_region_tail_below {id : Nat} {Q : Exit → Act → World → Prop} {a : Act} {w : World} {l : List Oper} (n : Nat) (hm : P.follows .mixedOrders = true) (hB : Region.lexTailB .any l.toArray n = true)
    (h : wpQuiet P l.toArray (fun w' => ∃ p : Regrown, w' = grow (redrawn w p.d) p.os) (fun a' => ∀ w', (∃ p : Regrown, w' = grow (redrawn w p.d) p.os) → wpList P l.toArray Q (l.drop n) a' w') (l.take n) a) : (Code.region id l.toArray true).wp P Q a w :=
  wp_region_quiet_tail n hm hB ⟨⟨w.drawn + 1, #[]⟩, by rw [grow_empty]; rfl⟩ h
theorem Calls.regrown_ret {f : FuncId} {args : Array Value} {w : World} {d : Nat} {os : Array Obj} {v : Value}
    (h : Calls P f args (grow (redrawn w d) os) (Ret (grow (redrawn w d) os) v)) : Calls P f args (grow (redrawn w d) os) fun e w'' => e = .returned v ∧ ∃ p : Regrown, w'' = grow (redrawn w p.d) p.os := Calls.regrown_of h
/-! The same where the first operation (a copy) is taken ahead: what waits for it may come behind the head. -/
def sinkF (md : Region.Mode) (ops : Array Oper) (m n : Nat) : Bool :=
  (List.range n).all fun i => decide (i < m) || (List.range (n + 1)).any fun j => decide (i < j) && Region.waitsFor md ops j i
theorem tail_waitsF {m n : Nat} {listed : Array Bool} (hs : sinkF md ops m n = true) (hc : Region.chainB md ops n = true) (hn : n < ops.size) (inv : HeadInv md ops n listed) :
    ∀ (d i : Nat), n - i = d → m ≤ i → i < n → listed.getD i true = false → ∀ t, n ≤ t → t ∉ Region.ready md ops listed := by
  intro d
  induction d using Nat.strongRecOn with
  | _ d ih =>
    intro i hd hmi hi hun t ht hr
    obtain ⟨_, ot, hot, hall⟩ := mem_ready.1 hr
    have htlt : t < ops.size := (Array.getElem?_eq_some_iff.1 hot).1
    by_cases htn : t = n
    · subst htn
      have h1 := List.all_eq_true.1 hs i (List.mem_range.2 hi)
      have hnm : ¬ i < m := by omega
      simp only [Bool.or_eq_true, decide_eq_true_eq, hnm, false_or] at h1
      obtain ⟨j, hj, hj2⟩ := List.any_eq_true.1 h1
      simp only [Bool.and_eq_true, decide_eq_true_eq] at hj2
      obtain ⟨oj, hoj, e, he, hb, hon⟩ := Region.waitsFor_spec hj2.2
      have hjle : j ≤ t := by have := List.mem_range.1 hj; omega
      by_cases hjt : j = t
      · subst hjt
        have : oj = ot := Option.some.inj (hoj.symm.trans hot)
        subst this
        have h2 := hall e he hb
        rw [hon, getD_both hun] at h2
        cases h2
      · cases hl : listed.getD j false with
        | true =>
          have h2 := inv.closed j oj hoj hl e he hb
          rw [hon, getD_both hun] at h2
          cases h2
        | false =>
          have hjs : j < listed.size := by rw [inv.size]; omega
          exact ih (t - j) (by omega) j rfl (by omega) (by omega) (getD_in hjs hl) t (Nat.le_refl _) hr
    · have h1 := List.all_eq_true.1 hc t (List.mem_range.2 htlt)
      simp only [Bool.or_eq_true, decide_eq_true_eq] at h1
      rcases h1 with h1 | h1
      · omega
      · obtain ⟨o', ho', e, he, hb, hon⟩ := Region.waitsFor_spec h1
        have : o' = ot := Option.some.inj (ho'.symm.trans hot)
        subst this
        have h2 := hall e he hb
        rw [hon, getD_both (inv.tail (t - 1) (by omega) (by omega))] at h2
        cases h2
theorem wpAnyF_first {m n i : Nat} {oi : Oper} {v : Value} {L : Array Bool → Act → Prop} (hi : ops[i]? = some oi) (hsel : ∀ (j : Nat) (o : Oper) cs b, ops[j]? = some o → o.op ≠ .select cs b)
    (hs : sinkF md ops m n = true) (hc : Region.chainB md ops n = true) (hn : n < ops.size) (hmi : m ≤ i) (hin : i < n)
    (hdone : ∀ listed a, L listed a → ∀ j ∈ Region.ready md ops listed, n ≤ j) :
    ∀ (f : Nat) (listed : Array Bool) (a : Act), HeadInv md ops n listed →
      (∀ j oj, ops[j]? = some oj → j ≠ i → listed.getD j true = false → (∀ e ∈ oj.after, Region.binds md e = true → e.on ≠ i) → oi.apart ops oj = true) →
      i ∈ Region.ready md ops listed → YieldsIn P ops C oi v a →
      wpAnyT P md ops C n L f (listed.setIfInBounds i true) (a.put oi.dst v) → wpAnyT P md ops C n L (f + 1) listed a := by
  intro f
  induction f with
  | zero =>
    intro listed a inv _ hr hy H
    have hun := (mem_ready.1 hr).1
    refine ⟨fun h => (by rw [h] at hr; cases hr), fun j hj => ?_⟩
    have hjn : j < n := by
      rcases Nat.lt_or_ge j n with h | h
      · exact h
      · exact absurd hj (tail_waitsF hs hc hn inv _ i rfl hmi hin hun j h)
    refine ⟨hjn, ?_⟩
    by_cases hji : j = i
    · subst hji; exact hy.qOp hi H
    · have := hdone _ _ H j (ready_mono hj hji)
      omega
  | succ f ih =>
    intro listed a inv hfree hr hy H
    have hun := (mem_ready.1 hr).1
    refine ⟨fun h => (by rw [h] at hr; cases hr), fun j hj => ?_⟩
    have hjn : j < n := by
      rcases Nat.lt_or_ge j n with h | h
      · exact h
      · exact absurd hj (tail_waitsF hs hc hn inv _ i rfl hmi hin hun j h)
    refine ⟨hjn, ?_⟩
    by_cases hji : j = i
    · subst hji; exact hy.qOp hi H
    · have h1 := (H.2 j (ready_mono hj hji)).2
      obtain ⟨hjun, oj, hoj, hall⟩ := mem_ready.1 hj
      have hnot : ∀ e ∈ oj.after, Region.binds md e = true → e.on ≠ i := fun e he hb heq => by
        have h1 := hall e he hb
        rw [heq, getD_both hun] at h1
        cases h1
      have h2 := qOp_put hoj (hfree j oj hoj hji hjun hnot) (fun cs b => hsel i oi cs b hi) (fun cs b => hsel j oj cs b hoj) hy h1
      have hfree' : ∀ k ok, ops[k]? = some ok → k ≠ i → (listed.setIfInBounds j true).getD k true = false →
          (∀ e ∈ ok.after, Region.binds md e = true → e.on ≠ i) → oi.apart ops ok = true := fun k ok hk hki hun hno => by
        refine hfree k ok hk hki ?_ hno
        by_cases hjk : j = k
        · subst hjk; exact hjun
        · rw [getD_set_ne true hjk] at hun; exact hun
      refine qOp_mono (fun a' h3 => ih (listed.setIfInBounds j true) a' (inv.set hj hjn) hfree' (ready_mono hr (Ne.symm hji)) h3.1 ?_) h2
      rw [Array.setIfInBounds_comm _ _ hji]
      exact h3.2
theorem wpAnyF_lex {m n g : Nat} {Lq : Act → Prop} (hsel : Region.noSelect ops = true) (hs : sinkF md ops m n = true) (hc : Region.chainB md ops n = true) (hn : n < ops.size) :
    ∀ (l : List Oper) (k : Nat) (listed : Array Bool) (a : Act), (∀ j, j < l.length → l[j]? = ops[k + j]?) → m ≤ k → k + l.length = n → HeadInv md ops n listed →
    Region.lexHead md ops g l.length k listed = true → wpQuiet P ops C Lq l a →
    wpAnyT P md ops C n (fun listed' a' => Region.seqB md ops g n listed' = true ∧ Lq a') l.length listed a
  | [], k, listed, a, _, _, hk, _, hB, h => by
    have : k = n := by simpa using hk
    subst this
    exact ⟨by simpa [Region.lexHead] using hB, h⟩
  | o :: l, k, listed, a, hl, hmk, hk, inv, hB, h => by
    have h0 : ops[k]? = some o := by simpa using (hl 0 (by simp)).symm
    simp only [List.length_cons, Region.lexHead, Bool.and_eq_true] at hB
    obtain ⟨⟨hr, hf⟩, hB'⟩ := hB
    have hkn : k < n := by simp only [List.length_cons] at hk; omega
    have hr' : k ∈ Region.ready md ops listed := by simpa using hr
    have hst : qOp P ops C k (wpQuiet P ops C Lq l) a := by unfold qOp; simp only [h0]; exact h
    obtain ⟨v, hy, hK⟩ := yieldsIn_of_qOp h0 hst
    exact wpAnyF_first h0 (Region.noSelect_spec hsel) hs hc hn hmk hkn (fun listed' a' hL => seqB_ready hL.1) l.length listed a inv (Region.free_spec h0 hf) hr' hy
      (wpAnyF_lex hsel hs hc hn l (k + 1) _ _ (fun j hj => by have := hl (j + 1) (by simp; omega); simpa [Nat.add_assoc, Nat.add_comm 1 j] using this) (by omega) (by simp only [List.length_cons] at hk; omega) (inv.set hr' hkn) hB' hK)
def lexTailF (ops : Array Oper) (n : Nat) : Bool :=
  Region.noSelect ops && decide (n < ops.size) && decide (1 ≤ n) && sinkF .any ops 1 n && Region.chainB .any ops n && Region.free .any ops (Array.replicate ops.size false) 0 && (Region.ready .any ops (Array.replicate ops.size false)).contains 0 &&
    Region.lexHead .any ops (ops.size - n) (n - 1) 1 ((Array.replicate ops.size false).setIfInBounds 0 true)
theorem wp_region_take_tail {id : Nat} {Q : Exit → Act → World → Prop} {a : Act} {w : World} {o0 : Oper} {l : List Oper} {v0 : Value} (n : Nat) (hm : P.follows .mixedOrders = true) (hB : lexTailF (o0 :: l).toArray n = true)
    (hQ : ∀ c a w, Q (.panic c) (a.put o0.dst v0) w → Q (.panic c) a w) (hy : Yields P (o0 :: l).toArray o0 v0 a) (hC : C { w with drawn := w.drawn + 1 })
    (h : wpQuiet P (o0 :: l).toArray C (fun a' => ∀ w', C w' → wpList P (o0 :: l).toArray Q ((o0 :: l).drop n) a' w') (l.take (n - 1)) (a.put o0.dst v0)) : (Code.region id (o0 :: l).toArray true).wp P Q a w := by
  simp only [lexTailF, Bool.and_eq_true, decide_eq_true_eq] at hB
  obtain ⟨⟨⟨⟨⟨⟨⟨hsel, hn⟩, hn1⟩, hs⟩, hc⟩, hf0⟩, hr0⟩, hlex⟩ := hB
  have hn' : n < l.length + 1 := by simpa using hn
  have htl : (l.take (n - 1)).length = n - 1 := by simp; omega
  have hdl : ((o0 :: l).drop n).length = (o0 :: l).toArray.size - n := by simp
  have inv0 : HeadInv .any (o0 :: l).toArray n (Array.replicate (o0 :: l).toArray.size false) :=
    ⟨by simp, fun j oj _ hl => (by rw [getD_replicate_false] at hl; cases hl), fun t _ ht => getD_in (by simpa using ht) (getD_replicate_false _ _)⟩
  have inv1 := inv0.set (i := 0) (by simpa using hr0) (by omega)
  have H := wpAnyF_lex (md := .any) (m := 1) (g := (o0 :: l).toArray.size - n) hsel hs hc hn (l.take (n - 1)) 1 _ (a.put o0.dst v0) (fun j hj => by
    have hj' : j < n - 1 := by rw [htl] at hj; exact hj
    rw [List.getElem?_take, if_pos hj', Nat.add_comm 1 j]; simp) (Nat.le_refl _) (by omega) inv1 (by rw [htl]; exact hlex) h
  refine wp_region_any hm ?_
  have := wpAny_of_headT (Q' := Q) (g := (o0 :: l).toArray.size - n) (fun listed a' w' hw' hL => by
    have := wpAny_of_seq ((o0 :: l).drop n) n listed a' w' (fun j => by simp) (by rw [hdl]; exact hL.1) (hL.2 w' hw')
    rw [hdl] at this
    exact this) _ _ _ _ hC H
  rw [htl] at this
  have h2 := wpAny_take (Q := Q) (i := 0) (oi := o0) (v := v0) (by simp) hsel hf0 hr0 hQ hy this
  rw [show n - 1 + ((o0 :: l).toArray.size - n) + 1 = (o0 :: l).toArray.size by simp; omega] at h2
  exact h2
theorem wp_region_take_tail_below {id : Nat} {Q : Exit → Act → World → Prop} {a : Act} {w : World} {o0 : Oper} {l : List Oper} (v0 : Value) (n : Nat) (hm : P.follows .mixedOrders = true) (hB : lexTailF (o0 :: l).toArray n = true)
    (hQ : ∀ c a w, Q (.panic c) (a.put o0.dst v0) w → Q (.panic c) a w) (hy : Yields P (o0 :: l).toArray o0 v0 a)
    (h : wpQuiet P (o0 :: l).toArray (fun w' => ∃ p : Regrown, w' = grow (redrawn w p.d) p.os) (fun a' => ∀ w', (∃ p : Regrown, w' = grow (redrawn w p.d) p.os) → wpList P (o0 :: l).toArray Q ((o0 :: l).drop n) a' w') (l.take (n - 1)) (a.put o0.dst v0)) : (Code.region id (o0 :: l).toArray true).wp P Q a w :=
  wp_region_take_tail n hm hB hQ hy ⟨⟨w.drawn + 1, #[]⟩, by rw [grow_empty]; rfl⟩ h
end
end Go.Proofs.YtjgondadpjildaaGreatDoor
namespace Go.Proofs.YtjgondadpjildaaGreatDoor
open Go.RowKit Go.Sort
set_option linter.unusedVariables false
set_option linter.unusedSimpArgs false
theorem ba_append (a b : List UInt8) : (ByteArray.mk a.toArray) ++ (ByteArray.mk b.toArray) = ⟨(a ++ b).toArray⟩ := by
  apply ByteArray.ext
  simp [ByteArray.data_append]
theorem ba_maps (ws : List (List UInt8)) : (ws.map fun s => ByteArray.mk s.toArray).map (·.data.toList) = ws := by
  induction ws with
  | nil => rfl
  | cons x r ih => simp [ih]
theorem lens_le : ∀ (ws : List (List UInt8)) (m : Nat), (∀ s ∈ ws, s.length ≤ m) → Lib.lens ws ≤ m * ws.length
  | [], m, _ => by simp [Lib.lens]
  | x :: r, m, h => by
    have h1 := lens_le r m fun s hs => h s (by simp [hs])
    have h2 := h x (by simp)
    have e : Lib.lens (x :: r) = x.length + Lib.lens r := rfl
    rw [e, List.length_cons, Nat.mul_add]; omega
theorem join_len_le (ws : List (List UInt8)) (sep : List UInt8) (m : Nat) (h : ∀ s ∈ ws, s.length ≤ m) : (Lib.join ws sep).length ≤ (m + sep.length) * ws.length := by
  cases ws with
  | nil => simp [Lib.join, List.intercalate]
  | cons x r =>
    rw [Lib.join_length, Nat.add_mul]
    have := lens_le (x :: r) m h
    have h2 : sep.length * r.length ≤ sep.length * (x :: r).length := Nat.mul_le_mul_left _ (by simp)
    omega
theorem sjoin_any (ws : List (List UInt8)) (A : Option Addr) (c : Nat) (sep : List UInt8) (w : World) (hne : ws ≠ []) (hS : Strs w A ws) (hc : ws.length ≤ c) (hN : ws.length ≤ 1000) (m : Nat) (hm : ∀ s ∈ ws, s.length ≤ m) (hlen : m + sep.length ≤ 100000000000) :
    Calls Tryz.prog 49 #[.slice A ws.length c, .string ⟨sep.toArray⟩] w (Ret w (.string ⟨(Lib.join ws sep).toArray⟩)) := by
  obtain ⟨b, o, rfl, hb, hcell⟩ := hS.at_ hne
  have hl := join_len_le ws sep m hm
  have hl2 : (m + sep.length) * ws.length ≤ 100000000000 * 1000 := Nat.mul_le_mul hlen hN
  have h := Tryz.strings_Join b o c (ws.map fun s => ByteArray.mk s.toArray) ⟨sep.toArray⟩ w (by
    intro j x hx
    rw [List.getElem?_map] at hx
    cases hj : ws[j]? with
    | none => simp [hj] at hx
    | some s =>
      rw [hcell j s hj]
      simp [hj] at hx
      rw [← hx]; rfl) hb (by simp; omega) (by simpa using hc) (by rw [ba_maps]; simp; omega)
  rw [List.length_map, ba_maps] at h
  exact h
def dashB (s : List UInt8) : List UInt8 := if s.isEmpty then [45] else s
theorem dash_any (s : List UInt8) (w : World) (hs : s.length ≤ 4611686018427387904) : Calls Tryz.prog 45 #[.string ⟨s.toArray⟩] w (RetP w (.string ⟨(dashB s).toArray⟩)) := by
  go_enter Tryz.func45, Tryz.ntmps45
  cases s with
  | nil => go_wp2; go_ret; exact ⟨rfl, rfl⟩
  | cons x r =>
    have h0 : ¬ ((x :: r) = ([] : List UInt8)) := by simp
    go_wp2; go_ret; exact ⟨rfl, rfl⟩
def cat (a b : List UInt8) : List UInt8 := a ++ b
theorem cat_len (a b : List UInt8) : (cat a b).length = a.length + b.length := by simp [cat]
theorem ba_cat (a b : List UInt8) : (ByteArray.mk a.toArray) ++ (ByteArray.mk b.toArray) = ⟨(cat a b).toArray⟩ := ba_append a b
attribute [local go_sem] ba_append
def pointText (ref : List UInt8) (x y : Int) : List UInt8 := if ref.isEmpty then [45] else Lib.itoa x ++ [44] ++ Lib.itoa y
theorem callG {P : Program} {f : FuncId} {args : Array Value} {W : World} {v : Value} (h : Calls P f args W fun e w' => e = .returned v ∧ ∃ k os, w' = grow (W.drewN k) os) : Calls P f args W (Ret W v) :=
  h.mono fun e w' ⟨he, k, os, hw⟩ => ⟨he, by rw [hw]; exact below_regrown W (W.drawn + k) os⟩
theorem itoa_len (n : Int) (h0 : -9223372036854775808 ≤ n) (h1 : n ≤ 9223372036854775807) : (Lib.itoa n).length ≤ 21 := Lib.itoa_length_le n h0 h1
theorem fmt_any (n : Int) (h0 : -9223372036854775808 ≤ n) (h1 : n ≤ 9223372036854775807) (w : World) (hL : Laid w) : Calls Tryz.prog 85 #[.int .i64 n, .int .i64 10] w (Ret w (.string ⟨(Lib.itoa n).toArray⟩)) :=
  callG (Tryz.strconv_FormatInt_10 n h0 h1 w hL.pow10)
theorem itoa_any (n : Int) (h0 : -9223372036854775808 ≤ n) (h1 : n ≤ 9223372036854775807) (w : World) (hL : Laid w) : Calls Tryz.prog 46 #[.int .i64 n] w (Ret w (.string ⟨(Lib.itoa n).toArray⟩)) :=
  callG (Tryz.strconv_Itoa n h0 h1 w hL.pow10)
/-- The numbers of a point are numbers of 64 bits. -/
def i64 (n : Int) : Prop := -9223372036854775808 ≤ n ∧ n ≤ 9223372036854775807
set_option maxHeartbeats 2000000 in
set_option maxRecDepth 100000 in
theorem point_any (ref : List UInt8) (x y : Int) (w : World) (hL : Laid w) (hs : ref.length ≤ 4611686018427387904) (hx : i64 x) (hy : i64 y) :
    Calls Tryz.prog 47 #[.string ⟨ref.toArray⟩, .agg #[.int .i64 x, .int .i64 y]] w (Ret w (.string ⟨(pointText ref x y).toArray⟩)) := by
  have hO0 := Own1.mk0 w #[.int .i64 x, .int .i64 y] 38
  go_enter Tryz.func47, Tryz.ntmps47
  go_upto_region 1 with (fail)
  generalize w.alloc _ = W at hO0 ⊢
  have hc := hO0.cell
  have hlt := hO0.lt
  have hB := hO0.below
  have hLW := hL.below hB
  cases ref with
  | nil => go_wp2; go_ret; exact Ret.str rfl hB
  | cons b r =>
    have h0 : ¬ ((b :: r) = ([] : List UInt8)) := by simp
    have n1 := itoa_len x hx.1 hx.2
    have n2 := itoa_len y hy.1 hy.2
    have k0 := cell_regrown (show W.cell? ⟨w.heap.size, 0, none⟩ = some (.int .i64 x) from hc 0)
    have k1 := cell_regrown (show W.cell? ⟨w.heap.size, 1, none⟩ = some (.int .i64 y) from hc 1)
    have l1 : ¬ 9223372036854775807 < (Lib.itoa x).length + 1 := by omega
    have l2 : ¬ 9223372036854775807 < (Lib.itoa x).length + 1 + (Lib.itoa y).length := by omega
    have cx : ∀ d os, Calls Tryz.prog 85 #[.int .i64 x, .int .i64 10] (grow (redrawn W d) os) fun e w'' => e = .returned (.string ⟨(Lib.itoa x).toArray⟩) ∧ ∃ p : Regrown, w'' = grow (redrawn W p.d) p.os := fun d os => Calls.regrown_ret (fmt_any x hx.1 hx.2 _ (hLW.below (below_regrown W d os)))
    have cy : ∀ d os, Calls Tryz.prog 85 #[.int .i64 y, .int .i64 10] (grow (redrawn W d) os) fun e w'' => e = .returned (.string ⟨(Lib.itoa y).toArray⟩) ∧ ∃ p : Regrown, w'' = grow (redrawn W p.d) p.os := fun d os => Calls.regrown_ret (fmt_any y hy.1 hy.2 _ (hLW.below (below_regrown W d os)))
    go_upto_region 3 with (fail)
    refine wp_region_quiet_below (by kernel_rfl) (by kernel_rfl) ?_
    repeat (quiet_step (first | exact cx _ _ | exact cy _ _))
    refine wpQuiet_nil ?_
    intro _ hw'
    obtain ⟨⟨dq, osq⟩, hw''⟩ := hw'
    subst hw''
    go_wp2
    go_ret
    exact Ret.str (by simp [pointText]) (below_step hB (below_regrown W dq osq))
end Go.Proofs.YtjgondadpjildaaGreatDoor
namespace Go.Proofs.YtjgondadpjildaaGreatDoor
open Go.RowKit Go.Sort
set_option linter.unusedVariables false
set_option linter.unusedSimpArgs false
def opt (b : Bool) (s : List UInt8) : List (List UInt8) := if b then [s] else []
theorem opt_len (b : Bool) (s : List UInt8) : (opt b s).length ≤ 1 := by cases b <;> simp [opt]
def winB (l : Leg) : Bool := l.lo != -200000 || l.hi != 6000000
/-- The texts of a leg's numbers. -/
structure LegTx where
  course : List UInt8
  dist : List UInt8
  radius : List UInt8
  theta : List UInt8
  win : List UInt8
  speed : List UInt8
  rnp : List UInt8
/-- What the callees say of these texts. -/
structure LegTexts (l : Leg) (t : LegTx) : Prop where
  course : uB l.ty 16 = true → ∀ w, Laid w → Calls Tryz.prog 86 #[.int .i64 l.course] w (Ret w (.string ⟨t.course.toArray⟩))
  dist : uB l.ty 32 = true → ∀ w, Laid w → Calls Tryz.prog 87 #[.string ⟨#[100]⟩, .int .i64 l.dist] w (Ret w (.string ⟨t.dist.toArray⟩))
  radius : uB l.ty 64 = true → ∀ w, Laid w → Calls Tryz.prog 87 #[.string ⟨#[114]⟩, .int .i64 l.radius] w (Ret w (.string ⟨t.radius.toArray⟩))
  theta : uB l.ty 128 = true → ∀ w, Laid w → Calls Tryz.prog 86 #[.int .i64 l.theta] w (Ret w (.string ⟨t.theta.toArray⟩))
  win : winB l = true → ∀ w, Laid w → Calls Tryz.prog 88 #[.agg (Win.arr ⟨l.lo, l.hi⟩)] w (Ret w (.tuple #[.string ⟨t.win.toArray⟩, .int .i64 0]))
  speed : (l.speed != 0) = true → ∀ w, Laid w → Calls Tryz.prog 89 #[.int .i64 l.speed] w (Ret w (.string ⟨t.speed.toArray⟩))
  rnp : (l.rnp != 0) = true → ∀ w, Laid w → Calls Tryz.prog 87 #[.string ⟨#[110]⟩, .int .i64 l.rnp] w (Ret w (.string ⟨t.rnp.toArray⟩))
  small : ∀ s ∈ [t.course, t.dist, t.radius, t.theta, t.win, t.speed, t.rnp], s.length ≤ 1000
def nameOf (t : Int) : List UInt8 := namesTab.getD t.toNat []
def legWords (l : Leg) (t : LegTx) : List (List UInt8) := [nameOf l.ty] ++ opt (uB l.ty 1) l.fix ++ opt (uB l.ty 2) (64 :: l.center) ++ opt (uB l.ty 4) (if l.turn = 1 then [76] else [82]) ++ opt (uB l.ty 16) t.course ++ opt (uB l.ty 32) t.dist ++ opt (uB l.ty 64) t.radius ++ opt (uB l.ty 128) (116 :: t.theta) ++ opt (l.over) [111, 118, 101, 114] ++ opt (winB l) t.win ++ opt (l.speed != 0) (115 :: t.speed) ++ opt (l.rnp != 0) t.rnp
def legText (l : Leg) (t : LegTx) : List UInt8 := if legCheck l != 0 then [] else Lib.join (legWords l t) [32]
theorem mem_opt {b : Bool} {s x : List UInt8} (h : x ∈ opt b s) : x = s := by cases b <;> simp_all [opt]
theorem names_len : ∀ s ∈ namesTab, s.length ≤ 2 := by decide
theorem nameOf_len (t : Int) : (nameOf t).length ≤ 2 := by
  unfold nameOf
  rcases Nat.lt_or_ge t.toNat namesTab.length with h | h
  · have e : namesTab.getD t.toNat [] = namesTab[t.toNat] := by simp [h]
    rw [e]; exact names_len _ (List.getElem_mem h)
  · simp [List.getElem?_eq_none h]
theorem legWords_small {l : Leg} {t : LegTx} (hl : l.small) (hT : LegTexts l t) : ∀ s ∈ legWords l t, s.length ≤ 4000000001 := by
  intro s hs
  have h1 := hl.fix
  have h2 := hl.center
  have h3 := nameOf_len l.ty
  have hm := hT.small
  simp only [List.mem_cons, List.not_mem_nil, or_false, forall_eq_or_imp, forall_eq] at hm
  obtain ⟨m1, m2, m3, m4, m5, m6, m7⟩ := hm
  simp only [legWords, List.mem_append, List.mem_singleton] at hs
  rcases hs with (((((((((((hs | hs) | hs) | hs) | hs) | hs) | hs) | hs) | hs) | hs) | hs) | hs)
  all_goals first
    | (have := mem_opt hs; subst this; (try simp only [List.length_cons, List.length_nil]); omega)
    | (have := mem_opt hs; subst this; split <;> simp)
    | (subst hs; omega)
theorem legWords_len (l : Leg) (t : LegTx) : (legWords l t).length ≤ 12 := by
  simp only [legWords, List.length_append, List.length_singleton]
  have := opt_len (uB l.ty 1) l.fix
  have := opt_len (uB l.ty 2) (64 :: l.center)
  have := opt_len (uB l.ty 4) (if l.turn = 1 then [76] else [82])
  have := opt_len (uB l.ty 16) t.course
  have := opt_len (uB l.ty 32) t.dist
  have := opt_len (uB l.ty 64) t.radius
  have := opt_len (uB l.ty 128) (116 :: t.theta)
  have := opt_len (l.over) [111, 118, 101, 114]
  have := opt_len (winB l) t.win
  have := opt_len (l.speed != 0) (115 :: t.speed)
  have := opt_len (l.rnp != 0) t.rnp
  omega
theorem SOut.push {w0 W : World} {v : Value} {ws : List (List UInt8)} {b : Bool} {s : List UInt8} (hb : b = false) (h : SOut w0 W v ws) : SOut w0 W v (ws ++ opt b s) := by subst hb; simpa [opt] using h
theorem SOut.push1 {w0 W : World} {v : Value} {ws : List (List UInt8)} {b : Bool} {s : List UInt8} (hb : b = true) (h : SOut w0 W v (ws ++ [s])) : SOut w0 W v (ws ++ opt b s) := by subst hb; exact h
theorem push_len {ws : List (List UInt8)} {n : Nat} (h : ws.length ≤ n) (b : Bool) (s : List UInt8) : (ws ++ opt b s).length ≤ n + 1 := by have := opt_len b s; simp; omega
attribute [local go_sem] bit_eq bit_ne ba_append
theorem Blk.win_at {W : World} {g : Nat} {l : Leg} (h : Blk W g l.arr) : Is_win W g 9 ⟨l.lo, l.hi⟩ := by
  intro j hj
  rw [h.cell]
  match j, hj with
  | 0, _ | 1, _ => rfl
set_option maxHeartbeats 4000000 in
set_option maxRecDepth 100000 in
theorem text_any (l : Leg) (t : LegTx) (w : World) (hL : Laid w) (hl : l.small) (hT : LegTexts l t) : Calls Tryz.prog 48 #[l.val] w (Ret w (.string ⟨(legText l t).toArray⟩)) := by
  have hS := Lib.hid (legWords_small hl hT)
  go_enter Tryz.func48, Tryz.ntmps48
  go_upto_region 1 with (fail)
  have X0 := Blk.new w l.arr 36
  have B0 := (Below.refl w.heap.size w).alloc (Nat.le_refl _) (.cells l.arr 36)
  have L0 := hL.below B0
  generalize w.alloc _ = W at X0 B0 L0 ⊢
  generalize w.heap.size = g at X0 ⊢
  have i1 : Has_leg W g 0 := ⟨_, X0.is_leg⟩
  have i2 : of_leg W g 0 = l := of_leg_eq X0.is_leg
  by_cases hk : legCheck l = 0
  · have HK := Lib.hid hk
    have hcall := Lib.hid (check_any l W L0 hl)
    have hk1 : 1 ≤ l.ty ∧ l.ty ≤ 17 := by
      by_cases h : knownB l.ty = true
      · simpa [knownB] using h
      · simp [legCheck, h] at hk
    have hk0 := hk1.1
    have hk2 := hk1.2
    have hk3 : 0 ≤ l.ty ∧ l.ty < 18 := by omega
    clear hk1
    go_upto_region 3 with (go_at_call 25; refine callR hcall.out ?_; intro w1 hb1 hc1 hf1 hz1)
    clear i1 i2
    have X1 := X0.step hb1
    have B1 := below_step B0 hb1
    have L1 := L0.below hb1
    clear X0 B0 L0 hc1 hf1 hb1 hz1 hcall hk
    have c1 := X1.cell
    have c2 := X1.lt
    have hu : w1.cell? ⟨0, l.ty.toNat, none⟩ = some (.int .u16 (usesOf l.ty)) := L1.uses _ (by omega)
    have hnm : w1.cell? ⟨1, l.ty.toNat, none⟩ = some (.string ⟨(nameOf l.ty).toArray⟩) := L1.names _ (by omega)
    go_upto_region 5 with (fail)
    have O : SOut w1 (w1.alloc (.cells #[.string ⟨(nameOf l.ty).toArray⟩] 9)) (.slice (some ⟨w1.heap.size, 0, none⟩) 1 1) [nameOf l.ty] := World.ownsRow_lit w1 #[sval (nameOf l.ty)] 1 (Nat.le_refl _) (by unfold maxLen; omega) rfl
    have B : Below w1.heap.size w1 (w1.alloc (.cells #[.string ⟨(nameOf l.ty).toArray⟩] 9)) := (Below.refl w1.heap.size w1).alloc (Nat.le_refl _) _
    have q1 : ¬ 9223372036854775807 < 1 + l.center.length := by have := hl.center; omega
    have q2 : ¬ 9223372036854775807 < 1 + t.theta.length := by have := hT.small t.theta (by simp); omega
    have q3 : ¬ 9223372036854775807 < 1 + t.speed.length := by have := hT.small t.speed (by simp); omega
    have hn : [nameOf l.ty].length ≤ 1 := by simp
    clear c1 c2 hu hnm
    generalize w1.alloc _ = wa at O B ⊢
    generalize Value.slice (some ⟨w1.heap.size, 0, none⟩) 1 1 = va at O ⊢
    have c1 := (X1.step B).cell
    have c2 := (X1.step B).lt
    have hsz := B.size
    go_upto_if 21 with (fail)
    go_cut [4] (fun v wx => SOut w1 wx v ([nameOf l.ty] ++ opt (uB l.ty 1) l.fix) ∧ Below w1.heap.size w1 wx)
    case first =>
      cases hb : (uB l.ty 1)
      · go_wp2; go_meet; exact ⟨SOut.push hb O, B⟩
      · have O4 := O.alloc (.cells #[sval l.fix] 9)
        have B4 := below_step B ((Below.refl wa.heap.size wa).alloc (Nat.le_refl _) (.cells #[sval l.fix] 9))
        go_wp2_with (at_builtin; refine wpList_append_sout rfl (.tmp 22) (.tmp 25) rfl O4 rfl l.fix wa.heap.size 1 rfl (cell_of_row _ _ 0 _ _ _ (heap_alloc_new wa _)) (by omega) (by simp; omega) ?_; intro v5 W5 O5 hg5)
        go_meet; exact ⟨SOut.push1 hb O5, below_sgrown B4 O4 hg5⟩
    case rest =>
      have hn2 := push_len hn (uB l.ty 1) l.fix
      clear hn O B c1 c2 hsz
      obtain ⟨O, B⟩ := hcut
      have hn := hn2; clear hn2
      have c1 := (X1.step B).cell
      have c2 := (X1.step B).lt
      have hsz := B.size
      go_upto_if 29 with (fail)
      go_cut [4] (fun v wx => SOut w1 wx v ([nameOf l.ty] ++ opt (uB l.ty 1) l.fix ++ opt (uB l.ty 2) (64 :: l.center)) ∧ Below w1.heap.size w1 wx)
      case first =>
        cases hb : (uB l.ty 2)
        · go_wp2; go_meet; exact ⟨SOut.push hb O, B⟩
        · have O4 := O.alloc (.cells #[sval (64 :: l.center)] 9)
          have B4 := below_step B ((Below.refl wc.heap.size wc).alloc (Nat.le_refl _) (.cells #[sval (64 :: l.center)] 9))
          go_wp2_with (at_builtin; refine wpList_append_sout rfl (.tmp 30) (.tmp 34) rfl O4 rfl (64 :: l.center) wc.heap.size 1 rfl (cell_of_row _ _ 0 _ _ _ (heap_alloc_new wc _)) (by omega) (by simp; omega) ?_; intro v5 W5 O5 hg5)
          go_meet; exact ⟨SOut.push1 hb O5, below_sgrown B4 O4 hg5⟩
      case rest =>
        have hn2 := push_len hn (uB l.ty 2) (64 :: l.center)
        clear hn O B c1 c2 hsz
        obtain ⟨O, B⟩ := hcut
        have hn := hn2; clear hn2
        have c1 := (X1.step B).cell
        have c2 := (X1.step B).lt
        have hsz := B.size
        go_upto_if 38 with (fail)
        go_cut [4] (fun v wx => SOut w1 wx v ([nameOf l.ty] ++ opt (uB l.ty 1) l.fix ++ opt (uB l.ty 2) (64 :: l.center) ++ opt (uB l.ty 4) (if l.turn = 1 then [76] else [82])) ∧ Below w1.heap.size w1 wx)
        case first =>
          cases hb : (uB l.ty 4)
          · go_wp2; go_meet; exact ⟨SOut.push hb O, B⟩
          · obtain ⟨at_, ha⟩ : ∃ a, (l.turn == 1) = a := ⟨_, rfl⟩
            cases at_
            · have O4 := O.alloc (.cells #[sval [82]] 9)
              have B4 := below_step B ((Below.refl wc.heap.size wc).alloc (Nat.le_refl _) (.cells #[sval [82]] 9))
              have HE := Lib.hid (show (if l.turn = 1 then [76] else [82]) = ([82] : List UInt8) from if_neg (by simpa using ha))
              go_wp2_with (at_builtin; refine wpList_append_sout rfl (.tmp 45) (.tmp 46) rfl O4 rfl [82] wc.heap.size 1 rfl (cell_of_row _ _ 0 _ _ _ (heap_alloc_new wc _)) (by omega) (by simp; omega) ?_; intro v5 W5 O5 hg5)
              go_meet; exact ⟨SOut.push1 hb (by rw [HE.out]; exact O5), below_sgrown B4 O4 hg5⟩
            · have O4 := O.alloc (.cells #[sval [76]] 9)
              have B4 := below_step B ((Below.refl wc.heap.size wc).alloc (Nat.le_refl _) (.cells #[sval [76]] 9))
              have HE := Lib.hid (show (if l.turn = 1 then [76] else [82]) = ([76] : List UInt8) from if_pos (by simpa using ha))
              go_wp2_with (at_builtin; refine wpList_append_sout rfl (.tmp 42) (.tmp 43) rfl O4 rfl [76] wc.heap.size 1 rfl (cell_of_row _ _ 0 _ _ _ (heap_alloc_new wc _)) (by omega) (by simp; omega) ?_; intro v5 W5 O5 hg5)
              go_meet; exact ⟨SOut.push1 hb (by rw [HE.out]; exact O5), below_sgrown B4 O4 hg5⟩
        case rest =>
          have hn2 := push_len hn (uB l.ty 4) (if l.turn = 1 then [76] else [82])
          clear hn O B c1 c2 hsz
          obtain ⟨O, B⟩ := hcut
          have hn := hn2; clear hn2
          have c1 := (X1.step B).cell
          have c2 := (X1.step B).lt
          have hsz := B.size
          go_upto_if 50 with (fail)
          go_cut [4] (fun v wx => SOut w1 wx v ([nameOf l.ty] ++ opt (uB l.ty 1) l.fix ++ opt (uB l.ty 2) (64 :: l.center) ++ opt (uB l.ty 4) (if l.turn = 1 then [76] else [82]) ++ opt (uB l.ty 16) t.course) ∧ Below w1.heap.size w1 wx)
          case first =>
            cases hb : (uB l.ty 16)
            · go_wp2; go_meet; exact ⟨SOut.push hb O, B⟩
            · have hcall := Lib.hid (hT.course hb wc (L1.below B))
              go_wp2_with (first
                | (go_at_call 86; refine callR hcall.out ?_; intro w2 hb2 hc2 hf2 hz2)
                | (at_builtin; refine wpList_append_sout rfl (.tmp 51) (.tmp 55) rfl ((O.below hb2).alloc (.cells #[sval t.course] 9)) rfl t.course w2.heap.size 1 rfl (cell_of_row _ _ 0 _ _ _ (heap_alloc_new w2 _)) (by omega) (by simp; omega) ?_; intro v5 W5 O5 hg5))
              go_meet; exact ⟨SOut.push1 hb O5, below_sgrown (below_step (below_step B hb2) ((Below.refl w2.heap.size w2).alloc (Nat.le_refl _) (.cells #[sval t.course] 9))) ((O.below hb2).alloc (.cells #[sval t.course] 9)) hg5⟩
          case rest =>
            have hn2 := push_len hn (uB l.ty 16) t.course
            clear hn O B c1 c2 hsz
            obtain ⟨O, B⟩ := hcut
            have hn := hn2; clear hn2
            have c1 := (X1.step B).cell
            have c2 := (X1.step B).lt
            have hsz := B.size
            go_upto_if 59 with (fail)
            go_cut [4] (fun v wx => SOut w1 wx v ([nameOf l.ty] ++ opt (uB l.ty 1) l.fix ++ opt (uB l.ty 2) (64 :: l.center) ++ opt (uB l.ty 4) (if l.turn = 1 then [76] else [82]) ++ opt (uB l.ty 16) t.course ++ opt (uB l.ty 32) t.dist) ∧ Below w1.heap.size w1 wx)
            case first =>
              cases hb : (uB l.ty 32)
              · go_wp2; go_meet; exact ⟨SOut.push hb O, B⟩
              · have hcall := Lib.hid (hT.dist hb wc (L1.below B))
                go_wp2_with (first
                  | (go_at_call 87; refine callR hcall.out ?_; intro w2 hb2 hc2 hf2 hz2)
                  | (at_builtin; refine wpList_append_sout rfl (.tmp 60) (.tmp 64) rfl ((O.below hb2).alloc (.cells #[sval t.dist] 9)) rfl t.dist w2.heap.size 1 rfl (cell_of_row _ _ 0 _ _ _ (heap_alloc_new w2 _)) (by omega) (by simp; omega) ?_; intro v5 W5 O5 hg5))
                go_meet; exact ⟨SOut.push1 hb O5, below_sgrown (below_step (below_step B hb2) ((Below.refl w2.heap.size w2).alloc (Nat.le_refl _) (.cells #[sval t.dist] 9))) ((O.below hb2).alloc (.cells #[sval t.dist] 9)) hg5⟩
            case rest =>
              have hn2 := push_len hn (uB l.ty 32) t.dist
              clear hn O B c1 c2 hsz
              obtain ⟨O, B⟩ := hcut
              have hn := hn2; clear hn2
              have c1 := (X1.step B).cell
              have c2 := (X1.step B).lt
              have hsz := B.size
              go_upto_if 68 with (fail)
              go_cut [4] (fun v wx => SOut w1 wx v ([nameOf l.ty] ++ opt (uB l.ty 1) l.fix ++ opt (uB l.ty 2) (64 :: l.center) ++ opt (uB l.ty 4) (if l.turn = 1 then [76] else [82]) ++ opt (uB l.ty 16) t.course ++ opt (uB l.ty 32) t.dist ++ opt (uB l.ty 64) t.radius) ∧ Below w1.heap.size w1 wx)
              case first =>
                cases hb : (uB l.ty 64)
                · go_wp2; go_meet; exact ⟨SOut.push hb O, B⟩
                · have hcall := Lib.hid (hT.radius hb wc (L1.below B))
                  go_wp2_with (first
                    | (go_at_call 87; refine callR hcall.out ?_; intro w2 hb2 hc2 hf2 hz2)
                    | (at_builtin; refine wpList_append_sout rfl (.tmp 69) (.tmp 73) rfl ((O.below hb2).alloc (.cells #[sval t.radius] 9)) rfl t.radius w2.heap.size 1 rfl (cell_of_row _ _ 0 _ _ _ (heap_alloc_new w2 _)) (by omega) (by simp; omega) ?_; intro v5 W5 O5 hg5))
                  go_meet; exact ⟨SOut.push1 hb O5, below_sgrown (below_step (below_step B hb2) ((Below.refl w2.heap.size w2).alloc (Nat.le_refl _) (.cells #[sval t.radius] 9))) ((O.below hb2).alloc (.cells #[sval t.radius] 9)) hg5⟩
              case rest =>
                have hn2 := push_len hn (uB l.ty 64) t.radius
                clear hn O B c1 c2 hsz
                obtain ⟨O, B⟩ := hcut
                have hn := hn2; clear hn2
                have c1 := (X1.step B).cell
                have c2 := (X1.step B).lt
                have hsz := B.size
                go_upto_if 77 with (fail)
                go_cut [4] (fun v wx => SOut w1 wx v ([nameOf l.ty] ++ opt (uB l.ty 1) l.fix ++ opt (uB l.ty 2) (64 :: l.center) ++ opt (uB l.ty 4) (if l.turn = 1 then [76] else [82]) ++ opt (uB l.ty 16) t.course ++ opt (uB l.ty 32) t.dist ++ opt (uB l.ty 64) t.radius ++ opt (uB l.ty 128) (116 :: t.theta)) ∧ Below w1.heap.size w1 wx)
                case first =>
                  cases hb : (uB l.ty 128)
                  · go_wp2; go_meet; exact ⟨SOut.push hb O, B⟩
                  · have hcall := Lib.hid (hT.theta hb wc (L1.below B))
                    go_wp2_with (first
                      | (go_at_call 86; refine callR hcall.out ?_; intro w2 hb2 hc2 hf2 hz2)
                      | (at_builtin; refine wpList_append_sout rfl (.tmp 78) (.tmp 83) rfl ((O.below hb2).alloc (.cells #[sval (116 :: t.theta)] 9)) rfl (116 :: t.theta) w2.heap.size 1 rfl (cell_of_row _ _ 0 _ _ _ (heap_alloc_new w2 _)) (by omega) (by simp; omega) ?_; intro v5 W5 O5 hg5))
                    go_meet; exact ⟨SOut.push1 hb O5, below_sgrown (below_step (below_step B hb2) ((Below.refl w2.heap.size w2).alloc (Nat.le_refl _) (.cells #[sval (116 :: t.theta)] 9))) ((O.below hb2).alloc (.cells #[sval (116 :: t.theta)] 9)) hg5⟩
                case rest =>
                  have hn2 := push_len hn (uB l.ty 128) (116 :: t.theta)
                  clear hn O B c1 c2 hsz
                  obtain ⟨O, B⟩ := hcut
                  have hn := hn2; clear hn2
                  have c1 := (X1.step B).cell
                  have c2 := (X1.step B).lt
                  have hsz := B.size
                  go_upto_if 86 with (fail)
                  go_cut [4] (fun v wx => SOut w1 wx v ([nameOf l.ty] ++ opt (uB l.ty 1) l.fix ++ opt (uB l.ty 2) (64 :: l.center) ++ opt (uB l.ty 4) (if l.turn = 1 then [76] else [82]) ++ opt (uB l.ty 16) t.course ++ opt (uB l.ty 32) t.dist ++ opt (uB l.ty 64) t.radius ++ opt (uB l.ty 128) (116 :: t.theta) ++ opt (l.over) [111, 118, 101, 114]) ∧ Below w1.heap.size w1 wx)
                  case first =>
                    cases hb : (l.over)
                    · go_wp2; go_meet; exact ⟨SOut.push hb O, B⟩
                    · have O4 := O.alloc (.cells #[sval [111, 118, 101, 114]] 9)
                      have B4 := below_step B ((Below.refl wc.heap.size wc).alloc (Nat.le_refl _) (.cells #[sval [111, 118, 101, 114]] 9))
                      go_wp2_with (at_builtin; refine wpList_append_sout rfl (.tmp 87) (.tmp 88) rfl O4 rfl [111, 118, 101, 114] wc.heap.size 1 rfl (cell_of_row _ _ 0 _ _ _ (heap_alloc_new wc _)) (by omega) (by simp; omega) ?_; intro v5 W5 O5 hg5)
                      go_meet; exact ⟨SOut.push1 hb O5, below_sgrown B4 O4 hg5⟩
                  case rest =>
                    have hn2 := push_len hn (l.over) [111, 118, 101, 114]
                    clear hn O B c1 c2 hsz
                    obtain ⟨O, B⟩ := hcut
                    have hn := hn2; clear hn2
                    have c1 := (X1.step B).cell
                    have c2 := (X1.step B).lt
                    have hsz := B.size
                    have j1 : Has_win wc g 9 := ⟨_, (X1.step B).win_at⟩
                    have j2 : of_win wc g 9 = ⟨l.lo, l.hi⟩ := of_win_eq (X1.step B).win_at
                    go_upto_region 23 with (fail)
                    go_cut [99] (fun sv wx => sv = .bool (winB l) ∧ wc = wx)
                    case first =>
                      obtain ⟨a1, h1⟩ : ∃ a, (l.lo != -200000) = a := ⟨_, rfl⟩
                      obtain ⟨a2, h2⟩ : ∃ a, (l.hi != 6000000) = a := ⟨_, rfl⟩
                      have HB := Lib.hid (show winB l = (a1 || a2) by rw [winB, h1, h2])
                      cases a1 <;> cases a2
                      all_goals (go_wp2; all_goals (go_meet; exact ⟨by rw [HB.out]; rfl, rfl⟩))
                    case rest =>
                      obtain ⟨rfl, rfl⟩ := hcut
                      go_upto_if 99 with (fail)
                      go_cut [4] (fun v wx => SOut w1 wx v ([nameOf l.ty] ++ opt (uB l.ty 1) l.fix ++ opt (uB l.ty 2) (64 :: l.center) ++ opt (uB l.ty 4) (if l.turn = 1 then [76] else [82]) ++ opt (uB l.ty 16) t.course ++ opt (uB l.ty 32) t.dist ++ opt (uB l.ty 64) t.radius ++ opt (uB l.ty 128) (116 :: t.theta) ++ opt (l.over) [111, 118, 101, 114] ++ opt (winB l) t.win) ∧ Below w1.heap.size w1 wx)
                      case first =>
                        cases hb : (winB l)
                        · go_wp2; go_meet; exact ⟨SOut.push hb O, B⟩
                        · have hcall := Lib.hid (hT.win hb wc (L1.below B))
                          go_wp2_with (first
                            | (go_at_call 88; refine callR hcall.out ?_; intro w2 hb2 hc2 hf2 hz2)
                            | (at_builtin; refine wpList_append_sout rfl (.tmp 106) (.tmp 108) rfl ((O.below hb2).alloc (.cells #[sval t.win] 9)) rfl t.win w2.heap.size 1 rfl (cell_of_row _ _ 0 _ _ _ (heap_alloc_new w2 _)) (by omega) (by simp; omega) ?_; intro v5 W5 O5 hg5))
                          go_meet; exact ⟨SOut.push1 hb O5, below_sgrown (below_step (below_step B hb2) ((Below.refl w2.heap.size w2).alloc (Nat.le_refl _) (.cells #[sval t.win] 9))) ((O.below hb2).alloc (.cells #[sval t.win] 9)) hg5⟩
                      case rest =>
                        have hn2 := push_len hn (winB l) t.win
                        clear hn O B c1 c2 hsz j1 j2
                        obtain ⟨O, B⟩ := hcut
                        have hn := hn2; clear hn2
                        have c1 := (X1.step B).cell
                        have c2 := (X1.step B).lt
                        have hsz := B.size
                        go_upto_if 112 with (fail)
                        go_cut [4] (fun v wx => SOut w1 wx v ([nameOf l.ty] ++ opt (uB l.ty 1) l.fix ++ opt (uB l.ty 2) (64 :: l.center) ++ opt (uB l.ty 4) (if l.turn = 1 then [76] else [82]) ++ opt (uB l.ty 16) t.course ++ opt (uB l.ty 32) t.dist ++ opt (uB l.ty 64) t.radius ++ opt (uB l.ty 128) (116 :: t.theta) ++ opt (l.over) [111, 118, 101, 114] ++ opt (winB l) t.win ++ opt (l.speed != 0) (115 :: t.speed)) ∧ Below w1.heap.size w1 wx)
                        case first =>
                          cases hb : (l.speed != 0)
                          · go_wp2; go_meet; exact ⟨SOut.push hb O, B⟩
                          · have hcall := Lib.hid (hT.speed hb wc (L1.below B))
                            go_wp2_with (first
                              | (go_at_call 89; refine callR hcall.out ?_; intro w2 hb2 hc2 hf2 hz2)
                              | (at_builtin; refine wpList_append_sout rfl (.tmp 113) (.tmp 118) rfl ((O.below hb2).alloc (.cells #[sval (115 :: t.speed)] 9)) rfl (115 :: t.speed) w2.heap.size 1 rfl (cell_of_row _ _ 0 _ _ _ (heap_alloc_new w2 _)) (by omega) (by simp; omega) ?_; intro v5 W5 O5 hg5))
                            go_meet; exact ⟨SOut.push1 hb O5, below_sgrown (below_step (below_step B hb2) ((Below.refl w2.heap.size w2).alloc (Nat.le_refl _) (.cells #[sval (115 :: t.speed)] 9))) ((O.below hb2).alloc (.cells #[sval (115 :: t.speed)] 9)) hg5⟩
                        case rest =>
                          have hn2 := push_len hn (l.speed != 0) (115 :: t.speed)
                          clear hn O B c1 c2 hsz
                          obtain ⟨O, B⟩ := hcut
                          have hn := hn2; clear hn2
                          have c1 := (X1.step B).cell
                          have c2 := (X1.step B).lt
                          have hsz := B.size
                          go_upto_if 122 with (fail)
                          go_cut [4] (fun v wx => SOut w1 wx v ([nameOf l.ty] ++ opt (uB l.ty 1) l.fix ++ opt (uB l.ty 2) (64 :: l.center) ++ opt (uB l.ty 4) (if l.turn = 1 then [76] else [82]) ++ opt (uB l.ty 16) t.course ++ opt (uB l.ty 32) t.dist ++ opt (uB l.ty 64) t.radius ++ opt (uB l.ty 128) (116 :: t.theta) ++ opt (l.over) [111, 118, 101, 114] ++ opt (winB l) t.win ++ opt (l.speed != 0) (115 :: t.speed) ++ opt (l.rnp != 0) t.rnp) ∧ Below w1.heap.size w1 wx)
                          case first =>
                            cases hb : (l.rnp != 0)
                            · go_wp2; go_meet; exact ⟨SOut.push hb O, B⟩
                            · have hcall := Lib.hid (hT.rnp hb wc (L1.below B))
                              go_wp2_with (first
                                | (go_at_call 87; refine callR hcall.out ?_; intro w2 hb2 hc2 hf2 hz2)
                                | (at_builtin; refine wpList_append_sout rfl (.tmp 123) (.tmp 127) rfl ((O.below hb2).alloc (.cells #[sval t.rnp] 9)) rfl t.rnp w2.heap.size 1 rfl (cell_of_row _ _ 0 _ _ _ (heap_alloc_new w2 _)) (by omega) (by simp; omega) ?_; intro v5 W5 O5 hg5))
                              go_meet; exact ⟨SOut.push1 hb O5, below_sgrown (below_step (below_step B hb2) ((Below.refl w2.heap.size w2).alloc (Nat.le_refl _) (.cells #[sval t.rnp] 9))) ((O.below hb2).alloc (.cells #[sval t.rnp] 9)) hg5⟩
                          case rest =>
                            have hn2 := push_len hn (l.rnp != 0) t.rnp
                            clear hn O B c1 c2 hsz
                            obtain ⟨O, B⟩ := hcut
                            have hn := hn2; clear hn2
                            have c1 := (X1.step B).cell
                            have c2 := (X1.step B).lt
                            have hsz := B.size
                            obtain ⟨A5, c5, hv, hc5, hS5⟩ := O.form
                            have hwl : ([nameOf l.ty] ++ opt (uB l.ty 1) l.fix ++ opt (uB l.ty 2) (64 :: l.center) ++ opt (uB l.ty 4) (if l.turn = 1 then [76] else [82]) ++ opt (uB l.ty 16) t.course ++ opt (uB l.ty 32) t.dist ++ opt (uB l.ty 64) t.radius ++ opt (uB l.ty 128) (116 :: t.theta) ++ opt (l.over) [111, 118, 101, 114] ++ opt (winB l) t.win ++ opt (l.speed != 0) (115 :: t.speed) ++ opt (l.rnp != 0) t.rnp) = legWords l t := rfl
                            rw [hwl] at hv hc5 hS5
                            have hcall := Lib.hid (sjoin_any (legWords l t) A5 c5 [32] wc (by simp [legWords]) hS5 hc5 (by have := legWords_len l t; omega) 4000000001 hS.out (by simp))
                            have HT := Lib.hid (show legText l t = Lib.join (legWords l t) [32] by simp [legText, HK.out])
                            clear hn hwl
                            subst hv
                            go_wp2_with (go_at_call 49; refine callR hcall.out ?_; intro w2 hb2 hc2 hf2 hz2)
                            go_ret
                            exact Ret.str HT.out.symm (below_step B1 (below_step B hb2))
  · have hcall := Lib.hid (check_any l W L0 hl)
    have h0 : (legCheck l != 0) = true := by simpa using hk
    have HT := Lib.hid (show legText l t = [] by simp [legText, hk])
    clear hk
    go_wp2_with (go_at_call 25; refine callR hcall.out ?_; intro w1 hb1 hc1 hf1 hz1)
    go_ret
    exact Ret.str HT.out.symm (below_step B0 hb1)
end Go.Proofs.YtjgondadpjildaaGreatDoor
namespace Go.Proofs.YtjgondadpjildaaGreatDoor
open Go.RowKit Go.Sort
set_option linter.unusedVariables false
set_option linter.unusedSimpArgs false
set_option maxRecDepth 100000
attribute [local go_sem] ba_cat cat_len
theorem enc_dg (n : Nat) (h : n < 10) : Utf8.encode (48 + (n : Int)) = ⟨[dg n].toArray⟩ := by
  match n, h with
  | 0, _ | 1, _ | 2, _ | 3, _ | 4, _ | 5, _ | 6, _ | 7, _ | 8, _ | 9, _ => rfl
theorem enc_dgI (n : Int) (h0 : 0 ≤ n) (h : n < 10) : Utf8.encode (48 + n) = ⟨[dg n.toNat].toArray⟩ := by
  rw [← enc_dg n.toNat (by omega), Int.toNat_of_nonneg h0]
theorem decimal_any (n : Int) (w : World) (h0 : 0 ≤ n) (h1 : n ≤ 9223372036854775807) : Calls Tryz.prog 89 #[.int .i64 n] w (RetP w (.string ⟨(Lib.decDigits n.toNat).toArray⟩)) := by
  have hlen : (Lib.decDigits n.toNat).length ≤ 19 := dec_len (by decide) (by omega)
  go_enter Tryz.func89, Tryz.ntmps89
  go_wp2
  go_loop [0, 3] (fun x s => ∃ (u : Int) (l : List UInt8), 0 ≤ u ∧ u ≤ 9223372036854775807 ∧ x = .int .i64 u ∧ s = .string ⟨l.toArray⟩ ∧ Lib.decDigits n.toNat = Lib.decDigits u.toNat ++ l) (fun x _ => (intOf x).toNat)
  case atStart => exact ⟨n, [], by omega, by omega, rfl, rfl, by simp⟩
  case round =>
    obtain ⟨u, l, hu0, hu, rfl, rfl, hq⟩ := hrel
    have hl : l.length ≤ 19 := by have := congrArg List.length hq; simp only [List.length_append] at this; omega
    have HQ := Lib.hid hq; clear hq
    clear hlen h0 h1
    by_cases hlt : u < 10
    · have e1 := enc_dgI u hu0 hlt
      go_wp2
      go_ret
      exact RetP.str (by rw [HQ.out, dec_small (by omega)]; rfl) rfl
    · have e1 := enc_dgI (u % 10) (by omega) (by omega)
      go_wp2
      go_round
      case rel => exact ⟨u / 10, _, by omega, by omega, rfl, rfl, by rw [HQ.out, dec_big (by omega), show u.toNat / 10 = (u / 10).toNat by omega, show u.toNat % 10 = (u % 10).toNat by omega]; simp [cat]⟩
      case measure => simp [intOf]; omega
theorem digits8_any (k : Nat) : ∀ (n : Int) (w : World), n.toNat ≤ k → 0 ≤ n → n ≤ 9223372036854775807 → Calls Tryz.prog 241 #[.int .i64 n] w (RetP w (.string ⟨(Lib.decDigits n.toNat).toArray⟩)) := by
  induction k using Nat.strongRecOn with
  | ind k ih =>
    intro n w hk h0 h1
    by_cases hlt : n < 10
    · have e1 : Utf8.encode (48 + n) = ⟨[dg n.toNat].toArray⟩ := by rw [← enc_dg n.toNat (by omega), Int.toNat_of_nonneg h0]
      have HE := Lib.hid (dec_small (u := n.toNat) (by omega))
      go_enter Tryz.func241, Tryz.ntmps241
      go_wp2
      go_ret
      exact RetP.str (by rw [HE.out]) rfl
    · have i1 := fun w => ih (n / 10).toNat (by omega) (n / 10) w (Nat.le_refl _) (by omega) (by omega)
      have i2 := fun w => ih (n % 10).toNat (by omega) (n % 10) w (Nat.le_refl _) (by omega) (by omega)
      have HE := Lib.hid (show Lib.decDigits n.toNat = Lib.decDigits (n / 10).toNat ++ Lib.decDigits (n % 10).toNat by rw [dec_big (by omega), dec_small (u := (n % 10).toNat) (by omega), show n.toNat / 10 = (n / 10).toNat by omega, show n.toNat % 10 = (n % 10).toNat by omega])
      have hl1 : (Lib.decDigits (n / 10).toNat).length ≤ 19 := dec_len (by decide) (by omega)
      have hl2 : (Lib.decDigits (n % 10).toNat).length ≤ 19 := dec_len (by decide) (by omega)
      clear ih
      go_enter Tryz.func241, Tryz.ntmps241
      go_wp2_with (go_at_call 241; first | (with_reducible refine callP (i1 _) ?_) | (with_reducible refine callP (i2 _) ?_))
      go_ret
      exact RetP.str (by rw [HE.out]; rfl) rfl
end Go.Proofs.YtjgondadpjildaaGreatDoor
namespace Go.Proofs.YtjgondadpjildaaGreatDoor
open Go.RowKit Go.Sort
set_option linter.unusedVariables false
set_option linter.unusedSimpArgs false
set_option maxRecDepth 100000
theorem plainB_pos (l : List UInt8) (h : 0 < l.length) : plainB l = ((decide (l.length ≤ 1) || decide (l[0].toNat ≠ 48)) && l.all isD) := by
  match l, h with
  | [c], _ => simp [plainB]
  | c :: d :: r, _ =>
    have e : (c != 48) = decide (c.toNat ≠ 48) := by
      rw [Bool.eq_iff_iff]
      simp only [bne_iff_ne, decide_eq_true_eq]
      exact not_congr ⟨fun e => by rw [e]; rfl, fun e => UInt8.toNat_inj.1 e⟩
    simp [plainB, e]
theorem plain_any (l : List UInt8) (w : World) (hl : l.length ≤ 4611686018427387904) : Calls Tryz.prog 227 #[.string ⟨l.toArray⟩] w (RetP w (.bool (plainB l))) := by
  by_cases h0 : 0 < l.length
  · have hs := Lib.hid (plainB_pos l h0)
    have hne : ¬ l = [] := by rintro rfl; simp at h0
    have h1 : ((l.length : Int) == 0) = false := by simp [hne]
    go_enter Tryz.func227, Tryz.ntmps227
    go_wp2
    all_goals try (go_ret; exact RetP.bool (by rw [hs.out]; grind) rfl)
    all_goals
      go_loop [19] (fun i => ∃ k : Nat, k ≤ l.length ∧ i = .int .i64 k ∧ plainB l = (l.drop k).all isD) (fun i => l.length - (intOf i).toNat)
      case atStart => exact ⟨0, by omega, rfl, by rw [hs.out]; grind⟩
      case round =>
        obtain ⟨k, hk, rfl, hq⟩ := hrel
        have HQ := Lib.hid hq; clear hq
        by_cases hlt : k < l.length
        · have hd := Lib.hid (all_drop isD l k hlt)
          go_wp2
          all_goals first
            | (go_ret; exact RetP.bool (by rw [HQ.out, hd.out]; grind [isD]) rfl)
            | (go_round
               case rel =>
                 first | refine ⟨_, _, _, ⟨k + 1, ?_, ?_, ?_⟩, rfl, rfl, rfl⟩ | refine ⟨k + 1, ?_, ?_, ?_⟩
                 · omega
                 · go_num
                 · rw [HQ.out, hd.out]; clear hs; grind [isD]
               case measure => simp [intOf]; omega)
        · go_wp2
          go_ret
          exact RetP.bool (by rw [HQ.out, List.drop_of_length_le (by omega)]; rfl) rfl
  · obtain rfl : l = [] := by cases l <;> simp_all
    go_enter Tryz.func227, Tryz.ntmps227
    go_wp2
    go_ret
    exact RetP.bool (by simp [plainB]) rfl
theorem rplain_any (l : List UInt8) (w : World) (hl : l.length ≤ 4611686018427387904) : Calls Tryz.prog 250 #[.string ⟨l.toArray⟩] w (RetP w (.bool (plainB l))) := by
  by_cases h0 : 0 < l.length
  · have hs := Lib.hid (plainB_pos l h0)
    have hne : ¬ l = [] := by rintro rfl; simp at h0
    have h1 : ((l.length : Int) == 0) = false := by simp [hne]
    go_enter Tryz.func250, Tryz.ntmps250
    go_wp2
    all_goals try (go_ret; exact RetP.bool (by rw [hs.out]; grind) rfl)
    all_goals
      go_loop [3] (fun i => ∃ k : Nat, k ≤ l.length ∧ i = .int .i64 k ∧ plainB l = (l.drop k).all isD) (fun i => l.length - (intOf i).toNat)
      case atStart => exact ⟨0, by omega, rfl, by rw [hs.out]; grind⟩
      case round =>
        obtain ⟨k, hk, rfl, hq⟩ := hrel
        have HQ := Lib.hid hq; clear hq
        by_cases hlt : k < l.length
        · have hd := Lib.hid (all_drop isD l k hlt)
          go_wp2
          all_goals first
            | (go_ret; exact RetP.bool (by rw [HQ.out, hd.out]; grind [isD]) rfl)
            | (go_round
               case rel => exact ⟨k + 1, by omega, by go_num, by rw [HQ.out, hd.out]; grind [isD]⟩
               case measure => simp [intOf]; omega)
        · go_wp2
          go_ret
          exact RetP.bool (by rw [HQ.out, List.drop_of_length_le (by omega)]; rfl) rfl
  · obtain rfl : l = [] := by cases l <;> simp_all
    go_enter Tryz.func250, Tryz.ntmps250
    go_wp2
    go_ret
    exact RetP.bool (by simp [plainB]) rfl
def numS (l : List UInt8) : Int × Bool := if l.all isD then ((val l : Int), true) else (0, false)
abbrev numVal (x : Int × Bool) : Value := .tuple #[.int .i64 x.1, .bool x.2]
theorem RetP.num {w w' : World} {n : Int} {b : Bool} {x : Int × Bool} (h : x = (n, b)) (hw : w = w') : RetP w (numVal x) (.returned (.tuple #[.int .i64 n, .bool b])) w' := ⟨by rw [h], hw⟩
theorem val_take_succ (l : List UInt8) (k : Nat) (h : k < l.length) : val (l.take (k + 1)) = 10 * val (l.take k) + (l[k].toNat - 48) := by
  rw [List.take_succ_eq_append_getElem h, val_snoc]
theorem val_take_lt (l : List UInt8) (k : Nat) (hk : k ≤ 17) (h : (l.take k).all isD = true) : val (l.take k) < 100000000000000000 := by
  have h1 := val_lt _ h
  have h2 : 10 ^ (l.take k).length ≤ 10 ^ 17 := Nat.pow_le_pow_right (by decide) (by have := List.length_take_le k l; omega)
  have h3 : (10 : Nat) ^ 17 = 100000000000000000 := by decide
  omega
theorem all_take_false {l : List UInt8} {k : Nat} (h : k < l.length) (hd : isD l[k] = false) : l.all isD = false := by
  rw [List.all_eq_false]
  exact ⟨l[k], List.getElem_mem h, by simp [hd]⟩
theorem number_any (l : List UInt8) (w : World) (hl : l.length ≤ 16) : Calls Tryz.prog 246 #[.string ⟨l.toArray⟩] w (RetP w (numVal (numS l))) := by
  go_enter Tryz.func246, Tryz.ntmps246
  go_wp2
  go_loop [4, 8] (fun n i => ∃ k : Nat, k ≤ l.length ∧ i = .int .i64 k ∧ n = .int .i64 (val (l.take k) : Nat) ∧ (l.take k).all isD = true) (fun _ i => l.length - (intOf i).toNat)
  case atStart => exact ⟨0, by omega, rfl, by simp [val, numV_nil], by simp⟩
  case round =>
    obtain ⟨k, hk, rfl, rfl, ha⟩ := hrel
    have hv := val_take_lt l k (by omega) ha
    by_cases hlt : k < l.length
    · have HS := Lib.hid (val_take_succ l k hlt)
      have HA := Lib.hid (take_all_succ isD l k hlt ha)
      have HF := Lib.hid (fun hd => all_take_false (l := l) hlt hd)
      clear ha
      generalize val (l.take k) = m at hv HS ⊢
      go_wp2
      all_goals first
        | (go_ret2; refine RetP.num ?_ rfl; have := HF.out (by grind [isD]); simp [numS, this])
        | (go_round
           case rel => exact ⟨k + 1, by omega, by go_num, by rw [HS.out]; congr 1; omega, HA.out (by grind [isD])⟩
           case measure => simp [intOf]; omega)
    · rw [List.take_of_length_le (by omega)] at ha
      have HA := Lib.hid ha; clear ha
      have HT := Lib.hid (List.take_of_length_le (l := l) (i := k) (by omega))
      generalize l.take k = t at hv HT ⊢
      go_wp2
      go_ret2
      refine RetP.num ?_ rfl
      have := HA.out
      rw [HT.out]
      simp [numS, this]
theorem rvalue4_any (l : List UInt8) (w : World) (hl : l.length ≤ 16) : Calls Tryz.prog 261 #[.string ⟨l.toArray⟩] w (RetP w (numVal (numS l))) := by
  go_enter Tryz.func261, Tryz.ntmps261
  go_wp2
  go_loop [4, 5] (fun n i => ∃ k : Nat, k ≤ l.length ∧ i = .int .i64 k ∧ n = .int .i64 (val (l.take k) : Nat) ∧ (l.take k).all isD = true) (fun _ i => l.length - (intOf i).toNat)
  case atStart => exact ⟨0, by omega, rfl, by simp [val, numV_nil], by simp⟩
  case round =>
    obtain ⟨k, hk, rfl, rfl, ha⟩ := hrel
    have hv := val_take_lt l k (by omega) ha
    by_cases hlt : k < l.length
    · have HS := Lib.hid (val_take_succ l k hlt)
      have HA := Lib.hid (take_all_succ isD l k hlt ha)
      have HF := Lib.hid (fun hd => all_take_false (l := l) hlt hd)
      clear ha
      generalize val (l.take k) = m at hv HS ⊢
      go_wp2
      all_goals first
        | (go_ret2; refine RetP.num ?_ rfl; have := HF.out (by grind [isD]); simp [numS, this])
        | (go_round
           case rel => exact ⟨k + 1, by omega, by go_num, by rw [HS.out]; congr 1; omega, HA.out (by grind [isD])⟩
           case measure => simp [intOf]; omega)
    · rw [List.take_of_length_le (by omega)] at ha
      have HA := Lib.hid ha; clear ha
      have HT := Lib.hid (List.take_of_length_le (l := l) (i := k) (by omega))
      generalize l.take k = t at hv HT ⊢
      go_wp2
      go_ret2
      refine RetP.num ?_ rfl
      have := HA.out
      rw [HT.out]
      simp [numS, this]
end Go.Proofs.YtjgondadpjildaaGreatDoor
namespace Go.Proofs.YtjgondadpjildaaGreatDoor
open Go.RowKit Go.Sort
set_option linter.unusedVariables false
set_option linter.unusedSimpArgs false
set_option maxRecDepth 100000
/-- The last k digits of n. -/
def digW : Nat → Nat → List UInt8
  | 0, _ => []
  | k + 1, n => digW k (n / 10) ++ [dg (n % 10)]
theorem digW_len (k n : Nat) : (digW k n).length = k := by
  induction k generalizing n with
  | zero => rfl
  | succ k ih => simp [digW, ih]
attribute [local go_sem] ba_cat cat_len
theorem alloc_below (w : World) (o : Obj) : Below w.heap.size w (w.alloc o) := (Below.refl _ _).alloc (Nat.le_refl _) _
theorem conv1 (W : World) (y : Int) (h : 0 ≤ y) : (convert 125 9 (.slice (some ⟨W.heap.size, 0, none⟩) 1 1)).run Tryz.prog (W.alloc (.cells #[.int .u8 (48 + y)] 5)) = .ok (.string ⟨[dg y.toNat].toArray⟩) (W.alloc (.cells #[.int .u8 (48 + y)] 5)) := by
  have h1 := run_convert_bytes_arg (P := Tryz.prog) (W.alloc (.cells #[.int .u8 (48 + y)] 5)) 125 5 Tryz.underlying125 Tryz.underlying5 W.heap.size 0 1 1 [48 + y] rfl (by
    intro i hi
    obtain rfl : i = 0 := by omega
    exact (cell_of_row _ _ 0 #[.int .u8 (48 + y)] _ _ (heap_alloc_new W _))) 9 Tryz.underlying9
  rw [h1]
  unfold strOfNums dg
  rw [show (48 + y) = ((48 + y.toNat : Nat) : Int) by omega]
  rfl
theorem rdigits4_any (n : Int) (c : Nat) (w : World) (h0 : 0 ≤ n) (h1 : n ≤ 9223372036854775807) (hc : c ≤ 100) : Calls Tryz.prog 240 #[.int .i64 n, .int .i64 c] w (Ret w (.string ⟨(digW c n.toNat).toArray⟩)) := by
  go_enter Tryz.func240, Tryz.ntmps240
  go_wp2
  go_loopw [0, 5, 7] (fun x s i W => ∃ (u : Int) (l : List UInt8) (k : Nat), 0 ≤ u ∧ u ≤ 9223372036854775807 ∧ k ≤ c ∧ x = .int .i64 u ∧ s = .string ⟨l.toArray⟩ ∧ i = .int .i64 k ∧ l.length = k ∧ digW c n.toNat = digW (c - k) u.toNat ++ l ∧ Below w.heap.size w W) (fun _ _ i _ => c - (intOf i).toNat)
  case atStart => exact ⟨n, [], 0, by omega, by omega, by omega, rfl, rfl, rfl, by simp, by simp, Below.refl _ _⟩
  case round =>
    obtain ⟨u, l, k, hu0, hu, hk, rfl, rfl, rfl, hl, hq, hB⟩ := hrel
    have HQ := Lib.hid hq; clear hq
    by_cases hlt : k < c
    · have e1 := conv1 wr (u % 10) (by omega)
      have HD := Lib.hid (show digW (c - k) u.toNat = digW (c - (k + 1)) (u / 10).toNat ++ [dg (u % 10).toNat] by rw [show c - k = c - (k + 1) + 1 by omega, digW, show u.toNat / 10 = (u / 10).toNat by omega, show u.toNat % 10 = (u % 10).toNat by omega])
      have hl1 : l.length ≤ 100 := by omega
      have HL := Lib.hid hl; clear hl
      go_wp2
      go_roundw
      case rel => exact ⟨u / 10, _, k + 1, by omega, by omega, by omega, rfl, rfl, by go_num, by simp [cat]; have := HL.out; omega, by rw [HQ.out, HD.out]; simp [cat], (below_step hB (alloc_below _ _))⟩
      case measure => simp [intOf]; omega
    · go_wp2
      go_ret
      exact Ret.str (by rw [HQ.out, show c - k = 0 by omega]; rfl) hB
theorem conv1g (y : Int) (h : 0 ≤ y) (W : World) (g : Nat) (hc : W.cell? ⟨g, 0, none⟩ = some (.int .u8 (48 + y))) : (convert 125 9 (.slice (some ⟨g, 0, none⟩) 1 1)).run Tryz.prog W = .ok (.string ⟨[dg y.toNat].toArray⟩) W := by
  have h1 := run_convert_bytes_arg (P := Tryz.prog) W 125 5 Tryz.underlying125 Tryz.underlying5 g 0 1 1 [48 + y] rfl (by
    intro i hi
    obtain rfl : i = 0 := by omega
    exact hc) 9 Tryz.underlying9
  rw [h1]
  unfold strOfNums dg
  rw [show (48 + y) = ((48 + y.toNat : Nat) : Int) by omega]
  rfl
theorem rdecimal_any (k : Nat) : ∀ (n : Int) (w : World), n.toNat ≤ k → 0 ≤ n → n ≤ 9223372036854775807 → Calls Tryz.prog 153 #[.int .i64 n] w (Ret w (.string ⟨(Lib.decDigits n.toNat).toArray⟩)) := by
  induction k using Nat.strongRecOn with
  | ind k ih =>
    intro n w hk h0 h1
    by_cases hlt : n < 10
    · have e1 := conv1 w n h0
      have HE := Lib.hid (dec_small (u := n.toNat) (by omega))
      clear ih
      go_enter Tryz.func153, Tryz.ntmps153
      go_wp2
      go_ret
      exact Ret.str (by rw [HE.out]) (alloc_below _ _)
    · have i1 := Lib.hid (fun w => ih (n / 10).toNat (by omega) (n / 10) w (Nat.le_refl _) (by omega) (by omega))
      have HE := Lib.hid (show Lib.decDigits n.toNat = Lib.decDigits (n / 10).toNat ++ [dg (n % 10).toNat] by rw [dec_big (by omega), show n.toNat / 10 = (n / 10).toNat by omega, show n.toNat % 10 = (n % 10).toNat by omega])
      have hl1 : (Lib.decDigits (n / 10).toNat).length ≤ 19 := dec_len (by decide) (by omega)
      have e1 := conv1g (n % 10) (by omega)
      clear ih
      go_enter Tryz.func153, Tryz.ntmps153
      go_wp2
      have q1 : n.tdiv 10 = n / 10 := Int.tdiv_eq_ediv_of_nonneg h0
      have q2 : n.tmod 10 = n % 10 := Int.tmod_eq_emod_of_nonneg h0
      have q3 : IntKind.i64.wrap (n / 10) = n / 10 := IntWalk.i64_in _ (by omega)
      have q4 : IntKind.i64.wrap (n % 10) = n % 10 := IntWalk.i64_in _ (by omega)
      have q5 : IntKind.i64.wrap (48 + n % 10) = 48 + n % 10 := IntWalk.i64_in _ (by omega)
      have q6 : IntKind.u8.wrap (48 + n % 10) = 48 + n % 10 := by simp only [IntKind.wrap, IntKind.bits, IntKind.signed]; simp; omega
      have q7 : ¬ 9223372036854775807 < (Lib.decDigits (n / 10).toNat).length + 1 := by omega
      go_region_with (go_at_call 153; ((with_reducible refine callR (i1.out _) ?_); intro w1 hb1 hc1 hf1 hz1))
      all_goals go_wp2
      all_goals go_ret
      all_goals refine Ret.str (by rw [HE.out]; rfl) ?_
      all_goals first
        | exact below_step (below_step (Below.refl _ _).drew hb1) (alloc_below _ _)
        | exact below_step (alloc_below _ _).drew hb1
        | (go_grown; done)
def valS (l : List UInt8) : Int × Bool := if val l ≤ 4611686018427387904 then ((val l : Int), true) else (0, false)
theorem val_take_le (l : List UInt8) (k : Nat) : val (l.take k) ≤ val l := by
  have h := congrArg val (List.take_append_drop k l)
  unfold val at *
  rw [numV_append] at h
  have := numV_ge (l.drop k) (numV 0 (l.take k))
  omega
theorem rvalue8_any (l : List UInt8) (w : World) (hl : l.length ≤ 4611686018427387904) (hd : l.all isD = true) : Calls Tryz.prog 251 #[.string ⟨l.toArray⟩] w (RetP w (numVal (valS l))) := by
  have HD := Lib.hid hd; clear hd
  go_enter Tryz.func251, Tryz.ntmps251
  go_wp2
  go_loop [4, 5] (fun n i => ∃ k : Nat, k ≤ l.length ∧ i = .int .i64 k ∧ n = .int .i64 (val (l.take k) : Nat) ∧ val (l.take k) ≤ 4611686018427387904) (fun _ i => l.length - (intOf i).toNat)
  case atStart => exact ⟨0, by omega, rfl, by simp [val, numV_nil], by simp [val, numV_nil]⟩
  case round =>
    obtain ⟨k, hk, rfl, rfl, hv⟩ := hrel
    by_cases hlt : k < l.length
    · have HS := Lib.hid (val_take_succ l k hlt)
      have HL := Lib.hid (val_take_le l (k + 1))
      have hc : 48 ≤ l[k].toNat ∧ l[k].toNat ≤ 57 := by
        have := List.all_eq_true.1 HD.out l[k] (List.getElem_mem hlt)
        simpa [isD] using this
      have hc1 := hc.1
      have hc2 := hc.2
      clear hc
      generalize val (l.take k) = m at hv HS ⊢
      go_wp2
      all_goals first
        | (go_ret2; refine RetP.num ?_ rfl; have h1 := HS.out; have h2 := HL.out; unfold valS; rw [if_neg (by omega)])
        | (go_round
           case rel => exact ⟨k + 1, by omega, by go_num, by rw [HS.out]; congr 1; omega, by rw [HS.out]; omega⟩
           case measure => simp [intOf]; omega)
    · have HT := Lib.hid (List.take_of_length_le (l := l) (i := k) (by omega))
      generalize l.take k = t at hv HT ⊢
      go_wp2
      go_ret2
      refine RetP.num ?_ rfl
      rw [HT.out] at hv ⊢
      unfold valS
      rw [if_pos hv]
end Go.Proofs.YtjgondadpjildaaGreatDoor
