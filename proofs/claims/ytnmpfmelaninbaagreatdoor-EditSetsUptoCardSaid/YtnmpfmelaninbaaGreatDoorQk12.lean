/- Lemmas and walks. -/
import Derived.Test.YtnmpfmelaninbaaGreatDoorQk10
import Derived.StillTail
import Derived.Lib.QuietBelow
import Derived.Test.YtnmpfmelaninbaaGreatDoorQk11
import Derived.Lib.Join
import Derived.Lib.ItoaLen
import Derived.Test.YtnmpfmelaninbaaGreatDoorQk01
import Derived.Test.YtnmpfmelaninbaaGreatDoorQk03
import Derived.Laws.OwnMore
import Derived.Lib.AppendStr
import Derived.Lib.Split
import Derived.Test.YtnmpfmelaninbaaGreatDoorQk05
import Derived.Test.YtnmpfmelaninbaaGreatDoorQk07
import Derived.Lib.ParseIntBCases
import Derived.Lib.AtoiErrMem
import Derived.Lib.ConvBytes
import Derived.Test.YtnmpfmelaninbaaGreatDoorQk09
import Derived.Lib.AtoiAll
set_option linter.unusedSimpArgs false
set_option linter.unusedVariables false
namespace Go.Proofs.YtnmpfmelaninbaaGreatDoor
open Go.RowKit Go.Sort
section
variable {P : Program} {ops : Array Oper} {md : Region.Mode} {C : World → Prop}
def wpAnyT (P : Program) (md : Region.Mode) (ops : Array Oper) (C : World → Prop) (n : Nat) (L : Array Bool → Act → Prop) : Nat → Array Bool → Act → Prop
  | 0, listed, a => L listed a
  | f + 1, listed, a =>
    Region.ready md ops listed ≠ [] ∧ ∀ i ∈ Region.ready md ops listed, i < n ∧ qOp P ops C i (wpAnyT P md ops C n L f (listed.setIfInBounds i true)) a
theorem wpAny_of_headT {n g : Nat} {L : Array Bool → Act → Prop} {Q' : Exit → Act → World → Prop} (hL : ∀ listed a w, C w → L listed a → wpAny P md ops Q' g listed a w) :
    ∀ (f : Nat) (listed : Array Bool) (a : Act) (w : World), C w → wpAnyT P md ops C n L f listed a → wpAny P md ops Q' (f + g) listed a w
  | 0, listed, a, w, hw, h => by rw [Nat.zero_add]; exact hL _ _ _ hw h
  | f + 1, listed, a, w, hw, h => by
    rw [show f + 1 + g = (f + g) + 1 by omega]
    exact ⟨fun h0 => absurd h0 h.1, fun i hi => wpOp_of_qOp hw (fun a' w' hw' h' => wpAny_of_headT hL f _ a' w' hw' h') (h.2 i hi).2⟩
theorem wpAnyT_first {n i : Nat} {oi : Oper} {v : Value} {L : Array Bool → Act → Prop} (hi : ops[i]? = some oi) (hsel : ∀ (j : Nat) (o : Oper) cs b, ops[j]? = some o → o.op ≠ .select cs b)
    (hs : Region.sinkB md ops n = true) (hc : Region.chainB md ops n = true) (hn : n < ops.size) (hin : i < n)
    (hdone : ∀ listed a, L listed a → ∀ j ∈ Region.ready md ops listed, n ≤ j) :
    ∀ (f : Nat) (listed : Array Bool) (a : Act), HeadInv md ops n listed →
      (∀ j oj, ops[j]? = some oj → j ≠ i → listed.getD j true = false → (∀ e ∈ oj.after, Region.binds md e = true → e.on ≠ i) → oi.apart ops oj = true) →
      i ∈ Region.ready md ops listed → YieldsIn P ops C oi v a →
      wpAnyT P md ops C n L f (listed.setIfInBounds i true) (a.put oi.dst v) → wpAnyT P md ops C n L (f + 1) listed a := by
  intro f
  induction f with
  | zero =>
    intro listed a inv _ hr hy H
    have hun := (mem_ready.1 hr).1
    refine ⟨fun h => (by rw [h] at hr; cases hr), fun j hj => ?_⟩
    have hjn : j < n := by
      rcases Nat.lt_or_ge j n with h | h
      · exact h
      · exact absurd hj (tail_waits hs hc hn inv _ i rfl hin hun j h)
    refine ⟨hjn, ?_⟩
    by_cases hji : j = i
    · subst hji; exact hy.qOp hi H
    · have := hdone _ _ H j (ready_mono hj hji)
      omega
  | succ f ih =>
    intro listed a inv hfree hr hy H
    have hun := (mem_ready.1 hr).1
    refine ⟨fun h => (by rw [h] at hr; cases hr), fun j hj => ?_⟩
    have hjn : j < n := by
      rcases Nat.lt_or_ge j n with h | h
      · exact h
      · exact absurd hj (tail_waits hs hc hn inv _ i rfl hin hun j h)
    refine ⟨hjn, ?_⟩
    by_cases hji : j = i
    · subst hji; exact hy.qOp hi H
    · have h1 := (H.2 j (ready_mono hj hji)).2
      obtain ⟨hjun, oj, hoj, hall⟩ := mem_ready.1 hj
      have hnot : ∀ e ∈ oj.after, Region.binds md e = true → e.on ≠ i := fun e he hb heq => by
        have h1 := hall e he hb
        rw [heq, getD_both hun] at h1
        cases h1
      have h2 := qOp_put hoj (hfree j oj hoj hji hjun hnot) (fun cs b => hsel i oi cs b hi) (fun cs b => hsel j oj cs b hoj) hy h1
      have hfree' : ∀ k ok, ops[k]? = some ok → k ≠ i → (listed.setIfInBounds j true).getD k true = false →
          (∀ e ∈ ok.after, Region.binds md e = true → e.on ≠ i) → oi.apart ops ok = true := fun k ok hk hki hun hno => by
        refine hfree k ok hk hki ?_ hno
        by_cases hjk : j = k
        · subst hjk; exact hjun
        · rw [getD_set_ne true hjk] at hun; exact hun
      refine qOp_mono (fun a' h3 => ih (listed.setIfInBounds j true) a' (inv.set hj hjn) hfree' (ready_mono hr (Ne.symm hji)) h3.1 ?_) h2
      rw [Array.setIfInBounds_comm _ _ hji]
      exact h3.2
theorem wpAnyT_lex {n g : Nat} {Lq : Act → Prop} (hsel : Region.noSelect ops = true) (hs : Region.sinkB md ops n = true) (hc : Region.chainB md ops n = true) (hn : n < ops.size) :
    ∀ (l : List Oper) (k : Nat) (listed : Array Bool) (a : Act), (∀ j, j < l.length → l[j]? = ops[k + j]?) → k + l.length = n → HeadInv md ops n listed →
    Region.lexHead md ops g l.length k listed = true → wpQuiet P ops C Lq l a →
    wpAnyT P md ops C n (fun listed' a' => Region.seqB md ops g n listed' = true ∧ Lq a') l.length listed a
  | [], k, listed, a, _, hk, _, hB, h => by
    have : k = n := by simpa using hk
    subst this
    exact ⟨by simpa [Region.lexHead] using hB, h⟩
  | o :: l, k, listed, a, hl, hk, inv, hB, h => by
    have h0 : ops[k]? = some o := by simpa using (hl 0 (by simp)).symm
    simp only [List.length_cons, Region.lexHead, Bool.and_eq_true] at hB
    obtain ⟨⟨hr, hf⟩, hB'⟩ := hB
    have hkn : k < n := by simp only [List.length_cons] at hk; omega
    have hr' : k ∈ Region.ready md ops listed := by simpa using hr
    have hst : qOp P ops C k (wpQuiet P ops C Lq l) a := by unfold qOp; simp only [h0]; exact h
    obtain ⟨v, hy, hK⟩ := yieldsIn_of_qOp h0 hst
    exact wpAnyT_first h0 (Region.noSelect_spec hsel) hs hc hn hkn (fun listed' a' hL => seqB_ready hL.1) l.length listed a inv (Region.free_spec h0 hf) hr' hy
      (wpAnyT_lex hsel hs hc hn l (k + 1) _ _ (fun j hj => by have := hl (j + 1) (by simp; omega); simpa [Nat.add_assoc, Nat.add_comm 1 j] using this) (by simp only [List.length_cons] at hk; omega) (inv.set hr' hkn) hB' hK)
theorem wp_region_quiet_tail {id : Nat} {Q : Exit → Act → World → Prop} {a : Act} {w : World} {l : List Oper} (n : Nat) (hm : P.follows .mixedOrders = true) (hB : Region.lexTailB .any l.toArray n = true) (hC : C { w with drawn := w.drawn + 1 })
    (h : wpQuiet P l.toArray C (fun a' => ∀ w', C w' → wpList P l.toArray Q (l.drop n) a' w') (l.take n) a) : (Code.region id l.toArray true).wp P Q a w := by
  simp only [Region.lexTailB, Bool.and_eq_true, decide_eq_true_eq] at hB
  obtain ⟨⟨⟨⟨hsel, hn⟩, hs⟩, hc⟩, hlex⟩ := hB
  have hn' : n < l.length := by simpa using hn
  have htl : (l.take n).length = n := by simp; omega
  have hdl : (l.drop n).length = l.toArray.size - n := by simp
  have inv0 : HeadInv .any l.toArray n (Array.replicate l.toArray.size false) :=
    ⟨by simp, fun j oj _ hl => (by rw [getD_replicate_false] at hl; cases hl), fun t _ ht => getD_in (by simpa using ht) (getD_replicate_false _ _)⟩
  have H := wpAnyT_lex (md := .any) (g := l.toArray.size - n) hsel hs hc hn (l.take n) 0 _ a (fun j hj => by
    have hj' : j < n := by rw [htl] at hj; exact hj
    simp [hj']) (by simpa using htl) inv0 (by rw [htl]; exact hlex) h
  refine wp_region_any hm ?_
  have := wpAny_of_headT (Q' := Q) (g := l.toArray.size - n) (fun listed a' w' hw' hL => by
    have := wpAny_of_seq (l.drop n) n listed a' w' (fun j => by simp) (by rw [hdl]; exact hL.1) (hL.2 w' hw')
    rw [hdl] at this
    exact this) _ _ _ _ hC H
  rw [htl] at this
  rw [show n + (l.toArray.size - n) = l.toArray.size by simp; omega] at this
  exact this
theorem wp_region_tail_below {id : Nat} {Q : Exit → Act → World → Prop} {a : Act} {w : World} {l : List Oper} (n : Nat) (hm : P.follows .mixedOrders = true) (hB : Region.lexTailB .any l.toArray n = true)
    (h : wpQuiet P l.toArray (fun w' => ∃ p : Regrown, w' = grow (redrawn w p.d) p.os) (fun a' => ∀ w', (∃ p : Regrown, w' = grow (redrawn w p.d) p.os) → wpList P l.toArray Q (l.drop n) a' w') (l.take n) a) : (Code.region id l.toArray true).wp P Q a w :=
  wp_region_quiet_tail n hm hB ⟨⟨w.drawn + 1, #[]⟩, by rw [grow_empty]; rfl⟩ h
theorem Calls.regrown_ret {f : FuncId} {args : Array Value} {w : World} {d : Nat} {os : Array Obj} {v : Value}
    (h : Calls P f args (grow (redrawn w d) os) (Ret (grow (redrawn w d) os) v)) : Calls P f args (grow (redrawn w d) os) fun e w'' => e = .returned v ∧ ∃ p : Regrown, w'' = grow (redrawn w p.d) p.os := Calls.regrown_of h
/-! The same where the first operation (a copy) is taken ahead: what waits for it may come behind the head. -/
def sinkF (md : Region.Mode) (ops : Array Oper) (m n : Nat) : Bool :=
  (List.range n).all fun i => decide (i < m) || (List.range (n + 1)).any fun j => decide (i < j) && Region.waitsFor md ops j i
theorem tail_waitsF {m n : Nat} {listed : Array Bool} (hs : sinkF md ops m n = true) (hc : Region.chainB md ops n = true) (hn : n < ops.size) (inv : HeadInv md ops n listed) :
    ∀ (d i : Nat), n - i = d → m ≤ i → i < n → listed.getD i true = false → ∀ t, n ≤ t → t ∉ Region.ready md ops listed := by
  intro d
  induction d using Nat.strongRecOn with
  | _ d ih =>
    intro i hd hmi hi hun t ht hr
    obtain ⟨_, ot, hot, hall⟩ := mem_ready.1 hr
    have htlt : t < ops.size := (Array.getElem?_eq_some_iff.1 hot).1
    by_cases htn : t = n
    · subst htn
      have h1 := List.all_eq_true.1 hs i (List.mem_range.2 hi)
      have hnm : ¬ i < m := by omega
      simp only [Bool.or_eq_true, decide_eq_true_eq, hnm, false_or] at h1
      obtain ⟨j, hj, hj2⟩ := List.any_eq_true.1 h1
      simp only [Bool.and_eq_true, decide_eq_true_eq] at hj2
      obtain ⟨oj, hoj, e, he, hb, hon⟩ := Region.waitsFor_spec hj2.2
      have hjle : j ≤ t := by have := List.mem_range.1 hj; omega
      by_cases hjt : j = t
      · subst hjt
        have : oj = ot := Option.some.inj (hoj.symm.trans hot)
        subst this
        have h2 := hall e he hb
        rw [hon, getD_both hun] at h2
        cases h2
      · cases hl : listed.getD j false with
        | true =>
          have h2 := inv.closed j oj hoj hl e he hb
          rw [hon, getD_both hun] at h2
          cases h2
        | false =>
          have hjs : j < listed.size := by rw [inv.size]; omega
          exact ih (t - j) (by omega) j rfl (by omega) (by omega) (getD_in hjs hl) t (Nat.le_refl _) hr
    · have h1 := List.all_eq_true.1 hc t (List.mem_range.2 htlt)
      simp only [Bool.or_eq_true, decide_eq_true_eq] at h1
      rcases h1 with h1 | h1
      · omega
      · obtain ⟨o', ho', e, he, hb, hon⟩ := Region.waitsFor_spec h1
        have : o' = ot := Option.some.inj (ho'.symm.trans hot)
        subst this
        have h2 := hall e he hb
        rw [hon, getD_both (inv.tail (t - 1) (by omega) (by omega))] at h2
        cases h2
theorem wpAnyF_first {m n i : Nat} {oi : Oper} {v : Value} {L : Array Bool → Act → Prop} (hi : ops[i]? = some oi) (hsel : ∀ (j : Nat) (o : Oper) cs b, ops[j]? = some o → o.op ≠ .select cs b)
    (hs : sinkF md ops m n = true) (hc : Region.chainB md ops n = true) (hn : n < ops.size) (hmi : m ≤ i) (hin : i < n)
    (hdone : ∀ listed a, L listed a → ∀ j ∈ Region.ready md ops listed, n ≤ j) :
    ∀ (f : Nat) (listed : Array Bool) (a : Act), HeadInv md ops n listed →
      (∀ j oj, ops[j]? = some oj → j ≠ i → listed.getD j true = false → (∀ e ∈ oj.after, Region.binds md e = true → e.on ≠ i) → oi.apart ops oj = true) →
      i ∈ Region.ready md ops listed → YieldsIn P ops C oi v a →
      wpAnyT P md ops C n L f (listed.setIfInBounds i true) (a.put oi.dst v) → wpAnyT P md ops C n L (f + 1) listed a := by
  intro f
  induction f with
  | zero =>
    intro listed a inv _ hr hy H
    have hun := (mem_ready.1 hr).1
    refine ⟨fun h => (by rw [h] at hr; cases hr), fun j hj => ?_⟩
    have hjn : j < n := by
      rcases Nat.lt_or_ge j n with h | h
      · exact h
      · exact absurd hj (tail_waitsF hs hc hn inv _ i rfl hmi hin hun j h)
    refine ⟨hjn, ?_⟩
    by_cases hji : j = i
    · subst hji; exact hy.qOp hi H
    · have := hdone _ _ H j (ready_mono hj hji)
      omega
  | succ f ih =>
    intro listed a inv hfree hr hy H
    have hun := (mem_ready.1 hr).1
    refine ⟨fun h => (by rw [h] at hr; cases hr), fun j hj => ?_⟩
    have hjn : j < n := by
      rcases Nat.lt_or_ge j n with h | h
      · exact h
      · exact absurd hj (tail_waitsF hs hc hn inv _ i rfl hmi hin hun j h)
    refine ⟨hjn, ?_⟩
    by_cases hji : j = i
    · subst hji; exact hy.qOp hi H
    · have h1 := (H.2 j (ready_mono hj hji)).2
      obtain ⟨hjun, oj, hoj, hall⟩ := mem_ready.1 hj
      have hnot : ∀ e ∈ oj.after, Region.binds md e = true → e.on ≠ i := fun e he hb heq => by
        have h1 := hall e he hb
        rw [heq, getD_both hun] at h1
        cases h1
      have h2 := qOp_put hoj (hfree j oj hoj hji hjun hnot) (fun cs b => hsel i oi cs b hi) (fun cs b => hsel j oj cs b hoj) hy h1
      have hfree' : ∀ k ok, ops[k]? = some ok → k ≠ i → (listed.setIfInBounds j true).getD k true = false →
          (∀ e ∈ ok.after, Region.binds md e = true → e.on ≠ i) → oi.apart ops ok = true := fun k ok hk hki hun hno => by
        refine hfree k ok hk hki ?_ hno
        by_cases hjk : j = k
        · subst hjk; exact hjun
        · rw [getD_set_ne true hjk] at hun; exact hun
      refine qOp_mono (fun a' h3 => ih (listed.setIfInBounds j true) a' (inv.set hj hjn) hfree' (ready_mono hr (Ne.symm hji)) h3.1 ?_) h2
      rw [Array.setIfInBounds_comm _ _ hji]
      exact h3.2
theorem wpAnyF_lex {m n g : Nat} {Lq : Act → Prop} (hsel : Region.noSelect ops = true) (hs : sinkF md ops m n = true) (hc : Region.chainB md ops n = true) (hn : n < ops.size) :
    ∀ (l : List Oper) (k : Nat) (listed : Array Bool) (a : Act), (∀ j, j < l.length → l[j]? = ops[k + j]?) → m ≤ k → k + l.length = n → HeadInv md ops n listed →
    Region.lexHead md ops g l.length k listed = true → wpQuiet P ops C Lq l a →
    wpAnyT P md ops C n (fun listed' a' => Region.seqB md ops g n listed' = true ∧ Lq a') l.length listed a
  | [], k, listed, a, _, _, hk, _, hB, h => by
    have : k = n := by simpa using hk
    subst this
    exact ⟨by simpa [Region.lexHead] using hB, h⟩
  | o :: l, k, listed, a, hl, hmk, hk, inv, hB, h => by
    have h0 : ops[k]? = some o := by simpa using (hl 0 (by simp)).symm
    simp only [List.length_cons, Region.lexHead, Bool.and_eq_true] at hB
    obtain ⟨⟨hr, hf⟩, hB'⟩ := hB
    have hkn : k < n := by simp only [List.length_cons] at hk; omega
    have hr' : k ∈ Region.ready md ops listed := by simpa using hr
    have hst : qOp P ops C k (wpQuiet P ops C Lq l) a := by unfold qOp; simp only [h0]; exact h
    obtain ⟨v, hy, hK⟩ := yieldsIn_of_qOp h0 hst
    exact wpAnyF_first h0 (Region.noSelect_spec hsel) hs hc hn hmk hkn (fun listed' a' hL => seqB_ready hL.1) l.length listed a inv (Region.free_spec h0 hf) hr' hy
      (wpAnyF_lex hsel hs hc hn l (k + 1) _ _ (fun j hj => by have := hl (j + 1) (by simp; omega); simpa [Nat.add_assoc, Nat.add_comm 1 j] using this) (by omega) (by simp only [List.length_cons] at hk; omega) (inv.set hr' hkn) hB' hK)
def lexTailF (ops : Array Oper) (n : Nat) : Bool :=
  Region.noSelect ops && decide (n < ops.size) && decide (1 ≤ n) && sinkF .any ops 1 n && Region.chainB .any ops n && Region.free .any ops (Array.replicate ops.size false) 0 && (Region.ready .any ops (Array.replicate ops.size false)).contains 0 &&
    Region.lexHead .any ops (ops.size - n) (n - 1) 1 ((Array.replicate ops.size false).setIfInBounds 0 true)
theorem wp_region_take_tail {id : Nat} {Q : Exit → Act → World → Prop} {a : Act} {w : World} {o0 : Oper} {l : List Oper} {v0 : Value} (n : Nat) (hm : P.follows .mixedOrders = true) (hB : lexTailF (o0 :: l).toArray n = true)
    (hQ : ∀ c a w, Q (.panic c) (a.put o0.dst v0) w → Q (.panic c) a w) (hy : Yields P (o0 :: l).toArray o0 v0 a) (hC : C { w with drawn := w.drawn + 1 })
    (h : wpQuiet P (o0 :: l).toArray C (fun a' => ∀ w', C w' → wpList P (o0 :: l).toArray Q ((o0 :: l).drop n) a' w') (l.take (n - 1)) (a.put o0.dst v0)) : (Code.region id (o0 :: l).toArray true).wp P Q a w := by
  simp only [lexTailF, Bool.and_eq_true, decide_eq_true_eq] at hB
  obtain ⟨⟨⟨⟨⟨⟨⟨hsel, hn⟩, hn1⟩, hs⟩, hc⟩, hf0⟩, hr0⟩, hlex⟩ := hB
  have hn' : n < l.length + 1 := by simpa using hn
  have htl : (l.take (n - 1)).length = n - 1 := by simp; omega
  have hdl : ((o0 :: l).drop n).length = (o0 :: l).toArray.size - n := by simp
  have inv0 : HeadInv .any (o0 :: l).toArray n (Array.replicate (o0 :: l).toArray.size false) :=
    ⟨by simp, fun j oj _ hl => (by rw [getD_replicate_false] at hl; cases hl), fun t _ ht => getD_in (by simpa using ht) (getD_replicate_false _ _)⟩
  have inv1 := inv0.set (i := 0) (by simpa using hr0) (by omega)
  have H := wpAnyF_lex (md := .any) (m := 1) (g := (o0 :: l).toArray.size - n) hsel hs hc hn (l.take (n - 1)) 1 _ (a.put o0.dst v0) (fun j hj => by
    have hj' : j < n - 1 := by rw [htl] at hj; exact hj
    rw [List.getElem?_take, if_pos hj', Nat.add_comm 1 j]; simp) (Nat.le_refl _) (by omega) inv1 (by rw [htl]; exact hlex) h
  refine wp_region_any hm ?_
  have := wpAny_of_headT (Q' := Q) (g := (o0 :: l).toArray.size - n) (fun listed a' w' hw' hL => by
    have := wpAny_of_seq ((o0 :: l).drop n) n listed a' w' (fun j => by simp) (by rw [hdl]; exact hL.1) (hL.2 w' hw')
    rw [hdl] at this
    exact this) _ _ _ _ hC H
  rw [htl] at this
  have h2 := wpAny_take (Q := Q) (i := 0) (oi := o0) (v := v0) (by simp) hsel hf0 hr0 hQ hy this
  rw [show n - 1 + ((o0 :: l).toArray.size - n) + 1 = (o0 :: l).toArray.size by simp; omega] at h2
  exact h2
theorem wp_region_take_tail_below {id : Nat} {Q : Exit → Act → World → Prop} {a : Act} {w : World} {o0 : Oper} {l : List Oper} (v0 : Value) (n : Nat) (hm : P.follows .mixedOrders = true) (hB : lexTailF (o0 :: l).toArray n = true)
    (hQ : ∀ c a w, Q (.panic c) (a.put o0.dst v0) w → Q (.panic c) a w) (hy : Yields P (o0 :: l).toArray o0 v0 a)
    (h : wpQuiet P (o0 :: l).toArray (fun w' => ∃ p : Regrown, w' = grow (redrawn w p.d) p.os) (fun a' => ∀ w', (∃ p : Regrown, w' = grow (redrawn w p.d) p.os) → wpList P (o0 :: l).toArray Q ((o0 :: l).drop n) a' w') (l.take (n - 1)) (a.put o0.dst v0)) : (Code.region id (o0 :: l).toArray true).wp P Q a w :=
  wp_region_take_tail n hm hB hQ hy ⟨⟨w.drawn + 1, #[]⟩, by rw [grow_empty]; rfl⟩ h
end
end Go.Proofs.YtnmpfmelaninbaaGreatDoor
namespace Go.Proofs.YtnmpfmelaninbaaGreatDoor
open Go.RowKit Go.Sort
theorem ba_append (a b : List UInt8) : (ByteArray.mk a.toArray) ++ (ByteArray.mk b.toArray) = ⟨(a ++ b).toArray⟩ := by
  apply ByteArray.ext
  simp [ByteArray.data_append]
def dashB (s : List UInt8) : List UInt8 := if s.isEmpty then [45] else s
def cat (a b : List UInt8) : List UInt8 := a ++ b
theorem cat_len (a b : List UInt8) : (cat a b).length = a.length + b.length := by simp [cat]
theorem ba_cat (a b : List UInt8) : (ByteArray.mk a.toArray) ++ (ByteArray.mk b.toArray) = ⟨(cat a b).toArray⟩ := ba_append a b
attribute [local go_sem] ba_append
theorem callG {P : Program} {f : FuncId} {args : Array Value} {W : World} {v : Value} (h : Calls P f args W fun e w' => e = .returned v ∧ ∃ k os, w' = grow (W.drewN k) os) : Calls P f args W (Ret W v) :=
  h.mono fun e w' ⟨he, k, os, hw⟩ => ⟨he, by rw [hw]; exact below_regrown W (W.drawn + k) os⟩
theorem itoa_len (n : Int) (h0 : -9223372036854775808 ≤ n) (h1 : n ≤ 9223372036854775807) : (Lib.itoa n).length ≤ 21 := Lib.itoa_length_le n h0 h1
theorem fmt_any (n : Int) (h0 : -9223372036854775808 ≤ n) (h1 : n ≤ 9223372036854775807) (w : World) (hL : Laid w) : Calls Tryz.prog 94 #[.int .i64 n, .int .i64 10] w (Ret w (.string ⟨(Lib.itoa n).toArray⟩)) :=
  callG (Tryz.strconv_FormatInt_10 n h0 h1 w hL.pow10)
theorem itoa_any (n : Int) (h0 : -9223372036854775808 ≤ n) (h1 : n ≤ 9223372036854775807) (w : World) (hL : Laid w) : Calls Tryz.prog 91 #[.int .i64 n] w (Ret w (.string ⟨(Lib.itoa n).toArray⟩)) :=
  callG (Tryz.strconv_Itoa n h0 h1 w hL.pow10)
def i64 (n : Int) : Prop := -9223372036854775808 ≤ n ∧ n ≤ 9223372036854775807
end Go.Proofs.YtnmpfmelaninbaaGreatDoor
namespace Go.Proofs.YtnmpfmelaninbaaGreatDoor
open Go.RowKit Go.Sort
attribute [local go_sem] bit_eq bit_ne ba_append
end Go.Proofs.YtnmpfmelaninbaaGreatDoor
namespace Go.Proofs.YtnmpfmelaninbaaGreatDoor
open Go.RowKit Go.Sort
set_option maxRecDepth 100000
attribute [local go_sem] ba_cat cat_len
end Go.Proofs.YtnmpfmelaninbaaGreatDoor
namespace Go.Proofs.YtnmpfmelaninbaaGreatDoor
open Go.RowKit Go.Sort
set_option maxRecDepth 100000
theorem plainB_pos (l : List UInt8) (h : 0 < l.length) : plainB l = ((decide (l.length ≤ 1) || decide (l[0].toNat ≠ 48)) && l.all isD) := by
  match l, h with
  | [c], _ => simp [plainB]
  | c :: d :: r, _ =>
    have e : (c != 48) = decide (c.toNat ≠ 48) := by
      rw [Bool.eq_iff_iff]
      simp only [bne_iff_ne, decide_eq_true_eq]
      exact not_congr ⟨fun e => by rw [e]; rfl, fun e => UInt8.toNat_inj.1 e⟩
    simp [plainB, e]
theorem plain_any (l : List UInt8) (w : World) (hl : l.length ≤ 4611686018427387904) : Calls Tryz.prog 178 #[.string ⟨l.toArray⟩] w (RetP w (.bool (plainB l))) := by
  by_cases h0 : 0 < l.length
  · have hs := Lib.hid (plainB_pos l h0)
    have hne : ¬ l = [] := by rintro rfl; simp at h0
    have h1 : ((l.length : Int) == 0) = false := by simp [hne]
    go_enter Tryz.func178, Tryz.ntmps178
    go_wp2
    all_goals try (go_ret; exact RetP.bool (by rw [hs.out]; grind) rfl)
    all_goals
      go_loop [19] (fun i => ∃ k : Nat, k ≤ l.length ∧ i = .int .i64 k ∧ plainB l = (l.drop k).all isD) (fun i => l.length - (intOf i).toNat)
      case atStart => exact ⟨0, by omega, rfl, by rw [hs.out]; grind⟩
      case round =>
        obtain ⟨k, hk, rfl, hq⟩ := hrel
        have HQ := Lib.hid hq; clear hq
        by_cases hlt : k < l.length
        · have hd := Lib.hid (all_drop isD l k hlt)
          go_wp2
          all_goals first
            | (go_ret; exact RetP.bool (by rw [HQ.out, hd.out]; grind [isD]) rfl)
            | (go_round
               case rel =>
                 first | refine ⟨_, _, _, ⟨k + 1, ?_, ?_, ?_⟩, rfl, rfl, rfl⟩ | refine ⟨k + 1, ?_, ?_, ?_⟩
                 · omega
                 · go_num
                 · rw [HQ.out, hd.out]; clear hs; grind [isD]
               case measure => simp [intOf]; omega)
        · go_wp2
          go_ret
          exact RetP.bool (by rw [HQ.out, List.drop_of_length_le (by omega)]; rfl) rfl
  · obtain rfl : l = [] := by cases l <;> simp_all
    go_enter Tryz.func178, Tryz.ntmps178
    go_wp2
    go_ret
    exact RetP.bool (by simp [plainB]) rfl
def numS (l : List UInt8) : Int × Bool := if l.all isD then ((val l : Int), true) else (0, false)
abbrev numVal (x : Int × Bool) : Value := .tuple #[.int .i64 x.1, .bool x.2]
theorem RetP.num {w w' : World} {n : Int} {b : Bool} {x : Int × Bool} (h : x = (n, b)) (hw : w = w') : RetP w (numVal x) (.returned (.tuple #[.int .i64 n, .bool b])) w' := ⟨by rw [h], hw⟩
theorem val_take_succ (l : List UInt8) (k : Nat) (h : k < l.length) : val (l.take (k + 1)) = 10 * val (l.take k) + (l[k].toNat - 48) := by
  rw [List.take_succ_eq_append_getElem h, val_snoc]
theorem val_take_lt (l : List UInt8) (k : Nat) (hk : k ≤ 17) (h : (l.take k).all isD = true) : val (l.take k) < 100000000000000000 := by
  have h1 := val_lt _ h
  have h2 : 10 ^ (l.take k).length ≤ 10 ^ 17 := Nat.pow_le_pow_right (by decide) (by have := List.length_take_le k l; omega)
  have h3 : (10 : Nat) ^ 17 = 100000000000000000 := by decide
  omega
theorem all_take_false {l : List UInt8} {k : Nat} (h : k < l.length) (hd : isD l[k] = false) : l.all isD = false := by
  rw [List.all_eq_false]
  exact ⟨l[k], List.getElem_mem h, by simp [hd]⟩
theorem number_any (l : List UInt8) (w : World) (hl : l.length ≤ 16) : Calls Tryz.prog 241 #[.string ⟨l.toArray⟩] w (RetP w (numVal (numS l))) := by
  go_enter Tryz.func241, Tryz.ntmps241
  go_wp2
  go_loop [4, 8] (fun n i => ∃ k : Nat, k ≤ l.length ∧ i = .int .i64 k ∧ n = .int .i64 (val (l.take k) : Nat) ∧ (l.take k).all isD = true) (fun _ i => l.length - (intOf i).toNat)
  case atStart => exact ⟨0, by omega, rfl, by simp [val, numV_nil], by simp⟩
  case round =>
    obtain ⟨k, hk, rfl, rfl, ha⟩ := hrel
    have hv := val_take_lt l k (by omega) ha
    by_cases hlt : k < l.length
    · have HS := Lib.hid (val_take_succ l k hlt)
      have HA := Lib.hid (take_all_succ isD l k hlt ha)
      have HF := Lib.hid (fun hd => all_take_false (l := l) hlt hd)
      clear ha
      generalize val (l.take k) = m at hv HS ⊢
      go_wp2
      all_goals first
        | (go_ret2; refine RetP.num ?_ rfl; have := HF.out (by grind [isD]); simp [numS, this])
        | (go_round
           case rel => exact ⟨k + 1, by omega, by go_num, by rw [HS.out]; congr 1; omega, HA.out (by grind [isD])⟩
           case measure => simp [intOf]; omega)
    · rw [List.take_of_length_le (by omega)] at ha
      have HA := Lib.hid ha; clear ha
      have HT := Lib.hid (List.take_of_length_le (l := l) (i := k) (by omega))
      generalize l.take k = t at hv HT ⊢
      go_wp2
      go_ret2
      refine RetP.num ?_ rfl
      have := HA.out
      rw [HT.out]
      simp [numS, this]
end Go.Proofs.YtnmpfmelaninbaaGreatDoor
namespace Go.Proofs.YtnmpfmelaninbaaGreatDoor
open Go.RowKit Go.Sort
set_option maxRecDepth 100000
def digW : Nat → Nat → List UInt8
  | 0, _ => []
  | k + 1, n => digW k (n / 10) ++ [dg (n % 10)]
theorem digW_len (k n : Nat) : (digW k n).length = k := by
  induction k generalizing n with
  | zero => rfl
  | succ k ih => simp [digW, ih]
attribute [local go_sem] ba_cat cat_len
theorem alloc_below (w : World) (o : Obj) : Below w.heap.size w (w.alloc o) := (Below.refl _ _).alloc (Nat.le_refl _) _
end Go.Proofs.YtnmpfmelaninbaaGreatDoor
namespace Go.Proofs.YtnmpfmelaninbaaGreatDoor
open Go.RowKit
set_option maxRecDepth 100000
def bval (c : UInt8) : Value := .int .u8 c.toNat
def bvals (l : List UInt8) : List Value := l.map bval
def BOut (B : Nat) (W : World) (v : Value) (l : List UInt8) : Prop := W.ownsRow B 5 1 v l.length (bvals l)
theorem BOut.nil (B : Nat) (W : World) : BOut B W (.slice none 0 0) [] := ⟨rfl, .inl ⟨rfl, rfl⟩⟩
theorem info_u8 : (Tryz.prog.info? 5).map (fun i => (i.zero, i.size, i.bytes)) = some (some (.int .u8 0), 1, 1) := by kernel_rfl
theorem wpList_append_bout {ops : Array Oper} {rest : List Oper} {op : Oper} {a : Act} {Q : Exit → Act → World → Prop} {B : Nat} {W : World} {v : Value} {l : List UInt8} (hgd : op.guard = none) (s x : Operand)
    (ho : op.op = .call { callee := .builtin .append, args := #[s, x], argTypes := #[89, 89] }) (h : BOut B W v l) (hs : a.eval s = v) (t : UInt8) (g c : Nat)
    (hx : a.eval x = .slice (some ⟨g, 0, none⟩) 1 c) (hg : W.cell? ⟨g, 0, none⟩ = some (bval t)) (hn : l.length + 1 ≤ 10000000) (hb : B ≤ W.heap.size)
    (k : ∀ v' W', BOut B W' v' (l ++ [t]) → W.grownBy W' v.ownBlock → wpList Tryz.prog ops Q rest (a.put op.dst v') W') : wpList Tryz.prog ops Q (op :: rest) a W := by
  obtain ⟨i0, hi, hz0, hz1, hz2⟩ := info_parts info_u8
  refine wpList_append_own W hgd s x 89 ho B 5 i0 _ 1 1 Tryz.underlying89 hi hz0 hz1 hz2 rfl (by omega) v l.length (bvals l) hs h ⟨g, 0, none⟩ 1 c [bval t] hx rfl ?_ (by simp [bval, Value.oneCell']) (by unfold maxLen; omega) (by omega) hb ?_
  · intro j u hu
    match j, hu with
    | 0, hu => rw [addr_add, Nat.zero_add, hg]; simpa using hu
    | j + 1, hu => simp at hu
  · intro v' W' h1 h2 _
    refine k v' W' ?_ h2
    unfold BOut
    rw [List.length_append, bvals, List.map_append]
    exact h1
theorem below_bgrown {B : Nat} {w0 W W' : World} {v : Value} {l : List UInt8} (hB : Below B w0 W) (hle : B ≤ W.heap.size) (hO : BOut B W v l) (hg : W.grownBy W' v.ownBlock) : Below B w0 W' := by
  refine hB.grown hg hle ?_
  intro g he
  rcases hO.2 with ⟨rfl, _⟩ | ⟨g', cap, cur, rfl, hgb, _⟩
  · simp [Value.ownBlock] at he
  · have : g' = g := by simpa [Value.ownBlock] using he
    omega
def RetB (B : Nat) (w : World) (l : List UInt8) (e : Ending) (w' : World) : Prop := ∃ v, e = .returned v ∧ BOut B w' v l ∧ Below B w w' ∧ B ≤ w'.heap.size
theorem BOut.form {B : Nat} {W : World} {v : Value} {l : List UInt8} (h : BOut B W v l) : ∃ A c, v = .slice A l.length c := by
  obtain ⟨hl, h⟩ := h
  rcases h with ⟨rfl, h0⟩ | ⟨g, cap, cur, rfl, hg, hb, hn, _, hsz, hc⟩
  · exact ⟨none, 0, by rw [h0]⟩
  · exact ⟨_, _, rfl⟩
theorem set_digit (l : List UInt8) (m : Nat) (d : UInt8) (r : List UInt8) : (bvals (l ++ List.replicate (m + 1) 48 ++ r)).set (l.length + m) (bval d) = bvals (l ++ List.replicate m 48 ++ (d :: r)) := by
  rw [List.replicate_succ']
  unfold bvals
  simp only [List.map_append, List.map_cons, List.map_nil, List.append_assoc]
  rw [List.set_append_right _ _ (by simp), List.set_append_right _ _ (by simp)]
  simp
theorem BOut.some {B : Nat} {W : World} {v : Value} {l : List UInt8} (h : BOut B W v l) (h0 : 0 < l.length) : ∃ g cap, v = .slice (.some ⟨g, 0, none⟩) l.length cap ∧ B ≤ g := by
  obtain ⟨hl, h⟩ := h
  rcases h with ⟨rfl, h1⟩ | ⟨g, cap, cur, rfl, hg, hb, hn, _, hsz, hc⟩
  · omega
  · exact ⟨g, cap, rfl, hg⟩
theorem BOut.cellAt {B g n cap : Nat} {W : World} {l : List UInt8} (h : BOut B W (.slice (.some ⟨g, 0, none⟩) n cap) l) (hn : n = l.length) (j : Nat) (hj : j < l.length) : W.cell? ⟨g, j, none⟩ = .some (bval l[j]) := by
  subst hn
  rw [World.ownsRow.cellAt h j (by omega)]
  simp [bvals, hj]
theorem BOut.stored {B g n cap : Nat} {W : World} {l l' : List UInt8} (h : BOut B W (.slice (.some ⟨g, 0, none⟩) n cap) l) (hn : n = l.length) (hB : B ≤ g) (j : Nat) (d : UInt8) (he : (bvals l).set j (bval d) = bvals l') (hl : l'.length = l.length) : BOut B (W.setCell ⟨g, j, none⟩ (bval d)) (.slice (.some ⟨g, 0, none⟩) n cap) l' := by
  subst hn
  have := (World.ownsRow.stored h j (bval d)).1
  rw [he] at this
  unfold BOut
  rw [hl]
  exact this
theorem conv_bout {B : Nat} {W : World} {v : Value} {l : List UInt8} (h : BOut B W v l) : (convert 89 9 v).run Tryz.prog W = .ok (.string ⟨l.toArray⟩) W := by
  rcases Nat.eq_zero_or_pos l.length with h0 | h0
  · obtain rfl : l = [] := List.eq_nil_of_length_eq_zero h0
    obtain ⟨hl, h⟩ := h
    rcases h with ⟨rfl, h1⟩ | ⟨g, cap, cur, rfl, hg, hb, hn, _, hsz, hc⟩
    · exact run_convert_bytes_nil W 89 5 Tryz.underlying89 Tryz.underlying5 0 0 9 Tryz.underlying9
    · exact run_convert_bytes_arg W 89 5 Tryz.underlying89 Tryz.underlying5 g 0 0 cap [] rfl (by intro i hi; omega) 9 Tryz.underlying9
  · obtain ⟨g, cap, rfl, hB⟩ := h.some h0
    rw [run_convert_bytes_arg W 89 5 Tryz.underlying89 Tryz.underlying5 g 0 l.length cap (l.map fun c => (c.toNat : Int)) (by simp) (by
      intro i hi
      rw [Nat.zero_add, h.cellAt rfl i hi]
      simp [bval, hi]) 9 Tryz.underlying9]
    unfold strOfNums
    rw [List.map_map]
    congr 3
    have : (fun n : Int => UInt8.ofNat n.toNat) ∘ (fun c : UInt8 => (c.toNat : Int)) = id := by
      funext c; simp
    rw [this, List.map_id]
end Go.Proofs.YtnmpfmelaninbaaGreatDoor
namespace Go.Proofs.YtnmpfmelaninbaaGreatDoor
open Go.RowKit Go.Sort
set_option maxRecDepth 100000
set_option maxHeartbeats 2000000 in
theorem adigits_any (B : Nat) (v : Value) (l : List UInt8) (n : Int) (c : Nat) (w : World) (hO : BOut B w v l) (hle : B ≤ w.heap.size) (h0 : 0 ≤ n) (h1 : n ≤ 9223372036854775807) (hc0 : 0 < c) (hc : c ≤ 100) (hl : l.length ≤ 1000) : Calls Tryz.prog 229 #[v, .int .i64 n, .int .i64 c] w (RetB B w (l ++ digW c n.toNat)) := by
  obtain ⟨A0, c0, rfl⟩ := hO.form
  have HO := Lib.hid hO; clear hO
  go_enter Tryz.func229, Tryz.ntmps229
  go_wp2
  go_loopw [0, 12] (fun s i W => ∃ (k : Nat), k ≤ c ∧ i = .int .i64 k ∧ BOut B W s (l ++ List.replicate k 48) ∧ Below B w W ∧ B ≤ W.heap.size) (fun _ i _ => c - (intOf i).toNat)
  case atStart => exact ⟨0, by omega, rfl, by simpa using HO.out, Below.refl _ _, hle⟩
  case round =>
    obtain ⟨k, hk, rfl, hO, hB, hle'⟩ := hrel
    by_cases hlt : k < c
    · have O1 := Lib.hid (World.ownsRow.alloc hO (.cells #[.int .u8 48] 5))
      have B1 := Lib.hid (hB.alloc hle' (.cells #[.int .u8 48] 5))
      have HO := Lib.hid hO; clear hO
      go_wp2_with (at_builtin; refine wpList_append_bout rfl (.tmp 14) (.tmp 15) rfl O1.out rfl 48 _ _ rfl (cell_of_row _ _ 0 #[.int .u8 48] _ _ (heap_alloc_new _ _)) (by simp; omega) (by simp; omega) ?_; intro v2 W2 hO2 hg2)
      have hz := hg2.size
      go_roundw
      case rel => exact ⟨k + 1, by omega, by go_num, by rw [List.replicate_succ', ← List.append_assoc]; exact hO2, below_bgrown B1.out (by simp; omega) O1.out hg2, by simp at hz; omega⟩
      case measure => simp [intOf]; omega
    · obtain rfl : k = c := by omega
      obtain ⟨g, cap, rfl, hBg⟩ := hO.some (by simp; omega)
      simp only [List.length_append, List.length_replicate] at hO ⊢
      obtain ⟨N, hN⟩ : ∃ N : Nat, N = l.length + k := ⟨_, rfl⟩
      rw [← hN] at hO ⊢
      have HO2 := Lib.hid hO; clear hO HO
      have n1 : 1 ≤ N := by omega
      have n2 : N ≤ 2000 := by omega
      have n3 : ((N : Int) - 1) = (l.length : Int) + (k : Int) - 1 := by omega
      have HN := Lib.hid hN; clear hN
      have HN3 := Lib.hid n3; clear n3
      go_wp2
      go_loopw [1, 8] (fun x i W => ∃ (m : Nat) (u : Int) (r : List UInt8), m ≤ k ∧ 0 ≤ u ∧ u ≤ 9223372036854775807 ∧ x = .int .i64 u ∧ i = .int .i64 ((l.length : Int) + m - 1) ∧ BOut B W (.slice (some ⟨g, 0, none⟩) N cap) (l ++ List.replicate m 48 ++ r) ∧ m + r.length = k ∧ digW k n.toNat = digW m u.toNat ++ r ∧ Below B w W ∧ B ≤ W.heap.size) (fun _ i _ => (intOf i + 1).toNat)
      case atStart => exact ⟨k, n, [], by omega, h0, h1, rfl, by rw [HN3.out], by simpa using HO2.out, by simp, by simp, hB, hle'⟩
      case round =>
        obtain ⟨m, u, r, hm, hu0, hu, rfl, rfl, hO, hr, hq, hB, hle'⟩ := hrel
        have HQ := Lib.hid hq; clear hq
        cases m with
        | zero =>
          have HO := Lib.hid hO; clear hO
          go_wp2
          go_ret
          refine ⟨_, rfl, ?_, hB, hle'⟩
          rw [HQ.out]
          simpa [digW] using HO.out
        | succ m =>
          have hlen : N = (l ++ List.replicate (m + 1) 48 ++ r).length := by have := HN.out; simp; omega
          have c1 := hO.cellAt hlen (l.length + m) (by simp; omega)
          have f1 : wr.frozen? ⟨g, l.length + m, none⟩ = false := World.ownsRow.frozenAt (by rw [hlen] at hO; exact hO) _
          have hbd : Value.int .u8 (48 + u % 10) = bval (dg (u % 10).toNat) := by unfold bval; rw [dg_toNat (by omega)]; congr 1; omega
          have hS := Lib.hid (hO.stored hlen hBg (l.length + m) (dg (u % 10).toNat) (set_digit l m (dg (u % 10).toNat) r) (by simp; omega))
          have HBD := Lib.hid hbd; clear hbd
          unfold bval at c1
          obtain ⟨X, hX⟩ : ∃ X : Int, X = ((l ++ List.replicate (m + 1) 48 ++ r)[l.length + m]'(by simp; omega)).toNat := ⟨_, rfl⟩
          rw [← hX] at c1
          clear hX
          have HO := Lib.hid hO; clear hO
          have hj : (l.length : Int) + ((m + 1 : Nat) : Int) - 1 = ((l.length + m : Nat) : Int) := by omega
          rw [hj]
          clear hj
          have HD := Lib.hid (show digW (m + 1) u.toNat = digW m (u / 10).toNat ++ [dg (u % 10).toNat] by rw [digW, show u.toNat / 10 = (u / 10).toNat by omega, show u.toNat % 10 = (u % 10).toNat by omega])
          obtain ⟨J, hJ⟩ : ∃ J : Nat, J = l.length + m := ⟨_, rfl⟩
          rw [← hJ] at c1 f1 hS ⊢
          have q1 : l.length ≤ J := by omega
          have q2 : J < N := by have := HN.out; omega
          have q3 : (J : Int) < (N : Int) := by omega
          have HL := Lib.hid hlen; clear hlen
          have HJ := Lib.hid hJ; clear hJ
          go_wp2
          go_roundw
          case rel => exact ⟨m, u / 10, dg (u % 10).toNat :: r, by omega, by omega, by omega, rfl, (by have := HJ.out; go_num), (by rw [HBD.out]; exact hS.out), by simp; omega, by rw [HQ.out, HD.out]; simp, hB.setCell (by simpa using hBg) _, by simpa using hle'⟩
          case measure => simp [intOf]
def exactS (a : Nat) : List UInt8 := digW 3 (a / 360000) ++ digW 2 (a % 360000 / 6000) ++ digW 2 (a % 6000 / 100) ++ digW 2 (a % 100)
theorem exactS_len (a : Nat) : (exactS a).length = 9 := by simp [exactS, digW_len]
set_option maxHeartbeats 2000000 in
theorem asplit_any (a : Int) (w : World) (h0 : 0 ≤ a) (h1 : a < 129600000) : Calls Tryz.prog 166 #[.slice none 0 0, .int .i64 a, .int .i64 3] w (RetB w.heap.size w (exactS a.toNat)) := by
  go_enter Tryz.func166, Tryz.ntmps166
  go_wp2_with fail
  refine (adigits_any w.heap.size (.slice none 0 0) [] (a / 360000) 3 w (BOut.nil _ _) (Nat.le_refl _) (by omega) (by omega) (by decide) (by decide) (by decide)).mono ?_
  rintro e w1 ⟨v1, rfl, O1, B1, L1⟩
  go_wp2_with fail
  refine (adigits_any w.heap.size v1 _ (a % 360000 / 6000) 2 w1 O1 L1 (by omega) (by omega) (by decide) (by decide) (by simp [digW_len])).mono ?_
  rintro e w2 ⟨v2, rfl, O2, B2, L2⟩
  go_wp2_with fail
  refine (adigits_any w.heap.size v2 _ (a % 6000 / 100) 2 w2 O2 L2 (by omega) (by omega) (by decide) (by decide) (by simp [digW_len])).mono ?_
  rintro e w3 ⟨v3, rfl, O3, B3, L3⟩
  go_wp2_with fail
  refine (adigits_any w.heap.size v3 _ (a % 100) 2 w3 O3 L3 (by omega) (by omega) (by decide) (by decide) (by simp [digW_len])).mono ?_
  rintro e w4 ⟨v4, rfl, O4, B4, L4⟩
  go_wp2
  go_ret
  refine ⟨v4, rfl, ?_, ((B1.trans B2).trans B3).trans B4, L4⟩
  have e1 : exactS a.toNat = [] ++ digW 3 (a / 360000).toNat ++ digW 2 (a % 360000 / 6000).toNat ++ digW 2 (a % 6000 / 100).toNat ++ digW 2 (a % 100).toNat := by
    unfold exactS
    rw [show a.toNat / 360000 = (a / 360000).toNat by omega, show a.toNat % 360000 / 6000 = (a % 360000 / 6000).toNat by omega, show a.toNat % 6000 / 100 = (a % 6000 / 100).toNat by omega, show a.toNat % 100 = (a % 100).toNat by omega]
    simp
  rw [e1]
  exact O4
theorem norm_any (a : Int) (w : World) (h0 : 0 ≤ a) (h1 : a < 129600000) : Calls Tryz.prog 167 #[.int .i64 a] w (RetP w (.int .i64 a)) := by
  have h2 : a % 129600000 = a := by omega
  go_enter Tryz.func167, Tryz.ntmps167
  go_wp2
  go_ret
  exact RetP.int (by omega) rfl
theorem exact_any (a : Int) (w : World) (h0 : 0 ≤ a) (h1 : a < 129600000) : Calls Tryz.prog 95 #[.int .i64 a] w (Ret w (.string ⟨(exactS a.toNat).toArray⟩)) := by
  go_enter Tryz.func95, Tryz.ntmps95
  go_wp2_with (go_at_call 167; refine callP (norm_any _ _ h0 h1) ?_)
  refine (asplit_any a w h0 h1).mono ?_
  rintro e w1 ⟨v1, rfl, O1, B1, L1⟩
  have e1 := conv_bout O1
  go_wp2
  go_ret
  exact Ret.str rfl B1
end Go.Proofs.YtnmpfmelaninbaaGreatDoor
namespace Go.Proofs.YtnmpfmelaninbaaGreatDoor
open Go.RowKit Go.Sort
set_option maxRecDepth 100000
attribute [local go_sem] ba_cat cat_len
def angP (l : List UInt8) : Int × Bool :=
  if l.length = 9 ∧ l.all isD = true ∧ val ((l.drop 3).take 2) < 60 ∧ val ((l.drop 5).take 2) < 60 then
    ((val (l.take 3) : Int) * 360000 + (val ((l.drop 3).take 2) : Int) * 6000 + (val ((l.drop 5).take 2) : Int) * 100 + (val (l.drop 7) : Int), true) else (0, false)
theorem nine {l : List UInt8} (h : l.length = 9) : ∃ c0 c1 c2 c3 c4 c5 c6 c7 c8, l = [c0, c1, c2, c3, c4, c5, c6, c7, c8] := by
  match l, h with
  | [c0, c1, c2, c3, c4, c5, c6, c7, c8], _ => exact ⟨c0, c1, c2, c3, c4, c5, c6, c7, c8, rfl⟩
theorem angP_len {l : List UInt8} (h : l.length ≠ 9) : angP l = (0, false) := by unfold angP; rw [if_neg (fun x => h x.1)]
theorem numS_bd (l : List UInt8) (h : l.length ≤ 3) : 0 ≤ (numS l).1 ∧ (numS l).1 < 1000 := by
  unfold numS
  split
  · rename_i ha
    have h1 := val_lt l ha
    have h2 : 10 ^ l.length ≤ 10 ^ 3 := Nat.pow_le_pow_right (by decide) h
    simp only
    omega
  · simp
theorem numS_yes {l : List UInt8} (h : l.all isD = true) : numS l = ((val l : Int), true) := by unfold numS; rw [if_pos h]
theorem numS_snd (l : List UInt8) : (numS l).2 = l.all isD := by
  unfold numS
  split
  · rename_i h; rw [h]
  · rename_i h; simpa using h
theorem angP_nine (c0 c1 c2 c3 c4 c5 c6 c7 c8 : UInt8) : angP [c0, c1, c2, c3, c4, c5, c6, c7, c8] =
    if (numS [c0, c1, c2]).2 = true ∧ (numS [c3, c4]).2 = true ∧ (numS [c5, c6]).2 = true ∧ (numS [c7, c8]).2 = true ∧ (numS [c3, c4]).1 < 60 ∧ (numS [c5, c6]).1 < 60 then
      ((numS [c0, c1, c2]).1 * 360000 + (numS [c3, c4]).1 * 6000 + (numS [c5, c6]).1 * 100 + (numS [c7, c8]).1, true) else (0, false) := by
  simp only [numS_snd]
  unfold angP
  simp only [List.length_cons, List.length_nil, List.all_cons, List.all_nil, Bool.and_true, Bool.and_eq_true, List.drop, List.take, true_and]
  by_cases ha : ((isD c0 = true ∧ isD c1 = true ∧ isD c2 = true) ∧ (isD c3 = true ∧ isD c4 = true) ∧ (isD c5 = true ∧ isD c6 = true) ∧ isD c7 = true ∧ isD c8 = true)
  · obtain ⟨⟨a0, a1, a2⟩, ⟨a3, a4⟩, ⟨a5, a6⟩, a7, a8⟩ := ha
    rw [numS_yes (l := [c0, c1, c2]) (by simp [*]), numS_yes (l := [c3, c4]) (by simp [*]), numS_yes (l := [c5, c6]) (by simp [*]), numS_yes (l := [c7, c8]) (by simp [*])]
    simp only [a0, a1, a2, a3, a4, a5, a6, a7, a8, true_and, Int.ofNat_lt, and_self]
    by_cases hm : val [c3, c4] < 60 ∧ val [c5, c6] < 60
    · rw [if_pos hm, if_pos (by omega)]
    · rw [if_neg hm, if_neg (by omega)]
  · rw [if_neg (by intro h; exact ha (by simp only [h, and_self])), if_neg (by intro h; exact ha ⟨h.1, h.2.1, h.2.2.1, h.2.2.2.1⟩)]
end Go.Proofs.YtnmpfmelaninbaaGreatDoor
namespace Go.Proofs.YtnmpfmelaninbaaGreatDoor
open Go.RowKit Go.Sort
set_option maxRecDepth 100000
set_option maxHeartbeats 4000000 in
theorem join_ang (l : List UInt8) (w : World) (hl : l.length ≤ 4611686018427387904) : Calls Tryz.prog 177 #[.string ⟨l.toArray⟩, .int .i64 3] w (RetP w (numVal (angP l))) := by
  by_cases h9 : l.length = 9
  · obtain ⟨c0, c1, c2, c3, c4, c5, c6, c7, c8, rfl⟩ := nine h9
    clear hl h9
    have k0 := Lib.hid (number_any [c0, c1, c2, c3, c4, c5, c6, c7, c8] w (by simp))
    have k1 := Lib.hid (number_any [c0, c1, c2] w (by simp))
    have k2 := Lib.hid (number_any [c3, c4] w (by simp))
    have k3 := Lib.hid (number_any [c5, c6] w (by simp))
    have k4 := Lib.hid (number_any [c7, c8] w (by simp))
    have d1 := numS_bd [c0, c1, c2] (by simp)
    have d2 := numS_bd [c3, c4] (by simp)
    have d3 := numS_bd [c5, c6] (by simp)
    have d4 := numS_bd [c7, c8] (by simp)
    have HA := Lib.hid (angP_nine c0 c1 c2 c3 c4 c5 c6 c7 c8)
    have H0 := Lib.hid (show (numS [c0, c1, c2, c3, c4, c5, c6, c7, c8]).2 = ((numS [c0, c1, c2]).2 && (numS [c3, c4]).2 && (numS [c5, c6]).2 && (numS [c7, c8]).2) by simp [numS_snd, Bool.and_assoc])
    generalize numS [c0, c1, c2, c3, c4, c5, c6, c7, c8] = x0 at k0 H0
    generalize numS [c0, c1, c2] = x1 at k1 d1 HA H0
    generalize numS [c3, c4] = x2 at k2 d2 HA H0
    generalize numS [c5, c6] = x3 at k3 d3 HA H0
    generalize numS [c7, c8] = x4 at k4 d4 HA H0
    obtain ⟨n0, b0⟩ := x0
    obtain ⟨n1, b1⟩ := x1
    obtain ⟨n2, b2⟩ := x2
    obtain ⟨n3, b3⟩ := x3
    obtain ⟨n4, b4⟩ := x4
    simp only at d1 d2 d3 d4
    obtain ⟨d1, d1'⟩ := d1
    obtain ⟨d2, d2'⟩ := d2
    obtain ⟨d3, d3'⟩ := d3
    obtain ⟨d4, d4'⟩ := d4
    go_enter Tryz.func177, Tryz.ntmps177
    go_wp2_with (go_at_call 241; first | (with_reducible refine callP k0.out ?_) | (with_reducible refine callP k1.out ?_) | (with_reducible refine callP k2.out ?_) | (with_reducible refine callP k3.out ?_) | (with_reducible refine callP k4.out ?_))
    all_goals
      go_ret2
      refine RetP.num ?_ rfl
      rw [HA.out]
      have h0 := H0.out
      first
        | (rw [if_pos (by grind)]; done)
        | (rw [if_neg (by grind)]; done)
  · have h9' : ((l.length : Int) == 9) = false := by
      rw [beq_eq_false_iff_ne]; omega
    have h9n : ((l.length : Int) != 9) = true := by simp only [bne, h9']; rfl
    have HA := Lib.hid (angP_len h9)
    go_enter Tryz.func177, Tryz.ntmps177
    go_wp2
    all_goals
      go_ret2
      exact RetP.num HA.out rfl
def parseExS (l : List UInt8) : Int × Int := if (angP l).2 = true then (if (angP l).1 < 129600000 then ((angP l).1, 0) else (0, 2)) else (0, 4)
abbrev intsVal (x : Int × Int) : Value := .tuple #[.int .i64 x.1, .int .i64 x.2]
theorem RetP.ints {w w' : World} {n b : Int} {x : Int × Int} (h : x = (n, b)) (hw : w = w') : RetP w (intsVal x) (.returned (.tuple #[.int .i64 n, .int .i64 b])) w' := ⟨by rw [h], hw⟩
theorem parseExact_any (l : List UInt8) (w : World) (hl : l.length ≤ 4611686018427387904) : Calls Tryz.prog 105 #[.string ⟨l.toArray⟩] w (RetP w (intsVal (parseExS l))) := by
  have k := Lib.hid (join_ang l w hl)
  have HE := Lib.hid (show parseExS l = _ from rfl)
  unfold parseExS at HE ⊢
  generalize angP l = x at k HE ⊢
  obtain ⟨n, b⟩ := x
  go_enter Tryz.func105, Tryz.ntmps105
  go_wp2_with (go_at_call 177; refine callP k.out ?_)
  all_goals
    go_ret2
    refine RetP.ints ?_ rfl
    grind
end Go.Proofs.YtnmpfmelaninbaaGreatDoor
namespace Go.Proofs.YtnmpfmelaninbaaGreatDoor
def altN (m : Nat) : List UInt8 := Lib.decDigits (m / 100) ++ if m % 100 = 0 then [] else 46 :: (Lib.decDigits (m % 100 / 10) ++ Lib.decDigits (m % 10))
def altS (a : Int) : List UInt8 := (if a < 0 then [45] else []) ++ altN a.natAbs
def altT (a : Int) : List UInt8 × Int := if -200000 ≤ a ∧ a ≤ 6000000 then (altS a, 0) else ([], 2)
theorem altT_out {a : Int} (h : ¬ (-200000 ≤ a ∧ a ≤ 6000000)) : altT a = ([], 2) := by unfold altT; rw [if_neg h]
theorem altT_in {a : Int} (h : -200000 ≤ a ∧ a ≤ 6000000) : altT a = (altS a, 0) := by unfold altT; rw [if_pos h]
theorem altS_pos {a : Int} (h : 0 ≤ a) : altS a = altN a.toNat := by unfold altS; rw [if_neg (by omega), show a.natAbs = a.toNat by omega]; rfl
theorem altS_neg {m : Int} (h : 0 < m) : altS (-m) = 45 :: altN m.toNat := by unfold altS; rw [if_pos (by omega), show (-m).natAbs = m.toNat by omega]; rfl
theorem altN_whole {m : Int} (h0 : 0 ≤ m) (h : m % 100 = 0) : altN m.toNat = Lib.decDigits (m / 100).toNat := by
  unfold altN; rw [if_pos (by omega), show m.toNat / 100 = (m / 100).toNat by omega]; simp
theorem altN_part {m : Int} (h0 : 0 ≤ m) (h : ¬ m % 100 = 0) : altN m.toNat = Lib.decDigits (m / 100).toNat ++ (46 :: (Lib.decDigits (m % 100 / 10).toNat ++ Lib.decDigits (m % 10).toNat)) := by
  unfold altN; rw [if_neg (by omega), show m.toNat / 100 = (m / 100).toNat by omega, show m.toNat % 100 / 10 = (m % 100 / 10).toNat by omega, show m.toNat % 10 = (m % 10).toNat by omega]
theorem altN_len {m : Nat} (h : m ≤ 6000000) : (altN m).length ≤ 12 := by
  have h1 : (Lib.decDigits (m / 100)).length ≤ 6 := dec_len (by decide) (by omega)
  have h2 : (Lib.decDigits (m % 100 / 10)).length ≤ 1 := dec_len (by decide) (by omega)
  have h3 : (Lib.decDigits (m % 10)).length ≤ 1 := dec_len (by decide) (by omega)
  unfold altN
  split <;> simp <;> omega
theorem altS_len {a : Int} (h0 : -200000 ≤ a) (h : a ≤ 6000000) : (altS a).length ≤ 13 := by
  have := altN_len (m := a.natAbs) (by omega)
  unfold altS
  split <;> simp <;> omega
def winS (lo hi : Int) : List UInt8 :=
  if lo = -200000 ∧ hi = 6000000 then [45] else if lo = hi then altS lo else if hi = 6000000 then altS lo ++ [43] else if lo = -200000 then altS hi ++ [45] else altS lo ++ (58 :: altS hi)
def winOk (lo hi : Int) : Prop := -200000 ≤ lo ∧ lo ≤ hi ∧ hi ≤ 6000000
instance (lo hi : Int) : Decidable (winOk lo hi) := by unfold winOk; infer_instance
def winT (lo hi : Int) : List UInt8 × Int := if winOk lo hi then (winS lo hi, 0) else ([], 1)
theorem winT_in {lo hi : Int} (h : winOk lo hi) : winT lo hi = (winS lo hi, 0) := by unfold winT; rw [if_pos h]
theorem winT_out {lo hi : Int} (h : ¬ winOk lo hi) : winT lo hi = ([], 1) := by unfold winT; rw [if_neg h]
theorem winS_len {lo hi : Int} (h : winOk lo hi) : (winS lo hi).length ≤ 27 := by
  obtain ⟨h1, h2, h3⟩ := h
  have a := altS_len h1 (by omega)
  have b := altS_len (a := hi) (by omega) h3
  unfold winS
  repeat' split
  all_goals simp
  all_goals omega
def distS (d : Nat) : List UInt8 := Lib.decDigits (d / 6000) ++ if d % 6000 = 0 then [] else 43 :: Lib.decDigits (d % 6000)
def distT (d : Int) : List UInt8 × Int := if 0 ≤ d ∧ d ≤ 8000000 then (distS d.toNat, 0) else ([], 2)
theorem distT_in {d : Int} (h : 0 ≤ d ∧ d ≤ 8000000) : distT d = (distS d.toNat, 0) := by unfold distT; rw [if_pos h]
theorem distT_out {d : Int} (h : ¬ (0 ≤ d ∧ d ≤ 8000000)) : distT d = ([], 2) := by unfold distT; rw [if_neg h]
theorem distS_whole {d : Int} (h0 : 0 ≤ d) (h : d % 6000 = 0) : distS d.toNat = Lib.decDigits (d / 6000).toNat := by
  unfold distS; rw [if_pos (by omega), show d.toNat / 6000 = (d / 6000).toNat by omega]; simp
theorem distS_part {d : Int} (h0 : 0 ≤ d) (h : ¬ d % 6000 = 0) : distS d.toNat = Lib.decDigits (d / 6000).toNat ++ (43 :: Lib.decDigits (d % 6000).toNat) := by
  unfold distS; rw [if_neg (by omega), show d.toNat / 6000 = (d / 6000).toNat by omega, show d.toNat % 6000 = (d % 6000).toNat by omega]
theorem distS_len {d : Nat} (h : d ≤ 8000000) : (distS d).length ≤ 10 := by
  have h1 : (Lib.decDigits (d / 6000)).length ≤ 4 := dec_len (by decide) (by omega)
  have h2 : (Lib.decDigits (d % 6000)).length ≤ 4 := dec_len (by decide) (by omega)
  unfold distS
  split <;> simp <;> omega
/-! What such texts mean. -/
def cutPre (c : UInt8) (l : List UInt8) : List UInt8 × Bool := match l with | x :: r => if x = c then (r, true) else (l, false) | [] => ([], false)
def cutSuf (c : UInt8) (l : List UInt8) : List UInt8 × Bool := if l.getLast? = some c then (l.dropLast, true) else (l, false)
def hundB : List UInt8 → Bool
  | [a, b] => isD a && isD b && !(a == 48 && b == 48)
  | _ => false
def feetV (feet : List UInt8) : Int := if feet.length < 10 then (val feet : Int) else 1099511627776
def altP3 (minus : Bool) (feet hund : List UInt8) (point : Bool) : Int × Bool :=
  if plainB feet = true ∧ (point = false ∨ hundB hund = true) then
    (if minus then (-(feetV feet * 100 + if point then (val hund : Int) else 0), decide (feetV feet * 100 + (if point then (val hund : Int) else 0) ≠ 0)) else (feetV feet * 100 + (if point then (val hund : Int) else 0), true))
  else (0, false)
def altP (s : List UInt8) : Int × Bool := altP3 (cutPre 45 s).2 (cutAt 46 (cutPre 45 s).1).1 (cutAt 46 (cutPre 45 s).1).2.1 (cutAt 46 (cutPre 45 s).1).2.2
def winP (s : List UInt8) : (Int × Int) × Bool :=
  if s = [45] then ((-200000, 6000000), true)
  else if (cutAt 58 s).2.2 then (((altP (cutAt 58 s).1).1, (altP (cutAt 58 s).2.1).1), (altP (cutAt 58 s).1).2 && (altP (cutAt 58 s).2.1).2)
  else if (cutSuf 43 s).2 then (((altP (cutSuf 43 s).1).1, 6000000), (altP (cutSuf 43 s).1).2)
  else if (cutSuf 45 s).2 then ((-200000, (altP (cutSuf 45 s).1).1), (altP (cutSuf 45 s).1).2)
  else (((altP s).1, (altP s).1), (altP s).2)
def rangedB (a : Int) : Bool := decide (-200000 ≤ a) && decide (a ≤ 6000000)
def parseWinS (s : List UInt8) : (Int × Int) × Int :=
  if (winP s).2 = true then
    if rangedB (winP s).1.1 = true ∧ rangedB (winP s).1.2 = true then
      if (winP s).1.2 < (winP s).1.1 then ((0, 0), 9) else if winS (winP s).1.1 (winP s).1.2 = s then ((winP s).1, 0) else ((0, 0), 4)
    else ((0, 0), 2)
  else ((0, 0), 4)
def restOk (r : List UInt8) : Bool := plainB r && !(r == [48]) && decide (r.length ≤ 4)
def distP3 (miles rest : List UInt8) (two : Bool) : Int × Int :=
  if plainB miles = true ∧ (two = false ∨ restOk rest = true) then
    if two = true ∧ 6000 ≤ val rest then (0, 4)
    else if 9 < miles.length then (0, 2)
    else if 8000000 < val miles * 6000 + (if two then val rest else 0) then (0, 2) else (((val miles * 6000 + (if two then val rest else 0) : Nat) : Int), 0)
  else (0, 4)
def distP (s : List UInt8) : Int × Int := distP3 (cutAt 43 s).1 (cutAt 43 s).2.1 (cutAt 43 s).2.2
end Go.Proofs.YtnmpfmelaninbaaGreatDoor
namespace Go.Proofs.YtnmpfmelaninbaaGreatDoor
open Go.RowKit Go.Sort
set_option maxRecDepth 100000
theorem fmtN_any (n : Int) (h0 : 0 ≤ n) (h1 : n ≤ 1000000000) (w : World) (hL : Laid w) : Calls Tryz.prog 94 #[.int .i64 n, .int .i64 10] w (Ret w (.string ⟨(Lib.decDigits n.toNat).toArray⟩)) := by
  have h := fmt_any n (by omega) (by omega) w hL
  rwa [show Lib.itoa n = Lib.decDigits n.toNat by unfold Lib.itoa; rw [if_neg (by omega)]] at h
theorem dec_len9 (n : Int) (h1 : n ≤ 1000000000) : (Lib.decDigits n.toNat).length ≤ 10 := dec_len (by decide) (by omega)
abbrev textVal (x : List UInt8 × Int) : Value := .tuple #[.string ⟨x.1.toArray⟩, .int .i64 x.2]
theorem Ret.text {w w' : World} {a : List UInt8} {b : Int} {x : List UInt8 × Int} (h : x = (a, b)) (hw : Below w.heap.size w w') : Ret w (textVal x) (.returned (.tuple #[.string ⟨a.toArray⟩, .int .i64 b])) w' := ⟨by rw [h], hw⟩
attribute [local go_sem] ba_cat cat_len
set_option maxHeartbeats 4000000 in
theorem altText_any (a : Int) (w : World) (hL : Laid w) : Calls Tryz.prog 164 #[.int .i64 a] w (Ret w (textVal (altT a))) := by
  by_cases hr : -200000 ≤ a ∧ a ≤ 6000000
  · have H1 := Lib.hid (altT_in hr)
    obtain ⟨r1, r2⟩ := hr
    by_cases hn : 0 ≤ a
    · have H2 := Lib.hid (altS_pos hn)
      have l1 := dec_len9 (a / 100) (by omega)
      have l2 := dec_len9 (a % 100 / 10) (by omega)
      have l3 := dec_len9 (a % 10) (by omega)
      by_cases hk : a % 100 = 0
      · have H3 := Lib.hid (altN_whole hn hk)
        go_enter Tryz.func164, Tryz.ntmps164
        go_wp2_with fail
        with_reducible refine callR (fmtN_any (a / 100) (by omega) (by omega) _ hL) ?_
        intro w1 b1 _ _ _
        have L1 := hL.below b1
        generalize Lib.decDigits (a / 100).toNat = D1 at l1 H3 ⊢
        go_wp2
        go_ret2
        exact Ret.text (by rw [H1.out, H2.out, H3.out]; rfl) b1
      · have H3 := Lib.hid (altN_part hn hk)
        go_enter Tryz.func164, Tryz.ntmps164
        go_wp2_with fail
        with_reducible refine callR (fmtN_any (a / 100) (by omega) (by omega) _ hL) ?_
        intro w1 b1 _ _ _
        have L1 := hL.below b1
        generalize Lib.decDigits (a / 100).toNat = D1 at l1 H3 ⊢
        go_wp2_with fail
        with_reducible refine callR (fmtN_any (a % 100 / 10) (by omega) (by omega) _ L1) ?_
        intro w2 b2 _ _ _
        have L2 := L1.below b2
        generalize Lib.decDigits (a % 100 / 10).toNat = D2 at l2 H3 ⊢
        go_wp2_with fail
        with_reducible refine callR (fmtN_any (a % 10) (by omega) (by omega) _ L2) ?_
        intro w3 b3 _ _ _
        generalize Lib.decDigits (a % 10).toNat = D3 at l3 H3 ⊢
        go_wp2
        go_ret2
        exact Ret.text (by rw [H1.out, H2.out, H3.out]; simp [cat]) (below_step (below_step b1 b2) b3)
    · obtain ⟨m, rfl⟩ : ∃ m, a = -m := ⟨-a, by omega⟩
      have hm : 0 < m := by omega
      have hm2 : m ≤ 200000 := by omega
      have H2 := Lib.hid (altS_neg hm)
      have l1 := dec_len9 (m / 100) (by omega)
      have l2 := dec_len9 (m % 100 / 10) (by omega)
      have l3 := dec_len9 (m % 10) (by omega)
      by_cases hk : m % 100 = 0
      · have H3 := Lib.hid (altN_whole (by omega) hk)
        go_enter Tryz.func164, Tryz.ntmps164
        go_wp2_with fail
        with_reducible refine callR (fmtN_any (m / 100) (by omega) (by omega) _ hL) ?_
        intro w1 b1 _ _ _
        have L1 := hL.below b1
        generalize Lib.decDigits (m / 100).toNat = D1 at l1 H3 ⊢
        go_wp2
        go_ret2
        exact Ret.text (by rw [H1.out, H2.out, H3.out]; simp [cat]) b1
      · have H3 := Lib.hid (altN_part (by omega) hk)
        go_enter Tryz.func164, Tryz.ntmps164
        go_wp2_with fail
        with_reducible refine callR (fmtN_any (m / 100) (by omega) (by omega) _ hL) ?_
        intro w1 b1 _ _ _
        have L1 := hL.below b1
        generalize Lib.decDigits (m / 100).toNat = D1 at l1 H3 ⊢
        go_wp2_with fail
        with_reducible refine callR (fmtN_any (m % 100 / 10) (by omega) (by omega) _ L1) ?_
        intro w2 b2 _ _ _
        have L2 := L1.below b2
        generalize Lib.decDigits (m % 100 / 10).toNat = D2 at l2 H3 ⊢
        go_wp2_with fail
        with_reducible refine callR (fmtN_any (m % 10) (by omega) (by omega) _ L2) ?_
        intro w3 b3 _ _ _
        generalize Lib.decDigits (m % 10).toNat = D3 at l3 H3 ⊢
        go_wp2
        go_ret2
        exact Ret.text (by rw [H1.out, H2.out, H3.out]; simp [cat]) (below_step (below_step b1 b2) b3)
  · have H1 := Lib.hid (altT_out hr)
    go_enter Tryz.func164, Tryz.ntmps164
    go_wp2
    all_goals try omega
    all_goals
      go_ret2
      exact Ret.text H1.out (Below.refl _ _)
end Go.Proofs.YtnmpfmelaninbaaGreatDoor
namespace Go.Proofs.YtnmpfmelaninbaaGreatDoor
open Go.RowKit Go.Sort
set_option maxRecDepth 100000
attribute [local go_sem] ba_cat cat_len
theorem altIn_any (a : Int) (h0 : -200000 ≤ a) (h1 : a ≤ 6000000) (w : World) (hL : Laid w) : Calls Tryz.prog 164 #[.int .i64 a] w (Ret w (.tuple #[.string ⟨(altS a).toArray⟩, .int .i64 0])) := by
  have h := altText_any a w hL
  rwa [altT_in ⟨h0, h1⟩] at h
theorem cat_two (a b : List UInt8) : cat a b = a ++ b := rfl
set_option maxHeartbeats 4000000 in
theorem winText_in (lo hi : Int) (w : World) (hL : Laid w) (h : winOk lo hi) : Calls Tryz.prog 93 #[.agg (Win.arr ⟨lo, hi⟩)] w (Ret w (.tuple #[.string ⟨(winS lo hi).toArray⟩, .int .i64 0])) := by
  obtain ⟨h1, h2, h3⟩ := h
  have k1 : lo ≤ 6000000 := by omega
  have k2 : -200000 ≤ hi := by omega
  have La := altS_len h1 k1
  have Lb := altS_len k2 h3
  have HW := Lib.hid (show winS lo hi = if lo = -200000 ∧ hi = 6000000 then [45] else if lo = hi then altS lo else if hi = 6000000 then altS lo ++ [43] else if lo = -200000 then altS hi ++ [45] else altS lo ++ (58 :: altS hi) from rfl)
  have c1 := Lib.hid (fun w L => altIn_any lo h1 k1 w L)
  have c2 := Lib.hid (fun w L => altIn_any hi k2 h3 w L)
  generalize altS lo = A at La HW c1
  generalize altS hi = B at Lb HW c2
  have L0 := hL.alloc (.cells #[.int .i64 lo, .int .i64 hi] 24)
  have n1 : ¬ lo < -200000 := by omega
  have n2 : ¬ hi < lo := by omega
  have n3 : ¬ 6000000 < hi := by omega
  have B0 := alloc_below w (.cells #[.int .i64 lo, .int .i64 hi] 24)
  clear k1 k2
  go_enter Tryz.func93, Tryz.ntmps93
  simp only [Win.arr]
  go_wp2_with fail
  with_reducible refine callR (c1.out _ L0) ?_
  intro w1 b1 _ _ _
  have L1 := L0.below b1
  have e1 : w1.cell? ⟨w.heap.size, 1, none⟩ = some (.int .i64 hi) := ((Blk.new w #[.int .i64 lo, .int .i64 hi] 24).step b1).cell 1
  go_wp2_with fail
  with_reducible refine callR (c2.out _ L1) ?_
  intro w2 b2 _ _ _
  clear e1
  have e0 : w2.cell? ⟨w.heap.size, 0, none⟩ = some (.int .i64 lo) := (((Blk.new w #[.int .i64 lo, .int .i64 hi] 24).step b1).step b2).cell 0
  have e1 : w2.cell? ⟨w.heap.size, 1, none⟩ = some (.int .i64 hi) := (((Blk.new w #[.int .i64 lo, .int .i64 hi] 24).step b1).step b2).cell 1
  have HB := Lib.hid (below_step (below_step B0 b1) b2)
  clear b1 b2 B0 L0 L1 c1 c2
  go_wp2
  all_goals
    go_ret2
    refine Ret.text (x := (winS lo hi, 0)) ?_ HB.out
    rw [HW.out]
    (try simp only [cat_two])
    grind
theorem winText_any (lo hi : Int) (w : World) (hL : Laid w) : Calls Tryz.prog 93 #[.agg (Win.arr ⟨lo, hi⟩)] w (Ret w (textVal (winT lo hi))) := by
  by_cases h : winOk lo hi
  · rw [winT_in h]; exact winText_in lo hi w hL h
  · have HT := Lib.hid (winT_out h)
    have HO := Lib.hid h; clear h
    go_enter Tryz.func93, Tryz.ntmps93
    simp only [Win.arr]
    go_wp2_with fail
    all_goals first
      | (exfalso; apply HO.out; unfold winOk; omega)
      | (go_ret2; exact Ret.text HT.out (alloc_below _ _))
set_option maxHeartbeats 4000000 in
theorem distText_any (d : Int) (w : World) (hL : Laid w) : Calls Tryz.prog 96 #[.int .i64 d] w (Ret w (textVal (distT d))) := by
  by_cases hr : 0 ≤ d ∧ d ≤ 8000000
  · have H1 := Lib.hid (distT_in hr)
    obtain ⟨r1, r2⟩ := hr
    have l1 := dec_len9 (d / 6000) (by omega)
    have l2 := dec_len9 (d % 6000) (by omega)
    by_cases hk : d % 6000 = 0
    · have H3 := Lib.hid (distS_whole r1 hk)
      go_enter Tryz.func96, Tryz.ntmps96
      go_wp2_with fail
      with_reducible refine callR (fmtN_any (d / 6000) (by omega) (by omega) _ hL) ?_
      intro w1 b1 _ _ _
      generalize Lib.decDigits (d / 6000).toNat = D1 at l1 H3 ⊢
      go_wp2
      go_ret2
      exact Ret.text (by rw [H1.out, H3.out]) b1
    · have H3 := Lib.hid (distS_part r1 hk)
      go_enter Tryz.func96, Tryz.ntmps96
      go_wp2_with fail
      with_reducible refine callR (fmtN_any (d / 6000) (by omega) (by omega) _ hL) ?_
      intro w1 b1 _ _ _
      have L1 := hL.below b1
      generalize Lib.decDigits (d / 6000).toNat = D1 at l1 H3 ⊢
      go_wp2_with fail
      with_reducible refine callR (fmtN_any (d % 6000) (by omega) (by omega) _ L1) ?_
      intro w2 b2 _ _ _
      generalize Lib.decDigits (d % 6000).toNat = D2 at l2 H3 ⊢
      go_wp2
      go_ret2
      exact Ret.text (by rw [H1.out, H3.out]; simp [cat]) (below_step b1 b2)
  · have H1 := Lib.hid (distT_out hr)
    go_enter Tryz.func96, Tryz.ntmps96
    go_wp2
    all_goals try omega
    all_goals
      go_ret2
      exact Ret.text H1.out (Below.refl _ _)
end Go.Proofs.YtnmpfmelaninbaaGreatDoor
namespace Go.Proofs.YtnmpfmelaninbaaGreatDoor
def words : List UInt8 → List (List UInt8)
  | [] => [[]]
  | x :: r => if x = 32 then [] :: words r else match words r with | [] => [[x]] | a :: q => (x :: a) :: q
theorem words_cut : ∀ l : List UInt8, words l = if (cutAt 32 l).2.2 then (cutAt 32 l).1 :: words (cutAt 32 l).2.1 else [l]
  | [] => by simp [words, cutAt]
  | x :: r => by
    have ih := words_cut r
    by_cases hx : x = 32
    · simp [words, cutAt, hx]
    · simp only [words, cutAt, hx, if_false]
      cases hf : (cutAt 32 r).2.2
      · simp [hf] at ih; simp [ih]
      · simp [hf] at ih; simp [ih]
theorem count_cutAt (c : UInt8) : ∀ l : List UInt8, l.count c = if (cutAt c l).2.2 then 1 + (cutAt c l).2.1.count c else 0
  | [] => by simp [cutAt]
  | x :: r => by
    have ih := count_cutAt c r
    by_cases hx : x = c
    · simp [cutAt, hx]; omega
    · rw [List.count_cons_of_ne hx]; simp [cutAt, hx]; exact ih
theorem cutAt_lt (c : UInt8) (l : List UInt8) (h : (cutAt c l).2.2 = true) : (cutAt c l).2.1.length < l.length := by
  have h1 := congrArg List.length (cutAt_parts c l h)
  simp only [List.length_append, List.length_cons] at h1
  omega
theorem drop_cutAt (c : UInt8) (l : List UInt8) (h : (cutAt c l).2.2 = true) : l.drop ((Lib.index l [c]).toNat + [c].length) = (cutAt c l).2.1 ∧ l.take ((Lib.index l [c]).toNat + 0) = (cutAt c l).1 := by
  rw [index_cutAt c l, h]
  have h1 := cutAt_parts c l h
  generalize (cutAt c l).1 = a at h1 ⊢
  generalize (cutAt c l).2.1 = b at h1 ⊢
  subst h1
  simp
theorem countFrom_cutAt (c : UInt8) : ∀ (f : Nat) (l : List UInt8), l.length < f → Lib.countFrom [c] f l = l.count c
  | 0, l, h => by omega
  | f + 1, l, h => by
    rw [Lib.countFrom, count_cutAt c l]
    cases hf : (cutAt c l).2.2
    · rw [if_pos (by rw [index_cutAt, hf]; rfl)]; rfl
    · rw [if_neg (by rw [index_cutAt, hf]; first | (simp; done) | (simp; omega)), (drop_cutAt c l hf).1, countFrom_cutAt c f _ (by have := cutAt_lt c l hf; omega)]
      rfl
end Go.Proofs.YtnmpfmelaninbaaGreatDoor
namespace Go.Proofs.YtnmpfmelaninbaaGreatDoor
open Go.RowKit Go.Sort
def refB (s : List UInt8) : Bool := (splitRef s).2.2 == 0
theorem cutPre_len (c : UInt8) (s : List UInt8) : (cutPre c s).1.length ≤ s.length := by
  unfold cutPre
  split
  · split <;> simp
  · simp
end Go.Proofs.YtnmpfmelaninbaaGreatDoor
namespace Go.Proofs.YtnmpfmelaninbaaGreatDoor
open Go.RowKit
def splitC (c : UInt8) : List UInt8 → List (List UInt8)
  | [] => [[]]
  | x :: r => if x = c then [] :: splitC c r else match splitC c r with | [] => [[x]] | a :: q => (x :: a) :: q
theorem splitC_ne (c : UInt8) (l : List UInt8) : splitC c l ≠ [] := by
  cases l with
  | nil => simp [splitC]
  | cons x r =>
    unfold splitC
    split
    · simp
    · split <;> simp
theorem splitC_cut (c : UInt8) : ∀ l : List UInt8, splitC c l = if (cutAt c l).2.2 then (cutAt c l).1 :: splitC c (cutAt c l).2.1 else [l]
  | [] => by simp [splitC, cutAt]
  | x :: r => by
    have ih := splitC_cut c r
    by_cases hx : x = c
    · simp [splitC, cutAt, hx]
    · simp only [splitC, cutAt, hx, if_false]
      cases hf : (cutAt c r).2.2
      · simp [hf] at ih; simp [ih]
      · simp [hf] at ih; simp [ih]
/-! Numbers. -/
def numP (l : List UInt8) : Int := match Lib.parseIntB 64 l with | .ok n => n | .range => Lib.intSat 64 l | .syntax => 0
end Go.Proofs.YtnmpfmelaninbaaGreatDoor
namespace Go.Proofs.YtnmpfmelaninbaaGreatDoor
open Go.RowKit Go.Sort
set_option maxRecDepth 100000
theorem trimPre (c : UInt8) (l : List UInt8) : Lib.trimPrefix l [c] = (cutPre c l).1 ∧ Lib.hasPrefix l [c] = (cutPre c l).2 := by
  cases l with
  | nil => exact ⟨rfl, rfl⟩
  | cons x r =>
    by_cases h : x = c
    · subst h; simp [Lib.trimPrefix, Lib.hasPrefix, cutPre]
    · have h' : ¬ c = x := fun e => h e.symm
      simp [Lib.trimPrefix, Lib.hasPrefix, cutPre, h, h', List.isPrefixOf]
theorem hasSuf (c : UInt8) (l : List UInt8) : Lib.hasSuffix l [c] = decide (l.getLast? = some c) := by
  unfold Lib.hasSuffix
  rw [Bool.eq_iff_iff, List.isSuffixOf_iff_suffix, decide_eq_true_eq]
  constructor
  · rintro ⟨t, rfl⟩; simp
  · intro h
    obtain ⟨t, rfl⟩ := List.getLast?_eq_some_iff.1 h
    exact ⟨t, rfl⟩
theorem trimSuf (c : UInt8) (l : List UInt8) : Lib.trimSuffix l [c] = (cutSuf c l).1 ∧ Lib.hasSuffix l [c] = (cutSuf c l).2 := by
  unfold Lib.trimSuffix cutSuf
  rw [hasSuf]
  by_cases h : l.getLast? = some c
  · simp [h, List.dropLast_eq_take]
  · simp [h]
theorem cutPrefix_any (c : UInt8) (l : List UInt8) (w : World) : Calls Tryz.prog 222 #[.string ⟨l.toArray⟩, .string ⟨#[c]⟩] w (RetP w (.tuple #[.string ⟨(cutPre c l).1.toArray⟩, .bool (cutPre c l).2])) := by
  have h := Tryz.strings_CutPrefix ⟨l.toArray⟩ ⟨#[c]⟩ w
  simp only [(trimPre c l).1, (trimPre c l).2] at h
  exact h.mono fun e w' ⟨h1, h2⟩ => ⟨h1, h2.symm⟩
theorem cutSuffix_any (c : UInt8) (l : List UInt8) (w : World) (hl : l.length ≤ 4611686018427387904) : Calls Tryz.prog 239 #[.string ⟨l.toArray⟩, .string ⟨#[c]⟩] w (RetP w (.tuple #[.string ⟨(cutSuf c l).1.toArray⟩, .bool (cutSuf c l).2])) := by
  have h := Tryz.strings_CutSuffix ⟨l.toArray⟩ ⟨#[c]⟩ w (by simp [ByteArray.size]; omega)
  simp only [(trimSuf c l).1, (trimSuf c l).2] at h
  exact h.mono fun e w' ⟨h1, h2⟩ => ⟨h1, h2.symm⟩
theorem parseInt_any (l : List UInt8) (w : World) (hp : plainB l = true) (hl : l.length ≤ 18) : Calls Tryz.prog 104 #[.string ⟨l.toArray⟩, .int .i64 10, .int .i64 64] w (Ret w (.tuple #[.int .i64 (val l : Nat), .nilIface])) := by
  have hv := val_lt l (plainB_all hp)
  have h2 : 10 ^ l.length ≤ 10 ^ 18 := Nat.pow_le_pow_right (by decide) hl
  have h3 : (10 : Nat) ^ 18 = 1000000000000000000 := by decide
  have h := Tryz.strconv_ParseInt_10_at64_ok ⟨l.toArray⟩ (by simp [ByteArray.size]; omega) (val l : Nat) (parseInt_plain l (plainB_ne hp) (plainB_all hp) (by omega)) w
  refine h.mono fun e w' ⟨h1, h2⟩ => ⟨h1, ?_⟩
  rcases h2 with rfl | ⟨t, rfl⟩
  · exact Below.refl _ _
  · exact Lib.bytesWorld_below _ _ _
theorem cut_ret (l : List UInt8) (c : UInt8) (w : World) (hL : Laid w) (hl : l.length ≤ 4000000000) :
    Calls Tryz.prog 161 #[.string ⟨l.toArray⟩, .string ⟨#[c]⟩] w (Ret w (.tuple #[.string ⟨(cutAt c l).1.toArray⟩, .string ⟨(cutAt c l).2.1.toArray⟩, .bool (cutAt c l).2.2])) :=
  (cut_any l c w hL hl).mono fun e w' ⟨h1, n, h2⟩ => ⟨h1, by rw [h2]; exact below_drewN (Below.refl _ _) n⟩
theorem Ret.num {w w' : World} {n : Int} {b : Bool} {x : Int × Bool} (h : x = (n, b)) (hw : Below w.heap.size w w') : Ret w (numVal x) (.returned (.tuple #[.int .i64 n, .bool b])) w' := ⟨by rw [h], hw⟩
theorem Ret.ints {w w' : World} {n b : Int} {x : Int × Int} (h : x = (n, b)) (hw : Below w.heap.size w w') : Ret w (intsVal x) (.returned (.tuple #[.int .i64 n, .int .i64 b])) w' := ⟨by rw [h], hw⟩
theorem feetV_bd (l : List UInt8) (h : plainB l = true) : 0 ≤ feetV l ∧ feetV l ≤ 1099511627776 := by
  unfold feetV
  split
  · rename_i hl
    have hv := val_lt l (plainB_all h)
    have h2 : 10 ^ l.length ≤ 10 ^ 9 := Nat.pow_le_pow_right (by decide) (by omega)
    have h3 : (10 : Nat) ^ 9 = 1000000000 := by decide
    omega
  · omega
theorem altP3_bad1 {m : Bool} {f h : List UInt8} {p : Bool} (hp : plainB f = false) : altP3 m f h p = (0, false) := by unfold altP3; rw [if_neg (by simp [hp])]
theorem altP3_bad2 {m : Bool} {f h : List UInt8} (hh : hundB h = false) : altP3 m f h true = (0, false) := by unfold altP3; rw [if_neg (by simp [hh])]
def altOut (m : Bool) (n : Int) : Int × Bool := if m then (-n, n != 0) else (n, true)
theorem altP3_ok {m : Bool} {f h : List UInt8} {p : Bool} (hp : plainB f = true) (hh : p = false ∨ hundB h = true) : altP3 m f h p = altOut m (feetV f * 100 + (if p then (val h : Int) else 0)) := by
  unfold altP3 altOut
  rw [if_pos ⟨hp, hh⟩]
  cases m
  · simp
  · simp only [if_true]
    refine Prod.ext rfl ?_
    rw [Bool.eq_iff_iff]
    simp
theorem hundB_two {h : List UInt8} (hh : hundB h = true) : ∃ a b : UInt8, h = [a, b] ∧ (48 ≤ a.toNat ∧ a.toNat ≤ 57) ∧ (48 ≤ b.toNat ∧ b.toNat ≤ 57) ∧ ¬ (a = 48 ∧ b = 48) := by
  match h, hh with
  | [a, b], hh => simp [hundB, isD] at hh; exact ⟨a, b, rfl, hh.1.1, hh.1.2, fun e => by rcases hh.2 with h | h; exact h e.1; exact h e.2⟩
theorem val_two (a b : UInt8) (ha : 48 ≤ a.toNat) (hb : 48 ≤ b.toNat) : (val [a, b] : Int) = ((a.toNat : Int) - 48) * 10 + ((b.toNat : Int) - 48) := by
  simp only [val, numV_cons, numV_nil]; omega
set_option maxHeartbeats 4000000 in
theorem altitude_any (l : List UInt8) (w : World) (hL : Laid w) (hl : l.length ≤ 4000000000) : Calls Tryz.prog 238 #[.string ⟨l.toArray⟩] w (Ret w (numVal (altP l))) := by
  have HE := Lib.hid (show altP l = altP3 (cutPre 45 l).2 (cutAt 46 (cutPre 45 l).1).1 (cutAt 46 (cutPre 45 l).1).2.1 (cutAt 46 (cutPre 45 l).1).2.2 from rfl)
  have k1 := Lib.hid (cutPrefix_any 45 l w)
  have hl1 := cutPre_len 45 l
  generalize cutPre 45 l = q at k1 hl1 HE
  obtain ⟨r, minus⟩ := q
  simp only at hl1
  have k2 := Lib.hid (cut_ret r 46 w hL (by omega))
  have hl2 := cutAt_len 46 r
  simp only at HE
  generalize cutAt 46 r = q at k2 hl2 HE
  obtain ⟨feet, hund, point⟩ := q
  simp only at hl2 HE
  obtain ⟨l2, l3⟩ := hl2
  generalize altP l = out at HE ⊢
  cases hp : plainB feet
  · have HO := Lib.hid (HE.out.trans (altP3_bad1 hp))
    have k3 := Lib.hid (plain_any feet w (by omega))
    rw [hp] at k3
    have HP := Lib.hid hp; clear hp HE
    go_enter Tryz.func238, Tryz.ntmps238
    go_wp2_with fail
    with_reducible refine callP k1.out ?_
    go_wp2_with fail
    with_reducible refine callR k2.out ?_
    intro w1 b1 _ _ _
    go_wp2_with fail
    with_reducible refine callP (plain_any feet w1 (by omega)) ?_
    rw [HP.out]
    go_wp2
    go_ret2
    exact Ret.num HO.out b1
  · have HP := Lib.hid hp; clear hp
    have fb := feetV_bd feet HP.out
    obtain ⟨fb1, fb2⟩ := fb
    have HF1 := Lib.hid (show feet.length < 10 → feetV feet = (val feet : Nat) from fun h => by unfold feetV; rw [if_pos h])
    have HF2 := Lib.hid (show ¬ feet.length < 10 → feetV feet = 1099511627776 from fun h => by unfold feetV; rw [if_neg h])
    have HF3 := Lib.hid (show feet.length < 10 → val feet ≤ 1099511627776 from fun h => by have := HF1.out h; omega)
    cases hpt : point
    · subst hpt
      have HO := Lib.hid (HE.out.trans (altP3_ok HP.out (.inl rfl)))
      clear HE
      generalize feetV feet = F at fb1 fb2 HF1 HF2 HF3 HO
      go_enter Tryz.func238, Tryz.ntmps238
      go_wp2_with fail
      with_reducible refine callP k1.out ?_
      go_wp2_with fail
      with_reducible refine callR k2.out ?_
      intro w1 b1 _ _ _
      go_wp2_with fail
      with_reducible refine callP (plain_any feet w1 (by omega)) ?_
      rw [HP.out]
      by_cases h10 : feet.length < 10
      · have HV := Lib.hid (HF1.out h10)
        have hv := HF3.out h10
        go_wp2_with fail
        with_reducible refine callR (parseInt_any feet w1 HP.out (by omega)) ?_
        intro w2 b2 _ _ _
        generalize val feet = V at HV hv ⊢
        obtain ⟨V', hV'⟩ : ∃ V' : Int, V' = (V : Nat) := ⟨_, rfl⟩
        rw [← hV']
        have hV0 : 0 ≤ V' := by omega
        have hV1 : V' ≤ 1099511627776 := by omega
        have HV' := Lib.hid hV'; clear hV' hv
        cases minus
        all_goals
          go_wp2
          go_ret2
          refine Ret.num ?_ (below_step b1 b2)
          rw [HO.out, HV.out, HV'.out]
          simp [altOut]
      · have HV := Lib.hid (HF2.out h10)
        cases minus
        all_goals
          go_wp2
          go_ret2
          refine Ret.num ?_ b1
          rw [HO.out, HV.out]
          rfl
    · subst hpt
      cases hh : hundB hund
      · have HO := Lib.hid (HE.out.trans (altP3_bad2 hh))
        have HH := Lib.hid hh; clear hh HE
        by_cases h2 : hund.length = 2
        · match hund, h2 with
          | [a, b], _ =>
            go_enter Tryz.func238, Tryz.ntmps238
            go_wp2_with fail
            with_reducible refine callP k1.out ?_
            go_wp2_with fail
            with_reducible refine callR k2.out ?_
            intro w1 b1 _ _ _
            go_wp2_with fail
            with_reducible refine callP (plain_any feet w1 (by omega)) ?_
            rw [HP.out]
            go_wp2
            all_goals first
              | (go_ret2; exact Ret.num HO.out b1)
              | (exfalso; have hx := HH.out; simp [hundB, isD] at hx; grind)
        · have h2' : ((hund.length : Int) != 2) = true := by
            simp only [bne_iff_ne]; omega
          go_enter Tryz.func238, Tryz.ntmps238
          go_wp2_with fail
          with_reducible refine callP k1.out ?_
          go_wp2_with fail
          with_reducible refine callR k2.out ?_
          intro w1 b1 _ _ _
          go_wp2_with fail
          with_reducible refine callP (plain_any feet w1 (by omega)) ?_
          rw [HP.out]
          go_wp2
          go_ret2
          exact Ret.num HO.out b1
      · obtain ⟨a, b, rfl, ⟨a1, a2⟩, ⟨b1, b2⟩, hn⟩ := hundB_two hh
        have HO := Lib.hid (HE.out.trans (altP3_ok HP.out (.inr hh)))
        simp only [if_true, val_two a b a1 b1] at HO
        clear HE hh
        have HNN := Lib.hid hn; clear hn
        generalize feetV feet = F at fb1 fb2 HF1 HF2 HF3 HO
        go_enter Tryz.func238, Tryz.ntmps238
        go_wp2_with fail
        with_reducible refine callP k1.out ?_
        go_wp2_with fail
        with_reducible refine callR k2.out ?_
        intro w1 e1 _ _ _
        go_wp2_with fail
        with_reducible refine callP (plain_any feet w1 (by omega)) ?_
        rw [HP.out]
        go_wp2
        all_goals try (exfalso; have hx := HNN.out; grind)
        rename_i hz
        clear hz
        go_quiet (fail)
        have L1 := below_drewN e1 nq
        generalize w1.drewN nq = w3 at L1 ⊢
        obtain ⟨k, hk⟩ : ∃ k : Int, k = ((a.toNat : Int) - 48) * 10 + ((b.toNat : Int) - 48) := ⟨_, rfl⟩
        rw [← hk] at HO ⊢
        have q0 : 0 ≤ k := by omega
        have q1 : k ≤ 99 := by omega
        clear hk
        by_cases h10 : feet.length < 10
        · have HV := Lib.hid (HF1.out h10)
          have hv := HF3.out h10
          go_wp2_with fail
          with_reducible refine callR (parseInt_any feet w3 HP.out (by omega)) ?_
          intro w2 c2 _ _ _
          generalize val feet = V at HV hv ⊢
          obtain ⟨V', hV'⟩ : ∃ V' : Int, V' = (V : Nat) := ⟨_, rfl⟩
          rw [← hV']
          have hV0 : 0 ≤ V' := by omega
          have hV1 : V' ≤ 1099511627776 := by omega
          have HV' := Lib.hid hV'; clear hV' hv
          cases minus
          all_goals
            go_wp2
            go_ret2
            refine Ret.num ?_ (below_step L1 c2)
            rw [HO.out, HV.out, HV'.out]
            simp [altOut]
        · have HV := Lib.hid (HF2.out h10)
          cases minus
          all_goals
            go_wp2
            go_ret2
            refine Ret.num ?_ L1
            rw [HO.out, HV.out]
            simp [altOut]
end Go.Proofs.YtnmpfmelaninbaaGreatDoor
namespace Go.Proofs.YtnmpfmelaninbaaGreatDoor
open Go.RowKit Go.Sort
set_option maxRecDepth 100000
theorem distP3_bad1 {a r : List UInt8} {b : Bool} (hp : plainB a = false) : distP3 a r b = (0, 4) := by unfold distP3; rw [if_neg (by simp [hp])]
theorem distP3_bad2 {a r : List UInt8} (hr : restOk r = false) : distP3 a r true = (0, 4) := by unfold distP3; rw [if_neg (by simp [hr])]
theorem distP3_one {a r : List UInt8} (hp : plainB a = true) : distP3 a r false = if 9 < a.length then (0, 2) else if 8000000 < val a * 6000 then (0, 2) else (((val a * 6000 : Nat) : Int), 0) := by
  unfold distP3; rw [if_pos ⟨hp, .inl rfl⟩]; simp
theorem distP3_two {a r : List UInt8} (hp : plainB a = true) (hr : restOk r = true) : distP3 a r true = if 6000 ≤ val r then (0, 4) else if 9 < a.length then (0, 2) else if 8000000 < val a * 6000 + val r then (0, 2) else (((val a * 6000 + val r : Nat) : Int), 0) := by
  unfold distP3; rw [if_pos ⟨hp, .inr hr⟩]; simp
theorem val_nine {a : List UInt8} (hp : plainB a = true) (h : a.length ≤ 9) : val a < 1000000000 := by
  have hv := val_lt a (plainB_all hp)
  have h2 : 10 ^ a.length ≤ 10 ^ 9 := Nat.pow_le_pow_right (by decide) h
  have h3 : (10 : Nat) ^ 9 = 1000000000 := by decide
  omega
set_option maxHeartbeats 4000000 in
theorem parseDist_any (l : List UInt8) (w : World) (hL : Laid w) (hl : l.length ≤ 4000000000) : Calls Tryz.prog 106 #[.string ⟨l.toArray⟩] w (Ret w (intsVal (distP l))) := by
  have HE := Lib.hid (show distP l = distP3 (cutAt 43 l).1 (cutAt 43 l).2.1 (cutAt 43 l).2.2 from rfl)
  have k1 := Lib.hid (cut_ret l 43 w hL hl)
  have hl2 := cutAt_len 43 l
  generalize cutAt 43 l = q at k1 hl2 HE
  obtain ⟨miles, rest, two⟩ := q
  simp only at hl2 HE
  obtain ⟨l2, l3⟩ := hl2
  generalize distP l = out at HE ⊢
  cases hp : plainB miles
  · have HO := Lib.hid (HE.out.trans (distP3_bad1 hp))
    have HP := Lib.hid hp; clear hp HE
    go_enter Tryz.func106, Tryz.ntmps106
    go_wp2_with fail
    with_reducible refine callR k1.out ?_
    intro w1 b1 _ _ _
    go_wp2_with fail
    with_reducible refine callP (plain_any miles w1 (by omega)) ?_
    rw [HP.out]
    go_wp2
    go_ret2
    exact Ret.ints HO.out b1
  · have HP := Lib.hid hp; clear hp
    cases two
    · have HO := Lib.hid (HE.out.trans (distP3_one HP.out))
      clear HE
      go_enter Tryz.func106, Tryz.ntmps106
      go_wp2_with fail
      with_reducible refine callR k1.out ?_
      intro w1 b1 _ _ _
      go_wp2_with fail
      with_reducible refine callP (plain_any miles w1 (by omega)) ?_
      rw [HP.out]
      by_cases h9 : 9 < miles.length
      · go_wp2
        go_ret2
        exact Ret.ints (by rw [HO.out, if_pos h9]) b1
      · have hv := val_nine HP.out (by omega)
        go_wp2_with fail
        with_reducible refine callR (parseInt_any miles w1 HP.out (by omega)) ?_
        intro w2 b2 _ _ _
        have HO' := Lib.hid (HO.out.trans (if_neg h9))
        clear HO
        generalize val miles = V at HO' hv ⊢
        obtain ⟨V', hV'⟩ : ∃ V' : Int, V' = (V : Nat) := ⟨_, rfl⟩
        rw [← hV']
        have hV0 : 0 ≤ V' := by omega
        have hV1 : V' ≤ 1000000000 := by omega
        have HV' := Lib.hid hV'; clear hV' hv
        go_wp2
        all_goals
          go_ret2
          refine Ret.ints ?_ (below_step b1 b2)
          have e := HV'.out
          rw [HO'.out]
          first
            | (rw [if_pos (by omega)]; done)
            | (rw [if_neg (by omega)]; refine Prod.ext ?_ rfl; simp only; omega)
    · cases hr : plainB rest
      · have HO := Lib.hid (HE.out.trans (distP3_bad2 (by unfold restOk; rw [hr]; rfl)))
        have HR := Lib.hid hr; clear hr HE
        go_enter Tryz.func106, Tryz.ntmps106
        go_wp2_with fail
        with_reducible refine callR k1.out ?_
        intro w1 b1 _ _ _
        go_wp2_with fail
        with_reducible refine callP (plain_any miles w1 (by omega)) ?_
        rw [HP.out]
        go_wp2_with fail
        with_reducible refine callP (plain_any rest w1 (by omega)) ?_
        rw [HR.out]
        go_wp2
        go_ret2
        exact Ret.ints HO.out b1
      · have HR := Lib.hid hr; clear hr
        have HK := Lib.hid (show restOk rest = (!(rest == [48]) && decide (rest.length ≤ 4)) by unfold restOk; rw [HR.out]; rfl)
        cases hk : restOk rest
        · have HO := Lib.hid (HE.out.trans (distP3_bad2 hk))
          rw [hk] at HK
          clear HE hk
          go_enter Tryz.func106, Tryz.ntmps106
          go_wp2_with fail
          with_reducible refine callR k1.out ?_
          intro w1 b1 _ _ _
          go_wp2_with fail
          with_reducible refine callP (plain_any miles w1 (by omega)) ?_
          rw [HP.out]
          go_wp2_with fail
          with_reducible refine callP (plain_any rest w1 (by omega)) ?_
          rw [HR.out]
          go_wp2_with fail
          all_goals first
            | (go_ret2; exact Ret.ints HO.out b1)
            | (exfalso; have hx := HK.out; grind)
        · have HO := Lib.hid (HE.out.trans (distP3_two HP.out hk))
          rw [hk] at HK
          clear HE hk
          have hr4 : rest.length ≤ 4 := by have := HK.out; simp at this; omega
          have vr : val rest < 1000000000 := val_nine HR.out (by omega)
          go_enter Tryz.func106, Tryz.ntmps106
          go_wp2_with fail
          with_reducible refine callR k1.out ?_
          intro w1 b1 _ _ _
          have L1 := hL.below b1
          go_wp2_with fail
          with_reducible refine callP (plain_any miles w1 (by omega)) ?_
          rw [HP.out]
          go_wp2_with fail
          with_reducible refine callP (plain_any rest w1 (by omega)) ?_
          rw [HR.out]
          go_wp2_with fail
          all_goals try (exfalso; have hx := HK.out; grind)
          with_reducible refine callR (parseInt_any rest w1 HR.out (by omega)) ?_
          intro w2 b2 _ _ _
          generalize val rest = R at HO vr ⊢
          obtain ⟨R', hR'⟩ : ∃ R' : Int, R' = (R : Nat) := ⟨_, rfl⟩
          rw [← hR']
          have hR0 : 0 ≤ R' := by omega
          have hR1 : R' ≤ 1000000000 := by omega
          have HR' := Lib.hid hR'; clear hR' vr
          by_cases h9 : 9 < miles.length
          · go_wp2
            all_goals
              go_ret2
              refine Ret.ints ?_ (below_step b1 b2)
              have e := HR'.out
              rw [HO.out]
              first
                | (rw [if_pos (by omega)]; done)
                | (rw [if_neg (by omega), if_pos h9]; done)
          · have hv := val_nine HP.out (by omega)
            have vp := Lib.hid (fun w => parseInt_any miles w HP.out (by omega))
            generalize val miles = V at HO hv vp ⊢
            obtain ⟨V', hV'⟩ : ∃ V' : Int, V' = (V : Nat) := ⟨_, rfl⟩
            rw [← hV'] at vp
            have hV0 : 0 ≤ V' := by omega
            have hV1 : V' ≤ 1000000000 := by omega
            have HV' := Lib.hid hV'; clear hV' hv
            go_wp2_with (go_at_call 104; ((with_reducible refine callR (vp.out _) ?_); intro w3 b3 _ _ _))
            all_goals
              go_ret2
              first | refine Ret.ints ?_ (below_step (below_step b1 b2) b3) | refine Ret.ints ?_ (below_step b1 b2)
              have e := HR'.out
              have e2 := HV'.out
              rw [HO.out]
              first
                | (rw [if_pos (by omega)]; done)
                | (rw [if_neg (by omega), if_neg h9, if_pos (by omega)]; done)
                | (rw [if_neg (by omega), if_neg h9, if_neg (by omega)]; refine Prod.ext ?_ rfl; simp only; omega)
end Go.Proofs.YtnmpfmelaninbaaGreatDoor
namespace Go.Proofs.YtnmpfmelaninbaaGreatDoor
open Go.RowKit
theorem Blk.setCell {W : World} {g : Nat} {cs : Array Value} (h : Blk W g cs) (k : Nat) (v : Value) : Blk (W.setCell ⟨g, k, none⟩ v) g (cs.setIfInBounds k v) := by
  obtain ⟨t, h⟩ := h
  have hlt : g < W.heap.size := by
    rcases Nat.lt_or_ge g W.heap.size with hlt | hge
    · exact hlt
    · rw [Array.getElem?_eq_none hge] at h; cases h
  refine ⟨t, ?_⟩
  simp only [World.setCell, Array.getElem?_modify, if_true, h]
  rfl
theorem Blk.setFar {W : World} {g g' : Nat} {cs : Array Value} (h : Blk W g cs) (hne : g ≠ g') (k : Nat) (v : Value) : Blk (W.setCell ⟨g', k, none⟩ v) g cs := by
  obtain ⟨t, h⟩ := h
  exact ⟨t, (Below.heap_setCell W ⟨g', k, none⟩ v g hne).trans h⟩
structure Touch (S : List Nat) (w w' : World) : Prop where
  os : w'.os = w.os
  tape : w'.tape = w.tape
  output : w'.output = w.output
  size : w.heap.size ≤ w'.heap.size
  block : ∀ k, k < w.heap.size → k ∉ S → w'.heap[k]? = w.heap[k]?
theorem Touch.refl (S : List Nat) (w : World) : Touch S w w := ⟨rfl, rfl, rfl, Nat.le_refl _, fun _ _ _ => rfl⟩
theorem Touch.trans {S : List Nat} {a b c : World} (h : Touch S a b) (k : Touch S b c) : Touch S a c :=
  ⟨k.os.trans h.os, k.tape.trans h.tape, k.output.trans h.output, Nat.le_trans h.size k.size, fun i hi hn => (k.block i (Nat.lt_of_lt_of_le hi h.size) hn).trans (h.block i hi hn)⟩
theorem Touch.of {S : List Nat} {w w' : World} (h : Below w.heap.size w w') : Touch S w w' := ⟨h.os, h.tape, h.output, h.size, fun k hk _ => h.block k hk⟩
theorem Touch.setCell (S : List Nat) (w : World) {g : Nat} (hg : g ∈ S) (k : Nat) (v : Value) : Touch S w (w.setCell ⟨g, k, none⟩ v) :=
  ⟨rfl, rfl, rfl, by simp [World.setCell], fun i hi hn => Below.heap_setCell _ _ _ _ (fun e => hn (by rw [show i = g from e]; exact hg))⟩
theorem Touch.below {S : List Nat} {w0 w w' : World} (h : Touch S w w') (hb : Below w0.heap.size w0 w) (hs : ∀ x ∈ S, w0.heap.size ≤ x) : Below w0.heap.size w0 w' :=
  hb.trans ⟨h.os, h.tape, h.output, h.size, fun k hk => h.block k (Nat.lt_of_lt_of_le hk hb.size) (fun e => by have := hs k e; omega)⟩
theorem Touch.cell {S : List Nat} {w w' : World} {g : Nat} (h : Touch S w w') (hg : g ∉ S) (hlt : g < w.heap.size) (j : Nat) : w'.cell? ⟨g, j, none⟩ = w.cell? ⟨g, j, none⟩ := World.cell?_of_block (w := w) (h.block g hlt hg)
theorem below_setCell {B g : Nat} {w0 w : World} (hb : Below B w0 w) (hBg : B ≤ g) (k : Nat) (v : Value) : Below B w0 (w.setCell ⟨g, k, none⟩ v) := hb.setCell (by simpa using hBg) v
end Go.Proofs.YtnmpfmelaninbaaGreatDoor
namespace Go.Proofs.YtnmpfmelaninbaaGreatDoor
open Go.RowKit Go.Sort
set_option maxRecDepth 100000
theorem results_win {fn : Func} {p t : Tmp} (h : fn.results = #[.cell p 24, .tmp t]) (tmps : Array Value) (w : World) (g : Nat) (x : Win) (hp : tmps.getD p undef = .pointer (some ⟨g, 0, none⟩)) (hx : Is_win w g 0 x) :
    (results fn tmps).run Tryz.prog w = .ok (.tuple #[.agg x.arr, tmps.getD t undef]) w := by
  have hp' : tmps[p]?.getD undef = .pointer (some ⟨g, 0, none⟩) := by simpa using hp
  have hl := run_load_agg (P := Tryz.prog) w ⟨g, 0, none⟩ 24 x.arr.toList _ (fun j v hv => by
    rw [addr_add, hx j (by have := (List.getElem?_eq_some_iff.1 hv).1; simpa [Win.arr_size] using this)]
    simpa using hv) Tryz.underlying24 rfl info_win
  simp [results, h, hp', asAddr, hl]
abbrev winBVal (x : (Int × Int) × Bool) : Value := .tuple #[.agg (Win.arr ⟨x.1.1, x.1.2⟩), .bool x.2]
abbrev winEVal (x : (Int × Int) × Int) : Value := .tuple #[.agg (Win.arr ⟨x.1.1, x.1.2⟩), .int .i64 x.2]
theorem Ret.winB {w w' : World} {x : (Int × Int) × Bool} {a b : Int} {c : Bool} (h : x = ((a, b), c)) (hw : Below w.heap.size w w') : Ret w (winBVal x) (.returned (.tuple #[.agg (Win.arr ⟨a, b⟩), .bool c])) w' := by subst h; exact ⟨rfl, hw⟩
theorem Ret.winE {w w' : World} {x : (Int × Int) × Int} {a b c : Int} (h : x = ((a, b), c)) (hw : Below w.heap.size w w') : Ret w (winEVal x) (.returned (.tuple #[.agg (Win.arr ⟨a, b⟩), .int .i64 c])) w' := by subst h; exact ⟨rfl, hw⟩
theorem wmk (a b : Int) : Win.arr ⟨a, b⟩ = #[.int .i64 a, .int .i64 b] := rfl
theorem winP_1 : winP [45] = ((-200000, 6000000), true) := rfl
theorem winP_2 {s : List UInt8} (h : s ≠ [45]) (h2 : (cutAt 58 s).2.2 = true) : winP s = (((altP (cutAt 58 s).1).1, (altP (cutAt 58 s).2.1).1), (altP (cutAt 58 s).1).2 && (altP (cutAt 58 s).2.1).2) := by unfold winP; rw [if_neg h, if_pos h2]
theorem winP_3 {s : List UInt8} (h : s ≠ [45]) (h2 : (cutAt 58 s).2.2 = false) (h3 : (cutSuf 43 s).2 = true) : winP s = (((altP (cutSuf 43 s).1).1, 6000000), (altP (cutSuf 43 s).1).2) := by unfold winP; rw [if_neg h, if_neg (by simp [h2]), if_pos h3]
theorem winP_4 {s : List UInt8} (h : s ≠ [45]) (h2 : (cutAt 58 s).2.2 = false) (h3 : (cutSuf 43 s).2 = false) (h4 : (cutSuf 45 s).2 = true) : winP s = ((-200000, (altP (cutSuf 45 s).1).1), (altP (cutSuf 45 s).1).2) := by unfold winP; rw [if_neg h, if_neg (by simp [h2]), if_neg (by simp [h3]), if_pos h4]
theorem winP_5 {s : List UInt8} (h : s ≠ [45]) (h2 : (cutAt 58 s).2.2 = false) (h3 : (cutSuf 43 s).2 = false) (h4 : (cutSuf 45 s).2 = false) : winP s = (((altP s).1, (altP s).1), (altP s).2) := by unfold winP; rw [if_neg h, if_neg (by simp [h2]), if_neg (by simp [h3]), if_neg (by simp [h4])]
theorem cutSuf_len (c : UInt8) (s : List UInt8) : (cutSuf c s).1.length ≤ s.length := by unfold cutSuf; split <;> simp
attribute [local go_sem] wmk
theorem spl_win (a b c d : Int) : splice #[.int .i64 a, .int .i64 b] 0 #[.int .i64 c, .int .i64 d] = #[.int .i64 c, .int .i64 d] := rfl
attribute [local go_sem] spl_win
set_option maxHeartbeats 8000000 in
theorem window_any (l : List UInt8) (w : World) (hL : Laid w) (hl : l.length ≤ 4000000000) : Calls Tryz.prog 174 #[.string ⟨l.toArray⟩] w (Ret w (winBVal (winP l))) := by
  by_cases h45 : l = [45]
  · subst h45
    rw [winP_1]
    go_enter Tryz.func174, Tryz.ntmps174
    go_upto_region 1 with (fail)
    have R0 := Blk.new w #[.int .i64 0, .int .i64 0] 24
    have B0 := alloc_below w (.cells #[.int .i64 0, .int .i64 0] 24)
    generalize w.alloc _ = W0 at R0 B0 ⊢
    obtain ⟨g, hg0⟩ : ∃ g, g = w.heap.size := ⟨_, rfl⟩
    rw [← hg0] at R0 ⊢
    have hg := Nat.le_of_eq hg0.symm
    clear hg0
    go_upto_region 2 with (fail)
    have X := Blk.new W0 #[.int .i64 (-200000), .int .i64 6000000] 24
    have R := R0.alloc (.cells #[.int .i64 (-200000), .int .i64 6000000] 24)
    have B := below_step B0 (alloc_below W0 (.cells #[.int .i64 (-200000), .int .i64 6000000] 24))
    have hne : g < W0.heap.size := R0.lt
    clear R0 B0
    generalize W0.alloc _ = W at X R B ⊢
    generalize W0.heap.size = g2 at X hne ⊢
    have LW := hL.below B
    have c4 : Has_win W g2 0 := ⟨⟨-200000, 6000000⟩, X.is_win⟩
    have c5 : of_win W g2 0 = ⟨-200000, 6000000⟩ := of_win_eq X.is_win
    have d2 := R.plain
    have d3 := R.of
    go_wp2
    refine bodyPost_ret (results_win Tryz.results174 _ _ g ⟨-200000, 6000000⟩ rfl (Blk.is_win (x := ⟨-200000, 6000000⟩) (R.set _))) rfl ?_; exact Ret.winB rfl (below_setRow' B hg _)
  · have q45 : (l == [45]) = false := by simpa using h45
    have HP2 := Lib.hid (winP_2 h45)
    have HP3 := Lib.hid (winP_3 h45)
    have HP4 := Lib.hid (winP_4 h45)
    have HP5 := Lib.hid (winP_5 h45)
    have k1 := Lib.hid (fun w L => cut_ret l 58 w L hl)
    have k2 := Lib.hid (fun w => cutSuffix_any 43 l w (by omega))
    have k3 := Lib.hid (fun w => cutSuffix_any 45 l w (by omega))
    have hl1 := cutAt_len 58 l
    have hl2 := cutSuf_len 43 l
    have hl3 := cutSuf_len 45 l
    clear h45
    generalize winP l = out at HP2 HP3 HP4 HP5 ⊢
    generalize cutAt 58 l = q at k1 hl1 HP2 HP3 HP4 HP5
    generalize cutSuf 43 l = q2 at k2 hl2 HP3 HP4 HP5
    generalize cutSuf 45 l = q3 at k3 hl3 HP4 HP5
    obtain ⟨a, b, two⟩ := q
    obtain ⟨a2, up⟩ := q2
    obtain ⟨a3, down⟩ := q3
    simp only at hl1 hl2 hl3 HP2 HP3 HP4 HP5
    obtain ⟨l1, l2⟩ := hl1
    go_enter Tryz.func174, Tryz.ntmps174
    go_upto_region 1 with (fail)
    have R0 := Blk.new w #[.int .i64 0, .int .i64 0] 24
    have B0 := alloc_below w (.cells #[.int .i64 0, .int .i64 0] 24)
    generalize w.alloc _ = W0 at R0 B0 ⊢
    obtain ⟨g, hg0⟩ : ∃ g, g = w.heap.size := ⟨_, rfl⟩
    rw [← hg0] at R0 ⊢
    have hg := Nat.le_of_eq hg0.symm
    clear hg0
    go_upto_region 2 with (fail)
    have X := Blk.new W0 #[.int .i64 (-200000), .int .i64 6000000] 24
    have R := R0.alloc (.cells #[.int .i64 (-200000), .int .i64 6000000] 24)
    have B := below_step B0 (alloc_below W0 (.cells #[.int .i64 (-200000), .int .i64 6000000] 24))
    have hne : g < W0.heap.size := R0.lt
    clear R0 B0
    generalize W0.alloc _ = W at X R B ⊢
    generalize W0.heap.size = g2 at X hne ⊢
    have LW := hL.below B
    go_wp2_with fail
    with_reducible refine callR (k1.out _ LW) ?_
    intro w1 b1 _ _ _
    have X1 := X.step b1
    have R1 := R.step b1
    have B1 := below_step B b1
    have L1 := LW.below b1
    clear X R B LW
    cases two
    · go_wp2_with fail
      with_reducible refine callP (k2.out _) ?_
      cases up
      · go_wp2_with fail
        with_reducible refine callP (k3.out _) ?_
        cases down
        · have ht0 : True := trivial
          have k4 := Lib.hid (fun w L => altitude_any l w L (by omega))
          generalize altP l = z at k4 HP5
          obtain ⟨n, ok⟩ := z
          have HO : Hid (out = ((n, n), ok)) := Lib.hid (by simpa using HP5.out)
          clear HP2 HP3 HP4 HP5
          go_wp2_with fail
          with_reducible refine callR (k4.out _ L1) ?_
          intro w2 b2 _ _ _
          have X2 := X1.step b2
          have R2 := R1.step b2
          have B2 := below_step B1 b2
          have d2 := R2.plain
          have d3 := R2.of
          go_wp2
          refine bodyPost_ret (results_win Tryz.results174 _ _ g ⟨n, n⟩ rfl (Blk.is_win (x := ⟨n, n⟩) (R2.set _))) rfl ?_; exact Ret.winB HO.out (below_setRow' B2 hg _)
        · have ht0 : True := trivial
          have k4 := Lib.hid (fun w L => altitude_any a3 w L (by omega))
          generalize altP a3 = z at k4 HP4
          obtain ⟨n, ok⟩ := z
          have HO : Hid (out = ((-200000, n), ok)) := Lib.hid (by simpa using HP4.out)
          clear HP2 HP3 HP4 HP5
          go_wp2_with fail
          with_reducible refine callR (k4.out _ L1) ?_
          intro w2 b2 _ _ _
          have X2 := X1.step b2
          have x1 := X2.cell 1
          have x2 := X2.frozen 1
          have X3 : Blk (w2.setCell ⟨g2, 1, none⟩ (.int .i64 n)) g2 #[.int .i64 (-200000), .int .i64 n] := X2.setCell 1 (.int .i64 n)
          have R3 := (R1.step b2).setFar (Nat.ne_of_lt hne) 1 (.int .i64 n)
          have B3 := below_setCell (below_step B1 b2) (show w.heap.size ≤ g2 by omega) 1 (.int .i64 n)
          have c4 : Has_win (w2.setCell ⟨g2, 1, none⟩ (.int .i64 n)) g2 0 := ⟨⟨-200000, n⟩, X3.is_win⟩
          have c5 : of_win (w2.setCell ⟨g2, 1, none⟩ (.int .i64 n)) g2 0 = ⟨-200000, n⟩ := of_win_eq X3.is_win
          have d2 := R3.plain
          have d3 := R3.of
          go_wp2
          refine bodyPost_ret (results_win Tryz.results174 _ _ g ⟨-200000, n⟩ rfl (Blk.is_win (x := ⟨-200000, n⟩) (R3.set _))) rfl ?_; exact Ret.winB HO.out (below_setRow' B3 hg _)
      · have ht0 : True := trivial
        have k4 := Lib.hid (fun w L => altitude_any a2 w L (by omega))
        generalize altP a2 = z at k4 HP3
        obtain ⟨n, ok⟩ := z
        have HO : Hid (out = ((n, 6000000), ok)) := Lib.hid (by simpa using HP3.out)
        clear HP2 HP3 HP4 HP5
        go_wp2_with fail
        with_reducible refine callR (k4.out _ L1) ?_
        intro w2 b2 _ _ _
        have X2 := X1.step b2
        have x1 := X2.cell 0
        have x2 := X2.frozen 0
        have X3 : Blk (w2.setCell ⟨g2, 0, none⟩ (.int .i64 n)) g2 #[.int .i64 n, .int .i64 6000000] := X2.setCell 0 (.int .i64 n)
        have R3 := (R1.step b2).setFar (Nat.ne_of_lt hne) 0 (.int .i64 n)
        have B3 := below_setCell (below_step B1 b2) (show w.heap.size ≤ g2 by omega) 0 (.int .i64 n)
        have c4 : Has_win (w2.setCell ⟨g2, 0, none⟩ (.int .i64 n)) g2 0 := ⟨⟨n, 6000000⟩, X3.is_win⟩
        have c5 : of_win (w2.setCell ⟨g2, 0, none⟩ (.int .i64 n)) g2 0 = ⟨n, 6000000⟩ := of_win_eq X3.is_win
        have d2 := R3.plain
        have d3 := R3.of
        go_wp2
        refine bodyPost_ret (results_win Tryz.results174 _ _ g ⟨n, 6000000⟩ rfl (Blk.is_win (x := ⟨n, 6000000⟩) (R3.set _))) rfl ?_; exact Ret.winB HO.out (below_setRow' B3 hg _)
    · have ht0 : True := trivial
      have k4 := Lib.hid (fun w L => altitude_any a w L (by omega))
      have k5 := Lib.hid (fun w L => altitude_any b w L (by omega))
      generalize altP a = z at k4 HP2
      obtain ⟨n, ok⟩ := z
      generalize altP b = z2 at k5 HP2
      obtain ⟨n2, ok2⟩ := z2
      have HO : Hid (out = ((n, n2), ok && ok2)) := Lib.hid (by simpa using HP2.out)
      clear HP2 HP3 HP4 HP5
      go_wp2_with fail
      with_reducible refine callR (k4.out _ L1) ?_
      intro w2 b2 _ _ _
      have L2 := L1.below b2
      go_wp2_with fail
      with_reducible refine callR (k5.out _ L2) ?_
      intro w3 b3 _ _ _
      have R3 := (R1.step b2).step b3
      have B3 := below_step (below_step B1 b2) b3
      have d2 := R3.plain
      have d3 := R3.of
      cases ok
      all_goals
        go_wp2
        refine bodyPost_ret (results_win Tryz.results174 _ _ g ⟨n, n2⟩ rfl (Blk.is_win (x := ⟨n, n2⟩) (R3.set _))) rfl ?_
        exact Ret.winB (by simpa using HO.out) (below_setRow' B3 hg _)
theorem ranged_any (a : Int) (w : World) : Calls Tryz.prog 175 #[.int .i64 a] w (RetP w (.bool (rangedB a))) := by
  go_enter Tryz.func175, Tryz.ntmps175
  go_wp2
  all_goals
    go_ret
    exact RetP.bool (by unfold rangedB; grind) rfl
def parseWinO (s : List UInt8) (q : (Int × Int) × Bool) : (Int × Int) × Int :=
  if q.2 = true then
    if rangedB q.1.1 = true ∧ rangedB q.1.2 = true then
      if q.1.2 < q.1.1 then ((0, 0), 9) else if winS q.1.1 q.1.2 = s then (q.1, 0) else ((0, 0), 4)
    else ((0, 0), 2)
  else ((0, 0), 4)
theorem parseWinO_eq (s : List UInt8) : parseWinS s = parseWinO s (winP s) := rfl
set_option maxHeartbeats 8000000 in
theorem parseWindow_any (l : List UInt8) (w : World) (hL : Laid w) (hl : l.length ≤ 4000000000) : Calls Tryz.prog 103 #[.string ⟨l.toArray⟩] w (Ret w (winEVal (parseWinS l))) := by
  have HE := Lib.hid (parseWinO_eq l)
  have k1 := Lib.hid (fun w L => window_any l w L hl)
  generalize parseWinS l = out at HE ⊢
  generalize winP l = q at HE k1
  obtain ⟨⟨lo, hi⟩, ok⟩ := q
  go_enter Tryz.func103, Tryz.ntmps103
  go_upto_region 1 with (fail)
  have R := Blk.new w #[.int .i64 0, .int .i64 0] 24
  have B := alloc_below w (.cells #[.int .i64 0, .int .i64 0] 24)
  generalize w.alloc _ = W0 at R B ⊢
  obtain ⟨g, hg0⟩ : ∃ g, g = w.heap.size := ⟨_, rfl⟩
  rw [← hg0] at R ⊢
  have hg := Nat.le_of_eq hg0.symm
  clear hg0
  have LW := hL.below B
  go_wp2_with fail
  with_reducible refine callR (k1.out _ LW) ?_
  intro w1 b1 _ _ _
  have R1 := R.step b1
  have B1 := below_step B b1
  have L1 := LW.below b1
  clear R B LW b1 k1
  go_upto_region 2 with (fail)
  have X := Blk.new w1 #[.int .i64 lo, .int .i64 hi] 24
  have R := R1.alloc (.cells #[.int .i64 lo, .int .i64 hi] 24)
  have B := below_step B1 (alloc_below w1 (.cells #[.int .i64 lo, .int .i64 hi] 24))
  have hne : g < w1.heap.size := R1.lt
  clear R1 B1
  generalize w1.alloc _ = W at X R B ⊢
  generalize w1.heap.size = g2 at X hne ⊢
  have LW := hL.below B
  have c4 : Has_win W g2 0 := ⟨⟨lo, hi⟩, X.is_win⟩
  have c5 : of_win W g2 0 = ⟨lo, hi⟩ := of_win_eq X.is_win
  have c1 := X.cell
  have d2 := R.plain
  have d3 := R.of
  cases ok
  · go_wp2
    refine bodyPost_ret (results_win Tryz.results103 _ _ g ⟨0, 0⟩ rfl (Blk.is_win (x := ⟨0, 0⟩) (R.set _))) rfl ?_
    exact Ret.winE HE.out (below_setRow' B hg _)
  · have k2 := Lib.hid (ranged_any lo)
    have k3 := Lib.hid (ranged_any hi)
    cases h1 : rangedB lo
    · have HO := Lib.hid (HE.out.trans (show parseWinO l ((lo, hi), true) = ((0, 0), 2) by simp [parseWinO, h1]))
      rw [h1] at k2
      have HH := Lib.hid h1; clear h1
      go_wp2_with (go_at_call 175; first | (with_reducible refine callP (k2.out _) ?_) | (with_reducible refine callP (k3.out _) ?_))
      refine bodyPost_ret (results_win Tryz.results103 _ _ g ⟨0, 0⟩ rfl (Blk.is_win (x := ⟨0, 0⟩) (R.set _))) rfl ?_
      exact Ret.winE HO.out (below_setRow' B hg _)
    · cases h2 : rangedB hi
      · have HO := Lib.hid (HE.out.trans (show parseWinO l ((lo, hi), true) = ((0, 0), 2) by simp [parseWinO, h1, h2]))
        rw [h1] at k2
        rw [h2] at k3
        have HH := Lib.hid h1; clear h1
        have HH2 := Lib.hid h2; clear h2
        go_wp2_with (go_at_call 175; first | (with_reducible refine callP (k2.out _) ?_) | (with_reducible refine callP (k3.out _) ?_))
        refine bodyPost_ret (results_win Tryz.results103 _ _ g ⟨0, 0⟩ rfl (Blk.is_win (x := ⟨0, 0⟩) (R.set _))) rfl ?_
        exact Ret.winE HO.out (below_setRow' B hg _)
      · have HO := Lib.hid (HE.out.trans (show parseWinO l ((lo, hi), true) = if hi < lo then ((0, 0), 9) else if winS lo hi = l then ((lo, hi), 0) else ((0, 0), 4) by simp [parseWinO, h1, h2]))
        have r1 : -200000 ≤ lo ∧ lo ≤ 6000000 := by simpa [rangedB] using h1
        have r2 : -200000 ≤ hi ∧ hi ≤ 6000000 := by simpa [rangedB] using h2
        rw [h1] at k2
        rw [h2] at k3
        have HH := Lib.hid h1; clear h1
        have HH2 := Lib.hid h2; clear h2
        by_cases hlt : hi < lo
        · have HO2 := Lib.hid (HO.out.trans (if_pos hlt))
          clear r1 r2
          go_wp2_with (go_at_call 175; first | (with_reducible refine callP (k2.out _) ?_) | (with_reducible refine callP (k3.out _) ?_))
          refine bodyPost_ret (results_win Tryz.results103 _ _ g ⟨0, 0⟩ rfl (Blk.is_win (x := ⟨0, 0⟩) (R.set _))) rfl ?_
          exact Ret.winE HO2.out (below_setRow' B hg _)
        · have HO2 := Lib.hid (HO.out.trans (if_neg hlt))
          have k4' := winText_in lo hi W LW ⟨r1.1, by omega, r2.2⟩
          rw [wmk] at k4'
          have k4 := Lib.hid k4'
          clear k4' r1 r2
          generalize winS lo hi = T at k4 HO2
          go_wp2_with (go_at_call 175; first | (with_reducible refine callP (k2.out _) ?_) | (with_reducible refine callP (k3.out _) ?_))
          with_reducible refine callR k4.out ?_
          intro w5 b5 _ _ _
          have X5 := X.step b5
          have R5 := R.step b5
          have B5 := below_step B b5
          clear X R B c4 c5 c1 d2 d3
          have c4 : Has_win w5 g2 0 := ⟨⟨lo, hi⟩, X5.is_win⟩
          have c5 : of_win w5 g2 0 = ⟨lo, hi⟩ := of_win_eq X5.is_win
          have d2 := R5.plain
          have d3 := R5.of
          by_cases hT : T = l
          · have HO3 := Lib.hid (HO2.out.trans (if_pos hT))
            subst hT
            go_wp2
            refine bodyPost_ret (results_win Tryz.results103 _ _ g ⟨lo, hi⟩ rfl (Blk.is_win (x := ⟨lo, hi⟩) (R5.set _))) rfl ?_
            exact Ret.winE HO3.out (below_setRow' B5 hg _)
          · have HO3 := Lib.hid (HO2.out.trans (if_neg hT))
            have hT1 : (T == l) = false := by simpa using hT
            go_wp2
            refine bodyPost_ret (results_win Tryz.results103 _ _ g ⟨0, 0⟩ rfl (Blk.is_win (x := ⟨0, 0⟩) (R5.set _))) rfl ?_
            exact Ret.winE HO3.out (below_setRow' B5 hg _)
end Go.Proofs.YtnmpfmelaninbaaGreatDoor
namespace Go.Proofs.YtnmpfmelaninbaaGreatDoor
open Go.RowKit
def atoiP (l : List UInt8) : Int := match Lib.atoiAll l with | .ok n => n | .range => Lib.atoiSat l | .syntax => 0
structure EditV where
  op : Int
  at_ : Int
  ref : List UInt8
  name : List UInt8
  rway : List UInt8
  trans : List UInt8
  lo : Int
  hi : Int
  speed : Int
  course : Int
  dist : Int
  turn : Int
def edit0 : EditV := ⟨0, 0, [], [], [], [], 0, 0, 0, 0, 0, 0⟩
def edOrder : List UInt8 := [97, 114, 110, 119, 116, 104, 115, 99, 100, 117]
def formF (op : Int) : List UInt8 :=
  ([[], [97, 114], [97], [97], [97, 104], [97, 115], [97, 100], [97, 99, 100, 117], [97, 114, 110], [110, 119, 116], [110, 119, 116], [110, 116], [97, 110]] : List (List UInt8)).getD op.toNat []
def formW (op : Int) : List UInt8 :=
  ([[], [73, 78, 83, 69, 82, 84], [68, 69, 76, 69, 84, 69], [68, 73, 82, 69, 67, 84], [65, 76, 84], [83, 80, 68], [82, 78, 80], [72, 79, 76, 68], [65, 73, 82, 87, 65, 89],
    [68, 69, 80, 65, 82, 84, 85, 82, 69], [65, 82, 82, 73, 86, 65, 76], [65, 80, 80, 82, 79, 65, 67, 72], [68, 73, 86, 69, 82, 84]] : List (List UInt8)).getD op.toNat []
def betweenS (n lo hi : Int) : Int := if n < lo ∨ hi < n then 2 else 0
def namedS (b : Bool) : Int := if b then 0 else 5
def checkF (e : EditV) (c : UInt8) : Int :=
  if c = 97 then betweenS e.at_ 0 60
  else if c = 114 then namedS (refB e.ref)
  else if c = 110 then (if e.op = 12 then namedS (pairB e.name 47 6) else namedS (nameB e.name 8))
  else if c = 119 then namedS (e.rway.isEmpty || nameB e.rway 6)
  else if c = 116 then namedS (e.trans.isEmpty || nameB e.trans 8)
  else if c = 104 then (if e.lo < -200000 ∨ e.hi < e.lo ∨ 6000000 < e.hi then 2 else 0)
  else if c = 115 then betweenS e.speed 0 1000
  else if c = 99 then betweenS e.course 0 129599999
  else if c = 100 then (if e.op = 6 then betweenS e.dist 0 120000 else betweenS e.dist 1 2000000)
  else if c = 117 then (if e.turn = 1 ∨ e.turn = 2 then 0 else 1)
  else 0
def zeroF (e : EditV) (c : UInt8) : Bool :=
  if c = 97 then e.at_ == 0
  else if c = 114 then e.ref.isEmpty
  else if c = 110 then e.name.isEmpty
  else if c = 119 then e.rway.isEmpty
  else if c = 116 then e.trans.isEmpty
  else if c = 104 then e.lo == 0 && e.hi == 0
  else if c = 115 then e.speed == 0
  else if c = 99 then e.course == 0
  else if c = 100 then e.dist == 0
  else e.turn == 0
def stE (e : EditV) (c : UInt8) : Int := if (formF e.op).contains c then checkF e c else if zeroF e c then 0 else 1
def chkGo (e : EditV) : List UInt8 → Int
  | [] => 0
  | c :: r => orE (stE e c) (chkGo e r)
def editCheck (e : EditV) : Int := if e.op < 1 ∨ 12 < e.op then 17 else chkGo e edOrder
def writeF (e : EditV) (c : UInt8) : List UInt8 :=
  if c = 97 then Lib.itoa e.at_
  else if c = 114 then e.ref
  else if c = 110 then e.name
  else if c = 119 then dashB e.rway
  else if c = 116 then dashB e.trans
  else if c = 104 then (winT e.lo e.hi).1
  else if c = 115 then Lib.itoa e.speed
  else if c = 99 then exactS e.course.toNat
  else if c = 100 then (distT e.dist).1
  else if e.turn = 1 then [76] else [82]
def tailT (e : EditV) : List UInt8 → List UInt8
  | [] => []
  | c :: r => 32 :: (writeF e c ++ tailT e r)
def editText (e : EditV) : List UInt8 := if editCheck e != 0 then [] else formW e.op ++ tailT e (formF e.op)
def readF (e : EditV) (c : UInt8) (s : List UInt8) : EditV :=
  if c = 97 then { e with at_ := atoiP s }
  else if c = 114 then { e with ref := s }
  else if c = 110 then { e with name := s }
  else if c = 119 then (if s = [45] then e else { e with rway := s })
  else if c = 116 then (if s = [45] then e else { e with trans := s })
  else if c = 104 then { e with lo := (parseWinS s).1.1, hi := (parseWinS s).1.2 }
  else if c = 115 then { e with speed := numP s }
  else if c = 99 then { e with course := (parseExS s).1 }
  else if c = 100 then { e with dist := (distP s).1 }
  else { e with turn := if s = [76] then 1 else 2 }
def readGo : EditV → List UInt8 → List (List UInt8) → EditV
  | e, c :: r, s :: ws => readGo (readF e c s) r ws
  | e, _, _ => e
def okP (s : List UInt8) (e : EditV) : Option EditV := if editText e = s then some e else none
def tryOp (s : List UInt8) (ws : List (List UInt8)) (op : Int) : Option EditV :=
  if op = 0 ∨ formW op ≠ ws.headD [] ∨ (formF op).length ≠ ws.length - 1 then none
  else okP s (readGo { edit0 with op := op } (formF op) ws.tail)
def parseFrom (s : List UInt8) (ws : List (List UInt8)) : Nat → Nat → EditV × Int
  | _, 0 => (edit0, 4)
  | k, n + 1 => match tryOp s ws k with
    | some e => (e, 0)
    | none => parseFrom s ws (k + 1) n
def editParse (s : List UInt8) : EditV × Int := parseFrom s (splitC 32 s) 0 13
end Go.Proofs.YtnmpfmelaninbaaGreatDoor
namespace Go.Proofs.YtnmpfmelaninbaaGreatDoor
open Go.RowKit
/-! What the two parsers answer. -/
def plan0 : Plan := ⟨[], [], [], 0⟩
end Go.Proofs.YtnmpfmelaninbaaGreatDoor
