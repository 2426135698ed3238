/- A region that draws its order, whose first n operations only read or call what keeps memory, and whose last ones come in one order: one walk. No condition. strings.Join over strings as lists of bytes; plan.dash, plan.point. leg.Text: the words of a leg, joined; the texts of its numbers are told by the callees' contracts. Printed by wip/mklegtext.py. Decimal numbers: the contracts of the functions that write and read them. Plain numbers and digits: record.plain, angle.number and what the references have for them. Digits of a fixed width, and the references' own decimal numbers. Slices of bytes of the call's own. Directions in degrees, minutes, seconds and hundredths: angle.Exact, angle.ParseExact and what the references have for them. Directions read: angle.ParseExact and what the references have for them. angle.join, angle.ParseExact, leg.course and what the references have for them. The texts of altitudes, windows and distances, and what such texts mean; the two are inverse. No program in sight. The texts of altitudes, windows and distances: record.AltText, WindowText, DistText and what the references have for them. The texts of windows and distances: record.WindowText, DistText, leg.distance and what the references have for them. A text and its words: cut at every blank, and joined again. No program in sight. What leg.Parse computes, in plain Lean: words taken one by one, each accepted or not. The texts of a valid leg's numbers, and leg.Text of a valid leg. The words of a leg's text and what is read of them, in plain Lean: word by word they are inverse. What leg.Parse reads of the first words of a valid leg's text, in plain Lean; and that what it accepts is the text of the leg. Plans' texts in plain Lean: cut into lines and words again. No program in sight. The text of a plan, in plain Lean. Plans' texts in plain Lean: the loose reading of a valid plan's text is the plan. No program in sight. What the reference reads an altitude as, in plain Lean: form, range and number; the same windows as the program's. -/
import Derived.Test.YtcgmemkkcaipfaaGreatDoorPk12
import Derived.StillTail
import Derived.Lib.QuietBelow
import Derived.Test.YtcgmemkkcaipfaaGreatDoorPk13
import Derived.Lib.Join
import Derived.Lib.ItoaLen
import Derived.Test.YtcgmemkkcaipfaaGreatDoorPk01
import Derived.Test.YtcgmemkkcaipfaaGreatDoorPk03
import Derived.Laws.OwnMore
import Derived.Lib.AppendStr
import Derived.Lib.Split
import Derived.Test.YtcgmemkkcaipfaaGreatDoorPk05
import Derived.Test.YtcgmemkkcaipfaaGreatDoorPk09
import Derived.Lib.ParseIntBCases
namespace Go.Proofs.YtcgmemkkcaipfaaGreatDoor
open Go.RowKit Go.Sort
set_option linter.unusedVariables false
set_option linter.unusedSimpArgs false
section
variable {P : Program} {ops : Array Oper} {md : Region.Mode} {C : World → Prop}
def wpAnyT (P : Program) (md : Region.Mode) (ops : Array Oper) (C : World → Prop) (n : Nat) (L : Array Bool → Act → Prop) : Nat → Array Bool → Act → Prop
  | 0, listed, a => L listed a
  | f + 1, listed, a =>
    Region.ready md ops listed ≠ [] ∧ ∀ i ∈ Region.ready md ops listed, i < n ∧ qOp P ops C i (wpAnyT P md ops C n L f (listed.setIfInBounds i true)) a
theorem wpAny_of_headT {n g : Nat} {L : Array Bool → Act → Prop} {Q' : Exit → Act → World → Prop} (hL : ∀ listed a w, C w → L listed a → wpAny P md ops Q' g listed a w) :
    ∀ (f : Nat) (listed : Array Bool) (a : Act) (w : World), C w → wpAnyT P md ops C n L f listed a → wpAny P md ops Q' (f + g) listed a w
  | 0, listed, a, w, hw, h => by rw [Nat.zero_add]; exact hL _ _ _ hw h
  | f + 1, listed, a, w, hw, h => by
    rw [show f + 1 + g = (f + g) + 1 by omega]
    exact ⟨fun h0 => absurd h0 h.1, fun i hi => wpOp_of_qOp hw (fun a' w' hw' h' => wpAny_of_headT hL f _ a' w' hw' h') (h.2 i hi).2⟩
theorem wpAnyT_first {n i : Nat} {oi : Oper} {v : Value} {L : Array Bool → Act → Prop} (hi : ops[i]? = some oi) (hsel : ∀ (j : Nat) (o : Oper) cs b, ops[j]? = some o → o.op ≠ .select cs b)
    (hs : Region.sinkB md ops n = true) (hc : Region.chainB md ops n = true) (hn : n < ops.size) (hin : i < n)
    (hdone : ∀ listed a, L listed a → ∀ j ∈ Region.ready md ops listed, n ≤ j) :
    ∀ (f : Nat) (listed : Array Bool) (a : Act), HeadInv md ops n listed →
      (∀ j oj, ops[j]? = some oj → j ≠ i → listed.getD j true = false → (∀ e ∈ oj.after, Region.binds md e = true → e.on ≠ i) → oi.apart ops oj = true) →
      i ∈ Region.ready md ops listed → YieldsIn P ops C oi v a →
      wpAnyT P md ops C n L f (listed.setIfInBounds i true) (a.put oi.dst v) → wpAnyT P md ops C n L (f + 1) listed a := by
  intro f
  induction f with
  | zero =>
    intro listed a inv _ hr hy H
    have hun := (mem_ready.1 hr).1
    refine ⟨fun h => (by rw [h] at hr; cases hr), fun j hj => ?_⟩
    have hjn : j < n := by
      rcases Nat.lt_or_ge j n with h | h
      · exact h
      · exact absurd hj (tail_waits hs hc hn inv _ i rfl hin hun j h)
    refine ⟨hjn, ?_⟩
    by_cases hji : j = i
    · subst hji; exact hy.qOp hi H
    · have := hdone _ _ H j (ready_mono hj hji)
      omega
  | succ f ih =>
    intro listed a inv hfree hr hy H
    have hun := (mem_ready.1 hr).1
    refine ⟨fun h => (by rw [h] at hr; cases hr), fun j hj => ?_⟩
    have hjn : j < n := by
      rcases Nat.lt_or_ge j n with h | h
      · exact h
      · exact absurd hj (tail_waits hs hc hn inv _ i rfl hin hun j h)
    refine ⟨hjn, ?_⟩
    by_cases hji : j = i
    · subst hji; exact hy.qOp hi H
    · have h1 := (H.2 j (ready_mono hj hji)).2
      obtain ⟨hjun, oj, hoj, hall⟩ := mem_ready.1 hj
      have hnot : ∀ e ∈ oj.after, Region.binds md e = true → e.on ≠ i := fun e he hb heq => by
        have h1 := hall e he hb
        rw [heq, getD_both hun] at h1
        cases h1
      have h2 := qOp_put hoj (hfree j oj hoj hji hjun hnot) (fun cs b => hsel i oi cs b hi) (fun cs b => hsel j oj cs b hoj) hy h1
      have hfree' : ∀ k ok, ops[k]? = some ok → k ≠ i → (listed.setIfInBounds j true).getD k true = false →
          (∀ e ∈ ok.after, Region.binds md e = true → e.on ≠ i) → oi.apart ops ok = true := fun k ok hk hki hun hno => by
        refine hfree k ok hk hki ?_ hno
        by_cases hjk : j = k
        · subst hjk; exact hjun
        · rw [getD_set_ne true hjk] at hun; exact hun
      refine qOp_mono (fun a' h3 => ih (listed.setIfInBounds j true) a' (inv.set hj hjn) hfree' (ready_mono hr (Ne.symm hji)) h3.1 ?_) h2
      rw [Array.setIfInBounds_comm _ _ hji]
      exact h3.2
theorem wpAnyT_lex {n g : Nat} {Lq : Act → Prop} (hsel : Region.noSelect ops = true) (hs : Region.sinkB md ops n = true) (hc : Region.chainB md ops n = true) (hn : n < ops.size) :
    ∀ (l : List Oper) (k : Nat) (listed : Array Bool) (a : Act), (∀ j, j < l.length → l[j]? = ops[k + j]?) → k + l.length = n → HeadInv md ops n listed →
    Region.lexHead md ops g l.length k listed = true → wpQuiet P ops C Lq l a →
    wpAnyT P md ops C n (fun listed' a' => Region.seqB md ops g n listed' = true ∧ Lq a') l.length listed a
  | [], k, listed, a, _, hk, _, hB, h => by
    have : k = n := by simpa using hk
    subst this
    exact ⟨by simpa [Region.lexHead] using hB, h⟩
  | o :: l, k, listed, a, hl, hk, inv, hB, h => by
    have h0 : ops[k]? = some o := by simpa using (hl 0 (by simp)).symm
    simp only [List.length_cons, Region.lexHead, Bool.and_eq_true] at hB
    obtain ⟨⟨hr, hf⟩, hB'⟩ := hB
    have hkn : k < n := by simp only [List.length_cons] at hk; omega
    have hr' : k ∈ Region.ready md ops listed := by simpa using hr
    have hst : qOp P ops C k (wpQuiet P ops C Lq l) a := by unfold qOp; simp only [h0]; exact h
    obtain ⟨v, hy, hK⟩ := yieldsIn_of_qOp h0 hst
    exact wpAnyT_first h0 (Region.noSelect_spec hsel) hs hc hn hkn (fun listed' a' hL => seqB_ready hL.1) l.length listed a inv (Region.free_spec h0 hf) hr' hy
      (wpAnyT_lex hsel hs hc hn l (k + 1) _ _ (fun j hj => by have := hl (j + 1) (by simp; omega); simpa [Nat.add_assoc, Nat.add_comm 1 j] using this) (by simp only [List.length_cons] at hk; omega) (inv.set hr' hkn) hB' hK)
theorem wp_region_quiet_tail {id : Nat} {Q : Exit → Act → World → Prop} {a : Act} {w : World} {l : List Oper} (n : Nat) (hm : P.follows .mixedOrders = true) (hB : Region.lexTailB .any l.toArray n = true) (hC : C { w with drawn := w.drawn + 1 })
    (h : wpQuiet P l.toArray C (fun a' => ∀ w', C w' → wpList P l.toArray Q (l.drop n) a' w') (l.take n) a) : (Code.region id l.toArray true).wp P Q a w := by
  simp only [Region.lexTailB, Bool.and_eq_true, decide_eq_true_eq] at hB
  obtain ⟨⟨⟨⟨hsel, hn⟩, hs⟩, hc⟩, hlex⟩ := hB
  have hn' : n < l.length := by simpa using hn
  have htl : (l.take n).length = n := by simp; omega
  have hdl : (l.drop n).length = l.toArray.size - n := by simp
  have inv0 : HeadInv .any l.toArray n (Array.replicate l.toArray.size false) :=
    ⟨by simp, fun j oj _ hl => (by rw [getD_replicate_false] at hl; cases hl), fun t _ ht => getD_in (by simpa using ht) (getD_replicate_false _ _)⟩
  have H := wpAnyT_lex (md := .any) (g := l.toArray.size - n) hsel hs hc hn (l.take n) 0 _ a (fun j hj => by
    have hj' : j < n := by rw [htl] at hj; exact hj
    simp [hj']) (by simpa using htl) inv0 (by rw [htl]; exact hlex) h
  refine wp_region_any hm ?_
  have := wpAny_of_headT (Q' := Q) (g := l.toArray.size - n) (fun listed a' w' hw' hL => by
    have := wpAny_of_seq (l.drop n) n listed a' w' (fun j => by simp) (by rw [hdl]; exact hL.1) (hL.2 w' hw')
    rw [hdl] at this
    exact this) _ _ _ _ hC H
  rw [htl] at this
  rw [show n + (l.toArray.size - n) = l.toArray.size by simp; omega] at this
  exact this
/-- The same at the class 'what was in memory is as it was'. -/
theorem wp_region_tail_below {id : Nat} {Q : Exit → Act → World → Prop} {a : Act} {w : World} {l : List Oper} (n : Nat) (hm : P.follows .mixedOrders = true) (hB : Region.lexTailB .any l.toArray n = true)
    (h : wpQuiet P l.toArray (fun w' => ∃ p : Regrown, w' = grow (redrawn w p.d) p.os) (fun a' => ∀ w', (∃ p : Regrown, w' = grow (redrawn w p.d) p.os) → wpList P l.toArray Q (l.drop n) a' w') (l.take n) a) : (Code.region id l.toArray true).wp P Q a w :=
  wp_region_quiet_tail n hm hB ⟨⟨w.drawn + 1, #[]⟩, by rw [grow_empty]; rfl⟩ h
theorem Calls.regrown_ret {f : FuncId} {args : Array Value} {w : World} {d : Nat} {os : Array Obj} {v : Value}
    (h : Calls P f args (grow (redrawn w d) os) (Ret (grow (redrawn w d) os) v)) : Calls P f args (grow (redrawn w d) os) fun e w'' => e = .returned v ∧ ∃ p : Regrown, w'' = grow (redrawn w p.d) p.os := Calls.regrown_of h
/-! The same where the first operation (a copy) is taken ahead: what waits for it may come behind the head. -/
def sinkF (md : Region.Mode) (ops : Array Oper) (m n : Nat) : Bool :=
  (List.range n).all fun i => decide (i < m) || (List.range (n + 1)).any fun j => decide (i < j) && Region.waitsFor md ops j i
theorem tail_waitsF {m n : Nat} {listed : Array Bool} (hs : sinkF md ops m n = true) (hc : Region.chainB md ops n = true) (hn : n < ops.size) (inv : HeadInv md ops n listed) :
    ∀ (d i : Nat), n - i = d → m ≤ i → i < n → listed.getD i true = false → ∀ t, n ≤ t → t ∉ Region.ready md ops listed := by
  intro d
  induction d using Nat.strongRecOn with
  | _ d ih =>
    intro i hd hmi hi hun t ht hr
    obtain ⟨_, ot, hot, hall⟩ := mem_ready.1 hr
    have htlt : t < ops.size := (Array.getElem?_eq_some_iff.1 hot).1
    by_cases htn : t = n
    · subst htn
      have h1 := List.all_eq_true.1 hs i (List.mem_range.2 hi)
      have hnm : ¬ i < m := by omega
      simp only [Bool.or_eq_true, decide_eq_true_eq, hnm, false_or] at h1
      obtain ⟨j, hj, hj2⟩ := List.any_eq_true.1 h1
      simp only [Bool.and_eq_true, decide_eq_true_eq] at hj2
      obtain ⟨oj, hoj, e, he, hb, hon⟩ := Region.waitsFor_spec hj2.2
      have hjle : j ≤ t := by have := List.mem_range.1 hj; omega
      by_cases hjt : j = t
      · subst hjt
        have : oj = ot := Option.some.inj (hoj.symm.trans hot)
        subst this
        have h2 := hall e he hb
        rw [hon, getD_both hun] at h2
        cases h2
      · cases hl : listed.getD j false with
        | true =>
          have h2 := inv.closed j oj hoj hl e he hb
          rw [hon, getD_both hun] at h2
          cases h2
        | false =>
          have hjs : j < listed.size := by rw [inv.size]; omega
          exact ih (t - j) (by omega) j rfl (by omega) (by omega) (getD_in hjs hl) t (Nat.le_refl _) hr
    · have h1 := List.all_eq_true.1 hc t (List.mem_range.2 htlt)
      simp only [Bool.or_eq_true, decide_eq_true_eq] at h1
      rcases h1 with h1 | h1
      · omega
      · obtain ⟨o', ho', e, he, hb, hon⟩ := Region.waitsFor_spec h1
        have : o' = ot := Option.some.inj (ho'.symm.trans hot)
        subst this
        have h2 := hall e he hb
        rw [hon, getD_both (inv.tail (t - 1) (by omega) (by omega))] at h2
        cases h2
theorem wpAnyF_first {m n i : Nat} {oi : Oper} {v : Value} {L : Array Bool → Act → Prop} (hi : ops[i]? = some oi) (hsel : ∀ (j : Nat) (o : Oper) cs b, ops[j]? = some o → o.op ≠ .select cs b)
    (hs : sinkF md ops m n = true) (hc : Region.chainB md ops n = true) (hn : n < ops.size) (hmi : m ≤ i) (hin : i < n)
    (hdone : ∀ listed a, L listed a → ∀ j ∈ Region.ready md ops listed, n ≤ j) :
    ∀ (f : Nat) (listed : Array Bool) (a : Act), HeadInv md ops n listed →
      (∀ j oj, ops[j]? = some oj → j ≠ i → listed.getD j true = false → (∀ e ∈ oj.after, Region.binds md e = true → e.on ≠ i) → oi.apart ops oj = true) →
      i ∈ Region.ready md ops listed → YieldsIn P ops C oi v a →
      wpAnyT P md ops C n L f (listed.setIfInBounds i true) (a.put oi.dst v) → wpAnyT P md ops C n L (f + 1) listed a := by
  intro f
  induction f with
  | zero =>
    intro listed a inv _ hr hy H
    have hun := (mem_ready.1 hr).1
    refine ⟨fun h => (by rw [h] at hr; cases hr), fun j hj => ?_⟩
    have hjn : j < n := by
      rcases Nat.lt_or_ge j n with h | h
      · exact h
      · exact absurd hj (tail_waitsF hs hc hn inv _ i rfl hmi hin hun j h)
    refine ⟨hjn, ?_⟩
    by_cases hji : j = i
    · subst hji; exact hy.qOp hi H
    · have := hdone _ _ H j (ready_mono hj hji)
      omega
  | succ f ih =>
    intro listed a inv hfree hr hy H
    have hun := (mem_ready.1 hr).1
    refine ⟨fun h => (by rw [h] at hr; cases hr), fun j hj => ?_⟩
    have hjn : j < n := by
      rcases Nat.lt_or_ge j n with h | h
      · exact h
      · exact absurd hj (tail_waitsF hs hc hn inv _ i rfl hmi hin hun j h)
    refine ⟨hjn, ?_⟩
    by_cases hji : j = i
    · subst hji; exact hy.qOp hi H
    · have h1 := (H.2 j (ready_mono hj hji)).2
      obtain ⟨hjun, oj, hoj, hall⟩ := mem_ready.1 hj
      have hnot : ∀ e ∈ oj.after, Region.binds md e = true → e.on ≠ i := fun e he hb heq => by
        have h1 := hall e he hb
        rw [heq, getD_both hun] at h1
        cases h1
      have h2 := qOp_put hoj (hfree j oj hoj hji hjun hnot) (fun cs b => hsel i oi cs b hi) (fun cs b => hsel j oj cs b hoj) hy h1
      have hfree' : ∀ k ok, ops[k]? = some ok → k ≠ i → (listed.setIfInBounds j true).getD k true = false →
          (∀ e ∈ ok.after, Region.binds md e = true → e.on ≠ i) → oi.apart ops ok = true := fun k ok hk hki hun hno => by
        refine hfree k ok hk hki ?_ hno
        by_cases hjk : j = k
        · subst hjk; exact hjun
        · rw [getD_set_ne true hjk] at hun; exact hun
      refine qOp_mono (fun a' h3 => ih (listed.setIfInBounds j true) a' (inv.set hj hjn) hfree' (ready_mono hr (Ne.symm hji)) h3.1 ?_) h2
      rw [Array.setIfInBounds_comm _ _ hji]
      exact h3.2
theorem wpAnyF_lex {m n g : Nat} {Lq : Act → Prop} (hsel : Region.noSelect ops = true) (hs : sinkF md ops m n = true) (hc : Region.chainB md ops n = true) (hn : n < ops.size) :
    ∀ (l : List Oper) (k : Nat) (listed : Array Bool) (a : Act), (∀ j, j < l.length → l[j]? = ops[k + j]?) → m ≤ k → k + l.length = n → HeadInv md ops n listed →
    Region.lexHead md ops g l.length k listed = true → wpQuiet P ops C Lq l a →
    wpAnyT P md ops C n (fun listed' a' => Region.seqB md ops g n listed' = true ∧ Lq a') l.length listed a
  | [], k, listed, a, _, _, hk, _, hB, h => by
    have : k = n := by simpa using hk
    subst this
    exact ⟨by simpa [Region.lexHead] using hB, h⟩
  | o :: l, k, listed, a, hl, hmk, hk, inv, hB, h => by
    have h0 : ops[k]? = some o := by simpa using (hl 0 (by simp)).symm
    simp only [List.length_cons, Region.lexHead, Bool.and_eq_true] at hB
    obtain ⟨⟨hr, hf⟩, hB'⟩ := hB
    have hkn : k < n := by simp only [List.length_cons] at hk; omega
    have hr' : k ∈ Region.ready md ops listed := by simpa using hr
    have hst : qOp P ops C k (wpQuiet P ops C Lq l) a := by unfold qOp; simp only [h0]; exact h
    obtain ⟨v, hy, hK⟩ := yieldsIn_of_qOp h0 hst
    exact wpAnyF_first h0 (Region.noSelect_spec hsel) hs hc hn hmk hkn (fun listed' a' hL => seqB_ready hL.1) l.length listed a inv (Region.free_spec h0 hf) hr' hy
      (wpAnyF_lex hsel hs hc hn l (k + 1) _ _ (fun j hj => by have := hl (j + 1) (by simp; omega); simpa [Nat.add_assoc, Nat.add_comm 1 j] using this) (by omega) (by simp only [List.length_cons] at hk; omega) (inv.set hr' hkn) hB' hK)
def lexTailF (ops : Array Oper) (n : Nat) : Bool :=
  Region.noSelect ops && decide (n < ops.size) && decide (1 ≤ n) && sinkF .any ops 1 n && Region.chainB .any ops n && Region.free .any ops (Array.replicate ops.size false) 0 && (Region.ready .any ops (Array.replicate ops.size false)).contains 0 &&
    Region.lexHead .any ops (ops.size - n) (n - 1) 1 ((Array.replicate ops.size false).setIfInBounds 0 true)
theorem wp_region_take_tail {id : Nat} {Q : Exit → Act → World → Prop} {a : Act} {w : World} {o0 : Oper} {l : List Oper} {v0 : Value} (n : Nat) (hm : P.follows .mixedOrders = true) (hB : lexTailF (o0 :: l).toArray n = true)
    (hQ : ∀ c a w, Q (.panic c) (a.put o0.dst v0) w → Q (.panic c) a w) (hy : Yields P (o0 :: l).toArray o0 v0 a) (hC : C { w with drawn := w.drawn + 1 })
    (h : wpQuiet P (o0 :: l).toArray C (fun a' => ∀ w', C w' → wpList P (o0 :: l).toArray Q ((o0 :: l).drop n) a' w') (l.take (n - 1)) (a.put o0.dst v0)) : (Code.region id (o0 :: l).toArray true).wp P Q a w := by
  simp only [lexTailF, Bool.and_eq_true, decide_eq_true_eq] at hB
  obtain ⟨⟨⟨⟨⟨⟨⟨hsel, hn⟩, hn1⟩, hs⟩, hc⟩, hf0⟩, hr0⟩, hlex⟩ := hB
  have hn' : n < l.length + 1 := by simpa using hn
  have htl : (l.take (n - 1)).length = n - 1 := by simp; omega
  have hdl : ((o0 :: l).drop n).length = (o0 :: l).toArray.size - n := by simp
  have inv0 : HeadInv .any (o0 :: l).toArray n (Array.replicate (o0 :: l).toArray.size false) :=
    ⟨by simp, fun j oj _ hl => (by rw [getD_replicate_false] at hl; cases hl), fun t _ ht => getD_in (by simpa using ht) (getD_replicate_false _ _)⟩
  have inv1 := inv0.set (i := 0) (by simpa using hr0) (by omega)
  have H := wpAnyF_lex (md := .any) (m := 1) (g := (o0 :: l).toArray.size - n) hsel hs hc hn (l.take (n - 1)) 1 _ (a.put o0.dst v0) (fun j hj => by
    have hj' : j < n - 1 := by rw [htl] at hj; exact hj
    rw [List.getElem?_take, if_pos hj', Nat.add_comm 1 j]; simp) (Nat.le_refl _) (by omega) inv1 (by rw [htl]; exact hlex) h
  refine wp_region_any hm ?_
  have := wpAny_of_headT (Q' := Q) (g := (o0 :: l).toArray.size - n) (fun listed a' w' hw' hL => by
    have := wpAny_of_seq ((o0 :: l).drop n) n listed a' w' (fun j => by simp) (by rw [hdl]; exact hL.1) (hL.2 w' hw')
    rw [hdl] at this
    exact this) _ _ _ _ hC H
  rw [htl] at this
  have h2 := wpAny_take (Q := Q) (i := 0) (oi := o0) (v := v0) (by simp) hsel hf0 hr0 hQ hy this
  rw [show n - 1 + ((o0 :: l).toArray.size - n) + 1 = (o0 :: l).toArray.size by simp; omega] at h2
  exact h2
theorem wp_region_take_tail_below {id : Nat} {Q : Exit → Act → World → Prop} {a : Act} {w : World} {o0 : Oper} {l : List Oper} (v0 : Value) (n : Nat) (hm : P.follows .mixedOrders = true) (hB : lexTailF (o0 :: l).toArray n = true)
    (hQ : ∀ c a w, Q (.panic c) (a.put o0.dst v0) w → Q (.panic c) a w) (hy : Yields P (o0 :: l).toArray o0 v0 a)
    (h : wpQuiet P (o0 :: l).toArray (fun w' => ∃ p : Regrown, w' = grow (redrawn w p.d) p.os) (fun a' => ∀ w', (∃ p : Regrown, w' = grow (redrawn w p.d) p.os) → wpList P (o0 :: l).toArray Q ((o0 :: l).drop n) a' w') (l.take (n - 1)) (a.put o0.dst v0)) : (Code.region id (o0 :: l).toArray true).wp P Q a w :=
  wp_region_take_tail n hm hB hQ hy ⟨⟨w.drawn + 1, #[]⟩, by rw [grow_empty]; rfl⟩ h
end
end Go.Proofs.YtcgmemkkcaipfaaGreatDoor
namespace Go.Proofs.YtcgmemkkcaipfaaGreatDoor
open Go.RowKit Go.Sort
set_option linter.unusedVariables false
set_option linter.unusedSimpArgs false
theorem ba_append (a b : List UInt8) : (ByteArray.mk a.toArray) ++ (ByteArray.mk b.toArray) = ⟨(a ++ b).toArray⟩ := by
  apply ByteArray.ext
  simp [ByteArray.data_append]
theorem ba_maps (ws : List (List UInt8)) : (ws.map fun s => ByteArray.mk s.toArray).map (·.data.toList) = ws := by
  induction ws with
  | nil => rfl
  | cons x r ih => simp [ih]
theorem lens_le : ∀ (ws : List (List UInt8)) (m : Nat), (∀ s ∈ ws, s.length ≤ m) → Lib.lens ws ≤ m * ws.length
  | [], m, _ => by simp [Lib.lens]
  | x :: r, m, h => by
    have h1 := lens_le r m fun s hs => h s (by simp [hs])
    have h2 := h x (by simp)
    have e : Lib.lens (x :: r) = x.length + Lib.lens r := rfl
    rw [e, List.length_cons, Nat.mul_add]; omega
theorem join_len_le (ws : List (List UInt8)) (sep : List UInt8) (m : Nat) (h : ∀ s ∈ ws, s.length ≤ m) : (Lib.join ws sep).length ≤ (m + sep.length) * ws.length := by
  cases ws with
  | nil => simp [Lib.join, List.intercalate]
  | cons x r =>
    rw [Lib.join_length, Nat.add_mul]
    have := lens_le (x :: r) m h
    have h2 : sep.length * r.length ≤ sep.length * (x :: r).length := Nat.mul_le_mul_left _ (by simp)
    omega
def dashB (s : List UInt8) : List UInt8 := if s.isEmpty then [45] else s
def cat (a b : List UInt8) : List UInt8 := a ++ b
theorem cat_len (a b : List UInt8) : (cat a b).length = a.length + b.length := by simp [cat]
theorem ba_cat (a b : List UInt8) : (ByteArray.mk a.toArray) ++ (ByteArray.mk b.toArray) = ⟨(cat a b).toArray⟩ := ba_append a b
attribute [local go_sem] ba_append
def pointText (ref : List UInt8) (x y : Int) : List UInt8 := if ref.isEmpty then [45] else Lib.itoa x ++ [44] ++ Lib.itoa y
theorem callG {P : Program} {f : FuncId} {args : Array Value} {W : World} {v : Value} (h : Calls P f args W fun e w' => e = .returned v ∧ ∃ k os, w' = grow (W.drewN k) os) : Calls P f args W (Ret W v) :=
  h.mono fun e w' ⟨he, k, os, hw⟩ => ⟨he, by rw [hw]; exact below_regrown W (W.drawn + k) os⟩
theorem itoa_len (n : Int) (h0 : -9223372036854775808 ≤ n) (h1 : n ≤ 9223372036854775807) : (Lib.itoa n).length ≤ 21 := Lib.itoa_length_le n h0 h1
theorem fmt_any (n : Int) (h0 : -9223372036854775808 ≤ n) (h1 : n ≤ 9223372036854775807) (w : World) (hL : Laid w) : Calls Tryz.prog 102 #[.int .i64 n, .int .i64 10] w (Ret w (.string ⟨(Lib.itoa n).toArray⟩)) :=
  callG (Tryz.strconv_FormatInt_10 n h0 h1 w hL.pow10)
theorem itoa_any (n : Int) (h0 : -9223372036854775808 ≤ n) (h1 : n ≤ 9223372036854775807) (w : World) (hL : Laid w) : Calls Tryz.prog 99 #[.int .i64 n] w (Ret w (.string ⟨(Lib.itoa n).toArray⟩)) :=
  callG (Tryz.strconv_Itoa n h0 h1 w hL.pow10)
/-- The numbers of a point are numbers of 64 bits. -/
def i64 (n : Int) : Prop := -9223372036854775808 ≤ n ∧ n ≤ 9223372036854775807
end Go.Proofs.YtcgmemkkcaipfaaGreatDoor
namespace Go.Proofs.YtcgmemkkcaipfaaGreatDoor
open Go.RowKit Go.Sort
set_option linter.unusedVariables false
set_option linter.unusedSimpArgs false
def opt (b : Bool) (s : List UInt8) : List (List UInt8) := if b then [s] else []
theorem opt_len (b : Bool) (s : List UInt8) : (opt b s).length ≤ 1 := by cases b <;> simp [opt]
def winB (l : Leg) : Bool := l.lo != -200000 || l.hi != 6000000
/-- The texts of a leg's numbers. -/
structure LegTx where
  course : List UInt8
  dist : List UInt8
  radius : List UInt8
  theta : List UInt8
  win : List UInt8
  speed : List UInt8
  rnp : List UInt8
def nameOf (t : Int) : List UInt8 := namesTab.getD t.toNat []
def legWords (l : Leg) (t : LegTx) : List (List UInt8) := [nameOf l.ty] ++ opt (uB l.ty 1) l.fix ++ opt (uB l.ty 2) (64 :: l.center) ++ opt (uB l.ty 4) (if l.turn = 1 then [76] else [82]) ++ opt (uB l.ty 16) t.course ++ opt (uB l.ty 32) t.dist ++ opt (uB l.ty 64) t.radius ++ opt (uB l.ty 128) (116 :: t.theta) ++ opt (l.over) [111, 118, 101, 114] ++ opt (winB l) t.win ++ opt (l.speed != 0) (115 :: t.speed) ++ opt (l.rnp != 0) t.rnp
def legText (l : Leg) (t : LegTx) : List UInt8 := if legCheck l != 0 then [] else Lib.join (legWords l t) [32]
theorem mem_opt {b : Bool} {s x : List UInt8} (h : x ∈ opt b s) : x = s := by cases b <;> simp_all [opt]
theorem names_len : ∀ s ∈ namesTab, s.length ≤ 2 := by decide
theorem nameOf_len (t : Int) : (nameOf t).length ≤ 2 := by
  unfold nameOf
  rcases Nat.lt_or_ge t.toNat namesTab.length with h | h
  · have e : namesTab.getD t.toNat [] = namesTab[t.toNat] := by simp [h]
    rw [e]; exact names_len _ (List.getElem_mem h)
  · simp [List.getElem?_eq_none h]
theorem legWords_len (l : Leg) (t : LegTx) : (legWords l t).length ≤ 12 := by
  simp only [legWords, List.length_append, List.length_singleton]
  have := opt_len (uB l.ty 1) l.fix
  have := opt_len (uB l.ty 2) (64 :: l.center)
  have := opt_len (uB l.ty 4) (if l.turn = 1 then [76] else [82])
  have := opt_len (uB l.ty 16) t.course
  have := opt_len (uB l.ty 32) t.dist
  have := opt_len (uB l.ty 64) t.radius
  have := opt_len (uB l.ty 128) (116 :: t.theta)
  have := opt_len (l.over) [111, 118, 101, 114]
  have := opt_len (winB l) t.win
  have := opt_len (l.speed != 0) (115 :: t.speed)
  have := opt_len (l.rnp != 0) t.rnp
  omega
theorem SOut.push {w0 W : World} {v : Value} {ws : List (List UInt8)} {b : Bool} {s : List UInt8} (hb : b = false) (h : SOut w0 W v ws) : SOut w0 W v (ws ++ opt b s) := by subst hb; simpa [opt] using h
theorem SOut.push1 {w0 W : World} {v : Value} {ws : List (List UInt8)} {b : Bool} {s : List UInt8} (hb : b = true) (h : SOut w0 W v (ws ++ [s])) : SOut w0 W v (ws ++ opt b s) := by subst hb; exact h
theorem push_len {ws : List (List UInt8)} {n : Nat} (h : ws.length ≤ n) (b : Bool) (s : List UInt8) : (ws ++ opt b s).length ≤ n + 1 := by have := opt_len b s; simp; omega
attribute [local go_sem] bit_eq bit_ne ba_append
theorem Blk.win_at {W : World} {g : Nat} {l : Leg} (h : Blk W g l.arr) : Is_win W g 9 ⟨l.lo, l.hi⟩ := by
  intro j hj
  rw [h.cell]
  match j, hj with
  | 0, _ | 1, _ => rfl
end Go.Proofs.YtcgmemkkcaipfaaGreatDoor
namespace Go.Proofs.YtcgmemkkcaipfaaGreatDoor
open Go.RowKit Go.Sort
set_option linter.unusedVariables false
set_option linter.unusedSimpArgs false
set_option maxRecDepth 100000
attribute [local go_sem] ba_cat cat_len
theorem enc_dg (n : Nat) (h : n < 10) : Utf8.encode (48 + (n : Int)) = ⟨[dg n].toArray⟩ := by
  match n, h with
  | 0, _ | 1, _ | 2, _ | 3, _ | 4, _ | 5, _ | 6, _ | 7, _ | 8, _ | 9, _ => rfl
theorem enc_dgI (n : Int) (h0 : 0 ≤ n) (h : n < 10) : Utf8.encode (48 + n) = ⟨[dg n.toNat].toArray⟩ := by
  rw [← enc_dg n.toNat (by omega), Int.toNat_of_nonneg h0]
end Go.Proofs.YtcgmemkkcaipfaaGreatDoor
namespace Go.Proofs.YtcgmemkkcaipfaaGreatDoor
open Go.RowKit Go.Sort
set_option linter.unusedVariables false
set_option linter.unusedSimpArgs false
set_option maxRecDepth 100000
theorem plainB_pos (l : List UInt8) (h : 0 < l.length) : plainB l = ((decide (l.length ≤ 1) || decide (l[0].toNat ≠ 48)) && l.all isD) := by
  match l, h with
  | [c], _ => simp [plainB]
  | c :: d :: r, _ =>
    have e : (c != 48) = decide (c.toNat ≠ 48) := by
      rw [Bool.eq_iff_iff]
      simp only [bne_iff_ne, decide_eq_true_eq]
      exact not_congr ⟨fun e => by rw [e]; rfl, fun e => UInt8.toNat_inj.1 e⟩
    simp [plainB, e]
theorem plain_any (l : List UInt8) (w : World) (hl : l.length ≤ 4611686018427387904) : Calls Tryz.prog 167 #[.string ⟨l.toArray⟩] w (RetP w (.bool (plainB l))) := by
  by_cases h0 : 0 < l.length
  · have hs := Lib.hid (plainB_pos l h0)
    have hne : ¬ l = [] := by rintro rfl; simp at h0
    have h1 : ((l.length : Int) == 0) = false := by simp [hne]
    go_enter Tryz.func167, Tryz.ntmps167
    go_wp2
    all_goals try (go_ret; exact RetP.bool (by rw [hs.out]; grind) rfl)
    all_goals
      go_loop [19] (fun i => ∃ k : Nat, k ≤ l.length ∧ i = .int .i64 k ∧ plainB l = (l.drop k).all isD) (fun i => l.length - (intOf i).toNat)
      case atStart => exact ⟨0, by omega, rfl, by rw [hs.out]; grind⟩
      case round =>
        obtain ⟨k, hk, rfl, hq⟩ := hrel
        have HQ := Lib.hid hq; clear hq
        by_cases hlt : k < l.length
        · have hd := Lib.hid (all_drop isD l k hlt)
          go_wp2
          all_goals first
            | (go_ret; exact RetP.bool (by rw [HQ.out, hd.out]; grind [isD]) rfl)
            | (go_round
               case rel =>
                 first | refine ⟨_, _, _, ⟨k + 1, ?_, ?_, ?_⟩, rfl, rfl, rfl⟩ | refine ⟨k + 1, ?_, ?_, ?_⟩
                 · omega
                 · go_num
                 · rw [HQ.out, hd.out]; clear hs; grind [isD]
               case measure => simp [intOf]; omega)
        · go_wp2
          go_ret
          exact RetP.bool (by rw [HQ.out, List.drop_of_length_le (by omega)]; rfl) rfl
  · obtain rfl : l = [] := by cases l <;> simp_all
    go_enter Tryz.func167, Tryz.ntmps167
    go_wp2
    go_ret
    exact RetP.bool (by simp [plainB]) rfl
def numS (l : List UInt8) : Int × Bool := if l.all isD then ((val l : Int), true) else (0, false)
abbrev numVal (x : Int × Bool) : Value := .tuple #[.int .i64 x.1, .bool x.2]
theorem RetP.num {w w' : World} {n : Int} {b : Bool} {x : Int × Bool} (h : x = (n, b)) (hw : w = w') : RetP w (numVal x) (.returned (.tuple #[.int .i64 n, .bool b])) w' := ⟨by rw [h], hw⟩
theorem val_take_succ (l : List UInt8) (k : Nat) (h : k < l.length) : val (l.take (k + 1)) = 10 * val (l.take k) + (l[k].toNat - 48) := by
  rw [List.take_succ_eq_append_getElem h, val_snoc]
theorem val_take_lt (l : List UInt8) (k : Nat) (hk : k ≤ 17) (h : (l.take k).all isD = true) : val (l.take k) < 100000000000000000 := by
  have h1 := val_lt _ h
  have h2 : 10 ^ (l.take k).length ≤ 10 ^ 17 := Nat.pow_le_pow_right (by decide) (by have := List.length_take_le k l; omega)
  have h3 : (10 : Nat) ^ 17 = 100000000000000000 := by decide
  omega
theorem all_take_false {l : List UInt8} {k : Nat} (h : k < l.length) (hd : isD l[k] = false) : l.all isD = false := by
  rw [List.all_eq_false]
  exact ⟨l[k], List.getElem_mem h, by simp [hd]⟩
theorem number_any (l : List UInt8) (w : World) (hl : l.length ≤ 16) : Calls Tryz.prog 208 #[.string ⟨l.toArray⟩] w (RetP w (numVal (numS l))) := by
  go_enter Tryz.func208, Tryz.ntmps208
  go_wp2
  go_loop [4, 8] (fun n i => ∃ k : Nat, k ≤ l.length ∧ i = .int .i64 k ∧ n = .int .i64 (val (l.take k) : Nat) ∧ (l.take k).all isD = true) (fun _ i => l.length - (intOf i).toNat)
  case atStart => exact ⟨0, by omega, rfl, by simp [val, numV_nil], by simp⟩
  case round =>
    obtain ⟨k, hk, rfl, rfl, ha⟩ := hrel
    have hv := val_take_lt l k (by omega) ha
    by_cases hlt : k < l.length
    · have HS := Lib.hid (val_take_succ l k hlt)
      have HA := Lib.hid (take_all_succ isD l k hlt ha)
      have HF := Lib.hid (fun hd => all_take_false (l := l) hlt hd)
      clear ha
      generalize val (l.take k) = m at hv HS ⊢
      go_wp2
      all_goals first
        | (go_ret2; refine RetP.num ?_ rfl; have := HF.out (by grind [isD]); simp [numS, this])
        | (go_round
           case rel => exact ⟨k + 1, by omega, by go_num, by rw [HS.out]; congr 1; omega, HA.out (by grind [isD])⟩
           case measure => simp [intOf]; omega)
    · rw [List.take_of_length_le (by omega)] at ha
      have HA := Lib.hid ha; clear ha
      have HT := Lib.hid (List.take_of_length_le (l := l) (i := k) (by omega))
      generalize l.take k = t at hv HT ⊢
      go_wp2
      go_ret2
      refine RetP.num ?_ rfl
      have := HA.out
      rw [HT.out]
      simp [numS, this]
end Go.Proofs.YtcgmemkkcaipfaaGreatDoor
namespace Go.Proofs.YtcgmemkkcaipfaaGreatDoor
open Go.RowKit Go.Sort
set_option linter.unusedVariables false
set_option linter.unusedSimpArgs false
set_option maxRecDepth 100000
/-- The last k digits of n. -/
def digW : Nat → Nat → List UInt8
  | 0, _ => []
  | k + 1, n => digW k (n / 10) ++ [dg (n % 10)]
theorem digW_len (k n : Nat) : (digW k n).length = k := by
  induction k generalizing n with
  | zero => rfl
  | succ k ih => simp [digW, ih]
attribute [local go_sem] ba_cat cat_len
theorem alloc_below (w : World) (o : Obj) : Below w.heap.size w (w.alloc o) := (Below.refl _ _).alloc (Nat.le_refl _) _
theorem conv1 (W : World) (y : Int) (h : 0 ≤ y) : (convert 87 9 (.slice (some ⟨W.heap.size, 0, none⟩) 1 1)).run Tryz.prog (W.alloc (.cells #[.int .u8 (48 + y)] 5)) = .ok (.string ⟨[dg y.toNat].toArray⟩) (W.alloc (.cells #[.int .u8 (48 + y)] 5)) := by
  have h1 := run_convert_bytes_arg (P := Tryz.prog) (W.alloc (.cells #[.int .u8 (48 + y)] 5)) 87 5 Tryz.underlying87 Tryz.underlying5 W.heap.size 0 1 1 [48 + y] rfl (by
    intro i hi
    obtain rfl : i = 0 := by omega
    exact (cell_of_row _ _ 0 #[.int .u8 (48 + y)] _ _ (heap_alloc_new W _))) 9 Tryz.underlying9
  rw [h1]
  unfold strOfNums dg
  rw [show (48 + y) = ((48 + y.toNat : Nat) : Int) by omega]
  rfl
theorem conv1g (y : Int) (h : 0 ≤ y) (W : World) (g : Nat) (hc : W.cell? ⟨g, 0, none⟩ = some (.int .u8 (48 + y))) : (convert 87 9 (.slice (some ⟨g, 0, none⟩) 1 1)).run Tryz.prog W = .ok (.string ⟨[dg y.toNat].toArray⟩) W := by
  have h1 := run_convert_bytes_arg (P := Tryz.prog) W 87 5 Tryz.underlying87 Tryz.underlying5 g 0 1 1 [48 + y] rfl (by
    intro i hi
    obtain rfl : i = 0 := by omega
    exact hc) 9 Tryz.underlying9
  rw [h1]
  unfold strOfNums dg
  rw [show (48 + y) = ((48 + y.toNat : Nat) : Int) by omega]
  rfl
def valS (l : List UInt8) : Int × Bool := if val l ≤ 4611686018427387904 then ((val l : Int), true) else (0, false)
theorem val_take_le (l : List UInt8) (k : Nat) : val (l.take k) ≤ val l := by
  have h := congrArg val (List.take_append_drop k l)
  unfold val at *
  rw [numV_append] at h
  have := numV_ge (l.drop k) (numV 0 (l.take k))
  omega
end Go.Proofs.YtcgmemkkcaipfaaGreatDoor
namespace Go.Proofs.YtcgmemkkcaipfaaGreatDoor
open Go.RowKit
set_option linter.unusedVariables false
set_option linter.unusedSimpArgs false
set_option maxRecDepth 100000
def bval (c : UInt8) : Value := .int .u8 c.toNat
def bvals (l : List UInt8) : List Value := l.map bval
/-- The slice v, made since B, holds the bytes l. -/
def BOut (B : Nat) (W : World) (v : Value) (l : List UInt8) : Prop := W.ownsRow B 5 1 v l.length (bvals l)
theorem BOut.nil (B : Nat) (W : World) : BOut B W (.slice none 0 0) [] := ⟨rfl, .inl ⟨rfl, rfl⟩⟩
theorem info_u8 : (Tryz.prog.info? 5).map (fun i => (i.zero, i.size, i.bytes)) = some (some (.int .u8 0), 1, 1) := by kernel_rfl
/-- 'b = append(b, c)': the source is a new block of one byte. -/
theorem wpList_append_bout {ops : Array Oper} {rest : List Oper} {op : Oper} {a : Act} {Q : Exit → Act → World → Prop} {B : Nat} {W : World} {v : Value} {l : List UInt8} (hgd : op.guard = none) (s x : Operand)
    (ho : op.op = .call { callee := .builtin .append, args := #[s, x], argTypes := #[87, 87] }) (h : BOut B W v l) (hs : a.eval s = v) (t : UInt8) (g c : Nat)
    (hx : a.eval x = .slice (some ⟨g, 0, none⟩) 1 c) (hg : W.cell? ⟨g, 0, none⟩ = some (bval t)) (hn : l.length + 1 ≤ 10000000) (hb : B ≤ W.heap.size)
    (k : ∀ v' W', BOut B W' v' (l ++ [t]) → W.grownBy W' v.ownBlock → wpList Tryz.prog ops Q rest (a.put op.dst v') W') : wpList Tryz.prog ops Q (op :: rest) a W := by
  obtain ⟨i0, hi, hz0, hz1, hz2⟩ := info_parts info_u8
  refine wpList_append_own W hgd s x 87 ho B 5 i0 _ 1 1 Tryz.underlying87 hi hz0 hz1 hz2 rfl (by omega) v l.length (bvals l) hs h ⟨g, 0, none⟩ 1 c [bval t] hx rfl ?_ (by simp [bval, Value.oneCell']) (by unfold maxLen; omega) (by omega) hb ?_
  · intro j u hu
    match j, hu with
    | 0, hu => rw [addr_add, Nat.zero_add, hg]; simpa using hu
    | j + 1, hu => simp at hu
  · intro v' W' h1 h2 _
    refine k v' W' ?_ h2
    unfold BOut
    rw [List.length_append, bvals, List.map_append]
    exact h1
theorem below_bgrown {B : Nat} {w0 W W' : World} {v : Value} {l : List UInt8} (hB : Below B w0 W) (hle : B ≤ W.heap.size) (hO : BOut B W v l) (hg : W.grownBy W' v.ownBlock) : Below B w0 W' := by
  refine hB.grown hg hle ?_
  intro g he
  rcases hO.2 with ⟨rfl, _⟩ | ⟨g', cap, cur, rfl, hgb, _⟩
  · simp [Value.ownBlock] at he
  · have : g' = g := by simpa [Value.ownBlock] using he
    omega
/-- The call returns a slice of bytes l made since B; what was there below B is as it was. -/
def RetB (B : Nat) (w : World) (l : List UInt8) (e : Ending) (w' : World) : Prop := ∃ v, e = .returned v ∧ BOut B w' v l ∧ Below B w w' ∧ B ≤ w'.heap.size
theorem BOut.form {B : Nat} {W : World} {v : Value} {l : List UInt8} (h : BOut B W v l) : ∃ A c, v = .slice A l.length c := by
  obtain ⟨hl, h⟩ := h
  rcases h with ⟨rfl, h0⟩ | ⟨g, cap, cur, rfl, hg, hb, hn, _, hsz, hc⟩
  · exact ⟨none, 0, by rw [h0]⟩
  · exact ⟨_, _, rfl⟩
theorem set_digit (l : List UInt8) (m : Nat) (d : UInt8) (r : List UInt8) : (bvals (l ++ List.replicate (m + 1) 48 ++ r)).set (l.length + m) (bval d) = bvals (l ++ List.replicate m 48 ++ (d :: r)) := by
  rw [List.replicate_succ']
  unfold bvals
  simp only [List.map_append, List.map_cons, List.map_nil, List.append_assoc]
  rw [List.set_append_right _ _ (by simp), List.set_append_right _ _ (by simp)]
  simp
theorem BOut.some {B : Nat} {W : World} {v : Value} {l : List UInt8} (h : BOut B W v l) (h0 : 0 < l.length) : ∃ g cap, v = .slice (.some ⟨g, 0, none⟩) l.length cap ∧ B ≤ g := by
  obtain ⟨hl, h⟩ := h
  rcases h with ⟨rfl, h1⟩ | ⟨g, cap, cur, rfl, hg, hb, hn, _, hsz, hc⟩
  · omega
  · exact ⟨g, cap, rfl, hg⟩
theorem BOut.cellAt {B g n cap : Nat} {W : World} {l : List UInt8} (h : BOut B W (.slice (.some ⟨g, 0, none⟩) n cap) l) (hn : n = l.length) (j : Nat) (hj : j < l.length) : W.cell? ⟨g, j, none⟩ = .some (bval l[j]) := by
  subst hn
  rw [World.ownsRow.cellAt h j (by omega)]
  simp [bvals, hj]
theorem BOut.stored {B g n cap : Nat} {W : World} {l l' : List UInt8} (h : BOut B W (.slice (.some ⟨g, 0, none⟩) n cap) l) (hn : n = l.length) (hB : B ≤ g) (j : Nat) (d : UInt8) (he : (bvals l).set j (bval d) = bvals l') (hl : l'.length = l.length) : BOut B (W.setCell ⟨g, j, none⟩ (bval d)) (.slice (.some ⟨g, 0, none⟩) n cap) l' := by
  subst hn
  have := (World.ownsRow.stored h j (bval d)).1
  rw [he] at this
  unfold BOut
  rw [hl]
  exact this
theorem conv_bout {B : Nat} {W : World} {v : Value} {l : List UInt8} (h : BOut B W v l) : (convert 87 9 v).run Tryz.prog W = .ok (.string ⟨l.toArray⟩) W := by
  rcases Nat.eq_zero_or_pos l.length with h0 | h0
  · obtain rfl : l = [] := List.eq_nil_of_length_eq_zero h0
    obtain ⟨hl, h⟩ := h
    rcases h with ⟨rfl, h1⟩ | ⟨g, cap, cur, rfl, hg, hb, hn, _, hsz, hc⟩
    · exact run_convert_bytes_nil W 87 5 Tryz.underlying87 Tryz.underlying5 0 0 9 Tryz.underlying9
    · exact run_convert_bytes_arg W 87 5 Tryz.underlying87 Tryz.underlying5 g 0 0 cap [] rfl (by intro i hi; omega) 9 Tryz.underlying9
  · obtain ⟨g, cap, rfl, hB⟩ := h.some h0
    rw [run_convert_bytes_arg W 87 5 Tryz.underlying87 Tryz.underlying5 g 0 l.length cap (l.map fun c => (c.toNat : Int)) (by simp) (by
      intro i hi
      rw [Nat.zero_add, h.cellAt rfl i hi]
      simp [bval, hi]) 9 Tryz.underlying9]
    unfold strOfNums
    rw [List.map_map]
    congr 3
    have : (fun n : Int => UInt8.ofNat n.toNat) ∘ (fun c : UInt8 => (c.toNat : Int)) = id := by
      funext c; simp
    rw [this, List.map_id]
/-- 'b = append(b, c1, .., cn)': the source is a new block of these bytes. -/
theorem wpList_append_bouts {ops : Array Oper} {rest : List Oper} {op : Oper} {a : Act} {Q : Exit → Act → World → Prop} {B : Nat} {W : World} {v : Value} {l : List UInt8} (hgd : op.guard = none) (s x : Operand)
    (ho : op.op = .call { callee := .builtin .append, args := #[s, x], argTypes := #[87, 87] }) (h : BOut B W v l) (hs : a.eval s = v) (t : List UInt8) (g m c : Nat) (hm : t.length = m)
    (hx : a.eval x = .slice (some ⟨g, 0, none⟩) m c) (hg : ∀ j u, (bvals t)[j]? = some u → W.cell? ⟨g, j, none⟩ = some u) (hn : l.length + m ≤ 10000000) (hb : B ≤ W.heap.size)
    (k : ∀ v' W', BOut B W' v' (l ++ t) → W.grownBy W' v.ownBlock → wpList Tryz.prog ops Q rest (a.put op.dst v') W') : wpList Tryz.prog ops Q (op :: rest) a W := by
  obtain ⟨i0, hi, hz0, hz1, hz2⟩ := info_parts info_u8
  subst hm
  refine wpList_append_own W hgd s x 87 ho B 5 i0 _ 1 1 Tryz.underlying87 hi hz0 hz1 hz2 rfl (by omega) v l.length (bvals l) hs h ⟨g, 0, none⟩ t.length c (bvals t) hx (by simp [bvals]) ?_ (by intro u hu; obtain ⟨z, _, rfl⟩ := List.mem_map.1 hu; simp [bval, Value.oneCell']) (by unfold maxLen; omega) (by omega) hb ?_
  · intro j u hu
    rw [addr_add, Nat.zero_add]; exact hg j u hu
  · intro v' W' h1 h2 _
    refine k v' W' ?_ h2
    unfold BOut
    rw [List.length_append, bvals, List.map_append]
    exact h1
theorem strCells_bvals (l : List UInt8) : Lib.strCells ⟨l.toArray⟩ = bvals l := by
  simp [Lib.strCells, bvals, bval]
/-- 'b = append(b, s...)', s a string. -/
theorem wpList_append_bstr {ops : Array Oper} {rest : List Oper} {op : Oper} {a : Act} {Q : Exit → Act → World → Prop} {B : Nat} {W : World} {v : Value} {l : List UInt8} (hgd : op.guard = none) (s x : Operand)
    (ho : op.op = .call { callee := .builtin .append, args := #[s, x], argTypes := #[87, 9] }) (h : BOut B W v l) (hs : a.eval s = v) (t : List UInt8)
    (hx : a.eval x = .string ⟨t.toArray⟩) (hn : l.length + t.length ≤ 10000000) (hb : B ≤ W.heap.size)
    (k : ∀ v' W', BOut B W' v' (l ++ t) → W.grownBy W' v.ownBlock → wpList Tryz.prog ops Q rest (a.put op.dst v') W') : wpList Tryz.prog ops Q (op :: rest) a W := by
  obtain ⟨i0, hi, hz0, hz1, hz2⟩ := info_parts info_u8
  refine Lib.wpList_append_own_string (w := W) hgd s x 87 9 ho B 5 i0 Tryz.underlying87 Tryz.underlying9 hi hz0 hz1 hz2 v l.length (bvals l) hs h ⟨t.toArray⟩ hx (by unfold maxLen; simp [ByteArray.size]; omega) (by simp [ByteArray.size]; omega) hb ?_
  intro v' W' h1 h2 _
  refine k v' W' ?_ h2
  unfold BOut
  rw [List.length_append, bvals, List.map_append]
  rw [strCells_bvals] at h1
  simpa [ByteArray.size, bvals] using h1
/-- A literal of bytes in the block that was made last. -/
theorem BOut.lit (B : Nat) (w : World) (l : List UInt8) (hb : B ≤ w.heap.size) (hm : l.length ≤ 10000000) : BOut B (w.alloc (.cells (bvals l).toArray 5)) (.slice (Option.some ⟨w.heap.size, 0, none⟩) l.length l.length) l := by
  have := World.ownsRow_lit (e := 5) (base := B) (size := 1) w (bvals l).toArray l.length hb (by unfold maxLen; omega) (by simp [bvals])
  unfold BOut
  simpa using this
end Go.Proofs.YtcgmemkkcaipfaaGreatDoor
namespace Go.Proofs.YtcgmemkkcaipfaaGreatDoor
open Go.RowKit Go.Sort
set_option linter.unusedVariables false
set_option linter.unusedSimpArgs false
set_option maxRecDepth 100000
set_option maxHeartbeats 2000000 in
theorem adigits_any (B : Nat) (v : Value) (l : List UInt8) (n : Int) (c : Nat) (w : World) (hO : BOut B w v l) (hle : B ≤ w.heap.size) (h0 : 0 ≤ n) (h1 : n ≤ 9223372036854775807) (hc0 : 0 < c) (hc : c ≤ 100) (hl : l.length ≤ 1000) : Calls Tryz.prog 196 #[v, .int .i64 n, .int .i64 c] w (RetB B w (l ++ digW c n.toNat)) := by
  obtain ⟨A0, c0, rfl⟩ := hO.form
  have HO := Lib.hid hO; clear hO
  go_enter Tryz.func196, Tryz.ntmps196
  go_wp2
  go_loopw [0, 12] (fun s i W => ∃ (k : Nat), k ≤ c ∧ i = .int .i64 k ∧ BOut B W s (l ++ List.replicate k 48) ∧ Below B w W ∧ B ≤ W.heap.size) (fun _ i _ => c - (intOf i).toNat)
  case atStart => exact ⟨0, by omega, rfl, by simpa using HO.out, Below.refl _ _, hle⟩
  case round =>
    obtain ⟨k, hk, rfl, hO, hB, hle'⟩ := hrel
    by_cases hlt : k < c
    · have O1 := Lib.hid (World.ownsRow.alloc hO (.cells #[.int .u8 48] 5))
      have B1 := Lib.hid (hB.alloc hle' (.cells #[.int .u8 48] 5))
      have HO := Lib.hid hO; clear hO
      go_wp2_with (at_builtin; refine wpList_append_bout rfl (.tmp 14) (.tmp 15) rfl O1.out rfl 48 _ _ rfl (cell_of_row _ _ 0 #[.int .u8 48] _ _ (heap_alloc_new _ _)) (by simp; omega) (by simp; omega) ?_; intro v2 W2 hO2 hg2)
      have hz := hg2.size
      go_roundw
      case rel => exact ⟨k + 1, by omega, by go_num, by rw [List.replicate_succ', ← List.append_assoc]; exact hO2, below_bgrown B1.out (by simp; omega) O1.out hg2, by simp at hz; omega⟩
      case measure => simp [intOf]; omega
    · obtain rfl : k = c := by omega
      obtain ⟨g, cap, rfl, hBg⟩ := hO.some (by simp; omega)
      simp only [List.length_append, List.length_replicate] at hO ⊢
      obtain ⟨N, hN⟩ : ∃ N : Nat, N = l.length + k := ⟨_, rfl⟩
      rw [← hN] at hO ⊢
      have HO2 := Lib.hid hO; clear hO HO
      have n1 : 1 ≤ N := by omega
      have n2 : N ≤ 2000 := by omega
      have n3 : ((N : Int) - 1) = (l.length : Int) + (k : Int) - 1 := by omega
      have HN := Lib.hid hN; clear hN
      have HN3 := Lib.hid n3; clear n3
      go_wp2
      go_loopw [1, 8] (fun x i W => ∃ (m : Nat) (u : Int) (r : List UInt8), m ≤ k ∧ 0 ≤ u ∧ u ≤ 9223372036854775807 ∧ x = .int .i64 u ∧ i = .int .i64 ((l.length : Int) + m - 1) ∧ BOut B W (.slice (some ⟨g, 0, none⟩) N cap) (l ++ List.replicate m 48 ++ r) ∧ m + r.length = k ∧ digW k n.toNat = digW m u.toNat ++ r ∧ Below B w W ∧ B ≤ W.heap.size) (fun _ i _ => (intOf i + 1).toNat)
      case atStart => exact ⟨k, n, [], by omega, h0, h1, rfl, by rw [HN3.out], by simpa using HO2.out, by simp, by simp, hB, hle'⟩
      case round =>
        obtain ⟨m, u, r, hm, hu0, hu, rfl, rfl, hO, hr, hq, hB, hle'⟩ := hrel
        have HQ := Lib.hid hq; clear hq
        cases m with
        | zero =>
          have HO := Lib.hid hO; clear hO
          go_wp2
          go_ret
          refine ⟨_, rfl, ?_, hB, hle'⟩
          rw [HQ.out]
          simpa [digW] using HO.out
        | succ m =>
          have hlen : N = (l ++ List.replicate (m + 1) 48 ++ r).length := by have := HN.out; simp; omega
          have c1 := hO.cellAt hlen (l.length + m) (by simp; omega)
          have f1 : wr.frozen? ⟨g, l.length + m, none⟩ = false := World.ownsRow.frozenAt (by rw [hlen] at hO; exact hO) _
          have hbd : Value.int .u8 (48 + u % 10) = bval (dg (u % 10).toNat) := by unfold bval; rw [dg_toNat (by omega)]; congr 1; omega
          have hS := Lib.hid (hO.stored hlen hBg (l.length + m) (dg (u % 10).toNat) (set_digit l m (dg (u % 10).toNat) r) (by simp; omega))
          have HBD := Lib.hid hbd; clear hbd
          unfold bval at c1
          obtain ⟨X, hX⟩ : ∃ X : Int, X = ((l ++ List.replicate (m + 1) 48 ++ r)[l.length + m]'(by simp; omega)).toNat := ⟨_, rfl⟩
          rw [← hX] at c1
          clear hX
          have HO := Lib.hid hO; clear hO
          have hj : (l.length : Int) + ((m + 1 : Nat) : Int) - 1 = ((l.length + m : Nat) : Int) := by omega
          rw [hj]
          clear hj
          have HD := Lib.hid (show digW (m + 1) u.toNat = digW m (u / 10).toNat ++ [dg (u % 10).toNat] by rw [digW, show u.toNat / 10 = (u / 10).toNat by omega, show u.toNat % 10 = (u % 10).toNat by omega])
          obtain ⟨J, hJ⟩ : ∃ J : Nat, J = l.length + m := ⟨_, rfl⟩
          rw [← hJ] at c1 f1 hS ⊢
          have q1 : l.length ≤ J := by omega
          have q2 : J < N := by have := HN.out; omega
          have q3 : (J : Int) < (N : Int) := by omega
          have HL := Lib.hid hlen; clear hlen
          have HJ := Lib.hid hJ; clear hJ
          go_wp2
          go_roundw
          case rel => exact ⟨m, u / 10, dg (u % 10).toNat :: r, by omega, by omega, by omega, rfl, (by have := HJ.out; go_num), (by rw [HBD.out]; exact hS.out), by simp; omega, by rw [HQ.out, HD.out]; simp, hB.setCell (by simpa using hBg) _, by simpa using hle'⟩
          case measure => simp [intOf]
/-- Degrees with three digits, minutes, seconds and hundredths with two. -/
def exactS (a : Nat) : List UInt8 := digW 3 (a / 360000) ++ digW 2 (a % 360000 / 6000) ++ digW 2 (a % 6000 / 100) ++ digW 2 (a % 100)
theorem exactS_len (a : Nat) : (exactS a).length = 9 := by simp [exactS, digW_len]
set_option maxHeartbeats 2000000 in
theorem asplit_any (a : Int) (w : World) (h0 : 0 ≤ a) (h1 : a < 129600000) : Calls Tryz.prog 156 #[.slice none 0 0, .int .i64 a, .int .i64 3] w (RetB w.heap.size w (exactS a.toNat)) := by
  go_enter Tryz.func156, Tryz.ntmps156
  go_wp2_with fail
  refine (adigits_any w.heap.size (.slice none 0 0) [] (a / 360000) 3 w (BOut.nil _ _) (Nat.le_refl _) (by omega) (by omega) (by decide) (by decide) (by decide)).mono ?_
  rintro e w1 ⟨v1, rfl, O1, B1, L1⟩
  go_wp2_with fail
  refine (adigits_any w.heap.size v1 _ (a % 360000 / 6000) 2 w1 O1 L1 (by omega) (by omega) (by decide) (by decide) (by simp [digW_len])).mono ?_
  rintro e w2 ⟨v2, rfl, O2, B2, L2⟩
  go_wp2_with fail
  refine (adigits_any w.heap.size v2 _ (a % 6000 / 100) 2 w2 O2 L2 (by omega) (by omega) (by decide) (by decide) (by simp [digW_len])).mono ?_
  rintro e w3 ⟨v3, rfl, O3, B3, L3⟩
  go_wp2_with fail
  refine (adigits_any w.heap.size v3 _ (a % 100) 2 w3 O3 L3 (by omega) (by omega) (by decide) (by decide) (by simp [digW_len])).mono ?_
  rintro e w4 ⟨v4, rfl, O4, B4, L4⟩
  go_wp2
  go_ret
  refine ⟨v4, rfl, ?_, ((B1.trans B2).trans B3).trans B4, L4⟩
  have e1 : exactS a.toNat = [] ++ digW 3 (a / 360000).toNat ++ digW 2 (a % 360000 / 6000).toNat ++ digW 2 (a % 6000 / 100).toNat ++ digW 2 (a % 100).toNat := by
    unfold exactS
    rw [show a.toNat / 360000 = (a / 360000).toNat by omega, show a.toNat % 360000 / 6000 = (a % 360000 / 6000).toNat by omega, show a.toNat % 6000 / 100 = (a % 6000 / 100).toNat by omega, show a.toNat % 100 = (a % 100).toNat by omega]
    simp
  rw [e1]
  exact O4
theorem norm_any (a : Int) (w : World) (h0 : 0 ≤ a) (h1 : a < 129600000) : Calls Tryz.prog 157 #[.int .i64 a] w (RetP w (.int .i64 a)) := by
  have h2 : a % 129600000 = a := by omega
  go_enter Tryz.func157, Tryz.ntmps157
  go_wp2
  go_ret
  exact RetP.int (by omega) rfl
theorem rnorm_any (a : Int) (w : World) (h0 : 0 ≤ a) (h1 : a < 129600000) : Calls Tryz.prog 267 #[.int .i64 a] w (RetP w (.int .i64 a)) := by
  have h2 : a % 129600000 = a := by omega
  go_enter Tryz.func267, Tryz.ntmps267
  go_wp2
  go_ret
  exact RetP.int (by omega) rfl
theorem exact_any (a : Int) (w : World) (h0 : 0 ≤ a) (h1 : a < 129600000) : Calls Tryz.prog 103 #[.int .i64 a] w (Ret w (.string ⟨(exactS a.toNat).toArray⟩)) := by
  go_enter Tryz.func103, Tryz.ntmps103
  go_wp2_with (go_at_call 157; refine callP (norm_any _ _ h0 h1) ?_)
  refine (asplit_any a w h0 h1).mono ?_
  rintro e w1 ⟨v1, rfl, O1, B1, L1⟩
  have e1 := conv_bout O1
  go_wp2
  go_ret
  exact Ret.str rfl B1
end Go.Proofs.YtcgmemkkcaipfaaGreatDoor
namespace Go.Proofs.YtcgmemkkcaipfaaGreatDoor
open Go.RowKit Go.Sort
set_option linter.unusedVariables false
set_option linter.unusedSimpArgs false
set_option maxRecDepth 100000
attribute [local go_sem] ba_cat cat_len
def angP (l : List UInt8) : Int × Bool :=
  if l.length = 9 ∧ l.all isD = true ∧ val ((l.drop 3).take 2) < 60 ∧ val ((l.drop 5).take 2) < 60 then
    ((val (l.take 3) : Int) * 360000 + (val ((l.drop 3).take 2) : Int) * 6000 + (val ((l.drop 5).take 2) : Int) * 100 + (val (l.drop 7) : Int), true) else (0, false)
theorem nine {l : List UInt8} (h : l.length = 9) : ∃ c0 c1 c2 c3 c4 c5 c6 c7 c8, l = [c0, c1, c2, c3, c4, c5, c6, c7, c8] := by
  match l, h with
  | [c0, c1, c2, c3, c4, c5, c6, c7, c8], _ => exact ⟨c0, c1, c2, c3, c4, c5, c6, c7, c8, rfl⟩
theorem angP_len {l : List UInt8} (h : l.length ≠ 9) : angP l = (0, false) := by unfold angP; rw [if_neg (fun x => h x.1)]
theorem numS_bd (l : List UInt8) (h : l.length ≤ 3) : 0 ≤ (numS l).1 ∧ (numS l).1 < 1000 := by
  unfold numS
  split
  · rename_i ha
    have h1 := val_lt l ha
    have h2 : 10 ^ l.length ≤ 10 ^ 3 := Nat.pow_le_pow_right (by decide) h
    simp only
    omega
  · simp
theorem numS_yes {l : List UInt8} (h : l.all isD = true) : numS l = ((val l : Int), true) := by unfold numS; rw [if_pos h]
theorem numS_snd (l : List UInt8) : (numS l).2 = l.all isD := by
  unfold numS
  split
  · rename_i h; rw [h]
  · rename_i h; simpa using h
theorem numS_bd2 (l : List UInt8) (h : l.length ≤ 2) : 0 ≤ (numS l).1 ∧ (numS l).1 < 1000 := numS_bd l (by omega)
/-- What join and angle return of nine bytes. -/
theorem angP_nine (c0 c1 c2 c3 c4 c5 c6 c7 c8 : UInt8) : angP [c0, c1, c2, c3, c4, c5, c6, c7, c8] =
    if (numS [c0, c1, c2]).2 = true ∧ (numS [c3, c4]).2 = true ∧ (numS [c5, c6]).2 = true ∧ (numS [c7, c8]).2 = true ∧ (numS [c3, c4]).1 < 60 ∧ (numS [c5, c6]).1 < 60 then
      ((numS [c0, c1, c2]).1 * 360000 + (numS [c3, c4]).1 * 6000 + (numS [c5, c6]).1 * 100 + (numS [c7, c8]).1, true) else (0, false) := by
  simp only [numS_snd]
  unfold angP
  simp only [List.length_cons, List.length_nil, List.all_cons, List.all_nil, Bool.and_true, Bool.and_eq_true, List.drop, List.take, true_and]
  by_cases ha : ((isD c0 = true ∧ isD c1 = true ∧ isD c2 = true) ∧ (isD c3 = true ∧ isD c4 = true) ∧ (isD c5 = true ∧ isD c6 = true) ∧ isD c7 = true ∧ isD c8 = true)
  · obtain ⟨⟨a0, a1, a2⟩, ⟨a3, a4⟩, ⟨a5, a6⟩, a7, a8⟩ := ha
    rw [numS_yes (l := [c0, c1, c2]) (by simp [*]), numS_yes (l := [c3, c4]) (by simp [*]), numS_yes (l := [c5, c6]) (by simp [*]), numS_yes (l := [c7, c8]) (by simp [*])]
    simp only [a0, a1, a2, a3, a4, a5, a6, a7, a8, true_and, Int.ofNat_lt, and_self]
    by_cases hm : val [c3, c4] < 60 ∧ val [c5, c6] < 60
    · rw [if_pos hm, if_pos (by omega)]
    · rw [if_neg hm, if_neg (by omega)]
  · rw [if_neg (by intro h; exact ha (by simp only [h, and_self])), if_neg (by intro h; exact ha ⟨h.1, h.2.1, h.2.2.1, h.2.2.2.1⟩)]
end Go.Proofs.YtcgmemkkcaipfaaGreatDoor
namespace Go.Proofs.YtcgmemkkcaipfaaGreatDoor
open Go.RowKit Go.Sort
set_option linter.unusedVariables false
set_option linter.unusedSimpArgs false
set_option maxRecDepth 100000
set_option maxHeartbeats 4000000 in
theorem join_ang (l : List UInt8) (w : World) (hl : l.length ≤ 4611686018427387904) : Calls Tryz.prog 166 #[.string ⟨l.toArray⟩, .int .i64 3] w (RetP w (numVal (angP l))) := by
  by_cases h9 : l.length = 9
  · obtain ⟨c0, c1, c2, c3, c4, c5, c6, c7, c8, rfl⟩ := nine h9
    clear hl h9
    have k0 := Lib.hid (number_any [c0, c1, c2, c3, c4, c5, c6, c7, c8] w (by simp))
    have k1 := Lib.hid (number_any [c0, c1, c2] w (by simp))
    have k2 := Lib.hid (number_any [c3, c4] w (by simp))
    have k3 := Lib.hid (number_any [c5, c6] w (by simp))
    have k4 := Lib.hid (number_any [c7, c8] w (by simp))
    have d1 := numS_bd [c0, c1, c2] (by simp)
    have d2 := numS_bd [c3, c4] (by simp)
    have d3 := numS_bd [c5, c6] (by simp)
    have d4 := numS_bd [c7, c8] (by simp)
    have HA := Lib.hid (angP_nine c0 c1 c2 c3 c4 c5 c6 c7 c8)
    have H0 := Lib.hid (show (numS [c0, c1, c2, c3, c4, c5, c6, c7, c8]).2 = ((numS [c0, c1, c2]).2 && (numS [c3, c4]).2 && (numS [c5, c6]).2 && (numS [c7, c8]).2) by simp [numS_snd, Bool.and_assoc])
    generalize numS [c0, c1, c2, c3, c4, c5, c6, c7, c8] = x0 at k0 H0
    generalize numS [c0, c1, c2] = x1 at k1 d1 HA H0
    generalize numS [c3, c4] = x2 at k2 d2 HA H0
    generalize numS [c5, c6] = x3 at k3 d3 HA H0
    generalize numS [c7, c8] = x4 at k4 d4 HA H0
    obtain ⟨n0, b0⟩ := x0
    obtain ⟨n1, b1⟩ := x1
    obtain ⟨n2, b2⟩ := x2
    obtain ⟨n3, b3⟩ := x3
    obtain ⟨n4, b4⟩ := x4
    simp only at d1 d2 d3 d4
    obtain ⟨d1, d1'⟩ := d1
    obtain ⟨d2, d2'⟩ := d2
    obtain ⟨d3, d3'⟩ := d3
    obtain ⟨d4, d4'⟩ := d4
    go_enter Tryz.func166, Tryz.ntmps166
    go_wp2_with (go_at_call 208; first | (with_reducible refine callP k0.out ?_) | (with_reducible refine callP k1.out ?_) | (with_reducible refine callP k2.out ?_) | (with_reducible refine callP k3.out ?_) | (with_reducible refine callP k4.out ?_))
    all_goals
      go_ret2
      refine RetP.num ?_ rfl
      rw [HA.out]
      have h0 := H0.out
      first
        | (rw [if_pos (by grind)]; done)
        | (rw [if_neg (by grind)]; done)
  · have h9' : ((l.length : Int) == 9) = false := by
      rw [beq_eq_false_iff_ne]; omega
    have h9n : ((l.length : Int) != 9) = true := by simp only [bne, h9']; rfl
    have HA := Lib.hid (angP_len h9)
    go_enter Tryz.func166, Tryz.ntmps166
    go_wp2
    all_goals
      go_ret2
      exact RetP.num HA.out rfl
def parseExS (l : List UInt8) : Int × Int := if (angP l).2 = true then (if (angP l).1 < 129600000 then ((angP l).1, 0) else (0, 2)) else (0, 4)
abbrev intsVal (x : Int × Int) : Value := .tuple #[.int .i64 x.1, .int .i64 x.2]
theorem RetP.ints {w w' : World} {n b : Int} {x : Int × Int} (h : x = (n, b)) (hw : w = w') : RetP w (intsVal x) (.returned (.tuple #[.int .i64 n, .int .i64 b])) w' := ⟨by rw [h], hw⟩
theorem parseExact_any (l : List UInt8) (w : World) (hl : l.length ≤ 4611686018427387904) : Calls Tryz.prog 109 #[.string ⟨l.toArray⟩] w (RetP w (intsVal (parseExS l))) := by
  have k := Lib.hid (join_ang l w hl)
  have HE := Lib.hid (show parseExS l = _ from rfl)
  unfold parseExS at HE ⊢
  generalize angP l = x at k HE ⊢
  obtain ⟨n, b⟩ := x
  go_enter Tryz.func109, Tryz.ntmps109
  go_wp2_with (go_at_call 166; refine callP k.out ?_)
  all_goals
    go_ret2
    refine RetP.ints ?_ rfl
    grind
def courseS (l : List UInt8) : Int × Bool := if l.length = 9 then ((parseExS l).1, (parseExS l).2 == 0) else (0, false)
end Go.Proofs.YtcgmemkkcaipfaaGreatDoor
namespace Go.Proofs.YtcgmemkkcaipfaaGreatDoor
set_option linter.unusedVariables false
set_option linter.unusedSimpArgs false
/-- An altitude without its sign. -/
def altN (m : Nat) : List UInt8 := Lib.decDigits (m / 100) ++ if m % 100 = 0 then [] else 46 :: (Lib.decDigits (m % 100 / 10) ++ Lib.decDigits (m % 10))
def altS (a : Int) : List UInt8 := (if a < 0 then [45] else []) ++ altN a.natAbs
def altT (a : Int) : List UInt8 × Int := if -200000 ≤ a ∧ a ≤ 6000000 then (altS a, 0) else ([], 2)
theorem altT_out {a : Int} (h : ¬ (-200000 ≤ a ∧ a ≤ 6000000)) : altT a = ([], 2) := by unfold altT; rw [if_neg h]
theorem altT_in {a : Int} (h : -200000 ≤ a ∧ a ≤ 6000000) : altT a = (altS a, 0) := by unfold altT; rw [if_pos h]
theorem altS_pos {a : Int} (h : 0 ≤ a) : altS a = altN a.toNat := by unfold altS; rw [if_neg (by omega), show a.natAbs = a.toNat by omega]; rfl
theorem altS_neg {m : Int} (h : 0 < m) : altS (-m) = 45 :: altN m.toNat := by unfold altS; rw [if_pos (by omega), show (-m).natAbs = m.toNat by omega]; rfl
theorem altN_whole {m : Int} (h0 : 0 ≤ m) (h : m % 100 = 0) : altN m.toNat = Lib.decDigits (m / 100).toNat := by
  unfold altN; rw [if_pos (by omega), show m.toNat / 100 = (m / 100).toNat by omega]; simp
theorem altN_part {m : Int} (h0 : 0 ≤ m) (h : ¬ m % 100 = 0) : altN m.toNat = Lib.decDigits (m / 100).toNat ++ (46 :: (Lib.decDigits (m % 100 / 10).toNat ++ Lib.decDigits (m % 10).toNat)) := by
  unfold altN; rw [if_neg (by omega), show m.toNat / 100 = (m / 100).toNat by omega, show m.toNat % 100 / 10 = (m % 100 / 10).toNat by omega, show m.toNat % 10 = (m % 10).toNat by omega]
theorem altN_len {m : Nat} (h : m ≤ 6000000) : (altN m).length ≤ 12 := by
  have h1 : (Lib.decDigits (m / 100)).length ≤ 6 := dec_len (by decide) (by omega)
  have h2 : (Lib.decDigits (m % 100 / 10)).length ≤ 1 := dec_len (by decide) (by omega)
  have h3 : (Lib.decDigits (m % 10)).length ≤ 1 := dec_len (by decide) (by omega)
  unfold altN
  split <;> simp <;> omega
theorem altS_len {a : Int} (h0 : -200000 ≤ a) (h : a ≤ 6000000) : (altS a).length ≤ 13 := by
  have := altN_len (m := a.natAbs) (by omega)
  unfold altS
  split <;> simp <;> omega
/-- A window's text. -/
def winS (lo hi : Int) : List UInt8 :=
  if lo = -200000 ∧ hi = 6000000 then [45] else if lo = hi then altS lo else if hi = 6000000 then altS lo ++ [43] else if lo = -200000 then altS hi ++ [45] else altS lo ++ (58 :: altS hi)
def winOk (lo hi : Int) : Prop := -200000 ≤ lo ∧ lo ≤ hi ∧ hi ≤ 6000000
instance (lo hi : Int) : Decidable (winOk lo hi) := by unfold winOk; infer_instance
def winT (lo hi : Int) : List UInt8 × Int := if winOk lo hi then (winS lo hi, 0) else ([], 1)
theorem winT_in {lo hi : Int} (h : winOk lo hi) : winT lo hi = (winS lo hi, 0) := by unfold winT; rw [if_pos h]
theorem winT_out {lo hi : Int} (h : ¬ winOk lo hi) : winT lo hi = ([], 1) := by unfold winT; rw [if_neg h]
theorem winS_len {lo hi : Int} (h : winOk lo hi) : (winS lo hi).length ≤ 27 := by
  obtain ⟨h1, h2, h3⟩ := h
  have a := altS_len h1 (by omega)
  have b := altS_len (a := hi) (by omega) h3
  unfold winS
  repeat' split
  all_goals simp
  all_goals omega
/-- A distance's text: miles, and the rest of a mile. -/
def distS (d : Nat) : List UInt8 := Lib.decDigits (d / 6000) ++ if d % 6000 = 0 then [] else 43 :: Lib.decDigits (d % 6000)
def distT (d : Int) : List UInt8 × Int := if 0 ≤ d ∧ d ≤ 8000000 then (distS d.toNat, 0) else ([], 2)
theorem distT_in {d : Int} (h : 0 ≤ d ∧ d ≤ 8000000) : distT d = (distS d.toNat, 0) := by unfold distT; rw [if_pos h]
theorem distT_out {d : Int} (h : ¬ (0 ≤ d ∧ d ≤ 8000000)) : distT d = ([], 2) := by unfold distT; rw [if_neg h]
theorem distS_whole {d : Int} (h0 : 0 ≤ d) (h : d % 6000 = 0) : distS d.toNat = Lib.decDigits (d / 6000).toNat := by
  unfold distS; rw [if_pos (by omega), show d.toNat / 6000 = (d / 6000).toNat by omega]; simp
theorem distS_part {d : Int} (h0 : 0 ≤ d) (h : ¬ d % 6000 = 0) : distS d.toNat = Lib.decDigits (d / 6000).toNat ++ (43 :: Lib.decDigits (d % 6000).toNat) := by
  unfold distS; rw [if_neg (by omega), show d.toNat / 6000 = (d / 6000).toNat by omega, show d.toNat % 6000 = (d % 6000).toNat by omega]
theorem distS_len {d : Nat} (h : d ≤ 8000000) : (distS d).length ≤ 10 := by
  have h1 : (Lib.decDigits (d / 6000)).length ≤ 4 := dec_len (by decide) (by omega)
  have h2 : (Lib.decDigits (d % 6000)).length ≤ 4 := dec_len (by decide) (by omega)
  unfold distS
  split <;> simp <;> omega
/-! What such texts mean. -/
def cutPre (c : UInt8) (l : List UInt8) : List UInt8 × Bool := match l with | x :: r => if x = c then (r, true) else (l, false) | [] => ([], false)
def cutSuf (c : UInt8) (l : List UInt8) : List UInt8 × Bool := if l.getLast? = some c then (l.dropLast, true) else (l, false)
/-- Two digits that are not both zero. -/
def hundB : List UInt8 → Bool
  | [a, b] => isD a && isD b && !(a == 48 && b == 48)
  | _ => false
def feetV (feet : List UInt8) : Int := if feet.length < 10 then (val feet : Int) else 1099511627776
def altP3 (minus : Bool) (feet hund : List UInt8) (point : Bool) : Int × Bool :=
  if plainB feet = true ∧ (point = false ∨ hundB hund = true) then
    (if minus then (-(feetV feet * 100 + if point then (val hund : Int) else 0), decide (feetV feet * 100 + (if point then (val hund : Int) else 0) ≠ 0)) else (feetV feet * 100 + (if point then (val hund : Int) else 0), true))
  else (0, false)
def altP (s : List UInt8) : Int × Bool := altP3 (cutPre 45 s).2 (cutAt 46 (cutPre 45 s).1).1 (cutAt 46 (cutPre 45 s).1).2.1 (cutAt 46 (cutPre 45 s).1).2.2
def winP (s : List UInt8) : (Int × Int) × Bool :=
  if s = [45] then ((-200000, 6000000), true)
  else if (cutAt 58 s).2.2 then (((altP (cutAt 58 s).1).1, (altP (cutAt 58 s).2.1).1), (altP (cutAt 58 s).1).2 && (altP (cutAt 58 s).2.1).2)
  else if (cutSuf 43 s).2 then (((altP (cutSuf 43 s).1).1, 6000000), (altP (cutSuf 43 s).1).2)
  else if (cutSuf 45 s).2 then ((-200000, (altP (cutSuf 45 s).1).1), (altP (cutSuf 45 s).1).2)
  else (((altP s).1, (altP s).1), (altP s).2)
def rangedB (a : Int) : Bool := decide (-200000 ≤ a) && decide (a ≤ 6000000)
def parseWinS (s : List UInt8) : (Int × Int) × Int :=
  if (winP s).2 = true then
    if rangedB (winP s).1.1 = true ∧ rangedB (winP s).1.2 = true then
      if (winP s).1.2 < (winP s).1.1 then ((0, 0), 9) else if winS (winP s).1.1 (winP s).1.2 = s then ((winP s).1, 0) else ((0, 0), 4)
    else ((0, 0), 2)
  else ((0, 0), 4)
def restOk (r : List UInt8) : Bool := plainB r && !(r == [48]) && decide (r.length ≤ 4)
def distP3 (miles rest : List UInt8) (two : Bool) : Int × Int :=
  if plainB miles = true ∧ (two = false ∨ restOk rest = true) then
    if two = true ∧ 6000 ≤ val rest then (0, 4)
    else if 9 < miles.length then (0, 2)
    else if 8000000 < val miles * 6000 + (if two then val rest else 0) then (0, 2) else (((val miles * 6000 + (if two then val rest else 0) : Nat) : Int), 0)
  else (0, 4)
def distP (s : List UInt8) : Int × Int := distP3 (cutAt 43 s).1 (cutAt 43 s).2.1 (cutAt 43 s).2.2
/-! The two are inverse. -/
theorem isD_ne {c d : UInt8} (h : isD c = true) (hd : isD d = false) : c ≠ d := by rintro rfl; rw [h] at hd; cases hd
theorem cutAt_digits {c : UInt8} (hc : isD c = false) (l r : List UInt8) (h : l.all isD = true) : cutAt c (l ++ c :: r) = (l, r, true) := by
  induction l with
  | nil => simp [cutAt]
  | cons x l ih =>
    simp only [List.all_cons, Bool.and_eq_true] at h
    have := isD_ne h.1 hc
    simp [cutAt, this, ih h.2]
theorem cutAt_plain {c : UInt8} (hc : isD c = false) (l : List UInt8) (h : l.all isD = true) : cutAt c l = (l, [], false) := by
  refine cutAt_none c l ?_
  rw [List.all_eq_true] at h ⊢
  intro x hx
  simpa using isD_ne (h x hx) hc
theorem distP_distS {d : Nat} (h : d ≤ 8000000) : distP (distS d) = ((d : Int), 0) := by
  have ha := dec_all (d / 6000)
  have hp := plain_dec (d / 6000)
  have hv := val_dec (d / 6000)
  have hl : (Lib.decDigits (d / 6000)).length ≤ 4 := dec_len (by decide) (by omega)
  unfold distP distS
  by_cases hk : d % 6000 = 0
  · rw [if_pos hk, List.append_nil, cutAt_plain (by decide) _ ha]
    show distP3 (Lib.decDigits (d / 6000)) [] false = _
    unfold distP3
    rw [if_pos ⟨hp, .inl rfl⟩, if_neg (by simp), if_neg (by omega), hv]
    simp only [Bool.false_eq_true, if_false]
    rw [if_neg (by omega)]
    simp; omega
  · rw [if_neg hk, cutAt_digits (by decide) _ _ ha]
    have hp2 := plain_dec (d % 6000)
    have hv2 := val_dec (d % 6000)
    have hl2 : (Lib.decDigits (d % 6000)).length ≤ 4 := dec_len (by decide) (by omega)
    have hr : restOk (Lib.decDigits (d % 6000)) = true := by
      unfold restOk
      rw [hp2]
      have : ¬ Lib.decDigits (d % 6000) = [48] := by
        intro e
        rw [e] at hv2
        have : val [48] = 0 := by decide
        omega
      simp [this, hl2]
    show distP3 (Lib.decDigits (d / 6000)) (Lib.decDigits (d % 6000)) true = _
    unfold distP3
    rw [if_pos ⟨hp, .inr hr⟩, if_neg (by omega), if_neg (by omega), hv, hv2]
    simp only [if_true]
    rw [if_neg (by omega)]
    simp; omega
theorem distP3_bd {a r : List UInt8} {b : Bool} (h : (distP3 a r b).2 = 0) : 0 ≤ (distP3 a r b).1 ∧ (distP3 a r b).1 ≤ 8000000 := by
  unfold distP3 at h ⊢
  generalize (if b = true then val r else 0) = k at h ⊢
  by_cases h1 : plainB a = true ∧ (b = false ∨ restOk r = true)
  · rw [if_pos h1] at h ⊢
    by_cases h2 : b = true ∧ 6000 ≤ val r
    · rw [if_pos h2] at h; simp at h
    · rw [if_neg h2] at h ⊢
      by_cases h3 : 9 < a.length
      · rw [if_pos h3] at h; simp at h
      · rw [if_neg h3] at h ⊢
        by_cases h4 : 8000000 < val a * 6000 + k
        · rw [if_pos h4] at h; simp at h
        · rw [if_neg h4]
          simp only
          omega
  · rw [if_neg h1] at h; simp at h
theorem distS_distP {s : List UInt8} (h : (distP s).2 = 0) : 0 ≤ (distP s).1 ∧ (distP s).1 ≤ 8000000 := distP3_bd h
theorem altN_digits {m : Nat} : ∃ c r, altN m = c :: r ∧ isD c = true := by
  have h1 := dec_all (m / 100)
  have h2 := dec_ne (m / 100)
  unfold altN
  match h : Lib.decDigits (m / 100) with
  | [] => exact absurd h h2
  | c :: r =>
    rw [h] at h1
    simp only [List.all_cons, Bool.and_eq_true] at h1
    exact ⟨c, _, rfl, h1.1⟩
theorem cutPre_altS {a : Int} : cutPre 45 (altS a) = (altN a.natAbs, decide (a < 0)) := by
  unfold altS
  by_cases h : a < 0
  · rw [if_pos h]; simp [cutPre, h]
  · rw [if_neg h]
    obtain ⟨c, r, h1, h2⟩ := altN_digits (m := a.natAbs)
    rw [h1]
    have := isD_ne h2 (d := 45) (by decide)
    simp [cutPre, this, h]
theorem altP_altS {a : Int} (h0 : -200000 ≤ a) (h1 : a ≤ 6000000) : altP (altS a) = (a, true) := by
  unfold altP
  rw [cutPre_altS]
  simp only
  have hm : a.natAbs ≤ 6000000 := by omega
  obtain ⟨m, hmm⟩ : ∃ m, m = a.natAbs := ⟨_, rfl⟩
  rw [← hmm] at hm ⊢
  have ha := dec_all (m / 100)
  have hp := plain_dec (m / 100)
  have hv := val_dec (m / 100)
  have hl : (Lib.decDigits (m / 100)).length ≤ 6 := dec_len (by decide) (by omega)
  have hf : feetV (Lib.decDigits (m / 100)) = ((m / 100 : Nat) : Int) := by unfold feetV; rw [if_pos (by omega), hv]
  unfold altN
  by_cases hk : m % 100 = 0
  · rw [if_pos hk, List.append_nil, cutAt_plain (by decide) _ ha]
    show altP3 _ (Lib.decDigits (m / 100)) [] false = _
    unfold altP3
    rw [if_pos ⟨hp, .inl rfl⟩, hf]
    by_cases hn : a < 0
    · simp [hn]; omega
    · simp [hn]; omega
  · rw [if_neg hk, cutAt_digits (by decide) _ _ ha]
    have e1 : Lib.decDigits (m % 100 / 10) = [dg (m % 100 / 10)] := dec_small (by omega)
    have e2 : Lib.decDigits (m % 10) = [dg (m % 10)] := dec_small (by omega)
    rw [e1, e2]
    have d1 := isD_dg (n := m % 100 / 10) (by omega)
    have d2 := isD_dg (n := m % 10) (by omega)
    have n1 := dg_toNat (n := m % 100 / 10) (by omega)
    have n2 := dg_toNat (n := m % 10) (by omega)
    have hh : hundB ([dg (m % 100 / 10)] ++ [dg (m % 10)]) = true := by
      simp only [List.cons_append, List.nil_append, hundB, d1, d2, Bool.true_and, Bool.not_eq_true', Bool.and_eq_false_iff, beq_eq_false_iff_ne]
      by_cases hz : m % 100 / 10 = 0
      · right
        intro e
        have := congrArg UInt8.toNat e
        rw [n2] at this
        simp at this; omega
      · left
        intro e
        have := congrArg UInt8.toNat e
        rw [n1] at this
        simp at this; omega
    have hvv : val ([dg (m % 100 / 10)] ++ [dg (m % 10)]) = m % 100 := by
      rw [val_snoc, n2]
      simp only [val, numV_cons, numV_nil, n1]
      omega
    show altP3 _ (Lib.decDigits (m / 100)) ([dg (m % 100 / 10)] ++ [dg (m % 10)]) true = _
    unfold altP3
    rw [if_pos ⟨hp, .inr hh⟩, hf, hvv]
    by_cases hn : a < 0
    · simp [hn]; omega
    · simp [hn]; omega
/-- The bytes of an altitude: digits, a sign, a point. -/
def altC (c : UInt8) : Bool := isD c || c == 45 || c == 46
theorem all_mono {p q : UInt8 → Bool} (h : ∀ c, p c = true → q c = true) {l : List UInt8} (hl : l.all p = true) : l.all q = true := by
  rw [List.all_eq_true] at hl ⊢
  exact fun x hx => h x (hl x hx)
theorem altN_all (m : Nat) : (altN m).all altC = true := by
  have h : ∀ u, (Lib.decDigits u).all altC = true := fun u => all_mono (fun c hc => by simp [altC, hc]) (dec_all u)
  unfold altN
  split
  · simp only [List.append_nil, h]
  · simp only [List.all_append, List.all_cons, h, Bool.and_true]; decide
theorem altS_all (a : Int) : (altS a).all altC = true := by
  unfold altS
  rw [List.all_append, altN_all]
  split <;> decide
theorem dec_last (u : Nat) : ∃ c, (Lib.decDigits u).getLast? = some c ∧ isD c = true := by
  have h1 := dec_all u
  have h2 := dec_ne u
  rw [List.all_eq_true] at h1
  exact ⟨_, List.getLast?_eq_some_getLast h2, h1 _ (List.getLast_mem h2)⟩
theorem altN_last (m : Nat) : ∃ c, (altN m).getLast? = some c ∧ isD c = true := by
  unfold altN
  split
  · rw [List.append_nil]; exact dec_last _
  · obtain ⟨c, h1, h2⟩ := dec_last (m % 10)
    refine ⟨c, ?_, h2⟩
    rw [List.getLast?_append]
    rw [show (46 :: (Lib.decDigits (m % 100 / 10) ++ Lib.decDigits (m % 10)) : List UInt8) = (46 :: Lib.decDigits (m % 100 / 10)) ++ Lib.decDigits (m % 10) from rfl, List.getLast?_append, h1]
    rfl
theorem altS_last (a : Int) : ∃ c, (altS a).getLast? = some c ∧ isD c = true := by
  obtain ⟨c, h1, h2⟩ := altN_last a.natAbs
  refine ⟨c, ?_, h2⟩
  unfold altS
  rw [List.getLast?_append, h1]; rfl
theorem altC_ne {c d : UInt8} (h : altC c = true) (hd : altC d = false) : c ≠ d := by rintro rfl; rw [h] at hd; cases hd
theorem altS_ne (a : Int) : altS a ≠ [] := by
  obtain ⟨c, h1, _⟩ := altS_last a
  intro e
  rw [e] at h1
  cases h1
theorem cutAt_not {c : UInt8} {l : List UInt8} (h : c ∉ l) : cutAt c l = (l, [], false) := by
  refine cutAt_none c l ?_
  rw [List.all_eq_true]
  intro x hx
  simp only [bne_iff_ne]
  rintro rfl
  exact h hx
theorem altS_not {c : UInt8} (hc : altC c = false) (a : Int) : c ∉ altS a := by
  intro hm
  have := List.all_eq_true.1 (altS_all a) c hm
  rw [hc] at this
  cases this
theorem cutAt_of {c : UInt8} (l r : List UInt8) (h : c ∉ l) : cutAt c (l ++ c :: r) = (l, r, true) := by
  induction l with
  | nil => simp [cutAt]
  | cons x l ih =>
    simp only [List.mem_cons, not_or] at h
    have h1 : ¬ x = c := fun e => h.1 e.symm
    simp [cutAt, h1, ih h.2]
theorem cutSuf_snoc (c : UInt8) (l : List UInt8) : cutSuf c (l ++ [c]) = (l, true) := by
  unfold cutSuf
  rw [if_pos (by simp), List.dropLast_concat]
theorem cutSuf_no {c d : UInt8} {l : List UInt8} (h : l.getLast? = some d) (hd : d ≠ c) : cutSuf c l = (l, false) := by
  unfold cutSuf
  rw [if_neg (by rw [h]; simpa using hd)]
theorem winP_winS {lo hi : Int} (h : winOk lo hi) : winP (winS lo hi) = ((lo, hi), true) := by
  obtain ⟨h1, h2, h3⟩ := h
  have pl := altP_altS h1 (show lo ≤ 6000000 by omega)
  have ph := altP_altS (show -200000 ≤ hi by omega) h3
  unfold winS
  by_cases c1 : lo = -200000 ∧ hi = 6000000
  · rw [if_pos c1]; obtain ⟨rfl, rfl⟩ := c1; rfl
  · rw [if_neg c1]
    by_cases c2 : lo = hi
    · rw [if_pos c2]
      subst c2
      obtain ⟨d, hd, hdd⟩ := altS_last lo
      unfold winP
      rw [if_neg (by intro e; rw [e] at hd; simp at hd; subst hd; revert hdd; decide), cutAt_not (altS_not (by decide) lo), cutSuf_no hd (isD_ne hdd (by decide)), cutSuf_no hd (isD_ne hdd (by decide)), pl]
      simp
    · rw [if_neg c2]
      by_cases c3 : hi = 6000000
      · rw [if_pos c3]
        unfold winP
        rw [if_neg (by intro e; have := congrArg List.getLast? e; simp at this), cutAt_not (by simp; exact altS_not (by decide) lo), cutSuf_snoc, pl]
        simp [c3]
      · rw [if_neg c3]
        by_cases c4 : lo = -200000
        · rw [if_pos c4]
          have hn := altS_ne hi
          unfold winP
          rw [if_neg (by intro e; apply hn; simpa using e), cutAt_not (by simp; exact altS_not (by decide) hi), cutSuf_no (c := 43) (d := 45) (by simp) (by decide), cutSuf_snoc, ph]
          simp [c4]
        · rw [if_neg c4]
          unfold winP
          rw [if_neg (by intro e; have := altS_ne hi; have := altS_ne lo; have := congrArg List.length e; simp at this; have := List.length_pos_iff.2 (altS_ne lo); have := List.length_pos_iff.2 (altS_ne hi); omega), cutAt_of _ _ (altS_not (by decide) lo), pl, ph]
          simp
theorem parseWin_winS {lo hi : Int} (h : winOk lo hi) : parseWinS (winS lo hi) = ((lo, hi), 0) := by
  unfold parseWinS
  rw [winP_winS h]
  obtain ⟨h1, h2, h3⟩ := h
  simp only
  rw [if_pos trivial, if_pos (by simp [rangedB]; omega), if_neg (by omega), if_pos trivial]
theorem parseWin_ok {s : List UInt8} (h : (parseWinS s).2 = 0) : winOk (parseWinS s).1.1 (parseWinS s).1.2 ∧ winS (parseWinS s).1.1 (parseWinS s).1.2 = s := by
  unfold parseWinS at h ⊢
  split at h
  · rename_i h1
    rw [if_pos h1]
    split at h
    · rename_i h2
      rw [if_pos h2]
      split at h
      · simp at h
      · rename_i h3
        rw [if_neg h3]
        split at h
        · rename_i h4
          rw [if_pos h4]
          simp [rangedB] at h2
          refine ⟨⟨?_, ?_, ?_⟩, h4⟩ <;> simp only <;> omega
        · simp at h
    · simp at h
  · simp at h
end Go.Proofs.YtcgmemkkcaipfaaGreatDoor
namespace Go.Proofs.YtcgmemkkcaipfaaGreatDoor
open Go.RowKit Go.Sort
set_option linter.unusedVariables false
set_option linter.unusedSimpArgs false
set_option maxRecDepth 100000
theorem fmtN_any (n : Int) (h0 : 0 ≤ n) (h1 : n ≤ 1000000000) (w : World) (hL : Laid w) : Calls Tryz.prog 102 #[.int .i64 n, .int .i64 10] w (Ret w (.string ⟨(Lib.decDigits n.toNat).toArray⟩)) := by
  have h := fmt_any n (by omega) (by omega) w hL
  rwa [show Lib.itoa n = Lib.decDigits n.toNat by unfold Lib.itoa; rw [if_neg (by omega)]] at h
theorem dec_len9 (n : Int) (h1 : n ≤ 1000000000) : (Lib.decDigits n.toNat).length ≤ 10 := dec_len (by decide) (by omega)
abbrev textVal (x : List UInt8 × Int) : Value := .tuple #[.string ⟨x.1.toArray⟩, .int .i64 x.2]
theorem Ret.text {w w' : World} {a : List UInt8} {b : Int} {x : List UInt8 × Int} (h : x = (a, b)) (hw : Below w.heap.size w w') : Ret w (textVal x) (.returned (.tuple #[.string ⟨a.toArray⟩, .int .i64 b])) w' := ⟨by rw [h], hw⟩
theorem RetP.text {w w' : World} {a : List UInt8} {b : Int} {x : List UInt8 × Int} (h : x = (a, b)) (hw : w = w') : RetP w (textVal x) (.returned (.tuple #[.string ⟨a.toArray⟩, .int .i64 b])) w' := ⟨by rw [h], hw⟩
attribute [local go_sem] ba_cat cat_len
set_option maxHeartbeats 4000000 in
theorem altText_any (a : Int) (w : World) (hL : Laid w) : Calls Tryz.prog 154 #[.int .i64 a] w (Ret w (textVal (altT a))) := by
  by_cases hr : -200000 ≤ a ∧ a ≤ 6000000
  · have H1 := Lib.hid (altT_in hr)
    obtain ⟨r1, r2⟩ := hr
    by_cases hn : 0 ≤ a
    · have H2 := Lib.hid (altS_pos hn)
      have l1 := dec_len9 (a / 100) (by omega)
      have l2 := dec_len9 (a % 100 / 10) (by omega)
      have l3 := dec_len9 (a % 10) (by omega)
      by_cases hk : a % 100 = 0
      · have H3 := Lib.hid (altN_whole hn hk)
        go_enter Tryz.func154, Tryz.ntmps154
        go_wp2_with fail
        with_reducible refine callR (fmtN_any (a / 100) (by omega) (by omega) _ hL) ?_
        intro w1 b1 _ _ _
        have L1 := hL.below b1
        generalize Lib.decDigits (a / 100).toNat = D1 at l1 H3 ⊢
        go_wp2
        go_ret2
        exact Ret.text (by rw [H1.out, H2.out, H3.out]; rfl) b1
      · have H3 := Lib.hid (altN_part hn hk)
        go_enter Tryz.func154, Tryz.ntmps154
        go_wp2_with fail
        with_reducible refine callR (fmtN_any (a / 100) (by omega) (by omega) _ hL) ?_
        intro w1 b1 _ _ _
        have L1 := hL.below b1
        generalize Lib.decDigits (a / 100).toNat = D1 at l1 H3 ⊢
        go_wp2_with fail
        with_reducible refine callR (fmtN_any (a % 100 / 10) (by omega) (by omega) _ L1) ?_
        intro w2 b2 _ _ _
        have L2 := L1.below b2
        generalize Lib.decDigits (a % 100 / 10).toNat = D2 at l2 H3 ⊢
        go_wp2_with fail
        with_reducible refine callR (fmtN_any (a % 10) (by omega) (by omega) _ L2) ?_
        intro w3 b3 _ _ _
        generalize Lib.decDigits (a % 10).toNat = D3 at l3 H3 ⊢
        go_wp2
        go_ret2
        exact Ret.text (by rw [H1.out, H2.out, H3.out]; simp [cat]) (below_step (below_step b1 b2) b3)
    · obtain ⟨m, rfl⟩ : ∃ m, a = -m := ⟨-a, by omega⟩
      have hm : 0 < m := by omega
      have hm2 : m ≤ 200000 := by omega
      have H2 := Lib.hid (altS_neg hm)
      have l1 := dec_len9 (m / 100) (by omega)
      have l2 := dec_len9 (m % 100 / 10) (by omega)
      have l3 := dec_len9 (m % 10) (by omega)
      by_cases hk : m % 100 = 0
      · have H3 := Lib.hid (altN_whole (by omega) hk)
        go_enter Tryz.func154, Tryz.ntmps154
        go_wp2_with fail
        with_reducible refine callR (fmtN_any (m / 100) (by omega) (by omega) _ hL) ?_
        intro w1 b1 _ _ _
        have L1 := hL.below b1
        generalize Lib.decDigits (m / 100).toNat = D1 at l1 H3 ⊢
        go_wp2
        go_ret2
        exact Ret.text (by rw [H1.out, H2.out, H3.out]; simp [cat]) b1
      · have H3 := Lib.hid (altN_part (by omega) hk)
        go_enter Tryz.func154, Tryz.ntmps154
        go_wp2_with fail
        with_reducible refine callR (fmtN_any (m / 100) (by omega) (by omega) _ hL) ?_
        intro w1 b1 _ _ _
        have L1 := hL.below b1
        generalize Lib.decDigits (m / 100).toNat = D1 at l1 H3 ⊢
        go_wp2_with fail
        with_reducible refine callR (fmtN_any (m % 100 / 10) (by omega) (by omega) _ L1) ?_
        intro w2 b2 _ _ _
        have L2 := L1.below b2
        generalize Lib.decDigits (m % 100 / 10).toNat = D2 at l2 H3 ⊢
        go_wp2_with fail
        with_reducible refine callR (fmtN_any (m % 10) (by omega) (by omega) _ L2) ?_
        intro w3 b3 _ _ _
        generalize Lib.decDigits (m % 10).toNat = D3 at l3 H3 ⊢
        go_wp2
        go_ret2
        exact Ret.text (by rw [H1.out, H2.out, H3.out]; simp [cat]) (below_step (below_step b1 b2) b3)
  · have H1 := Lib.hid (altT_out hr)
    go_enter Tryz.func154, Tryz.ntmps154
    go_wp2
    all_goals try omega
    all_goals
      go_ret2
      exact Ret.text H1.out (Below.refl _ _)
end Go.Proofs.YtcgmemkkcaipfaaGreatDoor
namespace Go.Proofs.YtcgmemkkcaipfaaGreatDoor
open Go.RowKit Go.Sort
set_option linter.unusedVariables false
set_option linter.unusedSimpArgs false
set_option maxRecDepth 100000
attribute [local go_sem] ba_cat cat_len
theorem altIn_any (a : Int) (h0 : -200000 ≤ a) (h1 : a ≤ 6000000) (w : World) (hL : Laid w) : Calls Tryz.prog 154 #[.int .i64 a] w (Ret w (.tuple #[.string ⟨(altS a).toArray⟩, .int .i64 0])) := by
  have h := altText_any a w hL
  rwa [altT_in ⟨h0, h1⟩] at h
theorem winS_1 : winS (-200000) 6000000 = [45] := rfl
theorem winS_2 (a : Int) : winS a a = altS a := by unfold winS; rw [if_neg (by omega), if_pos rfl]
theorem winS_3 {a : Int} (h1 : a ≠ -200000) (h2 : a ≠ 6000000) : winS a 6000000 = altS a ++ [43] := by unfold winS; rw [if_neg (by omega), if_neg (by omega), if_pos rfl]
theorem winS_4 {a : Int} (h1 : a ≠ -200000) (h2 : a ≠ 6000000) : winS (-200000) a = altS a ++ [45] := by unfold winS; rw [if_neg (by omega), if_neg (by omega), if_neg (by omega), if_pos rfl]
theorem winS_5 {a b : Int} (h1 : a ≠ -200000) (h2 : b ≠ 6000000) (h3 : a ≠ b) : winS a b = altS a ++ (58 :: altS b) := by unfold winS; rw [if_neg (by omega), if_neg (by omega), if_neg (by omega), if_neg (by omega)]
theorem cat_two (a b : List UInt8) : cat a b = a ++ b := rfl
set_option maxHeartbeats 4000000 in
theorem winText_in (lo hi : Int) (w : World) (hL : Laid w) (h : winOk lo hi) : Calls Tryz.prog 101 #[.agg (Win.arr ⟨lo, hi⟩)] w (Ret w (.tuple #[.string ⟨(winS lo hi).toArray⟩, .int .i64 0])) := by
  obtain ⟨h1, h2, h3⟩ := h
  have k1 : lo ≤ 6000000 := by omega
  have k2 : -200000 ≤ hi := by omega
  have La := altS_len h1 k1
  have Lb := altS_len k2 h3
  have HW := Lib.hid (show winS lo hi = if lo = -200000 ∧ hi = 6000000 then [45] else if lo = hi then altS lo else if hi = 6000000 then altS lo ++ [43] else if lo = -200000 then altS hi ++ [45] else altS lo ++ (58 :: altS hi) from rfl)
  have c1 := Lib.hid (fun w L => altIn_any lo h1 k1 w L)
  have c2 := Lib.hid (fun w L => altIn_any hi k2 h3 w L)
  generalize altS lo = A at La HW c1
  generalize altS hi = B at Lb HW c2
  have L0 := hL.alloc (.cells #[.int .i64 lo, .int .i64 hi] 36)
  have n1 : ¬ lo < -200000 := by omega
  have n2 : ¬ hi < lo := by omega
  have n3 : ¬ 6000000 < hi := by omega
  have B0 := alloc_below w (.cells #[.int .i64 lo, .int .i64 hi] 36)
  clear k1 k2
  go_enter Tryz.func101, Tryz.ntmps101
  simp only [Win.arr]
  go_wp2_with fail
  with_reducible refine callR (c1.out _ L0) ?_
  intro w1 b1 _ _ _
  have L1 := L0.below b1
  have e1 : w1.cell? ⟨w.heap.size, 1, none⟩ = some (.int .i64 hi) := ((Blk.new w #[.int .i64 lo, .int .i64 hi] 36).step b1).cell 1
  go_wp2_with fail
  with_reducible refine callR (c2.out _ L1) ?_
  intro w2 b2 _ _ _
  clear e1
  have e0 : w2.cell? ⟨w.heap.size, 0, none⟩ = some (.int .i64 lo) := (((Blk.new w #[.int .i64 lo, .int .i64 hi] 36).step b1).step b2).cell 0
  have e1 : w2.cell? ⟨w.heap.size, 1, none⟩ = some (.int .i64 hi) := (((Blk.new w #[.int .i64 lo, .int .i64 hi] 36).step b1).step b2).cell 1
  have HB := Lib.hid (below_step (below_step B0 b1) b2)
  clear b1 b2 B0 L0 L1 c1 c2
  go_wp2
  all_goals
    go_ret2
    refine Ret.text (x := (winS lo hi, 0)) ?_ HB.out
    rw [HW.out]
    (try simp only [cat_two])
    grind
theorem winText_any (lo hi : Int) (w : World) (hL : Laid w) : Calls Tryz.prog 101 #[.agg (Win.arr ⟨lo, hi⟩)] w (Ret w (textVal (winT lo hi))) := by
  by_cases h : winOk lo hi
  · rw [winT_in h]; exact winText_in lo hi w hL h
  · have HT := Lib.hid (winT_out h)
    have HO := Lib.hid h; clear h
    go_enter Tryz.func101, Tryz.ntmps101
    simp only [Win.arr]
    go_wp2_with fail
    all_goals first
      | (exfalso; apply HO.out; unfold winOk; omega)
      | (go_ret2; exact Ret.text HT.out (alloc_below _ _))
set_option maxHeartbeats 4000000 in
theorem distText_any (d : Int) (w : World) (hL : Laid w) : Calls Tryz.prog 104 #[.int .i64 d] w (Ret w (textVal (distT d))) := by
  by_cases hr : 0 ≤ d ∧ d ≤ 8000000
  · have H1 := Lib.hid (distT_in hr)
    obtain ⟨r1, r2⟩ := hr
    have l1 := dec_len9 (d / 6000) (by omega)
    have l2 := dec_len9 (d % 6000) (by omega)
    by_cases hk : d % 6000 = 0
    · have H3 := Lib.hid (distS_whole r1 hk)
      go_enter Tryz.func104, Tryz.ntmps104
      go_wp2_with fail
      with_reducible refine callR (fmtN_any (d / 6000) (by omega) (by omega) _ hL) ?_
      intro w1 b1 _ _ _
      generalize Lib.decDigits (d / 6000).toNat = D1 at l1 H3 ⊢
      go_wp2
      go_ret2
      exact Ret.text (by rw [H1.out, H3.out]) b1
    · have H3 := Lib.hid (distS_part r1 hk)
      go_enter Tryz.func104, Tryz.ntmps104
      go_wp2_with fail
      with_reducible refine callR (fmtN_any (d / 6000) (by omega) (by omega) _ hL) ?_
      intro w1 b1 _ _ _
      have L1 := hL.below b1
      generalize Lib.decDigits (d / 6000).toNat = D1 at l1 H3 ⊢
      go_wp2_with fail
      with_reducible refine callR (fmtN_any (d % 6000) (by omega) (by omega) _ L1) ?_
      intro w2 b2 _ _ _
      generalize Lib.decDigits (d % 6000).toNat = D2 at l2 H3 ⊢
      go_wp2
      go_ret2
      exact Ret.text (by rw [H1.out, H3.out]; simp [cat]) (below_step b1 b2)
  · have H1 := Lib.hid (distT_out hr)
    go_enter Tryz.func104, Tryz.ntmps104
    go_wp2
    all_goals try omega
    all_goals
      go_ret2
      exact Ret.text H1.out (Below.refl _ _)
end Go.Proofs.YtcgmemkkcaipfaaGreatDoor
namespace Go.Proofs.YtcgmemkkcaipfaaGreatDoor
set_option linter.unusedVariables false
set_option linter.unusedSimpArgs false
/-- The words of a text: the texts between its blanks. -/
def words : List UInt8 → List (List UInt8)
  | [] => [[]]
  | x :: r => if x = 32 then [] :: words r else match words r with | [] => [[x]] | a :: q => (x :: a) :: q
theorem words_ne (l : List UInt8) : words l ≠ [] := by
  cases l with
  | nil => simp [words]
  | cons x r =>
    unfold words
    split
    · simp
    · split <;> simp
theorem words_cut : ∀ l : List UInt8, words l = if (cutAt 32 l).2.2 then (cutAt 32 l).1 :: words (cutAt 32 l).2.1 else [l]
  | [] => by simp [words, cutAt]
  | x :: r => by
    have ih := words_cut r
    by_cases hx : x = 32
    · simp [words, cutAt, hx]
    · simp only [words, cutAt, hx, if_false]
      cases hf : (cutAt 32 r).2.2
      · simp [hf] at ih; simp [ih]
      · simp [hf] at ih; simp [ih]
theorem count_cutAt (c : UInt8) : ∀ l : List UInt8, l.count c = if (cutAt c l).2.2 then 1 + (cutAt c l).2.1.count c else 0
  | [] => by simp [cutAt]
  | x :: r => by
    have ih := count_cutAt c r
    by_cases hx : x = c
    · simp [cutAt, hx]; omega
    · rw [List.count_cons_of_ne hx]; simp [cutAt, hx]; exact ih
theorem cutAt_lt (c : UInt8) (l : List UInt8) (h : (cutAt c l).2.2 = true) : (cutAt c l).2.1.length < l.length := by
  have h1 := congrArg List.length (cutAt_parts c l h)
  simp only [List.length_append, List.length_cons] at h1
  omega
theorem drop_cutAt (c : UInt8) (l : List UInt8) (h : (cutAt c l).2.2 = true) : l.drop ((Lib.index l [c]).toNat + [c].length) = (cutAt c l).2.1 ∧ l.take ((Lib.index l [c]).toNat + 0) = (cutAt c l).1 := by
  rw [index_cutAt c l, h]
  have h1 := cutAt_parts c l h
  generalize (cutAt c l).1 = a at h1 ⊢
  generalize (cutAt c l).2.1 = b at h1 ⊢
  subst h1
  simp
theorem countFrom_cutAt (c : UInt8) : ∀ (f : Nat) (l : List UInt8), l.length < f → Lib.countFrom [c] f l = l.count c
  | 0, l, h => by omega
  | f + 1, l, h => by
    rw [Lib.countFrom, count_cutAt c l]
    cases hf : (cutAt c l).2.2
    · rw [if_pos (by rw [index_cutAt, hf]; rfl)]; rfl
    · rw [if_neg (by rw [index_cutAt, hf]; first | (simp; done) | (simp; omega)), (drop_cutAt c l hf).1, countFrom_cutAt c f _ (by have := cutAt_lt c l hf; omega)]
      rfl
theorem splitK_words : ∀ (k : Nat) (l : List UInt8), l.count 32 ≤ k → Lib.splitK [32] 0 k l = words l
  | 0, l, h => by
    rw [Lib.splitK, words_cut]
    have h1 := count_cutAt 32 l
    cases hf : (cutAt 32 l).2.2
    · simp
    · rw [hf] at h1; simp at h1; omega
  | k + 1, l, h => by
    rw [Lib.splitK, words_cut]
    have h1 := count_cutAt 32 l
    cases hf : (cutAt 32 l).2.2
    · rw [if_pos (by rw [index_cutAt, hf]; rfl)]; simp
    · rw [if_neg (by rw [index_cutAt, hf]; first | (simp; done) | (simp; omega)), (drop_cutAt 32 l hf).1, (drop_cutAt 32 l hf).2]
      rw [hf] at h1
      simp only [if_true] at h1 ⊢
      rw [splitK_words k _ (by omega)]
theorem split_words (l : List UInt8) : Lib.split l [32] = words l := by
  unfold Lib.split Lib.count
  rw [countFrom_cutAt 32 _ l (by omega)]
  exact splitK_words _ l (Nat.le_refl _)
theorem words_len (l : List UInt8) : (words l).length = l.count 32 + 1 := by
  induction l with
  | nil => rfl
  | cons x r ih =>
    by_cases hx : x = 32
    · simp [words, hx, ih]
    · rw [List.count_cons_of_ne hx]
      unfold words
      rw [if_neg hx]
      have h1 := words_ne r
      match h : words r with
      | [] => exact absurd h h1
      | a :: q => rw [h] at ih; simpa using ih
/-- The sum of the words' lengths, each with the blank behind it. -/
def spanW (ws : List (List UInt8)) : Nat := (ws.map fun s => s.length + 1).sum
theorem spanW_cons (a : List UInt8) (q : List (List UInt8)) : spanW (a :: q) = a.length + 1 + spanW q := by simp [spanW]
theorem spanW_words (l : List UInt8) : spanW (words l) = l.length + 1 := by
  induction l with
  | nil => rfl
  | cons x r ih =>
    by_cases hx : x = 32
    · simp [words, hx, spanW_cons, ih]; omega
    · unfold words
      rw [if_neg hx]
      have h1 := words_ne r
      match h : words r with
      | [] => exact absurd h h1
      | a :: q => rw [h, spanW_cons] at ih; simp only [spanW_cons, List.length_cons]; omega
theorem words_no : ∀ (l s : List UInt8), s ∈ words l → (32 : UInt8) ∉ s
  | [], s, h => by simp [words] at h; simp [h]
  | x :: r, s, h => by
    by_cases hx : x = 32
    · simp [words, hx] at h
      rcases h with rfl | h
      · simp
      · exact words_no r s h
    · unfold words at h
      rw [if_neg hx] at h
      have h1 := words_ne r
      have ih := words_no r
      match h2 : words r with
      | [] => exact absurd h2 h1
      | a :: q =>
        rw [h2] at h ih
        simp only [List.mem_cons] at h
        rcases h with rfl | h
        · have := ih a (by simp)
          simp only [List.mem_cons, not_or]
          exact ⟨fun e => hx e.symm, this⟩
        · exact ih s (by simp [h])
theorem words_append (a r : List UInt8) (h : (32 : UInt8) ∉ a) : words (a ++ 32 :: r) = a :: words r := by
  induction a with
  | nil => simp [words]
  | cons x a ih =>
    simp only [List.mem_cons, not_or] at h
    have hx : ¬ x = 32 := fun e => h.1 e.symm
    rw [List.cons_append, words, if_neg hx, ih h.2]
theorem words_one (a : List UInt8) (h : (32 : UInt8) ∉ a) : words a = [a] := by
  induction a with
  | nil => simp [words]
  | cons x a ih =>
    simp only [List.mem_cons, not_or] at h
    have hx : ¬ x = 32 := fun e => h.1 e.symm
    rw [words, if_neg hx, ih h.2]
theorem join_cons2 (a b : List UInt8) (q : List (List UInt8)) : Lib.join (a :: b :: q) [32] = a ++ 32 :: Lib.join (b :: q) [32] := by
  simp [Lib.join, List.intercalate, List.intersperse]
theorem join_one (a : List UInt8) : Lib.join [a] [32] = a := by simp [Lib.join, List.intercalate, List.intersperse]
theorem words_join : ∀ (ws : List (List UInt8)), ws ≠ [] → (∀ s ∈ ws, (32 : UInt8) ∉ s) → words (Lib.join ws [32]) = ws
  | [], h, _ => absurd rfl h
  | [a], _, h => by rw [join_one]; exact words_one a (h a (by simp))
  | a :: b :: q, _, h => by
    rw [join_cons2, words_append a _ (h a (by simp)), words_join (b :: q) (by simp) (fun s hs => h s (by simp at hs ⊢; right; exact hs))]
theorem join_words (l : List UInt8) : Lib.join (words l) [32] = l := by
  induction l with
  | nil => simp [words, join_one]
  | cons x r ih =>
    have h1 := words_ne r
    by_cases hx : x = 32
    · unfold words; rw [if_pos hx]
      match h : words r with
      | [] => exact absurd h h1
      | a :: q => rw [h] at ih; rw [join_cons2, ih, hx]; rfl
    · unfold words; rw [if_neg hx]
      match h : words r with
      | [] => exact absurd h h1
      | [a] => rw [h, join_one] at ih; simp only [join_one, ih]
      | a :: b :: q => rw [h, join_cons2] at ih; simp only [join_cons2, List.cons_append, ih]
theorem join_len (ws : List (List UInt8)) (h : ws ≠ []) : (Lib.join ws [32]).length + 1 = spanW ws := by
  match ws, h with
  | [a], _ => simp [join_one, spanW]
  | a :: b :: q, _ =>
    have := join_len (b :: q) (by simp)
    rw [join_cons2, spanW_cons]; simp only [List.length_append, List.length_cons]; omega
theorem mem_words_len (l s : List UInt8) (h : s ∈ words l) : s.length ≤ l.length := by
  have h1 := spanW_words l
  have : ∀ (ws : List (List UInt8)), s ∈ ws → s.length + 1 ≤ spanW ws := by
    intro ws
    induction ws with
    | nil => intro h; simp at h
    | cons a q ih =>
      intro h
      rw [spanW_cons]
      simp only [List.mem_cons] at h
      rcases h with rfl | h
      · omega
      · have := ih h; omega
  have := this _ h
  omega
end Go.Proofs.YtcgmemkkcaipfaaGreatDoor
namespace Go.Proofs.YtcgmemkkcaipfaaGreatDoor
open Go.RowKit Go.Sort
set_option linter.unusedVariables false
set_option linter.unusedSimpArgs false
def refB (s : List UInt8) : Bool := (splitRef s).2.2 == 0
/-- The distance behind a letter. -/
def legDistS (c : UInt8) : List UInt8 → Int × Bool
  | [] => (0, false)
  | x :: r => if x = c ∧ (distP r).2 = 0 ∧ (distP r).1 ≠ 0 then ((distP r).1, distS (distP r).1.toNat == r) else (0, false)
def speedB : List UInt8 → Bool
  | x :: y :: r => x == 115 && y != 48 && decide (r.length ≤ 3) && (y :: r).all isD
  | _ => false
/-- The number behind the letter s. -/
def speedS (s : List UInt8) : Int × Bool := if speedB s then ((val s.tail : Int), true) else (0, false)
/-- The type with a name among the first k, t0 if there is none. -/
def typeK (s : List UInt8) (t0 : Int) : Nat → Int
  | 0 => t0
  | k + 1 => if 0 < k ∧ namesTab.getD k [] = s then (k : Int) else typeK s t0 k
/-- A word is taken: the leg with it, and whether it is accepted. -/
abbrev Acc := List UInt8 → Leg → Leg × Bool
def accName : Acc := fun s l => ({ l with ty := typeK s l.ty 18 }, typeK s l.ty 18 != 0)
def accFix : Acc := fun s l => ({ l with fix := s }, refB s)
def accCenter : Acc := fun s l => ({ l with center := (cutPre 64 s).1 }, (cutPre 64 s).2 && refB (cutPre 64 s).1)
def accTurn : Acc := fun s l => ({ l with turn := if s = [76] then 1 else 2 }, s == [76] || s == [82])
def accCourse : Acc := fun s l => ({ l with course := (courseS s).1 }, (courseS s).2)
def accDist : Acc := fun s l => ({ l with dist := (legDistS 100 s).1 }, (legDistS 100 s).2)
def accRadius : Acc := fun s l => ({ l with radius := (legDistS 114 s).1 }, (legDistS 114 s).2)
def accTheta : Acc := fun s l => match s with
  | [] => (l, false)
  | x :: r => if x = 116 then ({ l with theta := (courseS r).1 }, (courseS r).2) else (l, false)
def accOver : Acc := fun s l => ({ l with over := s == [111, 118, 101, 114] }, s == [111, 118, 101, 114])
def winTaken (s : List UInt8) : Bool := (parseWinS s).2 == 0 && !((parseWinS s).1.1 == -200000 && (parseWinS s).1.2 == 6000000)
def accWin : Acc := fun s l => if winTaken s then ({ l with lo := (parseWinS s).1.1, hi := (parseWinS s).1.2 }, true) else (l, false)
def accSpeed : Acc := fun s l => if (speedS s).2 then ({ l with speed := (speedS s).1 }, true) else (l, false)
def accRnp : Acc := fun s l => if (legDistS 110 s).2 then ({ l with rnp := (legDistS 110 s).1 }, true) else (l, false)
/-- The reader: the words that are left, the column of the next, the column of the error; and the leg. -/
structure PS where
  ws : List (List UInt8)
  col : Int
  bad : Int
  l : Leg
def PS.need (size : Nat) (f : Acc) (x : PS) : PS :=
  if x.bad ≠ 0 then x else match x.ws with
    | [] => { x with bad := size + 2 }
    | s :: r => if (f s x.l).2 then ⟨r, x.col + (s.length + 1), 0, (f s x.l).1⟩ else { x with bad := x.col, l := (f s x.l).1 }
def PS.may (f : Acc) (x : PS) : PS :=
  if x.bad ≠ 0 then x else match x.ws with
    | [] => x
    | s :: r => if (f s x.l).2 then ⟨r, x.col + (s.length + 1), 0, (f s x.l).1⟩ else { x with l := (f s x.l).1 }
def PS.needIf (b : Bool) (size : Nat) (f : Acc) (x : PS) : PS := if b then x.need size f else x
def leg0 : Leg := ⟨0, [], [], 0, false, 0, 0, 0, 0, 0, 0, 0, 0⟩
def legOpen : Leg := { leg0 with lo := -200000, hi := 6000000 }
def PS.fields (t : Int) (n : Nat) (x : PS) : PS :=
  ((((((x.needIf (uB t 1) n accFix).needIf (uB t 2) n accCenter).needIf (uB t 4) n accTurn).needIf (uB t 16) n accCourse).needIf (uB t 32) n accDist).needIf (uB t 64) n accRadius).needIf (uB t 128) n accTheta
def PS.options (x : PS) : PS := (((x.may accOver).may accWin).may accSpeed).may accRnp
def PS.begin (s : List UInt8) : PS := PS.need s.length accName ⟨words s, 1, 0, legOpen⟩
def PS.last (s : List UInt8) : PS := ((PS.begin s).fields (PS.begin s).l.ty s.length).options
def PS.badAt (x : PS) : Int := if x.ws ≠ [] ∧ x.bad = 0 then x.col else x.bad
def PS.done (x : PS) : Leg × Int × Int :=
  if x.badAt ≠ 0 then (leg0, x.badAt, 4) else if legCheck x.l ≠ 0 then (leg0, 0, legCheck x.l) else (x.l, 0, 0)
def parseS (s : List UInt8) : Leg × Int × Int := (PS.last s).done
/-! What is kept: the column, and the lengths. -/
structure PS.Ok (n : Nat) (x : PS) : Prop where
  col : x.col + (spanW x.ws : Int) = (n : Int) + 2
  one : 1 ≤ x.col
  bad0 : 0 ≤ x.bad
  bad : x.bad ≤ (n : Int) + 2
  fix : x.l.fix.length ≤ n
  center : x.l.center.length ≤ n
  ty0 : 0 ≤ x.l.ty
  ty : x.l.ty ≤ 17
structure Acc.Ok (n : Nat) (f : Acc) : Prop where
  fix : ∀ s l, s.length ≤ n → l.fix.length ≤ n → (f s l).1.fix.length ≤ n
  center : ∀ s l, s.length ≤ n → l.center.length ≤ n → (f s l).1.center.length ≤ n
  ty0 : ∀ s l, 0 ≤ l.ty → 0 ≤ (f s l).1.ty
  ty : ∀ s l, l.ty ≤ 17 → (f s l).1.ty ≤ 17
theorem PS.Ok.word {n : Nat} {x : PS} (h : x.Ok n) {s : List UInt8} {r : List (List UInt8)} (hw : x.ws = s :: r) : s.length ≤ n := by
  have h1 := h.col
  have h2 := h.one
  rw [hw, spanW_cons] at h1
  omega
theorem PS.Ok.need {n : Nat} {x : PS} {f : Acc} (h : x.Ok n) (hf : f.Ok n) : (x.need n f).Ok n := by
  unfold PS.need
  split
  · exact h
  · split
    · exact ⟨h.col, h.one, by simp; omega, by simp, h.fix, h.center, h.ty0, h.ty⟩
    · rename_i s r hw
      have hs := h.word hw
      have hc := h.col
      have h1 := h.one
      rw [hw, spanW_cons] at hc
      split
      · exact ⟨by simp only; omega, by simp only; omega, by simp, by simp only; omega, hf.fix _ _ hs h.fix, hf.center _ _ hs h.center, hf.ty0 _ _ h.ty0, hf.ty _ _ h.ty⟩
      · exact ⟨h.col, h.one, by simp only; omega, by simp only; omega, hf.fix _ _ hs h.fix, hf.center _ _ hs h.center, hf.ty0 _ _ h.ty0, hf.ty _ _ h.ty⟩
theorem PS.Ok.may {n : Nat} {x : PS} {f : Acc} (h : x.Ok n) (hf : f.Ok n) : (x.may f).Ok n := by
  unfold PS.may
  split
  · exact h
  · split
    · exact h
    · rename_i s r hw
      have hs := h.word hw
      have hc := h.col
      have h1 := h.one
      rw [hw, spanW_cons] at hc
      split
      · exact ⟨by simp only; omega, by simp only; omega, by simp, by simp only; omega, hf.fix _ _ hs h.fix, hf.center _ _ hs h.center, hf.ty0 _ _ h.ty0, hf.ty _ _ h.ty⟩
      · exact ⟨h.col, h.one, h.bad0, h.bad, hf.fix _ _ hs h.fix, hf.center _ _ hs h.center, hf.ty0 _ _ h.ty0, hf.ty _ _ h.ty⟩
theorem PS.Ok.needIf {n : Nat} {x : PS} {f : Acc} (b : Bool) (h : x.Ok n) (hf : f.Ok n) : (x.needIf b n f).Ok n := by
  unfold PS.needIf
  split
  · exact h.need hf
  · exact h
theorem cutPre_len (c : UInt8) (s : List UInt8) : (cutPre c s).1.length ≤ s.length := by
  unfold cutPre
  split
  · split <;> simp
  · simp
theorem typeK_bd (s : List UInt8) (t : Int) : ∀ k : Nat, k ≤ 18 → (0 ≤ t → 0 ≤ typeK s t k) ∧ (t ≤ 17 → typeK s t k ≤ 17)
  | 0, _ => ⟨id, id⟩
  | k + 1, h => by
    have ih := typeK_bd s t k (by omega)
    unfold typeK
    split
    · exact ⟨fun _ => by omega, fun _ => by omega⟩
    · exact ih
theorem accName_ok (n : Nat) : accName.Ok n := ⟨fun _ _ _ h => h, fun _ _ _ h => h, fun s l h => (typeK_bd s l.ty 18 (by omega)).1 h, fun s l h => (typeK_bd s l.ty 18 (by omega)).2 h⟩
theorem accFix_ok (n : Nat) : accFix.Ok n := ⟨fun _ _ h _ => h, fun _ _ _ h => h, fun _ _ h => h, fun _ _ h => h⟩
theorem accCenter_ok (n : Nat) : accCenter.Ok n := ⟨fun _ _ _ h => h, fun s _ h _ => Nat.le_trans (cutPre_len 64 s) h, fun _ _ h => h, fun _ _ h => h⟩
theorem accTurn_ok (n : Nat) : accTurn.Ok n := ⟨fun _ _ _ h => h, fun _ _ _ h => h, fun _ _ h => h, fun _ _ h => h⟩
theorem accCourse_ok (n : Nat) : accCourse.Ok n := ⟨fun _ _ _ h => h, fun _ _ _ h => h, fun _ _ h => h, fun _ _ h => h⟩
theorem accDist_ok (n : Nat) : accDist.Ok n := ⟨fun _ _ _ h => h, fun _ _ _ h => h, fun _ _ h => h, fun _ _ h => h⟩
theorem accRadius_ok (n : Nat) : accRadius.Ok n := ⟨fun _ _ _ h => h, fun _ _ _ h => h, fun _ _ h => h, fun _ _ h => h⟩
theorem accOver_ok (n : Nat) : accOver.Ok n := ⟨fun _ _ _ h => h, fun _ _ _ h => h, fun _ _ h => h, fun _ _ h => h⟩
theorem accTheta_eq (s : List UInt8) (l : Leg) : ∃ t b, accTheta s l = ({ l with theta := t }, b) := by
  unfold accTheta
  split
  · exact ⟨l.theta, false, rfl⟩
  · split
    · exact ⟨_, _, rfl⟩
    · exact ⟨l.theta, false, rfl⟩
theorem accTheta_ok (n : Nat) : accTheta.Ok n := by
  refine ⟨?_, ?_, ?_, ?_⟩ <;> intro s l <;> obtain ⟨t, b, h⟩ := accTheta_eq s l <;> rw [h]
  · exact fun _ h => h
  · exact fun _ h => h
  · exact fun h => h
  · exact fun h => h
theorem accWin_ok (n : Nat) : accWin.Ok n := by
  refine ⟨?_, ?_, ?_, ?_⟩ <;> intro s l <;> unfold accWin <;> split
  all_goals first | exact fun _ h => h | exact fun h => h
theorem accSpeed_ok (n : Nat) : accSpeed.Ok n := by
  refine ⟨?_, ?_, ?_, ?_⟩ <;> intro s l <;> unfold accSpeed <;> split
  all_goals first | exact fun _ h => h | exact fun h => h
theorem accRnp_ok (n : Nat) : accRnp.Ok n := by
  refine ⟨?_, ?_, ?_, ?_⟩ <;> intro s l <;> unfold accRnp <;> split
  all_goals first | exact fun _ h => h | exact fun h => h
theorem PS.begin0_ok (s : List UInt8) : PS.Ok s.length ⟨words s, 1, 0, legOpen⟩ :=
  ⟨by simp only [spanW_words]; omega, by simp, by simp, by simp only; omega, by simp [legOpen, leg0], by simp [legOpen, leg0], by simp [legOpen, leg0], by simp [legOpen, leg0]⟩
end Go.Proofs.YtcgmemkkcaipfaaGreatDoor
namespace Go.Proofs.YtcgmemkkcaipfaaGreatDoor
open Go.RowKit Go.Sort
set_option linter.unusedVariables false
set_option linter.unusedSimpArgs false
def txOf (l : Leg) : LegTx := ⟨exactS l.course.toNat, 100 :: distS l.dist.toNat, 114 :: distS l.radius.toNat, exactS l.theta.toNat, winS l.lo l.hi, Lib.decDigits l.speed.toNat, 110 :: distS l.rnp.toNat⟩
theorem orE_zero {a b : Int} : orE a b = 0 ↔ a = 0 ∧ b = 0 := by unfold orE; grind
/-- What a leg without an error is. -/
structure LegOk (l : Leg) : Prop where
  known : knownB l.ty = true
  fix : checkRefI l.fix (uB l.ty 1) = 0
  center : checkRefI l.center (uB l.ty 2) = 0
  turn : turnE (uB l.ty 4) l.turn = 0
  over : overB l = false
  course : checkNum l.course (uB l.ty 16) 0 129599999 = 0
  dist : checkNum l.dist (uB l.ty 32) 1 2000000 = 0
  radius : checkNum l.radius (uB l.ty 64) 1 2000000 = 0
  theta : checkNum l.theta (uB l.ty 128) 0 129599999 = 0
  limits : limitsE l = 0
theorem legOk_of {l : Leg} (h : legCheck l = 0) : LegOk l := by
  unfold legCheck at h
  cases hk : knownB l.ty
  · rw [hk] at h; simp at h
  · rw [hk] at h
    simp only [if_true, orE_zero, legC2, legC3, legC4] at h
    obtain ⟨h1, h2, h3, h4, h5, h6, h7, h8, h9⟩ := h
    refine ⟨hk, h1, h2, h3, ?_, h5, h6, h7, h8, h9⟩
    cases ho : overB l
    · rfl
    · rw [ho] at h4; simp at h4
theorem legCheck_of {l : Leg} (h : LegOk l) : legCheck l = 0 := by
  unfold legCheck
  rw [h.known]
  simp only [if_true, orE_zero, legC2, legC3, legC4]
  exact ⟨h.fix, h.center, h.turn, by rw [h.over]; rfl, h.course, h.dist, h.radius, h.theta, h.limits⟩
theorem num_used {n lo hi : Int} {b : Bool} (h : checkNum n b lo hi = 0) (hb : b = true) : lo ≤ n ∧ n ≤ hi := by
  subst hb; unfold checkNum at h; grind
theorem num_free {n lo hi : Int} {b : Bool} (h : checkNum n b lo hi = 0) (hb : b = false) : n = 0 := by
  subst hb; unfold checkNum at h; grind
theorem limits_of {l : Leg} (h : limitsE l = 0) : winOk l.lo l.hi ∧ (climbsB l.ty = true → l.lo ≠ -200000) ∧ 0 ≤ l.speed ∧ l.speed ≤ 1000 ∧ 0 ≤ l.rnp ∧ l.rnp ≤ 120000 := by
  unfold limitsE at h
  unfold winOk
  grind
theorem tx_small {l : Leg} (h : LegOk l) : ∀ s ∈ [exactS l.course.toNat, 100 :: distS l.dist.toNat, 114 :: distS l.radius.toNat, exactS l.theta.toNat, winS l.lo l.hi, Lib.decDigits l.speed.toNat, 110 :: distS l.rnp.toNat], s.length ≤ 1000 := by
  obtain ⟨hw, _, s0, s1, r0, r1⟩ := limits_of h.limits
  have e1 := exactS_len l.course.toNat
  have e2 := exactS_len l.theta.toNat
  have hd : l.dist.toNat ≤ 8000000 := by
    cases hb : uB l.ty 32
    · have := num_free h.dist hb; omega
    · have := num_used h.dist hb; omega
  have hr : l.radius.toNat ≤ 8000000 := by
    cases hb : uB l.ty 64
    · have := num_free h.radius hb; omega
    · have := num_used h.radius hb; omega
  have e3 := distS_len hd
  have e4 := distS_len hr
  have e5 := winS_len hw
  have e6 : (Lib.decDigits l.speed.toNat).length ≤ 4 := dec_len (by decide) (by omega)
  have e7 := distS_len (d := l.rnp.toNat) (by omega)
  simp only [List.mem_cons, List.not_mem_nil, or_false, forall_eq_or_imp, forall_eq, List.length_cons]
  refine ⟨?_, ?_, ?_, ?_, ?_, ?_, ?_⟩ <;> omega
/-- The text of a leg. -/
def textS (l : Leg) : List UInt8 := legText l (txOf l)
end Go.Proofs.YtcgmemkkcaipfaaGreatDoor
namespace Go.Proofs.YtcgmemkkcaipfaaGreatDoor
open Go.RowKit Go.Sort
set_option linter.unusedVariables false
set_option linter.unusedSimpArgs false
theorem digW_all (k n : Nat) : (digW k n).all isD = true := by
  induction k generalizing n with
  | zero => rfl
  | succ k ih => simp [digW, ih, isD_dg (Nat.mod_lt n (by decide : 0 < 10))]
theorem val_digW (k n : Nat) : val (digW k n) = n % 10 ^ k := by
  induction k generalizing n with
  | zero => simp [digW, val, numV, Nat.mod_one]
  | succ k ih =>
    rw [digW, val_snoc, ih, dg_toNat (Nat.mod_lt n (by decide)), Nat.pow_succ, Nat.mul_comm (10 ^ k) 10, Nat.mod_mul]
    omega
theorem digW_val (l : List UInt8) : l.all isD = true → digW l.length (val l) = l := by
  refine snoc_ind (P := fun l => l.all isD = true → digW l.length (val l) = l) (fun _ => rfl) (fun l c ih h => ?_) l
  simp only [List.all_append, Bool.and_eq_true, List.all_cons, List.all_nil, Bool.and_true] at h
  have hc : 48 ≤ c.toNat ∧ c.toNat ≤ 57 := by simpa [isD] using h.2
  have e1 : (10 * val l + (c.toNat - 48)) / 10 = val l := by omega
  have e2 : (10 * val l + (c.toNat - 48)) % 10 = c.toNat - 48 := by omega
  rw [List.length_append, List.length_singleton, digW, val_snoc, e1, e2, ih h.1, dg_of h.2]
theorem exactS_all (a : Nat) : (exactS a).all isD = true := by simp [exactS, digW_all]
theorem angP_exactS (a : Nat) (h : a < 129600000) : angP (exactS a) = ((a : Int), true) := by
  have l3 := digW_len 3 (a / 360000)
  have l2 := digW_len 2 (a % 360000 / 6000)
  have l1 := digW_len 2 (a % 6000 / 100)
  have l0 := digW_len 2 (a % 100)
  have v3 := val_digW 3 (a / 360000)
  have v2 := val_digW 2 (a % 360000 / 6000)
  have v1 := val_digW 2 (a % 6000 / 100)
  have v0 := val_digW 2 (a % 100)
  have e0 := exactS_all a
  have e9 := exactS_len a
  unfold exactS at e0 e9
  unfold angP exactS
  generalize digW 3 (a / 360000) = A at *
  generalize digW 2 (a % 360000 / 6000) = B at *
  generalize digW 2 (a % 6000 / 100) = C at *
  generalize digW 2 (a % 100) = D at *
  have t3 : (A ++ B ++ C ++ D).take 3 = A := by rw [List.append_assoc, List.append_assoc, List.take_append_of_le_length (by omega), List.take_of_length_le (by omega)]
  have d3 : (A ++ B ++ C ++ D).drop 3 = B ++ C ++ D := by rw [List.append_assoc, List.append_assoc, ← l3, List.drop_left, List.append_assoc]
  have t2 : (B ++ C ++ D).take 2 = B := by rw [List.append_assoc, List.take_append_of_le_length (by omega), List.take_of_length_le (by omega)]
  have d5 : (A ++ B ++ C ++ D).drop 5 = C ++ D := by rw [show A ++ B ++ C ++ D = (A ++ B) ++ (C ++ D) by simp, show 5 = (A ++ B).length by simp; omega, List.drop_left]
  have t5 : (C ++ D).take 2 = C := by rw [List.take_append_of_le_length (by omega), List.take_of_length_le (by omega)]
  have d7 : (A ++ B ++ C ++ D).drop 7 = D := by rw [show 7 = (A ++ B ++ C).length by simp; omega, List.drop_left]
  rw [t3, d3, t2, d5, t5, d7, if_pos ⟨e9, e0, by omega, by omega⟩, v3, v2, v1, v0]
  refine Prod.ext ?_ rfl
  show _ = (a : Int)
  omega
theorem courseS_exactS {a : Int} (h0 : 0 ≤ a) (h : a ≤ 129599999) : courseS (exactS a.toNat) = (a, true) := by
  unfold courseS parseExS
  rw [if_pos (exactS_len _), angP_exactS _ (by omega)]
  simp only [if_true]
  rw [if_pos (by omega)]
  refine Prod.ext ?_ rfl
  show ((a.toNat : Nat) : Int) = a
  omega
theorem courseS_back {s : List UInt8} (h : (courseS s).2 = true) : 0 ≤ (courseS s).1 ∧ (courseS s).1 ≤ 129599999 ∧ exactS (courseS s).1.toNat = s := by
  unfold courseS at h ⊢
  by_cases h9 : s.length = 9
  · rw [if_pos h9] at h ⊢
    unfold parseExS at h ⊢
    by_cases ha : (angP s).2 = true
    · rw [if_pos ha] at h ⊢
      by_cases hb : (angP s).1 < 129600000
      · rw [if_pos hb] at h ⊢
        simp only
        unfold angP at ha hb ⊢
        by_cases hq : s.length = 9 ∧ s.all isD = true ∧ val ((s.drop 3).take 2) < 60 ∧ val ((s.drop 5).take 2) < 60
        · rw [if_pos hq] at hb ⊢
          simp only at hb ⊢
          obtain ⟨_, hd, q1, q2⟩ := hq
          have w3 : (s.take 3).all isD = true := List.all_eq_true.2 fun x hx => (List.all_eq_true.1 hd) x (List.mem_of_mem_take hx)
          have w2 : ((s.drop 3).take 2).all isD = true := List.all_eq_true.2 fun x hx => (List.all_eq_true.1 hd) x (List.mem_of_mem_drop (List.mem_of_mem_take hx))
          have w1 : ((s.drop 5).take 2).all isD = true := List.all_eq_true.2 fun x hx => (List.all_eq_true.1 hd) x (List.mem_of_mem_drop (List.mem_of_mem_take hx))
          have w0 : (s.drop 7).all isD = true := List.all_eq_true.2 fun x hx => (List.all_eq_true.1 hd) x (List.mem_of_mem_drop hx)
          have d3 := digW_val _ w3
          have d2 := digW_val _ w2
          have d1 := digW_val _ w1
          have d0 := digW_val _ w0
          have b3 := val_lt _ w3
          have b2 := val_lt _ w2
          have b1 := val_lt _ w1
          have b0 := val_lt _ w0
          have n3 : (s.take 3).length = 3 := by simp; omega
          have n2 : ((s.drop 3).take 2).length = 2 := by simp; omega
          have n1 : ((s.drop 5).take 2).length = 2 := by simp; omega
          have n0 : (s.drop 7).length = 2 := by simp; omega
          rw [n3] at d3 b3
          rw [n2] at d2 b2
          rw [n1] at d1 b1
          rw [n0] at d0 b0
          have hs : s = s.take 3 ++ (s.drop 3).take 2 ++ (s.drop 5).take 2 ++ s.drop 7 := by
            have e1 : s = s.take 3 ++ s.drop 3 := (List.take_append_drop 3 s).symm
            have e2 : s.drop 3 = (s.drop 3).take 2 ++ s.drop 5 := by have := (List.take_append_drop 2 (s.drop 3)).symm; rwa [List.drop_drop] at this
            have e3 : s.drop 5 = (s.drop 5).take 2 ++ s.drop 7 := by have := (List.take_append_drop 2 (s.drop 5)).symm; rwa [List.drop_drop] at this
            rw [List.append_assoc, List.append_assoc, ← e3, ← e2, ← e1]
          generalize s.take 3 = A at *
          generalize (s.drop 3).take 2 = B at *
          generalize (s.drop 5).take 2 = C at *
          generalize s.drop 7 = D at *
          refine ⟨by omega, by omega, ?_⟩
          have en : ((val A : Int) * 360000 + (val B : Int) * 6000 + (val C : Int) * 100 + (val D : Int)).toNat = val A * 360000 + val B * 6000 + val C * 100 + val D := by omega
          rw [en]
          unfold exactS
          rw [show (val A * 360000 + val B * 6000 + val C * 100 + val D) / 360000 = val A by omega, show (val A * 360000 + val B * 6000 + val C * 100 + val D) % 360000 / 6000 = val B by omega,
            show (val A * 360000 + val B * 6000 + val C * 100 + val D) % 6000 / 100 = val C by omega, show (val A * 360000 + val B * 6000 + val C * 100 + val D) % 100 = val D by omega, d3, d2, d1, d0, ← hs]
        · rw [if_neg hq] at ha; simp at ha
      · rw [if_neg hb] at h; simp at h
    · rw [if_neg ha] at h; simp at h
  · rw [if_neg h9] at h; simp at h
theorem legDist_fwd (c : UInt8) {d : Int} (h0 : 1 ≤ d) (h : d ≤ 8000000) : legDistS c (c :: distS d.toNat) = (d, true) := by
  have e := distP_distS (d := d.toNat) (by omega)
  have e1 : ((d.toNat : Nat) : Int) = d := by omega
  rw [e1] at e
  unfold legDistS
  simp only
  rw [e, if_pos ⟨trivial, rfl, by simp only; omega⟩]
  simp
theorem legDist_back {c : UInt8} {s : List UInt8} (h : (legDistS c s).2 = true) : 1 ≤ (legDistS c s).1 ∧ s = c :: distS (legDistS c s).1.toNat := by
  cases s with
  | nil => simp [legDistS] at h
  | cons x r =>
    unfold legDistS at h ⊢
    simp only at h ⊢
    by_cases hq : x = c ∧ (distP r).2 = 0 ∧ (distP r).1 ≠ 0
    · rw [if_pos hq] at h ⊢
      obtain ⟨rfl, h1, h2⟩ := hq
      have hb := distS_distP h1
      refine ⟨by simp only; omega, ?_⟩
      have : distS (distP r).1.toNat = r := by simpa using h
      rw [this]
    · rw [if_neg hq] at h; simp at h
theorem dec_head1 {u : Nat} (h : 0 < u) : ∃ c r, Lib.decDigits u = c :: r ∧ (c != 48) = true := by
  obtain ⟨c, r, h1, h2⟩ := dec_head u h
  exact ⟨c, r, h1, by simpa using h2⟩
theorem speed_fwd {n : Int} (h0 : 1 ≤ n) (h : n ≤ 1000) : speedS (115 :: Lib.decDigits n.toNat) = (n, true) := by
  obtain ⟨c, r, e, hc⟩ := dec_head1 (u := n.toNat) (by omega)
  have hl : (Lib.decDigits n.toNat).length ≤ 4 := dec_len (by decide) (by omega)
  have ha := dec_all n.toNat
  have hv := val_dec n.toNat
  rw [e] at hl ha hv ⊢
  unfold speedS speedB
  rw [if_pos (by simp only [ha, hc, Bool.and_true, Bool.true_and, beq_self_eq_true, decide_eq_true_eq]; simp at hl; omega)]
  refine Prod.ext ?_ rfl
  show ((val (c :: r) : Nat) : Int) = n
  omega
theorem speed_back {s : List UInt8} (h : (speedS s).2 = true) : 1 ≤ (speedS s).1 ∧ s = 115 :: Lib.decDigits (speedS s).1.toNat := by
  unfold speedS at h ⊢
  by_cases hb : speedB s = true
  · rw [if_pos hb] at h ⊢
    unfold speedB at hb
    split at hb
    · rename_i x y r
      simp only [Bool.and_eq_true, beq_iff_eq, bne_iff_ne, decide_eq_true_eq, ne_eq] at hb
      obtain ⟨⟨⟨rfl, hy⟩, hr⟩, ha⟩ := hb
      have hd : isD y = true := by simp at ha; exact ha.1
      have hp : plainB (y :: r) = true := by
        have := ha
        unfold plainB
        cases r with
        | nil => simpa using ha
        | cons z t => simp [ha, hy] at ha ⊢
      have hv := val_pos y r hd hy
      have he := dec_val _ hp
      simp only [List.tail_cons]
      refine ⟨by omega, ?_⟩
      rw [show ((val (y :: r) : Nat) : Int).toNat = val (y :: r) by omega, he]
    · cases hb
  · rw [if_neg hb] at h; simp at h
theorem speed_no {s : List UInt8} (h : ∀ r, s ≠ 115 :: r) : speedS s = (0, false) := by
  unfold speedS
  rw [if_neg]
  intro hb
  unfold speedB at hb
  split at hb
  · rename_i x y r
    simp only [Bool.and_eq_true, beq_iff_eq] at hb
    exact h (y :: r) (by rw [hb.1.1.1])
  · cases hb
theorem typeK_fwd : ∀ k : Fin 17, typeK (nameOf ((k.val + 1 : Nat) : Int)) 0 18 = ((k.val + 1 : Nat) : Int) := by decide +kernel
theorem type_fwd {t : Int} (h : knownB t = true) : typeK (nameOf t) 0 18 = t := by
  have h1 : 1 ≤ t ∧ t ≤ 17 := by simpa [knownB] using h
  have h2 := typeK_fwd ⟨t.toNat - 1, by omega⟩
  have e : ((t.toNat - 1 + 1 : Nat) : Int) = t := by omega
  simp only [e] at h2
  exact h2
theorem typeK_back (s : List UInt8) : ∀ k : Nat, k ≤ 18 → typeK s 0 k ≠ 0 → knownB (typeK s 0 k) = true ∧ nameOf (typeK s 0 k) = s
  | 0, _, h => absurd rfl h
  | k + 1, hk, h => by
    unfold typeK at h ⊢
    by_cases hc : 0 < k ∧ namesTab.getD k [] = s
    · rw [if_pos hc] at h ⊢
      refine ⟨by simp [knownB]; omega, ?_⟩
      unfold nameOf
      rw [show ((k : Nat) : Int).toNat = k by omega]
      exact hc.2
    · rw [if_neg hc] at h ⊢
      exact typeK_back s k (by omega) h
theorem refB_iff {s : List UInt8} : refB s = true ↔ checkRefI s true = 0 := by
  unfold refB checkRefI
  simp only [if_true, beq_iff_eq]
  constructor
  · intro h; rw [if_pos h]
  · intro h
    by_cases h2 : (splitRef s).2.2 = 0
    · exact h2
    · rw [if_neg h2] at h; cases h
theorem alnum_no {l : List UInt8} (h : l.all alnum = true) : (32 : UInt8) ∉ l := fun hm => by
  have := (List.all_eq_true.1 h) 32 hm
  exact absurd this (by decide)
theorem nameB_all {l : List UInt8} {m : Int} (h : nameB l m = true) : l.all alnum = true := by
  unfold nameB at h
  split at h
  · cases h
  · simp only [Bool.and_eq_true] at h; exact h.2
theorem ref_no {s : List UInt8} (h : refB s = true) : (32 : UInt8) ∉ s := by
  have h0 : (splitRef s).2.2 = 0 := by simpa [refB] using h
  unfold splitRef splitRef3 at h0
  by_cases hq : (cutAt 47 s).2.2 = true
  · rw [if_pos hq] at h0
    by_cases hn : (nameB (cutAt 47 s).1 6 && (nameB (cutAt 47 s).2.1 6 || shortB (cutAt 47 s).2.1)) = true
    · have hp := cutAt_parts 47 s hq
      simp only [Bool.and_eq_true, Bool.or_eq_true] at hn
      have a1 := alnum_no (nameB_all hn.1)
      have a2 : (32 : UInt8) ∉ (cutAt 47 s).2.1 := by
        rcases hn.2 with h2 | h2
        · exact alnum_no (nameB_all h2)
        · unfold shortB at h2; simp only [Bool.and_eq_true] at h2; exact alnum_no h2.2
      rw [hp]
      simp only [List.mem_append, List.mem_cons, not_or]
      exact ⟨a1, by decide, a2⟩
    · rw [if_neg hn] at h0; cases h0
  · rw [if_neg hq] at h0; cases h0
theorem dig_no {l : List UInt8} (h : l.all isD = true) : (32 : UInt8) ∉ l := fun hm => by
  have := (List.all_eq_true.1 h) 32 hm
  exact absurd this (by decide)
theorem dist_no (d : Nat) : (32 : UInt8) ∉ distS d := by
  unfold distS
  have h1 := dig_no (dec_all (d / 6000))
  have h2 := dig_no (dec_all (d % 6000))
  split
  · simpa using h1
  · simp only [List.mem_append, List.mem_cons, not_or]
    exact ⟨h1, by decide, h2⟩
theorem alt_no (a : Int) : (32 : UInt8) ∉ altS a := altS_not (by decide) a
theorem win_no (lo hi : Int) : (32 : UInt8) ∉ winS lo hi := by
  unfold winS
  have h1 := alt_no lo
  have h2 := alt_no hi
  repeat' split
  · decide
  · exact h1
  · simp only [List.mem_append, List.mem_cons, not_or, List.not_mem_nil, not_false_eq_true, and_true]; exact ⟨h1, by decide⟩
  · simp only [List.mem_append, List.mem_cons, not_or, List.not_mem_nil, not_false_eq_true, and_true]; exact ⟨h2, by decide⟩
  · simp only [List.mem_append, List.mem_cons, not_or]; exact ⟨h1, by decide, h2⟩
theorem altS_first (a : Int) : ∃ c r, altS a = c :: r ∧ altC c = true := by
  have h := altS_all a
  match h2 : altS a with
  | [] => exact absurd h2 (altS_ne a)
  | c :: r => rw [h2] at h; simp at h; exact ⟨c, r, rfl, h.1⟩
/-- A window's text begins with a digit or a sign. -/
theorem winS_first (lo hi : Int) : ∃ c r, winS lo hi = c :: r ∧ altC c = true := by
  obtain ⟨c, r, e, hc⟩ := altS_first lo
  obtain ⟨c', r', e', hc'⟩ := altS_first hi
  unfold winS
  repeat' split
  · exact ⟨45, [], rfl, by decide⟩
  · exact ⟨c, r, e, hc⟩
  · exact ⟨c, r ++ [43], by rw [e]; rfl, hc⟩
  · exact ⟨c', r' ++ [45], by rw [e']; rfl, hc'⟩
  · exact ⟨c, r ++ 58 :: altS hi, by rw [e]; rfl, hc⟩
theorem win_fwd {lo hi : Int} (h : winOk lo hi) (hn : ¬ (lo = -200000 ∧ hi = 6000000)) : winTaken (winS lo hi) = true := by
  unfold winTaken
  rw [parseWin_winS h]
  simp only [beq_self_eq_true, Bool.true_and, Bool.not_eq_true', Bool.and_eq_false_iff, beq_eq_false_iff_ne]
  rcases Int.decEq lo (-200000) with h1 | h1
  · exact .inl h1
  · exact .inr fun h2 => hn ⟨h1, h2⟩
theorem win_back {s : List UInt8} (h : winTaken s = true) : winOk (parseWinS s).1.1 (parseWinS s).1.2 ∧ winS (parseWinS s).1.1 (parseWinS s).1.2 = s ∧ ¬ ((parseWinS s).1.1 = -200000 ∧ (parseWinS s).1.2 = 6000000) := by
  unfold winTaken at h
  simp only [Bool.and_eq_true, beq_iff_eq, Bool.not_eq_true', Bool.and_eq_false_iff, beq_eq_false_iff_ne] at h
  have h1 := parseWin_ok h.1
  refine ⟨h1.1, h1.2, ?_⟩
  rintro ⟨h2, h3⟩
  rcases h.2 with h4 | h4
  · exact h4 h2
  · exact h4 h3
theorem win_not {c : UInt8} {r : List UInt8} (h : altC c = false) : winTaken (c :: r) = false := by
  cases hw : winTaken (c :: r)
  · rfl
  · obtain ⟨_, h2, _⟩ := win_back hw
    obtain ⟨c', r', e, hc⟩ := winS_first (parseWinS (c :: r)).1.1 (parseWinS (c :: r)).1.2
    rw [e] at h2
    injection h2 with h3 h4
    rw [h3, h] at hc; cases hc
end Go.Proofs.YtcgmemkkcaipfaaGreatDoor
namespace Go.Proofs.YtcgmemkkcaipfaaGreatDoor
open Go.RowKit Go.Sort
set_option linter.unusedVariables false
set_option linter.unusedSimpArgs false
abbrev Ws := List (List UInt8)
/-- The reader stands ahead of the words W, cut behind some of them; the leg is l. -/
def AtS (full : Prop) (W : Ws) (l : Leg) (x : PS) : Prop := x.bad = 0 ∧ x.l = l ∧ ∃ j, x.ws = W.take j ∧ (full → W.length ≤ j)
/-- A word is missing at the end. -/
def OutS (n : Nat) (full : Prop) (x : PS) : Prop := ¬ full ∧ x.bad = (n : Int) + 2 ∧ x.ws = []
theorem OutS.needIf {n : Nat} {full : Prop} {x : PS} (h : OutS n full x) (b : Bool) (f : Acc) : OutS n full (x.needIf b n f) := by
  obtain ⟨h1, h2, h3⟩ := h
  have e : x.needIf b n f = x := by
    unfold PS.needIf PS.need
    cases b
    · rfl
    · simp only [if_true]; rw [if_pos (by omega)]
  rw [e]; exact ⟨h1, h2, h3⟩
theorem OutS.may {n : Nat} {full : Prop} {x : PS} (h : OutS n full x) (f : Acc) : OutS n full (x.may f) := by
  obtain ⟨h1, h2, h3⟩ := h
  have e : x.may f = x := by unfold PS.may; rw [if_pos (by omega)]
  rw [e]; exact ⟨h1, h2, h3⟩
theorem AtS.needIf {n : Nat} {full : Prop} {W : Ws} {l l' : Leg} {x : PS} {s : List UInt8} {b : Bool} {f : Acc} (h : AtS full (opt b s ++ W) l x) (h1 : b = true → f s l = (l', true)) (h0 : b = false → l' = l) :
    AtS full W l' (x.needIf b n f) ∨ OutS n full (x.needIf b n f) := by
  obtain ⟨hb, rfl, j, hw, hj⟩ := h
  cases b
  · left
    rw [h0 rfl]
    exact ⟨hb, rfl, j, by simpa [PS.needIf, opt] using hw, by simpa [opt] using hj⟩
  · have hw' : x.ws = (s :: W).take j := by simpa [opt] using hw
    have hj' : full → W.length + 1 ≤ j := fun hf => by have := hj hf; simp [opt] at this; omega
    unfold PS.needIf PS.need
    simp only [if_true]
    rw [if_neg (by omega)]
    cases j with
    | zero =>
      right
      rw [hw']
      exact ⟨fun hf => by have := hj' hf; omega, rfl, by simp⟩
    | succ j =>
      left
      rw [hw']
      simp only [List.take_succ_cons]
      rw [h1 rfl]
      exact ⟨rfl, rfl, j, rfl, fun hf => by have := hj' hf; omega⟩
theorem AtS.may {n : Nat} {full : Prop} {W : Ws} {l l' : Leg} {x : PS} {s : List UInt8} {b : Bool} {f : Acc} (h : AtS full (opt b s ++ W) l x) (h1 : b = true → f s l = (l', true)) (h0 : b = false → l' = l ∧ ∀ s' ∈ W, f s' l = (l, false)) :
    AtS full W l' (x.may f) ∨ (¬ full ∧ AtS full W l (x.may f)) := by
  obtain ⟨hb, rfl, j, hw, hj⟩ := h
  cases b
  · left
    obtain ⟨e, h2⟩ := h0 rfl
    rw [e]
    have hw' : x.ws = W.take j := by simpa [opt] using hw
    have hj' : full → W.length ≤ j := by simpa [opt] using hj
    unfold PS.may
    rw [if_neg (by omega)]
    match hq : x.ws with
    | [] => exact ⟨hb, rfl, j, by rw [← hw', hq], hj'⟩
    | s' :: r =>
      have hm : s' ∈ W := by have : s' ∈ W.take j := by rw [← hw', hq]; simp
                             exact List.mem_of_mem_take this
      simp only
      rw [h2 s' hm, if_neg (by simp)]
      exact ⟨hb, rfl, j, by rw [← hw', hq], hj'⟩
  · have hw' : x.ws = (s :: W).take j := by simpa [opt] using hw
    have hj' : full → W.length + 1 ≤ j := fun hf => by have := hj hf; simp [opt] at this; omega
    unfold PS.may
    rw [if_neg (by omega)]
    cases j with
    | zero =>
      right
      refine ⟨fun hf => by have := hj' hf; omega, ?_⟩
      rw [hw']
      exact ⟨hb, rfl, 0, by simpa using hw', fun hf => by have := hj' hf; omega⟩
    | succ j =>
      left
      rw [hw']
      simp only [List.take_succ_cons]
      rw [h1 rfl]
      exact ⟨rfl, rfl, j, rfl, fun hf => by have := hj' hf; omega⟩
/-- The leg's options, each its own or none. -/
structure OptOf (full : Prop) (l m : Leg) : Prop where
  ty : m.ty = l.ty
  fix : m.fix = l.fix
  center : m.center = l.center
  turn : m.turn = l.turn
  course : m.course = l.course
  dist : m.dist = l.dist
  radius : m.radius = l.radius
  theta : m.theta = l.theta
  over : m.over = l.over ∨ (¬ full ∧ m.over = false)
  win : (m.lo = l.lo ∧ m.hi = l.hi) ∨ (¬ full ∧ m.lo = -200000 ∧ m.hi = 6000000)
  speed : m.speed = l.speed ∨ (¬ full ∧ m.speed = 0)
  rnp : m.rnp = l.rnp ∨ (¬ full ∧ m.rnp = 0)
def needW (l : Leg) : Ws := opt (uB l.ty 1) l.fix ++ (opt (uB l.ty 2) (64 :: l.center) ++ (opt (uB l.ty 4) (if l.turn = 1 then [76] else [82]) ++ (opt (uB l.ty 16) (txOf l).course ++ (opt (uB l.ty 32) (txOf l).dist ++ (opt (uB l.ty 64) (txOf l).radius ++ (opt (uB l.ty 128) (116 :: (txOf l).theta) ++ []))))))
def optW (l : Leg) : Ws := opt l.over [111, 118, 101, 114] ++ (opt (winB l) (txOf l).win ++ (opt (l.speed != 0) (115 :: (txOf l).speed) ++ (opt (l.rnp != 0) (txOf l).rnp ++ [])))
theorem legWords_eq (l : Leg) : legWords l (txOf l) = nameOf l.ty :: (needW l ++ optW l) := by
  simp only [legWords, needW, optW, List.append_assoc, List.append_nil, List.singleton_append, List.cons_append, List.nil_append]
theorem opt_noW {b : Bool} {s x : List UInt8} (h : b = true → (32 : UInt8) ∉ s) (hx : x ∈ opt b s) : (32 : UInt8) ∉ x := by
  cases b
  · cases hx
  · have : x = s := by simpa [opt] using hx
    rw [this]; exact h rfl
theorem legWords_no {l : Leg} (h : LegOk l) : ∀ s ∈ legWords l (txOf l), (32 : UInt8) ∉ s := by
  intro s hs
  have nm : (32 : UInt8) ∉ nameOf l.ty := by
    have h1 : 1 ≤ l.ty ∧ l.ty ≤ 17 := by simpa [knownB] using h.known
    have hd : ∀ k : Fin 17, (32 : UInt8) ∉ nameOf ((k.val + 1 : Nat) : Int) := by decide +kernel
    have h2 := hd ⟨l.ty.toNat - 1, by omega⟩
    have e : ((l.ty.toNat - 1 + 1 : Nat) : Int) = l.ty := by omega
    simp only [e] at h2
    exact h2
  simp only [legWords, List.mem_append, List.mem_singleton] at hs
  rcases hs with (((((((((((hs | hs) | hs) | hs) | hs) | hs) | hs) | hs) | hs) | hs) | hs) | hs)
  · rw [hs]; exact nm
  · exact opt_noW (fun hb => ref_no (refB_iff.2 (by have := h.fix; rwa [hb] at this))) hs
  · exact opt_noW (fun hb => by have := ref_no (refB_iff.2 (by have := h.center; rwa [hb] at this)); simp only [List.mem_cons, not_or]; exact ⟨by decide, this⟩) hs
  · exact opt_noW (fun hb => by split <;> decide) hs
  · exact opt_noW (fun hb => dig_no (exactS_all _)) hs
  · exact opt_noW (fun hb => by simp only [txOf, List.mem_cons, not_or]; exact ⟨by decide, dist_no _⟩) hs
  · exact opt_noW (fun hb => by simp only [txOf, List.mem_cons, not_or]; exact ⟨by decide, dist_no _⟩) hs
  · exact opt_noW (fun hb => by simp only [txOf, List.mem_cons, not_or]; exact ⟨by decide, dig_no (exactS_all _)⟩) hs
  · exact opt_noW (fun hb => by decide) hs
  · exact opt_noW (fun hb => win_no _ _) hs
  · exact opt_noW (fun hb => by simp only [txOf, List.mem_cons, not_or]; exact ⟨by decide, dig_no (dec_all _)⟩) hs
  · exact opt_noW (fun hb => by simp only [txOf, List.mem_cons, not_or]; exact ⟨by decide, dist_no _⟩) hs
theorem cutPre_yes (c : UInt8) (r : List UInt8) : cutPre c (c :: r) = (r, true) := by simp [cutPre]
def nOpen (l : Leg) : Leg := { l with over := false, lo := -200000, hi := 6000000, speed := 0, rnp := 0 }
theorem mem_opt2 {b : Bool} {s x : List UInt8} {W : Ws} (h : x ∈ opt b s ++ W) : x = s ∨ x ∈ W := by
  rcases List.mem_append.1 h with h | h
  · exact .inl (mem_opt h)
  · exact .inr h
theorem mem_nil2 {x : List UInt8} (h : x ∈ ([] : Ws)) : False := by cases h
theorem win_head (l : Leg) : (txOf l).win ≠ [111, 118, 101, 114] := by
  obtain ⟨c, r, e, hc⟩ := winS_first l.lo l.hi
  show winS l.lo l.hi ≠ _
  rw [e]; intro h; injection h with h1 h2; rw [h1] at hc; revert hc; decide
theorem stepB {n : Nat} {full : Prop} {W W' : Ws} {l l' : Leg} {x y : PS} (h : AtS full W l x ∨ OutS n full x) (f : AtS full W l x → AtS full W' l' y ∨ OutS n full y) (g : OutS n full x → OutS n full y) : AtS full W' l' y ∨ OutS n full y := by
  rcases h with h | h
  · exact f h
  · exact .inr (g h)
theorem need_of {n : Nat} {full : Prop} {W : Ws} {l l' : Leg} {x : PS} {s : List UInt8} {b : Bool} {f : Acc} (h : AtS full (opt b s ++ W) l x ∨ OutS n full x) (h1 : b = true → f s l = (l', true)) (h0 : b = false → l' = l) :
    AtS full W l' (x.needIf b n f) ∨ OutS n full (x.needIf b n f) := stepB h (fun h => h.needIf h1 h0) (fun h => h.needIf b f)
/-- The fields that the type of a leg wants. -/
theorem cut_fields {l : Leg} (h : LegOk l) (n : Nat) (full : Prop) (x : PS) (hx : AtS full (needW l ++ optW l) { legOpen with ty := l.ty } x ∨ OutS n full x) :
    AtS full (optW l) (nOpen l) (x.fields l.ty n) ∨ OutS n full (x.fields l.ty n) := by
  unfold PS.fields
  unfold needW at hx
  simp only [List.append_assoc, List.nil_append] at hx
  have f1 : uB l.ty 1 = false → l.fix = [] := fun hb => by
    have := h.fix; rw [hb] at this; unfold checkRefI at this
    cases hl : l.fix with
    | nil => rfl
    | cons a r => rw [hl] at this; simp at this
  have f2 : uB l.ty 2 = false → l.center = [] := fun hb => by
    have := h.center; rw [hb] at this; unfold checkRefI at this
    cases hl : l.center with
    | nil => rfl
    | cons a r => rw [hl] at this; simp at this
  have f3 : uB l.ty 4 = false → l.turn = 0 := fun hb => by have := h.turn; rw [hb] at this; unfold turnE at this; grind
  have g3 : uB l.ty 4 = true → l.turn = 1 ∨ l.turn = 2 := fun hb => by have := h.turn; rw [hb] at this; unfold turnE at this; grind
  have y1 := need_of (l' := ⟨l.ty, l.fix, [], 0, false, 0, 0, 0, 0, -200000, 6000000, 0, 0⟩) (f := accFix) hx
    (fun hb => by have hr : refB l.fix = true := refB_iff.2 (by have := h.fix; rwa [hb] at this)
                  simp only [accFix, hr, legOpen, leg0]) (fun hb => by rw [f1 hb]; rfl)
  have y2 := need_of (l' := ⟨l.ty, l.fix, l.center, 0, false, 0, 0, 0, 0, -200000, 6000000, 0, 0⟩) (f := accCenter) y1
    (fun hb => by have hr : refB l.center = true := refB_iff.2 (by have := h.center; rwa [hb] at this)
                  simp only [accCenter, cutPre_yes, hr, Bool.and_self]) (fun hb => by rw [f2 hb])
  have y3 := need_of (l' := ⟨l.ty, l.fix, l.center, l.turn, false, 0, 0, 0, 0, -200000, 6000000, 0, 0⟩) (f := accTurn) y2
    (fun hb => by rcases g3 hb with e | e <;> rw [e] <;> simp [accTurn]) (fun hb => by rw [f3 hb])
  have y4 := need_of (l' := ⟨l.ty, l.fix, l.center, l.turn, false, l.course, 0, 0, 0, -200000, 6000000, 0, 0⟩) (f := accCourse) y3
    (fun hb => by have hr := num_used h.course hb
                  have hc : courseS (txOf l).course = (l.course, true) := courseS_exactS hr.1 hr.2
                  simp only [accCourse, hc]) (fun hb => by rw [num_free h.course hb])
  have y5 := need_of (l' := ⟨l.ty, l.fix, l.center, l.turn, false, l.course, l.dist, 0, 0, -200000, 6000000, 0, 0⟩) (f := accDist) y4
    (fun hb => by have hr := num_used h.dist hb
                  have hc : legDistS 100 (txOf l).dist = (l.dist, true) := legDist_fwd 100 hr.1 (by omega)
                  simp only [accDist, hc]) (fun hb => by rw [num_free h.dist hb])
  have y6 := need_of (l' := ⟨l.ty, l.fix, l.center, l.turn, false, l.course, l.dist, l.radius, 0, -200000, 6000000, 0, 0⟩) (f := accRadius) y5
    (fun hb => by have hr := num_used h.radius hb
                  have hc : legDistS 114 (txOf l).radius = (l.radius, true) := legDist_fwd 114 hr.1 (by omega)
                  simp only [accRadius, hc]) (fun hb => by rw [num_free h.radius hb])
  exact need_of (l' := nOpen l) (f := accTheta) y6
    (fun hb => by have hr := num_used h.theta hb
                  have hc : courseS (txOf l).theta = (l.theta, true) := courseS_exactS hr.1 hr.2
                  simp only [accTheta, if_true, hc]; rfl) (fun hb => by unfold nOpen; rw [num_free h.theta hb])
theorem cut_options {l : Leg} (h : LegOk l) (n : Nat) (full : Prop) (x : PS) (hx : AtS full (optW l) (nOpen l) x ∨ OutS n full x) :
    (∃ m, AtS full [] m x.options ∧ OptOf full l m) ∨ OutS n full x.options := by
  rcases Or.symm hx with hx | hx
  · exact .inr (((hx.may _).may _).may _ |>.may _)
  left
  obtain ⟨hw, hcl, s0, s1, r0, r1⟩ := limits_of h.limits
  unfold PS.options
  unfold optW at hx
  have tw : ∀ s' ∈ opt (winB l) (txOf l).win ++ (opt (l.speed != 0) (115 :: (txOf l).speed) ++ (opt (l.rnp != 0) (txOf l).rnp ++ [])), (s' == [111, 118, 101, 114]) = false := by
    intro s' hs
    rcases mem_opt2 hs with e | hs
    · rw [e, beq_eq_false_iff_ne]; exact win_head l
    rcases mem_opt2 hs with e | hs
    · rw [e, beq_eq_false_iff_ne]; intro hh; injection hh with h1 h2; revert h1; decide
    rcases mem_opt2 hs with e | hs
    · rw [e, beq_eq_false_iff_ne]; intro hh; injection hh with h1 h2; revert h1; decide
    exact absurd hs (fun h => mem_nil2 h)
  have tv : ∀ s' ∈ opt (l.speed != 0) (115 :: (txOf l).speed) ++ (opt (l.rnp != 0) (txOf l).rnp ++ []), winTaken s' = false := by
    intro s' hs
    rcases mem_opt2 hs with e | hs
    · rw [e]; exact win_not (by decide)
    rcases mem_opt2 hs with e | hs
    · rw [e]; exact win_not (by decide)
    exact absurd hs (fun h => mem_nil2 h)
  have ts : ∀ s' ∈ opt (l.rnp != 0) (txOf l).rnp ++ [], (speedS s').2 = false := by
    intro s' hs
    rcases mem_opt2 hs with e | hs
    · rw [e, speed_no]; intro r hr; injection hr with h1 h2; revert h1; decide
    exact absurd hs (fun h => mem_nil2 h)
  have fw : ∀ (k : Leg), winB l = true → accWin (txOf l).win k = ({ k with lo := l.lo, hi := l.hi }, true) := fun k hb => by
    have hn : ¬ (l.lo = -200000 ∧ l.hi = 6000000) := by rintro ⟨h1, h2⟩; unfold winB at hb; rw [h1, h2] at hb; simp at hb
    have ht : winTaken (txOf l).win = true := win_fwd hw hn
    have hp : parseWinS (txOf l).win = ((l.lo, l.hi), 0) := parseWin_winS hw
    unfold accWin
    rw [if_pos ht, hp]
  have fs : ∀ (k : Leg), (l.speed != 0) = true → accSpeed (115 :: (txOf l).speed) k = ({ k with speed := l.speed }, true) := fun k hb => by
    have hn : l.speed ≠ 0 := by simpa using hb
    have hp : speedS (115 :: (txOf l).speed) = (l.speed, true) := speed_fwd (by omega) s1
    unfold accSpeed
    rw [hp]; rfl
  have fr : ∀ (k : Leg), (l.rnp != 0) = true → accRnp (txOf l).rnp k = ({ k with rnp := l.rnp }, true) := fun k hb => by
    have hn : l.rnp ≠ 0 := by simpa using hb
    have hp : legDistS 110 (txOf l).rnp = (l.rnp, true) := legDist_fwd 110 (by omega) (by omega)
    unfold accRnp
    rw [hp]; rfl
  have nw : winB l = false → l.lo = -200000 ∧ l.hi = 6000000 := fun hb => by unfold winB at hb; simpa using hb
  have ns : (l.speed != 0) = false → l.speed = 0 := fun hb => by simpa using hb
  have nr : (l.rnp != 0) = false → l.rnp = 0 := fun hb => by simpa using hb
  -- over
  have y1 : ∃ m, AtS full (opt (winB l) (txOf l).win ++ (opt (l.speed != 0) (115 :: (txOf l).speed) ++ (opt (l.rnp != 0) (txOf l).rnp ++ []))) m (x.may accOver) ∧ (∃ o, m = { nOpen l with over := o } ∧ (o = l.over ∨ (¬ full ∧ o = false))) := by
    rcases hx.may (n := n) (l' := { nOpen l with over := l.over }) (f := accOver) (fun hb => by rw [hb]; rfl)
      (fun hb => ⟨by rw [hb]; rfl, fun s' hs => by unfold accOver; rw [tw s' hs]; rfl⟩) with k | ⟨k0, k⟩
    · exact ⟨_, k, l.over, rfl, .inl rfl⟩
    · exact ⟨_, k, false, rfl, .inr ⟨k0, rfl⟩⟩
  obtain ⟨m1, y1, o, e1, ho⟩ := y1
  have y2 : ∃ m, AtS full (opt (l.speed != 0) (115 :: (txOf l).speed) ++ (opt (l.rnp != 0) (txOf l).rnp ++ [])) m ((x.may accOver).may accWin) ∧ (∃ lo hi, m = { m1 with lo := lo, hi := hi } ∧ ((lo = l.lo ∧ hi = l.hi) ∨ (¬ full ∧ lo = -200000 ∧ hi = 6000000))) := by
    rcases y1.may (n := n) (l' := { m1 with lo := l.lo, hi := l.hi }) (f := accWin) (fun hb => fw m1 hb)
      (fun hb => ⟨by rw [(nw hb).1, (nw hb).2, e1]; rfl, fun s' hs => by unfold accWin; rw [tv s' hs]; rfl⟩) with k | ⟨k0, k⟩
    · exact ⟨_, k, _, _, rfl, .inl ⟨rfl, rfl⟩⟩
    · exact ⟨_, k, -200000, 6000000, by rw [e1]; rfl, .inr ⟨k0, rfl, rfl⟩⟩
  obtain ⟨m2, y2, lo, hi, e2, hwin⟩ := y2
  have y3 : ∃ m, AtS full (opt (l.rnp != 0) (txOf l).rnp ++ []) m (((x.may accOver).may accWin).may accSpeed) ∧ (∃ sp, m = { m2 with speed := sp } ∧ (sp = l.speed ∨ (¬ full ∧ sp = 0))) := by
    rcases y2.may (n := n) (l' := { m2 with speed := l.speed }) (f := accSpeed) (fun hb => fs m2 hb)
      (fun hb => ⟨by rw [ns hb, e2, e1]; rfl, fun s' hs => by unfold accSpeed; rw [ts s' hs]; rfl⟩) with k | ⟨k0, k⟩
    · exact ⟨_, k, _, rfl, .inl rfl⟩
    · exact ⟨_, k, 0, by rw [e2, e1]; rfl, .inr ⟨k0, rfl⟩⟩
  obtain ⟨m3, y3, sp, e3, hsp⟩ := y3
  have y4 : ∃ m, AtS full [] m ((((x.may accOver).may accWin).may accSpeed).may accRnp) ∧ (∃ rn, m = { m3 with rnp := rn } ∧ (rn = l.rnp ∨ (¬ full ∧ rn = 0))) := by
    rcases y3.may (n := n) (l' := { m3 with rnp := l.rnp }) (f := accRnp) (fun hb => fr m3 hb)
      (fun hb => ⟨by rw [nr hb, e3, e2, e1]; rfl, fun s' hs => absurd hs (fun h => mem_nil2 h)⟩) with k | ⟨k0, k⟩
    · exact ⟨_, k, _, rfl, .inl rfl⟩
    · exact ⟨_, k, 0, by rw [e3, e2, e1]; rfl, .inr ⟨k0, rfl⟩⟩
  obtain ⟨m4, y4, rn, e4, hrn⟩ := y4
  refine ⟨m4, y4, ?_⟩
  rw [e4, e3, e2, e1]
  exact ⟨rfl, rfl, rfl, rfl, rfl, rfl, rfl, rfl, ho, hwin, hsp, hrn⟩
theorem cut_last {l : Leg} (h : LegOk l) (T : List UInt8) (k : Nat) (hk : 1 ≤ k) (full : Prop) (hf : full → (legWords l (txOf l)).length ≤ k) (hT : words T = (legWords l (txOf l)).take k) :
    (∃ m, AtS full [] m (PS.last T) ∧ OptOf full l m) ∨ OutS T.length full (PS.last T) := by
  have hb : PS.begin T = ⟨(needW l ++ optW l).take (k - 1), 1 + ((nameOf l.ty).length + 1), 0, { legOpen with ty := l.ty }⟩ := by
    unfold PS.begin PS.need
    rw [hT, legWords_eq]
    obtain ⟨k', rfl⟩ : ∃ k', k = k' + 1 := ⟨k - 1, by omega⟩
    simp only [List.take_succ_cons, Nat.add_sub_cancel]
    rw [if_neg (by simp)]
    have ht : typeK (nameOf l.ty) legOpen.ty 18 = l.ty := type_fwd h.known
    have h1 : 1 ≤ l.ty ∧ l.ty ≤ 17 := by simpa [knownB] using h.known
    have hne : (l.ty != 0) = true := by simp; omega
    simp only [accName, ht, hne, if_true]
  have hl := congrArg List.length (legWords_eq l)
  have h0 : AtS full (needW l ++ optW l) { legOpen with ty := l.ty } (PS.begin T) := by
    rw [hb]
    exact ⟨rfl, rfl, k - 1, rfl, fun hff => by have := hf hff; simp only [List.length_cons] at hl; omega⟩
  unfold PS.last
  have ety : (PS.begin T).l.ty = l.ty := by rw [hb]
  rw [ety]
  exact cut_options h _ full _ (cut_fields h _ full _ (.inl h0))
theorem optOf_check {full : Prop} {l m : Leg} (h : LegOk l) (hm : OptOf full l m) : legCheck m = 0 ∨ (legCheck m = 2 ∧ climbsB l.ty = true ∧ ¬ full) := by
  have e5 : overB m = false := by
    have := h.over
    unfold overB at this ⊢
    rw [hm.ty]
    rcases hm.over with e | ⟨_, e⟩ <;> rw [e]
    · exact this
    · rfl
  have hc : legCheck m = limitsE m := by
    unfold legCheck legC2 legC3 legC4
    rw [e5, hm.ty, hm.fix, hm.center, hm.turn, hm.course, hm.dist, hm.radius, hm.theta, h.known, h.fix, h.center, h.turn, h.course, h.dist, h.radius, h.theta]
    rfl
  obtain ⟨hw, hcl, s0, s1, r0, r1⟩ := limits_of h.limits
  obtain ⟨w1, w2, w3⟩ := hw
  rw [hc]
  have q2 : ¬ (m.speed < 0 ∨ 1000 < m.speed ∨ m.rnp < 0 ∨ 120000 < m.rnp) := by
    rcases hm.speed with e | ⟨_, e⟩ <;> rcases hm.rnp with e' | ⟨_, e'⟩ <;> omega
  unfold limitsE
  rw [hm.ty, if_neg q2]
  rcases hm.win with ⟨e1, e2⟩ | ⟨e0, e1, e2⟩
  · left
    rw [if_neg (by omega), if_neg (by rintro ⟨a, b⟩; exact hcl a (by omega))]
  · rw [if_neg (by omega)]
    by_cases hcb : climbsB l.ty = true
    · right; rw [if_pos ⟨hcb, e1⟩]; exact ⟨rfl, hcb, e0⟩
    · left; rw [if_neg (by rintro ⟨a, b⟩; exact hcb a)]
theorem badAt_nil {x : PS} (h : x.ws = []) : x.badAt = x.bad := by unfold PS.badAt; rw [if_neg (by rintro ⟨a, b⟩; exact a h)]
/-- What the first words of a text read as. -/
theorem parse_cut {l : Leg} (h : LegOk l) (T : List UInt8) (k : Nat) (hk : 1 ≤ k) (full : Prop) (hf : full → (legWords l (txOf l)).length ≤ k) (hT : words T = (legWords l (txOf l)).take k) :
    (∃ m, OptOf full l m ∧ parseS T = (m, 0, 0)) ∨ (¬ full ∧ parseS T = (leg0, (T.length : Int) + 2, 4)) ∨ (¬ full ∧ climbsB l.ty = true ∧ parseS T = (leg0, 0, 2)) := by
  rcases cut_last h T k hk full hf hT with ⟨m, ⟨a1, a2, j, a3, _⟩, hm⟩ | ⟨a0, a1, a2⟩
  · have hws : (PS.last T).ws = [] := by simpa using a3
    unfold parseS PS.done
    rw [badAt_nil hws, a1, a2]
    rcases optOf_check h hm with e | ⟨e, hc, hn⟩
    · left; refine ⟨m, hm, ?_⟩; rw [e]; rfl
    · right; right; refine ⟨hn, hc, ?_⟩; rw [e]; rfl
  · right; left
    refine ⟨a0, ?_⟩
    unfold parseS PS.done
    rw [badAt_nil a2, a1, if_pos (by omega)]
theorem OptOf.eq {l m : Leg} (h : OptOf True l m) : m = l := by
  obtain ⟨h1, h2, h3, h4, h5, h6, h7, h8, h9, h10, h11, h12⟩ := h
  have h9 : m.over = l.over := by rcases h9 with e | ⟨e, _⟩; exact e; exact absurd trivial e
  have h10 : m.lo = l.lo ∧ m.hi = l.hi := by rcases h10 with e | ⟨e, _⟩; exact e; exact absurd trivial e
  have h11 : m.speed = l.speed := by rcases h11 with e | ⟨e, _⟩; exact e; exact absurd trivial e
  have h12 : m.rnp = l.rnp := by rcases h12 with e | ⟨e, _⟩; exact e; exact absurd trivial e
  obtain ⟨h10, h13⟩ := h10
  cases m; cases l
  simp only at *
  subst h1 h2 h3 h4 h5 h6 h7 h8 h9 h10 h11 h12 h13
  rfl
theorem textS_eq {l : Leg} (h : legCheck l = 0) : textS l = Lib.join (legWords l (txOf l)) [32] := by unfold textS legText; rw [h]; rfl
theorem textS_words {l : Leg} (h : legCheck l = 0) : words (textS l) = legWords l (txOf l) := by
  rw [textS_eq h]
  exact words_join _ (by rw [legWords_eq]; simp) (legWords_no (legOk_of h))
/-- The text of a valid leg reads as the leg. -/
theorem parse_textS {l : Leg} (h : legCheck l = 0) : parseS (textS l) = (l, 0, 0) := by
  have hw := textS_words h
  rcases parse_cut (legOk_of h) (textS l) ((legWords l (txOf l)).length) (by rw [legWords_eq]; simp) True (fun _ => Nat.le_refl _) (by rw [hw, List.take_length]) with ⟨m, hm, e⟩ | ⟨e, _⟩ | ⟨e, _⟩
  · rw [e, hm.eq]
  · exact absurd trivial e
  · exact absurd trivial e
end Go.Proofs.YtcgmemkkcaipfaaGreatDoor
namespace Go.Proofs.YtcgmemkkcaipfaaGreatDoor
open Go.RowKit
set_option linter.unusedVariables false
set_option linter.unusedSimpArgs false
/-- The texts between the bytes c. -/
def splitC (c : UInt8) : List UInt8 → List (List UInt8)
  | [] => [[]]
  | x :: r => if x = c then [] :: splitC c r else match splitC c r with | [] => [[x]] | a :: q => (x :: a) :: q
theorem splitC_append (c : UInt8) (a r : List UInt8) (h : c ∉ a) : splitC c (a ++ c :: r) = a :: splitC c r := by
  induction a with
  | nil => simp [splitC]
  | cons x a ih =>
    simp only [List.mem_cons, not_or] at h
    have hx : ¬ x = c := fun e => h.1 e.symm
    rw [List.cons_append, splitC, if_neg hx, ih h.2]
theorem splitC_one (c : UInt8) (a : List UInt8) (h : c ∉ a) : splitC c a = [a] := by
  induction a with
  | nil => simp [splitC]
  | cons x a ih =>
    simp only [List.mem_cons, not_or] at h
    have hx : ¬ x = c := fun e => h.1 e.symm
    rw [splitC, if_neg hx, ih h.2]
theorem splitC_ne (c : UInt8) (l : List UInt8) : splitC c l ≠ [] := by
  cases l with
  | nil => simp [splitC]
  | cons x r =>
    unfold splitC
    split
    · simp
    · split <;> simp
theorem splitC_words (l : List UInt8) : splitC 32 l = words l := by
  induction l with
  | nil => rfl
  | cons x r ih => unfold splitC words; rw [ih] <;> rfl
theorem splitC_cut (c : UInt8) : ∀ l : List UInt8, splitC c l = if (cutAt c l).2.2 then (cutAt c l).1 :: splitC c (cutAt c l).2.1 else [l]
  | [] => by simp [splitC, cutAt]
  | x :: r => by
    have ih := splitC_cut c r
    by_cases hx : x = c
    · simp [splitC, cutAt, hx]
    · simp only [splitC, cutAt, hx, if_false]
      cases hf : (cutAt c r).2.2
      · simp [hf] at ih; simp [ih]
      · simp [hf] at ih; simp [ih]
theorem splitC_join (c : UInt8) : ∀ ls : List (List UInt8), ls ≠ [] → (∀ s ∈ ls, c ∉ s) → splitC c (Lib.join ls [c]) = ls
  | [], h, _ => absurd rfl h
  | [a], _, h => by
    have : Lib.join [a] [c] = a := by simp [Lib.join]
    rw [this]; exact splitC_one c a (h a (by simp))
  | a :: b :: r, _, h => by
    have e : Lib.join (a :: b :: r) [c] = a ++ c :: Lib.join (b :: r) [c] := by simp [Lib.join]
    rw [e, splitC_append c a _ (h a (by simp)), splitC_join c (b :: r) (by simp) (fun s hs => h s (by simp [hs]))]
theorem cutAt_app (c : UInt8) (a r : List UInt8) (h : c ∉ a) : cutAt c (a ++ c :: r) = (a, r, true) := by
  induction a with
  | nil => simp [cutAt]
  | cons x a ih =>
    simp only [List.mem_cons, not_or] at h
    have hx : ¬ x = c := fun e => h.1 e.symm
    rw [List.cons_append, cutAt, if_neg hx, ih h.2]
/-! No line of a valid plan holds a line's end. -/
theorem alnum_nl {l : List UInt8} (h : l.all alnum = true) : (10 : UInt8) ∉ l := fun hm => by
  have := (List.all_eq_true.1 h) 10 hm
  exact absurd this (by decide)
theorem ref_nl {s : List UInt8} (h : refB s = true) : (10 : UInt8) ∉ s := by
  have h0 : (splitRef s).2.2 = 0 := by simpa [refB] using h
  unfold splitRef splitRef3 at h0
  by_cases hq : (cutAt 47 s).2.2 = true
  · rw [if_pos hq] at h0
    by_cases hn : (nameB (cutAt 47 s).1 6 && (nameB (cutAt 47 s).2.1 6 || shortB (cutAt 47 s).2.1)) = true
    · have hp := cutAt_parts 47 s hq
      simp only [Bool.and_eq_true, Bool.or_eq_true] at hn
      have a1 := alnum_nl (nameB_all hn.1)
      have a2 : (10 : UInt8) ∉ (cutAt 47 s).2.1 := by
        rcases hn.2 with h2 | h2
        · exact alnum_nl (nameB_all h2)
        · unfold shortB at h2; simp only [Bool.and_eq_true] at h2; exact alnum_nl h2.2
      rw [hp]
      simp only [List.mem_append, List.mem_cons, not_or]
      exact ⟨a1, by decide, a2⟩
    · rw [if_neg hn] at h0; cases h0
  · rw [if_neg hq] at h0; cases h0
theorem dig_nl {l : List UInt8} (h : l.all isD = true) : (10 : UInt8) ∉ l := fun hm => by
  have := (List.all_eq_true.1 h) 10 hm
  exact absurd this (by decide)
theorem dist_nl (d : Nat) : (10 : UInt8) ∉ distS d := by
  unfold distS
  have h1 := dig_nl (dec_all (d / 6000))
  have h2 := dig_nl (dec_all (d % 6000))
  split
  · simpa using h1
  · simp only [List.mem_append, List.mem_cons, not_or]
    exact ⟨h1, by decide, h2⟩
theorem alt_nl (a : Int) : (10 : UInt8) ∉ altS a := altS_not (by decide) a
theorem win_nl (lo hi : Int) : (10 : UInt8) ∉ winS lo hi := by
  unfold winS
  have h1 := alt_nl lo
  have h2 := alt_nl hi
  repeat' split
  · decide
  · exact h1
  · simp only [List.mem_append, List.mem_cons, not_or, List.not_mem_nil, not_false_eq_true, and_true]; exact ⟨h1, by decide⟩
  · simp only [List.mem_append, List.mem_cons, not_or, List.not_mem_nil, not_false_eq_true, and_true]; exact ⟨h2, by decide⟩
  · simp only [List.mem_append, List.mem_cons, not_or]; exact ⟨h1, by decide, h2⟩
theorem opt_nlW {b : Bool} {s x : List UInt8} (h : b = true → (10 : UInt8) ∉ s) (hx : x ∈ opt b s) : (10 : UInt8) ∉ x := by
  cases b
  · cases hx
  · have : x = s := by simpa [opt] using hx
    rw [this]; exact h rfl
theorem legWords_nl {l : Leg} (h : LegOk l) : ∀ s ∈ legWords l (txOf l), (10 : UInt8) ∉ s := by
  intro s hs
  have nm : (10 : UInt8) ∉ nameOf l.ty := by
    have h1 : 1 ≤ l.ty ∧ l.ty ≤ 17 := by simpa [knownB] using h.known
    have hd : ∀ k : Fin 17, (10 : UInt8) ∉ nameOf ((k.val + 1 : Nat) : Int) := by decide +kernel
    have h2 := hd ⟨l.ty.toNat - 1, by omega⟩
    have e : ((l.ty.toNat - 1 + 1 : Nat) : Int) = l.ty := by omega
    simp only [e] at h2
    exact h2
  simp only [legWords, List.mem_append, List.mem_singleton] at hs
  rcases hs with (((((((((((hs | hs) | hs) | hs) | hs) | hs) | hs) | hs) | hs) | hs) | hs) | hs)
  · rw [hs]; exact nm
  · exact opt_nlW (fun hb => ref_nl (refB_iff.2 (by have := h.fix; rwa [hb] at this))) hs
  · exact opt_nlW (fun hb => by have := ref_nl (refB_iff.2 (by have := h.center; rwa [hb] at this)); simp only [List.mem_cons, not_or]; exact ⟨by decide, this⟩) hs
  · exact opt_nlW (fun hb => by split <;> decide) hs
  · exact opt_nlW (fun hb => dig_nl (exactS_all _)) hs
  · exact opt_nlW (fun hb => by simp only [txOf, List.mem_cons, not_or]; exact ⟨by decide, dist_nl _⟩) hs
  · exact opt_nlW (fun hb => by simp only [txOf, List.mem_cons, not_or]; exact ⟨by decide, dist_nl _⟩) hs
  · exact opt_nlW (fun hb => by simp only [txOf, List.mem_cons, not_or]; exact ⟨by decide, dig_nl (exactS_all _)⟩) hs
  · exact opt_nlW (fun hb => by decide) hs
  · exact opt_nlW (fun hb => win_nl _ _) hs
  · exact opt_nlW (fun hb => by simp only [txOf, List.mem_cons, not_or]; exact ⟨by decide, dig_nl (dec_all _)⟩) hs
  · exact opt_nlW (fun hb => by simp only [txOf, List.mem_cons, not_or]; exact ⟨by decide, dist_nl _⟩) hs
/-! Numbers. -/
/-- What strconv.ParseInt answers, its error left aside. -/
def numP (l : List UInt8) : Int := match Lib.parseIntB 64 l with | .ok n => n | .range => Lib.intSat 64 l | .syntax => 0
theorem uintM_small (M : Nat) (hM : 1000000000000 < M) : ∀ (l : List UInt8) (a : Nat), l.all isD = true → numV a l ≤ 1000000000000 → Lib.parseUintM M a l = .ok (numV a l)
  | [], a, _, _ => rfl
  | c :: r, a, h, hv => by
    simp only [List.all_cons, Bool.and_eq_true] at h
    have hc : 48 ≤ c.toNat ∧ c.toNat ≤ 57 := by simpa [isD] using h.1
    have hge := numV_ge r (10 * a + (c.toNat - 48))
    simp only [numV_cons] at hv ⊢
    rw [Lib.parseUintM, if_pos hc, if_neg (by omega), if_neg (by omega), Nat.mul_comm a 10]
    exact uintM_small M hM r _ h.2 hv
theorem uintB_dec (u : Nat) (h : u ≤ 1000000000000) : Lib.parseUintB 64 (Lib.decDigits u) = .ok u := by
  have h1 := uintM_small (2 ^ 64 - 1) (by decide) (Lib.decDigits u) 0 (dec_all u) (by have := val_dec u; unfold val at this; omega)
  have h2 : numV 0 (Lib.decDigits u) = u := val_dec u
  rw [Lib.parseUintB, if_neg (dec_ne u), h1, h2]
theorem numP_itoa {n : Int} (h0 : -1000000000 ≤ n) (h1 : n ≤ 1000000000) : numP (Lib.itoa n) = n := by
  unfold numP
  by_cases hn : 0 ≤ n
  · obtain ⟨u, rfl⟩ : ∃ u : Nat, n = u := ⟨n.toNat, by omega⟩
    rw [Lib.itoa_nonneg]
    obtain ⟨c, r, e⟩ : ∃ c r, Lib.decDigits u = c :: r := by
      cases hd : Lib.decDigits u with
      | nil => exact absurd hd (dec_ne u)
      | cons c r => exact ⟨c, r, rfl⟩
    have ha := dec_all u
    rw [e] at ha
    simp only [List.all_cons, Bool.and_eq_true] at ha
    have hc : 48 ≤ c.toNat ∧ c.toNat ≤ 57 := by simpa [isD] using ha.1
    have hu := uintB_dec u (by omega)
    rw [e] at hu ⊢
    rw [Lib.parseIntB_plain 64 c r (by omega) (by omega), hu]
    simp only [Lib.signlessC]
    rw [if_neg (by omega)]
  · obtain ⟨u, rfl⟩ : ∃ u : Nat, n = -(u : Int) := ⟨n.natAbs, by omega⟩
    rw [Lib.itoa_neg u (by omega), Lib.parseIntB_minus, uintB_dec u (by omega)]
    simp only [Lib.signedC]
    rw [if_neg (by omega)]
theorem numP_dash : numP [45] = 0 := by decide +kernel
theorem numP_nil : numP [] = 0 := by decide +kernel
/-- The number that the reference reads: at most nine digits. -/
def numR (l : List UInt8) : Int :=
  if ((cutPre 45 l).1.take 9).all isD then (if (cutPre 45 l).2 then -(val ((cutPre 45 l).1.take 9) : Int) else val ((cutPre 45 l).1.take 9)) else 0
theorem numR_itoa {n : Int} (h0 : -999999999 ≤ n) (h1 : n ≤ 999999999) : numR (Lib.itoa n) = n := by
  unfold numR
  by_cases hn : 0 ≤ n
  · obtain ⟨u, rfl⟩ : ∃ u : Nat, n = u := ⟨n.toNat, by omega⟩
    rw [Lib.itoa_nonneg]
    have hl : (Lib.decDigits u).length ≤ 9 := dec_len (by decide) (by omega)
    have hc : cutPre 45 (Lib.decDigits u) = (Lib.decDigits u, false) := by
      have h := dec_all u
      cases hd : Lib.decDigits u with
      | nil => rfl
      | cons c r =>
        rw [hd] at h
        simp only [List.all_cons, Bool.and_eq_true] at h
        have : c ≠ 45 := by rintro rfl; exact absurd h.1 (by decide)
        simp [cutPre, this]
    rw [hc]
    simp only [List.take_of_length_le hl, dec_all, if_true, Bool.false_eq_true, if_false, val_dec]
  · obtain ⟨u, rfl⟩ : ∃ u : Nat, n = -(u : Int) := ⟨n.natAbs, by omega⟩
    rw [Lib.itoa_neg u (by omega)]
    have hl : (Lib.decDigits u).length ≤ 9 := dec_len (by decide) (by omega)
    simp only [cutPre, if_true, List.take_of_length_le hl, dec_all, val_dec]
theorem numR_dash : numR [45] = 0 := by decide +kernel
theorem numR_nil : numR [] = 0 := by decide +kernel
end Go.Proofs.YtcgmemkkcaipfaaGreatDoor
namespace Go.Proofs.YtcgmemkkcaipfaaGreatDoor
open Go.RowKit
set_option linter.unusedVariables false
set_option linter.unusedSimpArgs false
theorem orE0 {a b : Int} (h : orE a b = 0) : a = 0 ∧ b = 0 := by grind [orE]
def letterOf (s : Int) : List UInt8 := (([63, 68, 69, 65, 80, 77] : List UInt8).take (s.toNat + 1)).drop s.toNat
def headLine (p : Plan) : List UInt8 := [80, 76, 65, 78, 32] ++ dashB p.from_ ++ [32] ++ dashB p.to_ ++ [32] ++ Lib.itoa p.active
def lineOf (tx : Leg → LegTx) (x : Entry) : List UInt8 :=
  if x.gap then [71, 65, 80] else letterOf x.sec ++ [32] ++ dashB x.via ++ [32] ++ pointText x.leg.fix x.ex x.ey ++ [32] ++ pointText x.leg.center x.mx x.my ++ [32] ++ legText x.leg (tx x.leg)
def planText (tx : Leg → LegTx) (p : Plan) : List UInt8 := if planCheck p != 0 then [] else Lib.join (headLine p :: p.es.map (lineOf tx)) [10]
theorem check_each : ∀ (es : List Entry) (prev : Option Entry) (s : Int), checkGo prev s es = 0 → ∀ x ∈ es, x.gap = false → aloneE x = 0
  | [], _, _, _, x, hx, _ => by simp at hx
  | y :: r, prev, s, h, x, hx, hg => by
    simp only [checkGo] at h
    obtain ⟨h1, h2⟩ := orE0 h
    rcases List.mem_cons.1 hx with rfl | hx
    · unfold stepE at h1
      rw [hg] at h1
      exact (orE0 (by simpa using h1)).1
    · exact check_each r _ _ h2 x hx hg
theorem planCheck_ok {p : Plan} (h : planCheck p = 0) : p.es.length ≤ 60 ∧ checkGo none 0 p.es = 0 ∧ -1 ≤ p.active ∧ p.active < 60 := by
  unfold planCheck at h
  split at h
  · simp at h
  · split at h
    · simp at h
    · obtain ⟨h1, h2⟩ := orE0 h
      refine ⟨by omega, h1, ?_⟩
      unfold activeE at h2
      split at h2
      · omega
      · split at h2
        · simp at h2
        · omega
theorem alone_sec {x : Entry} (h : aloneE x = 0) : 1 ≤ x.sec ∧ x.sec ≤ 5 ∧ i64 x.ex ∧ i64 x.ey ∧ i64 x.mx ∧ i64 x.my := by
  obtain ⟨_, h2⟩ := orE0 h
  unfold alone2 at h2
  split at h2
  · simp at h2
  · rename_i h3
    split at h2
    · simp at h2
    · split at h2
      · simp at h2
      · rename_i h4
        have h3 : sectionB x.sec = true := by simpa using h3
        have h5 : pointB x.ex x.ey = true ∧ pointB x.mx x.my = true := by simpa using h4
        simp only [sectionB, pointB, Bool.and_eq_true, decide_eq_true_eq] at h3 h5
        unfold i64
        omega
theorem dashB_len (s : List UInt8) : (dashB s).length ≤ s.length + 1 := by unfold dashB; split <;> simp
theorem pointText_len {s : List UInt8} {x y : Int} (hx : i64 x) (hy : i64 y) : (pointText s x y).length ≤ 43 := by
  unfold pointText
  have := itoa_len x hx.1 hx.2
  have := itoa_len y hy.1 hy.2
  split <;> simp
  omega
theorem letterOf_len (s : Int) : (letterOf s).length ≤ 6 := by unfold letterOf; simp; omega
end Go.Proofs.YtcgmemkkcaipfaaGreatDoor
namespace Go.Proofs.YtcgmemkkcaipfaaGreatDoor
open Go.RowKit
set_option linter.unusedVariables false
set_option linter.unusedSimpArgs false
def undashB (s : List UInt8) : List UInt8 := if s = [45] then [] else s
def unpointP (s : List UInt8) : Int × Int := (numP (cutAt 44 s).1, numP (cutAt 44 s).2.1)
def placeR (s : List UInt8) : Int × Int := if undashB s = [] then (0, 0) else (numR (cutAt 44 s).1, numR (cutAt 44 s).2.1)
/-- Cut at the first k blanks. -/
def cutN : Nat → List UInt8 → List (List UInt8)
  | 0, s => [s]
  | k + 1, s => if (cutAt 32 s).2.2 then (cutAt 32 s).1 :: cutN k (cutAt 32 s).2.1 else [s]
def idxP (w : List UInt8) : Nat := ((List.range 7).find? fun i => w.isPrefixOf (([63, 68, 69, 65, 80, 77] : List UInt8).drop i)).getD 0
def secR (w : List UInt8) : Int := if w = [68] then 1 else if w = [69] then 2 else if w = [65] then 3 else if w = [80] then 4 else if w = [77] then 5 else 0
def zeroEnt : Entry := ⟨false, leg0, 0, 0, 0, 0, 0, []⟩
def entryP (line : List UInt8) : Entry :=
  if line = [71, 65, 80] then gapE else
    match cutN 4 line with
    | [a, b, c, d, e] => ⟨false, (parseS e).1, (unpointP c).1, (unpointP c).2, (unpointP d).1, (unpointP d).2, idxP a, undashB b⟩
    | _ => zeroEnt
def tail32 (s : List UInt8) : List UInt8 := (cutAt 32 s).2.1
def head32 (s : List UInt8) : List UInt8 := (cutAt 32 s).1
def entryR (line : List UInt8) : Entry :=
  if line = [71, 65, 80] then gapE else
    ⟨false, (parseS (tail32 (tail32 (tail32 (tail32 line))))).1, (placeR (head32 (tail32 (tail32 line)))).1, (placeR (head32 (tail32 (tail32 line)))).2,
      (placeR (head32 (tail32 (tail32 (tail32 line))))).1, (placeR (head32 (tail32 (tail32 (tail32 line))))).2, secR (head32 line), undashB (head32 (tail32 line))⟩
def readP (s : List UInt8) : Option Plan :=
  match splitC 32 ((splitC 10 s).headD []) with
  | [_, b, c, d] => some ⟨undashB b, undashB c, (splitC 10 s).tail.map entryP, numP d⟩
  | _ => none
def readR (s : List UInt8) : Plan :=
  ⟨undashB (head32 (tail32 (cutAt 10 s).1)), undashB (head32 (tail32 (tail32 (cutAt 10 s).1))), (splitC 10 s).tail.map entryR, numR (tail32 (tail32 (tail32 (cutAt 10 s).1)))⟩
def planT (p : Plan) : List UInt8 := planText txOf p
/-! What the parts of a valid plan's text are made of. -/
theorem cutAt_falseS (c : UInt8) : ∀ l : List UInt8, (cutAt c l).2.2 = false → (cutAt c l).1 = l
  | [], _ => rfl
  | x :: r, h => by
    by_cases hx : x = c
    · simp [cutAt, hx] at h
    · simp only [cutAt, hx, if_false] at h ⊢
      rw [cutAt_falseS c r h]
theorem alnum_not {l : List UInt8} (h : l.all alnum = true) {c : UInt8} (hc : alnum c = false) : c ∉ l := fun hm => by
  have := (List.all_eq_true.1 h) c hm
  rw [hc] at this; cases this
theorem pairB_parts {l : List UInt8} {c : UInt8} {m : Int} (h : pairB l c m = true) : ∀ x ∈ l, alnum x = true ∨ x = c := by
  unfold pairB pair3 at h
  simp only [Bool.and_eq_true, Bool.or_eq_true, Bool.not_eq_true'] at h
  obtain ⟨h1, h2⟩ := h
  have a1 := List.all_eq_true.1 (nameB_all h1)
  cases hq : (cutAt c l).2.2
  · rw [cutAt_falseS c l hq] at a1
    exact fun x hx => .inl (a1 x hx)
  · rw [hq] at h2
    have h2 : nameB (cutAt c l).2.1 m = true := by simpa using h2
    have a2 := List.all_eq_true.1 (nameB_all h2)
    have hp := cutAt_parts c l hq
    intro x hx
    rw [hp] at hx
    simp only [List.mem_append, List.mem_cons] at hx
    rcases hx with hx | hx | hx
    · exact .inl (a1 x hx)
    · exact .inr hx
    · exact .inl (a2 x hx)
theorem placeB_not {l : List UInt8} (h : placeB l = true) {c : UInt8} (hc : alnum c = false) (h47 : c ≠ 47) : c ∉ l := by
  unfold placeB at h
  rcases Bool.or_eq_true_iff.1 h with h | h
  · have : l = [] := by simpa using h
    rw [this]; simp
  · intro hm
    rcases pairB_parts h c hm with h2 | h2
    · rw [hc] at h2; cases h2
    · exact h47 h2
theorem viaB_not {l : List UInt8} (h : viaB l = true) {c : UInt8} (hc : alnum c = false) (h46 : c ≠ 46) : c ∉ l := by
  unfold viaB at h
  rcases Bool.or_eq_true_iff.1 h with h | h
  · have : l = [] := by simpa using h
    rw [this]; simp
  · intro hm
    rcases pairB_parts h c hm with h2 | h2
    · rw [hc] at h2; cases h2
    · exact h46 h2
theorem undash_dash {s : List UInt8} (h : (45 : UInt8) ∉ s) : undashB (dashB s) = s := by
  unfold undashB dashB
  cases s with
  | nil => rfl
  | cons c r =>
    have : c :: r ≠ [45] := by intro e; rw [e] at h; simp at h
    simp [this]
theorem dash_not {s : List UInt8} {c : UInt8} (h : c ∉ s) (hc : c ≠ 45) : c ∉ dashB s := by
  unfold dashB
  split
  · simpa using hc
  · exact h
theorem itoa_not {c : UInt8} (h : isD c = false) (h45 : c ≠ 45) (n : Int) : c ∉ Lib.itoa n := by
  have hd : ∀ u : Nat, c ∉ Lib.decDigits u := fun u hm => by
    have := (List.all_eq_true.1 (dec_all u)) c hm
    rw [h] at this; cases this
  by_cases hn : 0 ≤ n
  · obtain ⟨u, rfl⟩ : ∃ u : Nat, n = u := ⟨n.toNat, by omega⟩
    rw [Lib.itoa_nonneg]; exact hd u
  · obtain ⟨u, rfl⟩ : ∃ u : Nat, n = -(u : Int) := ⟨n.natAbs, by omega⟩
    rw [Lib.itoa_neg u (by omega)]
    simp only [List.mem_cons, not_or]
    exact ⟨h45, hd u⟩
theorem pointText_not {s : List UInt8} {x y : Int} {c : UInt8} (h : isD c = false) (h45 : c ≠ 45) (h44 : c ≠ 44) : c ∉ pointText s x y := by
  unfold pointText
  split
  · simpa using h45
  · simp only [List.mem_append, List.mem_singleton, not_or]
    exact ⟨⟨itoa_not h h45 x, h44⟩, itoa_not h h45 y⟩
theorem unpoint_pt {s : List UInt8} {x y : Int} (hx : -2000000 ≤ x ∧ x ≤ 2000000) (hy : -2000000 ≤ y ∧ y ≤ 2000000) (h0 : s = [] → x = 0 ∧ y = 0) : unpointP (pointText s x y) = (x, y) := by
  unfold unpointP pointText
  cases s with
  | nil =>
    obtain ⟨rfl, rfl⟩ := h0 rfl
    simp only [List.isEmpty_nil, if_true, cutAt_not (show (44 : UInt8) ∉ [45] by decide), numP_dash, numP_nil]
  | cons c r =>
    have e : Lib.itoa x ++ [44] ++ Lib.itoa y = Lib.itoa x ++ 44 :: Lib.itoa y := by simp
    simp only [List.isEmpty_cons, Bool.false_eq_true, if_false]
    rw [e, cutAt_app 44 _ _ (itoa_not (by decide) (by decide) x)]
    simp only
    rw [numP_itoa (by omega) (by omega), numP_itoa (by omega) (by omega)]
theorem itoa_ne (n : Int) : Lib.itoa n ≠ [] := by
  by_cases hn : 0 ≤ n
  · obtain ⟨u, rfl⟩ : ∃ u : Nat, n = u := ⟨n.toNat, by omega⟩
    rw [Lib.itoa_nonneg]; exact dec_ne u
  · obtain ⟨u, rfl⟩ : ∃ u : Nat, n = -(u : Int) := ⟨n.natAbs, by omega⟩
    rw [Lib.itoa_neg u (by omega)]; simp
theorem place_pt {s : List UInt8} {x y : Int} (hx : -2000000 ≤ x ∧ x ≤ 2000000) (hy : -2000000 ≤ y ∧ y ≤ 2000000) (h0 : s = [] → x = 0 ∧ y = 0) : placeR (pointText s x y) = (x, y) := by
  unfold placeR pointText
  cases s with
  | nil =>
    obtain ⟨rfl, rfl⟩ := h0 rfl
    simp [undashB]
  | cons c r =>
    have e : Lib.itoa x ++ [44] ++ Lib.itoa y = Lib.itoa x ++ 44 :: Lib.itoa y := by simp
    simp only [List.isEmpty_cons, Bool.false_eq_true, if_false]
    rw [e, cutAt_app 44 _ _ (itoa_not (by decide) (by decide) x)]
    have h1 : undashB (Lib.itoa x ++ 44 :: Lib.itoa y) ≠ [] := by
      unfold undashB
      have := itoa_ne y
      split
      · rename_i h
        have h2 := congrArg List.length h
        have h3 := List.length_pos_iff.2 (itoa_ne x)
        simp at h2; omega
      · simp
    rw [if_neg h1]
    simp only
    rw [numR_itoa (by omega) (by omega), numR_itoa (by omega) (by omega)]
theorem letter_ok : ∀ k : Fin 5, letterOf ((k.val + 1 : Nat) : Int) = [([68, 69, 65, 80, 77] : List UInt8).getD k.val 0] ∧ ([68, 69, 65, 80, 77] : List UInt8).getD k.val 0 ≠ 32 ∧ ([68, 69, 65, 80, 77] : List UInt8).getD k.val 0 ≠ 10 ∧
    idxP [([68, 69, 65, 80, 77] : List UInt8).getD k.val 0] = k.val + 1 ∧ secR [([68, 69, 65, 80, 77] : List UInt8).getD k.val 0] = ((k.val + 1 : Nat) : Int) := by decide +kernel
theorem letter_sec {s : Int} (h1 : 1 ≤ s) (h5 : s ≤ 5) : ∃ c : UInt8, letterOf s = [c] ∧ c ≠ 32 ∧ c ≠ 10 ∧ (idxP [c] : Int) = s ∧ secR [c] = s := by
  obtain ⟨a, b, d, e, f⟩ := letter_ok ⟨s.toNat - 1, by omega⟩
  have hs : ((s.toNat - 1 + 1 : Nat) : Int) = s := by omega
  simp only [hs] at a f
  exact ⟨_, a, b, d, by rw [e]; omega, f⟩
/-- What a valid entry by itself gives. -/
theorem alone_parts {x : Entry} (h : aloneE x = 0) : legCheck x.leg = 0 ∧ 1 ≤ x.sec ∧ x.sec ≤ 5 ∧ viaB x.via = true ∧ (-2000000 ≤ x.ex ∧ x.ex ≤ 2000000) ∧ (-2000000 ≤ x.ey ∧ x.ey ≤ 2000000) ∧ (-2000000 ≤ x.mx ∧ x.mx ≤ 2000000) ∧ (-2000000 ≤ x.my ∧ x.my ≤ 2000000) ∧
    (x.leg.fix = [] → x.ex = 0 ∧ x.ey = 0) ∧ (x.leg.center = [] → x.mx = 0 ∧ x.my = 0) := by
  obtain ⟨h1, h2⟩ := orE0 h
  unfold alone2 at h2
  split at h2
  · simp at h2
  · rename_i h3
    split at h2
    · simp at h2
    · rename_i hv
      split at h2
      · simp at h2
      · rename_i h4
        split at h2
        · simp at h2
        · rename_i h6
          have h3 : sectionB x.sec = true := by simpa using h3
          have hv : viaB x.via = true := by simpa using hv
          have h5 : pointB x.ex x.ey = true ∧ pointB x.mx x.my = true := by simpa using h4
          simp only [sectionB, pointB, Bool.and_eq_true, decide_eq_true_eq] at h3 h5
          unfold placedB at h6
          simp only [Bool.or_eq_true, Bool.and_eq_true, Bool.not_eq_true', not_or, not_and, Bool.not_eq_false, beq_iff_eq, List.isEmpty_iff, Bool.and_eq_true] at h6
          refine ⟨h1, by omega, by omega, hv, by omega, by omega, by omega, by omega, fun e => ?_, fun e => ?_⟩
          · have := h6.1 e
            simpa using this
          · have := h6.2 e
            simpa using this
/-- The parts of a leg's line. -/
theorem lineOf_parts {x : Entry} (hg : x.gap = false) (c : UInt8) (hc : letterOf x.sec = [c]) :
    lineOf txOf x = [c] ++ 32 :: (dashB x.via ++ 32 :: (pointText x.leg.fix x.ex x.ey ++ 32 :: (pointText x.leg.center x.mx x.my ++ 32 :: textS x.leg))) := by
  unfold lineOf textS
  rw [hg, hc]
  simp
theorem entryP_back {x : Entry} (hg : x.gap = false) (h : aloneE x = 0) : entryP (lineOf txOf x) = x ∧ entryR (lineOf txOf x) = x := by
  obtain ⟨hl, s1, s5, hv, ex, ey, mx, my, f0, c0⟩ := alone_parts h
  obtain ⟨c, hc, c32, c10, ci, cs⟩ := letter_sec s1 s5
  have n1 : (32 : UInt8) ∉ [c] := by simpa using Ne.symm c32
  have n2 : (32 : UInt8) ∉ dashB x.via := dash_not (viaB_not hv (by decide) (by decide)) (by decide)
  have n3 : (32 : UInt8) ∉ pointText x.leg.fix x.ex x.ey := pointText_not (by decide) (by decide) (by decide)
  have n4 : (32 : UInt8) ∉ pointText x.leg.center x.mx x.my := pointText_not (by decide) (by decide) (by decide)
  have hne : lineOf txOf x ≠ [71, 65, 80] := by
    rw [lineOf_parts hg c hc]
    intro e
    simp at e
  have hu := undash_dash (viaB_not hv (c := 45) (by decide) (by decide))
  have p1 := unpoint_pt (s := x.leg.fix) ex ey f0
  have p2 := unpoint_pt (s := x.leg.center) mx my c0
  have q1 := place_pt (s := x.leg.fix) ex ey f0
  have q2 := place_pt (s := x.leg.center) mx my c0
  have pt := parse_textS hl
  obtain ⟨gap, leg, exx, eyy, mxx, myy, sec, via⟩ := x
  simp only at *
  subst hg
  constructor
  · unfold entryP
    rw [if_neg hne, lineOf_parts rfl c hc]
    simp only [cutN, cutAt_app 32 _ _ n1, cutAt_app 32 _ _ n2, cutAt_app 32 _ _ n3, cutAt_app 32 _ _ n4, if_true, p1, p2, pt, hu, ci]
  · unfold entryR tail32 head32
    rw [if_neg hne, lineOf_parts rfl c hc]
    simp only [cutAt_app 32 _ _ n1, cutAt_app 32 _ _ n2, cutAt_app 32 _ _ n3, cutAt_app 32 _ _ n4, q1, q2, pt, hu, cs]
theorem gap_back {x : Entry} (hg : x.gap = true) (h : x.eqB gapE = true) : entryP (lineOf txOf x) = x ∧ entryR (lineOf txOf x) = x := by
  have e : x = gapE := (Entry.eqB_iff x gapE).1 h
  subst e
  exact ⟨rfl, rfl⟩
theorem join_not {c d : UInt8} (hcd : c ≠ d) : ∀ ls : List (List UInt8), (∀ s ∈ ls, c ∉ s) → c ∉ Lib.join ls [d]
  | [], _ => by simp [Lib.join]
  | [a], h => by
    have : Lib.join [a] [d] = a := by simp [Lib.join]
    rw [this]; exact h a (by simp)
  | a :: b :: r, h => by
    have e : Lib.join (a :: b :: r) [d] = a ++ d :: Lib.join (b :: r) [d] := by simp [Lib.join]
    rw [e]
    simp only [List.mem_append, List.mem_cons, not_or]
    exact ⟨h a (by simp), hcd, join_not hcd (b :: r) (fun s hs => h s (by simp [hs]))⟩
theorem textS_nl {l : Leg} (h : legCheck l = 0) : (10 : UInt8) ∉ textS l := by
  rw [textS_eq h]
  exact join_not (by decide) _ (legWords_nl (legOk_of h))
theorem line_nl {x : Entry} (h : x.gap = false → aloneE x = 0) : (10 : UInt8) ∉ lineOf txOf x := by
  cases hg : x.gap
  · obtain ⟨hl, s1, s5, hv, _⟩ := alone_parts (h hg)
    obtain ⟨c, hc, c32, c10, _⟩ := letter_sec s1 s5
    rw [lineOf_parts hg c hc]
    simp only [List.mem_append, List.mem_cons, List.not_mem_nil, or_false, not_or]
    exact ⟨Ne.symm c10, by decide, dash_not (viaB_not hv (by decide) (by decide)) (by decide), by decide, pointText_not (by decide) (by decide) (by decide), by decide, pointText_not (by decide) (by decide) (by decide), by decide, textS_nl hl⟩
  · unfold lineOf
    rw [hg, if_pos rfl]
    decide
theorem checkGo_each : ∀ (es : List Entry) (prev : Option Entry) (s : Int), checkGo prev s es = 0 → ∀ x ∈ es, x.gap = true → x.eqB gapE = true
  | [], _, _, _, x, hx, _ => by simp at hx
  | y :: r, prev, s, h, x, hx, hg => by
    simp only [checkGo] at h
    obtain ⟨h1, h2⟩ := orE0 h
    rcases List.mem_cons.1 hx with rfl | hx
    · unfold stepE at h1
      rw [hg] at h1
      by_cases he : x.eqB gapE = true
      · exact he
      · simp [he] at h1
    · exact checkGo_each r _ _ h2 x hx hg
theorem head_parts (p : Plan) : headLine p = [80, 76, 65, 78] ++ 32 :: (dashB p.from_ ++ 32 :: (dashB p.to_ ++ 32 :: Lib.itoa p.active)) := by
  unfold headLine; simp
theorem place_of {p : Plan} (h : planCheck p = 0) : placeB p.from_ = true ∧ placeB p.to_ = true := by
  unfold planCheck at h
  split at h
  · simp at h
  · rename_i h1
    simpa using h1
theorem head_nl {p : Plan} (h : planCheck p = 0) : (10 : UInt8) ∉ headLine p := by
  obtain ⟨h1, h2⟩ := place_of h
  rw [head_parts]
  simp only [List.mem_append, List.mem_cons, List.not_mem_nil, or_false, not_or]
  exact ⟨by decide, by decide, dash_not (placeB_not h1 (by decide) (by decide)) (by decide), by decide, dash_not (placeB_not h2 (by decide) (by decide)) (by decide), by decide, itoa_not (by decide) (by decide) _⟩
theorem planT_eq {p : Plan} (h : planCheck p = 0) : planT p = Lib.join (headLine p :: p.es.map (lineOf txOf)) [10] := by
  unfold planT planText
  rw [h]; rfl
theorem planT_lines {p : Plan} (h : planCheck p = 0) : splitC 10 (planT p) = headLine p :: p.es.map (lineOf txOf) := by
  rw [planT_eq h]
  refine splitC_join 10 _ (by simp) (fun s hs => ?_)
  rcases List.mem_cons.1 hs with rfl | hs
  · exact head_nl h
  · obtain ⟨x, hx, rfl⟩ := List.mem_map.1 hs
    exact line_nl (fun hg => check_each _ _ _ (planCheck_ok h).2.1 x hx hg)
theorem planT_head {p : Plan} (h : planCheck p = 0) : (cutAt 10 (planT p)).1 = headLine p := by
  have hs := planT_lines h
  rw [splitC_cut] at hs
  split at hs
  · injection hs
  · rename_i hc
    have hc : (cutAt 10 (planT p)).2.2 = false := by simpa using hc
    rw [cutAt_falseS 10 _ hc]
    injection hs
theorem map_id_of {α : Type} {f : α → α} : ∀ l : List α, (∀ x ∈ l, f x = x) → l.map f = l
  | [], _ => rfl
  | x :: r, h => by rw [List.map_cons, h x (by simp), map_id_of r (fun y hy => h y (by simp [hy]))]
theorem entries_back {p : Plan} (h : planCheck p = 0) : (p.es.map (lineOf txOf)).map entryP = p.es ∧ (p.es.map (lineOf txOf)).map entryR = p.es := by
  have hx : ∀ x ∈ p.es, entryP (lineOf txOf x) = x ∧ entryR (lineOf txOf x) = x := by
    intro x hx
    cases hg : x.gap
    · exact entryP_back hg (check_each _ _ _ (planCheck_ok h).2.1 x hx hg)
    · exact gap_back hg (checkGo_each _ _ _ (planCheck_ok h).2.1 x hx hg)
  simp only [List.map_map]
  exact ⟨map_id_of _ (fun x h => (hx x h).1), map_id_of _ (fun x h => (hx x h).2)⟩
/-- The loose readings of a valid plan's text are the plan. -/
theorem read_back {p : Plan} (h : planCheck p = 0) : readP (planT p) = some p ∧ readR (planT p) = p := by
  obtain ⟨h1, h2⟩ := place_of h
  obtain ⟨_, _, a1, a2⟩ := planCheck_ok h
  obtain ⟨eP, eR⟩ := entries_back h
  have nP : (32 : UInt8) ∉ ([80, 76, 65, 78] : List UInt8) := by decide
  have n1 : (32 : UInt8) ∉ dashB p.from_ := dash_not (placeB_not h1 (by decide) (by decide)) (by decide)
  have n2 : (32 : UInt8) ∉ dashB p.to_ := dash_not (placeB_not h2 (by decide) (by decide)) (by decide)
  have n3 : (32 : UInt8) ∉ Lib.itoa p.active := itoa_not (by decide) (by decide) _
  have u1 := undash_dash (placeB_not h1 (c := 45) (by decide) (by decide))
  have u2 := undash_dash (placeB_not h2 (c := 45) (by decide) (by decide))
  constructor
  · unfold readP
    rw [planT_lines h]
    simp only [List.headD_cons, List.tail_cons]
    rw [head_parts, splitC_append 32 _ _ nP, splitC_append 32 _ _ n1, splitC_append 32 _ _ n2, splitC_one 32 _ n3]
    simp only [u1, u2, eP, numP_itoa (show -1000000000 ≤ p.active by omega) (show p.active ≤ 1000000000 by omega)]
  · unfold readR tail32 head32
    rw [planT_lines h, planT_head h, head_parts]
    simp only [List.tail_cons, cutAt_app 32 _ _ nP, cutAt_app 32 _ _ n1, cutAt_app 32 _ _ n2, u1, u2, eR, numR_itoa (show -999999999 ≤ p.active by omega) (show p.active ≤ 999999999 by omega)]
theorem planT_ne {p : Plan} (h : planCheck p = 0) : planT p ≠ [] := by
  intro e
  have := planT_lines h
  rw [e] at this
  have h2 : headLine p = [] := by injection this with h1 _; exact h1.symm
  rw [head_parts] at h2
  simp at h2
theorem planT_bad {p : Plan} (h : planCheck p ≠ 0) : planT p = [] := by
  unfold planT planText
  rw [if_pos (by simpa using h)]
end Go.Proofs.YtcgmemkkcaipfaaGreatDoor
namespace Go.Proofs.YtcgmemkkcaipfaaGreatDoor
open Go.RowKit Go.Sort
set_option linter.unusedVariables false
set_option linter.unusedSimpArgs false
def pointP (t : List UInt8) : Bool := decide (3 < t.length) && (t[t.length - 3]? == some 46)
def whS (t : List UInt8) : List UInt8 := if pointP t then t.take (t.length - 3) else t
def ptS (t : List UInt8) : List UInt8 := if pointP t then t.drop (t.length - 2) else [48, 48]
def badP (t : List UInt8) : Bool := pointP t && !hundB (ptS t)
def raltN (neg : Bool) (n : Int) : Int × Bool × Bool := (if neg then -n else n, true, decide (-200000 ≤ (if neg then -n else n)) && decide ((if neg then -n else n) ≤ 6000000))
def raltT (neg : Bool) (t : List UInt8) : Int × Bool × Bool :=
  if badP t then (0, false, false)
  else if !plainB (whS t) || (neg && (whS t == [48] && ptS t == [48, 48])) then (0, false, false)
  else if 1125899906842624 < val (whS t) then (0, true, false)
  else raltN neg (100 * (val (whS t) : Int) + (val (ptS t) : Int))
def raltP (s : List UInt8) : Int × Bool × Bool := raltT (cutPre 45 s).2 (cutPre 45 s).1
theorem hund_two {p : List UInt8} (h : hundB p = true) : ∃ a b, p = [a, b] ∧ isD a = true ∧ isD b = true ∧ ¬ (a = 48 ∧ b = 48) := by
  unfold hundB at h
  split at h
  · rename_i a b
    simp only [Bool.and_eq_true, Bool.not_eq_true', Bool.and_eq_false_iff, beq_eq_false_iff_ne] at h
    refine ⟨a, b, rfl, h.1.1, h.1.2, ?_⟩
    rintro ⟨h1, h2⟩
    rcases h.2 with h3 | h3
    · exact h3 h1
    · exact h3 h2
  · cases h
theorem no_point {l : List UInt8} (h : l.all isD = true) : (46 : UInt8) ∉ l := fun hm => by
  have := (List.all_eq_true.1 h) 46 hm
  exact absurd this (by decide)
/-- A text with a point ahead of its last two bytes, and no point ahead of that: so it is cut. -/
theorem point_cut {t : List UInt8} (hp : pointP t = true) (hw : (46 : UInt8) ∉ whS t) : cutAt 46 t = (whS t, ptS t, true) := by
  unfold pointP at hp
  simp only [Bool.and_eq_true, decide_eq_true_eq, beq_iff_eq] at hp
  have hpt : pointP t = true := by unfold pointP; simp [hp.1, hp.2]
  unfold whS ptS at *
  rw [if_pos hpt] at hw ⊢
  rw [if_pos hpt]
  have hlt : t.length - 3 < t.length := by omega
  have hk : t[t.length - 3] = 46 := by
    have := hp.2
    rw [List.getElem?_eq_getElem hlt] at this
    simpa using this
  have := cutAt_at 46 t (t.length - 3) hlt (by
    rw [List.all_eq_true]; intro x hx
    simp only [bne_iff_ne, ne_eq]
    rintro rfl; exact hw hx) hk
  rw [this, show t.length - 3 + 1 = t.length - 2 by omega]
theorem cut_point {t f p : List UInt8} (h : cutAt 46 t = (f, p, true)) (hp : p.length = 2) (hf : f ≠ []) : pointP t = true ∧ whS t = f ∧ ptS t = p := by
  have h1 : t = f ++ 46 :: p := by have := cutAt_parts 46 t (by rw [h]); rw [h] at this; exact this
  have hl : 0 < f.length := List.length_pos_iff.2 hf
  have e3 : t.length = f.length + 3 := by rw [h1]; simp; omega
  have hpt : pointP t = true := by
    unfold pointP
    rw [e3]
    simp only [Nat.add_sub_cancel, Bool.and_eq_true, decide_eq_true_eq, beq_iff_eq]
    refine ⟨by omega, ?_⟩
    rw [h1, List.getElem?_append_right (Nat.le_refl _), Nat.sub_self]; rfl
  refine ⟨hpt, ?_, ?_⟩
  · unfold whS
    rw [if_pos hpt, e3, Nat.add_sub_cancel, h1, List.take_left]
  · unfold ptS
    rw [if_pos hpt, e3, show f.length + 3 - 2 = f.length + 1 by omega, h1, show f.length + 1 = (f ++ [46]).length by simp, show f ++ 46 :: p = (f ++ [46]) ++ p by simp, List.drop_left]
theorem plain_val_big {f : List UInt8} (hp : plainB f = true) (h : 10 ≤ f.length) : 1000000000 ≤ val f := by
  rcases Nat.lt_or_ge (val f) 1000000000 with h1 | h1
  · have h2 := dec_len (u := val f) (k := 9) (by decide) h1
    rw [dec_val f hp] at h2
    omega
  · exact h1
theorem plain_zero {f : List UInt8} (hp : plainB f = true) (h : val f = 0) : f = [48] := by
  have := dec_val f hp
  rw [h] at this
  rw [← this, dec_small (by decide)]; rfl
theorem val_twoP {a b : UInt8} (ha : isD a = true) (hb : isD b = true) : val [a, b] ≤ 99 ∧ (¬ (a = 48 ∧ b = 48) → 0 < val [a, b]) := by
  have h1 : 48 ≤ a.toNat ∧ a.toNat ≤ 57 := by simpa [isD] using ha
  have h2 : 48 ≤ b.toNat ∧ b.toNat ≤ 57 := by simpa [isD] using hb
  have e : val [a, b] = 10 * (a.toNat - 48) + (b.toNat - 48) := by simp [val, numV_cons, numV_nil]
  refine ⟨by omega, fun hn => ?_⟩
  rcases Nat.eq_zero_or_pos (val [a, b]) with h0 | h0
  · exfalso
    apply hn
    constructor
    · apply UInt8.toNat_inj.1; show a.toNat = 48; omega
    · apply UInt8.toNat_inj.1; show b.toNat = 48; omega
  · exact h0
/-- Form and range are those of the program's reading; so is the number. -/
theorem ralt_altP (s : List UInt8) : ((raltP s).2.1 && (raltP s).2.2) = ((altP s).2 && rangedB (altP s).1) ∧ (((altP s).2 && rangedB (altP s).1) = true → (raltP s).1 = (altP s).1) := by
  unfold raltP altP
  generalize (cutPre 45 s).2 = neg
  generalize (cutPre 45 s).1 = t
  obtain ⟨f, p, b, hc⟩ : ∃ f p b, cutAt 46 t = (f, p, b) := ⟨_, _, _, rfl⟩
  rw [hc]
  simp only
  have hcases : (pointP t = true ∧ (46 : UInt8) ∉ whS t ∧ f = whS t ∧ p = ptS t ∧ b = true) ∨ (pointP t = true ∧ (46 : UInt8) ∈ whS t) ∨ (pointP t = false ∧ b = false ∧ f = t) ∨ (pointP t = false ∧ b = true) := by
    cases hp : pointP t
    · cases b
      · right; right; left
        have := cutAt_miss 46 t (by rw [hc])
        rw [hc] at this
        exact ⟨rfl, rfl, this.1⟩
      · right; right; right; exact ⟨rfl, rfl⟩
    · by_cases hm : (46 : UInt8) ∈ whS t
      · right; left; exact ⟨rfl, hm⟩
      · left
        have := point_cut hp hm
        rw [hc] at this
        injection this with a1 a2
        injection a2 with a2 a3
        exact ⟨rfl, hm, a1, a2, a3⟩
  have fail1 : ∀ {x : Int × Bool × Bool}, x = (0, false, false) → (x.2.1 && x.2.2) = false := by rintro x rfl; rfl
  rcases hcases with ⟨hp, hm, rfl, rfl, rfl⟩ | ⟨hp, hm⟩ | ⟨hp, rfl, rfl⟩ | ⟨hp, rfl⟩
  · -- a point, and plain ahead of it or not
    unfold raltT altP3 badP
    rw [hp]
    cases hh : hundB (ptS t)
    · simp
    · obtain ⟨a, c, e, ha, hcc, hn⟩ := hund_two hh
      have hv := val_twoP ha hcc
      rw [← e] at hv
      have hv2 := hv.2 hn
      have hne : (ptS t == [48, 48]) = false := by rw [e, beq_eq_false_iff_ne]; intro h; injection h with h1 h2; injection h2 with h2 _; exact hn ⟨h1, h2⟩
      cases hpl : plainB (whS t)
      · simp
      · simp only [Bool.not_true, Bool.and_false, Bool.false_or, hne, if_true, Bool.false_eq_true, if_false, and_true, or_true, true_and]
        unfold feetV raltN rangedB
        by_cases h10 : (whS t).length < 10
        · have hb := val_lt _ (plainB_all hpl)
          have h2 : 10 ^ (whS t).length ≤ 10 ^ 9 := Nat.pow_le_pow_right (by decide) (by omega)
          rw [if_pos h10, if_neg (by omega)]
          cases neg
          · simp only [Bool.false_eq_true, if_false, Bool.true_and]
            exact ⟨by congr 2 <;> congr 1 <;> omega, fun _ => by omega⟩
          · simp only [if_true, Bool.true_and]
            have hne : decide ((val (whS t) : Int) * 100 + (val (ptS t) : Int) ≠ 0) = true := by simp; omega
            rw [hne, Bool.true_and]
            exact ⟨by congr 2 <;> congr 1 <;> omega, fun _ => by omega⟩
        · have hb := plain_val_big hpl (by omega)
          rw [if_neg h10]
          cases neg
          · simp only [Bool.false_eq_true, if_false, Bool.true_and]
            split
            · refine ⟨?_, fun h => ?_⟩
              · simp; omega
              · simp at h; omega
            · refine ⟨?_, fun h => ?_⟩
              · rw [Bool.eq_iff_iff]; simp; omega
              · simp at h; omega
          · simp only [if_true, Bool.true_and]
            split
            · refine ⟨?_, fun h => ?_⟩
              · rw [Bool.eq_iff_iff]; simp; omega
              · simp at h; omega
            · refine ⟨?_, fun h => ?_⟩
              · rw [Bool.eq_iff_iff]; simp; omega
              · simp at h; omega
  · -- a point in what stands ahead of the point
    have hnp : plainB (whS t) = false := by
      cases h : plainB (whS t)
      · rfl
      · exact absurd hm (no_point (plainB_all h))
    have h1 : raltT neg t = (0, false, false) := by
      unfold raltT
      rw [hnp]
      split
      · rfl
      · simp
    have h2 : (altP3 neg f p b).2 = false := by
      unfold altP3
      rw [if_neg]
      rintro ⟨hf, hb⟩
      cases b
      · have := cutAt_miss 46 t (by rw [hc])
        rw [hc] at this
        have hft : f = t := this.1
        rw [hft] at hf
        apply no_point (plainB_all hf)
        unfold whS at hm
        rw [if_pos hp] at hm
        exact List.mem_of_mem_take hm
      · rcases hb with hb | hb
        · cases hb
        · obtain ⟨a, c, e, _, _, _⟩ := hund_two hb
          have := cut_point hc (by rw [e]; rfl) (plainB_ne hf)
          rw [this.2.1] at hm
          exact no_point (plainB_all hf) hm
    rw [h1, h2]
    exact ⟨rfl, fun h => by cases h⟩
  · -- no point at all
    have hw : whS f = f := by unfold whS; rw [hp]; rfl
    have hpt : ptS f = [48, 48] := by unfold ptS; rw [hp]; rfl
    have hbp : badP f = false := by unfold badP; rw [hp]; rfl
    unfold raltT altP3
    rw [hw, hpt, hbp]
    have hv0 : val [48, 48] = 0 := by decide
    rw [hv0]
    cases hpl : plainB f
    · simp
    · simp only [Bool.not_true, Bool.false_eq_true, if_false, Bool.false_or, if_true, and_self, true_or, true_and, Int.add_zero, beq_self_eq_true, Bool.and_true, Int.natCast_zero]
      cases hz : (neg && f == [48])
      · simp only [Bool.false_eq_true, if_false]
        unfold feetV raltN rangedB
        have hnz : neg = true → val f ≠ 0 := fun hn h => by
          rw [hn, plain_zero hpl h] at hz; simp at hz
        by_cases h10 : f.length < 10
        · have hb := val_lt _ (plainB_all hpl)
          have h2 : 10 ^ f.length ≤ 10 ^ 9 := Nat.pow_le_pow_right (by decide) (by omega)
          rw [if_pos h10, if_neg (by omega)]
          cases neg
          · simp only [Bool.false_eq_true, if_false, Bool.true_and]
            exact ⟨by congr 2 <;> congr 1 <;> omega, fun _ => by omega⟩
          · simp only [if_true, Bool.true_and]
            have hnz := hnz rfl
            have hne : decide ((val f : Int) * 100 ≠ 0) = true := by simp; omega
            rw [hne, Bool.true_and]
            exact ⟨by congr 2 <;> congr 1 <;> omega, fun _ => by omega⟩
        · have hb := plain_val_big hpl (by omega)
          rw [if_neg h10]
          cases neg
          · simp only [Bool.false_eq_true, if_false, Bool.true_and]
            split
            · refine ⟨?_, fun h => ?_⟩
              · rw [Bool.eq_iff_iff]; simp
              · simp at h
            · refine ⟨?_, fun h => ?_⟩
              · rw [Bool.eq_iff_iff]; simp; omega
              · simp at h
          · simp only [if_true, Bool.true_and]
            split
            · refine ⟨?_, fun h => ?_⟩
              · rw [Bool.eq_iff_iff]; simp
              · simp at h
            · refine ⟨?_, fun h => ?_⟩
              · rw [Bool.eq_iff_iff]; simp; omega
              · simp at h
      · simp only [if_true]
        simp only [Bool.and_eq_true, beq_iff_eq] at hz
        obtain ⟨rfl, rfl⟩ := hz
        decide
  · -- a point, but not ahead of two bytes
    have hb2 : (altP3 neg f p true).2 = false := by
      unfold altP3
      rw [if_neg]
      rintro ⟨hf, hb⟩
      rcases hb with hb | hb
      · cases hb
      · obtain ⟨a, c, e, _, _, _⟩ := hund_two hb
        have := cut_point hc (by rw [e]; rfl) (plainB_ne hf)
        rw [this.1] at hp; cases hp
    have h1 : raltT neg t = (0, false, false) := by
      have hm : (46 : UInt8) ∈ t := by
        have := cutAt_parts 46 t (by rw [hc])
        rw [this]; simp
      have hnp : plainB t = false := by
        cases h : plainB t
        · rfl
        · exact absurd hm (no_point (plainB_all h))
      unfold raltT badP whS
      rw [hp]
      simp [hnp]
    rw [h1, hb2]
    exact ⟨rfl, fun h => by cases h⟩
end Go.Proofs.YtcgmemkkcaipfaaGreatDoor
