/- The names of the types, of the program and of the reference; what a leg's check says behind a change of its window. The reference's texts: distances, windows, and of a leg: the same as the program's. Printed by wip/mkreftx.py. Layer 21's texts: the small functions that read and write words; the program's and the reference's; walks. -/
import Derived.Test.YtnmpfmelaninbaaGreatDoorPk12
import Derived.Test.YtnmpfmelaninbaaGreatDoorPk05
import Derived.Test.YtnmpfmelaninbaaGreatDoorPk13
import Derived.OwnWalk
import Derived.Test.YtnmpfmelaninbaaGreatDoorPk19
import Derived.Test.YtnmpfmelaninbaaGreatDoorPk17
import Derived.Test.YtnmpfmelaninbaaGreatDoorPk09
namespace Go.Proofs.YtnmpfmelaninbaaGreatDoor
open Go.RowKit
set_option linter.unusedVariables false
set_option linter.unusedSimpArgs false
theorem nameOf_no (t : Int) (h : knownB t = false) : nameOf t = [] := by
  have h1 : ¬ (1 ≤ t ∧ t ≤ 17) := by intro hh; have : knownB t = true := by simpa [knownB] using hh
                                     rw [h] at this; cases this
  unfold nameOf
  rcases Nat.lt_or_ge t.toNat 1 with h2 | h2
  · have : t.toNat = 0 := by omega
    rw [this]; rfl
  · rw [List.getD_eq_getElem?_getD, List.getElem?_eq_none (by simp [namesTab]; omega)]; rfl
theorem nameOf_some (t : Int) (h : knownB t = true) : (nameOf t).isEmpty = false := by
  have h1 : 1 ≤ t ∧ t ≤ 17 := by simpa [knownB] using h
  obtain ⟨n, rfl⟩ : ∃ n : Nat, t = n := ⟨t.toNat, by omega⟩
  have : ∀ k : Fin 17, (nameOf ((k.val + 1 : Nat) : Int)).isEmpty = false := by decide +kernel
  have h2 := this ⟨n - 1, by omega⟩
  have e : n - 1 + 1 = n := by omega
  simp only [e] at h2
  exact h2
/-- The leg with another window. -/
def Leg.winTo (l : Leg) (lo hi : Int) : Leg := { l with lo := lo, hi := hi }
theorem winTo_check (l : Leg) (lo hi : Int) (h : legCheck l = 0) : legCheck (l.winTo lo hi) = limitsE (l.winTo lo hi) := by
  have k := legOk_of h
  have e1 : knownB (l.winTo lo hi).ty = true := k.known
  have e2 : checkRefI (l.winTo lo hi).fix (uB (l.winTo lo hi).ty 1) = 0 := k.fix
  have e3 : checkRefI (l.winTo lo hi).center (uB (l.winTo lo hi).ty 2) = 0 := k.center
  have e4 : turnE (uB (l.winTo lo hi).ty 4) (l.winTo lo hi).turn = 0 := k.turn
  have e5 : overB (l.winTo lo hi) = false := k.over
  have e6 : checkNum (l.winTo lo hi).course (uB (l.winTo lo hi).ty 16) 0 129599999 = 0 := k.course
  have e7 : checkNum (l.winTo lo hi).dist (uB (l.winTo lo hi).ty 32) 1 2000000 = 0 := k.dist
  have e8 : checkNum (l.winTo lo hi).radius (uB (l.winTo lo hi).ty 64) 1 2000000 = 0 := k.radius
  have e9 : checkNum (l.winTo lo hi).theta (uB (l.winTo lo hi).ty 128) 0 129599999 = 0 := k.theta
  unfold legCheck legC2 legC3 legC4
  rw [e1, e2, e3, e4, e5, e6, e7, e8, e9]
  rfl
theorem winTo_bad (l : Leg) (lo hi : Int) (h : legCheck l = 0) (hb : lo < -200000 ∨ 6000000 < hi ∨ hi < lo) : legCheck (l.winTo lo hi) = 2 := by
  rw [winTo_check l lo hi h]
  unfold limitsE Leg.winTo
  rw [if_pos (by simp only; omega)]
theorem winTo_good (l : Leg) (lo hi : Int) (h : legCheck l = 0) (h1 : -200000 < lo) (h2 : hi ≤ 6000000) (h3 : lo ≤ hi) : legCheck (l.winTo lo hi) = 0 := by
  rw [winTo_check l lo hi h]
  obtain ⟨_, _, s0, s1, r0, r1⟩ := limits_of (legOk_of h).limits
  unfold limitsE Leg.winTo
  rw [if_neg (by simp only; omega), if_neg (by simp only; omega), if_neg (by simp only; omega)]
theorem winTo_low (l : Leg) (hi : Int) (h : legCheck l = 0) (h2 : hi ≤ 6000000) (h3 : -200000 ≤ hi) : legCheck (l.winTo (-200000) hi) = if climbsB l.ty then 2 else 0 := by
  rw [winTo_check l (-200000) hi h]
  obtain ⟨_, _, s0, s1, r0, r1⟩ := limits_of (legOk_of h).limits
  unfold limitsE Leg.winTo
  rw [if_neg (by simp only; omega)]
  cases hc : climbsB l.ty
  · rw [if_neg (by simp [hc]), if_neg (by simp only; omega)]; rfl
  · rw [if_pos (by simp [hc])]; rfl
end Go.Proofs.YtnmpfmelaninbaaGreatDoor
namespace Go.Proofs.YtnmpfmelaninbaaGreatDoor
open Go.RowKit Go.Sort
set_option linter.unusedVariables false
set_option linter.unusedSimpArgs false
section
attribute [local go_sem] ba_cat cat_len
set_option maxHeartbeats 4000000 in
theorem rdistText_any (d : Int) (w : World) : Calls Tryz.prog 46 #[.int .i64 d] w (RetP w (textVal (distT d))) := by
  by_cases hr : 0 ≤ d ∧ d ≤ 8000000
  · have H1 := Lib.hid (distT_in hr)
    obtain ⟨r1, r2⟩ := hr
    have l1 := dec_len9 (d / 6000) (by omega)
    have l2 := dec_len9 (d % 6000) (by omega)
    by_cases hk : d % 6000 = 0
    · have H3 := Lib.hid (distS_whole r1 hk)
      go_enter Tryz.func46, Tryz.ntmps46
      go_wp2_with fail
      with_reducible refine callP (digits8_any (d / 6000).toNat (d / 6000) _ (Nat.le_refl _) (by omega) (by omega)) ?_
      generalize Lib.decDigits (d / 6000).toNat = D1 at l1 H3 ⊢
      go_wp2
      go_ret2
      exact RetP.text (by rw [H1.out, H3.out]) rfl
    · have H3 := Lib.hid (distS_part r1 hk)
      go_enter Tryz.func46, Tryz.ntmps46
      go_wp2_with fail
      with_reducible refine callP (digits8_any (d / 6000).toNat (d / 6000) _ (Nat.le_refl _) (by omega) (by omega)) ?_
      generalize Lib.decDigits (d / 6000).toNat = D1 at l1 H3 ⊢
      go_wp2_with fail
      with_reducible refine callP (digits8_any (d % 6000).toNat (d % 6000) _ (Nat.le_refl _) (by omega) (by omega)) ?_
      generalize Lib.decDigits (d % 6000).toNat = D2 at l2 H3 ⊢
      go_wp2
      go_ret2
      exact RetP.text (by rw [H1.out, H3.out]; simp [cat]) rfl
  · have H1 := Lib.hid (distT_out hr)
    go_enter Tryz.func46, Tryz.ntmps46
    go_wp2
    all_goals try omega
    all_goals
      go_ret2
      exact RetP.text H1.out rfl
set_option maxHeartbeats 4000000 in
theorem rwinText_in (lo hi : Int) (w : World) (h : winOk lo hi) : Calls Tryz.prog 44 #[.agg (Win.arr ⟨lo, hi⟩)] w (Ret w (.tuple #[.string ⟨(winS lo hi).toArray⟩, .int .i64 0])) := by
  obtain ⟨h1, h2, h3⟩ := h
  have k1 : lo ≤ 6000000 := by omega
  have k2 : -200000 ≤ hi := by omega
  have La := altS_len h1 k1
  have Lb := altS_len k2 h3
  have HW := Lib.hid (show winS lo hi = if lo = -200000 ∧ hi = 6000000 then [45] else if lo = hi then altS lo else if hi = 6000000 then altS lo ++ [43] else if lo = -200000 then altS hi ++ [45] else altS lo ++ (58 :: altS hi) from rfl)
  have c1 := Lib.hid (fun w => raltIn_any lo h1 k1 w)
  have c2 := Lib.hid (fun w => raltIn_any hi k2 h3 w)
  generalize altS lo = A at La HW c1
  generalize altS hi = B at Lb HW c2
  have n1 : ¬ lo < -200000 := by omega
  have n2 : ¬ hi < lo := by omega
  have n3 : ¬ 6000000 < hi := by omega
  clear k1 k2
  go_enter Tryz.func44, Tryz.ntmps44
  simp only [Win.arr]
  go_wp2_with fail
  with_reducible refine callP (c1.out _) ?_
  go_wp2_with fail
  with_reducible refine callP (c2.out _) ?_
  clear c1 c2
  go_wp2
  all_goals
    go_ret2
    refine Ret.text (x := (winS lo hi, 0)) ?_ (alloc_below _ _)
    rw [HW.out]
    (try simp only [cat_two])
    grind
end
def ad (b : Bool) (p w : List UInt8) : List UInt8 := if b then p ++ 32 :: w else p
theorem ad_yes {b : Bool} (hb : b = true) (p w : List UInt8) : ad b p w = p ++ 32 :: w := by rw [hb]; rfl
theorem ad_no {b : Bool} (hb : b = false) (p w : List UInt8) : ad b p w = p := by rw [hb]; rfl
theorem ad_len {p w : List UInt8} {n m : Nat} (b : Bool) (hp : p.length ≤ n) (hw : w.length ≤ m) : (ad b p w).length ≤ n + (m + 1) := by
  unfold ad
  split
  · simp only [List.length_append, List.length_cons]; omega
  · omega
theorem ad_turn (b : Bool) (p : List UInt8) (t : Int) (h : b = true → t = 1 ∨ t = 2) : ad b p (if t = 1 then [76] else [82]) = ad (b && (t == 2)) (ad (b && (t == 1)) p [76]) [82] := by
  cases b
  · rfl
  · rcases h rfl with rfl | rfl <;> rfl
theorem join_snoc (ws : List (List UInt8)) (s : List UInt8) (h : ws ≠ []) : Lib.join (ws ++ [s]) [32] = Lib.join ws [32] ++ 32 :: s := by
  match ws, h with
  | [a], _ => rw [List.singleton_append, join_cons2, join_one, join_one]
  | a :: b :: q, _ =>
    have := join_snoc (b :: q) s (by simp)
    rw [List.cons_append, List.cons_append, join_cons2, join_cons2, ← List.cons_append, this]
    simp
theorem join_opt (ws : List (List UInt8)) (s : List UInt8) (b : Bool) (h : ws ≠ []) : Lib.join (ws ++ opt b s) [32] = ad b (Lib.join ws [32]) s := by
  cases b
  · simp [opt, ad]
  · exact join_snoc ws s h
theorem app_ne {ws v : List (List UInt8)} (h : ws ≠ []) : ws ++ v ≠ [] := by intro e; exact h (List.append_eq_nil_iff.1 e).1
attribute [local go_sem] ba_cat cat_len
theorem spaced (p w : List UInt8) : cat p (cat [32] w) = p ++ 32 :: w := rfl
end Go.Proofs.YtnmpfmelaninbaaGreatDoor
namespace Go.Proofs.YtnmpfmelaninbaaGreatDoor
open Go.RowKit Go.Sort
set_option linter.unusedVariables false
set_option linter.unusedSimpArgs false
set_option maxRecDepth 100000
/-- The call returns the two parts and whether there is a cut; the world is as it was. -/
theorem rcut_any (l : List UInt8) (c : UInt8) (w : World) (hl : l.length ≤ 4000000000) :
    Calls Tryz.prog 49 #[.string ⟨l.toArray⟩, .int .u8 c.toNat] w (RetQ w (.tuple #[.string ⟨(cutAt c l).1.toArray⟩, .string ⟨(cutAt c l).2.1.toArray⟩, .bool (cutAt c l).2.2])) := by
  generalize hq : cutAt c l = q
  have HQ0 := Lib.hid hq; clear hq
  go_enter Tryz.func49, Tryz.ntmps49
  go_wp2
  go_loop [7] (fun i => ∃ k : Nat, k ≤ l.length ∧ i = .int .i64 k ∧ (l.take k).all (· != c) = true) (fun i => l.length - (intOf i).toNat)
  case atStart => exact ⟨0, by omega, rfl, by simp⟩
  case round =>
    obtain ⟨k, hk, rfl, hq⟩ := hrel
    have HQ := Lib.hid hq; clear hq
    by_cases hlt : k < l.length
    · by_cases hc : l[k] = c
      · have hs := Lib.hid (show q = (l.take k, l.drop (k+1), true) by rw [← HQ0.out, cutAt_at c l k hlt HQ.out hc])
        have h1 : ((l[k].toNat : Int) == (c.toNat : Int)) = true := u8_eq hc
        clear hc
        have q1 : IntKind.i64.wrap ((k : Int) + 1) = (k : Int) + 1 := IntWalk.i64_in _ (by omega)
        have q2 : (0 : Int) ≤ (k : Int) + 1 := by omega
        have q3 : ((k : Int) + 1).toNat = k + 1 := by omega
        have q4 : (k : Int) + 1 ≤ l.length := by omega
        have q5 : (k : Int) ≤ l.length := by omega
        go_upto_region 5 with (fail)
        go_region
        go_wp2
        go_ret3
        exact ⟨by rw [hs.out]; simp; done, 1, rfl⟩
      · have h1 : ((l[k].toNat : Int) == (c.toNat : Int)) = false := u8_ne hc
        go_wp2
        go_round
        case rel => exact ⟨k + 1, by omega, by go_num, take_all_succ _ l k hlt HQ.out (by simp [hc])⟩
        case measure => simp [intOf]; omega
    · have hs := Lib.hid (show q = (l, [], false) by rw [← HQ0.out, cutAt_none c l (by have := HQ.out; rwa [List.take_of_length_le (by omega)] at this)])
      go_wp2
      go_ret3
      exact ⟨by rw [hs.out]; rfl, 0, rfl⟩
/-! The reference's number: at most nine digits. -/
theorem take_all_at (l : List UInt8) (k n : Nat) (h : k < l.length) (hn : k < n) (ha : (l.take n).all isD = true) : isD l[k] = true := by
  have hk : k < (l.take n).length := by simp; omega
  have := List.all_eq_true.1 ha (l.take n)[k] (List.getElem_mem hk)
  simpa using this
theorem numR_pos {l : List UInt8} (h : (cutPre 45 l).2 = false) : numR l = if (l.take 9).all isD then (val (l.take 9) : Int) else 0 := by
  unfold numR
  have e : (cutPre 45 l).1 = l := by
    unfold cutPre at h ⊢
    cases l with
    | nil => rfl
    | cons c r => by_cases hc : c = 45 <;> simp_all
  rw [e, h]; simp
end Go.Proofs.YtnmpfmelaninbaaGreatDoor
