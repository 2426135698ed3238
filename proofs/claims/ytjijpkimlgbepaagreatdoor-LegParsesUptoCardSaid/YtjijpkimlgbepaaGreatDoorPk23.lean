/- Directions read: angle.ParseExact and what the references have for them. -/
import Derived.Test.YtjijpkimlgbepaaGreatDoorPk22
namespace Go.Proofs.YtjijpkimlgbepaaGreatDoor
open Go.RowKit Go.Sort
set_option linter.unusedVariables false
set_option linter.unusedSimpArgs false
set_option maxRecDepth 100000
attribute [local go_sem] ba_cat cat_len
set_option maxHeartbeats 2000000 in
theorem sexa_any (a : Int) (w : World) (h0 : 0 ≤ a) (h1 : a < 129600000) : Calls Tryz.prog 74 #[.int .i64 a, .int .i64 3] w (Ret w (.string ⟨(exactS a.toNat).toArray⟩)) := by
  have l1 := digW_len 3 (a / 360000).toNat
  have l2 := digW_len 2 (a / 6000 % 60).toNat
  have l3 := digW_len 2 (a / 100 % 60).toNat
  have l4 := digW_len 2 (a % 100).toNat
  have HE := Lib.hid (show exactS a.toNat = cat (cat (cat (digW 3 (a / 360000).toNat) (digW 2 (a / 6000 % 60).toNat)) (digW 2 (a / 100 % 60).toNat)) (digW 2 (a % 100).toNat) by
    unfold exactS cat
    rw [show a.toNat / 360000 = (a / 360000).toNat by omega, show a.toNat % 360000 / 6000 = (a / 6000 % 60).toNat by omega, show a.toNat % 6000 / 100 = (a / 100 % 60).toNat by omega, show a.toNat % 100 = (a % 100).toNat by omega])
  go_enter Tryz.func74, Tryz.ntmps74
  go_wp2_with fail
  refine callR (rdigits4_any (a / 360000) 3 w (by omega) (by omega) (by decide)) ?_
  intro w1 b1 _ _ _
  go_wp2_with fail
  refine callR (rdigits4_any (a / 6000 % 60) 2 w1 (by omega) (by omega) (by decide)) ?_
  intro w2 b2 _ _ _
  generalize digW 3 (a / 360000).toNat = d1 at l1 HE ⊢
  generalize digW 2 (a / 6000 % 60).toNat = d2 at l2 HE ⊢
  go_wp2_with fail
  refine callR (rdigits4_any (a / 100 % 60) 2 w2 (by omega) (by omega) (by decide)) ?_
  intro w3 b3 _ _ _
  generalize digW 2 (a / 100 % 60).toNat = d3 at l3 HE ⊢
  go_wp2_with fail
  refine callR (rdigits4_any (a % 100) 2 w3 (by omega) (by omega) (by decide)) ?_
  intro w4 b4 _ _ _
  generalize digW 2 (a % 100).toNat = d4 at l4 HE ⊢
  go_wp2
  go_ret
  exact Ret.str HE.out.symm (below_step (below_step (below_step b1 b2) b3) b4)
theorem rexact_any (a : Int) (w : World) (h0 : 0 ≤ a) (h1 : a < 129600000) : Calls Tryz.prog 42 #[.int .i64 a] w (Ret w (.string ⟨(exactS a.toNat).toArray⟩)) := by
  go_enter Tryz.func42, Tryz.ntmps42
  go_wp2_with (go_at_call 75; refine callP (rnorm_any _ _ h0 h1) ?_)
  refine callR (sexa_any a w h0 h1) ?_
  intro w1 b1 _ _ _
  go_wp2
  go_ret
  exact Ret.str rfl b1
def angP (l : List UInt8) : Int × Bool :=
  if l.length = 9 ∧ l.all isD = true ∧ val ((l.drop 3).take 2) < 60 ∧ val ((l.drop 5).take 2) < 60 then
    ((val (l.take 3) : Int) * 360000 + (val ((l.drop 3).take 2) : Int) * 6000 + (val ((l.drop 5).take 2) : Int) * 100 + (val (l.drop 7) : Int), true) else (0, false)
theorem nine {l : List UInt8} (h : l.length = 9) : ∃ c0 c1 c2 c3 c4 c5 c6 c7 c8, l = [c0, c1, c2, c3, c4, c5, c6, c7, c8] := by
  match l, h with
  | [c0, c1, c2, c3, c4, c5, c6, c7, c8], _ => exact ⟨c0, c1, c2, c3, c4, c5, c6, c7, c8, rfl⟩
theorem angP_len {l : List UInt8} (h : l.length ≠ 9) : angP l = (0, false) := by unfold angP; rw [if_neg (fun x => h x.1)]
theorem numS_bd (l : List UInt8) (h : l.length ≤ 3) : 0 ≤ (numS l).1 ∧ (numS l).1 < 1000 := by
  unfold numS
  split
  · rename_i ha
    have h1 := val_lt l ha
    have h2 : 10 ^ l.length ≤ 10 ^ 3 := Nat.pow_le_pow_right (by decide) h
    simp only
    omega
  · simp
theorem numS_yes {l : List UInt8} (h : l.all isD = true) : numS l = ((val l : Int), true) := by unfold numS; rw [if_pos h]
theorem numS_snd (l : List UInt8) : (numS l).2 = l.all isD := by
  unfold numS
  split
  · rename_i h; rw [h]
  · rename_i h; simpa using h
theorem numS_bd2 (l : List UInt8) (h : l.length ≤ 2) : 0 ≤ (numS l).1 ∧ (numS l).1 < 1000 := numS_bd l (by omega)
/-- What join and angle return of nine bytes. -/
theorem angP_nine (c0 c1 c2 c3 c4 c5 c6 c7 c8 : UInt8) : angP [c0, c1, c2, c3, c4, c5, c6, c7, c8] =
    if (numS [c0, c1, c2]).2 = true ∧ (numS [c3, c4]).2 = true ∧ (numS [c5, c6]).2 = true ∧ (numS [c7, c8]).2 = true ∧ (numS [c3, c4]).1 < 60 ∧ (numS [c5, c6]).1 < 60 then
      ((numS [c0, c1, c2]).1 * 360000 + (numS [c3, c4]).1 * 6000 + (numS [c5, c6]).1 * 100 + (numS [c7, c8]).1, true) else (0, false) := by
  simp only [numS_snd]
  unfold angP
  simp only [List.length_cons, List.length_nil, List.all_cons, List.all_nil, Bool.and_true, Bool.and_eq_true, List.drop, List.take, true_and]
  by_cases ha : ((isD c0 = true ∧ isD c1 = true ∧ isD c2 = true) ∧ (isD c3 = true ∧ isD c4 = true) ∧ (isD c5 = true ∧ isD c6 = true) ∧ isD c7 = true ∧ isD c8 = true)
  · obtain ⟨⟨a0, a1, a2⟩, ⟨a3, a4⟩, ⟨a5, a6⟩, a7, a8⟩ := ha
    rw [numS_yes (l := [c0, c1, c2]) (by simp [*]), numS_yes (l := [c3, c4]) (by simp [*]), numS_yes (l := [c5, c6]) (by simp [*]), numS_yes (l := [c7, c8]) (by simp [*])]
    simp only [a0, a1, a2, a3, a4, a5, a6, a7, a8, true_and, Int.ofNat_lt, and_self]
    by_cases hm : val [c3, c4] < 60 ∧ val [c5, c6] < 60
    · rw [if_pos hm, if_pos (by omega)]
    · rw [if_neg hm, if_neg (by omega)]
  · rw [if_neg (by intro h; exact ha (by simp only [h, and_self])), if_neg (by intro h; exact ha ⟨h.1, h.2.1, h.2.2.1, h.2.2.2.1⟩)]
end Go.Proofs.YtjijpkimlgbepaaGreatDoor
