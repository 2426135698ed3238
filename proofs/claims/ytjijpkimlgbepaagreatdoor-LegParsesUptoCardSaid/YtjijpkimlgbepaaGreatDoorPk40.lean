/- The texts of a valid leg's numbers, and leg.Text of a valid leg. -/
import Derived.Test.YtjijpkimlgbepaaGreatDoorPk27
import Derived.Test.YtjijpkimlgbepaaGreatDoorPk28
namespace Go.Proofs.YtjijpkimlgbepaaGreatDoor
open Go.RowKit Go.Sort
set_option linter.unusedVariables false
set_option linter.unusedSimpArgs false
def txOf (l : Leg) : LegTx := ⟨exactS l.course.toNat, 100 :: distS l.dist.toNat, 114 :: distS l.radius.toNat, exactS l.theta.toNat, winS l.lo l.hi, Lib.decDigits l.speed.toNat, 110 :: distS l.rnp.toNat⟩
theorem orE_zero {a b : Int} : orE a b = 0 ↔ a = 0 ∧ b = 0 := by unfold orE; grind
/-- What a leg without an error is. -/
structure LegOk (l : Leg) : Prop where
  known : knownB l.ty = true
  fix : checkRefI l.fix (uB l.ty 1) = 0
  center : checkRefI l.center (uB l.ty 2) = 0
  turn : turnE (uB l.ty 4) l.turn = 0
  over : overB l = false
  course : checkNum l.course (uB l.ty 16) 0 129599999 = 0
  dist : checkNum l.dist (uB l.ty 32) 1 2000000 = 0
  radius : checkNum l.radius (uB l.ty 64) 1 2000000 = 0
  theta : checkNum l.theta (uB l.ty 128) 0 129599999 = 0
  limits : limitsE l = 0
theorem legOk_of {l : Leg} (h : legCheck l = 0) : LegOk l := by
  unfold legCheck at h
  cases hk : knownB l.ty
  · rw [hk] at h; simp at h
  · rw [hk] at h
    simp only [if_true, orE_zero, legC2, legC3, legC4] at h
    obtain ⟨h1, h2, h3, h4, h5, h6, h7, h8, h9⟩ := h
    refine ⟨hk, h1, h2, h3, ?_, h5, h6, h7, h8, h9⟩
    cases ho : overB l
    · rfl
    · rw [ho] at h4; simp at h4
theorem legCheck_of {l : Leg} (h : LegOk l) : legCheck l = 0 := by
  unfold legCheck
  rw [h.known]
  simp only [if_true, orE_zero, legC2, legC3, legC4]
  exact ⟨h.fix, h.center, h.turn, by rw [h.over]; rfl, h.course, h.dist, h.radius, h.theta, h.limits⟩
theorem num_used {n lo hi : Int} {b : Bool} (h : checkNum n b lo hi = 0) (hb : b = true) : lo ≤ n ∧ n ≤ hi := by
  subst hb; unfold checkNum at h; grind
theorem num_free {n lo hi : Int} {b : Bool} (h : checkNum n b lo hi = 0) (hb : b = false) : n = 0 := by
  subst hb; unfold checkNum at h; grind
theorem limits_of {l : Leg} (h : limitsE l = 0) : winOk l.lo l.hi ∧ (climbsB l.ty = true → l.lo ≠ -200000) ∧ 0 ≤ l.speed ∧ l.speed ≤ 1000 ∧ 0 ≤ l.rnp ∧ l.rnp ≤ 120000 := by
  unfold limitsE at h
  unfold winOk
  grind
theorem tx_small {l : Leg} (h : LegOk l) : ∀ s ∈ [exactS l.course.toNat, 100 :: distS l.dist.toNat, 114 :: distS l.radius.toNat, exactS l.theta.toNat, winS l.lo l.hi, Lib.decDigits l.speed.toNat, 110 :: distS l.rnp.toNat], s.length ≤ 1000 := by
  obtain ⟨hw, _, s0, s1, r0, r1⟩ := limits_of h.limits
  have e1 := exactS_len l.course.toNat
  have e2 := exactS_len l.theta.toNat
  have hd : l.dist.toNat ≤ 8000000 := by
    cases hb : uB l.ty 32
    · have := num_free h.dist hb; omega
    · have := num_used h.dist hb; omega
  have hr : l.radius.toNat ≤ 8000000 := by
    cases hb : uB l.ty 64
    · have := num_free h.radius hb; omega
    · have := num_used h.radius hb; omega
  have e3 := distS_len hd
  have e4 := distS_len hr
  have e5 := winS_len hw
  have e6 : (Lib.decDigits l.speed.toNat).length ≤ 4 := dec_len (by decide) (by omega)
  have e7 := distS_len (d := l.rnp.toNat) (by omega)
  simp only [List.mem_cons, List.not_mem_nil, or_false, forall_eq_or_imp, forall_eq, List.length_cons]
  refine ⟨?_, ?_, ?_, ?_, ?_, ?_, ?_⟩ <;> omega
theorem legTexts_of {l : Leg} (h : LegOk l) : LegTexts l (txOf l) where
  course hb w hL := exact_any l.course w (num_used h.course hb).1 (by have := (num_used h.course hb).2; omega)
  dist hb w hL := distance_any 100 l.dist w hL (by have := (num_used h.dist hb).1; omega) (by have := (num_used h.dist hb).2; omega)
  radius hb w hL := distance_any 114 l.radius w hL (by have := (num_used h.radius hb).1; omega) (by have := (num_used h.radius hb).2; omega)
  theta hb w hL := exact_any l.theta w (num_used h.theta hb).1 (by have := (num_used h.theta hb).2; omega)
  win hb w hL := winText_in l.lo l.hi w hL (limits_of h.limits).1
  speed hb w hL := (decimal_any l.speed w (limits_of h.limits).2.2.1 (by have := (limits_of h.limits).2.2.2.1; omega)).mono fun e w' h => h.ret
  rnp hb w hL := distance_any 110 l.rnp w hL (limits_of h.limits).2.2.2.2.1 (by have := (limits_of h.limits).2.2.2.2.2; omega)
  small := tx_small h
/-- The text of a leg. -/
def textS (l : Leg) : List UInt8 := legText l (txOf l)
theorem text_ok (l : Leg) (w : World) (hL : Laid w) (hl : l.small) (h : LegOk l) : Calls Tryz.prog 14 #[l.val] w (Ret w (.string ⟨(textS l).toArray⟩)) := text_any l (txOf l) w hL hl (legTexts_of h)
end Go.Proofs.YtjijpkimlgbepaaGreatDoor
