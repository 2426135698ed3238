/- Decimal numbers as lists of bytes: plain digits, their value, and that the two are inverse. No program in sight. -/
import Derived.Lib.ItoaNum
import Derived.Lib.ItoaLen
import Derived.Lib.ParseIntBTie
import Derived.Lib.ParseIntBCases
namespace Go.Proofs.YtjgondadpjildaaGreatDoor
set_option linter.unusedVariables false
set_option linter.unusedSimpArgs false
def isD (c : UInt8) : Bool := decide (48 ≤ c.toNat) && decide (c.toNat ≤ 57)
def dg (n : Nat) : UInt8 := UInt8.ofNat (48 + n)
theorem dg_toNat {n : Nat} (h : n < 10) : (dg n).toNat = 48 + n := by
  unfold dg; rw [UInt8.toNat_ofNat']; omega
theorem dg_of {c : UInt8} (h : isD c = true) : dg (c.toNat - 48) = c := by
  have h1 : 48 ≤ c.toNat ∧ c.toNat ≤ 57 := by simpa [isD] using h
  apply UInt8.toNat_inj.1
  rw [dg_toNat (by omega)]; omega
theorem isD_dg {n : Nat} (h : n < 10) : isD (dg n) = true := by simp [isD, dg_toNat h]; omega
/-- The value of digits, the ones ahead of them standing for a. -/
def numV (a : Nat) (l : List UInt8) : Nat := l.foldl (fun n c => 10 * n + (c.toNat - 48)) a
theorem numV_nil (a : Nat) : numV a [] = a := rfl
theorem numV_cons (a : Nat) (c : UInt8) (r : List UInt8) : numV a (c :: r) = numV (10 * a + (c.toNat - 48)) r := by unfold numV; rw [List.foldl_cons]
def val (l : List UInt8) : Nat := numV 0 l
theorem numV_append (a : Nat) (l r : List UInt8) : numV a (l ++ r) = numV (numV a l) r := by
  induction l generalizing a with
  | nil => rfl
  | cons c l ih => rw [List.cons_append, numV_cons, numV_cons]; exact ih _
theorem numV_lt : ∀ (l : List UInt8) (hl : l.all isD = true) (a p : Nat), a < p → numV a l < p * 10 ^ l.length
  | [], _, a, p, h => by simpa [numV_nil] using h
  | c :: l, hl, a, p, h => by
    simp only [List.all_cons, Bool.and_eq_true] at hl
    have hc : 48 ≤ c.toNat ∧ c.toNat ≤ 57 := by simpa [isD] using hl.1
    have := numV_lt l hl.2 (10 * a + (c.toNat - 48)) (10 * p) (by omega)
    rw [List.length_cons, Nat.pow_succ, Nat.mul_comm (10 ^ l.length) 10, ← Nat.mul_assoc, Nat.mul_comm p 10]
    rw [numV_cons]
    exact this
theorem numV_ge (l : List UInt8) : ∀ a : Nat, a ≤ numV a l := by
  induction l with
  | nil => intro a; simp [numV_nil]
  | cons c l ih => intro a; have := ih (10 * a + (c.toNat - 48)); simp only [numV_cons]; omega
theorem numV_ge_pow (l : List UInt8) : ∀ (a k : Nat), 10 ^ k ≤ a → 10 ^ (k + l.length) ≤ numV a l := by
  induction l with
  | nil => intro a k h; simp only [numV_nil, List.length_nil, Nat.add_zero]; exact h
  | cons c l ih =>
    intro a k h
    have hp : 10 ^ (k + 1) ≤ 10 * a + (c.toNat - 48) := by rw [Nat.pow_succ]; omega
    have := ih (10 * a + (c.toNat - 48)) (k + 1) hp
    rw [show k + (c :: l).length = k + 1 + l.length by simp; omega]
    simp only [numV_cons]
    exact this
theorem val_lt (l : List UInt8) (hl : l.all isD = true) : val l < 10 ^ l.length := by
  have := numV_lt l hl 0 1 (by decide); rw [Nat.one_mul] at this; exact this
theorem val_snoc (l : List UInt8) (c : UInt8) : val (l ++ [c]) = 10 * val l + (c.toNat - 48) := by unfold val; rw [numV_append, numV_cons, numV_nil]
/-- A number without a sign and without a zero ahead of another digit. -/
def plainB : List UInt8 → Bool
  | [] => false
  | c :: r => (r.isEmpty || c != 48) && (c :: r).all isD
theorem plainB_all {l : List UInt8} (h : plainB l = true) : l.all isD = true := by
  cases l with
  | nil => rfl
  | cons c r => simp only [plainB, Bool.and_eq_true] at h; exact h.2
theorem plainB_ne {l : List UInt8} (h : plainB l = true) : l ≠ [] := by rintro rfl; simp [plainB] at h
theorem dec_small {u : Nat} (h : u < 10) : Lib.decDigits u = [dg u] := Lib.decDigits_one h
theorem dec_big {u : Nat} (h : ¬ u < 10) : Lib.decDigits u = Lib.decDigits (u / 10) ++ [dg (u % 10)] := by rw [Lib.decDigits, dif_neg h]; rfl
theorem val_dec (u : Nat) : val (Lib.decDigits u) = u := by
  induction u using Nat.strongRecOn with
  | ind u ih =>
    by_cases h : u < 10
    · rw [dec_small h]; simp [val, numV_cons, numV_nil, dg_toNat h]
    · rw [dec_big h, val_snoc, ih _ (by omega), dg_toNat (by omega)]; omega
theorem dec_all (u : Nat) : (Lib.decDigits u).all isD = true := by
  induction u using Nat.strongRecOn with
  | ind u ih =>
    by_cases h : u < 10
    · rw [dec_small h]; simp [isD_dg h]
    · rw [dec_big h, List.all_append, ih _ (by omega)]; simp [isD_dg (show u % 10 < 10 by omega)]
theorem dec_ne (u : Nat) : Lib.decDigits u ≠ [] := by
  intro h
  have := Lib.decDigits_length u
  have := Lib.nDigits_pos u
  rw [h] at *; simp at *; omega
theorem dec_head (u : Nat) (h : 0 < u) : ∃ c r, Lib.decDigits u = c :: r ∧ c ≠ 48 := by
  induction u using Nat.strongRecOn with
  | ind u ih =>
    by_cases hu : u < 10
    · refine ⟨dg u, [], dec_small hu, ?_⟩
      intro e
      have := congrArg UInt8.toNat e
      rw [dg_toNat hu] at this
      simp at this; omega
    · obtain ⟨c, r, h1, h2⟩ := ih (u / 10) (by omega) (by omega)
      exact ⟨c, r ++ [dg (u % 10)], by rw [dec_big hu, h1]; rfl, h2⟩
theorem plain_dec (u : Nat) : plainB (Lib.decDigits u) = true := by
  by_cases h : u = 0
  · subst h; rw [dec_small (by decide)]; decide
  · obtain ⟨c, r, h1, h2⟩ := dec_head u (by omega)
    have := dec_all u
    rw [h1] at this ⊢
    simp [plainB, h2] at this ⊢
    exact this
theorem snoc_ind {P : List UInt8 → Prop} (h0 : P []) (h1 : ∀ l c, P l → P (l ++ [c])) (l : List UInt8) : P l := by
  rw [← List.reverse_reverse l]
  induction l.reverse with
  | nil => exact h0
  | cons a r ih => rw [List.reverse_cons]; exact h1 _ _ ih
theorem val_pos (c : UInt8) (r : List UInt8) (hd : isD c = true) (h : c ≠ 48) : 0 < val (c :: r) := by
  have h1 : 48 ≤ c.toNat ∧ c.toNat ≤ 57 := by simpa [isD] using hd
  have h2 : c.toNat ≠ 48 := fun e => h (UInt8.toNat_inj.1 e)
  have := numV_ge r (10 * 0 + (c.toNat - 48))
  simp only [val, numV_cons, numV_nil]; omega
theorem dec_val (l : List UInt8) : plainB l = true → Lib.decDigits (val l) = l := by
  induction l using snoc_ind with
  | h0 => intro h; simp [plainB] at h
  | h1 l c ih =>
    intro h
    have ha := plainB_all h
    rw [List.all_append] at ha
    simp only [List.all_cons, List.all_nil, Bool.and_true, Bool.and_eq_true] at ha
    have hc : 48 ≤ c.toNat ∧ c.toNat ≤ 57 := by simpa [isD] using ha.2
    rw [val_snoc]
    cases l with
    | nil =>
      rw [dec_small (by simp [val, numV_cons, numV_nil]; omega)]
      simp [val, numV_cons, numV_nil, dg_of ha.2]
    | cons a r =>
      have hn : a ≠ 48 := by
        intro e; subst e
        simp [plainB] at h
      have ha' := ha.1
      simp only [List.all_cons, Bool.and_eq_true] at ha'
      have hp : plainB (a :: r) = true := by simp only [plainB, List.all_cons, Bool.and_eq_true]; exact ⟨by simp [hn], ha'⟩
      have := val_pos a r ha'.1 hn
      rw [dec_big (by omega), show (10 * val (a :: r) + (c.toNat - 48)) / 10 = val (a :: r) by omega, ih hp, show (10 * val (a :: r) + (c.toNat - 48)) % 10 = c.toNat - 48 by omega, dg_of ha.2]
theorem dec_len {u k : Nat} (hk : 0 < k) (h : u < 10 ^ k) : (Lib.decDigits u).length ≤ k := by
  rcases Nat.lt_or_ge k (Lib.decDigits u).length with hlt | hge
  · by_cases h0 : u = 0
    · subst h0; rw [dec_small (by decide)] at hlt; simp at hlt; omega
    · obtain ⟨c, r, h1, h2⟩ := dec_head u (by omega)
      have hd := dec_all u
      rw [h1] at hd hlt
      simp only [List.all_cons, Bool.and_eq_true] at hd
      have hv := val_pos c r hd.1 h2
      have e : val (c :: r) = u := by rw [← h1, val_dec]
      have hc : 48 ≤ c.toNat ∧ c.toNat ≤ 57 := by simpa [isD] using hd.1
      have h3 : c.toNat ≠ 48 := fun e => h2 (UInt8.toNat_inj.1 e)
      have := numV_ge_pow r (10 * 0 + (c.toNat - 48)) 0 (by simp; omega)
      rw [show numV (10 * 0 + (c.toNat - 48)) r = u from e] at this
      have h4 : 10 ^ k ≤ 10 ^ (0 + r.length) := Nat.pow_le_pow_right (by decide) (by simp at hlt; omega)
      omega
  · exact hge
theorem parseUintM_digits (M : Nat) (hM : M ≤ 18446744073709551615) : ∀ (l : List UInt8) (a : Nat), l.all isD = true → numV a l ≤ M → Lib.parseUintM M a l = .ok (numV a l)
  | [], a, _, _ => rfl
  | c :: r, a, h, hm => by
    simp only [List.all_cons, Bool.and_eq_true] at h
    have hc : 48 ≤ c.toNat ∧ c.toNat ≤ 57 := by simpa [isD] using h.1
    have hge := numV_ge r (10 * a + (c.toNat - 48))
    simp only [numV_cons] at hm ⊢
    rw [Lib.parseUintM, if_pos hc, if_neg (by omega), if_neg (by omega), Nat.mul_comm a 10]
    exact parseUintM_digits M hM r _ h.2 hm
theorem parseInt_plain (l : List UInt8) (hne : l ≠ []) (h : l.all isD = true) (hv : val l < 9223372036854775808) : Lib.parseIntB 64 l = .ok (val l : Int) := by
  cases l with
  | nil => exact absurd rfl hne
  | cons c r =>
    have h' := h
    simp only [List.all_cons, Bool.and_eq_true] at h'
    have hc : 48 ≤ c.toNat ∧ c.toNat ≤ 57 := by simpa [isD] using h'.1
    rw [Lib.parseIntB_plain 64 c r (by omega) (by omega), Lib.parseUintB, if_neg (by simp), parseUintM_digits _ (by decide) _ _ h (by unfold val at hv; omega)]
    simp only [Lib.signlessC]
    unfold val at hv
    rw [if_neg (by omega)]
    rfl
end Go.Proofs.YtjgondadpjildaaGreatDoor
