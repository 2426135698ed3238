/- Long division by bits as Divide of ref01 does it (128 steps), in plain Lean; rounding. No program in sight. -/
import Derived.Test.YtjgondadpjildaaGreatDoorPk01
namespace Go.Proofs.YtjgondadpjildaaGreatDoor
set_option linter.unusedVariables false
set_option linter.unusedSimpArgs false
/-- The reference's division, bit by bit. -/
structure DS where
  hi : Nat
  lo : Nat
  qhi : Nat
  qlo : Nat
  r : Nat
def dstep (c : Nat) (s : DS) : DS :=
  if s.r / 9223372036854775808 = 1 ∨ c ≤ s.r * 2 % 18446744073709551616 + s.hi / 9223372036854775808 then
    ⟨s.hi * 2 % 18446744073709551616 + s.lo / 9223372036854775808, s.lo * 2 % 18446744073709551616, s.qhi * 2 % 18446744073709551616 + s.qlo / 9223372036854775808, s.qlo * 2 % 18446744073709551616 + 1, (s.r * 2 % 18446744073709551616 + s.hi / 9223372036854775808 + 18446744073709551616 - c) % 18446744073709551616⟩
  else
    ⟨s.hi * 2 % 18446744073709551616 + s.lo / 9223372036854775808, s.lo * 2 % 18446744073709551616, s.qhi * 2 % 18446744073709551616 + s.qlo / 9223372036854775808, s.qlo * 2 % 18446744073709551616, s.r * 2 % 18446744073709551616 + s.hi / 9223372036854775808⟩
def dloop (c : Nat) : Nat → DS → DS
  | 0, s => s
  | n + 1, s => dloop c n (dstep c s)
/-- The same with whole numbers: what is left of the dividend, the quotient, the rest. -/
structure Dn (c m q r : Nat) (s : DS) : Prop where
  hi : s.hi < 18446744073709551616
  lo : s.lo < 18446744073709551616
  num : s.hi * 18446744073709551616 + s.lo = m
  qlo : s.qlo < 18446744073709551616
  quo : s.qhi * 18446744073709551616 + s.qlo = q
  rest : s.r = r
theorem dmove_hi {hi lo : Nat} (h1 : hi < 18446744073709551616) (h2 : lo < 18446744073709551616) :
    hi * 2 % 18446744073709551616 + lo / 9223372036854775808 < 18446744073709551616 := by omega
theorem dmove_lo {hi lo W H : Nat} (hH : 0 < H) (hW : W = 2 * H) (h1 : hi < W) (h2 : lo < W) :
    (hi * 2 % W + lo / H) * W + lo * 2 % W = (hi * W + lo) * 2 % (W * W) := by
  have el : lo * 2 = lo / H * W + lo * 2 % W := by
    have e := Nat.div_add_mod (lo * 2) W
    have : lo * 2 / W = lo / H := by
      rw [hW, Nat.mul_comm 2 H, Nat.mul_div_mul_right _ _ (by decide)]
    rw [this, Nat.mul_comm] at e; exact e.symm
  have eh := Nat.div_add_mod (hi * 2) W
  have : (hi * W + lo) * 2 = W * W * (hi * 2 / W) + ((hi * 2 % W + lo / H) * W + lo * 2 % W) := by
    have e1 : (hi * W + lo) * 2 = (hi * 2) * W + lo * 2 := by
      rw [Nat.add_mul, Nat.mul_right_comm]
    rw [e1, Nat.add_mul]
    have e2 : hi * 2 * W = W * W * (hi * 2 / W) + hi * 2 % W * W := by
      have e3 : hi * 2 * W = (W * (hi * 2 / W) + hi * 2 % W) * W := by rw [eh]
      rw [e3, Nat.add_mul]
      congr 1
      rw [Nat.mul_right_comm]
    omega
  rw [this, Nat.mul_add_mod]
  refine (Nat.mod_eq_of_lt ?_).symm
  have hb : hi * 2 % W + lo / H < W := by
    have h3 : hi * 2 % W % 2 = 0 := by
      rw [hW, Nat.mod_mod_of_dvd _ ⟨H, rfl⟩]; omega
    have h4 := Nat.mod_lt (hi * 2) (show 0 < W by omega)
    have h5 : lo / H < 2 := by
      rw [Nat.div_lt_iff_lt_mul hH]; omega
    omega
  have h6 := Nat.mod_lt (lo * 2) (show 0 < W by omega)
  calc (hi * 2 % W + lo / H) * W + lo * 2 % W < (hi * 2 % W + lo / H) * W + W := by omega
    _ = (hi * 2 % W + lo / H + 1) * W := by rw [Nat.add_mul (hi * 2 % W + lo / H) 1 W, Nat.one_mul]
    _ ≤ W * W := Nat.mul_le_mul_right _ hb
theorem dmove_num {hi lo m : Nat} (h1 : hi < 18446744073709551616) (h2 : lo < 18446744073709551616) (h : hi * 18446744073709551616 + lo = m) :
    (hi * 2 % 18446744073709551616 + lo / 9223372036854775808) * 18446744073709551616 + lo * 2 % 18446744073709551616 = m * 2 % 340282366920938463463374607431768211456 := by
  subst h
  exact dmove_lo (W := 18446744073709551616) (H := 9223372036854775808) (by decide) (by decide) h1 h2
theorem dmove_quo {hi lo m : Nat} (h2 : lo < 18446744073709551616) (h : hi * 18446744073709551616 + lo = m) (hm : m < 170141183460469231731687303715884105728) :
    (hi * 2 % 18446744073709551616 + lo / 9223372036854775808) * 18446744073709551616 + lo * 2 % 18446744073709551616 = m * 2 := by
  have h1 : hi < 9223372036854775808 := by omega
  rw [dmove_num (by omega) h2 h]
  exact Nat.mod_eq_of_lt (by omega)
set_option maxRecDepth 100000 in
theorem dstep_num {c m q r : Nat} {s : DS} (h : Dn c m q r s) (hc : 0 < c) (hc63 : c ≤ 9223372036854775808) (hr : r < c) (hq : q < 170141183460469231731687303715884105728) :
    Dn c (m * 2 % 340282366920938463463374607431768211456) (q * 2 + (r * 2 + m / 170141183460469231731687303715884105728) / c) ((r * 2 + m / 170141183460469231731687303715884105728) % c) (dstep c s) := by
  obtain ⟨h1, h2, h3, h4, h5, h6⟩ := h
  obtain ⟨hi, lo, qhi, qlo, r'⟩ := s
  simp only at h1 h2 h3 h4 h5 h6
  subst h6
  have hb : m / 170141183460469231731687303715884105728 = hi / 9223372036854775808 := by omega
  rw [hb]
  have hb2 : hi / 9223372036854775808 ≤ 1 := by omega
  generalize hbb : hi / 9223372036854775808 = b at *
  have ht : r' / 9223372036854775808 = 0 := by omega
  have hr2 : r' * 2 % 18446744073709551616 = r' * 2 := by omega
  unfold dstep
  simp only [ht, hr2, hbb]
  by_cases hge : c ≤ r' * 2 + b
  · rw [if_pos (.inr hge)]
    have hd : (r' * 2 + b) / c = 1 := by
      apply Nat.div_eq_of_lt_le <;> omega
    have hm : (r' * 2 + b) % c = r' * 2 + b - c := by
      rw [Nat.mod_eq_sub_mod hge, Nat.mod_eq_of_lt (by omega)]
    rw [hd, hm]
    have mq := dmove_quo h4 h5 hq
    have mn := dmove_num h1 h2 h3
    have mh := dmove_hi h1 h2
    refine ⟨mh, Nat.mod_lt _ (by decide), mn, ?_, ?_, ?_⟩
    · show qlo * 2 % 18446744073709551616 + 1 < 18446744073709551616
      clear mq mn mh; omega
    · show (qhi * 2 % 18446744073709551616 + qlo / 9223372036854775808) * 18446744073709551616 + (qlo * 2 % 18446744073709551616 + 1) = q * 2 + 1
      rw [← Nat.add_assoc, mq]
    · show (r' * 2 + b + 18446744073709551616 - c) % 18446744073709551616 = r' * 2 + b - c
      clear mq mn mh h1 h2 h3 h4 h5 hq; omega
  · rw [if_neg (by omega)]
    have hd : (r' * 2 + b) / c = 0 := Nat.div_eq_of_lt (by omega)
    have hm : (r' * 2 + b) % c = r' * 2 + b := Nat.mod_eq_of_lt (by omega)
    rw [hd, hm]
    have mq := dmove_quo h4 h5 hq
    have mn := dmove_num h1 h2 h3
    have mh := dmove_hi h1 h2
    exact ⟨mh, Nat.mod_lt _ (by decide), mn, Nat.mod_lt _ (by decide), mq, rfl⟩
/-- Behind i steps. -/
structure Di (N c i : Nat) (s : DS) : Prop where
  dn : Dn c (N * 2 ^ i % 2 ^ 128) (N / 2 ^ (128 - i) / c) (N / 2 ^ (128 - i) % c) s
theorem bit_of {N i k : Nat} (h : i + k = 127) : (N * 2 ^ i % 2 ^ 128) / 2 ^ 127 = N / 2 ^ k % 2 := by
  have e1 : (2 : Nat) ^ 128 = 2 ^ 127 * 2 := by decide
  rw [e1, Nat.mod_mul_right_div_self]
  congr 1
  rw [← h, Nat.pow_add, Nat.mul_comm N, Nat.mul_div_mul_left _ _ (Nat.pow_pos (by decide))]
theorem di_step {N c i : Nat} {s : DS} (hN : N < 2 ^ 128) (hc : 0 < c) (hc63 : c ≤ 9223372036854775808) (hi : i < 128) (h : Di N c i s) : Di N c (i + 1) (dstep c s) := by
  have hr : N / 2 ^ (128 - i) % c < c := Nat.mod_lt _ hc
  have hP : N / 2 ^ (128 - i) < 2 ^ i := by
    rw [Nat.div_lt_iff_lt_mul (Nat.pow_pos (by decide)), ← Nat.pow_add, show i + (128 - i) = 128 by omega]; exact hN
  have hq : N / 2 ^ (128 - i) / c < 170141183460469231731687303715884105728 := by
    have h1 : N / 2 ^ (128 - i) / c ≤ N / 2 ^ (128 - i) := Nat.div_le_self _ _
    have h2 : (2 : Nat) ^ i ≤ 2 ^ 127 := Nat.pow_le_pow_right (by decide) (by omega)
    have h3 : (2 : Nat) ^ 127 = 170141183460469231731687303715884105728 := by decide
    omega
  have := dstep_num h.dn hc hc63 hr hq
  have e127 : (170141183460469231731687303715884105728 : Nat) = 2 ^ 127 := by decide
  have e128 : (340282366920938463463374607431768211456 : Nat) = 2 ^ 128 := by decide
  rw [e127, e128, bit_of (show i + (127 - i) = 127 by omega)] at this
  have hPP : N / 2 ^ (127 - i) = 2 * (N / 2 ^ (128 - i)) + N / 2 ^ (127 - i) % 2 := by
    have : N / 2 ^ (128 - i) = N / 2 ^ (127 - i) / 2 := by
      rw [show 128 - i = (127 - i) + 1 by omega, Nat.pow_succ, Nat.div_div_eq_div_mul]
    rw [this]; omega
  refine ⟨?_⟩
  have e1 : N * 2 ^ (i + 1) % 2 ^ 128 = N * 2 ^ i % 2 ^ 128 * 2 % 2 ^ 128 := by
    rw [Nat.pow_succ, ← Nat.mul_assoc, Nat.mod_mul_mod]
  have e2 : 128 - (i + 1) = 127 - i := by omega
  rw [e1, e2]
  generalize N / 2 ^ (127 - i) % 2 = b at *
  generalize N / 2 ^ (128 - i) = P at *
  rw [hPP]
  have hd := Nat.div_add_mod P c
  have f1 : (2 * P + b) / c = P / c * 2 + (P % c * 2 + b) / c := by
    have : 2 * P + b = c * (P / c * 2) + (P % c * 2 + b) := by
      have e : c * (P / c * 2) = 2 * (c * (P / c)) := by rw [← Nat.mul_assoc, Nat.mul_comm _ 2]
      rw [e]; omega
    rw [this, Nat.mul_add_div hc]
  have f2 : (2 * P + b) % c = (P % c * 2 + b) % c := by
    have : 2 * P + b = c * (P / c * 2) + (P % c * 2 + b) := by
      have e : c * (P / c * 2) = 2 * (c * (P / c)) := by rw [← Nat.mul_assoc, Nat.mul_comm _ 2]
      rw [e]; omega
    rw [this, Nat.mul_add_mod]
  rw [f1, f2]
  exact this
theorem di_zero {hi lo c : Nat} (h1 : hi < 18446744073709551616) (h2 : lo < 18446744073709551616) (hc : 0 < c) : Di (hi * 18446744073709551616 + lo) c 0 ⟨hi, lo, 0, 0, 0⟩ := by
  have hN : hi * 18446744073709551616 + lo < 2 ^ 128 := by
    have : (2 : Nat) ^ 128 = 340282366920938463463374607431768211456 := by decide
    omega
  refine ⟨?_⟩
  rw [Nat.pow_zero, Nat.mul_one, Nat.mod_eq_of_lt hN, Nat.sub_zero, Nat.div_eq_of_lt hN]
  exact ⟨h1, h2, rfl, by simp, by simp, by simp⟩
theorem di_loop {N c : Nat} (hN : N < 2 ^ 128) (hc : 0 < c) (hc63 : c ≤ 9223372036854775808) : ∀ (n i : Nat) (s : DS), i + n = 128 → Di N c i s → Di N c 128 (dloop c n s)
  | 0, i, s, h, hd => by obtain rfl : i = 128 := by omega
                         exact hd
  | n + 1, i, s, h, hd => di_loop hN hc hc63 n (i + 1) (dstep c s) (by omega) (di_step hN hc hc63 (by omega) hd)
/-- The quotient and the rest. -/
theorem dloop_div {hi lo c : Nat} (h1 : hi < 18446744073709551616) (h2 : lo < 18446744073709551616) (hc : 0 < c) (hc63 : c ≤ 9223372036854775808) :
    (dloop c 128 ⟨hi, lo, 0, 0, 0⟩).qhi * 18446744073709551616 + (dloop c 128 ⟨hi, lo, 0, 0, 0⟩).qlo = (hi * 18446744073709551616 + lo) / c ∧ (dloop c 128 ⟨hi, lo, 0, 0, 0⟩).qlo < 18446744073709551616 ∧ (dloop c 128 ⟨hi, lo, 0, 0, 0⟩).r = (hi * 18446744073709551616 + lo) % c := by
  have hN : hi * 18446744073709551616 + lo < 2 ^ 128 := by
    have : (2 : Nat) ^ 128 = 340282366920938463463374607431768211456 := by decide
    omega
  have h := (di_loop hN hc hc63 128 0 _ rfl (di_zero h1 h2 hc)).dn
  rw [Nat.sub_self, Nat.pow_zero, Nat.div_one] at h
  exact ⟨h.quo, h.qlo, h.rest⟩


/-- A bit put into the free place below. -/
theorem or_bit {x b W H : Nat} (hW : W = 2 * H) (hb : b < 2) : (x * 2 % W) ||| b = x * 2 % W + b := by
  have e : x * 2 % W = 2 ^ 1 * (x % H) := by
    rw [hW, Nat.mul_comm x 2, Nat.mul_mod_mul_left, Nat.pow_one]
  rw [e]
  exact (Nat.two_pow_add_eq_or_of_lt (i := 1) hb _).symm
theorem or_one {x W H : Nat} (hW : W = 2 * H) : (x * 2 % W) ||| 1 = x * 2 % W + 1 := or_bit hW (by decide)
/-- Two halves put together. -/
theorem or_half {x y : Nat} (hy : y < 4294967296) : (x * 4294967296) ||| y = x * 4294967296 + y := by
  have := Nat.two_pow_add_eq_or_of_lt (i := 32) (b := y) (by omega) x
  rw [show (2:Nat) ^ 32 = 4294967296 by decide, Nat.mul_comm] at this
  exact this.symm
/-- Divide of a number below 2^64. -/
theorem dloop_small {N c : Nat} (hN : N < 18446744073709551616) (hc : 0 < c) (hc63 : c ≤ 9223372036854775808) :
    (dloop c 128 ⟨0, N, 0, 0, 0⟩).qhi = 0 ∧ (dloop c 128 ⟨0, N, 0, 0, 0⟩).qlo = N / c ∧ (dloop c 128 ⟨0, N, 0, 0, 0⟩).r = N % c := by
  obtain ⟨h1, h2, h3⟩ := dloop_div (hi := 0) (lo := N) (by decide) hN hc hc63
  rw [Nat.zero_mul, Nat.zero_add] at h1 h3
  have : N / c ≤ N := Nat.div_le_self _ _
  refine ⟨by omega, by omega, h3⟩
/-- The rounded size is no larger than what was divided. -/
theorem near_le {N c : Nat} (hc : 0 < c) : N / c + (if c - N % c ≤ N % c then 1 else 0) ≤ N := by
  split
  · rename_i h
    have hr := Nat.mod_lt N hc
    have hd := Nat.div_add_mod N c
    by_cases h0 : N / c = 0
    · rw [h0, Nat.mul_zero] at hd; omega
    · have : 2 * (N / c) ≤ c * (N / c) := Nat.mul_le_mul_right _ (by omega)
      omega
  · exact Nat.div_le_self _ _
theorem near_lt {N c : Nat} (hc : 0 < c) : N / c + (if c - N % c < N % c then 1 else 0) ≤ N := by
  refine Nat.le_trans ?_ (near_le hc)
  refine Nat.add_le_add_left ?_ _
  split
  · rename_i h
    rw [if_pos (Nat.le_of_lt h)]
    exact Nat.le_refl _
  · exact Nat.zero_le _
end Go.Proofs.YtjgondadpjildaaGreatDoor
