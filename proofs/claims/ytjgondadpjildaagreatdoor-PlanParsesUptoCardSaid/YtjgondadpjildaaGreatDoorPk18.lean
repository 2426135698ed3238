/- The texts of altitudes, windows and distances, and what such texts mean; the two are inverse. No program in sight. -/
import Derived.Test.YtjgondadpjildaaGreatDoorPk01
import Derived.Test.YtjgondadpjildaaGreatDoorPk03
namespace Go.Proofs.YtjgondadpjildaaGreatDoor
set_option linter.unusedVariables false
set_option linter.unusedSimpArgs false
/-- An altitude without its sign. -/
def altN (m : Nat) : List UInt8 := Lib.decDigits (m / 100) ++ if m % 100 = 0 then [] else 46 :: (Lib.decDigits (m % 100 / 10) ++ Lib.decDigits (m % 10))
def altS (a : Int) : List UInt8 := (if a < 0 then [45] else []) ++ altN a.natAbs
def altT (a : Int) : List UInt8 × Int := if -200000 ≤ a ∧ a ≤ 6000000 then (altS a, 0) else ([], 2)
theorem altT_out {a : Int} (h : ¬ (-200000 ≤ a ∧ a ≤ 6000000)) : altT a = ([], 2) := by unfold altT; rw [if_neg h]
theorem altT_in {a : Int} (h : -200000 ≤ a ∧ a ≤ 6000000) : altT a = (altS a, 0) := by unfold altT; rw [if_pos h]
theorem altS_pos {a : Int} (h : 0 ≤ a) : altS a = altN a.toNat := by unfold altS; rw [if_neg (by omega), show a.natAbs = a.toNat by omega]; rfl
theorem altS_neg {m : Int} (h : 0 < m) : altS (-m) = 45 :: altN m.toNat := by unfold altS; rw [if_pos (by omega), show (-m).natAbs = m.toNat by omega]; rfl
theorem altN_whole {m : Int} (h0 : 0 ≤ m) (h : m % 100 = 0) : altN m.toNat = Lib.decDigits (m / 100).toNat := by
  unfold altN; rw [if_pos (by omega), show m.toNat / 100 = (m / 100).toNat by omega]; simp
theorem altN_part {m : Int} (h0 : 0 ≤ m) (h : ¬ m % 100 = 0) : altN m.toNat = Lib.decDigits (m / 100).toNat ++ (46 :: (Lib.decDigits (m % 100 / 10).toNat ++ Lib.decDigits (m % 10).toNat)) := by
  unfold altN; rw [if_neg (by omega), show m.toNat / 100 = (m / 100).toNat by omega, show m.toNat % 100 / 10 = (m % 100 / 10).toNat by omega, show m.toNat % 10 = (m % 10).toNat by omega]
theorem altN_len {m : Nat} (h : m ≤ 6000000) : (altN m).length ≤ 12 := by
  have h1 : (Lib.decDigits (m / 100)).length ≤ 6 := dec_len (by decide) (by omega)
  have h2 : (Lib.decDigits (m % 100 / 10)).length ≤ 1 := dec_len (by decide) (by omega)
  have h3 : (Lib.decDigits (m % 10)).length ≤ 1 := dec_len (by decide) (by omega)
  unfold altN
  split <;> simp <;> omega
theorem altS_len {a : Int} (h0 : -200000 ≤ a) (h : a ≤ 6000000) : (altS a).length ≤ 13 := by
  have := altN_len (m := a.natAbs) (by omega)
  unfold altS
  split <;> simp <;> omega
/-- A window's text. -/
def winS (lo hi : Int) : List UInt8 :=
  if lo = -200000 ∧ hi = 6000000 then [45] else if lo = hi then altS lo else if hi = 6000000 then altS lo ++ [43] else if lo = -200000 then altS hi ++ [45] else altS lo ++ (58 :: altS hi)
def winOk (lo hi : Int) : Prop := -200000 ≤ lo ∧ lo ≤ hi ∧ hi ≤ 6000000
instance (lo hi : Int) : Decidable (winOk lo hi) := by unfold winOk; infer_instance
def winT (lo hi : Int) : List UInt8 × Int := if winOk lo hi then (winS lo hi, 0) else ([], 1)
theorem winT_in {lo hi : Int} (h : winOk lo hi) : winT lo hi = (winS lo hi, 0) := by unfold winT; rw [if_pos h]
theorem winT_out {lo hi : Int} (h : ¬ winOk lo hi) : winT lo hi = ([], 1) := by unfold winT; rw [if_neg h]
theorem winS_len {lo hi : Int} (h : winOk lo hi) : (winS lo hi).length ≤ 27 := by
  obtain ⟨h1, h2, h3⟩ := h
  have a := altS_len h1 (by omega)
  have b := altS_len (a := hi) (by omega) h3
  unfold winS
  repeat' split
  all_goals simp
  all_goals omega
/-- A distance's text: miles, and the rest of a mile. -/
def distS (d : Nat) : List UInt8 := Lib.decDigits (d / 6000) ++ if d % 6000 = 0 then [] else 43 :: Lib.decDigits (d % 6000)
def distT (d : Int) : List UInt8 × Int := if 0 ≤ d ∧ d ≤ 8000000 then (distS d.toNat, 0) else ([], 2)
theorem distT_in {d : Int} (h : 0 ≤ d ∧ d ≤ 8000000) : distT d = (distS d.toNat, 0) := by unfold distT; rw [if_pos h]
theorem distT_out {d : Int} (h : ¬ (0 ≤ d ∧ d ≤ 8000000)) : distT d = ([], 2) := by unfold distT; rw [if_neg h]
theorem distS_whole {d : Int} (h0 : 0 ≤ d) (h : d % 6000 = 0) : distS d.toNat = Lib.decDigits (d / 6000).toNat := by
  unfold distS; rw [if_pos (by omega), show d.toNat / 6000 = (d / 6000).toNat by omega]; simp
theorem distS_part {d : Int} (h0 : 0 ≤ d) (h : ¬ d % 6000 = 0) : distS d.toNat = Lib.decDigits (d / 6000).toNat ++ (43 :: Lib.decDigits (d % 6000).toNat) := by
  unfold distS; rw [if_neg (by omega), show d.toNat / 6000 = (d / 6000).toNat by omega, show d.toNat % 6000 = (d % 6000).toNat by omega]
theorem distS_len {d : Nat} (h : d ≤ 8000000) : (distS d).length ≤ 10 := by
  have h1 : (Lib.decDigits (d / 6000)).length ≤ 4 := dec_len (by decide) (by omega)
  have h2 : (Lib.decDigits (d % 6000)).length ≤ 4 := dec_len (by decide) (by omega)
  unfold distS
  split <;> simp <;> omega
/-! What such texts mean. -/
def cutPre (c : UInt8) (l : List UInt8) : List UInt8 × Bool := match l with | x :: r => if x = c then (r, true) else (l, false) | [] => ([], false)
def cutSuf (c : UInt8) (l : List UInt8) : List UInt8 × Bool := if l.getLast? = some c then (l.dropLast, true) else (l, false)
/-- Two digits that are not both zero. -/
def hundB : List UInt8 → Bool
  | [a, b] => isD a && isD b && !(a == 48 && b == 48)
  | _ => false
def feetV (feet : List UInt8) : Int := if feet.length < 10 then (val feet : Int) else 1099511627776
def altP3 (minus : Bool) (feet hund : List UInt8) (point : Bool) : Int × Bool :=
  if plainB feet = true ∧ (point = false ∨ hundB hund = true) then
    (if minus then (-(feetV feet * 100 + if point then (val hund : Int) else 0), decide (feetV feet * 100 + (if point then (val hund : Int) else 0) ≠ 0)) else (feetV feet * 100 + (if point then (val hund : Int) else 0), true))
  else (0, false)
def altP (s : List UInt8) : Int × Bool := altP3 (cutPre 45 s).2 (cutAt 46 (cutPre 45 s).1).1 (cutAt 46 (cutPre 45 s).1).2.1 (cutAt 46 (cutPre 45 s).1).2.2
def winP (s : List UInt8) : (Int × Int) × Bool :=
  if s = [45] then ((-200000, 6000000), true)
  else if (cutAt 58 s).2.2 then (((altP (cutAt 58 s).1).1, (altP (cutAt 58 s).2.1).1), (altP (cutAt 58 s).1).2 && (altP (cutAt 58 s).2.1).2)
  else if (cutSuf 43 s).2 then (((altP (cutSuf 43 s).1).1, 6000000), (altP (cutSuf 43 s).1).2)
  else if (cutSuf 45 s).2 then ((-200000, (altP (cutSuf 45 s).1).1), (altP (cutSuf 45 s).1).2)
  else (((altP s).1, (altP s).1), (altP s).2)
def rangedB (a : Int) : Bool := decide (-200000 ≤ a) && decide (a ≤ 6000000)
def parseWinS (s : List UInt8) : (Int × Int) × Int :=
  if (winP s).2 = true then
    if rangedB (winP s).1.1 = true ∧ rangedB (winP s).1.2 = true then
      if (winP s).1.2 < (winP s).1.1 then ((0, 0), 9) else if winS (winP s).1.1 (winP s).1.2 = s then ((winP s).1, 0) else ((0, 0), 4)
    else ((0, 0), 2)
  else ((0, 0), 4)
def restOk (r : List UInt8) : Bool := plainB r && !(r == [48]) && decide (r.length ≤ 4)
def distP3 (miles rest : List UInt8) (two : Bool) : Int × Int :=
  if plainB miles = true ∧ (two = false ∨ restOk rest = true) then
    if two = true ∧ 6000 ≤ val rest then (0, 4)
    else if 9 < miles.length then (0, 2)
    else if 8000000 < val miles * 6000 + (if two then val rest else 0) then (0, 2) else (((val miles * 6000 + (if two then val rest else 0) : Nat) : Int), 0)
  else (0, 4)
def distP (s : List UInt8) : Int × Int := distP3 (cutAt 43 s).1 (cutAt 43 s).2.1 (cutAt 43 s).2.2
/-! The two are inverse. -/
theorem isD_ne {c d : UInt8} (h : isD c = true) (hd : isD d = false) : c ≠ d := by rintro rfl; rw [h] at hd; cases hd
theorem cutAt_digits {c : UInt8} (hc : isD c = false) (l r : List UInt8) (h : l.all isD = true) : cutAt c (l ++ c :: r) = (l, r, true) := by
  induction l with
  | nil => simp [cutAt]
  | cons x l ih =>
    simp only [List.all_cons, Bool.and_eq_true] at h
    have := isD_ne h.1 hc
    simp [cutAt, this, ih h.2]
theorem cutAt_plain {c : UInt8} (hc : isD c = false) (l : List UInt8) (h : l.all isD = true) : cutAt c l = (l, [], false) := by
  refine cutAt_none c l ?_
  rw [List.all_eq_true] at h ⊢
  intro x hx
  simpa using isD_ne (h x hx) hc
theorem distP_distS {d : Nat} (h : d ≤ 8000000) : distP (distS d) = ((d : Int), 0) := by
  have ha := dec_all (d / 6000)
  have hp := plain_dec (d / 6000)
  have hv := val_dec (d / 6000)
  have hl : (Lib.decDigits (d / 6000)).length ≤ 4 := dec_len (by decide) (by omega)
  unfold distP distS
  by_cases hk : d % 6000 = 0
  · rw [if_pos hk, List.append_nil, cutAt_plain (by decide) _ ha]
    show distP3 (Lib.decDigits (d / 6000)) [] false = _
    unfold distP3
    rw [if_pos ⟨hp, .inl rfl⟩, if_neg (by simp), if_neg (by omega), hv]
    simp only [Bool.false_eq_true, if_false]
    rw [if_neg (by omega)]
    simp; omega
  · rw [if_neg hk, cutAt_digits (by decide) _ _ ha]
    have hp2 := plain_dec (d % 6000)
    have hv2 := val_dec (d % 6000)
    have hl2 : (Lib.decDigits (d % 6000)).length ≤ 4 := dec_len (by decide) (by omega)
    have hr : restOk (Lib.decDigits (d % 6000)) = true := by
      unfold restOk
      rw [hp2]
      have : ¬ Lib.decDigits (d % 6000) = [48] := by
        intro e
        rw [e] at hv2
        have : val [48] = 0 := by decide
        omega
      simp [this, hl2]
    show distP3 (Lib.decDigits (d / 6000)) (Lib.decDigits (d % 6000)) true = _
    unfold distP3
    rw [if_pos ⟨hp, .inr hr⟩, if_neg (by omega), if_neg (by omega), hv, hv2]
    simp only [if_true]
    rw [if_neg (by omega)]
    simp; omega
theorem distP3_bd {a r : List UInt8} {b : Bool} (h : (distP3 a r b).2 = 0) : 0 ≤ (distP3 a r b).1 ∧ (distP3 a r b).1 ≤ 8000000 := by
  unfold distP3 at h ⊢
  generalize (if b = true then val r else 0) = k at h ⊢
  by_cases h1 : plainB a = true ∧ (b = false ∨ restOk r = true)
  · rw [if_pos h1] at h ⊢
    by_cases h2 : b = true ∧ 6000 ≤ val r
    · rw [if_pos h2] at h; simp at h
    · rw [if_neg h2] at h ⊢
      by_cases h3 : 9 < a.length
      · rw [if_pos h3] at h; simp at h
      · rw [if_neg h3] at h ⊢
        by_cases h4 : 8000000 < val a * 6000 + k
        · rw [if_pos h4] at h; simp at h
        · rw [if_neg h4]
          simp only
          omega
  · rw [if_neg h1] at h; simp at h
theorem distS_distP {s : List UInt8} (h : (distP s).2 = 0) : 0 ≤ (distP s).1 ∧ (distP s).1 ≤ 8000000 := distP3_bd h
theorem altN_digits {m : Nat} : ∃ c r, altN m = c :: r ∧ isD c = true := by
  have h1 := dec_all (m / 100)
  have h2 := dec_ne (m / 100)
  unfold altN
  match h : Lib.decDigits (m / 100) with
  | [] => exact absurd h h2
  | c :: r =>
    rw [h] at h1
    simp only [List.all_cons, Bool.and_eq_true] at h1
    exact ⟨c, _, rfl, h1.1⟩
theorem cutPre_altS {a : Int} : cutPre 45 (altS a) = (altN a.natAbs, decide (a < 0)) := by
  unfold altS
  by_cases h : a < 0
  · rw [if_pos h]; simp [cutPre, h]
  · rw [if_neg h]
    obtain ⟨c, r, h1, h2⟩ := altN_digits (m := a.natAbs)
    rw [h1]
    have := isD_ne h2 (d := 45) (by decide)
    simp [cutPre, this, h]
theorem altP_altS {a : Int} (h0 : -200000 ≤ a) (h1 : a ≤ 6000000) : altP (altS a) = (a, true) := by
  unfold altP
  rw [cutPre_altS]
  simp only
  have hm : a.natAbs ≤ 6000000 := by omega
  obtain ⟨m, hmm⟩ : ∃ m, m = a.natAbs := ⟨_, rfl⟩
  rw [← hmm] at hm ⊢
  have ha := dec_all (m / 100)
  have hp := plain_dec (m / 100)
  have hv := val_dec (m / 100)
  have hl : (Lib.decDigits (m / 100)).length ≤ 6 := dec_len (by decide) (by omega)
  have hf : feetV (Lib.decDigits (m / 100)) = ((m / 100 : Nat) : Int) := by unfold feetV; rw [if_pos (by omega), hv]
  unfold altN
  by_cases hk : m % 100 = 0
  · rw [if_pos hk, List.append_nil, cutAt_plain (by decide) _ ha]
    show altP3 _ (Lib.decDigits (m / 100)) [] false = _
    unfold altP3
    rw [if_pos ⟨hp, .inl rfl⟩, hf]
    by_cases hn : a < 0
    · simp [hn]; omega
    · simp [hn]; omega
  · rw [if_neg hk, cutAt_digits (by decide) _ _ ha]
    have e1 : Lib.decDigits (m % 100 / 10) = [dg (m % 100 / 10)] := dec_small (by omega)
    have e2 : Lib.decDigits (m % 10) = [dg (m % 10)] := dec_small (by omega)
    rw [e1, e2]
    have d1 := isD_dg (n := m % 100 / 10) (by omega)
    have d2 := isD_dg (n := m % 10) (by omega)
    have n1 := dg_toNat (n := m % 100 / 10) (by omega)
    have n2 := dg_toNat (n := m % 10) (by omega)
    have hh : hundB ([dg (m % 100 / 10)] ++ [dg (m % 10)]) = true := by
      simp only [List.cons_append, List.nil_append, hundB, d1, d2, Bool.true_and, Bool.not_eq_true', Bool.and_eq_false_iff, beq_eq_false_iff_ne]
      by_cases hz : m % 100 / 10 = 0
      · right
        intro e
        have := congrArg UInt8.toNat e
        rw [n2] at this
        simp at this; omega
      · left
        intro e
        have := congrArg UInt8.toNat e
        rw [n1] at this
        simp at this; omega
    have hvv : val ([dg (m % 100 / 10)] ++ [dg (m % 10)]) = m % 100 := by
      rw [val_snoc, n2]
      simp only [val, numV_cons, numV_nil, n1]
      omega
    show altP3 _ (Lib.decDigits (m / 100)) ([dg (m % 100 / 10)] ++ [dg (m % 10)]) true = _
    unfold altP3
    rw [if_pos ⟨hp, .inr hh⟩, hf, hvv]
    by_cases hn : a < 0
    · simp [hn]; omega
    · simp [hn]; omega
/-- The bytes of an altitude: digits, a sign, a point. -/
def altC (c : UInt8) : Bool := isD c || c == 45 || c == 46
theorem all_mono {p q : UInt8 → Bool} (h : ∀ c, p c = true → q c = true) {l : List UInt8} (hl : l.all p = true) : l.all q = true := by
  rw [List.all_eq_true] at hl ⊢
  exact fun x hx => h x (hl x hx)
theorem altN_all (m : Nat) : (altN m).all altC = true := by
  have h : ∀ u, (Lib.decDigits u).all altC = true := fun u => all_mono (fun c hc => by simp [altC, hc]) (dec_all u)
  unfold altN
  split
  · simp only [List.append_nil, h]
  · simp only [List.all_append, List.all_cons, h, Bool.and_true]; decide
theorem altS_all (a : Int) : (altS a).all altC = true := by
  unfold altS
  rw [List.all_append, altN_all]
  split <;> decide
theorem dec_last (u : Nat) : ∃ c, (Lib.decDigits u).getLast? = some c ∧ isD c = true := by
  have h1 := dec_all u
  have h2 := dec_ne u
  rw [List.all_eq_true] at h1
  exact ⟨_, List.getLast?_eq_some_getLast h2, h1 _ (List.getLast_mem h2)⟩
theorem altN_last (m : Nat) : ∃ c, (altN m).getLast? = some c ∧ isD c = true := by
  unfold altN
  split
  · rw [List.append_nil]; exact dec_last _
  · obtain ⟨c, h1, h2⟩ := dec_last (m % 10)
    refine ⟨c, ?_, h2⟩
    rw [List.getLast?_append]
    rw [show (46 :: (Lib.decDigits (m % 100 / 10) ++ Lib.decDigits (m % 10)) : List UInt8) = (46 :: Lib.decDigits (m % 100 / 10)) ++ Lib.decDigits (m % 10) from rfl, List.getLast?_append, h1]
    rfl
theorem altS_last (a : Int) : ∃ c, (altS a).getLast? = some c ∧ isD c = true := by
  obtain ⟨c, h1, h2⟩ := altN_last a.natAbs
  refine ⟨c, ?_, h2⟩
  unfold altS
  rw [List.getLast?_append, h1]; rfl
theorem altC_ne {c d : UInt8} (h : altC c = true) (hd : altC d = false) : c ≠ d := by rintro rfl; rw [h] at hd; cases hd
theorem altS_ne (a : Int) : altS a ≠ [] := by
  obtain ⟨c, h1, _⟩ := altS_last a
  intro e
  rw [e] at h1
  cases h1
theorem cutAt_not {c : UInt8} {l : List UInt8} (h : c ∉ l) : cutAt c l = (l, [], false) := by
  refine cutAt_none c l ?_
  rw [List.all_eq_true]
  intro x hx
  simp only [bne_iff_ne]
  rintro rfl
  exact h hx
theorem altS_not {c : UInt8} (hc : altC c = false) (a : Int) : c ∉ altS a := by
  intro hm
  have := List.all_eq_true.1 (altS_all a) c hm
  rw [hc] at this
  cases this
theorem cutAt_of {c : UInt8} (l r : List UInt8) (h : c ∉ l) : cutAt c (l ++ c :: r) = (l, r, true) := by
  induction l with
  | nil => simp [cutAt]
  | cons x l ih =>
    simp only [List.mem_cons, not_or] at h
    have h1 : ¬ x = c := fun e => h.1 e.symm
    simp [cutAt, h1, ih h.2]
theorem cutSuf_snoc (c : UInt8) (l : List UInt8) : cutSuf c (l ++ [c]) = (l, true) := by
  unfold cutSuf
  rw [if_pos (by simp), List.dropLast_concat]
theorem cutSuf_no {c d : UInt8} {l : List UInt8} (h : l.getLast? = some d) (hd : d ≠ c) : cutSuf c l = (l, false) := by
  unfold cutSuf
  rw [if_neg (by rw [h]; simpa using hd)]
theorem winP_winS {lo hi : Int} (h : winOk lo hi) : winP (winS lo hi) = ((lo, hi), true) := by
  obtain ⟨h1, h2, h3⟩ := h
  have pl := altP_altS h1 (show lo ≤ 6000000 by omega)
  have ph := altP_altS (show -200000 ≤ hi by omega) h3
  unfold winS
  by_cases c1 : lo = -200000 ∧ hi = 6000000
  · rw [if_pos c1]; obtain ⟨rfl, rfl⟩ := c1; rfl
  · rw [if_neg c1]
    by_cases c2 : lo = hi
    · rw [if_pos c2]
      subst c2
      obtain ⟨d, hd, hdd⟩ := altS_last lo
      unfold winP
      rw [if_neg (by intro e; rw [e] at hd; simp at hd; subst hd; revert hdd; decide), cutAt_not (altS_not (by decide) lo), cutSuf_no hd (isD_ne hdd (by decide)), cutSuf_no hd (isD_ne hdd (by decide)), pl]
      simp
    · rw [if_neg c2]
      by_cases c3 : hi = 6000000
      · rw [if_pos c3]
        unfold winP
        rw [if_neg (by intro e; have := congrArg List.getLast? e; simp at this), cutAt_not (by simp; exact altS_not (by decide) lo), cutSuf_snoc, pl]
        simp [c3]
      · rw [if_neg c3]
        by_cases c4 : lo = -200000
        · rw [if_pos c4]
          have hn := altS_ne hi
          unfold winP
          rw [if_neg (by intro e; apply hn; simpa using e), cutAt_not (by simp; exact altS_not (by decide) hi), cutSuf_no (c := 43) (d := 45) (by simp) (by decide), cutSuf_snoc, ph]
          simp [c4]
        · rw [if_neg c4]
          unfold winP
          rw [if_neg (by intro e; have := altS_ne hi; have := altS_ne lo; have := congrArg List.length e; simp at this; have := List.length_pos_iff.2 (altS_ne lo); have := List.length_pos_iff.2 (altS_ne hi); omega), cutAt_of _ _ (altS_not (by decide) lo), pl, ph]
          simp
theorem parseWin_winS {lo hi : Int} (h : winOk lo hi) : parseWinS (winS lo hi) = ((lo, hi), 0) := by
  unfold parseWinS
  rw [winP_winS h]
  obtain ⟨h1, h2, h3⟩ := h
  simp only
  rw [if_pos trivial, if_pos (by simp [rangedB]; omega), if_neg (by omega), if_pos trivial]
theorem parseWin_ok {s : List UInt8} (h : (parseWinS s).2 = 0) : winOk (parseWinS s).1.1 (parseWinS s).1.2 ∧ winS (parseWinS s).1.1 (parseWinS s).1.2 = s := by
  unfold parseWinS at h ⊢
  split at h
  · rename_i h1
    rw [if_pos h1]
    split at h
    · rename_i h2
      rw [if_pos h2]
      split at h
      · simp at h
      · rename_i h3
        rw [if_neg h3]
        split at h
        · rename_i h4
          rw [if_pos h4]
          simp [rangedB] at h2
          refine ⟨⟨?_, ?_, ?_⟩, h4⟩ <;> simp only <;> omega
        · simp at h
    · simp at h
  · simp at h
end Go.Proofs.YtjgondadpjildaaGreatDoor
