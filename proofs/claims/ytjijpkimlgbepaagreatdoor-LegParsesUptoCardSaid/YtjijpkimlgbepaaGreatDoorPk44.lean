/- The words of a leg's text and what is read of them, in plain Lean: word by word they are inverse. What leg.Parse reads of the first words of a valid leg's text, in plain Lean; and that what it accepts is the text of the leg. -/
import Derived.Test.YtjijpkimlgbepaaGreatDoorPk40
namespace Go.Proofs.YtjijpkimlgbepaaGreatDoor
open Go.RowKit Go.Sort
set_option linter.unusedVariables false
set_option linter.unusedSimpArgs false
theorem digW_all (k n : Nat) : (digW k n).all isD = true := by
  induction k generalizing n with
  | zero => rfl
  | succ k ih => simp [digW, ih, isD_dg (Nat.mod_lt n (by decide : 0 < 10))]
theorem val_digW (k n : Nat) : val (digW k n) = n % 10 ^ k := by
  induction k generalizing n with
  | zero => simp [digW, val, numV, Nat.mod_one]
  | succ k ih =>
    rw [digW, val_snoc, ih, dg_toNat (Nat.mod_lt n (by decide)), Nat.pow_succ, Nat.mul_comm (10 ^ k) 10, Nat.mod_mul]
    omega
theorem digW_val (l : List UInt8) : l.all isD = true → digW l.length (val l) = l := by
  refine snoc_ind (P := fun l => l.all isD = true → digW l.length (val l) = l) (fun _ => rfl) (fun l c ih h => ?_) l
  simp only [List.all_append, Bool.and_eq_true, List.all_cons, List.all_nil, Bool.and_true] at h
  have hc : 48 ≤ c.toNat ∧ c.toNat ≤ 57 := by simpa [isD] using h.2
  have e1 : (10 * val l + (c.toNat - 48)) / 10 = val l := by omega
  have e2 : (10 * val l + (c.toNat - 48)) % 10 = c.toNat - 48 := by omega
  rw [List.length_append, List.length_singleton, digW, val_snoc, e1, e2, ih h.1, dg_of h.2]
theorem exactS_all (a : Nat) : (exactS a).all isD = true := by simp [exactS, digW_all]
theorem angP_exactS (a : Nat) (h : a < 129600000) : angP (exactS a) = ((a : Int), true) := by
  have l3 := digW_len 3 (a / 360000)
  have l2 := digW_len 2 (a % 360000 / 6000)
  have l1 := digW_len 2 (a % 6000 / 100)
  have l0 := digW_len 2 (a % 100)
  have v3 := val_digW 3 (a / 360000)
  have v2 := val_digW 2 (a % 360000 / 6000)
  have v1 := val_digW 2 (a % 6000 / 100)
  have v0 := val_digW 2 (a % 100)
  have e0 := exactS_all a
  have e9 := exactS_len a
  unfold exactS at e0 e9
  unfold angP exactS
  generalize digW 3 (a / 360000) = A at *
  generalize digW 2 (a % 360000 / 6000) = B at *
  generalize digW 2 (a % 6000 / 100) = C at *
  generalize digW 2 (a % 100) = D at *
  have t3 : (A ++ B ++ C ++ D).take 3 = A := by rw [List.append_assoc, List.append_assoc, List.take_append_of_le_length (by omega), List.take_of_length_le (by omega)]
  have d3 : (A ++ B ++ C ++ D).drop 3 = B ++ C ++ D := by rw [List.append_assoc, List.append_assoc, ← l3, List.drop_left, List.append_assoc]
  have t2 : (B ++ C ++ D).take 2 = B := by rw [List.append_assoc, List.take_append_of_le_length (by omega), List.take_of_length_le (by omega)]
  have d5 : (A ++ B ++ C ++ D).drop 5 = C ++ D := by rw [show A ++ B ++ C ++ D = (A ++ B) ++ (C ++ D) by simp, show 5 = (A ++ B).length by simp; omega, List.drop_left]
  have t5 : (C ++ D).take 2 = C := by rw [List.take_append_of_le_length (by omega), List.take_of_length_le (by omega)]
  have d7 : (A ++ B ++ C ++ D).drop 7 = D := by rw [show 7 = (A ++ B ++ C).length by simp; omega, List.drop_left]
  rw [t3, d3, t2, d5, t5, d7, if_pos ⟨e9, e0, by omega, by omega⟩, v3, v2, v1, v0]
  refine Prod.ext ?_ rfl
  show _ = (a : Int)
  omega
theorem courseS_exactS {a : Int} (h0 : 0 ≤ a) (h : a ≤ 129599999) : courseS (exactS a.toNat) = (a, true) := by
  unfold courseS parseExS
  rw [if_pos (exactS_len _), angP_exactS _ (by omega)]
  simp only [if_true]
  rw [if_pos (by omega)]
  refine Prod.ext ?_ rfl
  show ((a.toNat : Nat) : Int) = a
  omega
theorem courseS_back {s : List UInt8} (h : (courseS s).2 = true) : 0 ≤ (courseS s).1 ∧ (courseS s).1 ≤ 129599999 ∧ exactS (courseS s).1.toNat = s := by
  unfold courseS at h ⊢
  by_cases h9 : s.length = 9
  · rw [if_pos h9] at h ⊢
    unfold parseExS at h ⊢
    by_cases ha : (angP s).2 = true
    · rw [if_pos ha] at h ⊢
      by_cases hb : (angP s).1 < 129600000
      · rw [if_pos hb] at h ⊢
        simp only
        unfold angP at ha hb ⊢
        by_cases hq : s.length = 9 ∧ s.all isD = true ∧ val ((s.drop 3).take 2) < 60 ∧ val ((s.drop 5).take 2) < 60
        · rw [if_pos hq] at hb ⊢
          simp only at hb ⊢
          obtain ⟨_, hd, q1, q2⟩ := hq
          have w3 : (s.take 3).all isD = true := List.all_eq_true.2 fun x hx => (List.all_eq_true.1 hd) x (List.mem_of_mem_take hx)
          have w2 : ((s.drop 3).take 2).all isD = true := List.all_eq_true.2 fun x hx => (List.all_eq_true.1 hd) x (List.mem_of_mem_drop (List.mem_of_mem_take hx))
          have w1 : ((s.drop 5).take 2).all isD = true := List.all_eq_true.2 fun x hx => (List.all_eq_true.1 hd) x (List.mem_of_mem_drop (List.mem_of_mem_take hx))
          have w0 : (s.drop 7).all isD = true := List.all_eq_true.2 fun x hx => (List.all_eq_true.1 hd) x (List.mem_of_mem_drop hx)
          have d3 := digW_val _ w3
          have d2 := digW_val _ w2
          have d1 := digW_val _ w1
          have d0 := digW_val _ w0
          have b3 := val_lt _ w3
          have b2 := val_lt _ w2
          have b1 := val_lt _ w1
          have b0 := val_lt _ w0
          have n3 : (s.take 3).length = 3 := by simp; omega
          have n2 : ((s.drop 3).take 2).length = 2 := by simp; omega
          have n1 : ((s.drop 5).take 2).length = 2 := by simp; omega
          have n0 : (s.drop 7).length = 2 := by simp; omega
          rw [n3] at d3 b3
          rw [n2] at d2 b2
          rw [n1] at d1 b1
          rw [n0] at d0 b0
          have hs : s = s.take 3 ++ (s.drop 3).take 2 ++ (s.drop 5).take 2 ++ s.drop 7 := by
            have e1 : s = s.take 3 ++ s.drop 3 := (List.take_append_drop 3 s).symm
            have e2 : s.drop 3 = (s.drop 3).take 2 ++ s.drop 5 := by have := (List.take_append_drop 2 (s.drop 3)).symm; rwa [List.drop_drop] at this
            have e3 : s.drop 5 = (s.drop 5).take 2 ++ s.drop 7 := by have := (List.take_append_drop 2 (s.drop 5)).symm; rwa [List.drop_drop] at this
            rw [List.append_assoc, List.append_assoc, ← e3, ← e2, ← e1]
          generalize s.take 3 = A at *
          generalize (s.drop 3).take 2 = B at *
          generalize (s.drop 5).take 2 = C at *
          generalize s.drop 7 = D at *
          refine ⟨by omega, by omega, ?_⟩
          have en : ((val A : Int) * 360000 + (val B : Int) * 6000 + (val C : Int) * 100 + (val D : Int)).toNat = val A * 360000 + val B * 6000 + val C * 100 + val D := by omega
          rw [en]
          unfold exactS
          rw [show (val A * 360000 + val B * 6000 + val C * 100 + val D) / 360000 = val A by omega, show (val A * 360000 + val B * 6000 + val C * 100 + val D) % 360000 / 6000 = val B by omega,
            show (val A * 360000 + val B * 6000 + val C * 100 + val D) % 6000 / 100 = val C by omega, show (val A * 360000 + val B * 6000 + val C * 100 + val D) % 100 = val D by omega, d3, d2, d1, d0, ← hs]
        · rw [if_neg hq] at ha; simp at ha
      · rw [if_neg hb] at h; simp at h
    · rw [if_neg ha] at h; simp at h
  · rw [if_neg h9] at h; simp at h
theorem legDist_fwd (c : UInt8) {d : Int} (h0 : 1 ≤ d) (h : d ≤ 8000000) : legDistS c (c :: distS d.toNat) = (d, true) := by
  have e := distP_distS (d := d.toNat) (by omega)
  have e1 : ((d.toNat : Nat) : Int) = d := by omega
  rw [e1] at e
  unfold legDistS
  simp only
  rw [e, if_pos ⟨trivial, rfl, by simp only; omega⟩]
  simp
theorem legDist_back {c : UInt8} {s : List UInt8} (h : (legDistS c s).2 = true) : 1 ≤ (legDistS c s).1 ∧ s = c :: distS (legDistS c s).1.toNat := by
  cases s with
  | nil => simp [legDistS] at h
  | cons x r =>
    unfold legDistS at h ⊢
    simp only at h ⊢
    by_cases hq : x = c ∧ (distP r).2 = 0 ∧ (distP r).1 ≠ 0
    · rw [if_pos hq] at h ⊢
      obtain ⟨rfl, h1, h2⟩ := hq
      have hb := distS_distP h1
      refine ⟨by simp only; omega, ?_⟩
      have : distS (distP r).1.toNat = r := by simpa using h
      rw [this]
    · rw [if_neg hq] at h; simp at h
theorem dec_head1 {u : Nat} (h : 0 < u) : ∃ c r, Lib.decDigits u = c :: r ∧ (c != 48) = true := by
  obtain ⟨c, r, h1, h2⟩ := dec_head u h
  exact ⟨c, r, h1, by simpa using h2⟩
theorem speed_fwd {n : Int} (h0 : 1 ≤ n) (h : n ≤ 1000) : speedS (115 :: Lib.decDigits n.toNat) = (n, true) := by
  obtain ⟨c, r, e, hc⟩ := dec_head1 (u := n.toNat) (by omega)
  have hl : (Lib.decDigits n.toNat).length ≤ 4 := dec_len (by decide) (by omega)
  have ha := dec_all n.toNat
  have hv := val_dec n.toNat
  rw [e] at hl ha hv ⊢
  unfold speedS speedB
  rw [if_pos (by simp only [ha, hc, Bool.and_true, Bool.true_and, beq_self_eq_true, decide_eq_true_eq]; simp at hl; omega)]
  refine Prod.ext ?_ rfl
  show ((val (c :: r) : Nat) : Int) = n
  omega
theorem speed_back {s : List UInt8} (h : (speedS s).2 = true) : 1 ≤ (speedS s).1 ∧ s = 115 :: Lib.decDigits (speedS s).1.toNat := by
  unfold speedS at h ⊢
  by_cases hb : speedB s = true
  · rw [if_pos hb] at h ⊢
    unfold speedB at hb
    split at hb
    · rename_i x y r
      simp only [Bool.and_eq_true, beq_iff_eq, bne_iff_ne, decide_eq_true_eq, ne_eq] at hb
      obtain ⟨⟨⟨rfl, hy⟩, hr⟩, ha⟩ := hb
      have hd : isD y = true := by simp at ha; exact ha.1
      have hp : plainB (y :: r) = true := by
        have := ha
        unfold plainB
        cases r with
        | nil => simpa using ha
        | cons z t => simp [ha, hy] at ha ⊢
      have hv := val_pos y r hd hy
      have he := dec_val _ hp
      simp only [List.tail_cons]
      refine ⟨by omega, ?_⟩
      rw [show ((val (y :: r) : Nat) : Int).toNat = val (y :: r) by omega, he]
    · cases hb
  · rw [if_neg hb] at h; simp at h
theorem speed_no {s : List UInt8} (h : ∀ r, s ≠ 115 :: r) : speedS s = (0, false) := by
  unfold speedS
  rw [if_neg]
  intro hb
  unfold speedB at hb
  split at hb
  · rename_i x y r
    simp only [Bool.and_eq_true, beq_iff_eq] at hb
    exact h (y :: r) (by rw [hb.1.1.1])
  · cases hb
theorem typeK_fwd : ∀ k : Fin 17, typeK (nameOf ((k.val + 1 : Nat) : Int)) 0 18 = ((k.val + 1 : Nat) : Int) := by decide +kernel
theorem type_fwd {t : Int} (h : knownB t = true) : typeK (nameOf t) 0 18 = t := by
  have h1 : 1 ≤ t ∧ t ≤ 17 := by simpa [knownB] using h
  have h2 := typeK_fwd ⟨t.toNat - 1, by omega⟩
  have e : ((t.toNat - 1 + 1 : Nat) : Int) = t := by omega
  simp only [e] at h2
  exact h2
theorem typeK_back (s : List UInt8) : ∀ k : Nat, k ≤ 18 → typeK s 0 k ≠ 0 → knownB (typeK s 0 k) = true ∧ nameOf (typeK s 0 k) = s
  | 0, _, h => absurd rfl h
  | k + 1, hk, h => by
    unfold typeK at h ⊢
    by_cases hc : 0 < k ∧ namesTab.getD k [] = s
    · rw [if_pos hc] at h ⊢
      refine ⟨by simp [knownB]; omega, ?_⟩
      unfold nameOf
      rw [show ((k : Nat) : Int).toNat = k by omega]
      exact hc.2
    · rw [if_neg hc] at h ⊢
      exact typeK_back s k (by omega) h
theorem refB_iff {s : List UInt8} : refB s = true ↔ checkRefI s true = 0 := by
  unfold refB checkRefI
  simp only [if_true, beq_iff_eq]
  constructor
  · intro h; rw [if_pos h]
  · intro h
    by_cases h2 : (splitRef s).2.2 = 0
    · exact h2
    · rw [if_neg h2] at h; cases h
theorem alnum_no {l : List UInt8} (h : l.all alnum = true) : (32 : UInt8) ∉ l := fun hm => by
  have := (List.all_eq_true.1 h) 32 hm
  exact absurd this (by decide)
theorem nameB_all {l : List UInt8} {m : Int} (h : nameB l m = true) : l.all alnum = true := by
  unfold nameB at h
  split at h
  · cases h
  · simp only [Bool.and_eq_true] at h; exact h.2
theorem ref_no {s : List UInt8} (h : refB s = true) : (32 : UInt8) ∉ s := by
  have h0 : (splitRef s).2.2 = 0 := by simpa [refB] using h
  unfold splitRef splitRef3 at h0
  by_cases hq : (cutAt 47 s).2.2 = true
  · rw [if_pos hq] at h0
    by_cases hn : (nameB (cutAt 47 s).1 6 && (nameB (cutAt 47 s).2.1 6 || shortB (cutAt 47 s).2.1)) = true
    · have hp := cutAt_parts 47 s hq
      simp only [Bool.and_eq_true, Bool.or_eq_true] at hn
      have a1 := alnum_no (nameB_all hn.1)
      have a2 : (32 : UInt8) ∉ (cutAt 47 s).2.1 := by
        rcases hn.2 with h2 | h2
        · exact alnum_no (nameB_all h2)
        · unfold shortB at h2; simp only [Bool.and_eq_true] at h2; exact alnum_no h2.2
      rw [hp]
      simp only [List.mem_append, List.mem_cons, not_or]
      exact ⟨a1, by decide, a2⟩
    · rw [if_neg hn] at h0; cases h0
  · rw [if_neg hq] at h0; cases h0
theorem dig_no {l : List UInt8} (h : l.all isD = true) : (32 : UInt8) ∉ l := fun hm => by
  have := (List.all_eq_true.1 h) 32 hm
  exact absurd this (by decide)
theorem dist_no (d : Nat) : (32 : UInt8) ∉ distS d := by
  unfold distS
  have h1 := dig_no (dec_all (d / 6000))
  have h2 := dig_no (dec_all (d % 6000))
  split
  · simpa using h1
  · simp only [List.mem_append, List.mem_cons, not_or]
    exact ⟨h1, by decide, h2⟩
theorem alt_no (a : Int) : (32 : UInt8) ∉ altS a := altS_not (by decide) a
theorem win_no (lo hi : Int) : (32 : UInt8) ∉ winS lo hi := by
  unfold winS
  have h1 := alt_no lo
  have h2 := alt_no hi
  repeat' split
  · decide
  · exact h1
  · simp only [List.mem_append, List.mem_cons, not_or, List.not_mem_nil, not_false_eq_true, and_true]; exact ⟨h1, by decide⟩
  · simp only [List.mem_append, List.mem_cons, not_or, List.not_mem_nil, not_false_eq_true, and_true]; exact ⟨h2, by decide⟩
  · simp only [List.mem_append, List.mem_cons, not_or]; exact ⟨h1, by decide, h2⟩
theorem altS_first (a : Int) : ∃ c r, altS a = c :: r ∧ altC c = true := by
  have h := altS_all a
  match h2 : altS a with
  | [] => exact absurd h2 (altS_ne a)
  | c :: r => rw [h2] at h; simp at h; exact ⟨c, r, rfl, h.1⟩
/-- A window's text begins with a digit or a sign. -/
theorem winS_first (lo hi : Int) : ∃ c r, winS lo hi = c :: r ∧ altC c = true := by
  obtain ⟨c, r, e, hc⟩ := altS_first lo
  obtain ⟨c', r', e', hc'⟩ := altS_first hi
  unfold winS
  repeat' split
  · exact ⟨45, [], rfl, by decide⟩
  · exact ⟨c, r, e, hc⟩
  · exact ⟨c, r ++ [43], by rw [e]; rfl, hc⟩
  · exact ⟨c', r' ++ [45], by rw [e']; rfl, hc'⟩
  · exact ⟨c, r ++ 58 :: altS hi, by rw [e]; rfl, hc⟩
theorem win_fwd {lo hi : Int} (h : winOk lo hi) (hn : ¬ (lo = -200000 ∧ hi = 6000000)) : winTaken (winS lo hi) = true := by
  unfold winTaken
  rw [parseWin_winS h]
  simp only [beq_self_eq_true, Bool.true_and, Bool.not_eq_true', Bool.and_eq_false_iff, beq_eq_false_iff_ne]
  rcases Int.decEq lo (-200000) with h1 | h1
  · exact .inl h1
  · exact .inr fun h2 => hn ⟨h1, h2⟩
theorem win_back {s : List UInt8} (h : winTaken s = true) : winOk (parseWinS s).1.1 (parseWinS s).1.2 ∧ winS (parseWinS s).1.1 (parseWinS s).1.2 = s ∧ ¬ ((parseWinS s).1.1 = -200000 ∧ (parseWinS s).1.2 = 6000000) := by
  unfold winTaken at h
  simp only [Bool.and_eq_true, beq_iff_eq, Bool.not_eq_true', Bool.and_eq_false_iff, beq_eq_false_iff_ne] at h
  have h1 := parseWin_ok h.1
  refine ⟨h1.1, h1.2, ?_⟩
  rintro ⟨h2, h3⟩
  rcases h.2 with h4 | h4
  · exact h4 h2
  · exact h4 h3
theorem win_not {c : UInt8} {r : List UInt8} (h : altC c = false) : winTaken (c :: r) = false := by
  cases hw : winTaken (c :: r)
  · rfl
  · obtain ⟨_, h2, _⟩ := win_back hw
    obtain ⟨c', r', e, hc⟩ := winS_first (parseWinS (c :: r)).1.1 (parseWinS (c :: r)).1.2
    rw [e] at h2
    injection h2 with h3 h4
    rw [h3, h] at hc; cases hc
end Go.Proofs.YtjijpkimlgbepaaGreatDoor
namespace Go.Proofs.YtjijpkimlgbepaaGreatDoor
open Go.RowKit Go.Sort
set_option linter.unusedVariables false
set_option linter.unusedSimpArgs false
abbrev Ws := List (List UInt8)
/-- The reader stands ahead of the words W, cut behind some of them; the leg is l. -/
def AtS (full : Prop) (W : Ws) (l : Leg) (x : PS) : Prop := x.bad = 0 ∧ x.l = l ∧ ∃ j, x.ws = W.take j ∧ (full → W.length ≤ j)
/-- A word is missing at the end. -/
def OutS (n : Nat) (full : Prop) (x : PS) : Prop := ¬ full ∧ x.bad = (n : Int) + 2 ∧ x.ws = []
theorem OutS.needIf {n : Nat} {full : Prop} {x : PS} (h : OutS n full x) (b : Bool) (f : Acc) : OutS n full (x.needIf b n f) := by
  obtain ⟨h1, h2, h3⟩ := h
  have e : x.needIf b n f = x := by
    unfold PS.needIf PS.need
    cases b
    · rfl
    · simp only [if_true]; rw [if_pos (by omega)]
  rw [e]; exact ⟨h1, h2, h3⟩
theorem OutS.may {n : Nat} {full : Prop} {x : PS} (h : OutS n full x) (f : Acc) : OutS n full (x.may f) := by
  obtain ⟨h1, h2, h3⟩ := h
  have e : x.may f = x := by unfold PS.may; rw [if_pos (by omega)]
  rw [e]; exact ⟨h1, h2, h3⟩
theorem AtS.needIf {n : Nat} {full : Prop} {W : Ws} {l l' : Leg} {x : PS} {s : List UInt8} {b : Bool} {f : Acc} (h : AtS full (opt b s ++ W) l x) (h1 : b = true → f s l = (l', true)) (h0 : b = false → l' = l) :
    AtS full W l' (x.needIf b n f) ∨ OutS n full (x.needIf b n f) := by
  obtain ⟨hb, rfl, j, hw, hj⟩ := h
  cases b
  · left
    rw [h0 rfl]
    exact ⟨hb, rfl, j, by simpa [PS.needIf, opt] using hw, by simpa [opt] using hj⟩
  · have hw' : x.ws = (s :: W).take j := by simpa [opt] using hw
    have hj' : full → W.length + 1 ≤ j := fun hf => by have := hj hf; simp [opt] at this; omega
    unfold PS.needIf PS.need
    simp only [if_true]
    rw [if_neg (by omega)]
    cases j with
    | zero =>
      right
      rw [hw']
      exact ⟨fun hf => by have := hj' hf; omega, rfl, by simp⟩
    | succ j =>
      left
      rw [hw']
      simp only [List.take_succ_cons]
      rw [h1 rfl]
      exact ⟨rfl, rfl, j, rfl, fun hf => by have := hj' hf; omega⟩
theorem AtS.may {n : Nat} {full : Prop} {W : Ws} {l l' : Leg} {x : PS} {s : List UInt8} {b : Bool} {f : Acc} (h : AtS full (opt b s ++ W) l x) (h1 : b = true → f s l = (l', true)) (h0 : b = false → l' = l ∧ ∀ s' ∈ W, f s' l = (l, false)) :
    AtS full W l' (x.may f) ∨ (¬ full ∧ AtS full W l (x.may f)) := by
  obtain ⟨hb, rfl, j, hw, hj⟩ := h
  cases b
  · left
    obtain ⟨e, h2⟩ := h0 rfl
    rw [e]
    have hw' : x.ws = W.take j := by simpa [opt] using hw
    have hj' : full → W.length ≤ j := by simpa [opt] using hj
    unfold PS.may
    rw [if_neg (by omega)]
    match hq : x.ws with
    | [] => exact ⟨hb, rfl, j, by rw [← hw', hq], hj'⟩
    | s' :: r =>
      have hm : s' ∈ W := by have : s' ∈ W.take j := by rw [← hw', hq]; simp
                             exact List.mem_of_mem_take this
      simp only
      rw [h2 s' hm, if_neg (by simp)]
      exact ⟨hb, rfl, j, by rw [← hw', hq], hj'⟩
  · have hw' : x.ws = (s :: W).take j := by simpa [opt] using hw
    have hj' : full → W.length + 1 ≤ j := fun hf => by have := hj hf; simp [opt] at this; omega
    unfold PS.may
    rw [if_neg (by omega)]
    cases j with
    | zero =>
      right
      refine ⟨fun hf => by have := hj' hf; omega, ?_⟩
      rw [hw']
      exact ⟨hb, rfl, 0, by simpa using hw', fun hf => by have := hj' hf; omega⟩
    | succ j =>
      left
      rw [hw']
      simp only [List.take_succ_cons]
      rw [h1 rfl]
      exact ⟨rfl, rfl, j, rfl, fun hf => by have := hj' hf; omega⟩
/-- The leg's options, each its own or none. -/
structure OptOf (full : Prop) (l m : Leg) : Prop where
  ty : m.ty = l.ty
  fix : m.fix = l.fix
  center : m.center = l.center
  turn : m.turn = l.turn
  course : m.course = l.course
  dist : m.dist = l.dist
  radius : m.radius = l.radius
  theta : m.theta = l.theta
  over : m.over = l.over ∨ (¬ full ∧ m.over = false)
  win : (m.lo = l.lo ∧ m.hi = l.hi) ∨ (¬ full ∧ m.lo = -200000 ∧ m.hi = 6000000)
  speed : m.speed = l.speed ∨ (¬ full ∧ m.speed = 0)
  rnp : m.rnp = l.rnp ∨ (¬ full ∧ m.rnp = 0)
def needW (l : Leg) : Ws := opt (uB l.ty 1) l.fix ++ (opt (uB l.ty 2) (64 :: l.center) ++ (opt (uB l.ty 4) (if l.turn = 1 then [76] else [82]) ++ (opt (uB l.ty 16) (txOf l).course ++ (opt (uB l.ty 32) (txOf l).dist ++ (opt (uB l.ty 64) (txOf l).radius ++ (opt (uB l.ty 128) (116 :: (txOf l).theta) ++ []))))))
def optW (l : Leg) : Ws := opt l.over [111, 118, 101, 114] ++ (opt (winB l) (txOf l).win ++ (opt (l.speed != 0) (115 :: (txOf l).speed) ++ (opt (l.rnp != 0) (txOf l).rnp ++ [])))
theorem legWords_eq (l : Leg) : legWords l (txOf l) = nameOf l.ty :: (needW l ++ optW l) := by
  simp only [legWords, needW, optW, List.append_assoc, List.append_nil, List.singleton_append, List.cons_append, List.nil_append]
theorem opt_noW {b : Bool} {s x : List UInt8} (h : b = true → (32 : UInt8) ∉ s) (hx : x ∈ opt b s) : (32 : UInt8) ∉ x := by
  cases b
  · cases hx
  · have : x = s := by simpa [opt] using hx
    rw [this]; exact h rfl
theorem legWords_no {l : Leg} (h : LegOk l) : ∀ s ∈ legWords l (txOf l), (32 : UInt8) ∉ s := by
  intro s hs
  have nm : (32 : UInt8) ∉ nameOf l.ty := by
    have h1 : 1 ≤ l.ty ∧ l.ty ≤ 17 := by simpa [knownB] using h.known
    have hd : ∀ k : Fin 17, (32 : UInt8) ∉ nameOf ((k.val + 1 : Nat) : Int) := by decide +kernel
    have h2 := hd ⟨l.ty.toNat - 1, by omega⟩
    have e : ((l.ty.toNat - 1 + 1 : Nat) : Int) = l.ty := by omega
    simp only [e] at h2
    exact h2
  simp only [legWords, List.mem_append, List.mem_singleton] at hs
  rcases hs with (((((((((((hs | hs) | hs) | hs) | hs) | hs) | hs) | hs) | hs) | hs) | hs) | hs)
  · rw [hs]; exact nm
  · exact opt_noW (fun hb => ref_no (refB_iff.2 (by have := h.fix; rwa [hb] at this))) hs
  · exact opt_noW (fun hb => by have := ref_no (refB_iff.2 (by have := h.center; rwa [hb] at this)); simp only [List.mem_cons, not_or]; exact ⟨by decide, this⟩) hs
  · exact opt_noW (fun hb => by split <;> decide) hs
  · exact opt_noW (fun hb => dig_no (exactS_all _)) hs
  · exact opt_noW (fun hb => by simp only [txOf, List.mem_cons, not_or]; exact ⟨by decide, dist_no _⟩) hs
  · exact opt_noW (fun hb => by simp only [txOf, List.mem_cons, not_or]; exact ⟨by decide, dist_no _⟩) hs
  · exact opt_noW (fun hb => by simp only [txOf, List.mem_cons, not_or]; exact ⟨by decide, dig_no (exactS_all _)⟩) hs
  · exact opt_noW (fun hb => by decide) hs
  · exact opt_noW (fun hb => win_no _ _) hs
  · exact opt_noW (fun hb => by simp only [txOf, List.mem_cons, not_or]; exact ⟨by decide, dig_no (dec_all _)⟩) hs
  · exact opt_noW (fun hb => by simp only [txOf, List.mem_cons, not_or]; exact ⟨by decide, dist_no _⟩) hs
theorem cutPre_yes (c : UInt8) (r : List UInt8) : cutPre c (c :: r) = (r, true) := by simp [cutPre]
def nOpen (l : Leg) : Leg := { l with over := false, lo := -200000, hi := 6000000, speed := 0, rnp := 0 }
theorem mem_opt2 {b : Bool} {s x : List UInt8} {W : Ws} (h : x ∈ opt b s ++ W) : x = s ∨ x ∈ W := by
  rcases List.mem_append.1 h with h | h
  · exact .inl (mem_opt h)
  · exact .inr h
theorem mem_nil2 {x : List UInt8} (h : x ∈ ([] : Ws)) : False := by cases h
theorem win_head (l : Leg) : (txOf l).win ≠ [111, 118, 101, 114] := by
  obtain ⟨c, r, e, hc⟩ := winS_first l.lo l.hi
  show winS l.lo l.hi ≠ _
  rw [e]; intro h; injection h with h1 h2; rw [h1] at hc; revert hc; decide
theorem stepB {n : Nat} {full : Prop} {W W' : Ws} {l l' : Leg} {x y : PS} (h : AtS full W l x ∨ OutS n full x) (f : AtS full W l x → AtS full W' l' y ∨ OutS n full y) (g : OutS n full x → OutS n full y) : AtS full W' l' y ∨ OutS n full y := by
  rcases h with h | h
  · exact f h
  · exact .inr (g h)
theorem need_of {n : Nat} {full : Prop} {W : Ws} {l l' : Leg} {x : PS} {s : List UInt8} {b : Bool} {f : Acc} (h : AtS full (opt b s ++ W) l x ∨ OutS n full x) (h1 : b = true → f s l = (l', true)) (h0 : b = false → l' = l) :
    AtS full W l' (x.needIf b n f) ∨ OutS n full (x.needIf b n f) := stepB h (fun h => h.needIf h1 h0) (fun h => h.needIf b f)
/-- The fields that the type of a leg wants. -/
theorem cut_fields {l : Leg} (h : LegOk l) (n : Nat) (full : Prop) (x : PS) (hx : AtS full (needW l ++ optW l) { legOpen with ty := l.ty } x ∨ OutS n full x) :
    AtS full (optW l) (nOpen l) (x.fields l.ty n) ∨ OutS n full (x.fields l.ty n) := by
  unfold PS.fields
  unfold needW at hx
  simp only [List.append_assoc, List.nil_append] at hx
  have f1 : uB l.ty 1 = false → l.fix = [] := fun hb => by
    have := h.fix; rw [hb] at this; unfold checkRefI at this
    cases hl : l.fix with
    | nil => rfl
    | cons a r => rw [hl] at this; simp at this
  have f2 : uB l.ty 2 = false → l.center = [] := fun hb => by
    have := h.center; rw [hb] at this; unfold checkRefI at this
    cases hl : l.center with
    | nil => rfl
    | cons a r => rw [hl] at this; simp at this
  have f3 : uB l.ty 4 = false → l.turn = 0 := fun hb => by have := h.turn; rw [hb] at this; unfold turnE at this; grind
  have g3 : uB l.ty 4 = true → l.turn = 1 ∨ l.turn = 2 := fun hb => by have := h.turn; rw [hb] at this; unfold turnE at this; grind
  have y1 := need_of (l' := ⟨l.ty, l.fix, [], 0, false, 0, 0, 0, 0, -200000, 6000000, 0, 0⟩) (f := accFix) hx
    (fun hb => by have hr : refB l.fix = true := refB_iff.2 (by have := h.fix; rwa [hb] at this)
                  simp only [accFix, hr, legOpen, leg0]) (fun hb => by rw [f1 hb]; rfl)
  have y2 := need_of (l' := ⟨l.ty, l.fix, l.center, 0, false, 0, 0, 0, 0, -200000, 6000000, 0, 0⟩) (f := accCenter) y1
    (fun hb => by have hr : refB l.center = true := refB_iff.2 (by have := h.center; rwa [hb] at this)
                  simp only [accCenter, cutPre_yes, hr, Bool.and_self]) (fun hb => by rw [f2 hb])
  have y3 := need_of (l' := ⟨l.ty, l.fix, l.center, l.turn, false, 0, 0, 0, 0, -200000, 6000000, 0, 0⟩) (f := accTurn) y2
    (fun hb => by rcases g3 hb with e | e <;> rw [e] <;> simp [accTurn]) (fun hb => by rw [f3 hb])
  have y4 := need_of (l' := ⟨l.ty, l.fix, l.center, l.turn, false, l.course, 0, 0, 0, -200000, 6000000, 0, 0⟩) (f := accCourse) y3
    (fun hb => by have hr := num_used h.course hb
                  have hc : courseS (txOf l).course = (l.course, true) := courseS_exactS hr.1 hr.2
                  simp only [accCourse, hc]) (fun hb => by rw [num_free h.course hb])
  have y5 := need_of (l' := ⟨l.ty, l.fix, l.center, l.turn, false, l.course, l.dist, 0, 0, -200000, 6000000, 0, 0⟩) (f := accDist) y4
    (fun hb => by have hr := num_used h.dist hb
                  have hc : legDistS 100 (txOf l).dist = (l.dist, true) := legDist_fwd 100 hr.1 (by omega)
                  simp only [accDist, hc]) (fun hb => by rw [num_free h.dist hb])
  have y6 := need_of (l' := ⟨l.ty, l.fix, l.center, l.turn, false, l.course, l.dist, l.radius, 0, -200000, 6000000, 0, 0⟩) (f := accRadius) y5
    (fun hb => by have hr := num_used h.radius hb
                  have hc : legDistS 114 (txOf l).radius = (l.radius, true) := legDist_fwd 114 hr.1 (by omega)
                  simp only [accRadius, hc]) (fun hb => by rw [num_free h.radius hb])
  exact need_of (l' := nOpen l) (f := accTheta) y6
    (fun hb => by have hr := num_used h.theta hb
                  have hc : courseS (txOf l).theta = (l.theta, true) := courseS_exactS hr.1 hr.2
                  simp only [accTheta, if_true, hc]; rfl) (fun hb => by unfold nOpen; rw [num_free h.theta hb])
theorem cut_options {l : Leg} (h : LegOk l) (n : Nat) (full : Prop) (x : PS) (hx : AtS full (optW l) (nOpen l) x ∨ OutS n full x) :
    (∃ m, AtS full [] m x.options ∧ OptOf full l m) ∨ OutS n full x.options := by
  rcases Or.symm hx with hx | hx
  · exact .inr (((hx.may _).may _).may _ |>.may _)
  left
  obtain ⟨hw, hcl, s0, s1, r0, r1⟩ := limits_of h.limits
  unfold PS.options
  unfold optW at hx
  have tw : ∀ s' ∈ opt (winB l) (txOf l).win ++ (opt (l.speed != 0) (115 :: (txOf l).speed) ++ (opt (l.rnp != 0) (txOf l).rnp ++ [])), (s' == [111, 118, 101, 114]) = false := by
    intro s' hs
    rcases mem_opt2 hs with e | hs
    · rw [e, beq_eq_false_iff_ne]; exact win_head l
    rcases mem_opt2 hs with e | hs
    · rw [e, beq_eq_false_iff_ne]; intro hh; injection hh with h1 h2; revert h1; decide
    rcases mem_opt2 hs with e | hs
    · rw [e, beq_eq_false_iff_ne]; intro hh; injection hh with h1 h2; revert h1; decide
    exact absurd hs (fun h => mem_nil2 h)
  have tv : ∀ s' ∈ opt (l.speed != 0) (115 :: (txOf l).speed) ++ (opt (l.rnp != 0) (txOf l).rnp ++ []), winTaken s' = false := by
    intro s' hs
    rcases mem_opt2 hs with e | hs
    · rw [e]; exact win_not (by decide)
    rcases mem_opt2 hs with e | hs
    · rw [e]; exact win_not (by decide)
    exact absurd hs (fun h => mem_nil2 h)
  have ts : ∀ s' ∈ opt (l.rnp != 0) (txOf l).rnp ++ [], (speedS s').2 = false := by
    intro s' hs
    rcases mem_opt2 hs with e | hs
    · rw [e, speed_no]; intro r hr; injection hr with h1 h2; revert h1; decide
    exact absurd hs (fun h => mem_nil2 h)
  have fw : ∀ (k : Leg), winB l = true → accWin (txOf l).win k = ({ k with lo := l.lo, hi := l.hi }, true) := fun k hb => by
    have hn : ¬ (l.lo = -200000 ∧ l.hi = 6000000) := by rintro ⟨h1, h2⟩; unfold winB at hb; rw [h1, h2] at hb; simp at hb
    have ht : winTaken (txOf l).win = true := win_fwd hw hn
    have hp : parseWinS (txOf l).win = ((l.lo, l.hi), 0) := parseWin_winS hw
    unfold accWin
    rw [if_pos ht, hp]
  have fs : ∀ (k : Leg), (l.speed != 0) = true → accSpeed (115 :: (txOf l).speed) k = ({ k with speed := l.speed }, true) := fun k hb => by
    have hn : l.speed ≠ 0 := by simpa using hb
    have hp : speedS (115 :: (txOf l).speed) = (l.speed, true) := speed_fwd (by omega) s1
    unfold accSpeed
    rw [hp]; rfl
  have fr : ∀ (k : Leg), (l.rnp != 0) = true → accRnp (txOf l).rnp k = ({ k with rnp := l.rnp }, true) := fun k hb => by
    have hn : l.rnp ≠ 0 := by simpa using hb
    have hp : legDistS 110 (txOf l).rnp = (l.rnp, true) := legDist_fwd 110 (by omega) (by omega)
    unfold accRnp
    rw [hp]; rfl
  have nw : winB l = false → l.lo = -200000 ∧ l.hi = 6000000 := fun hb => by unfold winB at hb; simpa using hb
  have ns : (l.speed != 0) = false → l.speed = 0 := fun hb => by simpa using hb
  have nr : (l.rnp != 0) = false → l.rnp = 0 := fun hb => by simpa using hb
  -- over
  have y1 : ∃ m, AtS full (opt (winB l) (txOf l).win ++ (opt (l.speed != 0) (115 :: (txOf l).speed) ++ (opt (l.rnp != 0) (txOf l).rnp ++ []))) m (x.may accOver) ∧ (∃ o, m = { nOpen l with over := o } ∧ (o = l.over ∨ (¬ full ∧ o = false))) := by
    rcases hx.may (n := n) (l' := { nOpen l with over := l.over }) (f := accOver) (fun hb => by rw [hb]; rfl)
      (fun hb => ⟨by rw [hb]; rfl, fun s' hs => by unfold accOver; rw [tw s' hs]; rfl⟩) with k | ⟨k0, k⟩
    · exact ⟨_, k, l.over, rfl, .inl rfl⟩
    · exact ⟨_, k, false, rfl, .inr ⟨k0, rfl⟩⟩
  obtain ⟨m1, y1, o, e1, ho⟩ := y1
  have y2 : ∃ m, AtS full (opt (l.speed != 0) (115 :: (txOf l).speed) ++ (opt (l.rnp != 0) (txOf l).rnp ++ [])) m ((x.may accOver).may accWin) ∧ (∃ lo hi, m = { m1 with lo := lo, hi := hi } ∧ ((lo = l.lo ∧ hi = l.hi) ∨ (¬ full ∧ lo = -200000 ∧ hi = 6000000))) := by
    rcases y1.may (n := n) (l' := { m1 with lo := l.lo, hi := l.hi }) (f := accWin) (fun hb => fw m1 hb)
      (fun hb => ⟨by rw [(nw hb).1, (nw hb).2, e1]; rfl, fun s' hs => by unfold accWin; rw [tv s' hs]; rfl⟩) with k | ⟨k0, k⟩
    · exact ⟨_, k, _, _, rfl, .inl ⟨rfl, rfl⟩⟩
    · exact ⟨_, k, -200000, 6000000, by rw [e1]; rfl, .inr ⟨k0, rfl, rfl⟩⟩
  obtain ⟨m2, y2, lo, hi, e2, hwin⟩ := y2
  have y3 : ∃ m, AtS full (opt (l.rnp != 0) (txOf l).rnp ++ []) m (((x.may accOver).may accWin).may accSpeed) ∧ (∃ sp, m = { m2 with speed := sp } ∧ (sp = l.speed ∨ (¬ full ∧ sp = 0))) := by
    rcases y2.may (n := n) (l' := { m2 with speed := l.speed }) (f := accSpeed) (fun hb => fs m2 hb)
      (fun hb => ⟨by rw [ns hb, e2, e1]; rfl, fun s' hs => by unfold accSpeed; rw [ts s' hs]; rfl⟩) with k | ⟨k0, k⟩
    · exact ⟨_, k, _, rfl, .inl rfl⟩
    · exact ⟨_, k, 0, by rw [e2, e1]; rfl, .inr ⟨k0, rfl⟩⟩
  obtain ⟨m3, y3, sp, e3, hsp⟩ := y3
  have y4 : ∃ m, AtS full [] m ((((x.may accOver).may accWin).may accSpeed).may accRnp) ∧ (∃ rn, m = { m3 with rnp := rn } ∧ (rn = l.rnp ∨ (¬ full ∧ rn = 0))) := by
    rcases y3.may (n := n) (l' := { m3 with rnp := l.rnp }) (f := accRnp) (fun hb => fr m3 hb)
      (fun hb => ⟨by rw [nr hb, e3, e2, e1]; rfl, fun s' hs => absurd hs (fun h => mem_nil2 h)⟩) with k | ⟨k0, k⟩
    · exact ⟨_, k, _, rfl, .inl rfl⟩
    · exact ⟨_, k, 0, by rw [e3, e2, e1]; rfl, .inr ⟨k0, rfl⟩⟩
  obtain ⟨m4, y4, rn, e4, hrn⟩ := y4
  refine ⟨m4, y4, ?_⟩
  rw [e4, e3, e2, e1]
  exact ⟨rfl, rfl, rfl, rfl, rfl, rfl, rfl, rfl, ho, hwin, hsp, hrn⟩
theorem cut_last {l : Leg} (h : LegOk l) (T : List UInt8) (k : Nat) (hk : 1 ≤ k) (full : Prop) (hf : full → (legWords l (txOf l)).length ≤ k) (hT : words T = (legWords l (txOf l)).take k) :
    (∃ m, AtS full [] m (PS.last T) ∧ OptOf full l m) ∨ OutS T.length full (PS.last T) := by
  have hb : PS.begin T = ⟨(needW l ++ optW l).take (k - 1), 1 + ((nameOf l.ty).length + 1), 0, { legOpen with ty := l.ty }⟩ := by
    unfold PS.begin PS.need
    rw [hT, legWords_eq]
    obtain ⟨k', rfl⟩ : ∃ k', k = k' + 1 := ⟨k - 1, by omega⟩
    simp only [List.take_succ_cons, Nat.add_sub_cancel]
    rw [if_neg (by simp)]
    have ht : typeK (nameOf l.ty) legOpen.ty 18 = l.ty := type_fwd h.known
    have h1 : 1 ≤ l.ty ∧ l.ty ≤ 17 := by simpa [knownB] using h.known
    have hne : (l.ty != 0) = true := by simp; omega
    simp only [accName, ht, hne, if_true]
  have hl := congrArg List.length (legWords_eq l)
  have h0 : AtS full (needW l ++ optW l) { legOpen with ty := l.ty } (PS.begin T) := by
    rw [hb]
    exact ⟨rfl, rfl, k - 1, rfl, fun hff => by have := hf hff; simp only [List.length_cons] at hl; omega⟩
  unfold PS.last
  have ety : (PS.begin T).l.ty = l.ty := by rw [hb]
  rw [ety]
  exact cut_options h _ full _ (cut_fields h _ full _ (.inl h0))
theorem optOf_check {full : Prop} {l m : Leg} (h : LegOk l) (hm : OptOf full l m) : legCheck m = 0 ∨ (legCheck m = 2 ∧ climbsB l.ty = true ∧ ¬ full) := by
  have e5 : overB m = false := by
    have := h.over
    unfold overB at this ⊢
    rw [hm.ty]
    rcases hm.over with e | ⟨_, e⟩ <;> rw [e]
    · exact this
    · rfl
  have hc : legCheck m = limitsE m := by
    unfold legCheck legC2 legC3 legC4
    rw [e5, hm.ty, hm.fix, hm.center, hm.turn, hm.course, hm.dist, hm.radius, hm.theta, h.known, h.fix, h.center, h.turn, h.course, h.dist, h.radius, h.theta]
    rfl
  obtain ⟨hw, hcl, s0, s1, r0, r1⟩ := limits_of h.limits
  obtain ⟨w1, w2, w3⟩ := hw
  rw [hc]
  have q2 : ¬ (m.speed < 0 ∨ 1000 < m.speed ∨ m.rnp < 0 ∨ 120000 < m.rnp) := by
    rcases hm.speed with e | ⟨_, e⟩ <;> rcases hm.rnp with e' | ⟨_, e'⟩ <;> omega
  unfold limitsE
  rw [hm.ty, if_neg q2]
  rcases hm.win with ⟨e1, e2⟩ | ⟨e0, e1, e2⟩
  · left
    rw [if_neg (by omega), if_neg (by rintro ⟨a, b⟩; exact hcl a (by omega))]
  · rw [if_neg (by omega)]
    by_cases hcb : climbsB l.ty = true
    · right; rw [if_pos ⟨hcb, e1⟩]; exact ⟨rfl, hcb, e0⟩
    · left; rw [if_neg (by rintro ⟨a, b⟩; exact hcb a)]
theorem badAt_nil {x : PS} (h : x.ws = []) : x.badAt = x.bad := by unfold PS.badAt; rw [if_neg (by rintro ⟨a, b⟩; exact a h)]
/-- What the first words of a text read as. -/
theorem parse_cut {l : Leg} (h : LegOk l) (T : List UInt8) (k : Nat) (hk : 1 ≤ k) (full : Prop) (hf : full → (legWords l (txOf l)).length ≤ k) (hT : words T = (legWords l (txOf l)).take k) :
    (∃ m, OptOf full l m ∧ parseS T = (m, 0, 0)) ∨ (¬ full ∧ parseS T = (leg0, (T.length : Int) + 2, 4)) ∨ (¬ full ∧ climbsB l.ty = true ∧ parseS T = (leg0, 0, 2)) := by
  rcases cut_last h T k hk full hf hT with ⟨m, ⟨a1, a2, j, a3, _⟩, hm⟩ | ⟨a0, a1, a2⟩
  · have hws : (PS.last T).ws = [] := by simpa using a3
    unfold parseS PS.done
    rw [badAt_nil hws, a1, a2]
    rcases optOf_check h hm with e | ⟨e, hc, hn⟩
    · left; refine ⟨m, hm, ?_⟩; rw [e]; rfl
    · right; right; refine ⟨hn, hc, ?_⟩; rw [e]; rfl
  · right; left
    refine ⟨a0, ?_⟩
    unfold parseS PS.done
    rw [badAt_nil a2, a1, if_pos (by omega)]
theorem OptOf.eq {l m : Leg} (h : OptOf True l m) : m = l := by
  obtain ⟨h1, h2, h3, h4, h5, h6, h7, h8, h9, h10, h11, h12⟩ := h
  have h9 : m.over = l.over := by rcases h9 with e | ⟨e, _⟩; exact e; exact absurd trivial e
  have h10 : m.lo = l.lo ∧ m.hi = l.hi := by rcases h10 with e | ⟨e, _⟩; exact e; exact absurd trivial e
  have h11 : m.speed = l.speed := by rcases h11 with e | ⟨e, _⟩; exact e; exact absurd trivial e
  have h12 : m.rnp = l.rnp := by rcases h12 with e | ⟨e, _⟩; exact e; exact absurd trivial e
  obtain ⟨h10, h13⟩ := h10
  cases m; cases l
  simp only at *
  subst h1 h2 h3 h4 h5 h6 h7 h8 h9 h10 h11 h12 h13
  rfl
theorem textS_eq {l : Leg} (h : legCheck l = 0) : textS l = Lib.join (legWords l (txOf l)) [32] := by unfold textS legText; rw [h]; rfl
theorem textS_words {l : Leg} (h : legCheck l = 0) : words (textS l) = legWords l (txOf l) := by
  rw [textS_eq h]
  exact words_join _ (by rw [legWords_eq]; simp) (legWords_no (legOk_of h))
/-- The text of a valid leg reads as the leg. -/
theorem parse_textS {l : Leg} (h : legCheck l = 0) : parseS (textS l) = (l, 0, 0) := by
  have hw := textS_words h
  rcases parse_cut (legOk_of h) (textS l) ((legWords l (txOf l)).length) (by rw [legWords_eq]; simp) True (fun _ => Nat.le_refl _) (by rw [hw, List.take_length]) with ⟨m, hm, e⟩ | ⟨e, _⟩ | ⟨e, _⟩
  · rw [e, hm.eq]
  · exact absurd trivial e
  · exact absurd trivial e
end Go.Proofs.YtjijpkimlgbepaaGreatDoor
