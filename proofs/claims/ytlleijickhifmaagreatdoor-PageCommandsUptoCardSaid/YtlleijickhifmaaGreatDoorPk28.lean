/- The reference's texts: distances, windows, and of a leg: the same as the program's. Printed by wip/mkreftx.py. The words of a leg's text and what is read of them, in plain Lean: word by word they are inverse. The reference's readers of words: kind, isRef, speed, ParseDist, distance: the same as the program's. What the reference reads an altitude as, in plain Lean: form, range and number; the same windows as the program's. The reference's altForm: form, number and range of an altitude's text. Printed by wip/mkrp2.py. The reference's windows are the program's, in plain Lean. The reference's ParseWindow: the same windows as the program's. Printed by wip/mkrp3.py. -/
import Derived.Test.YtlleijickhifmaaGreatDoorPk17
import Derived.Test.YtlleijickhifmaaGreatDoorPk05
import Derived.Test.YtlleijickhifmaaGreatDoorPk16
import Derived.Test.YtlleijickhifmaaGreatDoorPk22
import Derived.Test.YtlleijickhifmaaGreatDoorPk23
namespace Go.Proofs.YtlleijickhifmaaGreatDoor
open Go.RowKit Go.Sort
set_option linter.unusedVariables false
set_option linter.unusedSimpArgs false
section
attribute [local go_sem] ba_cat cat_len
end
def ad (b : Bool) (p w : List UInt8) : List UInt8 := if b then p ++ 32 :: w else p
theorem ad_yes {b : Bool} (hb : b = true) (p w : List UInt8) : ad b p w = p ++ 32 :: w := by rw [hb]; rfl
theorem ad_no {b : Bool} (hb : b = false) (p w : List UInt8) : ad b p w = p := by rw [hb]; rfl
theorem ad_len {p w : List UInt8} {n m : Nat} (b : Bool) (hp : p.length ≤ n) (hw : w.length ≤ m) : (ad b p w).length ≤ n + (m + 1) := by
  unfold ad
  split
  · simp only [List.length_append, List.length_cons]; omega
  · omega
theorem ad_turn (b : Bool) (p : List UInt8) (t : Int) (h : b = true → t = 1 ∨ t = 2) : ad b p (if t = 1 then [76] else [82]) = ad (b && (t == 2)) (ad (b && (t == 1)) p [76]) [82] := by
  cases b
  · rfl
  · rcases h rfl with rfl | rfl <;> rfl
theorem join_snoc (ws : List (List UInt8)) (s : List UInt8) (h : ws ≠ []) : Lib.join (ws ++ [s]) [32] = Lib.join ws [32] ++ 32 :: s := by
  match ws, h with
  | [a], _ => rw [List.singleton_append, join_cons2, join_one, join_one]
  | a :: b :: q, _ =>
    have := join_snoc (b :: q) s (by simp)
    rw [List.cons_append, List.cons_append, join_cons2, join_cons2, ← List.cons_append, this]
    simp
theorem join_opt (ws : List (List UInt8)) (s : List UInt8) (b : Bool) (h : ws ≠ []) : Lib.join (ws ++ opt b s) [32] = ad b (Lib.join ws [32]) s := by
  cases b
  · simp [opt, ad]
  · exact join_snoc ws s h
theorem app_ne {ws v : List (List UInt8)} (h : ws ≠ []) : ws ++ v ≠ [] := by intro e; exact h (List.append_eq_nil_iff.1 e).1
attribute [local go_sem] ba_cat cat_len
theorem spaced (p w : List UInt8) : cat p (cat [32] w) = p ++ 32 :: w := rfl
end Go.Proofs.YtlleijickhifmaaGreatDoor
namespace Go.Proofs.YtlleijickhifmaaGreatDoor
open Go.RowKit Go.Sort
set_option linter.unusedVariables false
set_option linter.unusedSimpArgs false
theorem digW_all (k n : Nat) : (digW k n).all isD = true := by
  induction k generalizing n with
  | zero => rfl
  | succ k ih => simp [digW, ih, isD_dg (Nat.mod_lt n (by decide : 0 < 10))]
theorem val_digW (k n : Nat) : val (digW k n) = n % 10 ^ k := by
  induction k generalizing n with
  | zero => simp [digW, val, numV, Nat.mod_one]
  | succ k ih =>
    rw [digW, val_snoc, ih, dg_toNat (Nat.mod_lt n (by decide)), Nat.pow_succ, Nat.mul_comm (10 ^ k) 10, Nat.mod_mul]
    omega
theorem digW_val (l : List UInt8) : l.all isD = true → digW l.length (val l) = l := by
  refine snoc_ind (P := fun l => l.all isD = true → digW l.length (val l) = l) (fun _ => rfl) (fun l c ih h => ?_) l
  simp only [List.all_append, Bool.and_eq_true, List.all_cons, List.all_nil, Bool.and_true] at h
  have hc : 48 ≤ c.toNat ∧ c.toNat ≤ 57 := by simpa [isD] using h.2
  have e1 : (10 * val l + (c.toNat - 48)) / 10 = val l := by omega
  have e2 : (10 * val l + (c.toNat - 48)) % 10 = c.toNat - 48 := by omega
  rw [List.length_append, List.length_singleton, digW, val_snoc, e1, e2, ih h.1, dg_of h.2]
theorem exactS_all (a : Nat) : (exactS a).all isD = true := by simp [exactS, digW_all]
theorem angP_exactS (a : Nat) (h : a < 129600000) : angP (exactS a) = ((a : Int), true) := by
  have l3 := digW_len 3 (a / 360000)
  have l2 := digW_len 2 (a % 360000 / 6000)
  have l1 := digW_len 2 (a % 6000 / 100)
  have l0 := digW_len 2 (a % 100)
  have v3 := val_digW 3 (a / 360000)
  have v2 := val_digW 2 (a % 360000 / 6000)
  have v1 := val_digW 2 (a % 6000 / 100)
  have v0 := val_digW 2 (a % 100)
  have e0 := exactS_all a
  have e9 := exactS_len a
  unfold exactS at e0 e9
  unfold angP exactS
  generalize digW 3 (a / 360000) = A at *
  generalize digW 2 (a % 360000 / 6000) = B at *
  generalize digW 2 (a % 6000 / 100) = C at *
  generalize digW 2 (a % 100) = D at *
  have t3 : (A ++ B ++ C ++ D).take 3 = A := by rw [List.append_assoc, List.append_assoc, List.take_append_of_le_length (by omega), List.take_of_length_le (by omega)]
  have d3 : (A ++ B ++ C ++ D).drop 3 = B ++ C ++ D := by rw [List.append_assoc, List.append_assoc, ← l3, List.drop_left, List.append_assoc]
  have t2 : (B ++ C ++ D).take 2 = B := by rw [List.append_assoc, List.take_append_of_le_length (by omega), List.take_of_length_le (by omega)]
  have d5 : (A ++ B ++ C ++ D).drop 5 = C ++ D := by rw [show A ++ B ++ C ++ D = (A ++ B) ++ (C ++ D) by simp, show 5 = (A ++ B).length by simp; omega, List.drop_left]
  have t5 : (C ++ D).take 2 = C := by rw [List.take_append_of_le_length (by omega), List.take_of_length_le (by omega)]
  have d7 : (A ++ B ++ C ++ D).drop 7 = D := by rw [show 7 = (A ++ B ++ C).length by simp; omega, List.drop_left]
  rw [t3, d3, t2, d5, t5, d7, if_pos ⟨e9, e0, by omega, by omega⟩, v3, v2, v1, v0]
  refine Prod.ext ?_ rfl
  show _ = (a : Int)
  omega
theorem courseS_exactS {a : Int} (h0 : 0 ≤ a) (h : a ≤ 129599999) : courseS (exactS a.toNat) = (a, true) := by
  unfold courseS parseExS
  rw [if_pos (exactS_len _), angP_exactS _ (by omega)]
  simp only [if_true]
  rw [if_pos (by omega)]
  refine Prod.ext ?_ rfl
  show ((a.toNat : Nat) : Int) = a
  omega
theorem courseS_back {s : List UInt8} (h : (courseS s).2 = true) : 0 ≤ (courseS s).1 ∧ (courseS s).1 ≤ 129599999 ∧ exactS (courseS s).1.toNat = s := by
  unfold courseS at h ⊢
  by_cases h9 : s.length = 9
  · rw [if_pos h9] at h ⊢
    unfold parseExS at h ⊢
    by_cases ha : (angP s).2 = true
    · rw [if_pos ha] at h ⊢
      by_cases hb : (angP s).1 < 129600000
      · rw [if_pos hb] at h ⊢
        simp only
        unfold angP at ha hb ⊢
        by_cases hq : s.length = 9 ∧ s.all isD = true ∧ val ((s.drop 3).take 2) < 60 ∧ val ((s.drop 5).take 2) < 60
        · rw [if_pos hq] at hb ⊢
          simp only at hb ⊢
          obtain ⟨_, hd, q1, q2⟩ := hq
          have w3 : (s.take 3).all isD = true := List.all_eq_true.2 fun x hx => (List.all_eq_true.1 hd) x (List.mem_of_mem_take hx)
          have w2 : ((s.drop 3).take 2).all isD = true := List.all_eq_true.2 fun x hx => (List.all_eq_true.1 hd) x (List.mem_of_mem_drop (List.mem_of_mem_take hx))
          have w1 : ((s.drop 5).take 2).all isD = true := List.all_eq_true.2 fun x hx => (List.all_eq_true.1 hd) x (List.mem_of_mem_drop (List.mem_of_mem_take hx))
          have w0 : (s.drop 7).all isD = true := List.all_eq_true.2 fun x hx => (List.all_eq_true.1 hd) x (List.mem_of_mem_drop hx)
          have d3 := digW_val _ w3
          have d2 := digW_val _ w2
          have d1 := digW_val _ w1
          have d0 := digW_val _ w0
          have b3 := val_lt _ w3
          have b2 := val_lt _ w2
          have b1 := val_lt _ w1
          have b0 := val_lt _ w0
          have n3 : (s.take 3).length = 3 := by simp; omega
          have n2 : ((s.drop 3).take 2).length = 2 := by simp; omega
          have n1 : ((s.drop 5).take 2).length = 2 := by simp; omega
          have n0 : (s.drop 7).length = 2 := by simp; omega
          rw [n3] at d3 b3
          rw [n2] at d2 b2
          rw [n1] at d1 b1
          rw [n0] at d0 b0
          have hs : s = s.take 3 ++ (s.drop 3).take 2 ++ (s.drop 5).take 2 ++ s.drop 7 := by
            have e1 : s = s.take 3 ++ s.drop 3 := (List.take_append_drop 3 s).symm
            have e2 : s.drop 3 = (s.drop 3).take 2 ++ s.drop 5 := by have := (List.take_append_drop 2 (s.drop 3)).symm; rwa [List.drop_drop] at this
            have e3 : s.drop 5 = (s.drop 5).take 2 ++ s.drop 7 := by have := (List.take_append_drop 2 (s.drop 5)).symm; rwa [List.drop_drop] at this
            rw [List.append_assoc, List.append_assoc, ← e3, ← e2, ← e1]
          generalize s.take 3 = A at *
          generalize (s.drop 3).take 2 = B at *
          generalize (s.drop 5).take 2 = C at *
          generalize s.drop 7 = D at *
          refine ⟨by omega, by omega, ?_⟩
          have en : ((val A : Int) * 360000 + (val B : Int) * 6000 + (val C : Int) * 100 + (val D : Int)).toNat = val A * 360000 + val B * 6000 + val C * 100 + val D := by omega
          rw [en]
          unfold exactS
          rw [show (val A * 360000 + val B * 6000 + val C * 100 + val D) / 360000 = val A by omega, show (val A * 360000 + val B * 6000 + val C * 100 + val D) % 360000 / 6000 = val B by omega,
            show (val A * 360000 + val B * 6000 + val C * 100 + val D) % 6000 / 100 = val C by omega, show (val A * 360000 + val B * 6000 + val C * 100 + val D) % 100 = val D by omega, d3, d2, d1, d0, ← hs]
        · rw [if_neg hq] at ha; simp at ha
      · rw [if_neg hb] at h; simp at h
    · rw [if_neg ha] at h; simp at h
  · rw [if_neg h9] at h; simp at h
theorem legDist_fwd (c : UInt8) {d : Int} (h0 : 1 ≤ d) (h : d ≤ 8000000) : legDistS c (c :: distS d.toNat) = (d, true) := by
  have e := distP_distS (d := d.toNat) (by omega)
  have e1 : ((d.toNat : Nat) : Int) = d := by omega
  rw [e1] at e
  unfold legDistS
  simp only
  rw [e, if_pos ⟨trivial, rfl, by simp only; omega⟩]
  simp
theorem legDist_back {c : UInt8} {s : List UInt8} (h : (legDistS c s).2 = true) : 1 ≤ (legDistS c s).1 ∧ s = c :: distS (legDistS c s).1.toNat := by
  cases s with
  | nil => simp [legDistS] at h
  | cons x r =>
    unfold legDistS at h ⊢
    simp only at h ⊢
    by_cases hq : x = c ∧ (distP r).2 = 0 ∧ (distP r).1 ≠ 0
    · rw [if_pos hq] at h ⊢
      obtain ⟨rfl, h1, h2⟩ := hq
      have hb := distS_distP h1
      refine ⟨by simp only; omega, ?_⟩
      have : distS (distP r).1.toNat = r := by simpa using h
      rw [this]
    · rw [if_neg hq] at h; simp at h
theorem dec_head1 {u : Nat} (h : 0 < u) : ∃ c r, Lib.decDigits u = c :: r ∧ (c != 48) = true := by
  obtain ⟨c, r, h1, h2⟩ := dec_head u h
  exact ⟨c, r, h1, by simpa using h2⟩
theorem speed_fwd {n : Int} (h0 : 1 ≤ n) (h : n ≤ 1000) : speedS (115 :: Lib.decDigits n.toNat) = (n, true) := by
  obtain ⟨c, r, e, hc⟩ := dec_head1 (u := n.toNat) (by omega)
  have hl : (Lib.decDigits n.toNat).length ≤ 4 := dec_len (by decide) (by omega)
  have ha := dec_all n.toNat
  have hv := val_dec n.toNat
  rw [e] at hl ha hv ⊢
  unfold speedS speedB
  rw [if_pos (by simp only [ha, hc, Bool.and_true, Bool.true_and, beq_self_eq_true, decide_eq_true_eq]; simp at hl; omega)]
  refine Prod.ext ?_ rfl
  show ((val (c :: r) : Nat) : Int) = n
  omega
theorem speed_back {s : List UInt8} (h : (speedS s).2 = true) : 1 ≤ (speedS s).1 ∧ s = 115 :: Lib.decDigits (speedS s).1.toNat := by
  unfold speedS at h ⊢
  by_cases hb : speedB s = true
  · rw [if_pos hb] at h ⊢
    unfold speedB at hb
    split at hb
    · rename_i x y r
      simp only [Bool.and_eq_true, beq_iff_eq, bne_iff_ne, decide_eq_true_eq, ne_eq] at hb
      obtain ⟨⟨⟨rfl, hy⟩, hr⟩, ha⟩ := hb
      have hd : isD y = true := by simp at ha; exact ha.1
      have hp : plainB (y :: r) = true := by
        have := ha
        unfold plainB
        cases r with
        | nil => simpa using ha
        | cons z t => simp [ha, hy] at ha ⊢
      have hv := val_pos y r hd hy
      have he := dec_val _ hp
      simp only [List.tail_cons]
      refine ⟨by omega, ?_⟩
      rw [show ((val (y :: r) : Nat) : Int).toNat = val (y :: r) by omega, he]
    · cases hb
  · rw [if_neg hb] at h; simp at h
theorem speed_no {s : List UInt8} (h : ∀ r, s ≠ 115 :: r) : speedS s = (0, false) := by
  unfold speedS
  rw [if_neg]
  intro hb
  unfold speedB at hb
  split at hb
  · rename_i x y r
    simp only [Bool.and_eq_true, beq_iff_eq] at hb
    exact h (y :: r) (by rw [hb.1.1.1])
  · cases hb
theorem typeK_fwd : ∀ k : Fin 17, typeK (nameOf ((k.val + 1 : Nat) : Int)) 0 18 = ((k.val + 1 : Nat) : Int) := by decide +kernel
theorem type_fwd {t : Int} (h : knownB t = true) : typeK (nameOf t) 0 18 = t := by
  have h1 : 1 ≤ t ∧ t ≤ 17 := by simpa [knownB] using h
  have h2 := typeK_fwd ⟨t.toNat - 1, by omega⟩
  have e : ((t.toNat - 1 + 1 : Nat) : Int) = t := by omega
  simp only [e] at h2
  exact h2
theorem typeK_back (s : List UInt8) : ∀ k : Nat, k ≤ 18 → typeK s 0 k ≠ 0 → knownB (typeK s 0 k) = true ∧ nameOf (typeK s 0 k) = s
  | 0, _, h => absurd rfl h
  | k + 1, hk, h => by
    unfold typeK at h ⊢
    by_cases hc : 0 < k ∧ namesTab.getD k [] = s
    · rw [if_pos hc] at h ⊢
      refine ⟨by simp [knownB]; omega, ?_⟩
      unfold nameOf
      rw [show ((k : Nat) : Int).toNat = k by omega]
      exact hc.2
    · rw [if_neg hc] at h ⊢
      exact typeK_back s k (by omega) h
theorem refB_iff {s : List UInt8} : refB s = true ↔ checkRefI s true = 0 := by
  unfold refB checkRefI
  simp only [if_true, beq_iff_eq]
  constructor
  · intro h; rw [if_pos h]
  · intro h
    by_cases h2 : (splitRef s).2.2 = 0
    · exact h2
    · rw [if_neg h2] at h; cases h
theorem alnum_no {l : List UInt8} (h : l.all alnum = true) : (32 : UInt8) ∉ l := fun hm => by
  have := (List.all_eq_true.1 h) 32 hm
  exact absurd this (by decide)
theorem nameB_all {l : List UInt8} {m : Int} (h : nameB l m = true) : l.all alnum = true := by
  unfold nameB at h
  split at h
  · cases h
  · simp only [Bool.and_eq_true] at h; exact h.2
theorem ref_no {s : List UInt8} (h : refB s = true) : (32 : UInt8) ∉ s := by
  have h0 : (splitRef s).2.2 = 0 := by simpa [refB] using h
  unfold splitRef splitRef3 at h0
  by_cases hq : (cutAt 47 s).2.2 = true
  · rw [if_pos hq] at h0
    by_cases hn : (nameB (cutAt 47 s).1 6 && (nameB (cutAt 47 s).2.1 6 || shortB (cutAt 47 s).2.1)) = true
    · have hp := cutAt_parts 47 s hq
      simp only [Bool.and_eq_true, Bool.or_eq_true] at hn
      have a1 := alnum_no (nameB_all hn.1)
      have a2 : (32 : UInt8) ∉ (cutAt 47 s).2.1 := by
        rcases hn.2 with h2 | h2
        · exact alnum_no (nameB_all h2)
        · unfold shortB at h2; simp only [Bool.and_eq_true] at h2; exact alnum_no h2.2
      rw [hp]
      simp only [List.mem_append, List.mem_cons, not_or]
      exact ⟨a1, by decide, a2⟩
    · rw [if_neg hn] at h0; cases h0
  · rw [if_neg hq] at h0; cases h0
theorem dig_no {l : List UInt8} (h : l.all isD = true) : (32 : UInt8) ∉ l := fun hm => by
  have := (List.all_eq_true.1 h) 32 hm
  exact absurd this (by decide)
theorem dist_no (d : Nat) : (32 : UInt8) ∉ distS d := by
  unfold distS
  have h1 := dig_no (dec_all (d / 6000))
  have h2 := dig_no (dec_all (d % 6000))
  split
  · simpa using h1
  · simp only [List.mem_append, List.mem_cons, not_or]
    exact ⟨h1, by decide, h2⟩
theorem alt_no (a : Int) : (32 : UInt8) ∉ altS a := altS_not (by decide) a
theorem win_no (lo hi : Int) : (32 : UInt8) ∉ winS lo hi := by
  unfold winS
  have h1 := alt_no lo
  have h2 := alt_no hi
  repeat' split
  · decide
  · exact h1
  · simp only [List.mem_append, List.mem_cons, not_or, List.not_mem_nil, not_false_eq_true, and_true]; exact ⟨h1, by decide⟩
  · simp only [List.mem_append, List.mem_cons, not_or, List.not_mem_nil, not_false_eq_true, and_true]; exact ⟨h2, by decide⟩
  · simp only [List.mem_append, List.mem_cons, not_or]; exact ⟨h1, by decide, h2⟩
theorem altS_first (a : Int) : ∃ c r, altS a = c :: r ∧ altC c = true := by
  have h := altS_all a
  match h2 : altS a with
  | [] => exact absurd h2 (altS_ne a)
  | c :: r => rw [h2] at h; simp at h; exact ⟨c, r, rfl, h.1⟩
/-- A window's text begins with a digit or a sign. -/
theorem winS_first (lo hi : Int) : ∃ c r, winS lo hi = c :: r ∧ altC c = true := by
  obtain ⟨c, r, e, hc⟩ := altS_first lo
  obtain ⟨c', r', e', hc'⟩ := altS_first hi
  unfold winS
  repeat' split
  · exact ⟨45, [], rfl, by decide⟩
  · exact ⟨c, r, e, hc⟩
  · exact ⟨c, r ++ [43], by rw [e]; rfl, hc⟩
  · exact ⟨c', r' ++ [45], by rw [e']; rfl, hc'⟩
  · exact ⟨c, r ++ 58 :: altS hi, by rw [e]; rfl, hc⟩
theorem win_fwd {lo hi : Int} (h : winOk lo hi) (hn : ¬ (lo = -200000 ∧ hi = 6000000)) : winTaken (winS lo hi) = true := by
  unfold winTaken
  rw [parseWin_winS h]
  simp only [beq_self_eq_true, Bool.true_and, Bool.not_eq_true', Bool.and_eq_false_iff, beq_eq_false_iff_ne]
  rcases Int.decEq lo (-200000) with h1 | h1
  · exact .inl h1
  · exact .inr fun h2 => hn ⟨h1, h2⟩
theorem win_back {s : List UInt8} (h : winTaken s = true) : winOk (parseWinS s).1.1 (parseWinS s).1.2 ∧ winS (parseWinS s).1.1 (parseWinS s).1.2 = s ∧ ¬ ((parseWinS s).1.1 = -200000 ∧ (parseWinS s).1.2 = 6000000) := by
  unfold winTaken at h
  simp only [Bool.and_eq_true, beq_iff_eq, Bool.not_eq_true', Bool.and_eq_false_iff, beq_eq_false_iff_ne] at h
  have h1 := parseWin_ok h.1
  refine ⟨h1.1, h1.2, ?_⟩
  rintro ⟨h2, h3⟩
  rcases h.2 with h4 | h4
  · exact h4 h2
  · exact h4 h3
theorem win_not {c : UInt8} {r : List UInt8} (h : altC c = false) : winTaken (c :: r) = false := by
  cases hw : winTaken (c :: r)
  · rfl
  · obtain ⟨_, h2, _⟩ := win_back hw
    obtain ⟨c', r', e, hc⟩ := winS_first (parseWinS (c :: r)).1.1 (parseWinS (c :: r)).1.2
    rw [e] at h2
    injection h2 with h3 h4
    rw [h3, h] at hc; cases hc
end Go.Proofs.YtlleijickhifmaaGreatDoor
namespace Go.Proofs.YtlleijickhifmaaGreatDoor
open Go.RowKit Go.Sort
set_option linter.unusedVariables false
set_option linter.unusedSimpArgs false
set_option maxRecDepth 100000
def kindS (s : List UInt8) : Int := typeK s 0 18
theorem RetQ.num {w w' : World} {n : Int} {b : Bool} {x : Int × Bool} (h : x = (n, b)) (hw : ∃ k, w' = w.drewN k) : RetQ w (numVal x) (.returned (.tuple #[.int .i64 n, .bool b])) w' := ⟨by rw [h], hw⟩
theorem kind_at {s : List UInt8} {k : Nat} (h1 : 1 ≤ k) (h2 : k ≤ 17) (h : nameOf (k : Int) = s) : kindS s = k := by
  unfold kindS
  rw [← h]
  exact type_fwd (by simp [knownB]; omega)
theorem kind_no {s : List UInt8} (h : ∀ j : Nat, 1 ≤ j → j < 18 → nameOf (j : Int) ≠ s) : kindS s = 0 := by
  unfold kindS
  rcases Int.decEq (typeK s 0 18) 0 with h2 | h2
  · obtain ⟨k1, k2⟩ := typeK_back s 18 (by omega) h2
    have k3 : 1 ≤ typeK s 0 18 ∧ typeK s 0 18 ≤ 17 := by simpa [knownB] using k1
    have := h (typeK s 0 18).toNat (by omega) (by omega)
    rw [show (((typeK s 0 18).toNat : Nat) : Int) = typeK s 0 18 by omega] at this
    exact absurd k2 this
  · exact h2
theorem distP_err {s : List UInt8} (h : (distP s).2 ≠ 0) : (distP s).1 = 0 := by
  unfold distP distP3 at h ⊢
  revert h
  repeat' split
  all_goals simp
end Go.Proofs.YtlleijickhifmaaGreatDoor
namespace Go.Proofs.YtlleijickhifmaaGreatDoor
open Go.RowKit Go.Sort
set_option linter.unusedVariables false
set_option linter.unusedSimpArgs false
def pointP (t : List UInt8) : Bool := decide (3 < t.length) && (t[t.length - 3]? == some 46)
def whS (t : List UInt8) : List UInt8 := if pointP t then t.take (t.length - 3) else t
def ptS (t : List UInt8) : List UInt8 := if pointP t then t.drop (t.length - 2) else [48, 48]
def badP (t : List UInt8) : Bool := pointP t && !hundB (ptS t)
def raltN (neg : Bool) (n : Int) : Int × Bool × Bool := (if neg then -n else n, true, decide (-200000 ≤ (if neg then -n else n)) && decide ((if neg then -n else n) ≤ 6000000))
def raltT (neg : Bool) (t : List UInt8) : Int × Bool × Bool :=
  if badP t then (0, false, false)
  else if !plainB (whS t) || (neg && (whS t == [48] && ptS t == [48, 48])) then (0, false, false)
  else if 1125899906842624 < val (whS t) then (0, true, false)
  else raltN neg (100 * (val (whS t) : Int) + (val (ptS t) : Int))
def raltP (s : List UInt8) : Int × Bool × Bool := raltT (cutPre 45 s).2 (cutPre 45 s).1
theorem hund_two {p : List UInt8} (h : hundB p = true) : ∃ a b, p = [a, b] ∧ isD a = true ∧ isD b = true ∧ ¬ (a = 48 ∧ b = 48) := by
  unfold hundB at h
  split at h
  · rename_i a b
    simp only [Bool.and_eq_true, Bool.not_eq_true', Bool.and_eq_false_iff, beq_eq_false_iff_ne] at h
    refine ⟨a, b, rfl, h.1.1, h.1.2, ?_⟩
    rintro ⟨h1, h2⟩
    rcases h.2 with h3 | h3
    · exact h3 h1
    · exact h3 h2
  · cases h
theorem no_point {l : List UInt8} (h : l.all isD = true) : (46 : UInt8) ∉ l := fun hm => by
  have := (List.all_eq_true.1 h) 46 hm
  exact absurd this (by decide)
/-- A text with a point ahead of its last two bytes, and no point ahead of that: so it is cut. -/
theorem point_cut {t : List UInt8} (hp : pointP t = true) (hw : (46 : UInt8) ∉ whS t) : cutAt 46 t = (whS t, ptS t, true) := by
  unfold pointP at hp
  simp only [Bool.and_eq_true, decide_eq_true_eq, beq_iff_eq] at hp
  have hpt : pointP t = true := by unfold pointP; simp [hp.1, hp.2]
  unfold whS ptS at *
  rw [if_pos hpt] at hw ⊢
  rw [if_pos hpt]
  have hlt : t.length - 3 < t.length := by omega
  have hk : t[t.length - 3] = 46 := by
    have := hp.2
    rw [List.getElem?_eq_getElem hlt] at this
    simpa using this
  have := cutAt_at 46 t (t.length - 3) hlt (by
    rw [List.all_eq_true]; intro x hx
    simp only [bne_iff_ne, ne_eq]
    rintro rfl; exact hw hx) hk
  rw [this, show t.length - 3 + 1 = t.length - 2 by omega]
theorem cut_point {t f p : List UInt8} (h : cutAt 46 t = (f, p, true)) (hp : p.length = 2) (hf : f ≠ []) : pointP t = true ∧ whS t = f ∧ ptS t = p := by
  have h1 : t = f ++ 46 :: p := by have := cutAt_parts 46 t (by rw [h]); rw [h] at this; exact this
  have hl : 0 < f.length := List.length_pos_iff.2 hf
  have e3 : t.length = f.length + 3 := by rw [h1]; simp; omega
  have hpt : pointP t = true := by
    unfold pointP
    rw [e3]
    simp only [Nat.add_sub_cancel, Bool.and_eq_true, decide_eq_true_eq, beq_iff_eq]
    refine ⟨by omega, ?_⟩
    rw [h1, List.getElem?_append_right (Nat.le_refl _), Nat.sub_self]; rfl
  refine ⟨hpt, ?_, ?_⟩
  · unfold whS
    rw [if_pos hpt, e3, Nat.add_sub_cancel, h1, List.take_left]
  · unfold ptS
    rw [if_pos hpt, e3, show f.length + 3 - 2 = f.length + 1 by omega, h1, show f.length + 1 = (f ++ [46]).length by simp, show f ++ 46 :: p = (f ++ [46]) ++ p by simp, List.drop_left]
theorem plain_val_big {f : List UInt8} (hp : plainB f = true) (h : 10 ≤ f.length) : 1000000000 ≤ val f := by
  rcases Nat.lt_or_ge (val f) 1000000000 with h1 | h1
  · have h2 := dec_len (u := val f) (k := 9) (by decide) h1
    rw [dec_val f hp] at h2
    omega
  · exact h1
theorem plain_zero {f : List UInt8} (hp : plainB f = true) (h : val f = 0) : f = [48] := by
  have := dec_val f hp
  rw [h] at this
  rw [← this, dec_small (by decide)]; rfl
theorem val_twoP {a b : UInt8} (ha : isD a = true) (hb : isD b = true) : val [a, b] ≤ 99 ∧ (¬ (a = 48 ∧ b = 48) → 0 < val [a, b]) := by
  have h1 : 48 ≤ a.toNat ∧ a.toNat ≤ 57 := by simpa [isD] using ha
  have h2 : 48 ≤ b.toNat ∧ b.toNat ≤ 57 := by simpa [isD] using hb
  have e : val [a, b] = 10 * (a.toNat - 48) + (b.toNat - 48) := by simp [val, numV_cons, numV_nil]
  refine ⟨by omega, fun hn => ?_⟩
  rcases Nat.eq_zero_or_pos (val [a, b]) with h0 | h0
  · exfalso
    apply hn
    constructor
    · apply UInt8.toNat_inj.1; show a.toNat = 48; omega
    · apply UInt8.toNat_inj.1; show b.toNat = 48; omega
  · exact h0
/-- Form and range are those of the program's reading; so is the number. -/
theorem ralt_altP (s : List UInt8) : ((raltP s).2.1 && (raltP s).2.2) = ((altP s).2 && rangedB (altP s).1) ∧ (((altP s).2 && rangedB (altP s).1) = true → (raltP s).1 = (altP s).1) := by
  unfold raltP altP
  generalize (cutPre 45 s).2 = neg
  generalize (cutPre 45 s).1 = t
  obtain ⟨f, p, b, hc⟩ : ∃ f p b, cutAt 46 t = (f, p, b) := ⟨_, _, _, rfl⟩
  rw [hc]
  simp only
  have hcases : (pointP t = true ∧ (46 : UInt8) ∉ whS t ∧ f = whS t ∧ p = ptS t ∧ b = true) ∨ (pointP t = true ∧ (46 : UInt8) ∈ whS t) ∨ (pointP t = false ∧ b = false ∧ f = t) ∨ (pointP t = false ∧ b = true) := by
    cases hp : pointP t
    · cases b
      · right; right; left
        have := cutAt_miss 46 t (by rw [hc])
        rw [hc] at this
        exact ⟨rfl, rfl, this.1⟩
      · right; right; right; exact ⟨rfl, rfl⟩
    · by_cases hm : (46 : UInt8) ∈ whS t
      · right; left; exact ⟨rfl, hm⟩
      · left
        have := point_cut hp hm
        rw [hc] at this
        injection this with a1 a2
        injection a2 with a2 a3
        exact ⟨rfl, hm, a1, a2, a3⟩
  have fail1 : ∀ {x : Int × Bool × Bool}, x = (0, false, false) → (x.2.1 && x.2.2) = false := by rintro x rfl; rfl
  rcases hcases with ⟨hp, hm, rfl, rfl, rfl⟩ | ⟨hp, hm⟩ | ⟨hp, rfl, rfl⟩ | ⟨hp, rfl⟩
  · -- a point, and plain ahead of it or not
    unfold raltT altP3 badP
    rw [hp]
    cases hh : hundB (ptS t)
    · simp
    · obtain ⟨a, c, e, ha, hcc, hn⟩ := hund_two hh
      have hv := val_twoP ha hcc
      rw [← e] at hv
      have hv2 := hv.2 hn
      have hne : (ptS t == [48, 48]) = false := by rw [e, beq_eq_false_iff_ne]; intro h; injection h with h1 h2; injection h2 with h2 _; exact hn ⟨h1, h2⟩
      cases hpl : plainB (whS t)
      · simp
      · simp only [Bool.not_true, Bool.and_false, Bool.false_or, hne, if_true, Bool.false_eq_true, if_false, and_true, or_true, true_and]
        unfold feetV raltN rangedB
        by_cases h10 : (whS t).length < 10
        · have hb := val_lt _ (plainB_all hpl)
          have h2 : 10 ^ (whS t).length ≤ 10 ^ 9 := Nat.pow_le_pow_right (by decide) (by omega)
          rw [if_pos h10, if_neg (by omega)]
          cases neg
          · simp only [Bool.false_eq_true, if_false, Bool.true_and]
            exact ⟨by congr 2 <;> congr 1 <;> omega, fun _ => by omega⟩
          · simp only [if_true, Bool.true_and]
            have hne : decide ((val (whS t) : Int) * 100 + (val (ptS t) : Int) ≠ 0) = true := by simp; omega
            rw [hne, Bool.true_and]
            exact ⟨by congr 2 <;> congr 1 <;> omega, fun _ => by omega⟩
        · have hb := plain_val_big hpl (by omega)
          rw [if_neg h10]
          cases neg
          · simp only [Bool.false_eq_true, if_false, Bool.true_and]
            split
            · refine ⟨?_, fun h => ?_⟩
              · simp; omega
              · simp at h; omega
            · refine ⟨?_, fun h => ?_⟩
              · rw [Bool.eq_iff_iff]; simp; omega
              · simp at h; omega
          · simp only [if_true, Bool.true_and]
            split
            · refine ⟨?_, fun h => ?_⟩
              · rw [Bool.eq_iff_iff]; simp; omega
              · simp at h; omega
            · refine ⟨?_, fun h => ?_⟩
              · rw [Bool.eq_iff_iff]; simp; omega
              · simp at h; omega
  · -- a point in what stands ahead of the point
    have hnp : plainB (whS t) = false := by
      cases h : plainB (whS t)
      · rfl
      · exact absurd hm (no_point (plainB_all h))
    have h1 : raltT neg t = (0, false, false) := by
      unfold raltT
      rw [hnp]
      split
      · rfl
      · simp
    have h2 : (altP3 neg f p b).2 = false := by
      unfold altP3
      rw [if_neg]
      rintro ⟨hf, hb⟩
      cases b
      · have := cutAt_miss 46 t (by rw [hc])
        rw [hc] at this
        have hft : f = t := this.1
        rw [hft] at hf
        apply no_point (plainB_all hf)
        unfold whS at hm
        rw [if_pos hp] at hm
        exact List.mem_of_mem_take hm
      · rcases hb with hb | hb
        · cases hb
        · obtain ⟨a, c, e, _, _, _⟩ := hund_two hb
          have := cut_point hc (by rw [e]; rfl) (plainB_ne hf)
          rw [this.2.1] at hm
          exact no_point (plainB_all hf) hm
    rw [h1, h2]
    exact ⟨rfl, fun h => by cases h⟩
  · -- no point at all
    have hw : whS f = f := by unfold whS; rw [hp]; rfl
    have hpt : ptS f = [48, 48] := by unfold ptS; rw [hp]; rfl
    have hbp : badP f = false := by unfold badP; rw [hp]; rfl
    unfold raltT altP3
    rw [hw, hpt, hbp]
    have hv0 : val [48, 48] = 0 := by decide
    rw [hv0]
    cases hpl : plainB f
    · simp
    · simp only [Bool.not_true, Bool.false_eq_true, if_false, Bool.false_or, if_true, and_self, true_or, true_and, Int.add_zero, beq_self_eq_true, Bool.and_true, Int.natCast_zero]
      cases hz : (neg && f == [48])
      · simp only [Bool.false_eq_true, if_false]
        unfold feetV raltN rangedB
        have hnz : neg = true → val f ≠ 0 := fun hn h => by
          rw [hn, plain_zero hpl h] at hz; simp at hz
        by_cases h10 : f.length < 10
        · have hb := val_lt _ (plainB_all hpl)
          have h2 : 10 ^ f.length ≤ 10 ^ 9 := Nat.pow_le_pow_right (by decide) (by omega)
          rw [if_pos h10, if_neg (by omega)]
          cases neg
          · simp only [Bool.false_eq_true, if_false, Bool.true_and]
            exact ⟨by congr 2 <;> congr 1 <;> omega, fun _ => by omega⟩
          · simp only [if_true, Bool.true_and]
            have hnz := hnz rfl
            have hne : decide ((val f : Int) * 100 ≠ 0) = true := by simp; omega
            rw [hne, Bool.true_and]
            exact ⟨by congr 2 <;> congr 1 <;> omega, fun _ => by omega⟩
        · have hb := plain_val_big hpl (by omega)
          rw [if_neg h10]
          cases neg
          · simp only [Bool.false_eq_true, if_false, Bool.true_and]
            split
            · refine ⟨?_, fun h => ?_⟩
              · rw [Bool.eq_iff_iff]; simp
              · simp at h
            · refine ⟨?_, fun h => ?_⟩
              · rw [Bool.eq_iff_iff]; simp; omega
              · simp at h
          · simp only [if_true, Bool.true_and]
            split
            · refine ⟨?_, fun h => ?_⟩
              · rw [Bool.eq_iff_iff]; simp
              · simp at h
            · refine ⟨?_, fun h => ?_⟩
              · rw [Bool.eq_iff_iff]; simp; omega
              · simp at h
      · simp only [if_true]
        simp only [Bool.and_eq_true, beq_iff_eq] at hz
        obtain ⟨rfl, rfl⟩ := hz
        decide
  · -- a point, but not ahead of two bytes
    have hb2 : (altP3 neg f p true).2 = false := by
      unfold altP3
      rw [if_neg]
      rintro ⟨hf, hb⟩
      rcases hb with hb | hb
      · cases hb
      · obtain ⟨a, c, e, _, _, _⟩ := hund_two hb
        have := cut_point hc (by rw [e]; rfl) (plainB_ne hf)
        rw [this.1] at hp; cases hp
    have h1 : raltT neg t = (0, false, false) := by
      have hm : (46 : UInt8) ∈ t := by
        have := cutAt_parts 46 t (by rw [hc])
        rw [this]; simp
      have hnp : plainB t = false := by
        cases h : plainB t
        · rfl
        · exact absurd hm (no_point (plainB_all h))
      unfold raltT badP whS
      rw [hp]
      simp [hnp]
    rw [h1, hb2]
    exact ⟨rfl, fun h => by cases h⟩
end Go.Proofs.YtlleijickhifmaaGreatDoor
namespace Go.Proofs.YtlleijickhifmaaGreatDoor
open Go.RowKit Go.Sort
set_option linter.unusedVariables false
set_option linter.unusedSimpArgs false
set_option maxRecDepth 100000
abbrev ralVal (x : Int × Bool × Bool) : Value := .tuple #[.int .i64 x.1, .bool x.2.1, .bool x.2.2]
theorem RetQ.ral {w w' : World} {n : Int} {a b : Bool} {x : Int × Bool × Bool} (h : x = (n, a, b)) (hw : ∃ k, w' = w.drewN k) : RetQ w (ralVal x) (.returned (.tuple #[.int .i64 n, .bool a, .bool b])) w' := ⟨by rw [h], hw⟩
theorem cutPre_cases {c : UInt8} {s t : List UInt8} {b : Bool} (h : cutPre c s = (t, b)) : (b = false ∧ t = s ∧ ∀ r, s ≠ c :: r) ∨ (b = true ∧ s = c :: t) := by
  unfold cutPre at h
  split at h
  · rename_i x r
    by_cases hx : x = c
    · rw [if_pos hx] at h
      injection h with h1 h2
      right; exact ⟨h2.symm, by rw [h1, hx]⟩
    · rw [if_neg hx] at h
      injection h with h1 h2
      left; exact ⟨h2.symm, h1.symm, fun q e => by injection e with e1 e2; exact hx e1⟩
  · injection h with h1 h2
    left; exact ⟨h2.symm, h1.symm, fun q e => by cases e⟩
theorem pointP_short {t : List UInt8} (h : ¬ 3 < t.length) : pointP t = false := by unfold pointP; simp [h]
theorem pointP_long {t : List UInt8} (h : 3 < t.length) : pointP t = (t[t.length - 3] == 46) := by
  unfold pointP
  rw [List.getElem?_eq_getElem (by omega)]
  simp [h]
theorem two_last {t : List UInt8} (h : 3 < t.length) : ∃ a b, t.drop (t.length - 2) = [a, b] := by
  have hl : (t.drop (t.length - 2)).length = 2 := by simp; omega
  match t.drop (t.length - 2), hl with
  | [a, b], _ => exact ⟨a, b, rfl⟩
theorem val_pair {a b : UInt8} (ha : isD a = true) (hb : isD b = true) : (val [a, b] : Int) = 10 * ((a.toNat : Int) - 48) + ((b.toNat : Int) - 48) := by
  have h1 : 48 ≤ a.toNat ∧ a.toNat ≤ 57 := by simpa [isD] using ha
  have h2 : 48 ≤ b.toNat ∧ b.toNat ≤ 57 := by simpa [isD] using hb
  have e : val [a, b] = 10 * (a.toNat - 48) + (b.toNat - 48) := by simp [val, numV_cons, numV_nil]
  rw [e]; omega
def raltW (neg : Bool) (wh pt : List UInt8) : Int × Bool × Bool :=
  if !plainB wh || (neg && (wh == [48] && pt == [48, 48])) then (0, false, false)
  else if 1125899906842624 < val wh then (0, true, false)
  else raltN neg (100 * (val wh : Int) + (val pt : Int))
theorem raltT_none (neg : Bool) {t : List UInt8} (h : pointP t = false) : raltT neg t = raltW neg t [48, 48] := by unfold raltT raltW badP whS ptS; rw [h]; rfl
theorem raltT_bad (neg : Bool) {t : List UInt8} (h : pointP t = true) (hh : hundB (t.drop (t.length - 2)) = false) : raltT neg t = (0, false, false) := by
  unfold raltT badP ptS; rw [h]; simp [hh]
theorem raltT_point (neg : Bool) {t : List UInt8} (h : pointP t = true) (hh : hundB (t.drop (t.length - 2)) = true) : raltT neg t = raltW neg (t.take (t.length - 3)) (t.drop (t.length - 2)) := by
  unfold raltT raltW badP whS ptS; rw [h]; simp [hh]
theorem raltW_unplain {neg : Bool} {wh pt : List UInt8} (h : plainB wh = false) : raltW neg wh pt = (0, false, false) := by unfold raltW; rw [h]; rfl
theorem raltW_zero {wh pt : List UInt8} (h1 : wh = [48]) (h2 : pt = [48, 48]) : raltW true wh pt = (0, false, false) := by subst h1; subst h2; rfl
theorem raltW_big {neg : Bool} {wh pt : List UInt8} (h : plainB wh = true) (hz : (neg && (wh == [48] && pt == [48, 48])) = false) (hb : 1125899906842624 < val wh) : raltW neg wh pt = (0, true, false) := by unfold raltW; rw [h, hz, if_neg (by simp), if_pos hb]
theorem raltW_num {neg : Bool} {wh pt : List UInt8} (h : plainB wh = true) (hz : (neg && (wh == [48] && pt == [48, 48])) = false) (hb : ¬ 1125899906842624 < val wh) : raltW neg wh pt = raltN neg (100 * (val wh : Int) + (val pt : Int)) := by unfold raltW; rw [h, hz, if_neg (by simp), if_neg hb]
end Go.Proofs.YtlleijickhifmaaGreatDoor
namespace Go.Proofs.YtlleijickhifmaaGreatDoor
open Go.RowKit Go.Sort
set_option linter.unusedVariables false
set_option linter.unusedSimpArgs false
set_option maxRecDepth 100000
def rwinO (ra rb : Int × Bool × Bool) (kind : Int) (s : List UInt8) : (Int × Int) × Int :=
  if !(ra.2.1 && rb.2.1) then ((0, 0), 4)
  else if !(ra.2.2 && rb.2.2) then ((0, 0), 2)
  else if rb.1 < ra.1 then ((0, 0), 9)
  else if winS (if kind = 2 then -200000 else ra.1) (if kind = 1 then 6000000 else rb.1) = s then (((if kind = 2 then -200000 else ra.1), (if kind = 1 then 6000000 else rb.1)), 0) else ((0, 0), 4)
def rparseWinS (s : List UInt8) : (Int × Int) × Int :=
  if s = [45] then ((-200000, 6000000), 0)
  else if (cutAt 58 s).2.2 then rwinO (raltP (cutAt 58 s).1) (raltP (cutAt 58 s).2.1) 3 s
  else if (cutSuf 43 s).2 then rwinO (raltP (cutSuf 43 s).1) (raltP (cutSuf 43 s).1) 1 s
  else if (cutSuf 45 s).2 then rwinO (raltP (cutSuf 45 s).1) (raltP (cutSuf 45 s).1) 2 s
  else rwinO (raltP s) (raltP s) 0 s
theorem raltN_in {neg : Bool} {n : Int} (h : (raltN neg n).2.2 = true) : -200000 ≤ (raltN neg n).1 ∧ (raltN neg n).1 ≤ 6000000 := by
  unfold raltN at h ⊢
  simp only [Bool.and_eq_true, decide_eq_true_eq] at h
  exact h
theorem ralt_in {s : List UInt8} (h : (raltP s).2.2 = true) : -200000 ≤ (raltP s).1 ∧ (raltP s).1 ≤ 6000000 := by
  unfold raltP raltT at h ⊢
  revert h
  repeat' split
  · intro h; cases h
  · intro h; cases h
  · intro h; cases h
  · exact raltN_in
theorem ralt_form {s : List UInt8} (h : (raltP s).2.2 = true) : (raltP s).2.1 = true := by
  unfold raltP raltT raltN at h ⊢
  revert h
  repeat' split
  all_goals simp
/-- The reference's windows are the program's. -/
theorem rwin_same (s : List UInt8) : ((rparseWinS s).2 = 0 ↔ (parseWinS s).2 = 0) ∧ ((rparseWinS s).2 = 0 → (rparseWinS s).1 = (parseWinS s).1) := by
  have key : ∀ (a b : List UInt8) (kind : Int) (q : (Int × Int) × Bool), q = (((if kind = 2 then -200000 else (altP a).1), (if kind = 1 then 6000000 else (altP b).1)), (altP a).2 && (altP b).2) → ((kind = 1 ∨ kind = 2) → a = b) →
      ((rwinO (raltP a) (raltP b) kind s).2 = 0 ↔ (parseWinO s q).2 = 0) ∧ ((rwinO (raltP a) (raltP b) kind s).2 = 0 → (rwinO (raltP a) (raltP b) kind s).1 = (parseWinO s q).1) := by
    intro a b kind q hq hk
    obtain ⟨a1, a2⟩ := ralt_altP a
    obtain ⟨b1, b2⟩ := ralt_altP b
    have a3 := fun h => ralt_form (s := a) h
    have b3 := fun h => ralt_form (s := b) h
    have a4 := fun h => ralt_in (s := a) h
    have b4 := fun h => ralt_in (s := b) h
    subst hq
    unfold rwinO parseWinO
    simp only
    have rlo : rangedB (-200000) = true := by decide
    have rhi : rangedB 6000000 = true := by decide
    by_cases h12 : kind = 1 ∨ kind = 2
    · have hab := hk h12
      subst hab
      cases ha : ((raltP a).2.1 && (raltP a).2.2)
      · rw [ha] at a1
        have hne : ¬ ((altP a).2 = true ∧ rangedB (altP a).1 = true) := by rintro ⟨h1, h2⟩; rw [h1, h2] at a1; cases a1
        have h1 : ((if !((raltP a).2.1 && (raltP a).2.1) then ((0, 0), 4) else if !((raltP a).2.2 && (raltP a).2.2) then ((0, 0), 2) else if (raltP a).1 < (raltP a).1 then ((0, 0), 9) else if winS (if kind = 2 then -200000 else (raltP a).1) (if kind = 1 then 6000000 else (raltP a).1) = s then (((if kind = 2 then -200000 else (raltP a).1), (if kind = 1 then 6000000 else (raltP a).1)), 0) else ((0, 0), 4)) : (Int × Int) × Int).2 ≠ 0 := by
          cases h5 : (raltP a).2.1
          · simp
          · rw [h5] at ha
            have h6 : (raltP a).2.2 = false := by simpa using ha
            rw [h6]; simp
        have h2 : ((if ((altP a).2 && (altP a).2) = true then (if rangedB (if kind = 2 then -200000 else (altP a).1) = true ∧ rangedB (if kind = 1 then 6000000 else (altP a).1) = true then (if (if kind = 1 then 6000000 else (altP a).1) < (if kind = 2 then -200000 else (altP a).1) then ((0, 0), 9) else if winS (if kind = 2 then -200000 else (altP a).1) (if kind = 1 then 6000000 else (altP a).1) = s then ((((if kind = 2 then -200000 else (altP a).1)), (if kind = 1 then 6000000 else (altP a).1)), 0) else ((0, 0), 4)) else ((0, 0), 2)) else ((0, 0), 4)) : (Int × Int) × Int).2 ≠ 0 := by
          cases h5 : (altP a).2
          · simp
          · have h6 : rangedB (altP a).1 = false := by
              cases h7 : rangedB (altP a).1
              · rfl
              · exact absurd ⟨h5, h7⟩ hne
            rcases h12 with rfl | rfl <;> simp [h6]
        exact ⟨⟨fun h => absurd h h1, fun h => absurd h h2⟩, fun h => absurd h h1⟩
      · rw [ha] at a1
        have e1 := a2 a1.symm
        simp only [Bool.and_eq_true] at ha
        have hr := a1.symm
        simp only [Bool.and_eq_true] at hr
        have hin := a4 ha.2
        rw [ha.1, ha.2, hr.1, e1]
        rw [e1] at hin
        rcases h12 with rfl | rfl
        · simp only [hr.2, rhi]
          have : ¬ (6000000 < (altP a).1) := by omega
          simp [this, hr.2, rhi]
        · simp only [hr.2, rlo]
          have : ¬ ((altP a).1 < -200000) := by omega
          simp [this, hr.2, rlo]
    · have k1 : ¬ kind = 1 := fun h => h12 (.inl h)
      have k2 : ¬ kind = 2 := fun h => h12 (.inr h)
      simp only [k1, k2, if_false]
      cases ha : ((raltP a).2.1 && (raltP a).2.2)
      · rw [ha] at a1
        cases h5 : (raltP a).2.1
        · cases h8 : (altP a).2
          · simp
          · have h6 : rangedB (altP a).1 = false := by rw [h8] at a1; simpa using a1.symm
            cases (altP b).2 <;> simp [h6]
        · have h6 : (raltP a).2.2 = false := by rw [h5] at ha; simpa using ha
          cases h8 : (altP a).2
          · cases (raltP b).2.1 <;> simp [h6]
          · have h7 : rangedB (altP a).1 = false := by rw [h8] at a1; simpa using a1.symm
            cases (altP b).2 <;> cases (raltP b).2.1 <;> simp [h6, h7]
      · rw [ha] at a1
        have e1 := a2 a1.symm
        simp only [Bool.and_eq_true] at ha
        have hr := a1.symm
        simp only [Bool.and_eq_true] at hr
        rw [ha.1, ha.2, hr.1, e1, hr.2]
        cases hb : ((raltP b).2.1 && (raltP b).2.2)
        · rw [hb] at b1
          cases h5 : (raltP b).2.1
          · cases h8 : (altP b).2
            · simp
            · have h6 : rangedB (altP b).1 = false := by rw [h8] at b1; simpa using b1.symm
              simp [h6]
          · have h6 : (raltP b).2.2 = false := by rw [h5] at hb; simpa using hb
            cases h8 : (altP b).2
            · simp [h6]
            · have h7 : rangedB (altP b).1 = false := by rw [h8] at b1; simpa using b1.symm
              simp [h6, h7]
        · rw [hb] at b1
          have e2 := b2 b1.symm
          simp only [Bool.and_eq_true] at hb
          have hr2 := b1.symm
          simp only [Bool.and_eq_true] at hr2
          rw [hb.1, hb.2, hr2.1, e2, hr2.2]
          simp
  rw [parseWinO_eq]
  unfold rparseWinS
  by_cases h45 : s = [45]
  · subst h45
    rw [if_pos rfl, winP_1]
    decide
  · rw [if_neg h45]
    cases h58 : (cutAt 58 s).2.2
    · simp only [Bool.false_eq_true, if_false]
      cases h43 : (cutSuf 43 s).2
      · simp only [Bool.false_eq_true, if_false]
        cases h4 : (cutSuf 45 s).2
        · simp only [Bool.false_eq_true, if_false]
          exact key s s 0 _ (by rw [winP_5 h45 h58 h43 h4]; simp) (by intro h; omega)
        · simp only [if_true]
          exact key _ _ 2 _ (by rw [winP_4 h45 h58 h43 h4]; simp) (fun _ => rfl)
      · simp only [if_true]
        exact key _ _ 1 _ (by rw [winP_3 h45 h58 h43]; simp) (fun _ => rfl)
    · simp only [if_true]
      exact key _ _ 3 _ (by rw [winP_2 h45 h58]; simp) (by intro h; omega)
end Go.Proofs.YtlleijickhifmaaGreatDoor
namespace Go.Proofs.YtlleijickhifmaaGreatDoor
open Go.RowKit Go.Sort
set_option linter.unusedVariables false
set_option linter.unusedSimpArgs false
set_option maxRecDepth 100000
attribute [local go_sem] wmk spl_win
theorem rwinO_f {ra rb : Int × Bool × Bool} {k : Int} {s : List UInt8} (h : (ra.2.1 && rb.2.1) = false) : rwinO ra rb k s = ((0, 0), 4) := by unfold rwinO; rw [h]; rfl
theorem rwinO_i {ra rb : Int × Bool × Bool} {k : Int} {s : List UInt8} (h : (ra.2.1 && rb.2.1) = true) (h2 : (ra.2.2 && rb.2.2) = false) : rwinO ra rb k s = ((0, 0), 2) := by unfold rwinO; rw [h, h2]; rfl
theorem rwinO_o {ra rb : Int × Bool × Bool} {k : Int} {s : List UInt8} (h : (ra.2.1 && rb.2.1) = true) (h2 : (ra.2.2 && rb.2.2) = true) (h3 : rb.1 < ra.1) : rwinO ra rb k s = ((0, 0), 9) := by unfold rwinO; rw [h, h2, if_pos h3]; rfl
theorem rwinO_w {ra rb : Int × Bool × Bool} {k : Int} {s : List UInt8} (h : (ra.2.1 && rb.2.1) = true) (h2 : (ra.2.2 && rb.2.2) = true) (h3 : ¬ rb.1 < ra.1) : rwinO ra rb k s = if winS (if k = 2 then -200000 else ra.1) (if k = 1 then 6000000 else rb.1) = s then (((if k = 2 then -200000 else ra.1), (if k = 1 then 6000000 else rb.1)), 0) else ((0, 0), 4) := by unfold rwinO; rw [h, h2, if_neg h3]; rfl
theorem cutSuf_last {c d : UInt8} {s : List UInt8} (hs : 0 < s.length) (h : s[s.length - 1]'(by omega) = d) : cutSuf c s = if d = c then (s.take (s.length - 1), true) else (s, false) := by
  unfold cutSuf
  have hl : s.getLast? = some d := by rw [List.getLast?_eq_getElem?, List.getElem?_eq_getElem (by omega), h]
  rw [hl]
  by_cases hc : d = c
  · rw [if_pos (by rw [hc]), if_pos hc, List.dropLast_eq_take]
  · rw [if_neg (by intro h; injection h with h; exact hc h), if_neg hc]
end Go.Proofs.YtlleijickhifmaaGreatDoor
