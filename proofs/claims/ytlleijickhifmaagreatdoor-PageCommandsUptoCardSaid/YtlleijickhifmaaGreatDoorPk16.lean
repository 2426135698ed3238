/- Digits of a fixed width, and the references' own decimal numbers. Directions in degrees, minutes, seconds and hundredths: angle.Exact, angle.ParseExact and what the references have for them. Directions read: angle.ParseExact and what the references have for them. angle.join, angle.ParseExact, leg.course and what the references have for them. The texts of altitudes, windows and distances: record.AltText, WindowText, DistText and what the references have for them. -/
import Derived.Test.YtlleijickhifmaaGreatDoorPk15
import Derived.Test.YtlleijickhifmaaGreatDoorPk09
import Derived.Test.YtlleijickhifmaaGreatDoorPk05
namespace Go.Proofs.YtlleijickhifmaaGreatDoor
open Go.RowKit Go.Sort
set_option linter.unusedVariables false
set_option linter.unusedSimpArgs false
set_option maxRecDepth 100000
/-- The last k digits of n. -/
def digW : Nat → Nat → List UInt8
  | 0, _ => []
  | k + 1, n => digW k (n / 10) ++ [dg (n % 10)]
theorem digW_len (k n : Nat) : (digW k n).length = k := by
  induction k generalizing n with
  | zero => rfl
  | succ k ih => simp [digW, ih]
attribute [local go_sem] ba_cat cat_len
theorem alloc_below (w : World) (o : Obj) : Below w.heap.size w (w.alloc o) := (Below.refl _ _).alloc (Nat.le_refl _) _
theorem conv1 (W : World) (y : Int) (h : 0 ≤ y) : (convert 71 9 (.slice (some ⟨W.heap.size, 0, none⟩) 1 1)).run Tryz.prog (W.alloc (.cells #[.int .u8 (48 + y)] 5)) = .ok (.string ⟨[dg y.toNat].toArray⟩) (W.alloc (.cells #[.int .u8 (48 + y)] 5)) := by
  have h1 := run_convert_bytes_arg (P := Tryz.prog) (W.alloc (.cells #[.int .u8 (48 + y)] 5)) 71 5 Tryz.underlying71 Tryz.underlying5 W.heap.size 0 1 1 [48 + y] rfl (by
    intro i hi
    obtain rfl : i = 0 := by omega
    exact (cell_of_row _ _ 0 #[.int .u8 (48 + y)] _ _ (heap_alloc_new W _))) 9 Tryz.underlying9
  rw [h1]
  unfold strOfNums dg
  rw [show (48 + y) = ((48 + y.toNat : Nat) : Int) by omega]
  rfl
theorem conv1g (y : Int) (h : 0 ≤ y) (W : World) (g : Nat) (hc : W.cell? ⟨g, 0, none⟩ = some (.int .u8 (48 + y))) : (convert 71 9 (.slice (some ⟨g, 0, none⟩) 1 1)).run Tryz.prog W = .ok (.string ⟨[dg y.toNat].toArray⟩) W := by
  have h1 := run_convert_bytes_arg (P := Tryz.prog) W 71 5 Tryz.underlying71 Tryz.underlying5 g 0 1 1 [48 + y] rfl (by
    intro i hi
    obtain rfl : i = 0 := by omega
    exact hc) 9 Tryz.underlying9
  rw [h1]
  unfold strOfNums dg
  rw [show (48 + y) = ((48 + y.toNat : Nat) : Int) by omega]
  rfl
def valS (l : List UInt8) : Int × Bool := if val l ≤ 4611686018427387904 then ((val l : Int), true) else (0, false)
theorem val_take_le (l : List UInt8) (k : Nat) : val (l.take k) ≤ val l := by
  have h := congrArg val (List.take_append_drop k l)
  unfold val at *
  rw [numV_append] at h
  have := numV_ge (l.drop k) (numV 0 (l.take k))
  omega
end Go.Proofs.YtlleijickhifmaaGreatDoor
namespace Go.Proofs.YtlleijickhifmaaGreatDoor
open Go.RowKit Go.Sort
set_option linter.unusedVariables false
set_option linter.unusedSimpArgs false
set_option maxRecDepth 100000
set_option maxHeartbeats 2000000 in
theorem adigits_any (B : Nat) (v : Value) (l : List UInt8) (n : Int) (c : Nat) (w : World) (hO : BOut B w v l) (hle : B ≤ w.heap.size) (h0 : 0 ≤ n) (h1 : n ≤ 9223372036854775807) (hc0 : 0 < c) (hc : c ≤ 100) (hl : l.length ≤ 1000) : Calls Tryz.prog 119 #[v, .int .i64 n, .int .i64 c] w (RetB B w (l ++ digW c n.toNat)) := by
  obtain ⟨A0, c0, rfl⟩ := hO.form
  have HO := Lib.hid hO; clear hO
  go_enter Tryz.func119, Tryz.ntmps119
  go_wp2
  go_loopw [0, 12] (fun s i W => ∃ (k : Nat), k ≤ c ∧ i = .int .i64 k ∧ BOut B W s (l ++ List.replicate k 48) ∧ Below B w W ∧ B ≤ W.heap.size) (fun _ i _ => c - (intOf i).toNat)
  case atStart => exact ⟨0, by omega, rfl, by simpa using HO.out, Below.refl _ _, hle⟩
  case round =>
    obtain ⟨k, hk, rfl, hO, hB, hle'⟩ := hrel
    by_cases hlt : k < c
    · have O1 := Lib.hid (World.ownsRow.alloc hO (.cells #[.int .u8 48] 5))
      have B1 := Lib.hid (hB.alloc hle' (.cells #[.int .u8 48] 5))
      have HO := Lib.hid hO; clear hO
      go_wp2_with (at_builtin; refine wpList_append_bout rfl (.tmp 14) (.tmp 15) rfl O1.out rfl 48 _ _ rfl (cell_of_row _ _ 0 #[.int .u8 48] _ _ (heap_alloc_new _ _)) (by simp; omega) (by simp; omega) ?_; intro v2 W2 hO2 hg2)
      have hz := hg2.size
      go_roundw
      case rel => exact ⟨k + 1, by omega, by go_num, by rw [List.replicate_succ', ← List.append_assoc]; exact hO2, below_bgrown B1.out (by simp; omega) O1.out hg2, by simp at hz; omega⟩
      case measure => simp [intOf]; omega
    · obtain rfl : k = c := by omega
      obtain ⟨g, cap, rfl, hBg⟩ := hO.some (by simp; omega)
      simp only [List.length_append, List.length_replicate] at hO ⊢
      obtain ⟨N, hN⟩ : ∃ N : Nat, N = l.length + k := ⟨_, rfl⟩
      rw [← hN] at hO ⊢
      have HO2 := Lib.hid hO; clear hO HO
      have n1 : 1 ≤ N := by omega
      have n2 : N ≤ 2000 := by omega
      have n3 : ((N : Int) - 1) = (l.length : Int) + (k : Int) - 1 := by omega
      have HN := Lib.hid hN; clear hN
      have HN3 := Lib.hid n3; clear n3
      go_wp2
      go_loopw [1, 8] (fun x i W => ∃ (m : Nat) (u : Int) (r : List UInt8), m ≤ k ∧ 0 ≤ u ∧ u ≤ 9223372036854775807 ∧ x = .int .i64 u ∧ i = .int .i64 ((l.length : Int) + m - 1) ∧ BOut B W (.slice (some ⟨g, 0, none⟩) N cap) (l ++ List.replicate m 48 ++ r) ∧ m + r.length = k ∧ digW k n.toNat = digW m u.toNat ++ r ∧ Below B w W ∧ B ≤ W.heap.size) (fun _ i _ => (intOf i + 1).toNat)
      case atStart => exact ⟨k, n, [], by omega, h0, h1, rfl, by rw [HN3.out], by simpa using HO2.out, by simp, by simp, hB, hle'⟩
      case round =>
        obtain ⟨m, u, r, hm, hu0, hu, rfl, rfl, hO, hr, hq, hB, hle'⟩ := hrel
        have HQ := Lib.hid hq; clear hq
        cases m with
        | zero =>
          have HO := Lib.hid hO; clear hO
          go_wp2
          go_ret
          refine ⟨_, rfl, ?_, hB, hle'⟩
          rw [HQ.out]
          simpa [digW] using HO.out
        | succ m =>
          have hlen : N = (l ++ List.replicate (m + 1) 48 ++ r).length := by have := HN.out; simp; omega
          have c1 := hO.cellAt hlen (l.length + m) (by simp; omega)
          have f1 : wr.frozen? ⟨g, l.length + m, none⟩ = false := World.ownsRow.frozenAt (by rw [hlen] at hO; exact hO) _
          have hbd : Value.int .u8 (48 + u % 10) = bval (dg (u % 10).toNat) := by unfold bval; rw [dg_toNat (by omega)]; congr 1; omega
          have hS := Lib.hid (hO.stored hlen hBg (l.length + m) (dg (u % 10).toNat) (set_digit l m (dg (u % 10).toNat) r) (by simp; omega))
          have HBD := Lib.hid hbd; clear hbd
          unfold bval at c1
          obtain ⟨X, hX⟩ : ∃ X : Int, X = ((l ++ List.replicate (m + 1) 48 ++ r)[l.length + m]'(by simp; omega)).toNat := ⟨_, rfl⟩
          rw [← hX] at c1
          clear hX
          have HO := Lib.hid hO; clear hO
          have hj : (l.length : Int) + ((m + 1 : Nat) : Int) - 1 = ((l.length + m : Nat) : Int) := by omega
          rw [hj]
          clear hj
          have HD := Lib.hid (show digW (m + 1) u.toNat = digW m (u / 10).toNat ++ [dg (u % 10).toNat] by rw [digW, show u.toNat / 10 = (u / 10).toNat by omega, show u.toNat % 10 = (u % 10).toNat by omega])
          obtain ⟨J, hJ⟩ : ∃ J : Nat, J = l.length + m := ⟨_, rfl⟩
          rw [← hJ] at c1 f1 hS ⊢
          have q1 : l.length ≤ J := by omega
          have q2 : J < N := by have := HN.out; omega
          have q3 : (J : Int) < (N : Int) := by omega
          have HL := Lib.hid hlen; clear hlen
          have HJ := Lib.hid hJ; clear hJ
          go_wp2
          go_roundw
          case rel => exact ⟨m, u / 10, dg (u % 10).toNat :: r, by omega, by omega, by omega, rfl, (by have := HJ.out; go_num), (by rw [HBD.out]; exact hS.out), by simp; omega, by rw [HQ.out, HD.out]; simp, hB.setCell (by simpa using hBg) _, by simpa using hle'⟩
          case measure => simp [intOf]
/-- Degrees with three digits, minutes, seconds and hundredths with two. -/
def exactS (a : Nat) : List UInt8 := digW 3 (a / 360000) ++ digW 2 (a % 360000 / 6000) ++ digW 2 (a % 6000 / 100) ++ digW 2 (a % 100)
theorem exactS_len (a : Nat) : (exactS a).length = 9 := by simp [exactS, digW_len]
set_option maxHeartbeats 2000000 in
theorem asplit_any (a : Int) (w : World) (h0 : 0 ≤ a) (h1 : a < 129600000) : Calls Tryz.prog 98 #[.slice none 0 0, .int .i64 a, .int .i64 3] w (RetB w.heap.size w (exactS a.toNat)) := by
  go_enter Tryz.func98, Tryz.ntmps98
  go_wp2_with fail
  refine (adigits_any w.heap.size (.slice none 0 0) [] (a / 360000) 3 w (BOut.nil _ _) (Nat.le_refl _) (by omega) (by omega) (by decide) (by decide) (by decide)).mono ?_
  rintro e w1 ⟨v1, rfl, O1, B1, L1⟩
  go_wp2_with fail
  refine (adigits_any w.heap.size v1 _ (a % 360000 / 6000) 2 w1 O1 L1 (by omega) (by omega) (by decide) (by decide) (by simp [digW_len])).mono ?_
  rintro e w2 ⟨v2, rfl, O2, B2, L2⟩
  go_wp2_with fail
  refine (adigits_any w.heap.size v2 _ (a % 6000 / 100) 2 w2 O2 L2 (by omega) (by omega) (by decide) (by decide) (by simp [digW_len])).mono ?_
  rintro e w3 ⟨v3, rfl, O3, B3, L3⟩
  go_wp2_with fail
  refine (adigits_any w.heap.size v3 _ (a % 100) 2 w3 O3 L3 (by omega) (by omega) (by decide) (by decide) (by simp [digW_len])).mono ?_
  rintro e w4 ⟨v4, rfl, O4, B4, L4⟩
  go_wp2
  go_ret
  refine ⟨v4, rfl, ?_, ((B1.trans B2).trans B3).trans B4, L4⟩
  have e1 : exactS a.toNat = [] ++ digW 3 (a / 360000).toNat ++ digW 2 (a % 360000 / 6000).toNat ++ digW 2 (a % 6000 / 100).toNat ++ digW 2 (a % 100).toNat := by
    unfold exactS
    rw [show a.toNat / 360000 = (a / 360000).toNat by omega, show a.toNat % 360000 / 6000 = (a % 360000 / 6000).toNat by omega, show a.toNat % 6000 / 100 = (a % 6000 / 100).toNat by omega, show a.toNat % 100 = (a % 100).toNat by omega]
    simp
  rw [e1]
  exact O4
theorem norm_any (a : Int) (w : World) (h0 : 0 ≤ a) (h1 : a < 129600000) : Calls Tryz.prog 99 #[.int .i64 a] w (RetP w (.int .i64 a)) := by
  have h2 : a % 129600000 = a := by omega
  go_enter Tryz.func99, Tryz.ntmps99
  go_wp2
  go_ret
  exact RetP.int (by omega) rfl
theorem exact_any (a : Int) (w : World) (h0 : 0 ≤ a) (h1 : a < 129600000) : Calls Tryz.prog 68 #[.int .i64 a] w (Ret w (.string ⟨(exactS a.toNat).toArray⟩)) := by
  go_enter Tryz.func68, Tryz.ntmps68
  go_wp2_with (go_at_call 99; refine callP (norm_any _ _ h0 h1) ?_)
  refine (asplit_any a w h0 h1).mono ?_
  rintro e w1 ⟨v1, rfl, O1, B1, L1⟩
  have e1 := conv_bout O1
  go_wp2
  go_ret
  exact Ret.str rfl B1
end Go.Proofs.YtlleijickhifmaaGreatDoor
namespace Go.Proofs.YtlleijickhifmaaGreatDoor
open Go.RowKit Go.Sort
set_option linter.unusedVariables false
set_option linter.unusedSimpArgs false
set_option maxRecDepth 100000
attribute [local go_sem] ba_cat cat_len
def angP (l : List UInt8) : Int × Bool :=
  if l.length = 9 ∧ l.all isD = true ∧ val ((l.drop 3).take 2) < 60 ∧ val ((l.drop 5).take 2) < 60 then
    ((val (l.take 3) : Int) * 360000 + (val ((l.drop 3).take 2) : Int) * 6000 + (val ((l.drop 5).take 2) : Int) * 100 + (val (l.drop 7) : Int), true) else (0, false)
theorem nine {l : List UInt8} (h : l.length = 9) : ∃ c0 c1 c2 c3 c4 c5 c6 c7 c8, l = [c0, c1, c2, c3, c4, c5, c6, c7, c8] := by
  match l, h with
  | [c0, c1, c2, c3, c4, c5, c6, c7, c8], _ => exact ⟨c0, c1, c2, c3, c4, c5, c6, c7, c8, rfl⟩
theorem angP_len {l : List UInt8} (h : l.length ≠ 9) : angP l = (0, false) := by unfold angP; rw [if_neg (fun x => h x.1)]
theorem numS_bd (l : List UInt8) (h : l.length ≤ 3) : 0 ≤ (numS l).1 ∧ (numS l).1 < 1000 := by
  unfold numS
  split
  · rename_i ha
    have h1 := val_lt l ha
    have h2 : 10 ^ l.length ≤ 10 ^ 3 := Nat.pow_le_pow_right (by decide) h
    simp only
    omega
  · simp
theorem numS_yes {l : List UInt8} (h : l.all isD = true) : numS l = ((val l : Int), true) := by unfold numS; rw [if_pos h]
theorem numS_snd (l : List UInt8) : (numS l).2 = l.all isD := by
  unfold numS
  split
  · rename_i h; rw [h]
  · rename_i h; simpa using h
theorem numS_bd2 (l : List UInt8) (h : l.length ≤ 2) : 0 ≤ (numS l).1 ∧ (numS l).1 < 1000 := numS_bd l (by omega)
/-- What join and angle return of nine bytes. -/
theorem angP_nine (c0 c1 c2 c3 c4 c5 c6 c7 c8 : UInt8) : angP [c0, c1, c2, c3, c4, c5, c6, c7, c8] =
    if (numS [c0, c1, c2]).2 = true ∧ (numS [c3, c4]).2 = true ∧ (numS [c5, c6]).2 = true ∧ (numS [c7, c8]).2 = true ∧ (numS [c3, c4]).1 < 60 ∧ (numS [c5, c6]).1 < 60 then
      ((numS [c0, c1, c2]).1 * 360000 + (numS [c3, c4]).1 * 6000 + (numS [c5, c6]).1 * 100 + (numS [c7, c8]).1, true) else (0, false) := by
  simp only [numS_snd]
  unfold angP
  simp only [List.length_cons, List.length_nil, List.all_cons, List.all_nil, Bool.and_true, Bool.and_eq_true, List.drop, List.take, true_and]
  by_cases ha : ((isD c0 = true ∧ isD c1 = true ∧ isD c2 = true) ∧ (isD c3 = true ∧ isD c4 = true) ∧ (isD c5 = true ∧ isD c6 = true) ∧ isD c7 = true ∧ isD c8 = true)
  · obtain ⟨⟨a0, a1, a2⟩, ⟨a3, a4⟩, ⟨a5, a6⟩, a7, a8⟩ := ha
    rw [numS_yes (l := [c0, c1, c2]) (by simp [*]), numS_yes (l := [c3, c4]) (by simp [*]), numS_yes (l := [c5, c6]) (by simp [*]), numS_yes (l := [c7, c8]) (by simp [*])]
    simp only [a0, a1, a2, a3, a4, a5, a6, a7, a8, true_and, Int.ofNat_lt, and_self]
    by_cases hm : val [c3, c4] < 60 ∧ val [c5, c6] < 60
    · rw [if_pos hm, if_pos (by omega)]
    · rw [if_neg hm, if_neg (by omega)]
  · rw [if_neg (by intro h; exact ha (by simp only [h, and_self])), if_neg (by intro h; exact ha ⟨h.1, h.2.1, h.2.2.1, h.2.2.2.1⟩)]
end Go.Proofs.YtlleijickhifmaaGreatDoor
namespace Go.Proofs.YtlleijickhifmaaGreatDoor
open Go.RowKit Go.Sort
set_option linter.unusedVariables false
set_option linter.unusedSimpArgs false
set_option maxRecDepth 100000
set_option maxHeartbeats 4000000 in
theorem join_ang (l : List UInt8) (w : World) (hl : l.length ≤ 4611686018427387904) : Calls Tryz.prog 60 #[.string ⟨l.toArray⟩, .int .i64 3] w (RetP w (numVal (angP l))) := by
  by_cases h9 : l.length = 9
  · obtain ⟨c0, c1, c2, c3, c4, c5, c6, c7, c8, rfl⟩ := nine h9
    clear hl h9
    have k0 := Lib.hid (number_any [c0, c1, c2, c3, c4, c5, c6, c7, c8] w (by simp))
    have k1 := Lib.hid (number_any [c0, c1, c2] w (by simp))
    have k2 := Lib.hid (number_any [c3, c4] w (by simp))
    have k3 := Lib.hid (number_any [c5, c6] w (by simp))
    have k4 := Lib.hid (number_any [c7, c8] w (by simp))
    have d1 := numS_bd [c0, c1, c2] (by simp)
    have d2 := numS_bd [c3, c4] (by simp)
    have d3 := numS_bd [c5, c6] (by simp)
    have d4 := numS_bd [c7, c8] (by simp)
    have HA := Lib.hid (angP_nine c0 c1 c2 c3 c4 c5 c6 c7 c8)
    have H0 := Lib.hid (show (numS [c0, c1, c2, c3, c4, c5, c6, c7, c8]).2 = ((numS [c0, c1, c2]).2 && (numS [c3, c4]).2 && (numS [c5, c6]).2 && (numS [c7, c8]).2) by simp [numS_snd, Bool.and_assoc])
    generalize numS [c0, c1, c2, c3, c4, c5, c6, c7, c8] = x0 at k0 H0
    generalize numS [c0, c1, c2] = x1 at k1 d1 HA H0
    generalize numS [c3, c4] = x2 at k2 d2 HA H0
    generalize numS [c5, c6] = x3 at k3 d3 HA H0
    generalize numS [c7, c8] = x4 at k4 d4 HA H0
    obtain ⟨n0, b0⟩ := x0
    obtain ⟨n1, b1⟩ := x1
    obtain ⟨n2, b2⟩ := x2
    obtain ⟨n3, b3⟩ := x3
    obtain ⟨n4, b4⟩ := x4
    simp only at d1 d2 d3 d4
    obtain ⟨d1, d1'⟩ := d1
    obtain ⟨d2, d2'⟩ := d2
    obtain ⟨d3, d3'⟩ := d3
    obtain ⟨d4, d4'⟩ := d4
    go_enter Tryz.func60, Tryz.ntmps60
    go_wp2_with (go_at_call 92; first | (with_reducible refine callP k0.out ?_) | (with_reducible refine callP k1.out ?_) | (with_reducible refine callP k2.out ?_) | (with_reducible refine callP k3.out ?_) | (with_reducible refine callP k4.out ?_))
    all_goals
      go_ret2
      refine RetP.num ?_ rfl
      rw [HA.out]
      have h0 := H0.out
      first
        | (rw [if_pos (by grind)]; done)
        | (rw [if_neg (by grind)]; done)
  · have h9' : ((l.length : Int) == 9) = false := by
      rw [beq_eq_false_iff_ne]; omega
    have h9n : ((l.length : Int) != 9) = true := by simp only [bne, h9']; rfl
    have HA := Lib.hid (angP_len h9)
    go_enter Tryz.func60, Tryz.ntmps60
    go_wp2
    all_goals
      go_ret2
      exact RetP.num HA.out rfl
def parseExS (l : List UInt8) : Int × Int := if (angP l).2 = true then (if (angP l).1 < 129600000 then ((angP l).1, 0) else (0, 2)) else (0, 4)
abbrev intsVal (x : Int × Int) : Value := .tuple #[.int .i64 x.1, .int .i64 x.2]
theorem RetP.ints {w w' : World} {n b : Int} {x : Int × Int} (h : x = (n, b)) (hw : w = w') : RetP w (intsVal x) (.returned (.tuple #[.int .i64 n, .int .i64 b])) w' := ⟨by rw [h], hw⟩
theorem parseExact_any (l : List UInt8) (w : World) (hl : l.length ≤ 4611686018427387904) : Calls Tryz.prog 34 #[.string ⟨l.toArray⟩] w (RetP w (intsVal (parseExS l))) := by
  have k := Lib.hid (join_ang l w hl)
  have HE := Lib.hid (show parseExS l = _ from rfl)
  unfold parseExS at HE ⊢
  generalize angP l = x at k HE ⊢
  obtain ⟨n, b⟩ := x
  go_enter Tryz.func34, Tryz.ntmps34
  go_wp2_with (go_at_call 60; refine callP k.out ?_)
  all_goals
    go_ret2
    refine RetP.ints ?_ rfl
    grind
def courseS (l : List UInt8) : Int × Bool := if l.length = 9 then ((parseExS l).1, (parseExS l).2 == 0) else (0, false)
end Go.Proofs.YtlleijickhifmaaGreatDoor
namespace Go.Proofs.YtlleijickhifmaaGreatDoor
open Go.RowKit Go.Sort
set_option linter.unusedVariables false
set_option linter.unusedSimpArgs false
set_option maxRecDepth 100000
theorem fmtN_any (n : Int) (h0 : 0 ≤ n) (h1 : n ≤ 1000000000) (w : World) (hL : Laid w) : Calls Tryz.prog 67 #[.int .i64 n, .int .i64 10] w (Ret w (.string ⟨(Lib.decDigits n.toNat).toArray⟩)) := by
  have h := fmt_any n (by omega) (by omega) w hL
  rwa [show Lib.itoa n = Lib.decDigits n.toNat by unfold Lib.itoa; rw [if_neg (by omega)]] at h
theorem dec_len9 (n : Int) (h1 : n ≤ 1000000000) : (Lib.decDigits n.toNat).length ≤ 10 := dec_len (by decide) (by omega)
abbrev textVal (x : List UInt8 × Int) : Value := .tuple #[.string ⟨x.1.toArray⟩, .int .i64 x.2]
theorem Ret.text {w w' : World} {a : List UInt8} {b : Int} {x : List UInt8 × Int} (h : x = (a, b)) (hw : Below w.heap.size w w') : Ret w (textVal x) (.returned (.tuple #[.string ⟨a.toArray⟩, .int .i64 b])) w' := ⟨by rw [h], hw⟩
theorem RetP.text {w w' : World} {a : List UInt8} {b : Int} {x : List UInt8 × Int} (h : x = (a, b)) (hw : w = w') : RetP w (textVal x) (.returned (.tuple #[.string ⟨a.toArray⟩, .int .i64 b])) w' := ⟨by rw [h], hw⟩
attribute [local go_sem] ba_cat cat_len
set_option maxHeartbeats 4000000 in
theorem altText_any (a : Int) (w : World) (hL : Laid w) : Calls Tryz.prog 42 #[.int .i64 a] w (Ret w (textVal (altT a))) := by
  by_cases hr : -200000 ≤ a ∧ a ≤ 6000000
  · have H1 := Lib.hid (altT_in hr)
    obtain ⟨r1, r2⟩ := hr
    by_cases hn : 0 ≤ a
    · have H2 := Lib.hid (altS_pos hn)
      have l1 := dec_len9 (a / 100) (by omega)
      have l2 := dec_len9 (a % 100 / 10) (by omega)
      have l3 := dec_len9 (a % 10) (by omega)
      by_cases hk : a % 100 = 0
      · have H3 := Lib.hid (altN_whole hn hk)
        go_enter Tryz.func42, Tryz.ntmps42
        go_wp2_with fail
        with_reducible refine callR (fmtN_any (a / 100) (by omega) (by omega) _ hL) ?_
        intro w1 b1 _ _ _
        have L1 := hL.below b1
        generalize Lib.decDigits (a / 100).toNat = D1 at l1 H3 ⊢
        go_wp2
        go_ret2
        exact Ret.text (by rw [H1.out, H2.out, H3.out]; rfl) b1
      · have H3 := Lib.hid (altN_part hn hk)
        go_enter Tryz.func42, Tryz.ntmps42
        go_wp2_with fail
        with_reducible refine callR (fmtN_any (a / 100) (by omega) (by omega) _ hL) ?_
        intro w1 b1 _ _ _
        have L1 := hL.below b1
        generalize Lib.decDigits (a / 100).toNat = D1 at l1 H3 ⊢
        go_wp2_with fail
        with_reducible refine callR (fmtN_any (a % 100 / 10) (by omega) (by omega) _ L1) ?_
        intro w2 b2 _ _ _
        have L2 := L1.below b2
        generalize Lib.decDigits (a % 100 / 10).toNat = D2 at l2 H3 ⊢
        go_wp2_with fail
        with_reducible refine callR (fmtN_any (a % 10) (by omega) (by omega) _ L2) ?_
        intro w3 b3 _ _ _
        generalize Lib.decDigits (a % 10).toNat = D3 at l3 H3 ⊢
        go_wp2
        go_ret2
        exact Ret.text (by rw [H1.out, H2.out, H3.out]; simp [cat]) (below_step (below_step b1 b2) b3)
    · obtain ⟨m, rfl⟩ : ∃ m, a = -m := ⟨-a, by omega⟩
      have hm : 0 < m := by omega
      have hm2 : m ≤ 200000 := by omega
      have H2 := Lib.hid (altS_neg hm)
      have l1 := dec_len9 (m / 100) (by omega)
      have l2 := dec_len9 (m % 100 / 10) (by omega)
      have l3 := dec_len9 (m % 10) (by omega)
      by_cases hk : m % 100 = 0
      · have H3 := Lib.hid (altN_whole (by omega) hk)
        go_enter Tryz.func42, Tryz.ntmps42
        go_wp2_with fail
        with_reducible refine callR (fmtN_any (m / 100) (by omega) (by omega) _ hL) ?_
        intro w1 b1 _ _ _
        have L1 := hL.below b1
        generalize Lib.decDigits (m / 100).toNat = D1 at l1 H3 ⊢
        go_wp2
        go_ret2
        exact Ret.text (by rw [H1.out, H2.out, H3.out]; simp [cat]) b1
      · have H3 := Lib.hid (altN_part (by omega) hk)
        go_enter Tryz.func42, Tryz.ntmps42
        go_wp2_with fail
        with_reducible refine callR (fmtN_any (m / 100) (by omega) (by omega) _ hL) ?_
        intro w1 b1 _ _ _
        have L1 := hL.below b1
        generalize Lib.decDigits (m / 100).toNat = D1 at l1 H3 ⊢
        go_wp2_with fail
        with_reducible refine callR (fmtN_any (m % 100 / 10) (by omega) (by omega) _ L1) ?_
        intro w2 b2 _ _ _
        have L2 := L1.below b2
        generalize Lib.decDigits (m % 100 / 10).toNat = D2 at l2 H3 ⊢
        go_wp2_with fail
        with_reducible refine callR (fmtN_any (m % 10) (by omega) (by omega) _ L2) ?_
        intro w3 b3 _ _ _
        generalize Lib.decDigits (m % 10).toNat = D3 at l3 H3 ⊢
        go_wp2
        go_ret2
        exact Ret.text (by rw [H1.out, H2.out, H3.out]; simp [cat]) (below_step (below_step b1 b2) b3)
  · have H1 := Lib.hid (altT_out hr)
    go_enter Tryz.func42, Tryz.ntmps42
    go_wp2
    all_goals try omega
    all_goals
      go_ret2
      exact Ret.text H1.out (Below.refl _ _)
end Go.Proofs.YtlleijickhifmaaGreatDoor
