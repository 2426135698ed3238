/- The texts of altitudes, windows and distances: record.AltText, WindowText, DistText and what the references have for them. The texts of windows and distances: record.WindowText, DistText, leg.distance and what the references have for them. -/
import Derived.Test.YtjgondadpjildaaGreatDoorPk17
import Derived.Test.YtjgondadpjildaaGreatDoorPk18
namespace Go.Proofs.YtjgondadpjildaaGreatDoor
open Go.RowKit Go.Sort
set_option linter.unusedVariables false
set_option linter.unusedSimpArgs false
set_option maxRecDepth 100000
theorem fmtN_any (n : Int) (h0 : 0 ≤ n) (h1 : n ≤ 1000000000) (w : World) (hL : Laid w) : Calls Tryz.prog 85 #[.int .i64 n, .int .i64 10] w (Ret w (.string ⟨(Lib.decDigits n.toNat).toArray⟩)) := by
  have h := fmt_any n (by omega) (by omega) w hL
  rwa [show Lib.itoa n = Lib.decDigits n.toNat by unfold Lib.itoa; rw [if_neg (by omega)]] at h
theorem dec_len9 (n : Int) (h1 : n ≤ 1000000000) : (Lib.decDigits n.toNat).length ≤ 10 := dec_len (by decide) (by omega)
abbrev textVal (x : List UInt8 × Int) : Value := .tuple #[.string ⟨x.1.toArray⟩, .int .i64 x.2]
theorem Ret.text {w w' : World} {a : List UInt8} {b : Int} {x : List UInt8 × Int} (h : x = (a, b)) (hw : Below w.heap.size w w') : Ret w (textVal x) (.returned (.tuple #[.string ⟨a.toArray⟩, .int .i64 b])) w' := ⟨by rw [h], hw⟩
theorem RetP.text {w w' : World} {a : List UInt8} {b : Int} {x : List UInt8 × Int} (h : x = (a, b)) (hw : w = w') : RetP w (textVal x) (.returned (.tuple #[.string ⟨a.toArray⟩, .int .i64 b])) w' := ⟨by rw [h], hw⟩
attribute [local go_sem] ba_cat cat_len
set_option maxHeartbeats 4000000 in
theorem altText_any (a : Int) (w : World) (hL : Laid w) : Calls Tryz.prog 144 #[.int .i64 a] w (Ret w (textVal (altT a))) := by
  by_cases hr : -200000 ≤ a ∧ a ≤ 6000000
  · have H1 := Lib.hid (altT_in hr)
    obtain ⟨r1, r2⟩ := hr
    by_cases hn : 0 ≤ a
    · have H2 := Lib.hid (altS_pos hn)
      have l1 := dec_len9 (a / 100) (by omega)
      have l2 := dec_len9 (a % 100 / 10) (by omega)
      have l3 := dec_len9 (a % 10) (by omega)
      by_cases hk : a % 100 = 0
      · have H3 := Lib.hid (altN_whole hn hk)
        go_enter Tryz.func144, Tryz.ntmps144
        go_wp2_with fail
        with_reducible refine callR (fmtN_any (a / 100) (by omega) (by omega) _ hL) ?_
        intro w1 b1 _ _ _
        have L1 := hL.below b1
        generalize Lib.decDigits (a / 100).toNat = D1 at l1 H3 ⊢
        go_wp2
        go_ret2
        exact Ret.text (by rw [H1.out, H2.out, H3.out]; rfl) b1
      · have H3 := Lib.hid (altN_part hn hk)
        go_enter Tryz.func144, Tryz.ntmps144
        go_wp2_with fail
        with_reducible refine callR (fmtN_any (a / 100) (by omega) (by omega) _ hL) ?_
        intro w1 b1 _ _ _
        have L1 := hL.below b1
        generalize Lib.decDigits (a / 100).toNat = D1 at l1 H3 ⊢
        go_wp2_with fail
        with_reducible refine callR (fmtN_any (a % 100 / 10) (by omega) (by omega) _ L1) ?_
        intro w2 b2 _ _ _
        have L2 := L1.below b2
        generalize Lib.decDigits (a % 100 / 10).toNat = D2 at l2 H3 ⊢
        go_wp2_with fail
        with_reducible refine callR (fmtN_any (a % 10) (by omega) (by omega) _ L2) ?_
        intro w3 b3 _ _ _
        generalize Lib.decDigits (a % 10).toNat = D3 at l3 H3 ⊢
        go_wp2
        go_ret2
        exact Ret.text (by rw [H1.out, H2.out, H3.out]; simp [cat]) (below_step (below_step b1 b2) b3)
    · obtain ⟨m, rfl⟩ : ∃ m, a = -m := ⟨-a, by omega⟩
      have hm : 0 < m := by omega
      have hm2 : m ≤ 200000 := by omega
      have H2 := Lib.hid (altS_neg hm)
      have l1 := dec_len9 (m / 100) (by omega)
      have l2 := dec_len9 (m % 100 / 10) (by omega)
      have l3 := dec_len9 (m % 10) (by omega)
      by_cases hk : m % 100 = 0
      · have H3 := Lib.hid (altN_whole (by omega) hk)
        go_enter Tryz.func144, Tryz.ntmps144
        go_wp2_with fail
        with_reducible refine callR (fmtN_any (m / 100) (by omega) (by omega) _ hL) ?_
        intro w1 b1 _ _ _
        have L1 := hL.below b1
        generalize Lib.decDigits (m / 100).toNat = D1 at l1 H3 ⊢
        go_wp2
        go_ret2
        exact Ret.text (by rw [H1.out, H2.out, H3.out]; simp [cat]) b1
      · have H3 := Lib.hid (altN_part (by omega) hk)
        go_enter Tryz.func144, Tryz.ntmps144
        go_wp2_with fail
        with_reducible refine callR (fmtN_any (m / 100) (by omega) (by omega) _ hL) ?_
        intro w1 b1 _ _ _
        have L1 := hL.below b1
        generalize Lib.decDigits (m / 100).toNat = D1 at l1 H3 ⊢
        go_wp2_with fail
        with_reducible refine callR (fmtN_any (m % 100 / 10) (by omega) (by omega) _ L1) ?_
        intro w2 b2 _ _ _
        have L2 := L1.below b2
        generalize Lib.decDigits (m % 100 / 10).toNat = D2 at l2 H3 ⊢
        go_wp2_with fail
        with_reducible refine callR (fmtN_any (m % 10) (by omega) (by omega) _ L2) ?_
        intro w3 b3 _ _ _
        generalize Lib.decDigits (m % 10).toNat = D3 at l3 H3 ⊢
        go_wp2
        go_ret2
        exact Ret.text (by rw [H1.out, H2.out, H3.out]; simp [cat]) (below_step (below_step b1 b2) b3)
  · have H1 := Lib.hid (altT_out hr)
    go_enter Tryz.func144, Tryz.ntmps144
    go_wp2
    all_goals try omega
    all_goals
      go_ret2
      exact Ret.text H1.out (Below.refl _ _)
set_option maxHeartbeats 4000000 in
theorem raltText_any (a : Int) (w : World) : Calls Tryz.prog 210 #[.int .i64 a] w (RetP w (textVal (altT a))) := by
  by_cases hr : -200000 ≤ a ∧ a ≤ 6000000
  · have H1 := Lib.hid (altT_in hr)
    obtain ⟨r1, r2⟩ := hr
    by_cases hn : 0 ≤ a
    · have H2 := Lib.hid (altS_pos hn)
      have l1 := dec_len9 (a / 100) (by omega)
      have l2 := dec_len9 (a % 100 / 10) (by omega)
      have l3 := dec_len9 (a % 10) (by omega)
      by_cases hk : a % 100 = 0
      · have H3 := Lib.hid (altN_whole hn hk)
        go_enter Tryz.func210, Tryz.ntmps210
        go_wp2_with fail
        with_reducible refine callP (digits8_any (a / 100).toNat (a / 100) _ (Nat.le_refl _) (by omega) (by omega)) ?_
        generalize Lib.decDigits (a / 100).toNat = D1 at l1 H3 ⊢
        go_wp2
        go_ret2
        exact RetP.text (by rw [H1.out, H2.out, H3.out]; rfl) rfl
      · have H3 := Lib.hid (altN_part hn hk)
        go_enter Tryz.func210, Tryz.ntmps210
        go_wp2_with fail
        with_reducible refine callP (digits8_any (a / 100).toNat (a / 100) _ (Nat.le_refl _) (by omega) (by omega)) ?_
        generalize Lib.decDigits (a / 100).toNat = D1 at l1 H3 ⊢
        go_wp2_with fail
        with_reducible refine callP (digits8_any (a % 100 / 10).toNat (a % 100 / 10) _ (Nat.le_refl _) (by omega) (by omega)) ?_
        generalize Lib.decDigits (a % 100 / 10).toNat = D2 at l2 H3 ⊢
        go_wp2_with fail
        with_reducible refine callP (digits8_any (a % 10).toNat (a % 10) _ (Nat.le_refl _) (by omega) (by omega)) ?_
        generalize Lib.decDigits (a % 10).toNat = D3 at l3 H3 ⊢
        go_wp2
        go_ret2
        exact RetP.text (by rw [H1.out, H2.out, H3.out]; simp [cat]) rfl
    · obtain ⟨m, rfl⟩ : ∃ m, a = -m := ⟨-a, by omega⟩
      have hm : 0 < m := by omega
      have hm2 : m ≤ 200000 := by omega
      have H2 := Lib.hid (altS_neg hm)
      have l1 := dec_len9 (m / 100) (by omega)
      have l2 := dec_len9 (m % 100 / 10) (by omega)
      have l3 := dec_len9 (m % 10) (by omega)
      by_cases hk : m % 100 = 0
      · have H3 := Lib.hid (altN_whole (by omega) hk)
        go_enter Tryz.func210, Tryz.ntmps210
        go_wp2_with fail
        with_reducible refine callP (digits8_any (m / 100).toNat (m / 100) _ (Nat.le_refl _) (by omega) (by omega)) ?_
        generalize Lib.decDigits (m / 100).toNat = D1 at l1 H3 ⊢
        go_wp2
        go_ret2
        exact RetP.text (by rw [H1.out, H2.out, H3.out]; simp [cat]) rfl
      · have H3 := Lib.hid (altN_part (by omega) hk)
        go_enter Tryz.func210, Tryz.ntmps210
        go_wp2_with fail
        with_reducible refine callP (digits8_any (m / 100).toNat (m / 100) _ (Nat.le_refl _) (by omega) (by omega)) ?_
        generalize Lib.decDigits (m / 100).toNat = D1 at l1 H3 ⊢
        go_wp2_with fail
        with_reducible refine callP (digits8_any (m % 100 / 10).toNat (m % 100 / 10) _ (Nat.le_refl _) (by omega) (by omega)) ?_
        generalize Lib.decDigits (m % 100 / 10).toNat = D2 at l2 H3 ⊢
        go_wp2_with fail
        with_reducible refine callP (digits8_any (m % 10).toNat (m % 10) _ (Nat.le_refl _) (by omega) (by omega)) ?_
        generalize Lib.decDigits (m % 10).toNat = D3 at l3 H3 ⊢
        go_wp2
        go_ret2
        exact RetP.text (by rw [H1.out, H2.out, H3.out]; simp [cat]) rfl
  · have H1 := Lib.hid (altT_out hr)
    go_enter Tryz.func210, Tryz.ntmps210
    go_wp2
    all_goals try omega
    all_goals
      go_ret2
      exact RetP.text H1.out rfl
end Go.Proofs.YtjgondadpjildaaGreatDoor
namespace Go.Proofs.YtjgondadpjildaaGreatDoor
open Go.RowKit Go.Sort
set_option linter.unusedVariables false
set_option linter.unusedSimpArgs false
set_option maxRecDepth 100000
attribute [local go_sem] ba_cat cat_len
theorem altIn_any (a : Int) (h0 : -200000 ≤ a) (h1 : a ≤ 6000000) (w : World) (hL : Laid w) : Calls Tryz.prog 144 #[.int .i64 a] w (Ret w (.tuple #[.string ⟨(altS a).toArray⟩, .int .i64 0])) := by
  have h := altText_any a w hL
  rwa [altT_in ⟨h0, h1⟩] at h
theorem raltIn_any (a : Int) (h0 : -200000 ≤ a) (h1 : a ≤ 6000000) (w : World) : Calls Tryz.prog 210 #[.int .i64 a] w (RetP w (.tuple #[.string ⟨(altS a).toArray⟩, .int .i64 0])) := by
  have h := raltText_any a w
  rwa [altT_in ⟨h0, h1⟩] at h
theorem winS_1 : winS (-200000) 6000000 = [45] := rfl
theorem winS_2 (a : Int) : winS a a = altS a := by unfold winS; rw [if_neg (by omega), if_pos rfl]
theorem winS_3 {a : Int} (h1 : a ≠ -200000) (h2 : a ≠ 6000000) : winS a 6000000 = altS a ++ [43] := by unfold winS; rw [if_neg (by omega), if_neg (by omega), if_pos rfl]
theorem winS_4 {a : Int} (h1 : a ≠ -200000) (h2 : a ≠ 6000000) : winS (-200000) a = altS a ++ [45] := by unfold winS; rw [if_neg (by omega), if_neg (by omega), if_neg (by omega), if_pos rfl]
theorem winS_5 {a b : Int} (h1 : a ≠ -200000) (h2 : b ≠ 6000000) (h3 : a ≠ b) : winS a b = altS a ++ (58 :: altS b) := by unfold winS; rw [if_neg (by omega), if_neg (by omega), if_neg (by omega), if_neg (by omega)]
theorem cat_two (a b : List UInt8) : cat a b = a ++ b := rfl
set_option maxHeartbeats 4000000 in
theorem winText_in (lo hi : Int) (w : World) (hL : Laid w) (h : winOk lo hi) : Calls Tryz.prog 88 #[.agg (Win.arr ⟨lo, hi⟩)] w (Ret w (.tuple #[.string ⟨(winS lo hi).toArray⟩, .int .i64 0])) := by
  obtain ⟨h1, h2, h3⟩ := h
  have k1 : lo ≤ 6000000 := by omega
  have k2 : -200000 ≤ hi := by omega
  have La := altS_len h1 k1
  have Lb := altS_len k2 h3
  have HW := Lib.hid (show winS lo hi = if lo = -200000 ∧ hi = 6000000 then [45] else if lo = hi then altS lo else if hi = 6000000 then altS lo ++ [43] else if lo = -200000 then altS hi ++ [45] else altS lo ++ (58 :: altS hi) from rfl)
  have c1 := Lib.hid (fun w L => altIn_any lo h1 k1 w L)
  have c2 := Lib.hid (fun w L => altIn_any hi k2 h3 w L)
  generalize altS lo = A at La HW c1
  generalize altS hi = B at Lb HW c2
  have L0 := hL.alloc (.cells #[.int .i64 lo, .int .i64 hi] 34)
  have n1 : ¬ lo < -200000 := by omega
  have n2 : ¬ hi < lo := by omega
  have n3 : ¬ 6000000 < hi := by omega
  have B0 := alloc_below w (.cells #[.int .i64 lo, .int .i64 hi] 34)
  clear k1 k2
  go_enter Tryz.func88, Tryz.ntmps88
  simp only [Win.arr]
  go_wp2_with fail
  with_reducible refine callR (c1.out _ L0) ?_
  intro w1 b1 _ _ _
  have L1 := L0.below b1
  have e1 : w1.cell? ⟨w.heap.size, 1, none⟩ = some (.int .i64 hi) := ((Blk.new w #[.int .i64 lo, .int .i64 hi] 34).step b1).cell 1
  go_wp2_with fail
  with_reducible refine callR (c2.out _ L1) ?_
  intro w2 b2 _ _ _
  clear e1
  have e0 : w2.cell? ⟨w.heap.size, 0, none⟩ = some (.int .i64 lo) := (((Blk.new w #[.int .i64 lo, .int .i64 hi] 34).step b1).step b2).cell 0
  have e1 : w2.cell? ⟨w.heap.size, 1, none⟩ = some (.int .i64 hi) := (((Blk.new w #[.int .i64 lo, .int .i64 hi] 34).step b1).step b2).cell 1
  have HB := Lib.hid (below_step (below_step B0 b1) b2)
  clear b1 b2 B0 L0 L1 c1 c2
  go_wp2
  all_goals
    go_ret2
    refine Ret.text (x := (winS lo hi, 0)) ?_ HB.out
    rw [HW.out]
    (try simp only [cat_two])
    grind
theorem winText_any (lo hi : Int) (w : World) (hL : Laid w) : Calls Tryz.prog 88 #[.agg (Win.arr ⟨lo, hi⟩)] w (Ret w (textVal (winT lo hi))) := by
  by_cases h : winOk lo hi
  · rw [winT_in h]; exact winText_in lo hi w hL h
  · have HT := Lib.hid (winT_out h)
    have HO := Lib.hid h; clear h
    go_enter Tryz.func88, Tryz.ntmps88
    simp only [Win.arr]
    go_wp2_with fail
    all_goals first
      | (exfalso; apply HO.out; unfold winOk; omega)
      | (go_ret2; exact Ret.text HT.out (alloc_below _ _))
set_option maxHeartbeats 4000000 in
theorem distText_any (d : Int) (w : World) (hL : Laid w) : Calls Tryz.prog 143 #[.int .i64 d] w (Ret w (textVal (distT d))) := by
  by_cases hr : 0 ≤ d ∧ d ≤ 8000000
  · have H1 := Lib.hid (distT_in hr)
    obtain ⟨r1, r2⟩ := hr
    have l1 := dec_len9 (d / 6000) (by omega)
    have l2 := dec_len9 (d % 6000) (by omega)
    by_cases hk : d % 6000 = 0
    · have H3 := Lib.hid (distS_whole r1 hk)
      go_enter Tryz.func143, Tryz.ntmps143
      go_wp2_with fail
      with_reducible refine callR (fmtN_any (d / 6000) (by omega) (by omega) _ hL) ?_
      intro w1 b1 _ _ _
      generalize Lib.decDigits (d / 6000).toNat = D1 at l1 H3 ⊢
      go_wp2
      go_ret2
      exact Ret.text (by rw [H1.out, H3.out]) b1
    · have H3 := Lib.hid (distS_part r1 hk)
      go_enter Tryz.func143, Tryz.ntmps143
      go_wp2_with fail
      with_reducible refine callR (fmtN_any (d / 6000) (by omega) (by omega) _ hL) ?_
      intro w1 b1 _ _ _
      have L1 := hL.below b1
      generalize Lib.decDigits (d / 6000).toNat = D1 at l1 H3 ⊢
      go_wp2_with fail
      with_reducible refine callR (fmtN_any (d % 6000) (by omega) (by omega) _ L1) ?_
      intro w2 b2 _ _ _
      generalize Lib.decDigits (d % 6000).toNat = D2 at l2 H3 ⊢
      go_wp2
      go_ret2
      exact Ret.text (by rw [H1.out, H3.out]; simp [cat]) (below_step b1 b2)
  · have H1 := Lib.hid (distT_out hr)
    go_enter Tryz.func143, Tryz.ntmps143
    go_wp2
    all_goals try omega
    all_goals
      go_ret2
      exact Ret.text H1.out (Below.refl _ _)
theorem distance_any (c : UInt8) (d : Int) (w : World) (hL : Laid w) (h0 : 0 ≤ d) (h1 : d ≤ 8000000) : Calls Tryz.prog 87 #[.string ⟨#[c]⟩, .int .i64 d] w (Ret w (.string ⟨(c :: distS d.toNat).toArray⟩)) := by
  have k := distText_any d w hL
  rw [distT_in ⟨h0, h1⟩] at k
  have K := Lib.hid k; clear k
  have hl := distS_len (d := d.toNat) (by omega)
  generalize distS d.toNat = D at hl K ⊢
  go_enter Tryz.func87, Tryz.ntmps87
  go_wp2_with (go_at_call 143; ((with_reducible refine callR K.out ?_); intro w1 b1 _ _ _))
  go_ret
  exact Ret.str rfl b1
end Go.Proofs.YtjgondadpjildaaGreatDoor
