/- The texts of altitudes, windows and distances: record.AltText, WindowText, DistText and what the references have for them. -/
import Derived.Test.YtjijpkimlgbepaaGreatDoorPk24
import Derived.Test.YtjijpkimlgbepaaGreatDoorPk25
namespace Go.Proofs.YtjijpkimlgbepaaGreatDoor
open Go.RowKit Go.Sort
set_option linter.unusedVariables false
set_option linter.unusedSimpArgs false
set_option maxRecDepth 100000
theorem fmtN_any (n : Int) (h0 : 0 ≤ n) (h1 : n ≤ 1000000000) (w : World) (hL : Laid w) : Calls Tryz.prog 101 #[.int .i64 n, .int .i64 10] w (Ret w (.string ⟨(Lib.decDigits n.toNat).toArray⟩)) := by
  have h := fmt_any n (by omega) (by omega) w hL
  rwa [show Lib.itoa n = Lib.decDigits n.toNat by unfold Lib.itoa; rw [if_neg (by omega)]] at h
theorem dec_len9 (n : Int) (h1 : n ≤ 1000000000) : (Lib.decDigits n.toNat).length ≤ 10 := dec_len (by decide) (by omega)
abbrev textVal (x : List UInt8 × Int) : Value := .tuple #[.string ⟨x.1.toArray⟩, .int .i64 x.2]
theorem Ret.text {w w' : World} {a : List UInt8} {b : Int} {x : List UInt8 × Int} (h : x = (a, b)) (hw : Below w.heap.size w w') : Ret w (textVal x) (.returned (.tuple #[.string ⟨a.toArray⟩, .int .i64 b])) w' := ⟨by rw [h], hw⟩
theorem RetP.text {w w' : World} {a : List UInt8} {b : Int} {x : List UInt8 × Int} (h : x = (a, b)) (hw : w = w') : RetP w (textVal x) (.returned (.tuple #[.string ⟨a.toArray⟩, .int .i64 b])) w' := ⟨by rw [h], hw⟩
attribute [local go_sem] ba_cat cat_len
set_option maxHeartbeats 4000000 in
theorem altText_any (a : Int) (w : World) (hL : Laid w) : Calls Tryz.prog 70 #[.int .i64 a] w (Ret w (textVal (altT a))) := by
  by_cases hr : -200000 ≤ a ∧ a ≤ 6000000
  · have H1 := Lib.hid (altT_in hr)
    obtain ⟨r1, r2⟩ := hr
    by_cases hn : 0 ≤ a
    · have H2 := Lib.hid (altS_pos hn)
      have l1 := dec_len9 (a / 100) (by omega)
      have l2 := dec_len9 (a % 100 / 10) (by omega)
      have l3 := dec_len9 (a % 10) (by omega)
      by_cases hk : a % 100 = 0
      · have H3 := Lib.hid (altN_whole hn hk)
        go_enter Tryz.func70, Tryz.ntmps70
        go_wp2_with fail
        with_reducible refine callR (fmtN_any (a / 100) (by omega) (by omega) _ hL) ?_
        intro w1 b1 _ _ _
        have L1 := hL.below b1
        generalize Lib.decDigits (a / 100).toNat = D1 at l1 H3 ⊢
        go_wp2
        go_ret2
        exact Ret.text (by rw [H1.out, H2.out, H3.out]; rfl) b1
      · have H3 := Lib.hid (altN_part hn hk)
        go_enter Tryz.func70, Tryz.ntmps70
        go_wp2_with fail
        with_reducible refine callR (fmtN_any (a / 100) (by omega) (by omega) _ hL) ?_
        intro w1 b1 _ _ _
        have L1 := hL.below b1
        generalize Lib.decDigits (a / 100).toNat = D1 at l1 H3 ⊢
        go_wp2_with fail
        with_reducible refine callR (fmtN_any (a % 100 / 10) (by omega) (by omega) _ L1) ?_
        intro w2 b2 _ _ _
        have L2 := L1.below b2
        generalize Lib.decDigits (a % 100 / 10).toNat = D2 at l2 H3 ⊢
        go_wp2_with fail
        with_reducible refine callR (fmtN_any (a % 10) (by omega) (by omega) _ L2) ?_
        intro w3 b3 _ _ _
        generalize Lib.decDigits (a % 10).toNat = D3 at l3 H3 ⊢
        go_wp2
        go_ret2
        exact Ret.text (by rw [H1.out, H2.out, H3.out]; simp [cat]) (below_step (below_step b1 b2) b3)
    · obtain ⟨m, rfl⟩ : ∃ m, a = -m := ⟨-a, by omega⟩
      have hm : 0 < m := by omega
      have hm2 : m ≤ 200000 := by omega
      have H2 := Lib.hid (altS_neg hm)
      have l1 := dec_len9 (m / 100) (by omega)
      have l2 := dec_len9 (m % 100 / 10) (by omega)
      have l3 := dec_len9 (m % 10) (by omega)
      by_cases hk : m % 100 = 0
      · have H3 := Lib.hid (altN_whole (by omega) hk)
        go_enter Tryz.func70, Tryz.ntmps70
        go_wp2_with fail
        with_reducible refine callR (fmtN_any (m / 100) (by omega) (by omega) _ hL) ?_
        intro w1 b1 _ _ _
        have L1 := hL.below b1
        generalize Lib.decDigits (m / 100).toNat = D1 at l1 H3 ⊢
        go_wp2
        go_ret2
        exact Ret.text (by rw [H1.out, H2.out, H3.out]; simp [cat]) b1
      · have H3 := Lib.hid (altN_part (by omega) hk)
        go_enter Tryz.func70, Tryz.ntmps70
        go_wp2_with fail
        with_reducible refine callR (fmtN_any (m / 100) (by omega) (by omega) _ hL) ?_
        intro w1 b1 _ _ _
        have L1 := hL.below b1
        generalize Lib.decDigits (m / 100).toNat = D1 at l1 H3 ⊢
        go_wp2_with fail
        with_reducible refine callR (fmtN_any (m % 100 / 10) (by omega) (by omega) _ L1) ?_
        intro w2 b2 _ _ _
        have L2 := L1.below b2
        generalize Lib.decDigits (m % 100 / 10).toNat = D2 at l2 H3 ⊢
        go_wp2_with fail
        with_reducible refine callR (fmtN_any (m % 10) (by omega) (by omega) _ L2) ?_
        intro w3 b3 _ _ _
        generalize Lib.decDigits (m % 10).toNat = D3 at l3 H3 ⊢
        go_wp2
        go_ret2
        exact Ret.text (by rw [H1.out, H2.out, H3.out]; simp [cat]) (below_step (below_step b1 b2) b3)
  · have H1 := Lib.hid (altT_out hr)
    go_enter Tryz.func70, Tryz.ntmps70
    go_wp2
    all_goals try omega
    all_goals
      go_ret2
      exact Ret.text H1.out (Below.refl _ _)
set_option maxHeartbeats 4000000 in
theorem raltText_any (a : Int) (w : World) : Calls Tryz.prog 77 #[.int .i64 a] w (RetP w (textVal (altT a))) := by
  by_cases hr : -200000 ≤ a ∧ a ≤ 6000000
  · have H1 := Lib.hid (altT_in hr)
    obtain ⟨r1, r2⟩ := hr
    by_cases hn : 0 ≤ a
    · have H2 := Lib.hid (altS_pos hn)
      have l1 := dec_len9 (a / 100) (by omega)
      have l2 := dec_len9 (a % 100 / 10) (by omega)
      have l3 := dec_len9 (a % 10) (by omega)
      by_cases hk : a % 100 = 0
      · have H3 := Lib.hid (altN_whole hn hk)
        go_enter Tryz.func77, Tryz.ntmps77
        go_wp2_with fail
        with_reducible refine callP (digits8_any (a / 100).toNat (a / 100) _ (Nat.le_refl _) (by omega) (by omega)) ?_
        generalize Lib.decDigits (a / 100).toNat = D1 at l1 H3 ⊢
        go_wp2
        go_ret2
        exact RetP.text (by rw [H1.out, H2.out, H3.out]; rfl) rfl
      · have H3 := Lib.hid (altN_part hn hk)
        go_enter Tryz.func77, Tryz.ntmps77
        go_wp2_with fail
        with_reducible refine callP (digits8_any (a / 100).toNat (a / 100) _ (Nat.le_refl _) (by omega) (by omega)) ?_
        generalize Lib.decDigits (a / 100).toNat = D1 at l1 H3 ⊢
        go_wp2_with fail
        with_reducible refine callP (digits8_any (a % 100 / 10).toNat (a % 100 / 10) _ (Nat.le_refl _) (by omega) (by omega)) ?_
        generalize Lib.decDigits (a % 100 / 10).toNat = D2 at l2 H3 ⊢
        go_wp2_with fail
        with_reducible refine callP (digits8_any (a % 10).toNat (a % 10) _ (Nat.le_refl _) (by omega) (by omega)) ?_
        generalize Lib.decDigits (a % 10).toNat = D3 at l3 H3 ⊢
        go_wp2
        go_ret2
        exact RetP.text (by rw [H1.out, H2.out, H3.out]; simp [cat]) rfl
    · obtain ⟨m, rfl⟩ : ∃ m, a = -m := ⟨-a, by omega⟩
      have hm : 0 < m := by omega
      have hm2 : m ≤ 200000 := by omega
      have H2 := Lib.hid (altS_neg hm)
      have l1 := dec_len9 (m / 100) (by omega)
      have l2 := dec_len9 (m % 100 / 10) (by omega)
      have l3 := dec_len9 (m % 10) (by omega)
      by_cases hk : m % 100 = 0
      · have H3 := Lib.hid (altN_whole (by omega) hk)
        go_enter Tryz.func77, Tryz.ntmps77
        go_wp2_with fail
        with_reducible refine callP (digits8_any (m / 100).toNat (m / 100) _ (Nat.le_refl _) (by omega) (by omega)) ?_
        generalize Lib.decDigits (m / 100).toNat = D1 at l1 H3 ⊢
        go_wp2
        go_ret2
        exact RetP.text (by rw [H1.out, H2.out, H3.out]; simp [cat]) rfl
      · have H3 := Lib.hid (altN_part (by omega) hk)
        go_enter Tryz.func77, Tryz.ntmps77
        go_wp2_with fail
        with_reducible refine callP (digits8_any (m / 100).toNat (m / 100) _ (Nat.le_refl _) (by omega) (by omega)) ?_
        generalize Lib.decDigits (m / 100).toNat = D1 at l1 H3 ⊢
        go_wp2_with fail
        with_reducible refine callP (digits8_any (m % 100 / 10).toNat (m % 100 / 10) _ (Nat.le_refl _) (by omega) (by omega)) ?_
        generalize Lib.decDigits (m % 100 / 10).toNat = D2 at l2 H3 ⊢
        go_wp2_with fail
        with_reducible refine callP (digits8_any (m % 10).toNat (m % 10) _ (Nat.le_refl _) (by omega) (by omega)) ?_
        generalize Lib.decDigits (m % 10).toNat = D3 at l3 H3 ⊢
        go_wp2
        go_ret2
        exact RetP.text (by rw [H1.out, H2.out, H3.out]; simp [cat]) rfl
  · have H1 := Lib.hid (altT_out hr)
    go_enter Tryz.func77, Tryz.ntmps77
    go_wp2
    all_goals try omega
    all_goals
      go_ret2
      exact RetP.text H1.out rfl
end Go.Proofs.YtjijpkimlgbepaaGreatDoor
