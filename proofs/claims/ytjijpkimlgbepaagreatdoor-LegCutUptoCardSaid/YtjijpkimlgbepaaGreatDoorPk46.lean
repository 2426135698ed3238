/- The statements' functions LegWindow, LegText, LegCut return true. Printed by wip/mklaw16.py. -/
import Derived.Test.YtjijpkimlgbepaaGreatDoorPk42
import Derived.Test.YtjijpkimlgbepaaGreatDoorPk43
import Derived.Test.YtjijpkimlgbepaaGreatDoorPk45
namespace Go.Proofs.YtjijpkimlgbepaaGreatDoor
open Go.RowKit Go.Sort
set_option linter.unusedVariables false
set_option linter.unusedSimpArgs false
theorem spanW_le {B : Nat} : ∀ ws : List (List UInt8), (∀ s ∈ ws, s.length ≤ B) → spanW ws ≤ ws.length * (B + 1)
  | [], _ => by simp [spanW]
  | a :: q, h => by
    have h1 := spanW_le q fun s hs => h s (by simp [hs])
    have h2 := h a (by simp)
    rw [spanW_cons, List.length_cons, Nat.add_mul]
    omega
theorem ref_len {s : List UInt8} (h : refB s = true) : s.length ≤ 13 := by
  have h0 : (splitRef s).2.2 = 0 := by simpa [refB] using h
  unfold splitRef splitRef3 at h0
  by_cases hq : (cutAt 47 s).2.2 = true
  · rw [if_pos hq] at h0
    by_cases hn : (nameB (cutAt 47 s).1 6 && (nameB (cutAt 47 s).2.1 6 || shortB (cutAt 47 s).2.1)) = true
    · have hp := congrArg List.length (cutAt_parts 47 s hq)
      simp only [Bool.and_eq_true, Bool.or_eq_true] at hn
      have nl : ∀ {l : List UInt8}, nameB l 6 = true → l.length ≤ 6 := fun {l} h => by
        unfold nameB at h
        split at h
        · cases h
        · simp only [Bool.and_eq_true, decide_eq_true_eq] at h; omega
      have a1 := nl hn.1
      have a2 : (cutAt 47 s).2.1.length ≤ 6 := by
        rcases hn.2 with h2 | h2
        · exact nl h2
        · unfold shortB at h2; simp only [Bool.and_eq_true, beq_iff_eq] at h2; omega
      simp only [List.length_append, List.length_cons] at hp
      omega
    · rw [if_neg hn] at h0; cases h0
  · rw [if_neg hq] at h0; cases h0
theorem textS_len {l : Leg} (h : legCheck l = 0) : (textS l).length ≤ 13000 := by
  have hO := legOk_of h
  have hne : legWords l (txOf l) ≠ [] := by rw [legWords_eq]; simp
  have h1 := join_len _ hne
  have h2 := legWords_len l (txOf l)
  have h3 : ∀ s ∈ legWords l (txOf l), s.length ≤ 1001 := by
    intro s hs
    have h3 := nameOf_len l.ty
    have hm := tx_small hO
    simp only [List.mem_cons, List.not_mem_nil, or_false, forall_eq_or_imp, forall_eq, List.length_cons] at hm
    obtain ⟨m1, m2, m3, m4, m5, m6, m7⟩ := hm
    simp only [legWords, List.mem_append, List.mem_singleton] at hs
    have big : ∀ {b : Bool} {t x : List UInt8}, (b = true → t.length ≤ 1001) → x ∈ opt b t → x.length ≤ 1001 := fun {b t x} ht hx => by
      cases b
      · cases hx
      · have : x = t := by simpa [opt] using hx
        rw [this]; exact ht rfl
    rcases hs with (((((((((((hs | hs) | hs) | hs) | hs) | hs) | hs) | hs) | hs) | hs) | hs) | hs)
    · rw [hs]; omega
    · exact big (fun hb => by have := ref_len (refB_iff.2 (by have := hO.fix; rwa [hb] at this)); omega) hs
    · exact big (fun hb => by have := ref_len (refB_iff.2 (by have := hO.center; rwa [hb] at this)); simp only [List.length_cons]; omega) hs
    · exact big (fun hb => by split <;> simp) hs
    all_goals exact big (fun hb => by simp only [txOf, List.length_cons, List.length_nil]; omega) hs
  have h4 := spanW_le _ h3
  rw [textS_eq h]
  have h5 : (legWords l (txOf l)).length * (1001 + 1) ≤ 12 * 1002 := Nat.mul_le_mul h2 (Nat.le_refl _)
  omega
theorem parse_textS_any {l : Leg} (h : legCheck l = 0) (W : World) (hL : Laid W) : Calls Tryz.prog 16 #[.string ⟨(textS l).toArray⟩] W (Ret W (.tuple #[.agg l.arr, .int .i64 0, .int .i64 0])) := by
  have k := parse_any (textS l) W hL (by have := textS_len h; omega)
  rwa [parse_textS h] at k
set_option maxHeartbeats 4000000 in
set_option maxRecDepth 100000 in
theorem lawLegText_any (l : Leg) (w : World) (hL : Laid w) (hO : Open16 w) (hl : l.small) : Calls Tryz.prog 4 #[l.val] w (Ret w (.bool true)) := by
  by_cases hk : legCheck l = 0
  · have k0 := Lib.hid (fun W hL => by have := check_any l W hL hl; rwa [hk] at this)
    have k1 := Lib.hid (fun W hL => text_ok l W hL hl (legOk_of hk))
    have k2 := Lib.hid (fun W => rtext_ok l W hl hk)
    have k4 := Lib.hid (fun W hL => parse_textS_any hk W hL)
    generalize textS l = T at k1 k2 k4
    have N1 := run_eql_leg l l
    rw [(Leg.eqB_iff l l).2 rfl] at N1
    clear hk
    have BW := Below.refl w.heap.size w
    have LW := hL
    go_enter Tryz.func4, Tryz.ntmps4
    go_upto_region 1 with (fail)
    have Xg := Blk.new w l.arr 26
    have BW := below_step BW (alloc_below (w) (.cells l.arr 26))
    generalize (w.alloc (.cells l.arr 26)) = w1 at Xg BW ⊢
    obtain ⟨g, eg⟩ : ∃ g, g = w.heap.size := ⟨_, rfl⟩
    have mg : w.heap.size ≤ g := by omega
    rw [← eg] at Xg ⊢
    clear eg
    have LW := hL.below BW
    have hg : Has_leg w1 g 0 := ⟨_, Xg.is_leg⟩
    have og : of_leg w1 g 0 = l := of_leg_eq Xg.is_leg
    have qg := Xg.plain
    have rg := Xg.of
    have cg := Xg.cell
    have fg := Xg.frozen
    go_wp2_with fail
    with_reducible refine callR (awake16_any _ LW (hO.below BW)) ?_
    intro w2 b2 _ _ _
    clear hg og qg rg cg fg
    have Xg := Xg.step b2
    have BW := below_step BW b2
    have LW := hL.below BW
    have hg : Has_leg w2 g 0 := ⟨_, Xg.is_leg⟩
    have og : of_leg w2 g 0 = l := of_leg_eq Xg.is_leg
    have qg := Xg.plain
    have rg := Xg.of
    have cg := Xg.cell
    have fg := Xg.frozen
    go_wp2_with fail
    with_reducible refine callR (k1.out _ LW) ?_
    intro w3 b3 _ _ _
    clear hg og qg rg cg fg
    have Xg := Xg.step b3
    have BW := below_step BW b3
    have LW := hL.below BW
    have hg : Has_leg w3 g 0 := ⟨_, Xg.is_leg⟩
    have og : of_leg w3 g 0 = l := of_leg_eq Xg.is_leg
    have qg := Xg.plain
    have rg := Xg.of
    have cg := Xg.cell
    have fg := Xg.frozen
    go_wp2_with fail
    with_reducible refine callR (k2.out _) ?_
    intro w4 b4 _ _ _
    clear hg og qg rg cg fg
    have Xg := Xg.step b4
    have BW := below_step BW b4
    have LW := hL.below BW
    have hg : Has_leg w4 g 0 := ⟨_, Xg.is_leg⟩
    have og : of_leg w4 g 0 = l := of_leg_eq Xg.is_leg
    have qg := Xg.plain
    have rg := Xg.of
    have cg := Xg.cell
    have fg := Xg.frozen
    go_wp2_with fail
    with_reducible refine callR (k0.out _ LW) ?_
    intro w5 b5 _ _ _
    clear hg og qg rg cg fg
    have Xg := Xg.step b5
    have BW := below_step BW b5
    have LW := hL.below BW
    have hg : Has_leg w5 g 0 := ⟨_, Xg.is_leg⟩
    have og : of_leg w5 g 0 = l := of_leg_eq Xg.is_leg
    have qg := Xg.plain
    have rg := Xg.of
    have cg := Xg.cell
    have fg := Xg.frozen
    go_wp2_with fail
    with_reducible refine callR (k4.out _ LW) ?_
    intro w6 b6 _ _ _
    clear hg og qg rg cg fg
    have Xg := Xg.step b6
    have BW := below_step BW b6
    have LW := hL.below BW
    have hg : Has_leg w6 g 0 := ⟨_, Xg.is_leg⟩
    have og : of_leg w6 g 0 = l := of_leg_eq Xg.is_leg
    have qg := Xg.plain
    have rg := Xg.of
    have cg := Xg.cell
    have fg := Xg.frozen
    go_upto_region 9 with (fail)
    clear hg og qg rg cg fg
    have ngg2 : g < w6.heap.size := Xg.lt
    have BV := BW
    have Xg2 := Blk.new w6 l.arr 26
    have Xg := Xg.alloc (.cells l.arr 26)
    have BW := below_step BW (alloc_below w6 (.cells l.arr 26))
    generalize w6.alloc _ = w7 at Xg Xg2 BW ⊢
    obtain ⟨g2, eg2⟩ : ∃ g, g = w6.heap.size := ⟨_, rfl⟩
    have mg2 : w.heap.size ≤ g2 := by have := BV.size; omega
    rw [← eg2] at Xg2 ngg2 ⊢
    clear eg2 BV
    have LW := hL.below BW
    have hg : Has_leg w7 g 0 := ⟨_, Xg.is_leg⟩
    have og : of_leg w7 g 0 = l := of_leg_eq Xg.is_leg
    have qg := Xg.plain
    have rg := Xg.of
    have cg := Xg.cell
    have fg := Xg.frozen
    have hg2 : Has_leg w7 g2 0 := ⟨_, Xg2.is_leg⟩
    have og2 : of_leg w7 g2 0 = l := of_leg_eq Xg2.is_leg
    have qg2 := Xg2.plain
    have rg2 := Xg2.of
    have cg2 := Xg2.cell
    have fg2 := Xg2.frozen
    go_wp2
    go_ret
    exact Ret.bool rfl BW
  · have k0 := Lib.hid (fun W hL => check_any l W hL hl)
    have hk1 : (legCheck l != 0) = true := by simpa using hk
    have k1 := Lib.hid (fun W hL => text_no l W hL hl hk1)
    have k2 := Lib.hid (fun W => rtext_no l W hl hk1)
    clear hk
    have BW := Below.refl w.heap.size w
    have LW := hL
    go_enter Tryz.func4, Tryz.ntmps4
    go_upto_region 1 with (fail)
    have Xg := Blk.new w l.arr 26
    have BW := below_step BW (alloc_below (w) (.cells l.arr 26))
    generalize (w.alloc (.cells l.arr 26)) = w1 at Xg BW ⊢
    obtain ⟨g, eg⟩ : ∃ g, g = w.heap.size := ⟨_, rfl⟩
    have mg : w.heap.size ≤ g := by omega
    rw [← eg] at Xg ⊢
    clear eg
    have LW := hL.below BW
    have hg : Has_leg w1 g 0 := ⟨_, Xg.is_leg⟩
    have og : of_leg w1 g 0 = l := of_leg_eq Xg.is_leg
    have qg := Xg.plain
    have rg := Xg.of
    have cg := Xg.cell
    have fg := Xg.frozen
    go_wp2_with fail
    with_reducible refine callR (awake16_any _ LW (hO.below BW)) ?_
    intro w2 b2 _ _ _
    clear hg og qg rg cg fg
    have Xg := Xg.step b2
    have BW := below_step BW b2
    have LW := hL.below BW
    have hg : Has_leg w2 g 0 := ⟨_, Xg.is_leg⟩
    have og : of_leg w2 g 0 = l := of_leg_eq Xg.is_leg
    have qg := Xg.plain
    have rg := Xg.of
    have cg := Xg.cell
    have fg := Xg.frozen
    go_wp2_with fail
    with_reducible refine callR (k1.out _ LW) ?_
    intro w3 b3 _ _ _
    clear hg og qg rg cg fg
    have Xg := Xg.step b3
    have BW := below_step BW b3
    have LW := hL.below BW
    have hg : Has_leg w3 g 0 := ⟨_, Xg.is_leg⟩
    have og : of_leg w3 g 0 = l := of_leg_eq Xg.is_leg
    have qg := Xg.plain
    have rg := Xg.of
    have cg := Xg.cell
    have fg := Xg.frozen
    go_wp2_with fail
    with_reducible refine callR (k2.out _) ?_
    intro w4 b4 _ _ _
    clear hg og qg rg cg fg
    have Xg := Xg.step b4
    have BW := below_step BW b4
    have LW := hL.below BW
    have hg : Has_leg w4 g 0 := ⟨_, Xg.is_leg⟩
    have og : of_leg w4 g 0 = l := of_leg_eq Xg.is_leg
    have qg := Xg.plain
    have rg := Xg.of
    have cg := Xg.cell
    have fg := Xg.frozen
    go_wp2_with fail
    with_reducible refine callR (k0.out _ LW) ?_
    intro w5 b5 _ _ _
    clear hg og qg rg cg fg
    have Xg := Xg.step b5
    have BW := below_step BW b5
    have LW := hL.below BW
    have hg : Has_leg w5 g 0 := ⟨_, Xg.is_leg⟩
    have og : of_leg w5 g 0 = l := of_leg_eq Xg.is_leg
    have qg := Xg.plain
    have rg := Xg.of
    have cg := Xg.cell
    have fg := Xg.frozen
    go_wp2
    go_ret
    exact Ret.bool rfl BW
theorem winTo_splice (l : Leg) (lo hi : Int) : splice l.arr 9 (Win.arr ⟨lo, hi⟩) = (l.winTo lo hi).arr := rfl
theorem fits_win (l : Leg) : Fits 9 2 l.arr = True := eq_true (by unfold Fits; rw [Leg.arr_size]; omega)
set_option maxHeartbeats 4000000 in
set_option maxRecDepth 100000 in
theorem lawLegWindow_aux (l : Leg) (lo hi : Int) (w : World) (hL : Laid w) (hO : Open16 w) (hl : l.small) (hk : legCheck l = 0) (e : Int) (he : legCheck (l.winTo lo hi) = e)
    (hc : ((lo < -200000 ∨ 6000000 < hi ∨ hi < lo) ∧ e = 2) ∨ (-200000 < lo ∧ hi ≤ 6000000 ∧ lo ≤ hi ∧ e = 0) ∨ (lo = -200000 ∧ hi ≤ 6000000 ∧ lo ≤ hi ∧ e = if climbsB l.ty then 2 else 0)) :
    Calls Tryz.prog 6 #[l.val, .agg (Win.arr ⟨lo, hi⟩)] w (Ret w (.bool true)) := by
  have k0 := Lib.hid (fun W hL => by have := check_any l W hL hl; rwa [hk] at this)
  have k1 := Lib.hid (fun W hL => by have := check_any (l.winTo lo hi) W hL ⟨hl.fix, hl.center⟩; rwa [he] at this)
  have HC := Lib.hid hc
  clear hk hc he
  have BW := Below.refl w.heap.size w
  have LW := hL
  go_enter Tryz.func6, Tryz.ntmps6
  go_upto_region 1 with (fail)
  have Xg := Blk.new w l.arr 26
  have BW := below_step BW (alloc_below (w) (.cells l.arr 26))
  have Xk : Blk ((w.alloc (.cells l.arr 26)).alloc (.cells (Win.mk lo hi).arr 24)) (w.heap.size + 1) (Win.mk lo hi).arr := by have := Blk.new ((w.alloc (.cells l.arr 26))) (Win.mk lo hi).arr 24; simpa using this
  have Xg := Xg.alloc (.cells (Win.mk lo hi).arr 24)
  have BW := below_step BW (alloc_below ((w.alloc (.cells l.arr 26))) (.cells (Win.mk lo hi).arr 24))
  generalize ((w.alloc (.cells l.arr 26)).alloc (.cells (Win.mk lo hi).arr 24)) = w1 at Xg Xk BW ⊢
  obtain ⟨k, ek⟩ : ∃ g, g = w.heap.size + 1 := ⟨_, rfl⟩
  have mk : w.heap.size ≤ k := by omega
  rw [← ek] at Xk ⊢
  obtain ⟨g, eg⟩ : ∃ g, g = w.heap.size := ⟨_, rfl⟩
  have mg : w.heap.size ≤ g := by omega
  have ngk : g < k := by omega
  rw [← eg] at Xg ⊢
  clear eg
  clear ek
  have LW := hL.below BW
  have hg : Has_leg w1 g 0 := ⟨_, Xg.is_leg⟩
  have og : of_leg w1 g 0 = l := of_leg_eq Xg.is_leg
  have qg := Xg.plain
  have rg := Xg.of
  have cg := Xg.cell
  have fg := Xg.frozen
  have hk : Has_win w1 k 0 := ⟨_, Xk.is_win⟩
  have ok : of_win w1 k 0 = (Win.mk lo hi) := of_win_eq Xk.is_win
  have qk := Xk.plain
  have rk := Xk.of
  have ck := Xk.cell
  have fk := Xk.frozen
  go_wp2_with fail
  with_reducible refine callR (awake16_any _ LW (hO.below BW)) ?_
  intro w2 b2 _ _ _
  clear hg og qg rg cg fg
  clear hk ok qk rk ck fk
  have Xg := Xg.step b2
  have Xk := Xk.step b2
  have BW := below_step BW b2
  have LW := hL.below BW
  have hg : Has_leg w2 g 0 := ⟨_, Xg.is_leg⟩
  have og : of_leg w2 g 0 = l := of_leg_eq Xg.is_leg
  have qg := Xg.plain
  have rg := Xg.of
  have cg := Xg.cell
  have fg := Xg.frozen
  have hk : Has_win w2 k 0 := ⟨_, Xk.is_win⟩
  have ok : of_win w2 k 0 = (Win.mk lo hi) := of_win_eq Xk.is_win
  have qk := Xk.plain
  have rk := Xk.of
  have ck := Xk.cell
  have fk := Xk.frozen
  go_wp2_with fail
  with_reducible refine callR (k0.out _ LW) ?_
  intro w3 b3 _ _ _
  clear hg og qg rg cg fg
  clear hk ok qk rk ck fk
  have Xg := Xg.step b3
  have Xk := Xk.step b3
  have BW := below_step BW b3
  have LW := hL.below BW
  have hg : Has_leg w3 g 0 := ⟨_, Xg.is_leg⟩
  have og : of_leg w3 g 0 = l := of_leg_eq Xg.is_leg
  have qg := Xg.plain
  have rg := Xg.of
  have cg := Xg.cell
  have fg := Xg.frozen
  have hk : Has_win w3 k 0 := ⟨_, Xk.is_win⟩
  have ok : of_win w3 k 0 = (Win.mk lo hi) := of_win_eq Xk.is_win
  have qk := Xk.plain
  have rk := Xk.of
  have ck := Xk.cell
  have fk := Xk.frozen
  have FW := fits_win l
  go_upto_region 6 with (fail)
  clear hg og qg rg cg fg
  clear hk ok qk rk ck fk
  clear FW
  rw [winTo_splice]
  have Xg : Blk (w3.setRow g (l.winTo lo hi).arr) g (l.winTo lo hi).arr := Xg.set _
  have Xk := Xk.far (g' := g) (by omega) (l.winTo lo hi).arr
  have BW := below_setRow' BW mg (l.winTo lo hi).arr
  generalize w3.setRow g _ = w4 at Xg Xk BW ⊢
  have LW := hL.below BW
  have hg : Has_leg w4 g 0 := ⟨_, Xg.is_leg⟩
  have og : of_leg w4 g 0 = l.winTo lo hi := of_leg_eq Xg.is_leg
  have qg := Xg.plain
  have rg := Xg.of
  have cg := Xg.cell
  have fg := Xg.frozen
  have hk : Has_win w4 k 0 := ⟨_, Xk.is_win⟩
  have ok : of_win w4 k 0 = (Win.mk lo hi) := of_win_eq Xk.is_win
  have qk := Xk.plain
  have rk := Xk.of
  have ck := Xk.cell
  have fk := Xk.frozen
  go_wp2_with fail
  with_reducible refine callR (k1.out _ LW) ?_
  intro w5 b5 _ _ _
  clear hg og qg rg cg fg
  clear hk ok qk rk ck fk
  have Xg := Xg.step b5
  have Xk := Xk.step b5
  have BW := below_step BW b5
  have LW := hL.below BW
  have hg : Has_leg w5 g 0 := ⟨_, Xg.is_leg⟩
  have og : of_leg w5 g 0 = l.winTo lo hi := of_leg_eq Xg.is_leg
  have qg := Xg.plain
  have rg := Xg.of
  have cg := Xg.cell
  have fg := Xg.frozen
  have hk : Has_win w5 k 0 := ⟨_, Xk.is_win⟩
  have ok : of_win w5 k 0 = (Win.mk lo hi) := of_win_eq Xk.is_win
  have qk := Xk.plain
  have rk := Xk.of
  have ck := Xk.cell
  have fk := Xk.frozen
  have t0 : w5.cell? ⟨g, 0, none⟩ = some (.int .u8 l.ty) := cg 0
  clear hg og qg rg cg fg hk ok qk rk fk
  rcases HC.out with ⟨hb, rfl⟩ | ⟨b1, b2, b3, rfl⟩ | ⟨rfl, b2, b3, he⟩
  · go_wp2
    all_goals first
      | (exfalso; omega)
      | (go_ret; exact Ret.bool rfl BW)
  · go_wp2
    all_goals first
      | (exfalso; omega)
      | (go_ret; exact Ret.bool rfl BW)
  · have HE := Lib.hid he; clear he
    go_upto_region 11 with (fail)
    all_goals try (exfalso; omega)
    go_cut [6] (fun sv wx => sv = .bool (climbsB l.ty) ∧ wx = w5)
    case first =>
      obtain ⟨a1, h1⟩ : ∃ a, (l.ty == 7) = a := ⟨_, rfl⟩
      obtain ⟨a2, h2⟩ : ∃ a, (l.ty == 11) = a := ⟨_, rfl⟩
      obtain ⟨a3, h3⟩ : ∃ a, (l.ty == 14) = a := ⟨_, rfl⟩
      have HB := Lib.hid (show climbsB l.ty = (a1 || a2 || a3) by rw [climbsB, h1, h2, h3])
      cases a1 <;> cases a2 <;> cases a3
      all_goals (go_wp2; all_goals (go_meet; exact ⟨by rw [HB.out]; rfl, rfl⟩))
    case rest =>
      obtain ⟨rfl, rfl⟩ := hcut
      cases hcl : climbsB l.ty
      · obtain rfl : e = 0 := by have he := HE.out; rw [hcl] at he; exact he
        go_wp2
        all_goals (go_ret; exact Ret.bool (by simp) BW)
      · obtain rfl : e = 2 := by have he := HE.out; rw [hcl] at he; exact he
        go_wp2
        all_goals (go_ret; exact Ret.bool (by simp) BW)
set_option maxHeartbeats 4000000 in
set_option maxRecDepth 100000 in
theorem lawLegWindow_any (l : Leg) (lo hi : Int) (w : World) (hL : Laid w) (hO : Open16 w) (hl : l.small) : Calls Tryz.prog 6 #[l.val, .agg (Win.arr ⟨lo, hi⟩)] w (Ret w (.bool true)) := by
  by_cases hk : legCheck l = 0
  · refine lawLegWindow_aux l lo hi w hL hO hl hk _ rfl ?_
    by_cases hb : lo < -200000 ∨ 6000000 < hi ∨ hi < lo
    · exact .inl ⟨hb, winTo_bad l lo hi hk hb⟩
    · by_cases h1 : -200000 < lo
      · exact .inr (.inl ⟨h1, by omega, by omega, winTo_good l lo hi hk h1 (by omega) (by omega)⟩)
      · obtain rfl : lo = -200000 := by omega
        exact .inr (.inr ⟨rfl, by omega, by omega, winTo_low l hi hk (by omega) (by omega)⟩)
  · have k0 := Lib.hid (fun W hL => check_any l W hL hl)
    have hk1 : (legCheck l != 0) = true := by simpa using hk
    clear hk
    have BW := Below.refl w.heap.size w
    have LW := hL
    go_enter Tryz.func6, Tryz.ntmps6
    go_upto_region 1 with (fail)
    have Xg := Blk.new w l.arr 26
    have BW := below_step BW (alloc_below (w) (.cells l.arr 26))
    have Xk : Blk ((w.alloc (.cells l.arr 26)).alloc (.cells (Win.mk lo hi).arr 24)) (w.heap.size + 1) (Win.mk lo hi).arr := by have := Blk.new ((w.alloc (.cells l.arr 26))) (Win.mk lo hi).arr 24; simpa using this
    have Xg := Xg.alloc (.cells (Win.mk lo hi).arr 24)
    have BW := below_step BW (alloc_below ((w.alloc (.cells l.arr 26))) (.cells (Win.mk lo hi).arr 24))
    generalize ((w.alloc (.cells l.arr 26)).alloc (.cells (Win.mk lo hi).arr 24)) = w1 at Xg Xk BW ⊢
    obtain ⟨k, ek⟩ : ∃ g, g = w.heap.size + 1 := ⟨_, rfl⟩
    have mk : w.heap.size ≤ k := by omega
    rw [← ek] at Xk ⊢
    obtain ⟨g, eg⟩ : ∃ g, g = w.heap.size := ⟨_, rfl⟩
    have mg : w.heap.size ≤ g := by omega
    have ngk : g < k := by omega
    rw [← eg] at Xg ⊢
    clear eg
    clear ek
    have LW := hL.below BW
    have hg : Has_leg w1 g 0 := ⟨_, Xg.is_leg⟩
    have og : of_leg w1 g 0 = l := of_leg_eq Xg.is_leg
    have qg := Xg.plain
    have rg := Xg.of
    have cg := Xg.cell
    have fg := Xg.frozen
    have hk : Has_win w1 k 0 := ⟨_, Xk.is_win⟩
    have ok : of_win w1 k 0 = (Win.mk lo hi) := of_win_eq Xk.is_win
    have qk := Xk.plain
    have rk := Xk.of
    have ck := Xk.cell
    have fk := Xk.frozen
    go_wp2_with fail
    with_reducible refine callR (awake16_any _ LW (hO.below BW)) ?_
    intro w2 b2 _ _ _
    clear hg og qg rg cg fg
    clear hk ok qk rk ck fk
    have Xg := Xg.step b2
    have Xk := Xk.step b2
    have BW := below_step BW b2
    have LW := hL.below BW
    have hg : Has_leg w2 g 0 := ⟨_, Xg.is_leg⟩
    have og : of_leg w2 g 0 = l := of_leg_eq Xg.is_leg
    have qg := Xg.plain
    have rg := Xg.of
    have cg := Xg.cell
    have fg := Xg.frozen
    have hk : Has_win w2 k 0 := ⟨_, Xk.is_win⟩
    have ok : of_win w2 k 0 = (Win.mk lo hi) := of_win_eq Xk.is_win
    have qk := Xk.plain
    have rk := Xk.of
    have ck := Xk.cell
    have fk := Xk.frozen
    go_wp2_with fail
    with_reducible refine callR (k0.out _ LW) ?_
    intro w3 b3 _ _ _
    clear hg og qg rg cg fg
    clear hk ok qk rk ck fk
    have Xg := Xg.step b3
    have Xk := Xk.step b3
    have BW := below_step BW b3
    have LW := hL.below BW
    have hg : Has_leg w3 g 0 := ⟨_, Xg.is_leg⟩
    have og : of_leg w3 g 0 = l := of_leg_eq Xg.is_leg
    have qg := Xg.plain
    have rg := Xg.of
    have cg := Xg.cell
    have fg := Xg.frozen
    have hk : Has_win w3 k 0 := ⟨_, Xk.is_win⟩
    have ok : of_win w3 k 0 = (Win.mk lo hi) := of_win_eq Xk.is_win
    have qk := Xk.plain
    have rk := Xk.of
    have ck := Xk.cell
    have fk := Xk.frozen
    go_wp2
    go_ret
    exact Ret.bool rfl BW
theorem words_take : ∀ (T : List UInt8) (e : Nat) (h : e < T.length), T[e] = 32 → words (T.take e) = (words T).take ((T.take e).count 32 + 1)
  | x :: r, 0, h, he => by
    have : x = 32 := he
    simp [words, this]
  | x :: r, e + 1, h, he => by
    have ih := words_take r e (by simpa using h) (by simpa using he)
    by_cases hx : x = 32
    · simp only [List.take_succ_cons, words, hx, if_true, List.count_cons_self]
      rw [ih]
    · rw [List.take_succ_cons, List.count_cons_of_ne hx]
      have h1 := words_ne r
      have h2 := words_ne (r.take e)
      unfold words
      rw [if_neg hx, if_neg hx]
      match hw : words r, hv : words (r.take e) with
      | [], _ => exact absurd hw h1
      | _, [] => exact absurd hv h2
      | a :: q, b :: p =>
        rw [hw, hv, List.take_succ_cons] at ih
        injection ih with i1 i2
        simp only [List.take_succ_cons, i1, i2]
theorem words_all (T : List UInt8) (k : Nat) (h : T.count 32 < k) : (words T).take k = words T := List.take_of_length_le (by rw [words_len]; omega)
theorem count_take_succ (T : List UInt8) (i : Nat) (h : i < T.length) : (T.take (i + 1)).count 32 = (T.take i).count 32 + if T[i] = 32 then 1 else 0 := by
  rw [List.take_succ_eq_append_getElem h, List.count_append]
  by_cases h2 : T[i] = 32
  · rw [if_pos h2, h2]; rfl
  · rw [if_neg h2, List.count_singleton]; simp [h2]
/-- The loop over the text: how many blanks are still to be met, and where the last one stood. -/
def CutRel (T : List UInt8) (k : Nat) (ve vl vi : Value) : Prop :=
  ∃ i lf e : Nat, i ≤ T.length ∧ ve = .int .i64 e ∧ vl = .int .i64 lf ∧ vi = .int .i64 i ∧ lf + (T.take i).count 32 = k ∧ e ≤ T.length ∧
    ((lf = k ∧ e = T.length) ∨ (lf < k ∧ ∃ h : e < T.length, T[e] = 32 ∧ (T.take e).count 32 + lf + 1 = k))
theorem cut_start (T : List UInt8) (k : Nat) : CutRel T k (.int .i64 (T.length : Nat)) (.int .i64 (k : Nat)) (.int .i64 0) :=
  ⟨0, k, T.length, by omega, rfl, rfl, rfl, by simp, Nat.le_refl _, .inl ⟨rfl, rfl⟩⟩
/-- What is cut off at the end: the first k words. -/
theorem cut_ends {T : List UInt8} {k i lf e : Nat} (hk : 1 ≤ k) (h1 : lf + (T.take i).count 32 = k) (h2 : (lf = k ∧ e = T.length) ∨ (lf < k ∧ ∃ h : e < T.length, T[e] = 32 ∧ (T.take e).count 32 + lf + 1 = k)) :
    (0 < lf → i = T.length → words (T.take T.length) = (words T).take k) ∧ (lf = 0 → words (T.take e) = (words T).take k) := by
  refine ⟨fun h0 hi => ?_, fun h0 => ?_⟩
  · rw [List.take_length, words_all]
    rw [hi, List.take_length] at h1; omega
  · rcases h2 with ⟨a, b⟩ | ⟨a, h, b, c⟩
    · omega
    · rw [words_take T e h b, show (T.take e).count 32 + 1 = k by omega]
theorem wmodk (n : Int) (h0 : 0 ≤ n) (h1 : n ≤ 255) : ∃ k : Nat, 1 ≤ k ∧ k ≤ 12 ∧ n % 12 + 1 = k := ⟨(n % 12 + 1).toNat, by omega, by omega, by omega⟩
/-- What the statement asks of the reading of the first words. -/
def CutOut (l : Leg) (n : Nat) (x : Leg × Int × Int) : Prop :=
  (∃ m, x = (m, 0, 0) ∧ m.ty = l.ty ∧ m.fix = l.fix ∧ m.center = l.center ∧ m.turn = l.turn ∧ m.course = l.course ∧ m.dist = l.dist ∧ m.radius = l.radius ∧ m.theta = l.theta) ∨ x = (leg0, (n : Int) + 2, 4) ∨ (climbsB l.ty = true ∧ x = (leg0, 0, 2))
theorem cut_out {l : Leg} (h : legCheck l = 0) {S : List UInt8} {k : Nat} (hk : 1 ≤ k) (hS : words S = (words (textS l)).take k) : CutOut l S.length (parseS S) := by
  rw [textS_words h] at hS
  rcases parse_cut (legOk_of h) S k hk False (fun h => h.elim) hS with ⟨m, hm, e⟩ | ⟨_, e⟩ | ⟨_, hc, e⟩
  · left
    exact ⟨m, e, hm.ty, hm.fix, hm.center, hm.turn, hm.course, hm.dist, hm.radius, hm.theta⟩
  · right; left; exact e
  · right; right; exact ⟨hc, e⟩
set_option maxHeartbeats 8000000 in
set_option maxRecDepth 100000 in
theorem lawLegCut_any (l : Leg) (n : Int) (w : World) (hL : Laid w) (hO : Open16 w) (hl : l.small) (hn0 : 0 ≤ n) (hn1 : n ≤ 255) : Calls Tryz.prog 7 #[l.val, .int .u8 n] w (Ret w (.bool true)) := by
  by_cases hk : legCheck l = 0
  · have k0 := Lib.hid (fun W hL => by have := check_any l W hL hl; rwa [hk] at this)
    have k1 := Lib.hid (fun W hL => text_ok l W hL hl (legOk_of hk))
    have KO := Lib.hid (fun (S : List UInt8) (k : Nat) (h1 : 1 ≤ k) h2 => cut_out hk (S := S) (k := k) h1 h2)
    have hT := textS_len hk
    generalize textS l = T at k1 KO hT
    clear hk
    obtain ⟨k, hk1, hk2, hkn⟩ := wmodk n hn0 hn1
    have HN := Lib.hid hkn; clear hkn
    have BW := Below.refl w.heap.size w
    have LW := hL
    go_enter Tryz.func7, Tryz.ntmps7
    go_upto_region 1 with (fail)
    have Xg := Blk.new w l.arr 26
    have BW := below_step BW (alloc_below (w) (.cells l.arr 26))
    generalize (w.alloc (.cells l.arr 26)) = w1 at Xg BW ⊢
    obtain ⟨g, eg⟩ : ∃ g, g = w.heap.size := ⟨_, rfl⟩
    have mg : w.heap.size ≤ g := by omega
    rw [← eg] at Xg ⊢
    clear eg
    have LW := hL.below BW
    have hg : Has_leg w1 g 0 := ⟨_, Xg.is_leg⟩
    have og : of_leg w1 g 0 = l := of_leg_eq Xg.is_leg
    have qg := Xg.plain
    have rg := Xg.of
    have cg := Xg.cell
    have fg := Xg.frozen
    go_wp2_with fail
    with_reducible refine callR (awake16_any _ LW (hO.below BW)) ?_
    intro w2 b2 _ _ _
    clear hg og qg rg cg fg
    have Xg := Xg.step b2
    have BW := below_step BW b2
    have LW := hL.below BW
    have hg : Has_leg w2 g 0 := ⟨_, Xg.is_leg⟩
    have og : of_leg w2 g 0 = l := of_leg_eq Xg.is_leg
    have qg := Xg.plain
    have rg := Xg.of
    have cg := Xg.cell
    have fg := Xg.frozen
    go_wp2_with fail
    with_reducible refine callR (k0.out _ LW) ?_
    intro w3 b3 _ _ _
    clear hg og qg rg cg fg
    have Xg := Xg.step b3
    have BW := below_step BW b3
    have LW := hL.below BW
    have hg : Has_leg w3 g 0 := ⟨_, Xg.is_leg⟩
    have og : of_leg w3 g 0 = l := of_leg_eq Xg.is_leg
    have qg := Xg.plain
    have rg := Xg.of
    have cg := Xg.cell
    have fg := Xg.frozen
    go_wp2_with fail
    with_reducible refine callR (k1.out _ LW) ?_
    intro w4 b4 _ _ _
    clear hg og qg rg cg fg
    have Xg := Xg.step b4
    have BW := below_step BW b4
    have LW := hL.below BW
    have hg : Has_leg w4 g 0 := ⟨_, Xg.is_leg⟩
    have og : of_leg w4 g 0 = l := of_leg_eq Xg.is_leg
    have qg := Xg.plain
    have rg := Xg.of
    have cg := Xg.cell
    have fg := Xg.frozen
    have Q1 : IntKind.u8.wrap (n.tmod 12) = n % 12 := by rw [Int.tmod_eq_emod_of_nonneg hn0]; simp only [IntKind.wrap, IntKind.bits, IntKind.signed]; simp; omega
    go_upto_region 7 with (fail)
    clear hg og qg rg cg fg
    rw [HN.out]
    clear Q1
    go_wp2
    go_loop [6, 7, 8] (fun ve vl vi => CutRel T k ve vl vi) (fun _ _ vi => T.length - (intOf vi).toNat)
    case atStart => exact cut_start T k
    case round =>
      obtain ⟨i, lf, e, hi, rfl, rfl, rfl, hc, he, hx⟩ := hrel
      have hend := cut_ends hk1 hc hx
      by_cases h0 : 0 < lf
      · by_cases hlt : i < T.length
        · have HS := Lib.hid (count_take_succ T i hlt)
          have hlf : lf ≤ 12 := by omega
          have HC := Lib.hid hc
          have HX := Lib.hid hx
          clear hend hc hx
          by_cases hb : T[i] = 32
          · have e1 : ((T[i].toNat : Int) == 32) = true := by rw [hb]; rfl
            have HB := Lib.hid hb; clear hb
            go_wp2
            go_round
            case rel => exact ⟨i + 1, lf - 1, i, by omega, rfl, by congr 1; omega, by go_num, by have h1 := HS.out; rw [if_pos HB.out] at h1; have h2 := HC.out; omega, by omega, .inr ⟨by have := HC.out; omega, hlt, HB.out, by have := HC.out; omega⟩⟩
            case measure => simp [intOf]; omega
          · have e1 : ((T[i].toNat : Int) == 32) = false := by
              have h := u8_ne (c := T[i]) (d := 32) hb
              exact h
            have HB := Lib.hid hb; clear hb
            go_wp2
            go_round
            case rel => exact ⟨i + 1, lf, e, by omega, rfl, rfl, by go_num, by have h1 := HS.out; rw [if_neg HB.out] at h1; have h2 := HC.out; omega, he, HX.out⟩
            case measure => simp [intOf]; omega
        · have hil : i = T.length := by omega
          have hS := hend.1 h0 hil
          have hSl : (T.take T.length).length = T.length := by rw [List.take_length]
          have HO := KO.out _ k hk1 hS
          rw [hSl] at HO
          have kP := Lib.hid (parse_any (T.take T.length) w4 LW (by rw [hSl]; omega))
          generalize parseS (T.take T.length) = x at HO kP
          rw [List.take_length] at kP
          clear hend hS hSl hx hc hil
          rcases HO with ⟨m, rfl, t1, t2, t3, t4, t5, t6, t7, t8⟩ | rfl | ⟨hcl, rfl⟩
          · have HT := Lib.hid (And.intro t1 (And.intro t2 (And.intro t3 (And.intro t4 (And.intro t5 (And.intro t6 (And.intro t7 t8))))))); clear t1 t2 t3 t4 t5 t6 t7 t8
            have hg : Has_leg w4 g 0 := ⟨_, Xg.is_leg⟩
            have og : of_leg w4 g 0 = l := of_leg_eq Xg.is_leg
            have qg := Xg.plain
            have rg := Xg.of
            have cg := Xg.cell
            have fg := Xg.frozen
            go_wp2_with fail
            with_reducible refine callR (kP.out) ?_
            intro w5 b5 _ _ _
            clear hg og qg rg cg fg
            have Xg := Xg.step b5
            have BW := below_step BW b5
            have LW := hL.below BW
            have hg : Has_leg w5 g 0 := ⟨_, Xg.is_leg⟩
            have og : of_leg w5 g 0 = l := of_leg_eq Xg.is_leg
            have qg := Xg.plain
            have rg := Xg.of
            have cg := Xg.cell
            have fg := Xg.frozen
            go_upto_region 16 with (fail)
            clear hg og qg rg cg fg
            have ngg2 : g < w5.heap.size := Xg.lt
            have BV := BW
            have Xg2 := Blk.new w5 m.arr 26
            have Xg := Xg.alloc (.cells m.arr 26)
            have BW := below_step BW (alloc_below w5 (.cells m.arr 26))
            generalize w5.alloc _ = w6 at Xg Xg2 BW ⊢
            obtain ⟨g2, eg2⟩ : ∃ g, g = w5.heap.size := ⟨_, rfl⟩
            have mg2 : w.heap.size ≤ g2 := by have := BV.size; omega
            rw [← eg2] at Xg2 ngg2 ⊢
            clear eg2 BV
            have LW := hL.below BW
            have hg : Has_leg w6 g 0 := ⟨_, Xg.is_leg⟩
            have og : of_leg w6 g 0 = l := of_leg_eq Xg.is_leg
            have qg := Xg.plain
            have rg := Xg.of
            have cg := Xg.cell
            have fg := Xg.frozen
            have hg2 : Has_leg w6 g2 0 := ⟨_, Xg2.is_leg⟩
            have og2 : of_leg w6 g2 0 = m := of_leg_eq Xg2.is_leg
            have qg2 := Xg2.plain
            have rg2 := Xg2.of
            have cg2 := Xg2.cell
            have fg2 := Xg2.frozen
            obtain ⟨t1, t2, t3, t4, t5, t6, t7, t8⟩ := HT.out
            go_wp2
            go_ret
            exact Ret.bool (by simp) BW
          · have hg : Has_leg w4 g 0 := ⟨_, Xg.is_leg⟩
            have og : of_leg w4 g 0 = l := of_leg_eq Xg.is_leg
            have qg := Xg.plain
            have rg := Xg.of
            have cg := Xg.cell
            have fg := Xg.frozen
            go_wp2_with fail
            with_reducible refine callR (kP.out) ?_
            intro w5 b5 _ _ _
            clear hg og qg rg cg fg
            have Xg := Xg.step b5
            have BW := below_step BW b5
            have LW := hL.below BW
            have hg : Has_leg w5 g 0 := ⟨_, Xg.is_leg⟩
            have og : of_leg w5 g 0 = l := of_leg_eq Xg.is_leg
            have qg := Xg.plain
            have rg := Xg.of
            have cg := Xg.cell
            have fg := Xg.frozen
            go_upto_region 16 with (fail)
            clear hg og qg rg cg fg
            have ngg2 : g < w5.heap.size := Xg.lt
            have BV := BW
            have Xg2 := Blk.new w5 leg0.arr 26
            have Xg := Xg.alloc (.cells leg0.arr 26)
            have BW := below_step BW (alloc_below w5 (.cells leg0.arr 26))
            generalize w5.alloc _ = w6 at Xg Xg2 BW ⊢
            obtain ⟨g2, eg2⟩ : ∃ g, g = w5.heap.size := ⟨_, rfl⟩
            have mg2 : w.heap.size ≤ g2 := by have := BV.size; omega
            rw [← eg2] at Xg2 ngg2 ⊢
            clear eg2 BV
            have LW := hL.below BW
            have hg : Has_leg w6 g 0 := ⟨_, Xg.is_leg⟩
            have og : of_leg w6 g 0 = l := of_leg_eq Xg.is_leg
            have qg := Xg.plain
            have rg := Xg.of
            have cg := Xg.cell
            have fg := Xg.frozen
            have hg2 : Has_leg w6 g2 0 := ⟨_, Xg2.is_leg⟩
            have og2 : of_leg w6 g2 0 = leg0 := of_leg_eq Xg2.is_leg
            have qg2 := Xg2.plain
            have rg2 := Xg2.of
            have cg2 := Xg2.cell
            have fg2 := Xg2.frozen
            go_wp2
            go_ret
            exact Ret.bool (by simp) BW
          · obtain ⟨a1, h1⟩ : ∃ a, (l.ty == 7) = a := ⟨_, rfl⟩
            obtain ⟨a2, h2⟩ : ∃ a, (l.ty == 11) = a := ⟨_, rfl⟩
            obtain ⟨a3, h3⟩ : ∃ a, (l.ty == 14) = a := ⟨_, rfl⟩
            have HB := Lib.hid (show (a1 || a2 || a3) = true by rw [← hcl, climbsB, h1, h2, h3])
            clear hcl
            have hg : Has_leg w4 g 0 := ⟨_, Xg.is_leg⟩
            have og : of_leg w4 g 0 = l := of_leg_eq Xg.is_leg
            have qg := Xg.plain
            have rg := Xg.of
            have cg := Xg.cell
            have fg := Xg.frozen
            go_wp2_with fail
            with_reducible refine callR (kP.out) ?_
            intro w5 b5 _ _ _
            clear hg og qg rg cg fg
            have Xg := Xg.step b5
            have BW := below_step BW b5
            have LW := hL.below BW
            have hg : Has_leg w5 g 0 := ⟨_, Xg.is_leg⟩
            have og : of_leg w5 g 0 = l := of_leg_eq Xg.is_leg
            have qg := Xg.plain
            have rg := Xg.of
            have cg := Xg.cell
            have fg := Xg.frozen
            go_upto_region 16 with (fail)
            clear hg og qg rg cg fg
            have ngg2 : g < w5.heap.size := Xg.lt
            have BV := BW
            have Xg2 := Blk.new w5 leg0.arr 26
            have Xg := Xg.alloc (.cells leg0.arr 26)
            have BW := below_step BW (alloc_below w5 (.cells leg0.arr 26))
            generalize w5.alloc _ = w6 at Xg Xg2 BW ⊢
            obtain ⟨g2, eg2⟩ : ∃ g, g = w5.heap.size := ⟨_, rfl⟩
            have mg2 : w.heap.size ≤ g2 := by have := BV.size; omega
            rw [← eg2] at Xg2 ngg2 ⊢
            clear eg2 BV
            have LW := hL.below BW
            have hg : Has_leg w6 g 0 := ⟨_, Xg.is_leg⟩
            have og : of_leg w6 g 0 = l := of_leg_eq Xg.is_leg
            have qg := Xg.plain
            have rg := Xg.of
            have cg := Xg.cell
            have fg := Xg.frozen
            have hg2 : Has_leg w6 g2 0 := ⟨_, Xg2.is_leg⟩
            have og2 : of_leg w6 g2 0 = leg0 := of_leg_eq Xg2.is_leg
            have qg2 := Xg2.plain
            have rg2 := Xg2.of
            have cg2 := Xg2.cell
            have fg2 := Xg2.frozen
            cases a1 <;> cases a2 <;> cases a3
            all_goals (go_wp2; all_goals (go_ret; exact Ret.bool (by have := HB.out; simp at this ⊢) BW))
      · have h00 : lf = 0 := by omega
        have hS := hend.2 h00
        have hSl : (T.take e).length = e := by rw [List.length_take]; omega
        have HO := KO.out _ k hk1 hS
        rw [hSl] at HO
        have kP := Lib.hid (parse_any (T.take e) w4 LW (by rw [hSl]; omega))
        generalize parseS (T.take e) = x at HO kP
        clear hend hS hSl hx hc
        subst h00
        by_cases hlt : i < T.length
        all_goals
          rcases HO with ⟨m, rfl, t1, t2, t3, t4, t5, t6, t7, t8⟩ | rfl | ⟨hcl, rfl⟩
          · have HT := Lib.hid (And.intro t1 (And.intro t2 (And.intro t3 (And.intro t4 (And.intro t5 (And.intro t6 (And.intro t7 t8))))))); clear t1 t2 t3 t4 t5 t6 t7 t8
            have hg : Has_leg w4 g 0 := ⟨_, Xg.is_leg⟩
            have og : of_leg w4 g 0 = l := of_leg_eq Xg.is_leg
            have qg := Xg.plain
            have rg := Xg.of
            have cg := Xg.cell
            have fg := Xg.frozen
            go_wp2_with fail
            with_reducible refine callR (kP.out) ?_
            intro w5 b5 _ _ _
            clear hg og qg rg cg fg
            have Xg := Xg.step b5
            have BW := below_step BW b5
            have LW := hL.below BW
            have hg : Has_leg w5 g 0 := ⟨_, Xg.is_leg⟩
            have og : of_leg w5 g 0 = l := of_leg_eq Xg.is_leg
            have qg := Xg.plain
            have rg := Xg.of
            have cg := Xg.cell
            have fg := Xg.frozen
            go_upto_region 16 with (fail)
            clear hg og qg rg cg fg
            have ngg2 : g < w5.heap.size := Xg.lt
            have BV := BW
            have Xg2 := Blk.new w5 m.arr 26
            have Xg := Xg.alloc (.cells m.arr 26)
            have BW := below_step BW (alloc_below w5 (.cells m.arr 26))
            generalize w5.alloc _ = w6 at Xg Xg2 BW ⊢
            obtain ⟨g2, eg2⟩ : ∃ g, g = w5.heap.size := ⟨_, rfl⟩
            have mg2 : w.heap.size ≤ g2 := by have := BV.size; omega
            rw [← eg2] at Xg2 ngg2 ⊢
            clear eg2 BV
            have LW := hL.below BW
            have hg : Has_leg w6 g 0 := ⟨_, Xg.is_leg⟩
            have og : of_leg w6 g 0 = l := of_leg_eq Xg.is_leg
            have qg := Xg.plain
            have rg := Xg.of
            have cg := Xg.cell
            have fg := Xg.frozen
            have hg2 : Has_leg w6 g2 0 := ⟨_, Xg2.is_leg⟩
            have og2 : of_leg w6 g2 0 = m := of_leg_eq Xg2.is_leg
            have qg2 := Xg2.plain
            have rg2 := Xg2.of
            have cg2 := Xg2.cell
            have fg2 := Xg2.frozen
            obtain ⟨t1, t2, t3, t4, t5, t6, t7, t8⟩ := HT.out
            go_wp2
            go_ret
            exact Ret.bool (by simp) BW
          · have hg : Has_leg w4 g 0 := ⟨_, Xg.is_leg⟩
            have og : of_leg w4 g 0 = l := of_leg_eq Xg.is_leg
            have qg := Xg.plain
            have rg := Xg.of
            have cg := Xg.cell
            have fg := Xg.frozen
            go_wp2_with fail
            with_reducible refine callR (kP.out) ?_
            intro w5 b5 _ _ _
            clear hg og qg rg cg fg
            have Xg := Xg.step b5
            have BW := below_step BW b5
            have LW := hL.below BW
            have hg : Has_leg w5 g 0 := ⟨_, Xg.is_leg⟩
            have og : of_leg w5 g 0 = l := of_leg_eq Xg.is_leg
            have qg := Xg.plain
            have rg := Xg.of
            have cg := Xg.cell
            have fg := Xg.frozen
            go_upto_region 16 with (fail)
            clear hg og qg rg cg fg
            have ngg2 : g < w5.heap.size := Xg.lt
            have BV := BW
            have Xg2 := Blk.new w5 leg0.arr 26
            have Xg := Xg.alloc (.cells leg0.arr 26)
            have BW := below_step BW (alloc_below w5 (.cells leg0.arr 26))
            generalize w5.alloc _ = w6 at Xg Xg2 BW ⊢
            obtain ⟨g2, eg2⟩ : ∃ g, g = w5.heap.size := ⟨_, rfl⟩
            have mg2 : w.heap.size ≤ g2 := by have := BV.size; omega
            rw [← eg2] at Xg2 ngg2 ⊢
            clear eg2 BV
            have LW := hL.below BW
            have hg : Has_leg w6 g 0 := ⟨_, Xg.is_leg⟩
            have og : of_leg w6 g 0 = l := of_leg_eq Xg.is_leg
            have qg := Xg.plain
            have rg := Xg.of
            have cg := Xg.cell
            have fg := Xg.frozen
            have hg2 : Has_leg w6 g2 0 := ⟨_, Xg2.is_leg⟩
            have og2 : of_leg w6 g2 0 = leg0 := of_leg_eq Xg2.is_leg
            have qg2 := Xg2.plain
            have rg2 := Xg2.of
            have cg2 := Xg2.cell
            have fg2 := Xg2.frozen
            go_wp2
            go_ret
            exact Ret.bool (by simp) BW
          · obtain ⟨a1, h1⟩ : ∃ a, (l.ty == 7) = a := ⟨_, rfl⟩
            obtain ⟨a2, h2⟩ : ∃ a, (l.ty == 11) = a := ⟨_, rfl⟩
            obtain ⟨a3, h3⟩ : ∃ a, (l.ty == 14) = a := ⟨_, rfl⟩
            have HB := Lib.hid (show (a1 || a2 || a3) = true by rw [← hcl, climbsB, h1, h2, h3])
            clear hcl
            have hg : Has_leg w4 g 0 := ⟨_, Xg.is_leg⟩
            have og : of_leg w4 g 0 = l := of_leg_eq Xg.is_leg
            have qg := Xg.plain
            have rg := Xg.of
            have cg := Xg.cell
            have fg := Xg.frozen
            go_wp2_with fail
            with_reducible refine callR (kP.out) ?_
            intro w5 b5 _ _ _
            clear hg og qg rg cg fg
            have Xg := Xg.step b5
            have BW := below_step BW b5
            have LW := hL.below BW
            have hg : Has_leg w5 g 0 := ⟨_, Xg.is_leg⟩
            have og : of_leg w5 g 0 = l := of_leg_eq Xg.is_leg
            have qg := Xg.plain
            have rg := Xg.of
            have cg := Xg.cell
            have fg := Xg.frozen
            go_upto_region 16 with (fail)
            clear hg og qg rg cg fg
            have ngg2 : g < w5.heap.size := Xg.lt
            have BV := BW
            have Xg2 := Blk.new w5 leg0.arr 26
            have Xg := Xg.alloc (.cells leg0.arr 26)
            have BW := below_step BW (alloc_below w5 (.cells leg0.arr 26))
            generalize w5.alloc _ = w6 at Xg Xg2 BW ⊢
            obtain ⟨g2, eg2⟩ : ∃ g, g = w5.heap.size := ⟨_, rfl⟩
            have mg2 : w.heap.size ≤ g2 := by have := BV.size; omega
            rw [← eg2] at Xg2 ngg2 ⊢
            clear eg2 BV
            have LW := hL.below BW
            have hg : Has_leg w6 g 0 := ⟨_, Xg.is_leg⟩
            have og : of_leg w6 g 0 = l := of_leg_eq Xg.is_leg
            have qg := Xg.plain
            have rg := Xg.of
            have cg := Xg.cell
            have fg := Xg.frozen
            have hg2 : Has_leg w6 g2 0 := ⟨_, Xg2.is_leg⟩
            have og2 : of_leg w6 g2 0 = leg0 := of_leg_eq Xg2.is_leg
            have qg2 := Xg2.plain
            have rg2 := Xg2.of
            have cg2 := Xg2.cell
            have fg2 := Xg2.frozen
            cases a1 <;> cases a2 <;> cases a3
            all_goals (go_wp2; all_goals (go_ret; exact Ret.bool (by have := HB.out; simp at this ⊢) BW))
  · have k0 := Lib.hid (fun W hL => check_any l W hL hl)
    have hk1 : (legCheck l != 0) = true := by simpa using hk
    clear hk
    have BW := Below.refl w.heap.size w
    have LW := hL
    go_enter Tryz.func7, Tryz.ntmps7
    go_upto_region 1 with (fail)
    have Xg := Blk.new w l.arr 26
    have BW := below_step BW (alloc_below (w) (.cells l.arr 26))
    generalize (w.alloc (.cells l.arr 26)) = w1 at Xg BW ⊢
    obtain ⟨g, eg⟩ : ∃ g, g = w.heap.size := ⟨_, rfl⟩
    have mg : w.heap.size ≤ g := by omega
    rw [← eg] at Xg ⊢
    clear eg
    have LW := hL.below BW
    have hg : Has_leg w1 g 0 := ⟨_, Xg.is_leg⟩
    have og : of_leg w1 g 0 = l := of_leg_eq Xg.is_leg
    have qg := Xg.plain
    have rg := Xg.of
    have cg := Xg.cell
    have fg := Xg.frozen
    go_wp2_with fail
    with_reducible refine callR (awake16_any _ LW (hO.below BW)) ?_
    intro w2 b2 _ _ _
    clear hg og qg rg cg fg
    have Xg := Xg.step b2
    have BW := below_step BW b2
    have LW := hL.below BW
    have hg : Has_leg w2 g 0 := ⟨_, Xg.is_leg⟩
    have og : of_leg w2 g 0 = l := of_leg_eq Xg.is_leg
    have qg := Xg.plain
    have rg := Xg.of
    have cg := Xg.cell
    have fg := Xg.frozen
    go_wp2_with fail
    with_reducible refine callR (k0.out _ LW) ?_
    intro w3 b3 _ _ _
    clear hg og qg rg cg fg
    have Xg := Xg.step b3
    have BW := below_step BW b3
    have LW := hL.below BW
    have hg : Has_leg w3 g 0 := ⟨_, Xg.is_leg⟩
    have og : of_leg w3 g 0 = l := of_leg_eq Xg.is_leg
    have qg := Xg.plain
    have rg := Xg.of
    have cg := Xg.cell
    have fg := Xg.frozen
    go_wp2
    go_ret
    exact Ret.bool rfl BW
end Go.Proofs.YtjijpkimlgbepaaGreatDoor
