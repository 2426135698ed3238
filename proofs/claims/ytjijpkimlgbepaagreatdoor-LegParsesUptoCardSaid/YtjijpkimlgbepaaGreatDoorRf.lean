/- The statement's function LegParses returns true. Printed by wip/mklaw16q.py. -/
import Derived.Test.YtjijpkimlgbepaaGreatDoorPk42
import Derived.Test.YtjijpkimlgbepaaGreatDoorRe
namespace Go.Proofs.YtjijpkimlgbepaaGreatDoor
open Go.RowKit Go.Sort
set_option linter.unusedVariables false
set_option linter.unusedSimpArgs false
set_option maxHeartbeats 4000000 in
set_option maxRecDepth 100000 in
theorem lawLegParses_any (s : List UInt8) (w : World) (hL : Laid w) (hO : Open16 w) (hs : s.length ≤ 4000000000) : Calls Tryz.prog 5 #[.string ⟨s.toArray⟩] w (Ret w (.bool true)) := by
  by_cases hlen : (800 : Int) < ((s.length : Nat) : Int)
  · go_enter Tryz.func5, Tryz.ntmps5
    go_wp2_with (go_at_call 11; ((with_reducible refine callR (awake16_any w hL hO) ?_); intro w1 hb1 hc1 hf1 hz1))
    go_ret
    exact Ret.bool rfl hb1
  · have hl8 : s.length ≤ 800 := by omega
    clear hlen hs
    have hcases := parse_cases s
    have k1 := Lib.hid (fun W hL => parse_any s W hL (by omega))
    have k2 := Lib.hid (fun W => rparse_any s W (by omega))
    have hc2 : ∃ m c e, parseS s = (m, c, e) ∧ ((e != 0) = true ∨ (e = 0 ∧ legCheck m = 0 ∧ textS m = s ∧ m.small)) := by
      rcases hcases with ⟨c, h, _⟩ | ⟨e, h, h2⟩ | ⟨h1, h2, h3, h4, h5⟩
      · exact ⟨_, _, _, h, .inl (by decide)⟩
      · exact ⟨_, _, _, h, .inl (by simpa using h2)⟩
      · exact ⟨_, _, _, h3, .inr ⟨rfl, h1, h2, ⟨by omega, by omega⟩⟩⟩
    clear hcases
    obtain ⟨m, c, e, hp, hc2⟩ := hc2
    rw [hp] at k1 k2
    clear hp
    have HC := Lib.hid hc2
    clear hc2
    have N1 := run_neq_leg m m
    rw [(Leg.eqB_iff m m).2 rfl] at N1
    have BW := Below.refl w.heap.size w
    have LW := hL
    go_enter Tryz.func5, Tryz.ntmps5
    go_wp2_with fail
    with_reducible refine callR (awake16_any _ LW (hO.below BW)) ?_
    intro w1 b1 _ _ _
    have BW := below_step BW b1
    have LW := hL.below BW
    go_wp2_with fail
    with_reducible refine callR (k1.out _ LW) ?_
    intro w2 b2 _ _ _
    have BW := below_step BW b2
    have LW := hL.below BW
    go_upto_region 6 with (fail)
    have BV := BW
    have Xg1 := Blk.new w2 m.arr 26
    have BW := below_step BW (alloc_below w2 (.cells m.arr 26))
    generalize w2.alloc _ = w3 at Xg1 BW ⊢
    obtain ⟨g1, eg1⟩ : ∃ g, g = w2.heap.size := ⟨_, rfl⟩
    have mg1 : w.heap.size ≤ g1 := by have := BV.size; omega
    rw [← eg1] at Xg1  ⊢
    clear eg1 BV
    have LW := hL.below BW
    have hg1 : Has_leg w3 g1 0 := ⟨_, Xg1.is_leg⟩
    have og1 : of_leg w3 g1 0 = m := of_leg_eq Xg1.is_leg
    have qg1 := Xg1.plain
    have rg1 := Xg1.of
    have cg1 := Xg1.cell
    have fg1 := Xg1.frozen
    go_wp2_with fail
    with_reducible refine callR (k2.out _) ?_
    intro w4 b4 _ _ _
    clear hg1 og1 qg1 rg1 cg1 fg1
    have Xg1 := Xg1.step b4
    have BW := below_step BW b4
    have LW := hL.below BW
    have hg1 : Has_leg w4 g1 0 := ⟨_, Xg1.is_leg⟩
    have og1 : of_leg w4 g1 0 = m := of_leg_eq Xg1.is_leg
    have qg1 := Xg1.plain
    have rg1 := Xg1.of
    have cg1 := Xg1.cell
    have fg1 := Xg1.frozen
    go_upto_region 7 with (fail)
    clear hg1 og1 qg1 rg1 cg1 fg1
    have ng1g2 : g1 < w4.heap.size := Xg1.lt
    have BV := BW
    have Xg2 := Blk.new w4 m.arr 26
    have Xg1 := Xg1.alloc (.cells m.arr 26)
    have BW := below_step BW (alloc_below w4 (.cells m.arr 26))
    generalize w4.alloc _ = w5 at Xg1 Xg2 BW ⊢
    obtain ⟨g2, eg2⟩ : ∃ g, g = w4.heap.size := ⟨_, rfl⟩
    have mg2 : w.heap.size ≤ g2 := by have := BV.size; omega
    rw [← eg2] at Xg2 ng1g2 ⊢
    clear eg2 BV
    have LW := hL.below BW
    have hg1 : Has_leg w5 g1 0 := ⟨_, Xg1.is_leg⟩
    have og1 : of_leg w5 g1 0 = m := of_leg_eq Xg1.is_leg
    have qg1 := Xg1.plain
    have rg1 := Xg1.of
    have cg1 := Xg1.cell
    have fg1 := Xg1.frozen
    have hg2 : Has_leg w5 g2 0 := ⟨_, Xg2.is_leg⟩
    have og2 : of_leg w5 g2 0 = m := of_leg_eq Xg2.is_leg
    have qg2 := Xg2.plain
    have rg2 := Xg2.of
    have cg2 := Xg2.cell
    have fg2 := Xg2.frozen
    go_upto_region 9 with (fail)
    rcases HC.out with he | ⟨rfl, h1, h2, h3⟩
    · go_wp2
      go_ret
      exact Ret.bool rfl BW
    · have kt := Lib.hid (fun W hL => text_ok m W hL h3 (legOk_of h1))
      rw [h2] at kt
      clear h1 h2
      go_wp2_with fail
      with_reducible refine callR (kt.out _ LW) ?_
      intro w6 b6 _ _ _
      clear hg1 og1 qg1 rg1 cg1 fg1
      clear hg2 og2 qg2 rg2 cg2 fg2
      have Xg1 := Xg1.step b6
      have Xg2 := Xg2.step b6
      have BW := below_step BW b6
      have LW := hL.below BW
      have hg1 : Has_leg w6 g1 0 := ⟨_, Xg1.is_leg⟩
      have og1 : of_leg w6 g1 0 = m := of_leg_eq Xg1.is_leg
      have qg1 := Xg1.plain
      have rg1 := Xg1.of
      have cg1 := Xg1.cell
      have fg1 := Xg1.frozen
      have hg2 : Has_leg w6 g2 0 := ⟨_, Xg2.is_leg⟩
      have og2 : of_leg w6 g2 0 = m := of_leg_eq Xg2.is_leg
      have qg2 := Xg2.plain
      have rg2 := Xg2.of
      have cg2 := Xg2.cell
      have fg2 := Xg2.frozen
      go_wp2
      go_ret
      exact Ret.bool (by simp) BW
end Go.Proofs.YtjijpkimlgbepaaGreatDoor
