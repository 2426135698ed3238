/- The examples of the chapter, of which every statement of this layer begins: awake returns true. Printed by wip/mkawake16.py. -/
import Derived.Test.YtjijpkimlgbepaaGreatDoorPk39
import Derived.Test.YtjijpkimlgbepaaGreatDoorPk40
import Derived.Test.YtjijpkimlgbepaaGreatDoorPk06
namespace Go.Proofs.YtjijpkimlgbepaaGreatDoor
open Go.RowKit Go.Sort
set_option linter.unusedVariables false
set_option linter.unusedSimpArgs false
set_option maxRecDepth 100000
/-- The window without a restriction. -/
structure Open16 (w : World) : Prop where
  win : Is_win w 0 0 ⟨-200000, 6000000⟩
theorem Open16.below {w w' : World} (h : Open16 w) (hb : Below w.heap.size w w') : Open16 w' := by
  refine ⟨fun j hj => ?_⟩
  have hlt : 0 < w.heap.size := block_lt_of_cell (h.win 0 (by omega))
  rw [hb.cell (p := ⟨_, 0 + j, none⟩) hlt]; exact h.win j hj
abbrev aSEA : List UInt8 := [83, 69, 65, 47, 75, 49]
def aTf : Leg := ⟨2, aSEA, [], 0, false, 0, 0, 0, 0, -200000, 6000000, 0, 0⟩
theorem aTf_arr : aTf.arr = #[.int .u8 2, .string ⟨#[83, 69, 65, 47, 75, 49]⟩, .string ⟨#[]⟩, .int .u8 0, .bool false, .int .i64 0, .int .i64 0, .int .i64 0, .int .i64 0, .int .i64 (-200000), .int .i64 6000000, .int .i64 0, .int .i64 0] := rfl
def aBad : Leg := ⟨2, aSEA, [], 0, false, 1, 0, 0, 0, -200000, 6000000, 0, 0⟩
theorem aBad_arr : aBad.arr = #[.int .u8 2, .string ⟨#[83, 69, 65, 47, 75, 49]⟩, .string ⟨#[]⟩, .int .u8 0, .bool false, .int .i64 1, .int .i64 0, .int .i64 0, .int .i64 0, .int .i64 (-200000), .int .i64 6000000, .int .i64 0, .int .i64 0] := rfl
def aNone : Leg := ⟨2, [], [], 0, false, 0, 0, 0, 0, -200000, 6000000, 0, 0⟩
theorem aNone_arr : aNone.arr = #[.int .u8 2, .string ⟨#[]⟩, .string ⟨#[]⟩, .int .u8 0, .bool false, .int .i64 0, .int .i64 0, .int .i64 0, .int .i64 0, .int .i64 (-200000), .int .i64 6000000, .int .i64 0, .int .i64 0] := rfl
def aTf2 : Leg := ⟨2, aSEA, [], 0, true, 0, 0, 0, 0, 1000000, 6000000, 250, 0⟩
theorem aTf2_arr : aTf2.arr = #[.int .u8 2, .string ⟨#[83, 69, 65, 47, 75, 49]⟩, .string ⟨#[]⟩, .int .u8 0, .bool true, .int .i64 0, .int .i64 0, .int .i64 0, .int .i64 0, .int .i64 1000000, .int .i64 6000000, .int .i64 250, .int .i64 0] := rfl
def aRf : Leg := ⟨5, [69, 76, 77, 65, 65, 47, 75, 49], [67, 84, 82, 48, 49, 47, 75, 49], 2, false, 0, 0, 18000, 0, -200000, 6000000, 0, 0⟩
theorem aRf_arr : aRf.arr = #[.int .u8 5, .string ⟨#[69, 76, 77, 65, 65, 47, 75, 49]⟩, .string ⟨#[67, 84, 82, 48, 49, 47, 75, 49]⟩, .int .u8 2, .bool false, .int .i64 0, .int .i64 0, .int .i64 18000, .int .i64 0, .int .i64 (-200000), .int .i64 6000000, .int .i64 0, .int .i64 0] := rfl
def aHm : Leg := ⟨16, aSEA, [], 2, false, 57600000, 30000, 0, 0, 500000, 900000, 0, 0⟩
theorem aHm_arr : aHm.arr = #[.int .u8 16, .string ⟨#[83, 69, 65, 47, 75, 49]⟩, .string ⟨#[]⟩, .int .u8 2, .bool false, .int .i64 57600000, .int .i64 30000, .int .i64 0, .int .i64 0, .int .i64 500000, .int .i64 900000, .int .i64 0, .int .i64 0] := rfl
def aCd : Leg := ⟨8, [], aSEA, 0, false, 57600000, 75000, 0, 0, -200000, 6000000, 0, 0⟩
theorem aCd_arr : aCd.arr = #[.int .u8 8, .string ⟨#[]⟩, .string ⟨#[83, 69, 65, 47, 75, 49]⟩, .int .u8 0, .bool false, .int .i64 57600000, .int .i64 75000, .int .i64 0, .int .i64 0, .int .i64 (-200000), .int .i64 6000000, .int .i64 0, .int .i64 0] := rfl
theorem aTf_small : aTf.small := ⟨by decide, by decide⟩
theorem aBad_small : aBad.small := ⟨by decide, by decide⟩
theorem aNone_small : aNone.small := ⟨by decide, by decide⟩
theorem aTf2_small : aTf2.small := ⟨by decide, by decide⟩
theorem aRf_small : aRf.small := ⟨by decide, by decide⟩
theorem aHm_small : aHm.small := ⟨by decide, by decide⟩
theorem aCd_small : aCd.small := ⟨by decide, by decide⟩
theorem aTf_ck : legCheck aTf = 0 := by decide +kernel
theorem aTf_tx : textS aTf = [84, 70, 32, 83, 69, 65, 47, 75, 49] := by decide +kernel
theorem aTf_text (w : World) (hL : Laid w) : Calls Tryz.prog 14 #[.agg aTf.arr] w (Ret w (.string ⟨#[84, 70, 32, 83, 69, 65, 47, 75, 49]⟩)) := by
  have h := text_ok aTf w hL aTf_small (legOk_of aTf_ck)
  rw [aTf_tx] at h
  exact h
theorem aTf2_ck : legCheck aTf2 = 0 := by decide +kernel
theorem aTf2_tx : textS aTf2 = [84, 70, 32, 83, 69, 65, 47, 75, 49, 32, 111, 118, 101, 114, 32, 49, 48, 48, 48, 48, 43, 32, 115, 50, 53, 48] := by decide +kernel
theorem aTf2_text (w : World) (hL : Laid w) : Calls Tryz.prog 14 #[.agg aTf2.arr] w (Ret w (.string ⟨#[84, 70, 32, 83, 69, 65, 47, 75, 49, 32, 111, 118, 101, 114, 32, 49, 48, 48, 48, 48, 43, 32, 115, 50, 53, 48]⟩)) := by
  have h := text_ok aTf2 w hL aTf2_small (legOk_of aTf2_ck)
  rw [aTf2_tx] at h
  exact h
theorem aRf_ck : legCheck aRf = 0 := by decide +kernel
theorem aRf_tx : textS aRf = [82, 70, 32, 69, 76, 77, 65, 65, 47, 75, 49, 32, 64, 67, 84, 82, 48, 49, 47, 75, 49, 32, 82, 32, 114, 51] := by decide +kernel
theorem aRf_text (w : World) (hL : Laid w) : Calls Tryz.prog 14 #[.agg aRf.arr] w (Ret w (.string ⟨#[82, 70, 32, 69, 76, 77, 65, 65, 47, 75, 49, 32, 64, 67, 84, 82, 48, 49, 47, 75, 49, 32, 82, 32, 114, 51]⟩)) := by
  have h := text_ok aRf w hL aRf_small (legOk_of aRf_ck)
  rw [aRf_tx] at h
  exact h
theorem aHm_ck : legCheck aHm = 0 := by decide +kernel
theorem aHm_tx : textS aHm = [72, 77, 32, 83, 69, 65, 47, 75, 49, 32, 82, 32, 49, 54, 48, 48, 48, 48, 48, 48, 48, 32, 100, 53, 32, 53, 48, 48, 48, 58, 57, 48, 48, 48] := by decide +kernel
theorem aHm_text (w : World) (hL : Laid w) : Calls Tryz.prog 14 #[.agg aHm.arr] w (Ret w (.string ⟨#[72, 77, 32, 83, 69, 65, 47, 75, 49, 32, 82, 32, 49, 54, 48, 48, 48, 48, 48, 48, 48, 32, 100, 53, 32, 53, 48, 48, 48, 58, 57, 48, 48, 48]⟩)) := by
  have h := text_ok aHm w hL aHm_small (legOk_of aHm_ck)
  rw [aHm_tx] at h
  exact h
theorem aCd_ck : legCheck aCd = 0 := by decide +kernel
theorem aCd_tx : textS aCd = [67, 68, 32, 64, 83, 69, 65, 47, 75, 49, 32, 49, 54, 48, 48, 48, 48, 48, 48, 48, 32, 100, 49, 50, 43, 51, 48, 48, 48] := by decide +kernel
theorem aCd_text (w : World) (hL : Laid w) : Calls Tryz.prog 14 #[.agg aCd.arr] w (Ret w (.string ⟨#[67, 68, 32, 64, 83, 69, 65, 47, 75, 49, 32, 49, 54, 48, 48, 48, 48, 48, 48, 48, 32, 100, 49, 50, 43, 51, 48, 48, 48]⟩)) := by
  have h := text_ok aCd w hL aCd_small (legOk_of aCd_ck)
  rw [aCd_tx] at h
  exact h
theorem aTf_check (w : World) (hL : Laid w) : Calls Tryz.prog 12 #[.agg aTf.arr] w (Ret w (.int .i64 0)) := by
  have h := check_any aTf w hL aTf_small
  rw [show legCheck aTf = 0 by decide +kernel] at h
  exact h
theorem aBad_check (w : World) (hL : Laid w) : Calls Tryz.prog 12 #[.agg aBad.arr] w (Ret w (.int .i64 1)) := by
  have h := check_any aBad w hL aBad_small
  rw [show legCheck aBad = 1 by decide +kernel] at h
  exact h
theorem aNone_check (w : World) (hL : Laid w) : Calls Tryz.prog 12 #[.agg aNone.arr] w (Ret w (.int .i64 5)) := by
  have h := check_any aNone w hL aNone_small
  rw [show legCheck aNone = 5 by decide +kernel] at h
  exact h
theorem p0_eq : parseS [67, 68, 32, 64, 83, 69, 65, 47, 75, 49, 32, 49, 54, 48, 48, 48, 48, 48, 48, 48, 32, 100, 49, 50, 43, 51, 48, 48, 48] = (aCd, 0, 0) := by kernel_rfl
theorem p0_parse (w : World) (hL : Laid w) : Calls Tryz.prog 16 #[.string ⟨#[67, 68, 32, 64, 83, 69, 65, 47, 75, 49, 32, 49, 54, 48, 48, 48, 48, 48, 48, 48, 32, 100, 49, 50, 43, 51, 48, 48, 48]⟩] w (Ret w (.tuple #[.agg aCd.arr, .int .i64 0, .int .i64 0])) := by
  have h := parse_any [67, 68, 32, 64, 83, 69, 65, 47, 75, 49, 32, 49, 54, 48, 48, 48, 48, 48, 48, 48, 32, 100, 49, 50, 43, 51, 48, 48, 48] w hL (by decide)
  rw [p0_eq] at h
  exact h
theorem p1_eq : parseS [84, 70] = (leg0, 4, 4) := by kernel_rfl
theorem p1_parse (w : World) (hL : Laid w) : Calls Tryz.prog 16 #[.string ⟨#[84, 70]⟩] w (Ret w (.tuple #[.agg leg0.arr, .int .i64 4, .int .i64 4])) := by
  have h := parse_any [84, 70] w hL (by decide)
  rw [p1_eq] at h
  exact h
theorem p2_eq : parseS [84, 70, 32, 32, 83, 69, 65, 47, 75, 49] = (leg0, 4, 4) := by kernel_rfl
theorem p2_parse (w : World) (hL : Laid w) : Calls Tryz.prog 16 #[.string ⟨#[84, 70, 32, 32, 83, 69, 65, 47, 75, 49]⟩] w (Ret w (.tuple #[.agg leg0.arr, .int .i64 4, .int .i64 4])) := by
  have h := parse_any [84, 70, 32, 32, 83, 69, 65, 47, 75, 49] w hL (by decide)
  rw [p2_eq] at h
  exact h
theorem p3_eq : parseS [84, 70, 32, 83, 69, 65, 47, 75, 49, 32, 115, 50, 53, 48, 32, 111, 118, 101, 114] = (leg0, 16, 4) := by kernel_rfl
theorem p3_parse (w : World) (hL : Laid w) : Calls Tryz.prog 16 #[.string ⟨#[84, 70, 32, 83, 69, 65, 47, 75, 49, 32, 115, 50, 53, 48, 32, 111, 118, 101, 114]⟩] w (Ret w (.tuple #[.agg leg0.arr, .int .i64 16, .int .i64 4])) := by
  have h := parse_any [84, 70, 32, 83, 69, 65, 47, 75, 49, 32, 115, 50, 53, 48, 32, 111, 118, 101, 114] w hL (by decide)
  rw [p3_eq] at h
  exact h
theorem p4_eq : parseS [67, 65, 32, 49, 54, 48, 48, 48, 48, 48, 48, 48] = (leg0, 0, 2) := by kernel_rfl
theorem p4_parse (w : World) (hL : Laid w) : Calls Tryz.prog 16 #[.string ⟨#[67, 65, 32, 49, 54, 48, 48, 48, 48, 48, 48, 48]⟩] w (Ret w (.tuple #[.agg leg0.arr, .int .i64 0, .int .i64 2])) := by
  have h := parse_any [67, 65, 32, 49, 54, 48, 48, 48, 48, 48, 48, 48] w hL (by decide)
  rw [p4_eq] at h
  exact h
theorem p5_eq : parseS [88, 88] = (leg0, 1, 4) := by kernel_rfl
theorem p5_parse (w : World) (hL : Laid w) : Calls Tryz.prog 16 #[.string ⟨#[88, 88]⟩] w (Ret w (.tuple #[.agg leg0.arr, .int .i64 1, .int .i64 4])) := by
  have h := parse_any [88, 88] w hL (by decide)
  rw [p5_eq] at h
  exact h
theorem aCd_same (w : World) : (binOp .neq 26 (.agg aCd.arr) (.agg aCd.arr)).run Tryz.prog w = .ok (.bool false) w := by
  rw [run_neq_leg, show aCd.eqB aCd = true by decide +kernel]; rfl
attribute [local go_sem] wmk
set_option maxHeartbeats 8000000 in
theorem awake16_any (w : World) (hL : Laid w) (hO : Open16 w) : Calls Tryz.prog 11 #[] w (Ret w (.bool true)) := by
  go_enter Tryz.func11, Tryz.ntmps11
  have BW := Below.refl w.heap.size w
  have LW := hL
  have OW := hO
  have iO : Has_win w 0 0 := ⟨_, OW.win⟩
  have jO : of_win w 0 0 = ⟨-200000, 6000000⟩ := of_win_eq OW.win
  go_upto_region 2 with (fail)
  clear iO jO
  have BV := BW
  have Xg1 := Blk.new w #[.int .u8 2, .string ⟨#[83, 69, 65, 47, 75, 49]⟩, .string ⟨#[]⟩, .int .u8 0, .bool false, .int .i64 0, .int .i64 0, .int .i64 0, .int .i64 0, .int .i64 (-200000), .int .i64 6000000, .int .i64 0, .int .i64 0] 26
  have BW := below_step BW (alloc_below w (.cells #[.int .u8 2, .string ⟨#[83, 69, 65, 47, 75, 49]⟩, .string ⟨#[]⟩, .int .u8 0, .bool false, .int .i64 0, .int .i64 0, .int .i64 0, .int .i64 0, .int .i64 (-200000), .int .i64 6000000, .int .i64 0, .int .i64 0] 26))
  generalize w.alloc _ = w1 at Xg1 BW ⊢
  obtain ⟨g1, eg1⟩ : ∃ g, g = w.heap.size := ⟨_, rfl⟩
  have mg1 : w.heap.size ≤ g1 := by have := BV.size; omega
  rw [← eg1] at Xg1  ⊢
  clear eg1 BV
  replace Xg1 : Blk w1 g1 aTf.arr := Xg1
  have LW := hL.below BW
  have OW := hO.below BW
  have hg1 : Has_leg w1 g1 0 := ⟨_, Xg1.is_leg⟩
  have og1 : of_leg w1 g1 0 = aTf := of_leg_eq Xg1.is_leg
  have qg1 := Xg1.plain
  have rg1 := Xg1.of
  have cg1 := Xg1.cell
  have fg1 := Xg1.frozen
  have iO : Has_win w1 0 0 := ⟨_, OW.win⟩
  have jO : of_win w1 0 0 = ⟨-200000, 6000000⟩ := of_win_eq OW.win
  go_wp2_with fail
  with_reducible refine callR (aTf_check _ LW) ?_
  intro w2 b2 _ _ _
  clear hg1 og1 qg1 rg1 cg1 fg1
  clear iO jO
  have Xg1 := Xg1.step b2
  have BW := below_step BW b2
  have LW := hL.below BW
  have OW := hO.below BW
  have hg1 : Has_leg w2 g1 0 := ⟨_, Xg1.is_leg⟩
  have og1 : of_leg w2 g1 0 = aTf := of_leg_eq Xg1.is_leg
  have qg1 := Xg1.plain
  have rg1 := Xg1.of
  have cg1 := Xg1.cell
  have fg1 := Xg1.frozen
  have iO : Has_win w2 0 0 := ⟨_, OW.win⟩
  have jO : of_win w2 0 0 = ⟨-200000, 6000000⟩ := of_win_eq OW.win
  go_wp2_with fail
  with_reducible refine callR (aTf_text _ LW) ?_
  intro w3 b3 _ _ _
  clear hg1 og1 qg1 rg1 cg1 fg1
  clear iO jO
  have Xg1 := Xg1.step b3
  have BW := below_step BW b3
  have LW := hL.below BW
  have OW := hO.below BW
  have hg1 : Has_leg w3 g1 0 := ⟨_, Xg1.is_leg⟩
  have og1 : of_leg w3 g1 0 = aTf := of_leg_eq Xg1.is_leg
  have qg1 := Xg1.plain
  have rg1 := Xg1.of
  have cg1 := Xg1.cell
  have fg1 := Xg1.frozen
  have iO : Has_win w3 0 0 := ⟨_, OW.win⟩
  have jO : of_win w3 0 0 = ⟨-200000, 6000000⟩ := of_win_eq OW.win
  go_upto_region 5 with (fail)
  clear hg1 og1 qg1 rg1 cg1 fg1
  clear iO jO
  have ng1g2 : g1 < w3.heap.size := Xg1.lt
  have BV := BW
  have Xg2 := Blk.new w3 aTf.arr 26
  have Xg1 := Xg1.alloc (.cells aTf.arr 26)
  have BW := below_step BW (alloc_below w3 (.cells aTf.arr 26))
  generalize w3.alloc _ = w4 at Xg1 Xg2 BW ⊢
  obtain ⟨g2, eg2⟩ : ∃ g, g = w3.heap.size := ⟨_, rfl⟩
  have mg2 : w.heap.size ≤ g2 := by have := BV.size; omega
  rw [← eg2] at Xg2 ng1g2 ⊢
  clear eg2 BV
  replace Xg2 : Blk w4 g2 aTf.arr := Xg2
  have LW := hL.below BW
  have OW := hO.below BW
  have hg1 : Has_leg w4 g1 0 := ⟨_, Xg1.is_leg⟩
  have og1 : of_leg w4 g1 0 = aTf := of_leg_eq Xg1.is_leg
  have qg1 := Xg1.plain
  have rg1 := Xg1.of
  have cg1 := Xg1.cell
  have fg1 := Xg1.frozen
  have hg2 : Has_leg w4 g2 0 := ⟨_, Xg2.is_leg⟩
  have og2 : of_leg w4 g2 0 = aTf := of_leg_eq Xg2.is_leg
  have qg2 := Xg2.plain
  have rg2 := Xg2.of
  have cg2 := Xg2.cell
  have fg2 := Xg2.frozen
  have iO : Has_win w4 0 0 := ⟨_, OW.win⟩
  have jO : of_win w4 0 0 = ⟨-200000, 6000000⟩ := of_win_eq OW.win
  go_upto_region 6 with (fail)
  clear hg1 og1 qg1 rg1 cg1 fg1
  clear hg2 og2 qg2 rg2 cg2 fg2
  clear iO jO
  have Xg2 : Blk (w4.setCell ⟨g2, 5, none⟩ (.int .i64 1)) g2 aBad.arr := Xg2.setCell 5 _
  have Xg1 := Xg1.setFar (g' := g2) (by omega) 5 (.int .i64 1)
  have BW := below_setCell BW (show w.heap.size ≤ g2 by omega) 5 (.int .i64 1)
  generalize w4.setCell ⟨g2, 5, none⟩ (.int .i64 1) = w5 at Xg1 Xg2 BW ⊢
  have LW := hL.below BW
  have OW := hO.below BW
  have hg1 : Has_leg w5 g1 0 := ⟨_, Xg1.is_leg⟩
  have og1 : of_leg w5 g1 0 = aTf := of_leg_eq Xg1.is_leg
  have qg1 := Xg1.plain
  have rg1 := Xg1.of
  have cg1 := Xg1.cell
  have fg1 := Xg1.frozen
  have hg2 : Has_leg w5 g2 0 := ⟨_, Xg2.is_leg⟩
  have og2 : of_leg w5 g2 0 = aBad := of_leg_eq Xg2.is_leg
  have qg2 := Xg2.plain
  have rg2 := Xg2.of
  have cg2 := Xg2.cell
  have fg2 := Xg2.frozen
  have iO : Has_win w5 0 0 := ⟨_, OW.win⟩
  have jO : of_win w5 0 0 = ⟨-200000, 6000000⟩ := of_win_eq OW.win
  go_upto_region 7 with (fail)
  clear hg1 og1 qg1 rg1 cg1 fg1
  clear hg2 og2 qg2 rg2 cg2 fg2
  clear iO jO
  have ng1g3 : g1 < w5.heap.size := Xg1.lt
  have ng2g3 : g2 < w5.heap.size := Xg2.lt
  have BV := BW
  have Xg3 := Blk.new w5 aTf.arr 26
  have Xg1 := Xg1.alloc (.cells aTf.arr 26)
  have Xg2 := Xg2.alloc (.cells aTf.arr 26)
  have BW := below_step BW (alloc_below w5 (.cells aTf.arr 26))
  generalize w5.alloc _ = w6 at Xg1 Xg2 Xg3 BW ⊢
  obtain ⟨g3, eg3⟩ : ∃ g, g = w5.heap.size := ⟨_, rfl⟩
  have mg3 : w.heap.size ≤ g3 := by have := BV.size; omega
  rw [← eg3] at Xg3 ng1g3 ng2g3 ⊢
  clear eg3 BV
  replace Xg3 : Blk w6 g3 aTf.arr := Xg3
  have LW := hL.below BW
  have OW := hO.below BW
  have hg1 : Has_leg w6 g1 0 := ⟨_, Xg1.is_leg⟩
  have og1 : of_leg w6 g1 0 = aTf := of_leg_eq Xg1.is_leg
  have qg1 := Xg1.plain
  have rg1 := Xg1.of
  have cg1 := Xg1.cell
  have fg1 := Xg1.frozen
  have hg2 : Has_leg w6 g2 0 := ⟨_, Xg2.is_leg⟩
  have og2 : of_leg w6 g2 0 = aBad := of_leg_eq Xg2.is_leg
  have qg2 := Xg2.plain
  have rg2 := Xg2.of
  have cg2 := Xg2.cell
  have fg2 := Xg2.frozen
  have hg3 : Has_leg w6 g3 0 := ⟨_, Xg3.is_leg⟩
  have og3 : of_leg w6 g3 0 = aTf := of_leg_eq Xg3.is_leg
  have qg3 := Xg3.plain
  have rg3 := Xg3.of
  have cg3 := Xg3.cell
  have fg3 := Xg3.frozen
  have iO : Has_win w6 0 0 := ⟨_, OW.win⟩
  have jO : of_win w6 0 0 = ⟨-200000, 6000000⟩ := of_win_eq OW.win
  go_upto_region 8 with (fail)
  clear hg1 og1 qg1 rg1 cg1 fg1
  clear hg2 og2 qg2 rg2 cg2 fg2
  clear hg3 og3 qg3 rg3 cg3 fg3
  clear iO jO
  have Xg3 : Blk (w6.setCell ⟨g3, 1, none⟩ (.string ⟨#[]⟩)) g3 aNone.arr := Xg3.setCell 1 _
  have Xg1 := Xg1.setFar (g' := g3) (by omega) 1 (.string ⟨#[]⟩)
  have Xg2 := Xg2.setFar (g' := g3) (by omega) 1 (.string ⟨#[]⟩)
  have BW := below_setCell BW (show w.heap.size ≤ g3 by omega) 1 (.string ⟨#[]⟩)
  generalize w6.setCell ⟨g3, 1, none⟩ (.string ⟨#[]⟩) = w7 at Xg1 Xg2 Xg3 BW ⊢
  have LW := hL.below BW
  have OW := hO.below BW
  have hg1 : Has_leg w7 g1 0 := ⟨_, Xg1.is_leg⟩
  have og1 : of_leg w7 g1 0 = aTf := of_leg_eq Xg1.is_leg
  have qg1 := Xg1.plain
  have rg1 := Xg1.of
  have cg1 := Xg1.cell
  have fg1 := Xg1.frozen
  have hg2 : Has_leg w7 g2 0 := ⟨_, Xg2.is_leg⟩
  have og2 : of_leg w7 g2 0 = aBad := of_leg_eq Xg2.is_leg
  have qg2 := Xg2.plain
  have rg2 := Xg2.of
  have cg2 := Xg2.cell
  have fg2 := Xg2.frozen
  have hg3 : Has_leg w7 g3 0 := ⟨_, Xg3.is_leg⟩
  have og3 : of_leg w7 g3 0 = aNone := of_leg_eq Xg3.is_leg
  have qg3 := Xg3.plain
  have rg3 := Xg3.of
  have cg3 := Xg3.cell
  have fg3 := Xg3.frozen
  have iO : Has_win w7 0 0 := ⟨_, OW.win⟩
  have jO : of_win w7 0 0 = ⟨-200000, 6000000⟩ := of_win_eq OW.win
  go_wp2_with fail
  with_reducible refine callR (aBad_check _ LW) ?_
  intro w8 b8 _ _ _
  clear hg1 og1 qg1 rg1 cg1 fg1
  clear hg2 og2 qg2 rg2 cg2 fg2
  clear hg3 og3 qg3 rg3 cg3 fg3
  clear iO jO
  have Xg1 := Xg1.step b8
  have Xg2 := Xg2.step b8
  have Xg3 := Xg3.step b8
  have BW := below_step BW b8
  have LW := hL.below BW
  have OW := hO.below BW
  have hg1 : Has_leg w8 g1 0 := ⟨_, Xg1.is_leg⟩
  have og1 : of_leg w8 g1 0 = aTf := of_leg_eq Xg1.is_leg
  have qg1 := Xg1.plain
  have rg1 := Xg1.of
  have cg1 := Xg1.cell
  have fg1 := Xg1.frozen
  have hg2 : Has_leg w8 g2 0 := ⟨_, Xg2.is_leg⟩
  have og2 : of_leg w8 g2 0 = aBad := of_leg_eq Xg2.is_leg
  have qg2 := Xg2.plain
  have rg2 := Xg2.of
  have cg2 := Xg2.cell
  have fg2 := Xg2.frozen
  have hg3 : Has_leg w8 g3 0 := ⟨_, Xg3.is_leg⟩
  have og3 : of_leg w8 g3 0 = aNone := of_leg_eq Xg3.is_leg
  have qg3 := Xg3.plain
  have rg3 := Xg3.of
  have cg3 := Xg3.cell
  have fg3 := Xg3.frozen
  have iO : Has_win w8 0 0 := ⟨_, OW.win⟩
  have jO : of_win w8 0 0 = ⟨-200000, 6000000⟩ := of_win_eq OW.win
  go_wp2_with fail
  with_reducible refine callR (aNone_check _ LW) ?_
  intro w9 b9 _ _ _
  clear hg1 og1 qg1 rg1 cg1 fg1
  clear hg2 og2 qg2 rg2 cg2 fg2
  clear hg3 og3 qg3 rg3 cg3 fg3
  clear iO jO
  have Xg1 := Xg1.step b9
  have Xg2 := Xg2.step b9
  have Xg3 := Xg3.step b9
  have BW := below_step BW b9
  have LW := hL.below BW
  have OW := hO.below BW
  have hg1 : Has_leg w9 g1 0 := ⟨_, Xg1.is_leg⟩
  have og1 : of_leg w9 g1 0 = aTf := of_leg_eq Xg1.is_leg
  have qg1 := Xg1.plain
  have rg1 := Xg1.of
  have cg1 := Xg1.cell
  have fg1 := Xg1.frozen
  have hg2 : Has_leg w9 g2 0 := ⟨_, Xg2.is_leg⟩
  have og2 : of_leg w9 g2 0 = aBad := of_leg_eq Xg2.is_leg
  have qg2 := Xg2.plain
  have rg2 := Xg2.of
  have cg2 := Xg2.cell
  have fg2 := Xg2.frozen
  have hg3 : Has_leg w9 g3 0 := ⟨_, Xg3.is_leg⟩
  have og3 : of_leg w9 g3 0 = aNone := of_leg_eq Xg3.is_leg
  have qg3 := Xg3.plain
  have rg3 := Xg3.of
  have cg3 := Xg3.cell
  have fg3 := Xg3.frozen
  have iO : Has_win w9 0 0 := ⟨_, OW.win⟩
  have jO : of_win w9 0 0 = ⟨-200000, 6000000⟩ := of_win_eq OW.win
  clear hg2 og2 qg2 rg2 cg2 fg2 Xg2
  clear hg3 og3 qg3 rg3 cg3 fg3 Xg3
  go_upto_region 11 with (fail)
  clear hg1 og1 qg1 rg1 cg1 fg1
  clear iO jO
  have Xg1 : Blk (((w9.setCell ⟨g1, 4, none⟩ (.bool true)).setCell ⟨g1, 9, none⟩ (.int .i64 1000000)).setCell ⟨g1, 11, none⟩ (.int .i64 250)) g1 aTf2.arr := ((Xg1.setCell 4 _).setCell 9 _).setCell 11 _
  have BW := below_setCell (below_setCell (below_setCell BW mg1 4 (.bool true)) mg1 9 (.int .i64 1000000)) mg1 11 (.int .i64 250)
  generalize ((w9.setCell ⟨g1, 4, none⟩ (.bool true)).setCell ⟨g1, 9, none⟩ (.int .i64 1000000)).setCell ⟨g1, 11, none⟩ (.int .i64 250) = w10 at Xg1 BW ⊢
  have LW := hL.below BW
  have OW := hO.below BW
  have hg1 : Has_leg w10 g1 0 := ⟨_, Xg1.is_leg⟩
  have og1 : of_leg w10 g1 0 = aTf2 := of_leg_eq Xg1.is_leg
  have qg1 := Xg1.plain
  have rg1 := Xg1.of
  have cg1 := Xg1.cell
  have fg1 := Xg1.frozen
  have iO : Has_win w10 0 0 := ⟨_, OW.win⟩
  have jO : of_win w10 0 0 = ⟨-200000, 6000000⟩ := of_win_eq OW.win
  go_upto_region 12 with (fail)
  clear hg1 og1 qg1 rg1 cg1 fg1
  clear iO jO
  have ng1g4 : g1 < w10.heap.size := Xg1.lt
  have BV := BW
  have Xg4 := Blk.new w10 #[.int .u8 5, .string ⟨#[69, 76, 77, 65, 65, 47, 75, 49]⟩, .string ⟨#[67, 84, 82, 48, 49, 47, 75, 49]⟩, .int .u8 2, .bool false, .int .i64 0, .int .i64 0, .int .i64 18000, .int .i64 0, .int .i64 (-200000), .int .i64 6000000, .int .i64 0, .int .i64 0] 26
  have Xg1 := Xg1.alloc (.cells #[.int .u8 5, .string ⟨#[69, 76, 77, 65, 65, 47, 75, 49]⟩, .string ⟨#[67, 84, 82, 48, 49, 47, 75, 49]⟩, .int .u8 2, .bool false, .int .i64 0, .int .i64 0, .int .i64 18000, .int .i64 0, .int .i64 (-200000), .int .i64 6000000, .int .i64 0, .int .i64 0] 26)
  have BW := below_step BW (alloc_below w10 (.cells #[.int .u8 5, .string ⟨#[69, 76, 77, 65, 65, 47, 75, 49]⟩, .string ⟨#[67, 84, 82, 48, 49, 47, 75, 49]⟩, .int .u8 2, .bool false, .int .i64 0, .int .i64 0, .int .i64 18000, .int .i64 0, .int .i64 (-200000), .int .i64 6000000, .int .i64 0, .int .i64 0] 26))
  generalize w10.alloc _ = w11 at Xg1 Xg4 BW ⊢
  obtain ⟨g4, eg4⟩ : ∃ g, g = w10.heap.size := ⟨_, rfl⟩
  have mg4 : w.heap.size ≤ g4 := by have := BV.size; omega
  rw [← eg4] at Xg4 ng1g4 ⊢
  clear eg4 BV
  replace Xg4 : Blk w11 g4 aRf.arr := Xg4
  have LW := hL.below BW
  have OW := hO.below BW
  have hg1 : Has_leg w11 g1 0 := ⟨_, Xg1.is_leg⟩
  have og1 : of_leg w11 g1 0 = aTf2 := of_leg_eq Xg1.is_leg
  have qg1 := Xg1.plain
  have rg1 := Xg1.of
  have cg1 := Xg1.cell
  have fg1 := Xg1.frozen
  have hg4 : Has_leg w11 g4 0 := ⟨_, Xg4.is_leg⟩
  have og4 : of_leg w11 g4 0 = aRf := of_leg_eq Xg4.is_leg
  have qg4 := Xg4.plain
  have rg4 := Xg4.of
  have cg4 := Xg4.cell
  have fg4 := Xg4.frozen
  have iO : Has_win w11 0 0 := ⟨_, OW.win⟩
  have jO : of_win w11 0 0 = ⟨-200000, 6000000⟩ := of_win_eq OW.win
  go_upto_region 13 with (fail)
  clear hg1 og1 qg1 rg1 cg1 fg1
  clear hg4 og4 qg4 rg4 cg4 fg4
  clear iO jO
  have ng1g5 : g1 < w11.heap.size := Xg1.lt
  have ng4g5 : g4 < w11.heap.size := Xg4.lt
  have BV := BW
  have Xg5 := Blk.new w11 #[.int .u8 16, .string ⟨#[83, 69, 65, 47, 75, 49]⟩, .string ⟨#[]⟩, .int .u8 2, .bool false, .int .i64 57600000, .int .i64 30000, .int .i64 0, .int .i64 0, .int .i64 500000, .int .i64 900000, .int .i64 0, .int .i64 0] 26
  have Xg1 := Xg1.alloc (.cells #[.int .u8 16, .string ⟨#[83, 69, 65, 47, 75, 49]⟩, .string ⟨#[]⟩, .int .u8 2, .bool false, .int .i64 57600000, .int .i64 30000, .int .i64 0, .int .i64 0, .int .i64 500000, .int .i64 900000, .int .i64 0, .int .i64 0] 26)
  have Xg4 := Xg4.alloc (.cells #[.int .u8 16, .string ⟨#[83, 69, 65, 47, 75, 49]⟩, .string ⟨#[]⟩, .int .u8 2, .bool false, .int .i64 57600000, .int .i64 30000, .int .i64 0, .int .i64 0, .int .i64 500000, .int .i64 900000, .int .i64 0, .int .i64 0] 26)
  have BW := below_step BW (alloc_below w11 (.cells #[.int .u8 16, .string ⟨#[83, 69, 65, 47, 75, 49]⟩, .string ⟨#[]⟩, .int .u8 2, .bool false, .int .i64 57600000, .int .i64 30000, .int .i64 0, .int .i64 0, .int .i64 500000, .int .i64 900000, .int .i64 0, .int .i64 0] 26))
  generalize w11.alloc _ = w12 at Xg1 Xg4 Xg5 BW ⊢
  obtain ⟨g5, eg5⟩ : ∃ g, g = w11.heap.size := ⟨_, rfl⟩
  have mg5 : w.heap.size ≤ g5 := by have := BV.size; omega
  rw [← eg5] at Xg5 ng1g5 ng4g5 ⊢
  clear eg5 BV
  replace Xg5 : Blk w12 g5 aHm.arr := Xg5
  have LW := hL.below BW
  have OW := hO.below BW
  have hg1 : Has_leg w12 g1 0 := ⟨_, Xg1.is_leg⟩
  have og1 : of_leg w12 g1 0 = aTf2 := of_leg_eq Xg1.is_leg
  have qg1 := Xg1.plain
  have rg1 := Xg1.of
  have cg1 := Xg1.cell
  have fg1 := Xg1.frozen
  have hg4 : Has_leg w12 g4 0 := ⟨_, Xg4.is_leg⟩
  have og4 : of_leg w12 g4 0 = aRf := of_leg_eq Xg4.is_leg
  have qg4 := Xg4.plain
  have rg4 := Xg4.of
  have cg4 := Xg4.cell
  have fg4 := Xg4.frozen
  have hg5 : Has_leg w12 g5 0 := ⟨_, Xg5.is_leg⟩
  have og5 : of_leg w12 g5 0 = aHm := of_leg_eq Xg5.is_leg
  have qg5 := Xg5.plain
  have rg5 := Xg5.of
  have cg5 := Xg5.cell
  have fg5 := Xg5.frozen
  have iO : Has_win w12 0 0 := ⟨_, OW.win⟩
  have jO : of_win w12 0 0 = ⟨-200000, 6000000⟩ := of_win_eq OW.win
  go_upto_region 14 with (fail)
  clear hg1 og1 qg1 rg1 cg1 fg1
  clear hg4 og4 qg4 rg4 cg4 fg4
  clear hg5 og5 qg5 rg5 cg5 fg5
  clear iO jO
  have ng1g6 : g1 < w12.heap.size := Xg1.lt
  have ng4g6 : g4 < w12.heap.size := Xg4.lt
  have ng5g6 : g5 < w12.heap.size := Xg5.lt
  have BV := BW
  have Xg6 := Blk.new w12 #[.int .u8 8, .string ⟨#[]⟩, .string ⟨#[83, 69, 65, 47, 75, 49]⟩, .int .u8 0, .bool false, .int .i64 57600000, .int .i64 75000, .int .i64 0, .int .i64 0, .int .i64 (-200000), .int .i64 6000000, .int .i64 0, .int .i64 0] 26
  have Xg1 := Xg1.alloc (.cells #[.int .u8 8, .string ⟨#[]⟩, .string ⟨#[83, 69, 65, 47, 75, 49]⟩, .int .u8 0, .bool false, .int .i64 57600000, .int .i64 75000, .int .i64 0, .int .i64 0, .int .i64 (-200000), .int .i64 6000000, .int .i64 0, .int .i64 0] 26)
  have Xg4 := Xg4.alloc (.cells #[.int .u8 8, .string ⟨#[]⟩, .string ⟨#[83, 69, 65, 47, 75, 49]⟩, .int .u8 0, .bool false, .int .i64 57600000, .int .i64 75000, .int .i64 0, .int .i64 0, .int .i64 (-200000), .int .i64 6000000, .int .i64 0, .int .i64 0] 26)
  have Xg5 := Xg5.alloc (.cells #[.int .u8 8, .string ⟨#[]⟩, .string ⟨#[83, 69, 65, 47, 75, 49]⟩, .int .u8 0, .bool false, .int .i64 57600000, .int .i64 75000, .int .i64 0, .int .i64 0, .int .i64 (-200000), .int .i64 6000000, .int .i64 0, .int .i64 0] 26)
  have BW := below_step BW (alloc_below w12 (.cells #[.int .u8 8, .string ⟨#[]⟩, .string ⟨#[83, 69, 65, 47, 75, 49]⟩, .int .u8 0, .bool false, .int .i64 57600000, .int .i64 75000, .int .i64 0, .int .i64 0, .int .i64 (-200000), .int .i64 6000000, .int .i64 0, .int .i64 0] 26))
  generalize w12.alloc _ = w13 at Xg1 Xg4 Xg5 Xg6 BW ⊢
  obtain ⟨g6, eg6⟩ : ∃ g, g = w12.heap.size := ⟨_, rfl⟩
  have mg6 : w.heap.size ≤ g6 := by have := BV.size; omega
  rw [← eg6] at Xg6 ng1g6 ng4g6 ng5g6 ⊢
  clear eg6 BV
  replace Xg6 : Blk w13 g6 aCd.arr := Xg6
  have LW := hL.below BW
  have OW := hO.below BW
  have hg1 : Has_leg w13 g1 0 := ⟨_, Xg1.is_leg⟩
  have og1 : of_leg w13 g1 0 = aTf2 := of_leg_eq Xg1.is_leg
  have qg1 := Xg1.plain
  have rg1 := Xg1.of
  have cg1 := Xg1.cell
  have fg1 := Xg1.frozen
  have hg4 : Has_leg w13 g4 0 := ⟨_, Xg4.is_leg⟩
  have og4 : of_leg w13 g4 0 = aRf := of_leg_eq Xg4.is_leg
  have qg4 := Xg4.plain
  have rg4 := Xg4.of
  have cg4 := Xg4.cell
  have fg4 := Xg4.frozen
  have hg5 : Has_leg w13 g5 0 := ⟨_, Xg5.is_leg⟩
  have og5 : of_leg w13 g5 0 = aHm := of_leg_eq Xg5.is_leg
  have qg5 := Xg5.plain
  have rg5 := Xg5.of
  have cg5 := Xg5.cell
  have fg5 := Xg5.frozen
  have hg6 : Has_leg w13 g6 0 := ⟨_, Xg6.is_leg⟩
  have og6 : of_leg w13 g6 0 = aCd := of_leg_eq Xg6.is_leg
  have qg6 := Xg6.plain
  have rg6 := Xg6.of
  have cg6 := Xg6.cell
  have fg6 := Xg6.frozen
  have iO : Has_win w13 0 0 := ⟨_, OW.win⟩
  have jO : of_win w13 0 0 = ⟨-200000, 6000000⟩ := of_win_eq OW.win
  go_wp2_with fail
  with_reducible refine callR (aTf2_text _ LW) ?_
  intro w14 b14 _ _ _
  clear hg1 og1 qg1 rg1 cg1 fg1
  clear hg4 og4 qg4 rg4 cg4 fg4
  clear hg5 og5 qg5 rg5 cg5 fg5
  clear hg6 og6 qg6 rg6 cg6 fg6
  clear iO jO
  have Xg1 := Xg1.step b14
  have Xg4 := Xg4.step b14
  have Xg5 := Xg5.step b14
  have Xg6 := Xg6.step b14
  have BW := below_step BW b14
  have LW := hL.below BW
  have OW := hO.below BW
  have hg1 : Has_leg w14 g1 0 := ⟨_, Xg1.is_leg⟩
  have og1 : of_leg w14 g1 0 = aTf2 := of_leg_eq Xg1.is_leg
  have qg1 := Xg1.plain
  have rg1 := Xg1.of
  have cg1 := Xg1.cell
  have fg1 := Xg1.frozen
  have hg4 : Has_leg w14 g4 0 := ⟨_, Xg4.is_leg⟩
  have og4 : of_leg w14 g4 0 = aRf := of_leg_eq Xg4.is_leg
  have qg4 := Xg4.plain
  have rg4 := Xg4.of
  have cg4 := Xg4.cell
  have fg4 := Xg4.frozen
  have hg5 : Has_leg w14 g5 0 := ⟨_, Xg5.is_leg⟩
  have og5 : of_leg w14 g5 0 = aHm := of_leg_eq Xg5.is_leg
  have qg5 := Xg5.plain
  have rg5 := Xg5.of
  have cg5 := Xg5.cell
  have fg5 := Xg5.frozen
  have hg6 : Has_leg w14 g6 0 := ⟨_, Xg6.is_leg⟩
  have og6 : of_leg w14 g6 0 = aCd := of_leg_eq Xg6.is_leg
  have qg6 := Xg6.plain
  have rg6 := Xg6.of
  have cg6 := Xg6.cell
  have fg6 := Xg6.frozen
  have iO : Has_win w14 0 0 := ⟨_, OW.win⟩
  have jO : of_win w14 0 0 = ⟨-200000, 6000000⟩ := of_win_eq OW.win
  go_wp2_with fail
  with_reducible refine callR (aRf_text _ LW) ?_
  intro w15 b15 _ _ _
  clear hg1 og1 qg1 rg1 cg1 fg1
  clear hg4 og4 qg4 rg4 cg4 fg4
  clear hg5 og5 qg5 rg5 cg5 fg5
  clear hg6 og6 qg6 rg6 cg6 fg6
  clear iO jO
  have Xg1 := Xg1.step b15
  have Xg4 := Xg4.step b15
  have Xg5 := Xg5.step b15
  have Xg6 := Xg6.step b15
  have BW := below_step BW b15
  have LW := hL.below BW
  have OW := hO.below BW
  have hg1 : Has_leg w15 g1 0 := ⟨_, Xg1.is_leg⟩
  have og1 : of_leg w15 g1 0 = aTf2 := of_leg_eq Xg1.is_leg
  have qg1 := Xg1.plain
  have rg1 := Xg1.of
  have cg1 := Xg1.cell
  have fg1 := Xg1.frozen
  have hg4 : Has_leg w15 g4 0 := ⟨_, Xg4.is_leg⟩
  have og4 : of_leg w15 g4 0 = aRf := of_leg_eq Xg4.is_leg
  have qg4 := Xg4.plain
  have rg4 := Xg4.of
  have cg4 := Xg4.cell
  have fg4 := Xg4.frozen
  have hg5 : Has_leg w15 g5 0 := ⟨_, Xg5.is_leg⟩
  have og5 : of_leg w15 g5 0 = aHm := of_leg_eq Xg5.is_leg
  have qg5 := Xg5.plain
  have rg5 := Xg5.of
  have cg5 := Xg5.cell
  have fg5 := Xg5.frozen
  have hg6 : Has_leg w15 g6 0 := ⟨_, Xg6.is_leg⟩
  have og6 : of_leg w15 g6 0 = aCd := of_leg_eq Xg6.is_leg
  have qg6 := Xg6.plain
  have rg6 := Xg6.of
  have cg6 := Xg6.cell
  have fg6 := Xg6.frozen
  have iO : Has_win w15 0 0 := ⟨_, OW.win⟩
  have jO : of_win w15 0 0 = ⟨-200000, 6000000⟩ := of_win_eq OW.win
  go_wp2_with fail
  with_reducible refine callR (aHm_text _ LW) ?_
  intro w16 b16 _ _ _
  clear hg1 og1 qg1 rg1 cg1 fg1
  clear hg4 og4 qg4 rg4 cg4 fg4
  clear hg5 og5 qg5 rg5 cg5 fg5
  clear hg6 og6 qg6 rg6 cg6 fg6
  clear iO jO
  have Xg1 := Xg1.step b16
  have Xg4 := Xg4.step b16
  have Xg5 := Xg5.step b16
  have Xg6 := Xg6.step b16
  have BW := below_step BW b16
  have LW := hL.below BW
  have OW := hO.below BW
  have hg1 : Has_leg w16 g1 0 := ⟨_, Xg1.is_leg⟩
  have og1 : of_leg w16 g1 0 = aTf2 := of_leg_eq Xg1.is_leg
  have qg1 := Xg1.plain
  have rg1 := Xg1.of
  have cg1 := Xg1.cell
  have fg1 := Xg1.frozen
  have hg4 : Has_leg w16 g4 0 := ⟨_, Xg4.is_leg⟩
  have og4 : of_leg w16 g4 0 = aRf := of_leg_eq Xg4.is_leg
  have qg4 := Xg4.plain
  have rg4 := Xg4.of
  have cg4 := Xg4.cell
  have fg4 := Xg4.frozen
  have hg5 : Has_leg w16 g5 0 := ⟨_, Xg5.is_leg⟩
  have og5 : of_leg w16 g5 0 = aHm := of_leg_eq Xg5.is_leg
  have qg5 := Xg5.plain
  have rg5 := Xg5.of
  have cg5 := Xg5.cell
  have fg5 := Xg5.frozen
  have hg6 : Has_leg w16 g6 0 := ⟨_, Xg6.is_leg⟩
  have og6 : of_leg w16 g6 0 = aCd := of_leg_eq Xg6.is_leg
  have qg6 := Xg6.plain
  have rg6 := Xg6.of
  have cg6 := Xg6.cell
  have fg6 := Xg6.frozen
  have iO : Has_win w16 0 0 := ⟨_, OW.win⟩
  have jO : of_win w16 0 0 = ⟨-200000, 6000000⟩ := of_win_eq OW.win
  go_wp2_with fail
  with_reducible refine callR (aCd_text _ LW) ?_
  intro w17 b17 _ _ _
  clear hg1 og1 qg1 rg1 cg1 fg1
  clear hg4 og4 qg4 rg4 cg4 fg4
  clear hg5 og5 qg5 rg5 cg5 fg5
  clear hg6 og6 qg6 rg6 cg6 fg6
  clear iO jO
  have Xg1 := Xg1.step b17
  have Xg4 := Xg4.step b17
  have Xg5 := Xg5.step b17
  have Xg6 := Xg6.step b17
  have BW := below_step BW b17
  have LW := hL.below BW
  have OW := hO.below BW
  have hg1 : Has_leg w17 g1 0 := ⟨_, Xg1.is_leg⟩
  have og1 : of_leg w17 g1 0 = aTf2 := of_leg_eq Xg1.is_leg
  have qg1 := Xg1.plain
  have rg1 := Xg1.of
  have cg1 := Xg1.cell
  have fg1 := Xg1.frozen
  have hg4 : Has_leg w17 g4 0 := ⟨_, Xg4.is_leg⟩
  have og4 : of_leg w17 g4 0 = aRf := of_leg_eq Xg4.is_leg
  have qg4 := Xg4.plain
  have rg4 := Xg4.of
  have cg4 := Xg4.cell
  have fg4 := Xg4.frozen
  have hg5 : Has_leg w17 g5 0 := ⟨_, Xg5.is_leg⟩
  have og5 : of_leg w17 g5 0 = aHm := of_leg_eq Xg5.is_leg
  have qg5 := Xg5.plain
  have rg5 := Xg5.of
  have cg5 := Xg5.cell
  have fg5 := Xg5.frozen
  have hg6 : Has_leg w17 g6 0 := ⟨_, Xg6.is_leg⟩
  have og6 : of_leg w17 g6 0 = aCd := of_leg_eq Xg6.is_leg
  have qg6 := Xg6.plain
  have rg6 := Xg6.of
  have cg6 := Xg6.cell
  have fg6 := Xg6.frozen
  have iO : Has_win w17 0 0 := ⟨_, OW.win⟩
  have jO : of_win w17 0 0 = ⟨-200000, 6000000⟩ := of_win_eq OW.win
  clear hg1 og1 qg1 rg1 cg1 fg1 Xg1
  clear hg4 og4 qg4 rg4 cg4 fg4 Xg4
  clear hg5 og5 qg5 rg5 cg5 fg5 Xg5
  go_wp2_with fail
  with_reducible refine callR (p0_parse _ LW) ?_
  intro w18 b18 _ _ _
  clear hg6 og6 qg6 rg6 cg6 fg6
  clear iO jO
  have Xg6 := Xg6.step b18
  have BW := below_step BW b18
  have LW := hL.below BW
  have OW := hO.below BW
  have hg6 : Has_leg w18 g6 0 := ⟨_, Xg6.is_leg⟩
  have og6 : of_leg w18 g6 0 = aCd := of_leg_eq Xg6.is_leg
  have qg6 := Xg6.plain
  have rg6 := Xg6.of
  have cg6 := Xg6.cell
  have fg6 := Xg6.frozen
  have iO : Has_win w18 0 0 := ⟨_, OW.win⟩
  have jO : of_win w18 0 0 = ⟨-200000, 6000000⟩ := of_win_eq OW.win
  go_upto_region 17 with (fail)
  clear hg6 og6 qg6 rg6 cg6 fg6
  clear iO jO
  have ng6g7 : g6 < w18.heap.size := Xg6.lt
  have BV := BW
  have Xg7 := Blk.new w18 aCd.arr 26
  have Xg6 := Xg6.alloc (.cells aCd.arr 26)
  have BW := below_step BW (alloc_below w18 (.cells aCd.arr 26))
  generalize w18.alloc _ = w19 at Xg6 Xg7 BW ⊢
  obtain ⟨g7, eg7⟩ : ∃ g, g = w18.heap.size := ⟨_, rfl⟩
  have mg7 : w.heap.size ≤ g7 := by have := BV.size; omega
  rw [← eg7] at Xg7 ng6g7 ⊢
  clear eg7 BV
  replace Xg7 : Blk w19 g7 aCd.arr := Xg7
  have LW := hL.below BW
  have OW := hO.below BW
  have hg6 : Has_leg w19 g6 0 := ⟨_, Xg6.is_leg⟩
  have og6 : of_leg w19 g6 0 = aCd := of_leg_eq Xg6.is_leg
  have qg6 := Xg6.plain
  have rg6 := Xg6.of
  have cg6 := Xg6.cell
  have fg6 := Xg6.frozen
  have hg7 : Has_leg w19 g7 0 := ⟨_, Xg7.is_leg⟩
  have og7 : of_leg w19 g7 0 = aCd := of_leg_eq Xg7.is_leg
  have qg7 := Xg7.plain
  have rg7 := Xg7.of
  have cg7 := Xg7.cell
  have fg7 := Xg7.frozen
  have iO : Has_win w19 0 0 := ⟨_, OW.win⟩
  have jO : of_win w19 0 0 = ⟨-200000, 6000000⟩ := of_win_eq OW.win
  have N1 := aCd_same
  go_wp2_with fail
  clear N1
  with_reducible refine callR (p1_parse _ LW) ?_
  intro w20 b20 _ _ _
  clear hg6 og6 qg6 rg6 cg6 fg6
  clear hg7 og7 qg7 rg7 cg7 fg7
  clear iO jO
  have Xg6 := Xg6.step b20
  have Xg7 := Xg7.step b20
  have BW := below_step BW b20
  have LW := hL.below BW
  have OW := hO.below BW
  have hg6 : Has_leg w20 g6 0 := ⟨_, Xg6.is_leg⟩
  have og6 : of_leg w20 g6 0 = aCd := of_leg_eq Xg6.is_leg
  have qg6 := Xg6.plain
  have rg6 := Xg6.of
  have cg6 := Xg6.cell
  have fg6 := Xg6.frozen
  have hg7 : Has_leg w20 g7 0 := ⟨_, Xg7.is_leg⟩
  have og7 : of_leg w20 g7 0 = aCd := of_leg_eq Xg7.is_leg
  have qg7 := Xg7.plain
  have rg7 := Xg7.of
  have cg7 := Xg7.cell
  have fg7 := Xg7.frozen
  have iO : Has_win w20 0 0 := ⟨_, OW.win⟩
  have jO : of_win w20 0 0 = ⟨-200000, 6000000⟩ := of_win_eq OW.win
  clear hg6 og6 qg6 rg6 cg6 fg6 Xg6
  clear hg7 og7 qg7 rg7 cg7 fg7 Xg7
  go_upto_region 20 with (fail)
  clear iO jO
  have BV := BW
  have Xg8 := Blk.new w20 leg0.arr 26
  have BW := below_step BW (alloc_below w20 (.cells leg0.arr 26))
  generalize w20.alloc _ = w21 at Xg8 BW ⊢
  obtain ⟨g8, eg8⟩ : ∃ g, g = w20.heap.size := ⟨_, rfl⟩
  have mg8 : w.heap.size ≤ g8 := by have := BV.size; omega
  rw [← eg8] at Xg8  ⊢
  clear eg8 BV
  replace Xg8 : Blk w21 g8 leg0.arr := Xg8
  have LW := hL.below BW
  have OW := hO.below BW
  have hg8 : Has_leg w21 g8 0 := ⟨_, Xg8.is_leg⟩
  have og8 : of_leg w21 g8 0 = leg0 := of_leg_eq Xg8.is_leg
  have qg8 := Xg8.plain
  have rg8 := Xg8.of
  have cg8 := Xg8.cell
  have fg8 := Xg8.frozen
  have iO : Has_win w21 0 0 := ⟨_, OW.win⟩
  have jO : of_win w21 0 0 = ⟨-200000, 6000000⟩ := of_win_eq OW.win
  clear hg8 og8 qg8 rg8 cg8 fg8 Xg8
  go_wp2_with fail
  with_reducible refine callR (p2_parse _ LW) ?_
  intro w22 b22 _ _ _
  clear iO jO
  have BW := below_step BW b22
  have LW := hL.below BW
  have OW := hO.below BW
  have iO : Has_win w22 0 0 := ⟨_, OW.win⟩
  have jO : of_win w22 0 0 = ⟨-200000, 6000000⟩ := of_win_eq OW.win
  go_upto_region 21 with (fail)
  clear iO jO
  have BV := BW
  have Xg9 := Blk.new w22 leg0.arr 26
  have BW := below_step BW (alloc_below w22 (.cells leg0.arr 26))
  generalize w22.alloc _ = w23 at Xg9 BW ⊢
  obtain ⟨g9, eg9⟩ : ∃ g, g = w22.heap.size := ⟨_, rfl⟩
  have mg9 : w.heap.size ≤ g9 := by have := BV.size; omega
  rw [← eg9] at Xg9  ⊢
  clear eg9 BV
  replace Xg9 : Blk w23 g9 leg0.arr := Xg9
  have LW := hL.below BW
  have OW := hO.below BW
  have hg9 : Has_leg w23 g9 0 := ⟨_, Xg9.is_leg⟩
  have og9 : of_leg w23 g9 0 = leg0 := of_leg_eq Xg9.is_leg
  have qg9 := Xg9.plain
  have rg9 := Xg9.of
  have cg9 := Xg9.cell
  have fg9 := Xg9.frozen
  have iO : Has_win w23 0 0 := ⟨_, OW.win⟩
  have jO : of_win w23 0 0 = ⟨-200000, 6000000⟩ := of_win_eq OW.win
  clear hg9 og9 qg9 rg9 cg9 fg9 Xg9
  go_wp2_with fail
  with_reducible refine callR (p3_parse _ LW) ?_
  intro w24 b24 _ _ _
  clear iO jO
  have BW := below_step BW b24
  have LW := hL.below BW
  have OW := hO.below BW
  have iO : Has_win w24 0 0 := ⟨_, OW.win⟩
  have jO : of_win w24 0 0 = ⟨-200000, 6000000⟩ := of_win_eq OW.win
  go_upto_region 22 with (fail)
  clear iO jO
  have BV := BW
  have Xg10 := Blk.new w24 leg0.arr 26
  have BW := below_step BW (alloc_below w24 (.cells leg0.arr 26))
  generalize w24.alloc _ = w25 at Xg10 BW ⊢
  obtain ⟨g10, eg10⟩ : ∃ g, g = w24.heap.size := ⟨_, rfl⟩
  have mg10 : w.heap.size ≤ g10 := by have := BV.size; omega
  rw [← eg10] at Xg10  ⊢
  clear eg10 BV
  replace Xg10 : Blk w25 g10 leg0.arr := Xg10
  have LW := hL.below BW
  have OW := hO.below BW
  have hg10 : Has_leg w25 g10 0 := ⟨_, Xg10.is_leg⟩
  have og10 : of_leg w25 g10 0 = leg0 := of_leg_eq Xg10.is_leg
  have qg10 := Xg10.plain
  have rg10 := Xg10.of
  have cg10 := Xg10.cell
  have fg10 := Xg10.frozen
  have iO : Has_win w25 0 0 := ⟨_, OW.win⟩
  have jO : of_win w25 0 0 = ⟨-200000, 6000000⟩ := of_win_eq OW.win
  clear hg10 og10 qg10 rg10 cg10 fg10 Xg10
  go_wp2_with fail
  with_reducible refine callR (p4_parse _ LW) ?_
  intro w26 b26 _ _ _
  clear iO jO
  have BW := below_step BW b26
  have LW := hL.below BW
  have OW := hO.below BW
  have iO : Has_win w26 0 0 := ⟨_, OW.win⟩
  have jO : of_win w26 0 0 = ⟨-200000, 6000000⟩ := of_win_eq OW.win
  go_upto_region 23 with (fail)
  clear iO jO
  have BV := BW
  have Xg11 := Blk.new w26 leg0.arr 26
  have BW := below_step BW (alloc_below w26 (.cells leg0.arr 26))
  generalize w26.alloc _ = w27 at Xg11 BW ⊢
  obtain ⟨g11, eg11⟩ : ∃ g, g = w26.heap.size := ⟨_, rfl⟩
  have mg11 : w.heap.size ≤ g11 := by have := BV.size; omega
  rw [← eg11] at Xg11  ⊢
  clear eg11 BV
  replace Xg11 : Blk w27 g11 leg0.arr := Xg11
  have LW := hL.below BW
  have OW := hO.below BW
  have hg11 : Has_leg w27 g11 0 := ⟨_, Xg11.is_leg⟩
  have og11 : of_leg w27 g11 0 = leg0 := of_leg_eq Xg11.is_leg
  have qg11 := Xg11.plain
  have rg11 := Xg11.of
  have cg11 := Xg11.cell
  have fg11 := Xg11.frozen
  have iO : Has_win w27 0 0 := ⟨_, OW.win⟩
  have jO : of_win w27 0 0 = ⟨-200000, 6000000⟩ := of_win_eq OW.win
  clear hg11 og11 qg11 rg11 cg11 fg11 Xg11
  go_wp2_with fail
  with_reducible refine callR (p5_parse _ LW) ?_
  intro w28 b28 _ _ _
  clear iO jO
  have BW := below_step BW b28
  have LW := hL.below BW
  have OW := hO.below BW
  have iO : Has_win w28 0 0 := ⟨_, OW.win⟩
  have jO : of_win w28 0 0 = ⟨-200000, 6000000⟩ := of_win_eq OW.win
  go_upto_region 24 with (fail)
  clear iO jO
  have BV := BW
  have Xg12 := Blk.new w28 leg0.arr 26
  have BW := below_step BW (alloc_below w28 (.cells leg0.arr 26))
  generalize w28.alloc _ = w29 at Xg12 BW ⊢
  obtain ⟨g12, eg12⟩ : ∃ g, g = w28.heap.size := ⟨_, rfl⟩
  have mg12 : w.heap.size ≤ g12 := by have := BV.size; omega
  rw [← eg12] at Xg12  ⊢
  clear eg12 BV
  replace Xg12 : Blk w29 g12 leg0.arr := Xg12
  have LW := hL.below BW
  have OW := hO.below BW
  have hg12 : Has_leg w29 g12 0 := ⟨_, Xg12.is_leg⟩
  have og12 : of_leg w29 g12 0 = leg0 := of_leg_eq Xg12.is_leg
  have qg12 := Xg12.plain
  have rg12 := Xg12.of
  have cg12 := Xg12.cell
  have fg12 := Xg12.frozen
  have iO : Has_win w29 0 0 := ⟨_, OW.win⟩
  have jO : of_win w29 0 0 = ⟨-200000, 6000000⟩ := of_win_eq OW.win
  clear hg12 og12 qg12 rg12 cg12 fg12 Xg12
  go_wp2
  go_ret
  exact Ret.bool rfl BW
end Go.Proofs.YtjijpkimlgbepaaGreatDoor
