/- Layer 57: the statements' own first check. -/
import Derived.Test.YtjcjglbdklmomaaGreatDoorSenseA
import Derived.Test.YtjcjglbdklmomaaGreatDoorSense9
import Derived.Test.YtjcjglbdklmomaaGreatDoorSenseM
namespace Go.Proofs.YtjcjglbdklmomaaGreatDoor
open Go.RowKit
set_option linter.unusedVariables false
set_option linter.unusedSimpArgs false
def hdg : List UInt8 := [72, 68, 71, 32, 57, 48]
theorem senseN_ok (w : World) (t : Int) (l : List UInt8) (h : l.length ≤ 4000000000) : (senseN t l).ok w none 0 := ⟨by simp [senseN], by simp [senseN], h, Items.nil _ _ _⟩
theorem check7 : senseCheck (senseN 7 hdg) = 0 := by decide
theorem encE7 : (encE (senseN 7 hdg)).length = 44 := by
  unfold encE
  rw [check7, if_pos rfl, encB_len]; rfl
theorem dec7 : decS (encE (senseN 7 hdg)) = some (senseN 7 hdg) := by
  unfold encE
  rw [check7, if_pos rfl]; exact decS_enc check7
def senseM : Sense := ⟨-1, [], 0, 0, 0, 0, 0, 0, 0, false, false, false, []⟩
theorem senseM_ok (w : World) : senseM.ok w none 0 := ⟨by simp [senseM], by simp [senseM], by simp [senseM], Items.nil _ _ _⟩
theorem checkM : senseCheck senseM = 2 := by decide
set_option maxHeartbeats 4000000 in
set_option maxRecDepth 100000 in
theorem awake57_any (w : World) : Calls Tryz.prog 5 #[] w (Ret w (.bool true)) := by
  go_enter Tryz.func5, Tryz.ntmps5
  go_wp2_with fail
  refine (sense_any 7 hdg w).mono ?_
  rintro e w1 ⟨rfl, B1⟩
  have X1 := Blk.new w1 ((senseN 7 hdg).arr none 0) 26
  have B2 := below_step B1 ((Below.refl w1.heap.size w1).alloc (Nat.le_refl _) (.cells ((senseN 7 hdg).arr none 0) 26))
  go_upto_region 2 with ((with_reducible refine at_store 26 (.tmp 1) (.tmp 5) rfl ?_); refine wpList_store_new rfl 26 (.tmp 1) (.tmp 5) rfl _ ((senseN 7 hdg).arr none 0) rfl rfl 13 infoSense rfl rfl (Sense.arr_one _ _ _) ?_)
  generalize w1.alloc _ = W at X1 B2 ⊢
  generalize w1.heap.size = q at X1 ⊢
  have hc1 := X1.cell
  have e1 : ∀ j, j < 13 → W.cell? ⟨q, 0 + j, none⟩ = ((senseN 7 hdg).arr none 0)[j]? := fun j _ => by rw [Nat.zero_add]; exact hc1 j
  clear hc1
  go_wp2_with ((with_reducible refine at_load 26 (.tmp 1) rfl ?_); refine wpList_load_arr rfl 26 (.tmp 1) rfl q 0 rfl ((senseN 7 hdg).arr none 0) _ _ rfl e1 Tryz.underlying26 rfl infoSense ?_)
  refine (encode_any (senseN 7 hdg) none 0 W (senseN_ok _ _ _ (by decide))).mono ?_
  rintro e w3 ⟨v3, rfl, O3, B3⟩
  rw [check7]
  have X3 := X1.step B3
  have B4 := below_step B2 B3
  obtain ⟨A5, c5, rfl, hc5, hm5, hR5⟩ := O3.rd
  rw [encE7] at hc5
  have H7 := Lib.hid encE7
  have hdec := decode_any A5 (encE (senseN 7 hdg)) c5 w3 hR5 (by rw [encE7]; omega) (by rw [encE7]; exact hc5) hm5
  rw [dec7, encE7] at hdec
  have HD := Lib.hid hdec
  clear hdec hR5 e1 X1 O3
  rw [H7.out]
  go_wp2_with fail
  refine HD.out.mono ?_
  rintro e w6 ⟨A6, c6, rfl, ok6, B6⟩
  simp only [Option.getD_some, Option.isSome_some, if_true] at ok6 ⊢
  have X6 := X3.step B6
  have B7 := below_step B4 B6
  have X7 := X6.alloc (.cells ((senseN 7 hdg).arr A6 c6) 26)
  have Y7 := Blk.new w6 ((senseN 7 hdg).arr A6 c6) 26
  have B8 := below_step B7 ((Below.refl w6.heap.size w6).alloc (Nat.le_refl _) (.cells ((senseN 7 hdg).arr A6 c6) 26))
  have ok7 := ok6.below ((Below.refl w6.heap.size w6).alloc (Nat.le_refl _) (.cells ((senseN 7 hdg).arr A6 c6) 26))
  clear X3 HD X6 B6 B3 B4
  go_upto_region 6 with ((with_reducible refine at_store 26 (.tmp 4) (.tmp 26) rfl ?_); refine wpList_store_new rfl 26 (.tmp 4) (.tmp 26) rfl _ ((senseN 7 hdg).arr A6 c6) rfl rfl 13 infoSense rfl rfl (Sense.arr_one _ _ _) ?_)
  generalize w6.alloc _ = W8 at X7 Y7 B8 ok7 ⊢
  generalize w6.heap.size = q8 at Y7 ⊢
  have hx := X7.cell
  have hy := Y7.cell
  have ex : ∀ j, j < 13 → W8.cell? ⟨q, 0 + j, none⟩ = ((senseN 7 hdg).arr none 0)[j]? := fun j _ => by rw [Nat.zero_add]; exact hx j
  have ey : ∀ j, j < 13 → W8.cell? ⟨q8, 0 + j, none⟩ = ((senseN 7 hdg).arr A6 c6)[j]? := fun j _ => by rw [Nat.zero_add]; exact hy j
  clear hx hy
  have ix := X7.is_sense rfl
  have iy := Y7.is_sense rfl
  have Hx : Has_sense W8 q 0 := ⟨_, ix⟩
  have Hy : Has_sense W8 q8 0 := ⟨_, iy⟩
  have ex := of_sense_eq ix
  have ey := of_sense_eq iy
  go_wp2_with (first
    | (go_at_call 10; refine callR (equal_same (senseN 7 hdg) none A6 0 c6 _ (senseN_ok _ _ _ (by decide)) ok7) ?_; intro w9 B9 hcc hff hss; have B10 := below_step B8 B9; clear hcc hff hss ex ey ix iy Hx Hy)
    | (go_at_call 6; refine callR (checkSense_any senseM none 0 _ (senseM_ok _)) ?_; intro w11 B11 hcc hff hss; have B12 := below_step B10 B11; clear hcc hff hss; rw [checkM])
    | (go_at_call 12; refine callR (ucheck0 _ (fun j hj => by match j, hj with | 0, _ | 1, _ | 2, _ | 3, _ | 4, _ | 5, _ | 6, _ | 7, _ | 8, _ => rfl) _) ?_; intro w13 B13 hcc hff hss; have B14 := below_step B12 B13; clear hcc hff hss))
  go_ret
  exact Ret.bool rfl B14
end Go.Proofs.YtjcjglbdklmomaaGreatDoor
