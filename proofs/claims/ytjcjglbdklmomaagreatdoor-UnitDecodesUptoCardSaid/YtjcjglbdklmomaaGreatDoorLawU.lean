/- UnitSenses, UnitDecodes: the statements walked. -/
import Derived.Test.YtjcjglbdklmomaaGreatDoorSenseB
namespace Go.Proofs.YtjcjglbdklmomaaGreatDoor
open Go.RowKit
set_option linter.unusedVariables false
set_option linter.unusedSimpArgs false
theorem Sense.is (W : World) (g : Nat) (s : Sense) (A : Option Addr) (c : Nat) (h : Blk W g (s.arr A c)) : Has_sense W g 0 ∧ of_sense W g 0 = s.arr A c := ⟨⟨_, h.is_sense rfl⟩, of_sense_eq (h.is_sense rfl)⟩
theorem encE_one (s : Sense) : encE s = [] ∨ senseCheck s = 0 := by
  unfold encE
  by_cases h : senseCheck s = 0 <;> simp [h]
set_option maxHeartbeats 4000000 in
set_option maxRecDepth 100000 in
theorem lawSenses_any (s : Sense) (A : Option Addr) (c : Nat) (w : World) (h : s.ok w A c) : Calls Tryz.prog 3 #[s.val A c] w (Ret w (.bool true)) := by
  have X0 := Blk.new w (s.arr A c) 26
  have B0 := (Below.refl w.heap.size w).alloc (Nat.le_refl _) (.cells (s.arr A c) 26)
  obtain ⟨z, hz⟩ : ∃ z, senseCheck s = z := ⟨_, rfl⟩
  have HZ := Lib.hid hz; clear hz
  go_enter Tryz.func3, Tryz.ntmps3
  go_upto_region 1 with (fail)
  generalize w.alloc _ = W0 at X0 B0 ⊢
  obtain ⟨g, hg⟩ : ∃ g, g = w.heap.size := ⟨_, rfl⟩
  rw [← hg] at X0 ⊢
  have HG := Lib.hid hg; clear hg
  go_wp2_with fail
  refine callR (awake57_any W0) ?_
  intro W1 B1 y1 y2 y3; clear y1 y2 y3
  have X1 := X0.step B1
  have C1 : Below w.heap.size w W1 := below_step B0 B1
  obtain ⟨hh, ho⟩ := Sense.is W1 g s A c X1
  clear X0 B0 B1
  go_wp2_with fail
  refine callR (checkSense_any s A c W1 (h.below C1)) ?_
  intro W2 B2 y1 y2 y3; clear y1 y2 y3
  have X2 := X1.step B2
  have C2 : Below w.heap.size w W2 := below_step C1 B2
  obtain ⟨hh2, ho2⟩ := Sense.is W2 g s A c X2
  clear hh ho X1 C1 B2
  rw [HZ.out]
  go_wp2_with fail
  refine (encode_any s A c W2 (h.below C2)).mono ?_
  rintro e W3 ⟨v3, rfl, O3, B3⟩
  rw [HZ.out]
  have X3 := X2.step B3
  have C3 : Below w.heap.size w W3 := below_step C2 B3
  obtain ⟨hh3, ho3⟩ := Sense.is W3 g s A c X3
  obtain ⟨A5, c5, rfl, hc5, hm5, hR5⟩ := O3.rd
  clear hh2 ho2 X2 C2
  go_wp2_with fail
  refine callR (rcheckSense_any s A c W3 (h.below C3)) ?_
  intro W4 B4 y1 y2 y3; clear y1 y2 y3
  have X4 := X3.step B4
  have C4 : Below w.heap.size w W4 := below_step C3 B4
  have hR6 := (hR5.below B4).mono B4.size
  clear hh3 ho3 X3 C3 hR5 O3
  rw [HZ.out]
  by_cases hz0 : z = 0
  · subst hz0
    have hl : (encE s).length ≤ 400 := encE_len s
    have hdec := decode_any A5 (encE s) c5 W4 hR6 (by omega) hc5 hm5
    rw [show decS (encE s) = some s by unfold encE; rw [HZ.out, if_pos rfl]; exact decS_enc HZ.out] at hdec
    have HD := Lib.hid hdec
    clear hdec hR6
    go_wp2_with fail
    refine HD.out.mono ?_
    rintro e w6 ⟨A6, c6, rfl, ok6, B6⟩
    simp only [Option.getD_some, Option.isSome_some, if_true] at ok6 ⊢
    have X6 := (X4.step B6).alloc (.cells (s.arr A6 c6) 26)
    have Y6 := Blk.new w6 (s.arr A6 c6) 26
    have C6 := below_step (below_step C4 B6) ((Below.refl w6.heap.size w6).alloc (Nat.le_refl _) (.cells (s.arr A6 c6) 26))
    have ok7 := ok6.below ((Below.refl w6.heap.size w6).alloc (Nat.le_refl _) (.cells (s.arr A6 c6) 26))
    clear X4 C4 B6 B4 HD
    go_upto_region 10 with ((with_reducible refine at_store 26 (.tmp 6) (.tmp 34) rfl ?_); refine wpList_store_new rfl 26 (.tmp 6) (.tmp 34) rfl _ (s.arr A6 c6) rfl rfl 13 infoSense rfl rfl (Sense.arr_one _ _ _) ?_)
    generalize w6.alloc _ = W8 at X6 Y6 C6 ok7 ⊢
    generalize w6.heap.size = q8 at Y6 ⊢
    obtain ⟨hh6, ho6⟩ := Sense.is W8 g s A c X6
    obtain ⟨hh7, ho7⟩ := Sense.is W8 q8 s A6 c6 Y6
    have hl2 : ((encE s).length : Int) ≤ 400 := by omega
    go_wp2_with (go_at_call 10; refine callR (equal_same s A A6 c c6 _ (h.below C6) ok7) ?_; intro w9 B9 hcc hff hss; have B10 := below_step C6 B9; clear hcc hff hss hh6 ho6 hh7 ho7)
    go_ret
    exact Ret.bool rfl B10
  · have hz1 : (z != 0) = true := by simpa using hz0
    have hen : (encE s).length = 0 := by
      rcases encE_one s with e | e
      · rw [e]; rfl
      · exact absurd (HZ.out.symm.trans e) hz0
    clear hz0
    rw [hen]
    have HEN := Lib.hid hen; clear hen
    go_wp2
    go_ret
    exact Ret.bool rfl C4
theorem decS_some {p : List UInt8} {s : Sense} (h : decS p = some s) : senseCheck s = 0 ∧ p = encE s := by
  unfold decS at h
  split at h
  · rename_i q
    injection h with h
    subst h
    refine ⟨q.2.1, ?_⟩
    unfold encE
    rw [if_pos q.2.1]; exact q.2.2
  · cases h
set_option maxHeartbeats 4000000 in
set_option maxRecDepth 100000 in
theorem lawDecodes_any (A : Option Addr) (l : List UInt8) (c : Nat) (w : World) (hR : Rd w w.heap.size A l) (hlc : l.length ≤ c) (hm : c ≤ maxLen) (hl : l.length ≤ 4000000000) : Calls Tryz.prog 4 #[.slice A l.length c] w (Ret w (.bool true)) := by
  by_cases hbig : 2000 < l.length
  case pos =>
    have hbig' : decide (2000 < (l.length : Int)) = true := by simp; omega
    go_enter Tryz.func4, Tryz.ntmps4
    go_wp2_with (go_at_call 5; refine callR (awake57_any _) ?_; intro W1 B1 y1 y2 y3; clear y1 y2 y3)
    go_ret
    exact Ret.bool rfl B1
  have hbig' : decide (2000 < (l.length : Int)) = false := by simp; omega
  go_enter Tryz.func4, Tryz.ntmps4
  go_upto_region 3 with (go_at_call 5; refine callR (awake57_any _) ?_; intro W1 B1 y1 y2 y3; clear y1 y2 y3)
  have hR1 := (hR.below B1).mono B1.size
  have hdec := decode_any A l c W1 hR1 hl hlc hm
  obtain ⟨o, ho⟩ : ∃ o, decS l = o := ⟨_, rfl⟩
  rw [ho] at hdec
  have HO := Lib.hid ho
  have HD := Lib.hid hdec
  clear ho hdec
  go_wp2_with fail
  refine HD.out.mono ?_
  rintro e w6 ⟨A6, c6, rfl, ok6, B6⟩
  have hR6 := (hR1.below B6).mono B6.size
  have C6 := below_step B1 B6
  clear HD hR1 B1 B6
  cases o with
  | none =>
    simp only [Option.getD_none, Option.isSome_none, Bool.false_eq_true, if_false] at ok6 ⊢
    have Y6 := Blk.new w6 (sense0.arr A6 c6) 26
    have C7 := below_step C6 ((Below.refl w6.heap.size w6).alloc (Nat.le_refl _) (.cells (sense0.arr A6 c6) 26))
    have ok7 := ok6.below ((Below.refl w6.heap.size w6).alloc (Nat.le_refl _) (.cells (sense0.arr A6 c6) 26))
    go_upto_region 6 with ((with_reducible refine at_store 26 (.tmp 3) (.tmp 15) rfl ?_); refine wpList_store_new rfl 26 (.tmp 3) (.tmp 15) rfl _ (sense0.arr A6 c6) rfl rfl 13 infoSense rfl rfl (Sense.arr_one _ _ _) ?_)
    generalize w6.alloc _ = W8 at Y6 C7 ok7 ⊢
    generalize w6.heap.size = q8 at Y6 ⊢
    obtain ⟨hh7, ho7⟩ := Sense.is W8 q8 sense0 A6 c6 Y6
    go_wp2_with (go_at_call 10; refine callR (equal_same sense0 A6 none c6 0 _ ok7 (sense0_ok _ _ _)) ?_; intro w9 B9 hcc hff hss; have B10 := below_step C7 B9; clear hcc hff hss hh7 ho7)
    go_ret
    exact Ret.bool rfl B10
  | some s =>
    obtain ⟨hz, he⟩ := decS_some HO.out
    simp only [Option.getD_some, Option.isSome_some, if_true] at ok6 ⊢
    have Y6 := Blk.new w6 (s.arr A6 c6) 26
    have B7 := (Below.refl w6.heap.size w6).alloc (Nat.le_refl _) (.cells (s.arr A6 c6) 26)
    have C7 := below_step C6 B7
    have ok7 := ok6.below B7
    have hR7 := (hR6.below B7).mono B7.size
    have HZ := Lib.hid hz
    have HE := Lib.hid he
    clear hR6 B7 hz he
    go_upto_region 6 with ((with_reducible refine at_store 26 (.tmp 3) (.tmp 15) rfl ?_); refine wpList_store_new rfl 26 (.tmp 3) (.tmp 15) rfl _ (s.arr A6 c6) rfl rfl 13 infoSense rfl rfl (Sense.arr_one _ _ _) ?_)
    generalize w6.alloc _ = W8 at Y6 C7 ok7 hR7 ⊢
    generalize w6.heap.size = q8 at Y6 ⊢
    obtain ⟨hh7, ho7⟩ := Sense.is W8 q8 s A6 c6 Y6
    go_wp2_with fail
    refine (encode_any s A6 c6 W8 ok7).mono ?_
    rintro e W9 ⟨v9, rfl, O9, B9⟩
    have C9 := below_step C7 B9
    obtain ⟨A9, c9, rfl, hc9, hm9, hR9⟩ := O9.rd
    have hR10 := (hR7.below B9)
    have cv1 := conv_rd hR10 (c := c)
    have cv2 := conv_rd hR9 (c := c9)
    rw [← HE.out] at cv2
    rw [HZ.out, ← HE.out]
    clear hh7 ho7 hR10 hR9 hR7 O9
    go_wp2
    go_ret
    exact Ret.bool rfl C9
end Go.Proofs.YtjcjglbdklmomaaGreatDoor
