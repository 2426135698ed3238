/- Lemmas and walks. -/
import Derived.Test.YtnmpfmelaninbaaGreatDoorQk35
import Derived.Test.YtnmpfmelaninbaaGreatDoorQk36
import Derived.Test.YtnmpfmelaninbaaGreatDoorQk20
import Derived.Deep.RegionHeld3
set_option linter.unusedSimpArgs false
set_option linter.unusedVariables false
namespace Go.Proofs.YtnmpfmelaninbaaGreatDoor
open Go.RowKit Go.Sort
set_option maxRecDepth 100000
def bwinE (parts : Array (Nat × Value)) : Sem Value := Instr.build 24 parts
theorem bwinE_fold (parts : Array (Nat × Value)) : Instr.build 24 parts = bwinE parts := rfl
theorem run_bwinE (w : World) (a b : Int) : (bwinE #[(0, .int .i64 a), (1, .int .i64 b)]).run Tryz.prog w = .ok (.agg (Win.arr ⟨a, b⟩)) w := run_build w _ _ _ (by kernel_rfl)
theorem run_bentT (w : World) (l : Leg) (s : Int) : (bentD #[(1, .agg l.arr), (4, .int .u8 s)]).run Tryz.prog w = .ok (.agg (⟨false, l, 0, 0, 0, 0, s, []⟩ : Entry).arr) w := run_build w _ _ _ (by kernel_rfl)
theorem run_bentG (w : World) : (bentD #[(0, .bool true)]).run Tryz.prog w = .ok (.agg gapE.arr) w := run_build w _ _ _ (by kernel_rfl)
def bdbZ (parts : Array (Nat × Value)) : Sem Value := Instr.build 43 parts
theorem bdbZ_fold (parts : Array (Nat × Value)) : Instr.build 43 parts = bdbZ parts := rfl
theorem run_bdbZ (w : World) : (bdbZ #[]).run Tryz.prog w = .ok (.agg cells0) w := run_build w _ _ _ (by kernel_rfl)
def bs4 (parts : Array (Nat × Value)) : Sem Value := Instr.buildSlice 44 4 parts
theorem bs4_fold (parts : Array (Nat × Value)) : Instr.buildSlice 44 4 parts = bs4 parts := rfl
theorem run_bs4 (w : World) (a x y z : Entry) : (bs4 #[(0, .agg a.arr), (1, .agg x.arr), (2, .agg y.arr), (3, .agg z.arr)]).run Tryz.prog w = .ok (.slice (some ⟨w.heap.size, 0, none⟩) 4 4) (w.alloc (.cells (cellsOf [a, x, y, z]).toArray 57)) := by
  obtain ⟨i0, hi, hz0, hz1, hz2⟩ := info_parts info_ent_all
  refine run_buildSlice w 44 57 4 #[(0, .agg a.arr), (1, .agg x.arr), (2, .agg y.arr), (3, .agg z.arr)] (cellsOf [a, x, y, z]).toArray i0 _ Tryz.underlying44 hi hz0 (by rw [hz1]; decide) (by rw [hz1]; decide) ?_
  rw [hz1]
  kernel_rfl
def edT (a b : Int) (lo hi : Int) : EditV := ⟨a, b, [], [], [], [], lo, hi, 0, 0, 0, 0⟩
def edI (a b : Int) (r n w : List UInt8) : EditV := ⟨a, b, r, n, w, [], 0, 0, 0, 0, 0, 0⟩
def edH (a b c d : Int) : EditV := ⟨7, a, [], [], [], [], 0, 0, 0, b, c, d⟩
def bedtA (parts : Array (Nat × Value)) : Sem Value := Instr.build 26 parts
theorem bedtA_fold (parts : Array (Nat × Value)) : Instr.build 26 parts = bedtA parts := rfl
theorem run_bedtW (w : World) (a b lo hi : Int) : (bedtA #[(0, .int .u8 a), (1, .int .i64 b), (6, .agg (Win.arr ⟨lo, hi⟩))]).run Tryz.prog w = .ok (.agg (edT a b lo hi).arr) w := run_build w _ _ _ (by kernel_rfl)
theorem run_bedtH (w : World) (a b c d : Int) : (bedtA #[(0, .int .u8 7), (1, .int .i64 a), (8, .int .i64 b), (9, .int .i64 c), (10, .int .u8 d)]).run Tryz.prog w = .ok (.agg (edH a b c d).arr) w := run_build w _ _ _ (by kernel_rfl)
theorem run_bedtD (w : World) (a : Int) (n r : ByteArray) : (bedtA #[(0, .int .u8 a), (3, .string n), (4, .string r)]).run Tryz.prog w = .ok (.agg (edI a 0 [] n.data.toList r.data.toList).arr) w := run_build w _ _ _ (by kernel_rfl)
theorem run_bedtN (w : World) (a b : Int) (n : ByteArray) : (bedtA #[(0, .int .u8 a), (1, .int .i64 b), (3, .string n)]).run Tryz.prog w = .ok (.agg (edI a b [] n.data.toList []).arr) w := run_build w _ _ _ (by kernel_rfl)
theorem run_bedtR (w : World) (a b : Int) (n : ByteArray) : (bedtA #[(0, .int .u8 a), (1, .int .i64 b), (2, .string n)]).run Tryz.prog w = .ok (.agg (edI a b n.data.toList [] []).arr) w := run_build w _ _ _ (by kernel_rfl)
theorem run_bedt2 (w : World) (a b : Int) : (bedtA #[(0, .int .u8 a), (1, .int .i64 b)]).run Tryz.prog w = .ok (.agg (edI a b [] [] []).arr) w := run_build w _ _ _ (by kernel_rfl)
attribute [local go_sem ↓] run_neq_edt bs3_fold bleg_fold bentD_fold bwinE_fold bdbZ_fold bs4_fold bplanA_fold bedtA_fold
attribute [local go_sem] run_bs3 run_bleg3 run_bwinE run_bentT run_bentG run_bdbZ run_bs4 run_bedtW run_bedtH run_bedtD run_bedtN run_bedtR run_bedt2 run_storeD_plan splice_planA Fits_planA
abbrev rA : List UInt8 := [65, 47, 48, 48]
abbrev rB : List UInt8 := [66, 47, 48, 48]
abbrev rC : List UInt8 := [67, 47, 48, 48]
abbrev rD : List UInt8 := [68, 47, 48, 48]
def pl23 : Plan := ⟨[], [], [toE 1 rA, toE 2 rB, toE 2 rC, toE 2 rD], 1⟩
theorem run_bplan23 (w : World) (g : Nat) : (bplanA #[(2, .slice (some ⟨g, 0, none⟩) 4 4), (3, .int .i64 1)]).run Tryz.prog w = .ok (.agg (pl23.arr (some ⟨g, 0, none⟩) 4)) w := run_build w _ _ _ (by kernel_rfl)
attribute [local go_sem] run_bplan23
theorem run_storeN_planA (w : World) (c c' : Array Value) (n : Nat) (hn : n = w.heap.size) (hc : SzIs c 4) (hc' : SzIs c' 4) (h1 : Ones c') :
    (store_plan (.pointer (some ⟨n, 0, none⟩)) (.agg c')).run Tryz.prog (w.alloc (.cells c 46)) = .ok () (w.alloc (.cells c' 46)) := by
  subst hn; exact run_storeN_plan w c c' hc hc' h1
attribute [local go_sem] run_storeN_planA
theorem pl23_small : pl23.small := ⟨by decide, by decide, by decide, fun x hx => by
  have h : x = toE 1 rA ∨ x = toE 2 rB ∨ x = toE 2 rC ∨ x = toE 2 rD := by simpa [pl23] using hx
  rcases h with rfl | rfl | rfl | rfl <;> exact ⟨⟨by decide, by decide⟩, by decide⟩⟩
theorem aw23_apply {e : EditV} {R : Plan × Int} (hR : applyS look0 pl23 e = R) (he : e.ref.length ≤ 1000000000 ∧ e.name.length ≤ 1000000000 ∧ e.rway.length ≤ 1000000000 ∧ e.trans.length ≤ 1000000000) (ho : e.op < 8) (W : World) (hO : Open23 W) (g : Nat) (hE : Ents W (some ⟨g, 0, none⟩) pl23.es) :
    Calls Tryz.prog 20 #[.agg cells0, .agg (pl23.arr (some ⟨g, 0, none⟩) 4), .agg e.arr] W (RetAp W R) := by
  rw [← hR]
  exact eapply0_any pl23 _ 4 e W hO.laid hO.forms hO.gap pl23_small (Nat.le_refl _) hE (by decide) (by decide) he ho
theorem to23_any (t : Int) (fix : List UInt8) (w : World) : Calls Tryz.prog 29 #[.int .u8 t, .string ⟨fix.toArray⟩] w (Ret w (.agg (toE t fix).arr)) := by
  have hlit : (#[.bool false, .int .u8 t, .string ⟨fix.toArray⟩, .string ⟨#[]⟩, .int .u8 0, .bool false, .int .i64 0, .int .i64 0, .int .i64 0, .int .i64 0, .int .i64 (-200000), .int .i64 6000000, .int .i64 0, .int .i64 0, .int .i64 0, .int .i64 0, .int .i64 0, .int .i64 0, .int .u8 2, .string ⟨#[]⟩] : Array Value) = (toE t fix).arr := rfl
  go_enter Tryz.func29, Tryz.ntmps29
  go_wp2
  refine bodyPost_ret (results_ent1 Tryz.results29 _ _ w.heap.size (toE t fix) rfl ?_) rfl ⟨rfl, (Below.refl _ _).alloc (Nat.le_refl _) _⟩
  exact (Blk.new w (toE t fix).arr _).is_ent
theorem aw_t1 : editText (edT 4 3 500000 6000000) = [65, 76, 84, 32, 51, 32, 53, 48, 48, 48, 43] := by kernel_rfl
theorem aw_p1 : editParse [72, 79, 76, 68, 32, 50, 32, 49, 54, 48, 48, 48, 48, 48, 48, 48, 32, 53, 32, 82] = (edH 2 57600000 30000 2, 0) := by kernel_rfl
theorem aw_p2 : editParse [68, 69, 80, 65, 82, 84, 85, 82, 69, 32, 83, 85, 77, 77, 65, 50, 32, 82, 87, 49, 54, 76, 32, 45] = (edI 9 0 [] [83, 85, 77, 77, 65, 50] [82, 87, 49, 54, 76], 0) := by kernel_rfl
theorem aw_t2 : editText (edI 12 4 [] [75, 80, 68, 88, 47, 82, 87, 50, 56, 82] []) = [68, 73, 86, 69, 82, 84, 32, 52, 32, 75, 80, 68, 88, 47, 82, 87, 50, 56, 82] := by kernel_rfl
theorem aw_a1 : applyS look0 pl23 (edI 2 2 [] [] []) = (⟨[], [], [toE 1 rA, toE 2 rB, gapE, toE 1 rD], 1⟩, 0) := by kernel_rfl
theorem aw_a2 : applyS look0 pl23 (edI 3 3 [] [] []) = (⟨[], [], [toE 4 rD], 0⟩, 0) := by kernel_rfl
theorem aw_a3 : applyS look0 pl23 (edI 1 2 rD [] []) = (⟨[], [], [toE 1 rA, toE 2 rB, toE 4 rD], 1⟩, 0) := by kernel_rfl
theorem aw_a4 : applyS look0 pl23 (edI 2 1 [] [] []) = (plan0, 8) := by kernel_rfl
theorem four_filled (w : World) (z a b c d : Array Value) (t : TypeId) :
    let W := (((w.alloc (.cells z t)).alloc (.cells z t)).alloc (.cells z t)).alloc (.cells z t)
    let s := w.heap.size
    (Plain W s ∧ blkOf W s = z) ∧ (Plain (W.setRow s a) (s + 1) ∧ blkOf (W.setRow s a) (s + 1) = z) ∧ (Plain ((W.setRow s a).setRow (s + 1) b) (s + 1 + 1) ∧ blkOf ((W.setRow s a).setRow (s + 1) b) (s + 1 + 1) = z) ∧
    (Plain (((W.setRow s a).setRow (s + 1) b).setRow (s + 1 + 1) c) (s + 1 + 1 + 1) ∧ blkOf (((W.setRow s a).setRow (s + 1) b).setRow (s + 1 + 1) c) (s + 1 + 1 + 1) = z) ∧
    (∃ W9, (((W.setRow s a).setRow (s + 1) b).setRow (s + 1 + 1) c).setRow (s + 1 + 1 + 1) d = W9 ∧ Blk W9 s a ∧ Blk W9 (s + 1) b ∧ Blk W9 (s + 1 + 1) c ∧ Blk W9 (s + 1 + 1 + 1) d ∧ Below w.heap.size w W9) := by
  intro W s
  have h1 : Blk W s z := (((Blk.new w z t).alloc _).alloc _).alloc _
  have h2 : Blk W (s + 1) z := by have := Blk.new (w.alloc (.cells z t)) z t; rw [World.size_alloc] at this; exact (this.alloc _).alloc _
  have h3 : Blk W (s + 1 + 1) z := by have := Blk.new ((w.alloc (.cells z t)).alloc (.cells z t)) z t; rw [World.size_alloc, World.size_alloc] at this; exact this.alloc _
  have h4 : Blk W (s + 1 + 1 + 1) z := by have := Blk.new (((w.alloc (.cells z t)).alloc (.cells z t)).alloc (.cells z t)) z t; rw [World.size_alloc, World.size_alloc, World.size_alloc] at this; exact this
  have hb : Below w.heap.size w W := by show Below w.heap.size w ((((w.alloc _).alloc _).alloc _).alloc _); go_grown
  have k2 := h2.far (show s + 1 ≠ s by omega) a
  have k3 := (h3.far (show s + 1 + 1 ≠ s by omega) a).far (show s + 1 + 1 ≠ s + 1 by omega) b
  have k4 := ((h4.far (show s + 1 + 1 + 1 ≠ s by omega) a).far (show s + 1 + 1 + 1 ≠ s + 1 by omega) b).far (show s + 1 + 1 + 1 ≠ s + 1 + 1 by omega) c
  refine ⟨⟨h1.plain, h1.of⟩, ⟨k2.plain, k2.of⟩, ⟨k3.plain, k3.of⟩, ⟨k4.plain, k4.of⟩, _, rfl, ?_, ?_, ?_, ?_, ?_⟩
  · exact (((h1.set a).far (by omega) _).far (by omega) _).far (by omega) _
  · exact ((k2.set b).far (by omega) _).far (by omega) _
  · exact (k3.set c).far (by omega) _
  · exact k4.set d
  · exact below_setRow' (below_setRow' (below_setRow' (below_setRow' hb (Nat.le_refl _) _) (by omega) _) (by omega) _) (by omega) _
set_option maxHeartbeats 16000000 in
theorem awake23_any (w : World) (hO : Open23 w) : Calls Tryz.prog 12 #[] w (Ret w (.bool true)) := by
  have kt := Lib.hid (fun (W : World) (b : Below w.heap.size w W) => show Calls Tryz.prog 15 #[.agg (edT 4 3 500000 6000000).arr] W (Ret W (.string ⟨#[65, 76, 84, 32, 51, 32, 53, 48, 48, 48, 43]⟩)) from by
    have := editText_any (edT 4 3 500000 6000000) ⟨by decide, by decide, by decide, by decide⟩ W (hO.below b).laid (hO.below b).forms
    rwa [aw_t1] at this)
  have kt2 := Lib.hid (fun (W : World) (b : Below w.heap.size w W) => show Calls Tryz.prog 15 #[.agg (edI 12 4 [] [75, 80, 68, 88, 47, 82, 87, 50, 56, 82] []).arr] W (Ret W (.string ⟨#[68, 73, 86, 69, 82, 84, 32, 52, 32, 75, 80, 68, 88, 47, 82, 87, 50, 56, 82]⟩)) from by
    have := editText_any (edI 12 4 [] [75, 80, 68, 88, 47, 82, 87, 50, 56, 82] []) ⟨by decide, by decide, by decide, by decide⟩ W (hO.below b).laid (hO.below b).forms
    rwa [aw_t2] at this)
  have kp := Lib.hid (fun (W : World) (b : Below w.heap.size w W) => show Calls Tryz.prog 17 #[.string ⟨#[72, 79, 76, 68, 32, 50, 32, 49, 54, 48, 48, 48, 48, 48, 48, 48, 32, 53, 32, 82]⟩] W (Ret W (.tuple #[.agg (edH 2 57600000 30000 2).arr, .int .i64 0])) from by
    have := editParse_any [72, 79, 76, 68, 32, 50, 32, 49, 54, 48, 48, 48, 48, 48, 48, 48, 32, 53, 32, 82] W (hO.below b).laid (hO.below b).errs (hO.below b).forms (by decide)
    rwa [aw_p1] at this)
  have kp2 := Lib.hid (fun (W : World) (b : Below w.heap.size w W) => show Calls Tryz.prog 17 #[.string ⟨#[68, 69, 80, 65, 82, 84, 85, 82, 69, 32, 83, 85, 77, 77, 65, 50, 32, 82, 87, 49, 54, 76, 32, 45]⟩] W (Ret W (.tuple #[.agg (edI 9 0 [] [83, 85, 77, 77, 65, 50] [82, 87, 49, 54, 76]).arr, .int .i64 0])) from by
    have := editParse_any [68, 69, 80, 65, 82, 84, 85, 82, 69, 32, 83, 85, 77, 77, 65, 50, 32, 82, 87, 49, 54, 76, 32, 45] W (hO.below b).laid (hO.below b).errs (hO.below b).forms (by decide)
    rwa [aw_p2] at this)
  have s1 : (edH 2 57600000 30000 2).eqB (edH 2 57600000 30000 2) = true := (EditV.eqB_iff _ _).2 rfl
  have s2 : (edI 9 0 [] [83, 85, 77, 77, 65, 50] [82, 87, 49, 54, 76]).eqB (edI 9 0 [] [83, 85, 77, 77, 65, 50] [82, 87, 49, 54, 76]) = true := (EditV.eqB_iff _ _).2 rfl
  go_enter Tryz.func12, Tryz.ntmps12
  go_upto_region 3 with (go_at_call 15; (with_reducible refine callR (kt.out _ (Below.refl _ _)) ?_); intro w1 b1 _ _ _)
  go_upto_region 6 with (go_at_call 17; (with_reducible refine callR (kp.out _ b1) ?_); intro w2 b2 _ _ _)
  have B2 := below_step (below_step b1 b2) (alloc_below5 w2 (.cells (edH 2 57600000 30000 2).arr 26))
  generalize w2.alloc _ = W2 at B2 ⊢
  clear b1 b2 s1 kt kp
  go_upto_region 9 with (first
    | (go_at_call 17; (with_reducible refine callR (kp2.out _ B2) ?_); intro w3 b3 _ _ _)
    | (go_at_call 15; (with_reducible refine callR (kt2.out _ (below_step (below_step B2 b3) (alloc_below5 w3 (.cells (edI 9 0 [] [83, 85, 77, 77, 65, 50] [82, 87, 49, 54, 76]).arr 26)))) ?_); intro w4 b4 _ _ _))
  have B4 := below_step (below_step (below_step B2 b3) (alloc_below5 w3 (.cells (edI 9 0 [] [83, 85, 77, 77, 65, 50] [82, 87, 49, 54, 76]).arr 26))) b4
  clear b3 b4 B2 s2 kt2 kp2
  have ka := Lib.hid (fun W => show Calls Tryz.prog 29 #[.int .u8 1, .string ⟨#[65, 47, 48, 48]⟩] W (Ret W (.agg (toE 1 rA).arr)) from to23_any 1 rA W)
  have kb := Lib.hid (fun W => show Calls Tryz.prog 29 #[.int .u8 2, .string ⟨#[66, 47, 48, 48]⟩] W (Ret W (.agg (toE 2 rB).arr)) from to23_any 2 rB W)
  have kc := Lib.hid (fun W => show Calls Tryz.prog 29 #[.int .u8 2, .string ⟨#[67, 47, 48, 48]⟩] W (Ret W (.agg (toE 2 rC).arr)) from to23_any 2 rC W)
  have kd := Lib.hid (fun W => show Calls Tryz.prog 29 #[.int .u8 2, .string ⟨#[68, 47, 48, 48]⟩] W (Ret W (.agg (toE 2 rD).arr)) from to23_any 2 rD W)
  go_upto_region 10 with (go_at_call 29; first
    | ((with_reducible refine callR (ka.out _) ?_); intro w5 b5 _ _ _)
    | ((with_reducible refine callR (kb.out _) ?_); intro w6 b6 _ _ _)
    | ((with_reducible refine callR (kc.out _) ?_); intro w7 b7 _ _ _)
    | ((with_reducible refine callR (kd.out _) ?_); intro w8 b8 _ _ _
       obtain ⟨⟨e1, e2⟩, ⟨e3, e4⟩, ⟨e5, e6⟩, ⟨e7, e8⟩, e9⟩ := four_filled w8 #[.bool false, .int .u8 0, .string ⟨#[]⟩, .string ⟨#[]⟩, .int .u8 0, .bool false, .int .i64 0, .int .i64 0, .int .i64 0, .int .i64 0, .int .i64 0, .int .i64 0, .int .i64 0, .int .i64 0, .int .i64 0, .int .i64 0, .int .i64 0, .int .i64 0, .int .u8 0, .string ⟨#[]⟩] (toE 1 rA).arr (toE 2 rB).arr (toE 2 rC).arr (toE 2 rD).arr 57
       have f0 : splice #[.bool false, .int .u8 0, .string ⟨#[]⟩, .string ⟨#[]⟩, .int .u8 0, .bool false, .int .i64 0, .int .i64 0, .int .i64 0, .int .i64 0, .int .i64 0, .int .i64 0, .int .i64 0, .int .i64 0, .int .i64 0, .int .i64 0, .int .i64 0, .int .i64 0, .int .u8 0, .string ⟨#[]⟩] 0 (toE 1 rA).arr = (toE 1 rA).arr := rfl
       have f1 : splice #[.bool false, .int .u8 0, .string ⟨#[]⟩, .string ⟨#[]⟩, .int .u8 0, .bool false, .int .i64 0, .int .i64 0, .int .i64 0, .int .i64 0, .int .i64 0, .int .i64 0, .int .i64 0, .int .i64 0, .int .i64 0, .int .i64 0, .int .i64 0, .int .i64 0, .int .u8 0, .string ⟨#[]⟩] 0 (toE 2 rB).arr = (toE 2 rB).arr := rfl
       have f2 : splice #[.bool false, .int .u8 0, .string ⟨#[]⟩, .string ⟨#[]⟩, .int .u8 0, .bool false, .int .i64 0, .int .i64 0, .int .i64 0, .int .i64 0, .int .i64 0, .int .i64 0, .int .i64 0, .int .i64 0, .int .i64 0, .int .i64 0, .int .i64 0, .int .i64 0, .int .u8 0, .string ⟨#[]⟩] 0 (toE 2 rC).arr = (toE 2 rC).arr := rfl
       have f3 : splice #[.bool false, .int .u8 0, .string ⟨#[]⟩, .string ⟨#[]⟩, .int .u8 0, .bool false, .int .i64 0, .int .i64 0, .int .i64 0, .int .i64 0, .int .i64 0, .int .i64 0, .int .i64 0, .int .i64 0, .int .i64 0, .int .i64 0, .int .i64 0, .int .i64 0, .int .u8 0, .string ⟨#[]⟩] 0 (toE 2 rD).arr = (toE 2 rD).arr := rfl
       have HF := Lib.hid e9
       clear e9))
  obtain ⟨W9, hW9, A1, A2, A3, A4, B9⟩ := HF.out
  rw [hW9]
  have B9 := below_step (below_step (below_step (below_step (below_step B4 b5) b6) b7) b8) B9
  clear e1 e2 e3 e4 e5 e6 e7 e8 f0 f1 f2 f3 HF hW9 b5 b6 b7 b8 B4 ka kb kc
  generalize w8.heap.size + 1 + 1 + 1 = g4 at A4 ⊢
  generalize w8.heap.size + 1 + 1 = g3 at A3 ⊢
  generalize w8.heap.size + 1 = g2 at A2 ⊢
  generalize w8.heap.size = g1 at A1 ⊢
  have i1 : Has_ent W9 g1 0 := ⟨_, A1.is_ent⟩
  have i2 : of_ent W9 g1 0 = toE 1 rA := of_ent_eq A1.is_ent
  have i3 : Has_ent W9 g2 0 := ⟨_, A2.is_ent⟩
  have i4 : of_ent W9 g2 0 = toE 2 rB := of_ent_eq A2.is_ent
  have i5 : Has_ent W9 g3 0 := ⟨_, A3.is_ent⟩
  have i6 : of_ent W9 g3 0 = toE 2 rC := of_ent_eq A3.is_ent
  have i7 : Has_ent W9 g4 0 := ⟨_, A4.is_ent⟩
  have i8 : of_ent W9 g4 0 = toE 2 rD := of_ent_eq A4.is_ent
  go_upto_region 11 with (fail)
  have S0 : Blk ((W9.alloc (.cells (cellsOf pl23.es).toArray 57)).alloc (.cells (pl23.arr (some ⟨W9.heap.size, 0, none⟩) 4) 46)) W9.heap.size (cellsOf pl23.es).toArray := (Blk.new W9 _ _).alloc _
  have P0 : Blk ((W9.alloc (.cells (cellsOf pl23.es).toArray 57)).alloc (.cells (pl23.arr (some ⟨W9.heap.size, 0, none⟩) 4) 46)) (W9.heap.size + 1) (pl23.arr (some ⟨W9.heap.size, 0, none⟩) 4) := by rw [← World.size_alloc W9 (.cells (cellsOf pl23.es).toArray 57)]; exact Blk.new _ _ _
  have B0 : Below W9.heap.size W9 ((W9.alloc (.cells (cellsOf pl23.es).toArray 57)).alloc (.cells (pl23.arr (some ⟨W9.heap.size, 0, none⟩) 4) 46)) := by go_grown
  have X1 := A1.step B0
  have X2 := A2.step B0
  have B10 := below_step B9 B0
  clear i1 i2 i3 i4 i5 i6 i7 i8 A1 A2 A3 A4 B0 B9
  have hpl : (cellsOf pl23.es).toArray = (cellsOf [toE 1 rA, toE 2 rB, toE 2 rC, toE 2 rD]).toArray := rfl
  rw [hpl] at S0 P0 X1 X2 B10
  generalize (World.alloc (World.alloc _ _) _) = W10 at S0 P0 X1 X2 B10 ⊢
  rw [← hpl] at S0
  clear hpl
  generalize W9.heap.size + 1 = gp at P0 ⊢
  generalize W9.heap.size = gl at S0 P0 ⊢
  have KA := Lib.hid (fun (e : EditV) (R : Plan × Int) (hR : applyS look0 pl23 e = R) (he : e.ref.length ≤ 1000000000 ∧ e.name.length ≤ 1000000000 ∧ e.rway.length ≤ 1000000000 ∧ e.trans.length ≤ 1000000000) (ho : e.op < 8) (W : World) (b : Below W10.heap.size W10 W) =>
    aw23_apply hR he ho W (hO.below (below_step B10 b)) gl ((S0.step b).ents))
  have k1 := Lib.hid (KA.out (edI 2 2 [] [] []) _ aw_a1 ⟨by decide, by decide, by decide, by decide⟩ (by decide) W10 (Below.refl _ _))
  have i1 : Has_plan W10 gp 0 := ⟨_, P0.is_plan rfl⟩
  have i2 : of_plan W10 gp 0 = pl23.arr (some ⟨gl, 0, none⟩) 4 := of_plan_eq (P0.is_plan rfl)
  go_upto_region 12 with (go_at_call 20; (with_reducible refine callAp k1.out ?_); intro Aq cq w11 hcq hEq _ b11)
  have Q0 := Blk.new w11 ((⟨[], [], [toE 1 rA, toE 2 rB, gapE, toE 1 rD], 1⟩ : Plan).arr Aq cq) 46
  have D0 := below_step b11 (alloc_below5 w11 (.cells ((⟨[], [], [toE 1 rA, toE 2 rB, gapE, toE 1 rD], 1⟩ : Plan).arr Aq cq) 46))
  have E0 := hEq.below (B := 0) (alloc_below5 w11 (.cells ((⟨[], [], [toE 1 rA, toE 2 rB, gapE, toE 1 rD], 1⟩ : Plan).arr Aq cq) 46))
  have hgq := b11.size
  clear k1 i1 i2 hEq b11
  generalize w11.alloc _ = W12 at Q0 D0 E0 ⊢
  generalize w11.heap.size = gq at Q0 hgq ⊢
  have X1' := X1.step D0
  have X2' := X2.step D0
  have KP := Lib.hid (fun (W' : World) (b : Below W12.heap.size W12 W') =>
    (⟨⟨_, (X1'.step b).is_ent⟩, of_ent_eq (X1'.step b).is_ent, ⟨_, (X2'.step b).is_ent⟩, of_ent_eq (X2'.step b).is_ent, (Q0.step b).cell 2, (Q0.step b).cell 3⟩ :
      Has_ent W' g1 0 ∧ of_ent W' g1 0 = toE 1 rA ∧ Has_ent W' g2 0 ∧ of_ent W' g2 0 = toE 2 rB ∧ W'.cell? ⟨gq, 2, none⟩ = some (.slice Aq 4 cq) ∧ W'.cell? ⟨gq, 3, none⟩ = some (.int .i64 1)))
  have KE := Lib.hid (fun (W' : World) (b : Below W12.heap.size W12 W') (q : Nat) (Y : Blk W' q (cellsOf [toE 1 rA, toE 2 rB, gapE, toE 1 rD]).toArray) =>
    show Calls Tryz.prog 21 #[.slice Aq 4 cq, .slice (some ⟨q, 0, none⟩) 4 4] W' (RetQ W' (.bool true)) from by
      have := equal_any [toE 1 rA, toE 2 rB, gapE, toE 1 rD] [toE 1 rA, toE 2 rB, gapE, toE 1 rD] Aq (some ⟨q, 0, none⟩) cq 4 W' (by decide) (by decide) hcq (by decide) (E0.below (B := 0) b) Y.ents
      rwa [(eqGo_iff _ _).2 rfl] at this)
  have kx := Lib.hid (fun W => show Calls Tryz.prog 29 #[.int .u8 1, .string ⟨#[68, 47, 48, 48]⟩] W (Ret W (.agg (toE 1 rD).arr)) from to23_any 1 rD W)
  go_cut [75] (fun sv wx => sv = .bool false ∧ Below W12.heap.size W12 wx)
  case first =>
    have hg1 := X1'.lt
    have hg2 := X2'.lt
    clear X1 X2 S0 P0 X1' X2' E0
    go_region_held3 (fun w' => Has_ent w' g1 0 ∧ of_ent w' g1 0 = toE 1 rA ∧ Has_ent w' g2 0 ∧ of_ent w' g2 0 = toE 2 rB ∧ w'.cell? ⟨gq, 2, none⟩ = some (.slice Aq 4 cq) ∧ w'.cell? ⟨gq, 3, none⟩ = some (.int .i64 1))
      (first | exact KP.out _ (Below.refl _ _).drew | exact KP.out _ (below_step (Below.refl _ _).drew b13) | exact KP.out _ (below_step (below_step (Below.refl _ _).drew b13) (alloc_below5 _ _)) | exact KP.out _ (below_drewN (below_step (below_step (Below.refl _ _).drew b13) (alloc_below5 _ _)) _))
      (first
      | (go_at_call 29; (with_reducible refine callR (kx.out _) ?_); intro w13 b13 _ _ _)
      | (go_at_call 21; (with_reducible refine callQ (KE.out _ (below_step (below_step (Below.refl _ _).drew b13) (alloc_below5 _ _)) _ (Blk.new _ _ _)) ?_); intro n14))
    all_goals
      go_wp2
      go_meet
      exact ⟨rfl, below_drewN (below_step (below_step (Below.refl _ _).drew b13) (alloc_below5 _ _)) _⟩
  case rest =>
    obtain ⟨rfl, BC⟩ := hcut
    have Dc := below_step D0 BC
    have Qc := Q0.step BC
    clear Q0 D0 E0 BC KP KE X1' X2' hcq
    have k2 := Lib.hid (KA.out (edI 3 3 [] [] []) _ aw_a2 ⟨by decide, by decide, by decide, by decide⟩ (by decide) wc Dc)
    have i1 : Has_plan wc gp 0 := ⟨_, (P0.step Dc).is_plan rfl⟩
    have i2 : of_plan wc gp 0 = pl23.arr (some ⟨gl, 0, none⟩) 4 := of_plan_eq ((P0.step Dc).is_plan rfl)
    go_upto_region 15 with (go_at_call 20; (with_reducible refine callAp k2.out ?_); intro Aq2 cq2 w15 hcq2 hE2 ha2 b15; have d2 := (Qc.step b15).plain; have d3 := (Qc.step b15).of)
    have hql := Qc.lt
    have Q1 := (Qc.step b15).set ((⟨[], [], [toE 4 rD], 0⟩ : Plan).arr Aq2 cq2)
    have D1 := below_setRow' (below_step Dc b15) hgq ((⟨[], [], [toE 4 rD], 0⟩ : Plan).arr Aq2 cq2)
    have E1 := hE2.farA (g := gq) (fun a h => by have := ha2 a h; omega) ((⟨[], [], [toE 4 rD], 0⟩ : Plan).arr Aq2 cq2)
    clear k2 i1 i2 d2 d3 hE2 ha2 b15 Qc Dc hql
    generalize w15.setRow _ _ = W16 at Q1 D1 E1 ⊢
    have KP := Lib.hid (fun (W' : World) (b : Below W16.heap.size W16 W') =>
      (⟨(Q1.step b).cell 2, (Q1.step b).cell 3⟩ : W'.cell? ⟨gq, 2, none⟩ = some (.slice Aq2 1 cq2) ∧ W'.cell? ⟨gq, 3, none⟩ = some (.int .i64 0)))
    have KE := Lib.hid (fun (W' : World) (b : Below W16.heap.size W16 W') (q : Nat) (Y : Blk W' q (toE 4 rD).arr) =>
      show Calls Tryz.prog 21 #[.slice Aq2 1 cq2, .slice (some ⟨q, 0, none⟩) 1 1] W' (RetQ W' (.bool true)) from by
        have := equal_any [toE 4 rD] [toE 4 rD] Aq2 (some ⟨q, 0, none⟩) cq2 1 W' (by decide) (by decide) hcq2 (by decide) (E1.below (B := 0) b) (ents1 Y)
        rwa [(eqGo_iff _ _).2 rfl] at this)
    have ky := Lib.hid (fun W => show Calls Tryz.prog 29 #[.int .u8 4, .string ⟨#[68, 47, 48, 48]⟩] W (Ret W (.agg (toE 4 rD).arr)) from to23_any 4 rD W)
    go_cut [97] (fun sv wx => sv = .bool false ∧ Below W16.heap.size W16 wx)
    case first =>
      clear X1 X2 S0 P0 E1 KA
      go_region_held3 (fun w' => w'.cell? ⟨gq, 2, none⟩ = some (.slice Aq2 1 cq2) ∧ w'.cell? ⟨gq, 3, none⟩ = some (.int .i64 0))
        (first | exact KP.out _ (Below.refl _ _).drew | exact KP.out _ (below_step (Below.refl _ _).drew b13) | exact KP.out _ (below_step (below_step (Below.refl _ _).drew b13) (alloc_below5 _ _)) | exact KP.out _ (below_drewN (below_step (below_step (Below.refl _ _).drew b13) (alloc_below5 _ _)) _))
        (first
        | (go_at_call 29; (with_reducible refine callR (ky.out _) ?_); intro w13 b13 _ _ _)
        | (go_at_call 21; (with_reducible refine callQ (KE.out _ (below_step (below_step (Below.refl _ _).drew b13) (alloc_below5 _ _)) _ (Blk.new _ _ _)) ?_); intro n14))
      all_goals
        go_wp2
        go_meet
        exact ⟨rfl, below_drewN (below_step (below_step (Below.refl _ _).drew b13) (alloc_below5 _ _)) _⟩
    case rest =>
      obtain ⟨rfl, BC⟩ := hcut
      have Dc := below_step D1 BC
      have Qc := Q1.step BC
      clear Q1 D1 E1 BC KP KE hcq2
      have k2 := Lib.hid (KA.out (edI 1 2 rD [] []) _ aw_a3 ⟨by decide, by decide, by decide, by decide⟩ (by decide) wc Dc)
      have i1 : Has_plan wc gp 0 := ⟨_, (P0.step Dc).is_plan rfl⟩
      have i2 : of_plan wc gp 0 = pl23.arr (some ⟨gl, 0, none⟩) 4 := of_plan_eq ((P0.step Dc).is_plan rfl)
      go_upto_region 18 with (go_at_call 20; (with_reducible refine callAp k2.out ?_); intro Aq2 cq2 w15 hcq2 hE2 ha2 b15; have d2 := (Qc.step b15).plain; have d3 := (Qc.step b15).of)
      have hql := Qc.lt
      have Q1 := (Qc.step b15).set ((⟨[], [], [toE 1 rA, toE 2 rB, toE 4 rD], 1⟩ : Plan).arr Aq2 cq2)
      have D1 := below_setRow' (below_step Dc b15) hgq ((⟨[], [], [toE 1 rA, toE 2 rB, toE 4 rD], 1⟩ : Plan).arr Aq2 cq2)
      have E1 := hE2.farA (g := gq) (fun a h => by have := ha2 a h; omega) ((⟨[], [], [toE 1 rA, toE 2 rB, toE 4 rD], 1⟩ : Plan).arr Aq2 cq2)
      clear k2 i1 i2 d2 d3 hE2 ha2 b15 Qc Dc hql
      generalize w15.setRow _ _ = W18 at Q1 D1 E1 ⊢
      have X1' := X1.step D1
      have X2' := X2.step D1
      have KP := Lib.hid (fun (W' : World) (b : Below W18.heap.size W18 W') =>
        (⟨⟨_, (X1'.step b).is_ent⟩, of_ent_eq (X1'.step b).is_ent, ⟨_, (X2'.step b).is_ent⟩, of_ent_eq (X2'.step b).is_ent, (Q1.step b).cell 2⟩ :
          Has_ent W' g1 0 ∧ of_ent W' g1 0 = toE 1 rA ∧ Has_ent W' g2 0 ∧ of_ent W' g2 0 = toE 2 rB ∧ W'.cell? ⟨gq, 2, none⟩ = some (.slice Aq2 3 cq2)))
      have KE := Lib.hid (fun (W' : World) (b : Below W18.heap.size W18 W') (q : Nat) (Y : Blk W' q (cellsOf [toE 1 rA, toE 2 rB, toE 4 rD]).toArray) =>
        show Calls Tryz.prog 21 #[.slice Aq2 3 cq2, .slice (some ⟨q, 0, none⟩) 3 3] W' (RetQ W' (.bool true)) from by
          have := equal_any [toE 1 rA, toE 2 rB, toE 4 rD] [toE 1 rA, toE 2 rB, toE 4 rD] Aq2 (some ⟨q, 0, none⟩) cq2 3 W' (by decide) (by decide) hcq2 (by decide) (E1.below (B := 0) b) Y.ents
          rwa [(eqGo_iff _ _).2 rfl] at this)
      go_cut [116] (fun sv wx => sv = .bool false ∧ Below W18.heap.size W18 wx)
      case first =>
        have hg1 := X1'.lt
        have hg2 := X2'.lt
        clear X1 X2 S0 P0 E1 KA X1' X2'
        go_region_held3 (fun w' => Has_ent w' g1 0 ∧ of_ent w' g1 0 = toE 1 rA ∧ Has_ent w' g2 0 ∧ of_ent w' g2 0 = toE 2 rB ∧ w'.cell? ⟨gq, 2, none⟩ = some (.slice Aq2 3 cq2))
          (first | exact KP.out _ (Below.refl _ _).drew | exact KP.out _ (below_step (Below.refl _ _).drew b13) | exact KP.out _ (below_step (below_step (Below.refl _ _).drew b13) (alloc_below5 _ _)) | exact KP.out _ (below_drewN (below_step (below_step (Below.refl _ _).drew b13) (alloc_below5 _ _)) _))
          (first
          | (go_at_call 29; (with_reducible refine callR (ky.out _) ?_); intro w13 b13 _ _ _)
          | (go_at_call 21; (with_reducible refine callQ (KE.out _ (below_step (below_step (Below.refl _ _).drew b13) (alloc_below5 _ _)) _ (Blk.new _ _ _)) ?_); intro n14))
        all_goals
          go_wp2
          go_meet
          exact ⟨rfl, below_drewN (below_step (below_step (Below.refl _ _).drew b13) (alloc_below5 _ _)) _⟩
      case rest =>
        obtain ⟨rfl, BC⟩ := hcut
        have Dc := below_step D1 BC
        have k2 := Lib.hid (KA.out (edI 2 1 [] [] []) _ aw_a4 ⟨by decide, by decide, by decide, by decide⟩ (by decide) wc Dc)
        have i1 : Has_plan wc gp 0 := ⟨_, (P0.step Dc).is_plan rfl⟩
        have i2 : of_plan wc gp 0 = pl23.arr (some ⟨gl, 0, none⟩) 4 := of_plan_eq ((P0.step Dc).is_plan rfl)
        clear Q1 D1 E1 BC KP KE hcq2 X1' X2' X1 X2 S0 P0 KA
        go_wp2_with (go_at_call 20; (with_reducible refine callAp k2.out ?_); intro Aq3 cq3 w19 _ _ _ b19)
        go_ret
        exact Ret.bool rfl (below_step B10 (below_step Dc b19))
end Go.Proofs.YtnmpfmelaninbaaGreatDoor
