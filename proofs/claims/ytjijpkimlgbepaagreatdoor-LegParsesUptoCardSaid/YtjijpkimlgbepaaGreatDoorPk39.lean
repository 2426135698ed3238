/- leg.Parse: the walk. -/
import Derived.Test.YtjijpkimlgbepaaGreatDoorPk38
import Derived.Test.YtjijpkimlgbepaaGreatDoorPk10
namespace Go.Proofs.YtjijpkimlgbepaaGreatDoor
open Go.RowKit Go.Sort
set_option linter.unusedVariables false
set_option linter.unusedSimpArgs false
set_option maxRecDepth 100000
theorem splitB_list (l : List UInt8) : (Lib.splitB ⟨#[32]⟩ 0 (Lib.countB ⟨l.toArray⟩ ⟨#[32]⟩) ⟨l.toArray⟩).map Value.string = (words l).map fun q => Value.string ⟨q.toArray⟩ := by
  have h := Lib.splitB_data ⟨#[32]⟩ 0 (Lib.countB ⟨l.toArray⟩ ⟨#[32]⟩) ⟨l.toArray⟩
  have hc : Lib.countB ⟨l.toArray⟩ ⟨#[32]⟩ = Lib.count l [32] := by rfl
  have h2 : Lib.splitK [32] 0 (Lib.countB ⟨l.toArray⟩ ⟨#[32]⟩) l = words l := by
    rw [hc]; exact split_words l
  rw [← h2, ← show _ = Lib.splitK [32] 0 (Lib.countB ⟨l.toArray⟩ ⟨#[32]⟩) l from h, List.map_map]
  rfl
theorem countB_words (l : List UInt8) : Lib.countB ⟨l.toArray⟩ ⟨#[32]⟩ + 1 = (words l).length := by
  rw [words_len]
  have hc : Lib.countB ⟨l.toArray⟩ ⟨#[32]⟩ = Lib.count l [32] := by rfl
  rw [hc, Lib.count, countFrom_cutAt 32 _ l (by omega)]
def strCells (ws : List (List UInt8)) : Array Value := (ws.map fun q => Value.string ⟨q.toArray⟩).toArray
theorem split_any (l : List UInt8) (w : World) (hL : Laid w) (hl : l.length ≤ 4000000000) : Calls Tryz.prog 46 #[.string ⟨l.toArray⟩, .string ⟨#[32]⟩] w fun e w' =>
    e = .returned (.slice (some ⟨w.heap.size, 0, none⟩) (words l).length (words l).length) ∧ w' = w.alloc (.cells (strCells (words l)) 9) := by
  obtain ⟨m, hm⟩ := hL.maxLen
  have h := Tryz.strings_Split ⟨l.toArray⟩ ⟨#[32]⟩ m w (by simp [ByteArray.size]; omega) hm (by decide)
  rw [countB_words, splitB_list] at h
  exact h
theorem results_leg3 {fn : Func} {p t u : Tmp} (h : fn.results = #[.cell p 26, .tmp t, .tmp u]) (tmps : Array Value) (w : World) (g : Nat) (x : Leg) (hp : tmps.getD p undef = .pointer (some ⟨g, 0, none⟩)) (hx : Is_leg w g 0 x) :
    (results fn tmps).run Tryz.prog w = .ok (.tuple #[.agg x.arr, tmps.getD t undef, tmps.getD u undef]) w := by
  have hp' : tmps[p]?.getD undef = .pointer (some ⟨g, 0, none⟩) := by simpa using hp
  have hl := run_load_agg (P := Tryz.prog) w ⟨g, 0, none⟩ 26 x.arr.toList _ (fun j v hv => by
    rw [addr_add, hx j (by have := (List.getElem?_eq_some_iff.1 hv).1; simpa [Leg.arr_size] using this)]
    simpa using hv) Tryz.underlying26 rfl info_leg
  simp [results, h, hp', asAddr, hl]
abbrev parseVal (x : Leg × Int × Int) : Value := .tuple #[x.1.val, .int .i64 x.2.1, .int .i64 x.2.2]
theorem Ret.parse {w w' : World} {x : Leg × Int × Int} {l : Leg} {a b : Int} (h : x = (l, a, b)) (hw : Below w.heap.size w w') : Ret w (parseVal x) (.returned (.tuple #[.agg l.arr, .int .i64 a, .int .i64 b])) w' := by subst h; exact ⟨rfl, hw⟩
theorem leg0_arr : leg0.arr = #[.int .u8 0, .string ⟨#[]⟩, .string ⟨#[]⟩, .int .u8 0, .bool false, .int .i64 0, .int .i64 0, .int .i64 0, .int .i64 0, .int .i64 0, .int .i64 0, .int .i64 0, .int .i64 0] := rfl
theorem legOpen_arr : legOpen.arr = #[.int .u8 0, .string ⟨#[]⟩, .string ⟨#[]⟩, .int .u8 0, .bool false, .int .i64 0, .int .i64 0, .int .i64 0, .int .i64 0, .int .i64 (-200000), .int .i64 6000000, .int .i64 0, .int .i64 0] := rfl
theorem needIf_no {b : Bool} {n : Nat} {f : Acc} {x : PS} (h : b = false) : x.needIf b n f = x := by subst h; rfl
theorem needIf_yes {b : Bool} {n : Nat} {f : Acc} {x : PS} (h : b = true) : x.needIf b n f = x.need n f := by subst h; rfl
theorem done_bad {y : PS} (hb : y.bad ≠ 0) : y.done = (leg0, y.bad, 4) := by
  have h : y.badAt = y.bad := by unfold PS.badAt; rw [if_neg (fun e => hb e.2)]
  unfold PS.done; rw [h, if_pos hb]
theorem done_more {y : PS} (hb : y.bad = 0) (hw : y.ws ≠ []) (hc : 1 ≤ y.col) : y.done = (leg0, y.col, 4) := by
  have h : y.badAt = y.col := by unfold PS.badAt; rw [if_pos ⟨hw, hb⟩]
  unfold PS.done; rw [h, if_pos (by omega)]
theorem done_end {y : PS} (hb : y.bad = 0) (hw : y.ws = []) : y.done = if legCheck y.l ≠ 0 then (leg0, 0, legCheck y.l) else (y.l, 0, 0) := by
  have h : y.badAt = 0 := by unfold PS.badAt; rw [if_neg (fun e => e.1 hw)]; exact hb
  unfold PS.done; rw [h, if_neg (by simp)]
theorem is_leg0 {w : World} {g : Nat} (h : Blk w g leg0.arr) : Is_leg (w.setRow g #[.int .u8 0, .string ⟨#[]⟩, .string ⟨#[]⟩, .int .u8 0, .bool false, .int .i64 0, .int .i64 0, .int .i64 0, .int .i64 0, .int .i64 0, .int .i64 0, .int .i64 0, .int .i64 0]) g 0 leg0 := by
  rw [← leg0_arr]; exact (h.set _).is_leg
attribute [local go_sem] bit_eq bit_ne
set_option maxHeartbeats 3000000 in
theorem parse_aux (l : List UInt8) (w : World) (hL : Laid w) (hl : l.length ≤ 4000000000) (out : Leg × Int × Int) (HOUT : Hid (out = parseS l)) : Calls Tryz.prog 16 #[.string ⟨l.toArray⟩] w (Ret w (parseVal out)) := by
  go_enter Tryz.func16, Tryz.ntmps16
  go_upto_region 1 with (fail)
  have R := Blk.new w leg0.arr 26
  have B := alloc_below w (.cells leg0.arr 26)
  rw [leg0_arr] at R B
  generalize w.alloc _ = w0 at R B ⊢
  obtain ⟨g, hg0⟩ : ∃ g, g = w.heap.size := ⟨_, rfl⟩
  rw [← hg0] at R ⊢
  have hg := Nat.le_of_eq hg0.symm
  clear hg0
  have L0 := hL.below B
  go_wp2_with fail
  refine (split_any l w0 L0 hl).mono ?_
  rintro e w1 ⟨rfl, rfl⟩
  have C1 := Blk.new w0 (strCells (words l)) 9
  have b1 := alloc_below w0 (.cells (strCells (words l)) 9)
  generalize w0.alloc _ = w1 at C1 b1 ⊢
  go_upto_region 2 with (fail)
  have D1 := Blk.new w1 #[.slice (some ⟨w0.heap.size, 0, none⟩) (words l).length (words l).length, .int .i64 1, .int .i64 (l.length : Int), .int .i64 0] 58
  have b2 := alloc_below w1 (.cells #[.slice (some ⟨w0.heap.size, 0, none⟩) (words l).length (words l).length, .int .i64 1, .int .i64 (l.length : Int), .int .i64 0] 58)
  have n1 : w0.heap.size < w1.heap.size := C1.lt
  generalize w1.alloc _ = w2 at D1 b2 ⊢
  have C2 := C1.step b2
  have B2 := below_step b1 b2
  have n2 : w1.heap.size < w2.heap.size := D1.lt
  generalize w1.heap.size = rb at D1 n1 n2 ⊢
  clear b1 b2 C1
  generalize hsb : w0.heap.size = sb at D1 C2 n1 ⊢
  go_upto_region 3 with (fail)
  have X3 := Blk.new w2 legOpen.arr 26
  have b3 := alloc_below w2 (.cells legOpen.arr 26)
  rw [legOpen_arr] at X3 b3
  generalize w2.alloc _ = w3 at X3 b3 ⊢
  rw [← legOpen_arr] at X3
  have D3 := D1.step b3
  have C3 := C2.step b3
  have B3 := below_step B2 b3
  generalize w2.heap.size = lb at X3 n2 ⊢
  have P0 : PSt w0 w3 rb sb lb l.length ⟨words l, 1, 0, legOpen⟩ := ⟨⟨⟨some ⟨sb, 0, none⟩, 0, D3, fun _ => rfl, fun j hj => by
      have hj' : j < (words l).length := hj
      rw [C3.cell, Nat.zero_add]
      simp [strCells, hj']⟩, X3⟩, B3, ⟨by omega, by omega, by omega⟩, by omega, by omega, PS.begin0_ok l⟩
  clear D1 D3 C2 C3 X3 b3 B2 B3 n1 n2 hsb
  have R0 := R
  have hgl : g < w0.heap.size := R.lt
  have hnl : 2 ≠ lb := by have := L0.lt_names; have := P0.lb0; omega
  go_wp2_with fail
  with_reducible refine (need_any _ rb sb lb l.length _ _ _ accName P0.st P0.apart P0.ok (accName_ok _) hl ent_name fun s r hw => acc_name _ lb s _ (L0.below P0.below) hnl P0.st.leg (P0.ok.wlen hl hw) P0.ok.ty0 P0.ok.ty).mono ?_
  rintro e w4 ⟨rfl, t4, s4⟩
  have P1 := P0.next t4 s4 (P0.ok.need (accName_ok _))
  have HX := Lib.hid (show out = ((((PS.begin l).fields (PS.begin l).l.ty l.length).options).done) from HOUT.out)
  clear HOUT
  have e1 : (PS.need l.length accName ⟨words l, 1, 0, legOpen⟩) = PS.begin l := rfl
  rw [e1] at P1
  generalize PS.begin l = x at P1 HX
  clear e1 t4 s4 P0
  have c0 : w4.cell? ⟨lb, 0, none⟩ = some (.int .u8 x.l.ty) := P1.st.leg.cell 0
  have ty0 := P1.ok.ty0
  have ty1 := P1.ok.ty
  generalize hty : x.l.ty = ty at c0 ty0 ty1 HX
  have HTY := Lib.hid hty; clear hty
  have hu : w4.cell? ⟨1, ty.toNat, none⟩ = some (.int .u16 (usesOf ty)) := (L0.below P1.below).uses _ (by omega)
  have hty3 : 0 ≤ ty ∧ ty < 18 := by omega
  unfold PS.fields at HX
  go_upto_if 28 with (fail)
  clear hu c0
  go_cut [] (fun wx => PSt w0 wx rb sb lb l.length (x.needIf (uB ty 1) l.length accFix))
  case first =>
    cases hb : uB ty 1
    · go_wp2; go_meet; rw [needIf_no hb]; exact P1
    · go_wp2_with fail
      with_reducible refine (need_any _ rb sb lb l.length _ _ _ accFix P1.st P1.apart P1.ok (accFix_ok _) hl ent_fix fun s r hw => acc_fix _ lb s _ w0 P1.below L0 P1.lb0 P1.st.leg (P1.ok.wlen hl hw)).mono ?_
      rintro e w5 ⟨rfl, t5, s5⟩
      go_wp2
      go_meet
      rw [needIf_yes hb]
      exact P1.next t5 s5 (P1.ok.need (accFix_ok _))
  case rest =>
  clear P1
  have P1 := hcut
  clear hcut
  generalize x.needIf (uB ty 1) l.length accFix = x1 at P1 HX
  go_upto_if 34 with (fail)
  go_cut [] (fun wx => PSt w0 wx rb sb lb l.length (x1.needIf (uB ty 2) l.length accCenter))
  case first =>
    cases hb : uB ty 2
    · go_wp2; go_meet; rw [needIf_no hb]; exact P1
    · go_wp2_with fail
      with_reducible refine (need_any _ rb sb lb l.length _ _ _ accCenter P1.st P1.apart P1.ok (accCenter_ok _) hl ent_center fun s r hw => acc_center _ lb s _ w0 P1.below L0 P1.lb0 P1.st.leg (P1.ok.wlen hl hw)).mono ?_
      rintro e w5 ⟨rfl, t5, s5⟩
      go_wp2
      go_meet
      rw [needIf_yes hb]
      exact P1.next t5 s5 (P1.ok.need (accCenter_ok _))
  case rest =>
  clear P1
  have P1 := hcut
  clear hcut
  generalize x1.needIf (uB ty 2) l.length accCenter = x2 at P1 HX
  go_upto_if 40 with (fail)
  go_cut [] (fun wx => PSt w0 wx rb sb lb l.length (x2.needIf (uB ty 4) l.length accTurn))
  case first =>
    cases hb : uB ty 4
    · go_wp2; go_meet; rw [needIf_no hb]; exact P1
    · go_wp2_with fail
      with_reducible refine (need_any _ rb sb lb l.length _ _ _ accTurn P1.st P1.apart P1.ok (accTurn_ok _) hl ent_turn fun s r hw => acc_turn _ lb s _ w0 P1.below L0 P1.lb0 P1.st.leg (P1.ok.wlen hl hw)).mono ?_
      rintro e w5 ⟨rfl, t5, s5⟩
      go_wp2
      go_meet
      rw [needIf_yes hb]
      exact P1.next t5 s5 (P1.ok.need (accTurn_ok _))
  case rest =>
  clear P1
  have P1 := hcut
  clear hcut
  generalize x2.needIf (uB ty 4) l.length accTurn = x3 at P1 HX
  go_upto_if 46 with (fail)
  go_cut [] (fun wx => PSt w0 wx rb sb lb l.length (x3.needIf (uB ty 16) l.length accCourse))
  case first =>
    cases hb : uB ty 16
    · go_wp2; go_meet; rw [needIf_no hb]; exact P1
    · go_wp2_with fail
      with_reducible refine (need_any _ rb sb lb l.length _ _ _ accCourse P1.st P1.apart P1.ok (accCourse_ok _) hl ent_course fun s r hw => acc_course _ lb s _ w0 P1.below L0 P1.lb0 P1.st.leg (P1.ok.wlen hl hw)).mono ?_
      rintro e w5 ⟨rfl, t5, s5⟩
      go_wp2
      go_meet
      rw [needIf_yes hb]
      exact P1.next t5 s5 (P1.ok.need (accCourse_ok _))
  case rest =>
  clear P1
  have P1 := hcut
  clear hcut
  generalize x3.needIf (uB ty 16) l.length accCourse = x4 at P1 HX
  go_upto_if 52 with (fail)
  go_cut [] (fun wx => PSt w0 wx rb sb lb l.length (x4.needIf (uB ty 32) l.length accDist))
  case first =>
    cases hb : uB ty 32
    · go_wp2; go_meet; rw [needIf_no hb]; exact P1
    · go_wp2_with fail
      with_reducible refine (need_any _ rb sb lb l.length _ _ _ accDist P1.st P1.apart P1.ok (accDist_ok _) hl ent_dist fun s r hw => acc_dist _ lb s _ w0 P1.below L0 P1.lb0 P1.st.leg (P1.ok.wlen hl hw)).mono ?_
      rintro e w5 ⟨rfl, t5, s5⟩
      go_wp2
      go_meet
      rw [needIf_yes hb]
      exact P1.next t5 s5 (P1.ok.need (accDist_ok _))
  case rest =>
  clear P1
  have P1 := hcut
  clear hcut
  generalize x4.needIf (uB ty 32) l.length accDist = x5 at P1 HX
  go_upto_if 58 with (fail)
  go_cut [] (fun wx => PSt w0 wx rb sb lb l.length (x5.needIf (uB ty 64) l.length accRadius))
  case first =>
    cases hb : uB ty 64
    · go_wp2; go_meet; rw [needIf_no hb]; exact P1
    · go_wp2_with fail
      with_reducible refine (need_any _ rb sb lb l.length _ _ _ accRadius P1.st P1.apart P1.ok (accRadius_ok _) hl ent_radius fun s r hw => acc_radius _ lb s _ w0 P1.below L0 P1.lb0 P1.st.leg (P1.ok.wlen hl hw)).mono ?_
      rintro e w5 ⟨rfl, t5, s5⟩
      go_wp2
      go_meet
      rw [needIf_yes hb]
      exact P1.next t5 s5 (P1.ok.need (accRadius_ok _))
  case rest =>
  clear P1
  have P1 := hcut
  clear hcut
  generalize x5.needIf (uB ty 64) l.length accRadius = x6 at P1 HX
  go_upto_if 64 with (fail)
  go_cut [] (fun wx => PSt w0 wx rb sb lb l.length (x6.needIf (uB ty 128) l.length accTheta))
  case first =>
    cases hb : uB ty 128
    · go_wp2; go_meet; rw [needIf_no hb]; exact P1
    · go_wp2_with fail
      with_reducible refine (need_any _ rb sb lb l.length _ _ _ accTheta P1.st P1.apart P1.ok (accTheta_ok _) hl ent_theta fun s r hw => acc_theta _ lb s _ w0 P1.below L0 P1.lb0 P1.st.leg (P1.ok.wlen hl hw)).mono ?_
      rintro e w5 ⟨rfl, t5, s5⟩
      go_wp2
      go_meet
      rw [needIf_yes hb]
      exact P1.next t5 s5 (P1.ok.need (accTheta_ok _))
  case rest =>
  clear P1
  have P1 := hcut
  clear hcut
  generalize x6.needIf (uB ty 128) l.length accTheta = x7 at P1 HX
  go_wp2_with fail
  with_reducible refine (options_any w0 _ rb sb lb l.length x7 L0 P1 hl).mono ?_
  rintro e w5 ⟨rfl, t5, P2⟩
  generalize x7.options = y at P2 HX
  clear P1 t5
  have kp := Lib.hid (peek_any w5 rb sb l.length y P2.st.rd)
  obtain ⟨q1, q2, q3, q4⟩ := P2.st.rd.cells
  have R5 := R0.below P2.below hgl
  have B5 := B.trans (P2.below.mono B.size)
  have hc1 := P2.ok.one
  have hrg : rb ≠ g := by have := P2.rb0; omega
  have hlg : lb ≠ g := by have := P2.lb0; omega
  have R5d : Blk w5.drew g leg0.arr := R5
  have d2 := R5.plain
  have d3 : blkOf w5 g = leg0.arr := R5.of
  have d4 := R5d.plain
  have d5 := R5d.of
  have f3 : splice leg0.arr 0 leg0.arr = leg0.arr := rfl
  rw [leg0_arr] at d3 d5 f3
  by_cases hb : y.bad = 0
  · rw [hb] at q3
    cases hw : y.ws with
    | nil =>
      have HO := Lib.hid (HX.out.trans (done_end hb hw))
      rw [hw] at kp
      have HSM := Lib.hid (show y.l.small from ⟨Nat.le_trans P2.ok.fix hl, Nat.le_trans P2.ok.center hl⟩)
      have X5 := P2.st.leg
      have i1 : Has_leg w5 lb 0 := ⟨_, X5.is_leg⟩
      have i2 : of_leg w5 lb 0 = y.l := of_leg_eq X5.is_leg
      have kc := Lib.hid (check_any y.l w5 (L0.below P2.below) HSM.out)
      clear HX hb hw
      go_wp2_with (go_at_call 61; refine callP kp.out ?_)
      with_reducible refine callR kc.out ?_
      intro w6 b6 _ _ _
      have R6 := R5.step b6
      have B6 := below_step B5 b6
      have X6 := X5.step b6
      clear d2 d3 d4 d5 i1 i2
      have i1 : Has_leg w6 lb 0 := ⟨_, X6.is_leg⟩
      have i2 : of_leg w6 lb 0 = y.l := of_leg_eq X6.is_leg
      have d2 := R6.plain
      have d3 := R6.of
      by_cases he : legCheck y.l = 0
      · have HO2 := Lib.hid (HO.out.trans (if_neg (by simp [he])))
        have f4 : splice leg0.arr 0 y.l.arr = y.l.arr := rfl
        rw [leg0_arr] at f4
        rw [he]
        clear he HO
        go_upto_region 28 with (fail)
        rename_i hK
        have HK := Lib.hid hK
        clear hK
        go_wp2
        refine HK.out _ _ (wp_ret ?_)
        show bodyPost Tryz.prog _ _ Exit.ret _ _
        refine bodyPost_ret (results_leg3 Tryz.results16 _ _ g y.l rfl (Blk.is_leg (x := y.l) (R6.set _))) rfl ?_
        exact Ret.parse HO2.out (below_setRow' B6 hg _)
      · have HO2 := Lib.hid (HO.out.trans (if_pos he))
        have he1 : (legCheck y.l == 0) = false := by simpa using he
        clear he HO
        generalize legCheck y.l = ec at he1 HO2 ⊢
        go_upto_region 27 with (fail)
        rename_i hK
        have HK := Lib.hid hK
        clear hK
        go_wp2
        refine HK.out _ _ (wp_ret ?_)
        show bodyPost Tryz.prog _ _ Exit.ret _ _
        refine bodyPost_ret (results_leg3 Tryz.results16 _ _ g leg0 rfl (is_leg0 R6)) rfl ?_
        have Bf := below_setRow' B6 hg leg0.arr
        rw [leg0_arr] at Bf
        exact Ret.parse HO2.out Bf
    | cons s r =>
      have HO := Lib.hid (HX.out.trans (done_more hb (by simp [hw]) hc1))
      rw [hw] at kp
      have S6 := P2.st.setBad P2.apart y.col
      clear HX hb hw
      generalize y.col = col at q1 hc1 HO S6
      have hc0 : (col == 0) = false := by rw [beq_eq_false_iff_ne]; omega
      have R6 := R5.setFar (Ne.symm hrg) 3 (.int .i64 col)
      have B6 := below_setCell B5 (show w.heap.size ≤ rb by have := P2.rb0; have := B.size; omega) 3 (.int .i64 col)
      have r3 : (w5.setCell ⟨rb, 3, none⟩ (.int .i64 col)).cell? ⟨rb, 3, none⟩ = some (.int .i64 col) := S6.rd.cells.2.2.1
      clear d2 d3 d4 d5
      go_upto_region 23 with (go_at_call 61; refine callP kp.out ?_)
      generalize w5.setCell ⟨rb, 3, none⟩ (.int .i64 col) = w6 at R6 B6 r3 ⊢
      have R6d : Blk w6.drew g leg0.arr := R6
      have d2 := R6.plain
      have d3 : blkOf w6 g = leg0.arr := R6.of
      have d4 := R6d.plain
      have d5 := R6d.of
      rw [leg0_arr] at d3 d5
      go_wp2
      go_region
      rename_i hK
      refine hK _ _ (wp_ret ?_)
      show bodyPost Tryz.prog _ _ Exit.ret _ _
      refine bodyPost_ret (results_leg3 Tryz.results16 _ _ g leg0 rfl (is_leg0 R6d)) rfl ?_
      have Bf := below_setRow' B6.drew hg leg0.arr
      rw [leg0_arr] at Bf
      exact Ret.parse HO.out Bf
  · have hb' : (y.bad == 0) = false := by simpa using hb
    have HO := Lib.hid (HX.out.trans (done_bad hb))
    clear HX
    generalize y.bad = bad at q3 hb' HO
    clear hb
    cases hw : y.ws
    all_goals
      rw [hw] at kp
      clear hw
      go_wp2_with (go_at_call 61; refine callP kp.out ?_)
      go_region
      rename_i hK
      refine hK _ _ (wp_ret ?_)
      show bodyPost Tryz.prog _ _ Exit.ret _ _
      refine bodyPost_ret (results_leg3 Tryz.results16 _ _ g leg0 rfl (is_leg0 R5d)) rfl ?_
      have Bf := below_setRow' B5.drew hg leg0.arr
      rw [leg0_arr] at Bf
      exact Ret.parse HO.out Bf
theorem parse_any (l : List UInt8) (w : World) (hL : Laid w) (hl : l.length ≤ 4000000000) : Calls Tryz.prog 16 #[.string ⟨l.toArray⟩] w (Ret w (parseVal (parseS l))) := parse_aux l w hL hl _ (Lib.hid rfl)
end Go.Proofs.YtjijpkimlgbepaaGreatDoor
