/- Layer 58: the reference's line select keys. -/
import Derived.Test.YtijfmfdnagjlpaaGreatDoorPk36
import Derived.Test.YtijfmfdnagjlpaaGreatDoorPk10
namespace Go.Proofs.YtijfmfdnagjlpaaGreatDoor
open Go.RowKit Go.Sort
set_option linter.unusedVariables false
set_option linter.unusedSimpArgs false
theorem convert_u8 (n : Nat) (w : World) (hn : n ≤ 255) : (convert 5 3 (.int .u8 n)).run Tryz.prog w = .ok (.int .i64 n) w := by
  have : IntKind.i64.wrap (n : Int) = n := IntWalk.i64_in _ (by omega)
  simp [go_sem, this]
attribute [local go_sem] run_storeB_term SzIs_term Fits_term Ones_term splice_term
set_option maxHeartbeats 4000000 in
set_option maxRecDepth 100000 in
theorem rselects58_any (t : Term) (v : Vw) (d : VAd) (arr : Array Value) (hv : v.At d arr) (side : UInt8) (row : Nat) (hrow : row ≤ 4) (w : World) (hok : v.ok w d) (hpad : t.pad.length ≤ 24) (h0 : 0 ≤ t.first) (h1 : t.first ≤ 1000000) (hs : side = 76 ∨ side = 82) (hn : (shownS v).es.length ≤ 4000000000) :
    Calls Tryz.prog 26 #[.agg t.arr, .agg arr, .string ⟨[side, UInt8.ofNat (49 + row)].toArray⟩] w (RetR w (selectS t v side row)) := by
  generalize hO : selectS t v side row = out
  have hb8 := lines_num row hrow
  have hb1 : UInt8.ofNat (49 + row) = 49 ↔ row = 0 := by
    constructor
    · intro e; rw [e] at hb8; have : (49 : UInt8).toNat = 49 := rfl; omega
    · rintro rfl; rfl
  generalize UInt8.ofNat (49 + row) = b at hb8 hb1 ⊢
  go_enter Tryz.func26, Tryz.ntmps26
  go_upto_region 1 with (fail)
  generalize hW : ((w.alloc _).alloc _).alloc _ = W
  have X0 : Blk W w.heap.size t.arr := by rw [← hW]; exact ((Blk.new w t.arr _).alloc _).alloc _
  have V0 : Blk W (w.heap.size + 1) arr := by rw [← hW, ← World.size_alloc w (.cells t.arr 23)]; exact (Blk.new _ _ _).alloc _
  have R0 : Blk W (w.heap.size + 2) zeroT.arr := by
    rw [← hW]
    have := Blk.new ((w.alloc (.cells t.arr 23)).alloc (.cells arr 44)) zeroT.arr 23
    simp only [World.size_alloc] at this
    exact this
  have B0 : Below w.heap.size w W := by rw [← hW]; go_grown
  have hle : w.heap.size ≤ w.heap.size + 2 := Nat.le_add_right _ _
  clear hW
  have z : arr.size = 42 := hv.size
  have j1 : Has_view W (w.heap.size + 1) 0 := ⟨_, V0.is_view z⟩
  have j2 : of_view W (w.heap.size + 1) 0 = arr := of_view_eq (V0.is_view z)
  go_upto_region 2 with (go_at_call 19; refine callRB (rshown_any v d arr hv _) ?_; intro w2 B2)
  generalize hW2 : w2.alloc _ = W2
  have e2 := (Below.refl w2.heap.size w2).alloc (Nat.le_refl _) (.cells ((shownS v).arr (d.sA v) (d.sc v)) 26)
  have X2 : Blk W2 w.heap.size t.arr := by rw [← hW2]; exact (X0.step B2).alloc _
  have V2 : Blk W2 (w.heap.size + 1) arr := by rw [← hW2]; exact (V0.step B2).alloc _
  have R2 : Blk W2 (w.heap.size + 2) zeroT.arr := by rw [← hW2]; exact (R0.step B2).alloc _
  have P2 : Blk W2 w2.heap.size ((shownS v).arr (d.sA v) (d.sc v)) := by rw [← hW2]; exact Blk.new _ _ _
  have C2 : Below w.heap.size w W2 := by rw [← hW2]; exact below_step (below_step B0 B2) e2
  clear hW2 e2 X0 V0 R0 B0 B2 j1 j2
  generalize w2.heap.size = gp at P2 ⊢
  have hok2 := hok.below C2
  obtain ⟨hsm, hcap, hE⟩ := hok2.shown
  have x1 := X2.cell
  have x4 := X2.has_term
  have x5 := X2.of_term
  have p4 := P2.has_plan
  have p5 := P2.of_plan
  have r2 := R2.plain
  have r3 := R2.of
  obtain ⟨k, hk⟩ : ∃ k : Nat, t.first + row = k := ⟨(t.first + row).toNat, by omega⟩
  have q1 : IntKind.i64.wrap (k : Int) = k := IntWalk.i64_in _ (by omega)
  have q2 : IntKind.u8.wrap ((b.toNat : Int) - 49) = row := by rw [hb8]; have : ((49 + row : Nat) : Int) - 49 = row := by omega
                                                               rw [this]; exact IntWalk.u8_in _ (by omega)
  have q3 : IntKind.i64.wrap (row : Int) = row := IntWalk.i64_in _ (by omega)
  go_cut [10] (fun q wx => q = .int .i64 k ∧ Below W2.heap.size W2 wx)
  case first =>
    have x1' := x1 1
    go_quiet (fail)
    go_wp2
    go_meet
    exact ⟨by congr 1; omega, below_drewN (Below.refl _ _) _⟩
  case rest =>
    obtain ⟨rfl, B3⟩ := hcut
    have X3 := X2.step B3
    have V3 := V2.step B3
    have R3 := R2.step B3
    have P3 := P2.step B3
    have C3 := below_step C2 B3
    have hE3 := hE.below (B := 0) B3
    obtain ⟨sd, hsd⟩ : ∃ sd : Int, (side.toNat : Int) = sd := ⟨_, rfl⟩
    unfold selectS at hO
    rw [hk] at hO
    have hk4 : k ≤ 4000000000 := by omega
    clear X2 V2 R2 P2 C2 hE x1 x4 x5 p4 p5 r2 r3 q1 q2 q3 B3 hok2 hk
    generalize shownS v = p at *
    generalize d.sA v = A at *
    generalize d.sc v = c at *
    have x1 := X3.cell
    have x4 := X3.has_term
    have x5 := X3.of_term
    have v1 := V3.cell
    have p1 := P3.cell
    have p4 := P3.has_plan
    have p5 := P3.of_plan
    have r2 := R3.plain
    have r3 := R3.of
    have e32 := hv.alerts
    clear z
    by_cases h1p : t.page = 1
    · rw [if_pos h1p] at hO
      rcases hs with rfl | rfl
      · rw [if_pos rfl] at hO
        have HS := Lib.hid hO.symm
        clear hO hsd
        have HE := rleft58_any t p A c k wc hE3 hn hpad hk4
        generalize leftS t p k = q at HE HS
        have HE := Lib.hid HE
        go_wp2_with ((go_at_call 43; refine callTR HE.out ?_; intro w4 B4; have s2 := (R3.step B4).plain; have s3 := (R3.step B4).of; have s4 := Lib.hid (R3.step B4); have B5 := below_step C3 B4))
        exact bodyPost_ret (results_agg3 Tryz.results26 _ _ (w.heap.size + 2) q.1.arr 3 _ rfl rfl (s4.out.set _).cell Tryz.underlying23 rfl info_term) rfl (RetR.of HS.out (below_setRow' B5 hle _))
      · rw [if_neg (by decide)] at hO
        have HS := Lib.hid hO.symm
        clear hO hsd
        have HE := rright58_any t p A c k wc hE3 hn hpad hk4
        generalize rightS t p k = q at HE HS
        have HE := Lib.hid HE
        go_wp2_with ((go_at_call 44; refine callTR HE.out ?_; intro w4 B4; have s2 := (R3.step B4).plain; have s3 := (R3.step B4).of; have s4 := Lib.hid (R3.step B4); have B5 := below_step C3 B4))
        exact bodyPost_ret (results_agg3 Tryz.results26 _ _ (w.heap.size + 2) q.1.arr 3 _ rfl rfl (s4.out.set _).cell Tryz.underlying23 rfl info_term) rfl (RetR.of HS.out (below_setRow' B5 hle _))
    · rw [if_neg h1p] at hO
      have h1b : (t.page == 1) = false := by simpa using h1p
      by_cases h2p : t.page = 2
      · rcases hs with rfl | rfl
        · rw [if_pos ⟨h2p, rfl⟩] at hO
          have HX := isLeg_any p A c k wc hE3 hn hk4
          have hfx : fixAtS p k = match legAtS p k with | some l => if endsB l.ty then some l.fix else none | none => none := rfl
          cases hf : legAtS p k with
          | none =>
            rw [hf] at hfx HX
            rw [hfx] at hO
            have HS := Lib.hid hO.symm
            have HX := Lib.hid HX
            clear hO hfx hf
            go_wp2_with ((go_at_call 45; refine callRB HX.out ?_; intro w4 B4; have y4 := (X3.step B4).has_term; have y5 := (X3.step B4).of_term; have s2 := (R3.step B4).plain; have s3 := (R3.step B4).of; have s4 := Lib.hid (R3.step B4); have B5 := below_step C3 B4))
            exact bodyPost_ret (results_agg3 Tryz.results26 _ _ (w.heap.size + 2) t.arr 3 _ rfl rfl (s4.out.set _).cell Tryz.underlying23 rfl info_term) rfl (RetR.mk HS.out (below_setRow' B5 hle _))
          | some l =>
            obtain ⟨hlt, bb, o, rfl, hbb, hc⟩ := leg_lies hE3 hf
            rw [hf] at hfx HX
            have HX := Lib.hid HX
            clear hf
            simp only at hfx
            cases he : endsB l.ty
            · rw [he] at hfx
              rw [hfx] at hO
              have HS : Hid (out = (t, [], 6)) := Lib.hid hO.symm
              have HEn := Lib.hid (fun w => rends_any l.ty w)
              rw [he] at HEn
              clear hO hfx
              go_wp2_with (first
                | (go_at_call 45; refine callRB HX.out ?_; intro w4 B4; have y1 := (P3.step B4).cell; have y4 := (X3.step B4).has_term; have y5 := (X3.step B4).of_term; have s2 := (R3.step B4).plain; have s3 := (R3.step B4).of; have s4 := Lib.hid (R3.step B4); have B5 := below_step C3 B4
                   have e1 : w4.cell? ⟨bb, o + k * 20 + 1, none⟩ = some (.int .u8 l.ty) := (by rw [B4.cell (p := ⟨bb, _, none⟩) hbb]; exact hc 0 (by omega)))
                | (go_at_call 46; refine callP (HEn.out _) ?_))
              exact bodyPost_ret (results_agg3 Tryz.results26 _ _ (w.heap.size + 2) t.arr 3 _ rfl rfl (s4.out.set _).cell Tryz.underlying23 rfl info_term) rfl (RetR.mk HS.out (below_setRow' B5 hle _))
            · rw [he] at hfx
              rw [hfx] at hO
              have HEn := Lib.hid (fun w => rends_any l.ty w)
              rw [he] at HEn
              simp only [if_true] at hO
              by_cases h3 : t.pad = []
              · simp only [h3, ne_eq, not_true_eq_false, if_false] at hO
                have HS := Lib.hid hO.symm
                have HE := fun W' => redit58_any t [68, 73, 82, 69, 67, 84] [] k W' (by decide) (by decide) hk4
                rw [if_pos rfl] at HE
                generalize editS t [68, 73, 82, 69, 67, 84] k [] = q at HE HS
                have HE := Lib.hid HE
                clear hO hfx
                go_wp2_with (first
                  | (go_at_call 45; refine callRB HX.out ?_; intro w4 B4; have y1 := (P3.step B4).cell; have y3 := (X3.step B4).cell; have y4 := (X3.step B4).has_term; have y5 := (X3.step B4).of_term; have R4 := Lib.hid (R3.step B4); have B5 := below_step C3 B4
                     have e1 : w4.cell? ⟨bb, o + k * 20 + 1, none⟩ = some (.int .u8 l.ty) := (by rw [B4.cell (p := ⟨bb, _, none⟩) hbb]; exact hc 0 (by omega)))
                  | (go_at_call 46; refine callP (HEn.out _) ?_)
                  | (go_at_call 47; refine callTR (HE.out _) ?_; intro w6 B6; have s2 := (R4.out.step B6).plain; have s3 := (R4.out.step B6).of; have s4 := Lib.hid (R4.out.step B6); have B7 := below_step B5 B6))
                exact bodyPost_ret (results_agg3 Tryz.results26 _ _ (w.heap.size + 2) q.1.arr 3 _ rfl rfl (s4.out.set _).cell Tryz.underlying23 rfl info_term) rfl (RetR.of HS.out (below_setRow' B7 hle _))
              · simp only [h3, ne_eq, not_false_eq_true, if_true] at hO
                have HS := Lib.hid hO.symm
                have hp3 : t.pad.isEmpty = false := by simpa using h3
                clear hO hfx
                go_wp2_with (first
                  | (go_at_call 45; refine callRB HX.out ?_; intro w4 B4; have y1 := (P3.step B4).cell; have y3 := (X3.step B4).cell; have y4 := (X3.step B4).has_term; have y5 := (X3.step B4).of_term; have s2 := (R3.step B4).plain; have s3 := (R3.step B4).of; have s4 := Lib.hid (R3.step B4); have B5 := below_step C3 B4
                     have e1 : w4.cell? ⟨bb, o + k * 20 + 1, none⟩ = some (.int .u8 l.ty) := (by rw [B4.cell (p := ⟨bb, _, none⟩) hbb]; exact hc 0 (by omega)))
                  | (go_at_call 46; refine callP (HEn.out _) ?_))
                exact bodyPost_ret (results_agg3 Tryz.results26 _ _ (w.heap.size + 2) t.arr 3 _ rfl rfl (s4.out.set _).cell Tryz.underlying23 rfl info_term) rfl (RetR.mk HS.out (below_setRow' B5 hle _))
        · rw [if_neg (by rintro ⟨_, e⟩; cases e), if_neg (by rintro ⟨_, e, _⟩; cases e)] at hO
          have HS := Lib.hid hO.symm
          clear hO
          go_wp2
          exact bodyPost_ret (results_agg3 Tryz.results26 _ _ (w.heap.size + 2) t.arr 3 _ rfl rfl (R3.set _).cell Tryz.underlying23 rfl info_term) rfl (RetR.mk HS.out (below_setRow' C3 hle _))
      · rw [if_neg (by rintro ⟨e, _⟩; exact h2p e)] at hO
        have h2b : (t.page == 2) = false := by simpa using h2p
        by_cases h4p : t.page = 4
        · have hL1 : ([side, b] = [76, 49] ↔ side = 76 ∧ row = 0) := by simp [hb1]
          by_cases h4 : side = 76 ∧ row = 0
          · by_cases ha : 0 < v.alerts.length
            · rw [if_pos ⟨h4p, h4.1, by omega, ha⟩] at hO
              have HS := Lib.hid hO.symm
              obtain ⟨rfl, hr⟩ := h4
              obtain rfl : b = 49 := hb1.2 hr
              have ha' : (0 : Int) < (v.alerts.length : Int) := by omega
              clear hO hL1
              go_wp2
              exact bodyPost_ret (results_agg3 Tryz.results26 _ _ (w.heap.size + 2) t.arr 3 _ rfl rfl (R3.set _).cell Tryz.underlying23 rfl info_term) rfl (RetR.mk HS.out (below_setRow' C3 hle _))
            · rw [if_neg (by rintro ⟨_, _, _, e⟩; exact ha e)] at hO
              have HS := Lib.hid hO.symm
              obtain ⟨rfl, hr⟩ := h4
              obtain rfl : b = 49 := hb1.2 hr
              have ha' : v.alerts.length = 0 := by omega
              rw [ha'] at e32
              clear hO hL1 ha
              go_wp2
              exact bodyPost_ret (results_agg3 Tryz.results26 _ _ (w.heap.size + 2) t.arr 3 _ rfl rfl (R3.set _).cell Tryz.underlying23 rfl info_term) rfl (RetR.mk HS.out (below_setRow' C3 hle _))
          · rw [if_neg (by rintro ⟨_, e1, e2, _⟩; exact h4 ⟨e1, by omega⟩)] at hO
            have HS := Lib.hid hO.symm
            have hL2 : ([side, b] == [76, 49]) = false := by
              rw [beq_eq_false_iff_ne]
              intro e
              exact h4 (hL1.1 e)
            clear hO hL1
            go_wp2
            exact bodyPost_ret (results_agg3 Tryz.results26 _ _ (w.heap.size + 2) t.arr 3 _ rfl rfl (R3.set _).cell Tryz.underlying23 rfl info_term) rfl (RetR.mk HS.out (below_setRow' C3 hle _))
        · rw [if_neg (by rintro ⟨e, _⟩; exact h4p e)] at hO
          have h4b : (t.page == 4) = false := by simpa using h4p
          have HS := Lib.hid hO.symm
          clear hO
          go_wp2
          exact bodyPost_ret (results_agg3 Tryz.results26 _ _ (w.heap.size + 2) t.arr 3 _ rfl rfl (R3.set _).cell Tryz.underlying23 rfl info_term) rfl (RetR.mk HS.out (below_setRow' C3 hle _))
end Go.Proofs.YtijfmfdnagjlpaaGreatDoor
