/- Layer 58: the reference's right line select key. -/
import Derived.Test.YtijfmfdnagjlpaaGreatDoorPk27
import Derived.Test.YtijfmfdnagjlpaaGreatDoorPk35
namespace Go.Proofs.YtijfmfdnagjlpaaGreatDoor
open Go.RowKit
set_option linter.unusedVariables false
set_option linter.unusedSimpArgs false
theorem rwinText_any (lo hi : Int) (w : World) : Calls Tryz.prog 65 #[.agg (Win.arr ⟨lo, hi⟩)] w (Ret w (textVal (winT lo hi))) := by
  by_cases h : winOk lo hi
  · rw [winT_in h]; exact rwinText_in lo hi w h
  · rw [winT_out h]
    go_enter Tryz.func65, Tryz.ntmps65
    unfold winOk at h
    by_cases h1 : lo < -200000
    · go_wp2
      go_ret2
      exact ⟨rfl, by go_grown⟩
    · by_cases h2 : hi < lo
      · go_wp2
        go_ret2
        exact ⟨rfl, by go_grown⟩
      · have h3 : 6000000 < hi := by omega
        go_wp2
        go_ret2
        exact ⟨rfl, by go_grown⟩
attribute [local go_sem] run_storeB_term SzIs_term Fits_term Ones_term splice_term
set_option maxHeartbeats 4000000 in
set_option maxRecDepth 100000 in
theorem rright58_any (t : Term) (p : Plan) (A : Option Addr) (c : Nat) (k : Nat) (w : World) (hE : Ents w A p.es) (hl : p.es.length ≤ 4000000000) (hpad : t.pad.length ≤ 24) (hk : k ≤ 4000000000) :
    Calls Tryz.prog 44 #[.agg t.arr, .agg (p.arr A c), .int .i64 k] w (RetR w (rightS t p k)) := by
  generalize hO : rightS t p k = out
  unfold rightS at hO
  go_enter Tryz.func44, Tryz.ntmps44
  go_upto_region 1 with (fail)
  generalize hW : ((w.alloc _).alloc _).alloc _ = W
  have X0 : Blk W w.heap.size t.arr := by rw [← hW]; exact ((Blk.new w t.arr _).alloc _).alloc _
  have P0 : Blk W (w.heap.size + 1) (p.arr A c) := by rw [← hW, ← World.size_alloc w (.cells t.arr 23)]; exact (Blk.new _ _ _).alloc _
  have R0 : Blk W (w.heap.size + 2) zeroT.arr := by
    rw [← hW]
    have := Blk.new ((w.alloc (.cells t.arr 23)).alloc (.cells (p.arr A c) 26)) zeroT.arr 23
    simp only [World.size_alloc] at this
    exact this
  have B0 : Below w.heap.size w W := by rw [← hW]; go_grown
  have hle : w.heap.size ≤ w.heap.size + 2 := Nat.le_add_right _ _
  clear hW
  have x1 := X0.cell
  have x2 := X0.frozen
  have x3 := X0.lt
  have x4 := X0.has_term
  have x5 := X0.of_term
  have p1 := P0.cell
  have p4 := P0.has_plan
  have p5 := P0.of_plan
  have r2 := R0.plain
  have r3 := R0.of
  have HX := isLeg_any p A c k W (hE.below (B := 0) B0) hl hk
  cases hf : legAtS p k with
  | none =>
    rw [hf] at HX hO
    have HS : Hid (out = (t, [], 6)) := Lib.hid hO.symm
    have HX := Lib.hid HX
    clear hO hf
    go_wp2_with ((go_at_call 45; refine callRB HX.out ?_; intro w2 B2; have y4 := (X0.step B2).has_term; have y5 := (X0.step B2).of_term; have s2 := (R0.step B2).plain; have s3 := (R0.step B2).of; have s4 := Lib.hid (R0.step B2); have B3 := below_step B0 B2))
    exact bodyPost_ret (results_agg3 Tryz.results44 _ _ (w.heap.size + 2) t.arr 3 _ rfl rfl (s4.out.set _).cell Tryz.underlying23 rfl info_term) rfl (RetR.mk HS.out (below_setRow' B3 hle _))
  | some l =>
    obtain ⟨hlt, b, o, rfl, hb, hc⟩ := leg_lies hE hf
    rw [hf] at HX hO
    have HX := Lib.hid HX
    have hcW : ∀ j, j < 13 → W.cell? ⟨b, o + k * 20 + 1 + j, none⟩ = l.arr[j]? := fun j hj => by rw [B0.cell (p := ⟨b, _, none⟩) hb]; exact hc j hj
    have hbW : b < W.heap.size := Nat.lt_of_lt_of_le hb B0.size
    clear hc hf
    go_upto_region 3 with ((go_at_call 45; refine callRB HX.out ?_; intro w2 B2))
    clear x1 x2 x3 x4 x5 p1 p4 p5 r2 r3
    have X2 := X0.step B2
    have P2 := P0.step B2
    have R2 := R0.step B2
    have B3 := below_step B0 B2
    have y1 := X2.cell
    have y2 := X2.frozen
    have y3 := X2.lt
    have y4 := X2.has_term
    have y5 := X2.of_term
    have y6 := P2.cell
    have y7 := R2.plain
    have y8 := R2.of
    by_cases hp0 : t.pad = []
    · rw [if_pos hp0] at hO
      have hw : Is_win w2 b (o + k * 20 + 10) ⟨l.lo, l.hi⟩ := by
        intro j hj
        rw [B2.cell (p := ⟨b, _, none⟩) hbW]
        match j, hj with
        | 0, _ => exact hcW 9 (by omega)
        | 1, _ => exact hcW 10 (by omega)
      have c6 : Has_win w2 b (o + k * 20 + 10) := ⟨_, hw⟩
      have c7 : of_win w2 b (o + k * 20 + 10) = ⟨l.lo, l.hi⟩ := of_win_eq hw
      have HS := Lib.hid hO.symm
      have HWn := Lib.hid (rwinText_any l.lo l.hi w2)
      clear hO
      generalize winT l.lo l.hi = wt at HS HWn
      go_upto_region 5 with ((go_at_call 65; refine callRB HWn.out ?_; intro w3 B4; have z1 := (X2.step B4).cell; have z2 := (X2.step B4).frozen; have z3 := (X2.step B4).lt; have s5 := Lib.hid (X2.step B4); have s4 := Lib.hid (R2.step B4); have B5 := below_step B3 B4))
      generalize hW3 : w3.setCell _ _ = W3
      have X3 : Blk W3 w.heap.size ({ t with pad := wt.1 } : Term).arr := by rw [← hW3]; exact s5.out.setCell 2 _
      have R3 : Blk W3 (w.heap.size + 2) zeroT.arr := by rw [← hW3]; exact s4.out.setFar (by omega) 2 _
      have B6 : Below w.heap.size w W3 := by rw [← hW3]; exact below_setCell B5 (Nat.le_refl _) _ _
      clear hW3 y1 y2 y3 y4 y5 y6 y7 y8 z1 z2 z3
      have z4 := X3.has_term
      have z5 := X3.of_term
      have z6 := R3.plain
      have z7 := R3.of
      go_wp2
      exact bodyPost_ret (results_agg3 Tryz.results44 _ _ (w.heap.size + 2) ({ t with pad := wt.1 } : Term).arr 3 _ rfl rfl (R3.set _).cell Tryz.underlying23 rfl info_term) rfl (RetR.mk HS.out (below_setRow' B6 hle _))
    · rw [if_neg hp0] at hO
      have hp3 : (t.pad == []) = false := by simp [hp0]
      obtain ⟨x, r, hpd⟩ : ∃ x r, t.pad = x :: r := by cases h : t.pad with
        | nil => exact absurd h hp0
        | cons x r => exact ⟨x, r, rfl⟩
      have hlen : (x :: r).length ≤ 24 := by rw [← hpd]; exact hpad
      by_cases hx : x = 47
      · subst hx
        have hr : r.length ≤ 24 := by simp at hlen; omega
        have hcp : cutPre 47 t.pad = (r, true) := by rw [hpd]; simp [cutPre]
        rw [hcp] at hO
        simp only [if_true] at hO
        have HN := fun W' => rparseNum_any r W' (by omega)
        by_cases he : speedE r = 0
        · have hrn : r ≠ [] := by rintro rfl; revert he; decide
          rw [if_neg (by simp [he])] at hO
          have HS := Lib.hid hO.symm
          rw [he] at HN
          have HN := Lib.hid HN
          have HE := fun W' => redit58_any t [83, 80, 68] r k W' (by decide) (by omega) hk
          rw [if_neg hrn] at HE
          generalize editS t [83, 80, 68] k (32 :: r) = q at HE HS
          have HE := Lib.hid HE
          clear hO hp0 hp3 hcp
          go_wp2_with (first
            | (go_at_call 66; refine callE (HN.out _) ?_; intro v w3 B4; have z4 := (X2.step B4).has_term; have z5 := (X2.step B4).of_term; have s4 := Lib.hid (R2.step B4); have B5 := below_step B3 B4)
            | (go_at_call 47; refine callTR (HE.out _) ?_; intro w4 B6; have s2 := (s4.out.step B6).plain; have s3 := (s4.out.step B6).of; have s5 := Lib.hid (s4.out.step B6); have B7 := below_step B5 B6))
          exact bodyPost_ret (results_agg3 Tryz.results44 _ _ (w.heap.size + 2) q.1.arr 3 _ rfl rfl (s5.out.set _).cell Tryz.underlying23 rfl info_term) rfl (RetR.of HS.out (below_setRow' B7 hle _))
        · rw [if_pos (by simp [he])] at hO
          have HS := Lib.hid hO.symm
          generalize speedE r = se at *
          have HN := Lib.hid HN
          clear hO hp0 hp3 hcp
          go_wp2_with ((go_at_call 66; refine callE (HN.out _) ?_; intro v w3 B4; have z4 := (X2.step B4).has_term; have z5 := (X2.step B4).of_term; have z6 := (R2.step B4).plain; have z7 := (R2.step B4).of; have s4 := Lib.hid (R2.step B4); have B5 := below_step B3 B4))
          exact bodyPost_ret (results_agg3 Tryz.results44 _ _ (w.heap.size + 2) t.arr 3 _ rfl rfl (s4.out.set _).cell Tryz.underlying23 rfl info_term) rfl (RetR.mk HS.out (below_setRow' B5 hle _))
      · have hcp : (cutPre 47 t.pad).2 = false := by rw [hpd]; simp [cutPre, hx]
        have hxn : ¬ ((x.toNat : Int) = 47) := by intro e; exact hx (UInt8.toNat_inj.1 (by have : (47 : UInt8).toNat = 47 := rfl; omega))
        have hx1 : ((x.toNat : Int) == 47) = false := by simpa using hxn
        rw [hcp] at hO
        simp only [Bool.false_eq_true, if_false] at hO
        have HP := rparseWindow_any t.pad w2 (by omega)
        have hs := (rwin_same t.pad).1
        generalize parseWinS t.pad = pw at hO hs
        generalize rparseWinS t.pad = rw_ at HP hs
        obtain ⟨⟨ra, rb⟩, re⟩ := rw_
        by_cases he : re = 0
        · have hpe : pw.2 = 0 := hs.1 he
          subst he
          rw [if_neg (by simp [hpe])] at hO
          have HS := Lib.hid hO.symm
          have HP := Lib.hid HP
          have HE := fun W' => redit58_any t [65, 76, 84] t.pad k W' (by decide) (by omega) hk
          rw [if_neg hp0] at HE
          generalize editS t [65, 76, 84] k (32 :: t.pad) = q at HE HS
          rw [hpd] at HE HP
          have HE := Lib.hid HE
          have HP := Lib.hid HP.out
          clear hO hp0 hp3 hcp hs hpe
          go_wp2_with (first
            | (go_at_call 67; refine callRB HP.out ?_; intro w3 B4
               have B5 := below_step B4 ((Below.refl w3.heap.size w3).alloc (Nat.le_refl _) (.cells (Win.arr ⟨ra, rb⟩) 81))
               have z1 := (X2.step B5).cell; have z4 := (X2.step B5).has_term; have z5 := (X2.step B5).of_term; have s4 := Lib.hid (R2.step B5); have B6 := below_step B3 B5)
            | (go_at_call 47; refine callTR (HE.out _) ?_; intro w4 B7; have s2 := (s4.out.step B7).plain; have s3 := (s4.out.step B7).of; have s5 := Lib.hid (s4.out.step B7); have B8 := below_step B6 B7))
          exact bodyPost_ret (results_agg3 Tryz.results44 _ _ (w.heap.size + 2) q.1.arr 3 _ rfl rfl (s5.out.set _).cell Tryz.underlying23 rfl info_term) rfl (RetR.of HS.out (below_setRow' B8 hle _))
        · have hpe : ¬ pw.2 = 0 := fun h => he (hs.2 h)
          rw [if_pos (by simpa using hpe)] at hO
          have HS := Lib.hid hO.symm
          rw [hpd] at HP
          have HP := Lib.hid HP
          clear hO hp0 hp3 hcp hs hpe
          go_wp2_with ((go_at_call 67; refine callRB HP.out ?_; intro w3 B4; have B5 := below_step B4 ((Below.refl w3.heap.size w3).alloc (Nat.le_refl _) (.cells (Win.arr ⟨ra, rb⟩) 81)); have z4 := (X2.step B5).has_term; have z5 := (X2.step B5).of_term; have z6 := (R2.step B5).plain; have z7 := (R2.step B5).of; have s4 := Lib.hid (R2.step B5); have B6 := below_step B3 B5))
          exact bodyPost_ret (results_agg3 Tryz.results44 _ _ (w.heap.size + 2) t.arr 3 _ rfl rfl (s4.out.set _).cell Tryz.underlying23 rfl info_term) rfl (RetR.mk HS.out (below_setRow' B6 hle _))
end Go.Proofs.YtijfmfdnagjlpaaGreatDoor
