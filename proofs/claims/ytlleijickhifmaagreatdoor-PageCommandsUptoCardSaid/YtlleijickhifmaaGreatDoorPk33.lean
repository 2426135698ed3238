/- Layer 58: the function keys as one; Press. -/
import Derived.Test.YtlleijickhifmaaGreatDoorPk32
import Derived.Test.YtlleijickhifmaaGreatDoorPk08
import Derived.Deep.CutBlock
namespace Go.Proofs.YtlleijickhifmaaGreatDoor
open Go.RowKit
set_option linter.unusedVariables false
set_option linter.unusedSimpArgs false
theorem function58_any (t : Term) (v : Vw) (d : VAd) (arr : Array Value) (hv : v.At d arr) (key : List UInt8) (hk : key ∈ wordsL) (g : Nat) (W : World) (hT : Blk W g t.arr) (h0 : 0 ≤ t.first) (h1 : t.first ≤ 1000000) (hpad : t.pad.length ≤ 24) (hn : (shownS v).es.length ≤ 4000000000) :
    Calls Tryz.prog 15 #[.pointer (some ⟨g, 0, none⟩), .agg arr, .string ⟨key.toArray⟩] W (RetT W g (functionS t v key)) := by
  simp only [wordsL, List.mem_cons, List.not_mem_nil, or_false] at hk
  rcases hk with h | h | h | h | h | h | h | h | h | h <;> subst h
  · exact fn_CLR t v d arr hv g W hT h0 h1 hpad
  · exact fn_UP t v d arr hv g W hT h0 h1
  · exact fn_DOWN t v d arr hv g W hT h0 h1 hn
  · exact fn_LEGS t v d arr hv g W hT h0 h1
  · exact fn_DIR t v d arr hv g W hT h0 h1
  · exact fn_PROG t v d arr hv g W hT h0 h1
  · exact fn_MSG t v d arr hv g W hT h0 h1
  · exact fn_EXEC t v d arr hv g W hT h0 h1
  · exact fn_ERASE t v d arr hv g W hT h0 h1
  · exact fn_UNDO t v d arr hv g W hT h0 h1
theorem Touch.drop {S : List Nat} {w w' : World} {g : Nat} {cs : Array Value} (h : Touch S w w') (hg : g ∉ S) (hb : Blk w g cs) : Blk w' g cs := h.blk hg hb
theorem run_storeN_term (w : World) (c c' : Array Value) (hc : SzIs c 3) (hc' : SzIs c' 3) (h1 : Ones c') :
    (store_term (.pointer (some ⟨w.heap.size, 0, none⟩)) (.agg c')).run Tryz.prog (w.alloc (.cells c 23)) = .ok () (w.alloc (.cells c' 23)) :=
  run_storeAt_new (P := Tryz.prog) w 23 c c' (by rw [show c'.size = 3 from hc']; exact info_term) (by rw [show c'.size = 3 from hc', show c.size = 3 from hc]) (Array.all_eq_true_iff_forall_mem.2 fun v hv => (List.all_eq_true.1 (show c'.toList.all (·.oneCell') = true from h1)) v (by simpa using hv))
attribute [local go_sem] run_storeN_term run_storeB_term SzIs_term Fits_term Ones_term splice_term
set_option maxHeartbeats 4000000 in
set_option maxRecDepth 100000 in
theorem press58_bad (t : Term) (v : Vw) (arr : Array Value) (hz : arr.size = 42) (key : List UInt8) (w : World) (hW : WordsAt w) (hL : Laid w) (hk : key.length ≤ 4000000000) (hp : t.pad.length ≤ 4000000000) (hbad : pressBad t key) :
    Calls Tryz.prog 6 #[.agg t.arr, .agg arr, .string ⟨key.toArray⟩] w (RetR w (t, [], 1)) := by
  go_enter Tryz.func6, Tryz.ntmps6
  go_upto_region 1 with (fail)
  generalize hW : ((w.alloc _).alloc _).alloc _ = W
  have X0 : Blk W w.heap.size t.arr := by rw [← hW]; exact ((Blk.new w t.arr _).alloc _).alloc _
  have R0 : Blk W (w.heap.size + 2) zeroT.arr := by
    rw [← hW]
    have := Blk.new ((w.alloc (.cells t.arr 23)).alloc (.cells arr 44)) zeroT.arr 23
    simp only [World.size_alloc] at this
    exact this
  have B0 : Below w.heap.size w W := by rw [← hW]; go_grown
  have hle : w.heap.size ≤ w.heap.size + 2 := Nat.le_add_right _ _
  clear hW
  go_wp2_with fail
  refine callStrs' (keys_any W (WordsAt.below ‹_› B0) (hL.below B0)) ?_
  intro v1 w1 O1 B1
  obtain ⟨A, c, rfl, hc, S⟩ := O1.form
  have X1 := X0.step B1
  have R1 := R0.step B1
  have B2 := below_step B0 B1
  have HC := contains_any A c keysL key w1 S (by decide) (by decide)
  clear X0 R0 B0 B1 O1 S hL
  have x1 := X1.cell
  have x4 := X1.has_term
  have x5 := X1.of_term
  have r2 := R1.plain
  have r3 := R1.of
  have k1 : (decide (key ∈ keysL) = false) ∨ (decide (key ∈ keysL) = true ∧ (t.page < 1 ∨ (¬ t.page < 1 ∧ (4 < t.page ∨ (¬ 4 < t.page ∧ (t.first < 0 ∨ (¬ t.first < 0 ∧ (1000000 < t.first ∨ (¬ 1000000 < t.first ∧ 24 < (t.pad.length : Int)))))))))) := by
    unfold pressBad at hbad
    by_cases a : key ∈ keysL
    · right
      refine ⟨by simp [a], ?_⟩
      rcases hbad with h | h | h | h | h | h
      · exact absurd a h
      all_goals omega
    · left; simp [a]
  clear hbad
  generalize decide (key ∈ keysL) = bk at HC k1
  have HC := Lib.hid HC
  rcases k1 with h | ⟨h, h1 | ⟨h1, h2 | ⟨h2, h3 | ⟨h3, h4 | ⟨h4, h5⟩⟩⟩⟩⟩
  all_goals
    subst h
    go_wp2_with (go_at_call 11; refine callP HC.out ?_)
    exact bodyPost_ret (results_agg3 Tryz.results6 _ _ (w.heap.size + 2) t.arr 3 _ rfl rfl (R1.set _).cell Tryz.underlying23 rfl info_term) rfl (RetR.mk (t := t) (c := []) (e := 1) rfl (below_setRow' B2 hle _))
set_option maxHeartbeats 4000000 in
set_option maxRecDepth 100000 in
theorem press58_good (t : Term) (v : Vw) (d : VAd) (arr : Array Value) (hv : v.At d arr) (key : List UInt8) (w : World) (hW : WordsAt w) (hL : Laid w) (hR : ErrAt w) (hok : v.ok w d) (hmem : key ∈ keysL) (h1 : 1 ≤ t.page) (h2 : t.page ≤ 4) (h3 : 0 ≤ t.first) (h4 : t.first ≤ 1000000) (h5 : t.pad.length ≤ 24) :
    Calls Tryz.prog 6 #[.agg t.arr, .agg arr, .string ⟨key.toArray⟩] w (RetR w (pressK t v key)) := by
  obtain ⟨q, hq⟩ : ∃ q, pressK t v key = q := ⟨_, rfl⟩
  have HSame := Lib.hid (fun h : (pressK t v key).2.2 ≠ 0 => pressK_same h)
  rw [hq] at HSame ⊢
  obtain ⟨hsm, hcap, hE⟩ := hok.shown
  have hn := hsm.len
  go_enter Tryz.func6, Tryz.ntmps6
  go_upto_region 1 with (fail)
  generalize hW : ((w.alloc _).alloc _).alloc _ = W
  have X0 : Blk W w.heap.size t.arr := by rw [← hW]; exact ((Blk.new w t.arr _).alloc _).alloc _
  have V0 : Blk W (w.heap.size + 1) arr := by rw [← hW, ← World.size_alloc w (.cells t.arr 23)]; exact (Blk.new _ _ _).alloc _
  have R0 : Blk W (w.heap.size + 2) zeroT.arr := by
    rw [← hW]
    have := Blk.new ((w.alloc (.cells t.arr 23)).alloc (.cells arr 44)) zeroT.arr 23
    simp only [World.size_alloc] at this
    exact this
  have B0 : Below w.heap.size w W := by rw [← hW]; go_grown
  have hle : w.heap.size ≤ w.heap.size + 2 := Nat.le_add_right _ _
  clear hW
  go_wp2_with fail
  refine callStrs' (keys_any W (WordsAt.below ‹_› B0) (hL.below B0)) ?_
  intro v1 w1 O1 B1
  obtain ⟨A, c, rfl, hc, S⟩ := O1.form
  have X1 := X0.step B1
  have V1 := V0.step B1
  have R1 := R0.step B1
  have B2 := below_step B0 B1
  have HC := contains_any A c keysL key w1 S (by decide) (by decide)
  rw [decide_eq_true hmem] at HC
  have HC := Lib.hid HC
  clear X0 V0 R0 B0 B1 O1 S
  have x1 := X1.cell
  have x4 := X1.has_term
  have x5 := X1.of_term
  go_upto_region 4 with (go_at_call 11; refine callP HC.out ?_)
  generalize hW2 : w1.alloc _ = W2
  have e2 := (Below.refl w1.heap.size w1).alloc (Nat.le_refl _) (.cells t.arr 23)
  have X2 : Blk W2 w.heap.size t.arr := by rw [← hW2]; exact X1.alloc _
  have V2 : Blk W2 (w.heap.size + 1) arr := by rw [← hW2]; exact V1.alloc _
  have R2 : Blk W2 (w.heap.size + 2) zeroT.arr := by rw [← hW2]; exact R1.alloc _
  have S2 : Blk W2 w1.heap.size t.arr := by rw [← hW2]; exact Blk.new _ _ _
  have C2 : Below w.heap.size w W2 := by rw [← hW2]; exact below_step B2 e2
  have hS : w.heap.size + 2 < w1.heap.size := R1.lt
  clear hW2 e2 X1 V1 R1 B2 HC x1 x4 x5
  generalize w1.heap.size = gs at S2 hS ⊢
  clear hE hsm hcap
  go_upto_block 0 with fail
  go_cut [10, 11] (fun a b wx => a = .string ⟨q.2.1.toArray⟩ ∧ b = .int .i64 q.2.2 ∧ Blk wx w.heap.size q.1.arr ∧ Blk wx (w.heap.size + 2) zeroT.arr ∧ Blk wx gs t.arr ∧ Below w.heap.size w wx)
  case first =>
    have hx : w.heap.size ≤ w.heap.size := Nat.le_refl _
    have n1 : w.heap.size + 2 ∉ [w.heap.size] := by simp
    have n2 : gs ∉ [w.heap.size] := by simp; omega
    rcases keys_cases hmem with ⟨ch, hch, rfl⟩ | hword | ⟨side, row, hsd, hrow, rfl⟩
    · rw [pressK_put] at hq
      have HQ := Lib.hid hq.symm
      have HP := Lib.hid (fun W (h : Blk W w.heap.size t.arr) => put58_any t [ch] w.heap.size W h h5 (by simp))
      have HCm := Lib.hid (putS_cmd t [ch])
      clear hq hmem
      go_wp2_with ((go_at_call 13; refine (HP.out _ X2).mono ?_; rintro e w7 ⟨rfl, K7, T7⟩))
      go_meet
      refine ⟨?_, by rw [HQ.out], by rw [HQ.out]; exact T7, K7.drop n1 R2, K7.drop n2 S2, K7.below C2 (by simp)⟩
      rw [HQ.out, HCm.out]
    · rw [pressK_word _ _ hword] at hq
      obtain ⟨_, hl1, hl2, hl5, hl6⟩ := words_not key hword
      have HQ := Lib.hid hq.symm
      have HP := Lib.hid (fun W (h : Blk W w.heap.size t.arr) => function58_any t v d arr hv key hword w.heap.size W h h3 h4 h5 hn)
      have b1 : ((key.length : Int) == 1) = false := by simp; omega
      have z : arr.size = 42 := hv.size
      have j1 : Has_view W2 (w.heap.size + 1) 0 := ⟨_, V2.is_view z⟩
      have j2 : of_view W2 (w.heap.size + 1) 0 = arr := of_view_eq (V2.is_view z)
      clear hq hmem z
      by_cases h22 : key.length = 2
      · have hup := hl2 h22
        subst hup
        clear hl1 hl2 hl5 hl6 b1 h22
        unfold kUP at HP HQ ⊢
        go_wp2_with ((go_at_call 15; refine callT (HP.out _ X2) ?_; intro w7 K7 T7))
        go_meet
        exact ⟨by rw [HQ.out], by rw [HQ.out], by rw [HQ.out]; exact T7, K7.drop n1 R2, K7.drop n2 S2, K7.below C2 (by simp)⟩
      · have b2 : ((key.length : Int) == 2) = false := by simp; omega
        clear hl1 hl2 h22
        go_wp2_with ((go_at_call 15; refine callT (HP.out _ X2) ?_; intro w7 K7 T7))
        go_meet
        exact ⟨by rw [HQ.out], by rw [HQ.out], by rw [HQ.out]; exact T7, K7.drop n1 R2, K7.drop n2 S2, K7.below C2 (by simp)⟩
    · rw [pressK_line _ _ hsd hrow] at hq
      have hb8 := lines_num row hrow
      generalize UInt8.ofNat (49 + row) = b at *
      have HQ := Lib.hid hq.symm
      have HP := Lib.hid (fun W (hB : Below w.heap.size w W) (h : Blk W w.heap.size t.arr) => selects58_any t v d arr hv side row hrow w.heap.size w W hL hR hok hB hx h h5 h3 h4 hsd hn)
      have z : arr.size = 42 := hv.size
      have dr : Below W2.heap.size W2 W2.drew := (Below.refl _ _).drew
      have j1 : Has_view W2.drew (w.heap.size + 1) 0 := ⟨_, (V2.step dr).is_view z⟩
      have j2 : of_view W2.drew (w.heap.size + 1) 0 = arr := of_view_eq ((V2.step dr).is_view z)
      have X2d := X2.step dr
      have R2d := R2.step dr
      have S2d := S2.step dr
      have C2d := below_step C2 dr
      have hbi : (b.toNat : Int) = 49 + row := by omega
      have hb1 : (49 : Int) ≤ 49 + row := by omega
      have hb2 : (49 : Int) + row ≤ 53 := by omega
      have q4 : (49 : Int) + row - 49 = row := by omega
      have q2 : IntKind.u8.wrap (row : Int) = row := IntWalk.u8_in _ (by omega)
      have q3 : IntKind.i64.wrap (row : Int) = row := IntWalk.i64_in _ (by omega)
      clear hq hmem z hb8
      go_upto_region 8 with (fail)
      go_cut [56] (fun s wx => s = .bool true ∧ wx = W2)
      case first =>
        rcases hsd with rfl | rfl
        all_goals
          go_wp2
          go_meet
          exact ⟨rfl, rfl⟩
      case rest =>
        obtain ⟨rfl, rfl⟩ := hcut
        go_upto_region 9 with (fail)
        go_region_with ((go_at_call 14; refine callT (HP.out _ C2d X2d) ?_; intro w7 K7 T7))
        all_goals
          go_wp2
          go_meet
          exact ⟨by rw [HQ.out], by rw [HQ.out], by rw [HQ.out]; exact T7, K7.drop n1 R2d, K7.drop n2 S2d, K7.below C2d (by simp)⟩
  case rest =>
    obtain ⟨rfl, rfl, X3, R3, S3, B3⟩ := hcut
    have x4 := X3.has_term
    have x5 := X3.of_term
    have s4 := S3.has_term
    have s5 := S3.of_term
    have r2 := R3.plain
    have r3 := R3.of
    by_cases he : q.2.2 = 0
    · obtain ⟨qt, qc, qe⟩ := q
      obtain rfl : qe = 0 := he
      clear hq
      go_wp2
      exact bodyPost_ret (results_agg3 Tryz.results6 _ _ (w.heap.size + 2) qt.arr 3 _ rfl rfl (R3.set _).cell Tryz.underlying23 rfl info_term) rfl (RetR.mk (t := qt) (c := qc) (e := 0) rfl (below_setRow' B3 hle _))
    · have hq2 := HSame.out he
      have he' : (q.2.2 != 0) = true := by simpa using he
      have HQ := Lib.hid hq2
      generalize q.2.2 = qe at he' HQ ⊢
      clear hq he hq2 HSame
      go_wp2
      exact bodyPost_ret (results_agg3 Tryz.results6 _ _ (w.heap.size + 2) t.arr 3 _ rfl rfl (R3.set _).cell Tryz.underlying23 rfl info_term) rfl (RetR.mk (t := t) (c := []) (e := qe) HQ.out (below_setRow' B3 hle _))
end Go.Proofs.YtlleijickhifmaaGreatDoor
