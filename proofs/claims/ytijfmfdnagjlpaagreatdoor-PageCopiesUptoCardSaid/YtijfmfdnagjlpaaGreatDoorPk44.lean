/- Layer 58: the reference's Press: signs, CLR, UP, DOWN -/
import Derived.Test.YtijfmfdnagjlpaaGreatDoorPk42
import Derived.Test.YtijfmfdnagjlpaaGreatDoorPk38
import Derived.Test.YtijfmfdnagjlpaaGreatDoorPk13
namespace Go.Proofs.YtijfmfdnagjlpaaGreatDoor
open Go.RowKit
set_option linter.unusedVariables false
set_option linter.unusedSimpArgs false
attribute [local go_sem] run_storeB_term SzIs_term Fits_term Ones_term splice_term ba_append run_field_es
set_option maxHeartbeats 4000000 in
set_option maxRecDepth 100000 in
theorem rp_sign (t : Term) (v : Vw) (d : VAd) (arr : Array Value) (hv : v.At d arr) (ch : UInt8) (hch : ch ∈ signsL) (w : World) (hok : v.ok w d) (h1 : 1 ≤ t.page) (h2 : t.page ≤ 4) (h3 : 0 ≤ t.first) (h4 : t.first ≤ 1000000) (h5 : t.pad.length ≤ 24) :
    Calls Tryz.prog 12 #[.agg t.arr, .agg arr, .string ⟨[ch].toArray⟩] w (RetR w (putS t [ch])) := by
  have hmem : [ch] ∈ keysL := sign_key ch hch
  obtain ⟨hsm, hcap, hE⟩ := hok.shown
  have hn := hsm.len
  go_enter Tryz.func12, Tryz.ntmps12
  go_upto_region 1 with (fail)
  generalize hW : ((w.alloc _).alloc _).alloc _ = W
  have X0 : Blk W w.heap.size t.arr := by rw [← hW]; exact ((Blk.new w t.arr _).alloc _).alloc _
  have V0 : Blk W (w.heap.size + 1) arr := by rw [← hW, ← World.size_alloc w (.cells t.arr 23)]; exact (Blk.new _ _ _).alloc _
  have R0 : Blk W (w.heap.size + 2) zeroT.arr := by
    rw [← hW]
    have := Blk.new ((w.alloc (.cells t.arr 23)).alloc (.cells arr 44)) zeroT.arr 23
    simp only [World.size_alloc] at this
    exact this
  have B0 : Below w.heap.size w W := by rw [← hW]; go_grown
  have hle : w.heap.size ≤ w.heap.size + 2 := Nat.le_add_right _ _
  have hxl : w.heap.size ≤ w.heap.size := Nat.le_refl _
  have hne : w.heap.size + 2 ≠ w.heap.size := by omega
  clear hW
  have HC := rknown58_any [ch] W (by simp)
  rw [decide_eq_true hmem] at HC
  have HC := Lib.hid HC
  clear hmem hE hsm hcap
  go_upto_region 3 with (go_at_call 25; refine callRB HC.out ?_; intro w1 B1; have q1 := (X0.step B1).cell)
  have X1 := X0.step B1
  have V1 := V0.step B1
  have R1 := R0.step B1
  have B2 := below_step B0 B1
  clear X0 V0 R0 B0 B1 HC
  have x1 := X1.cell
  have x2 := X1.frozen
  have x3 := X1.lt
  have x4 := X1.has_term
  have x5 := X1.of_term
  have r2 := R1.plain
  have r3 := R1.of
  have hO : Hid (putS t [ch] = if t.pad = kDELETE then ({ t with pad := [ch] }, [], 0) else if t.pad.length = 24 then (t, [], 18) else ({ t with pad := t.pad ++ [ch] }, [], 0)) := Lib.hid rfl
  generalize putS t [ch] = out at *
  by_cases hp1 : t.pad = kDELETE
  · rw [if_pos hp1] at hO
    have HS := hO
    have hp2 : t.pad = [68, 69, 76, 69, 84, 69] := hp1
    clear hO hp1
    go_upto_region 6 with (fail)
    have X2 : Blk _ w.heap.size ({ t with pad := [] } : Term).arr := X1.setCell 2 (.string ⟨#[]⟩)
    have R2 := R1.setFar hne 2 (.string ⟨#[]⟩)
    have B3 := below_setCell B2 hxl 2 (.string ⟨#[]⟩)
    clear x1 x2 x3 x4 x5 r2 r3
    generalize (World.setCell _ _ _) = W3 at X2 R2 B3 ⊢
    have x1 := X2.cell
    have x2 := X2.frozen
    have x3 := X2.lt
    go_upto_region 9 with (fail)
    have X4 : Blk _ w.heap.size ({ t with pad := [ch] } : Term).arr := X2.setCell 2 (.string ⟨#[ch]⟩)
    have R4 := R2.setFar hne 2 (.string ⟨#[ch]⟩)
    have B5 := below_setCell B3 hxl 2 (.string ⟨#[ch]⟩)
    clear x1 x2 x3
    generalize (World.setCell _ _ _) = W5 at X4 R4 B5 ⊢
    have x4 := X4.has_term
    have x5 := X4.of_term
    have r2 := R4.plain
    have r3 := R4.of
    go_wp2
    exact bodyPost_ret (results_agg3 Tryz.results12 _ _ (w.heap.size + 2) ({ t with pad := [ch] } : Term).arr 3 _ rfl rfl (R4.set _).cell Tryz.underlying23 rfl info_term) rfl (RetR.mk (t := { t with pad := [ch] }) (c := []) (e := 0) HS.out (below_setRow' B5 hle _))
  · rw [if_neg hp1] at hO
    have hp4 : (t.pad == [68, 69, 76, 69, 84, 69]) = false := by simpa [kDELETE] using hp1
    by_cases h24 : t.pad.length = 24
    · rw [if_pos h24] at hO
      have HS := hO
      clear hO hp1
      go_wp2
      exact bodyPost_ret (results_agg3 Tryz.results12 _ _ (w.heap.size + 2) (t : Term).arr 3 _ rfl rfl (R1.set _).cell Tryz.underlying23 rfl info_term) rfl (RetR.mk (t := t) (c := []) (e := 18) HS.out (below_setRow' B2 hle _))
    · rw [if_neg h24] at hO
      have HS := hO
      have h55 : ((t.pad.length : Int) == 24) = false := by simp; omega
      clear hO hp1
      go_upto_region 9 with (fail)
      have X2 : Blk _ w.heap.size ({ t with pad := t.pad ++ [ch] } : Term).arr := (X1.setCell 2 (.string ⟨(t.pad ++ [ch]).toArray⟩))
      have R2 := (R1.setFar hne 2 (.string ⟨(t.pad ++ [ch]).toArray⟩))
      have B3 := (below_setCell B2 hxl 2 (.string ⟨(t.pad ++ [ch]).toArray⟩))
      clear x1 x2 x3 x4 x5 r2 r3
      generalize (World.setCell _ _ _) = W3 at X2 R2 B3 ⊢
      have x1 := X2.cell
      have x2 := X2.frozen
      have x3 := X2.lt
      have x4 := X2.has_term
      have x5 := X2.of_term
      have r2 := R2.plain
      have r3 := R2.of
      go_wp2
      exact bodyPost_ret (results_agg3 Tryz.results12 _ _ (w.heap.size + 2) ({ t with pad := t.pad ++ [ch] } : Term).arr 3 _ rfl rfl (R2.set _).cell Tryz.underlying23 rfl info_term) rfl (RetR.mk (t := { t with pad := t.pad ++ [ch] }) (c := []) (e := 0) HS.out (below_setRow' B3 hle _))
set_option maxHeartbeats 4000000 in
set_option maxRecDepth 100000 in
theorem rp_CLR (t : Term) (v : Vw) (d : VAd) (arr : Array Value) (hv : v.At d arr) (w : World) (hok : v.ok w d) (h1 : 1 ≤ t.page) (h2 : t.page ≤ 4) (h3 : 0 ≤ t.first) (h4 : t.first ≤ 1000000) (h5 : t.pad.length ≤ 24) :
    Calls Tryz.prog 12 #[.agg t.arr, .agg arr, .string ⟨#[67, 76, 82]⟩] w (RetR w (functionS t v kCLR)) := by
  have hmem : [67, 76, 82] ∈ keysL := by decide +kernel
  obtain ⟨hsm, hcap, hE⟩ := hok.shown
  have hn := hsm.len
  go_enter Tryz.func12, Tryz.ntmps12
  go_upto_region 1 with (fail)
  generalize hW : ((w.alloc _).alloc _).alloc _ = W
  have X0 : Blk W w.heap.size t.arr := by rw [← hW]; exact ((Blk.new w t.arr _).alloc _).alloc _
  have V0 : Blk W (w.heap.size + 1) arr := by rw [← hW, ← World.size_alloc w (.cells t.arr 23)]; exact (Blk.new _ _ _).alloc _
  have R0 : Blk W (w.heap.size + 2) zeroT.arr := by
    rw [← hW]
    have := Blk.new ((w.alloc (.cells t.arr 23)).alloc (.cells arr 44)) zeroT.arr 23
    simp only [World.size_alloc] at this
    exact this
  have B0 : Below w.heap.size w W := by rw [← hW]; go_grown
  have hle : w.heap.size ≤ w.heap.size + 2 := Nat.le_add_right _ _
  have hxl : w.heap.size ≤ w.heap.size := Nat.le_refl _
  have hne : w.heap.size + 2 ≠ w.heap.size := by omega
  clear hW
  have HC := rknown58_any [67, 76, 82] W (by simp)
  rw [decide_eq_true hmem] at HC
  have HC := Lib.hid HC
  clear hmem hE hsm hcap
  go_upto_region 3 with (go_at_call 25; refine callRB HC.out ?_; intro w1 B1; have q1 := (X0.step B1).cell)
  have X1 := X0.step B1
  have V1 := V0.step B1
  have R1 := R0.step B1
  have B2 := below_step B0 B1
  clear X0 V0 R0 B0 B1 HC
  have x1 := X1.cell
  have x2 := X1.frozen
  have x3 := X1.lt
  have x4 := X1.has_term
  have x5 := X1.of_term
  have r2 := R1.plain
  have r3 := R1.of
  have HS : Hid (functionS t v kCLR = if t.pad = [] then ({ t with pad := kDELETE }, [], 0) else if t.pad = kDELETE then ({ t with pad := [] }, [], 0) else ({ t with pad := t.pad.take (t.pad.length - 1) }, [], 0)) := Lib.hid rfl
  generalize functionS t v kCLR = out at *
  by_cases hp0 : t.pad = []
  · rw [if_pos hp0] at HS
    go_upto_region 42 with (fail)
    have X2 : Blk _ w.heap.size ({ t with pad := kDELETE } : Term).arr := (X1.setCell 2 (.string ⟨#[68, 69, 76, 69, 84, 69]⟩))
    have R2 := (R1.setFar hne 2 (.string ⟨#[68, 69, 76, 69, 84, 69]⟩))
    have B3 := (below_setCell B2 hxl 2 (.string ⟨#[68, 69, 76, 69, 84, 69]⟩))
    clear x1 x2 x3 x4 x5 r2 r3
    generalize (World.setCell _ _ _) = W3 at X2 R2 B3 ⊢
    have x1 := X2.cell
    have x2 := X2.frozen
    have x3 := X2.lt
    have x4 := X2.has_term
    have x5 := X2.of_term
    have r2 := R2.plain
    have r3 := R2.of
    go_wp2
    exact bodyPost_ret (results_agg3 Tryz.results12 _ _ (w.heap.size + 2) ({ t with pad := kDELETE } : Term).arr 3 _ rfl rfl (R2.set _).cell Tryz.underlying23 rfl info_term) rfl (RetR.mk (t := { t with pad := kDELETE }) (c := []) (e := 0) HS.out (below_setRow' B3 hle _))
  · rw [if_neg hp0] at HS
    by_cases hp1 : t.pad = kDELETE
    · rw [if_pos hp1] at HS
      have hp2 : t.pad = [68, 69, 76, 69, 84, 69] := hp1
      clear hp0 hp1
      go_upto_region 42 with (fail)
      have X2 : Blk _ w.heap.size ({ t with pad := [] } : Term).arr := (X1.setCell 2 (.string ⟨#[]⟩))
      have R2 := (R1.setFar hne 2 (.string ⟨#[]⟩))
      have B3 := (below_setCell B2 hxl 2 (.string ⟨#[]⟩))
      clear x1 x2 x3 x4 x5 r2 r3
      generalize (World.setCell _ _ _) = W3 at X2 R2 B3 ⊢
      have x1 := X2.cell
      have x2 := X2.frozen
      have x3 := X2.lt
      have x4 := X2.has_term
      have x5 := X2.of_term
      have r2 := R2.plain
      have r3 := R2.of
      go_wp2
      exact bodyPost_ret (results_agg3 Tryz.results12 _ _ (w.heap.size + 2) ({ t with pad := [] } : Term).arr 3 _ rfl rfl (R2.set _).cell Tryz.underlying23 rfl info_term) rfl (RetR.mk (t := { t with pad := [] }) (c := []) (e := 0) HS.out (below_setRow' B3 hle _))
    · rw [if_neg hp1] at HS
      have hp3 : (t.pad == []) = false := by simp [hp0]
      have hp4 : (t.pad == [68, 69, 76, 69, 84, 69]) = false := by simpa [kDELETE] using hp1
      have hpos : 0 < t.pad.length := List.length_pos_iff.2 hp0
      have q2 : (t.pad.length : Int) - 1 = ((t.pad.length - 1 : Nat) : Int) := by omega
      have q3 : t.pad.length - 1 ≤ t.pad.length := by omega
      clear hp0 hp1
      go_upto_region 42 with (fail)
      have X2 : Blk _ w.heap.size ({ t with pad := t.pad.take (t.pad.length - 1) } : Term).arr := (X1.setCell 2 (.string ⟨(t.pad.take (t.pad.length - 1)).toArray⟩))
      have R2 := (R1.setFar hne 2 (.string ⟨(t.pad.take (t.pad.length - 1)).toArray⟩))
      have B3 := (below_setCell B2 hxl 2 (.string ⟨(t.pad.take (t.pad.length - 1)).toArray⟩))
      clear x1 x2 x3 x4 x5 r2 r3
      generalize (World.setCell _ _ _) = W3 at X2 R2 B3 ⊢
      have x1 := X2.cell
      have x2 := X2.frozen
      have x3 := X2.lt
      have x4 := X2.has_term
      have x5 := X2.of_term
      have r2 := R2.plain
      have r3 := R2.of
      go_wp2
      exact bodyPost_ret (results_agg3 Tryz.results12 _ _ (w.heap.size + 2) ({ t with pad := t.pad.take (t.pad.length - 1) } : Term).arr 3 _ rfl rfl (R2.set _).cell Tryz.underlying23 rfl info_term) rfl (RetR.mk (t := { t with pad := t.pad.take (t.pad.length - 1) }) (c := []) (e := 0) HS.out (below_setRow' B3 hle _))
set_option maxHeartbeats 4000000 in
set_option maxRecDepth 100000 in
theorem rp_UP (t : Term) (v : Vw) (d : VAd) (arr : Array Value) (hv : v.At d arr) (w : World) (hok : v.ok w d) (h1 : 1 ≤ t.page) (h2 : t.page ≤ 4) (h3 : 0 ≤ t.first) (h4 : t.first ≤ 1000000) (h5 : t.pad.length ≤ 24) :
    Calls Tryz.prog 12 #[.agg t.arr, .agg arr, .string ⟨#[85, 80]⟩] w (RetR w (functionS t v kUP)) := by
  have hmem : [85, 80] ∈ keysL := by decide +kernel
  obtain ⟨hsm, hcap, hE⟩ := hok.shown
  have hn := hsm.len
  go_enter Tryz.func12, Tryz.ntmps12
  go_upto_region 1 with (fail)
  generalize hW : ((w.alloc _).alloc _).alloc _ = W
  have X0 : Blk W w.heap.size t.arr := by rw [← hW]; exact ((Blk.new w t.arr _).alloc _).alloc _
  have V0 : Blk W (w.heap.size + 1) arr := by rw [← hW, ← World.size_alloc w (.cells t.arr 23)]; exact (Blk.new _ _ _).alloc _
  have R0 : Blk W (w.heap.size + 2) zeroT.arr := by
    rw [← hW]
    have := Blk.new ((w.alloc (.cells t.arr 23)).alloc (.cells arr 44)) zeroT.arr 23
    simp only [World.size_alloc] at this
    exact this
  have B0 : Below w.heap.size w W := by rw [← hW]; go_grown
  have hle : w.heap.size ≤ w.heap.size + 2 := Nat.le_add_right _ _
  have hxl : w.heap.size ≤ w.heap.size := Nat.le_refl _
  have hne : w.heap.size + 2 ≠ w.heap.size := by omega
  clear hW
  have HC := rknown58_any [85, 80] W (by simp)
  rw [decide_eq_true hmem] at HC
  have HC := Lib.hid HC
  clear hmem hE hsm hcap
  go_upto_region 3 with (go_at_call 25; refine callRB HC.out ?_; intro w1 B1; have q1 := (X0.step B1).cell)
  have X1 := X0.step B1
  have V1 := V0.step B1
  have R1 := R0.step B1
  have B2 := below_step B0 B1
  clear X0 V0 R0 B0 B1 HC
  have x1 := X1.cell
  have x2 := X1.frozen
  have x3 := X1.lt
  have x4 := X1.has_term
  have x5 := X1.of_term
  have r2 := R1.plain
  have r3 := R1.of
  have HS : Hid (functionS t v kUP = if t.first < 5 then (t, [], 6) else ({ t with first := t.first - 5 }, [], 0)) := Lib.hid rfl
  generalize functionS t v kUP = out at *
  have q2 : IntKind.i64.wrap (t.first - 5) = t.first - 5 := IntWalk.i64_in _ (by omega)
  by_cases hd : t.first < 5
  · rw [if_pos hd] at HS
    go_wp2
    exact bodyPost_ret (results_agg3 Tryz.results12 _ _ (w.heap.size + 2) (t : Term).arr 3 _ rfl rfl (R1.set _).cell Tryz.underlying23 rfl info_term) rfl (RetR.mk (t := t) (c := []) (e := 6) HS.out (below_setRow' B2 hle _))
  · rw [if_neg hd] at HS
    go_upto_region 42 with (fail)
    have X2 : Blk _ w.heap.size ({ t with first := t.first - 5 } : Term).arr := (X1.setCell 1 (.int .i64 (t.first - 5)))
    have R2 := (R1.setFar hne 1 (.int .i64 (t.first - 5)))
    have B3 := (below_setCell B2 hxl 1 (.int .i64 (t.first - 5)))
    clear x1 x2 x3 x4 x5 r2 r3
    generalize (World.setCell _ _ _) = W3 at X2 R2 B3 ⊢
    have x1 := X2.cell
    have x2 := X2.frozen
    have x3 := X2.lt
    have x4 := X2.has_term
    have x5 := X2.of_term
    have r2 := R2.plain
    have r3 := R2.of
    go_wp2
    exact bodyPost_ret (results_agg3 Tryz.results12 _ _ (w.heap.size + 2) ({ t with first := t.first - 5 } : Term).arr 3 _ rfl rfl (R2.set _).cell Tryz.underlying23 rfl info_term) rfl (RetR.mk (t := { t with first := t.first - 5 }) (c := []) (e := 0) HS.out (below_setRow' B3 hle _))
set_option maxHeartbeats 4000000 in
set_option maxRecDepth 100000 in
theorem rp_DOWN (t : Term) (v : Vw) (d : VAd) (arr : Array Value) (hv : v.At d arr) (w : World) (hok : v.ok w d) (h1 : 1 ≤ t.page) (h2 : t.page ≤ 4) (h3 : 0 ≤ t.first) (h4 : t.first ≤ 1000000) (h5 : t.pad.length ≤ 24) :
    Calls Tryz.prog 12 #[.agg t.arr, .agg arr, .string ⟨#[68, 79, 87, 78]⟩] w (RetR w (functionS t v kDOWN)) := by
  have hmem : [68, 79, 87, 78] ∈ keysL := by decide +kernel
  obtain ⟨hsm, hcap, hE⟩ := hok.shown
  have hn := hsm.len
  go_enter Tryz.func12, Tryz.ntmps12
  go_upto_region 1 with (fail)
  generalize hW : ((w.alloc _).alloc _).alloc _ = W
  have X0 : Blk W w.heap.size t.arr := by rw [← hW]; exact ((Blk.new w t.arr _).alloc _).alloc _
  have V0 : Blk W (w.heap.size + 1) arr := by rw [← hW, ← World.size_alloc w (.cells t.arr 23)]; exact (Blk.new _ _ _).alloc _
  have R0 : Blk W (w.heap.size + 2) zeroT.arr := by
    rw [← hW]
    have := Blk.new ((w.alloc (.cells t.arr 23)).alloc (.cells arr 44)) zeroT.arr 23
    simp only [World.size_alloc] at this
    exact this
  have B0 : Below w.heap.size w W := by rw [← hW]; go_grown
  have hle : w.heap.size ≤ w.heap.size + 2 := Nat.le_add_right _ _
  have hxl : w.heap.size ≤ w.heap.size := Nat.le_refl _
  have hne : w.heap.size + 2 ≠ w.heap.size := by omega
  clear hW
  have HC := rknown58_any [68, 79, 87, 78] W (by simp)
  rw [decide_eq_true hmem] at HC
  have HC := Lib.hid HC
  clear hmem hE hsm hcap
  go_upto_region 3 with (go_at_call 25; refine callRB HC.out ?_; intro w1 B1; have q1 := (X0.step B1).cell)
  have X1 := X0.step B1
  have V1 := V0.step B1
  have R1 := R0.step B1
  have B2 := below_step B0 B1
  clear X0 V0 R0 B0 B1 HC
  have HS : Hid (functionS t v kDOWN = if ((shownS v).es.length : Int) ≤ t.first + 5 then (t, [], 6) else ({ t with first := t.first + 5 }, [], 0)) := Lib.hid rfl
  generalize functionS t v kDOWN = out at *
  have z : arr.size = 42 := hv.size
  have j1 : Has_view w1 (w.heap.size + 1) 0 := ⟨_, V1.is_view z⟩
  have j2 : of_view w1 (w.heap.size + 1) 0 = arr := of_view_eq (V1.is_view z)
  clear z
  go_upto_region 24 with (go_at_call 19; refine callRB (rshown_any v d arr hv _) ?_; intro w2 C1; unfold Plan.val Plan.arr)
  have X1 := X1.step C1
  have R1 := R1.step C1
  have B2 := below_step B2 C1
  clear j1 j2 C1 V1
  generalize (shownS v).es.length = m at *
  have x1 := X1.cell
  have x2 := X1.frozen
  have x3 := X1.lt
  have x4 := X1.has_term
  have x5 := X1.of_term
  have r2 := R1.plain
  have r3 := R1.of
  have q2 : IntKind.i64.wrap (t.first + 5) = t.first + 5 := IntWalk.i64_in _ (by omega)
  have q3 : IntKind.i64.wrap ((m : Int) - 5) = (m : Int) - 5 := IntWalk.i64_in _ (by omega)
  by_cases hd : (m : Int) ≤ t.first + 5
  · rw [if_pos hd] at HS
    by_cases h50 : (m : Int) < 5
    · go_wp2
      exact bodyPost_ret (results_agg3 Tryz.results12 _ _ (w.heap.size + 2) (t : Term).arr 3 _ rfl rfl (R1.set _).cell Tryz.underlying23 rfl info_term) rfl (RetR.mk (t := t) (c := []) (e := 6) HS.out (below_setRow' B2 hle _))
    · have h51 : (m : Int) - 5 ≤ t.first := by omega
      go_wp2
      exact bodyPost_ret (results_agg3 Tryz.results12 _ _ (w.heap.size + 2) (t : Term).arr 3 _ rfl rfl (R1.set _).cell Tryz.underlying23 rfl info_term) rfl (RetR.mk (t := t) (c := []) (e := 6) HS.out (below_setRow' B2 hle _))
  · rw [if_neg hd] at HS
    have h50 : ¬ (m : Int) < 5 := by omega
    have h51 : ¬ (m : Int) - 5 ≤ t.first := by omega
    go_upto_region 42 with (fail)
    have X2 : Blk _ w.heap.size ({ t with first := t.first + 5 } : Term).arr := (X1.setCell 1 (.int .i64 (t.first + 5)))
    have R2 := (R1.setFar hne 1 (.int .i64 (t.first + 5)))
    have B3 := (below_setCell B2 hxl 1 (.int .i64 (t.first + 5)))
    clear x1 x2 x3 x4 x5 r2 r3
    generalize (World.setCell _ _ _) = W3 at X2 R2 B3 ⊢
    have x1 := X2.cell
    have x2 := X2.frozen
    have x3 := X2.lt
    have x4 := X2.has_term
    have x5 := X2.of_term
    have r2 := R2.plain
    have r3 := R2.of
    go_wp2
    exact bodyPost_ret (results_agg3 Tryz.results12 _ _ (w.heap.size + 2) ({ t with first := t.first + 5 } : Term).arr 3 _ rfl rfl (R2.set _).cell Tryz.underlying23 rfl info_term) rfl (RetR.mk (t := { t with first := t.first + 5 }) (c := []) (e := 0) HS.out (below_setRow' B3 hle _))
end Go.Proofs.YtijfmfdnagjlpaaGreatDoor
