/- Layer 58: the reference's Press: the other function keys, the line select keys -/
import Derived.Test.YtijfmfdnagjlpaaGreatDoorPk42
import Derived.Test.YtijfmfdnagjlpaaGreatDoorPk38
import Derived.Test.YtijfmfdnagjlpaaGreatDoorPk13
namespace Go.Proofs.YtijfmfdnagjlpaaGreatDoor
open Go.RowKit
set_option linter.unusedVariables false
set_option linter.unusedSimpArgs false
attribute [local go_sem] run_storeB_term SzIs_term Fits_term Ones_term splice_term ba_append run_field_es
set_option maxHeartbeats 4000000 in
set_option maxRecDepth 100000 in
theorem rp_LEGS (t : Term) (v : Vw) (d : VAd) (arr : Array Value) (hv : v.At d arr) (w : World) (hok : v.ok w d) (h1 : 1 ≤ t.page) (h2 : t.page ≤ 4) (h3 : 0 ≤ t.first) (h4 : t.first ≤ 1000000) (h5 : t.pad.length ≤ 24) :
    Calls Tryz.prog 12 #[.agg t.arr, .agg arr, .string ⟨#[76, 69, 71, 83]⟩] w (RetR w (functionS t v kLEGS)) := by
  have hmem : [76, 69, 71, 83] ∈ keysL := by decide +kernel
  obtain ⟨hsm, hcap, hE⟩ := hok.shown
  have hn := hsm.len
  go_enter Tryz.func12, Tryz.ntmps12
  go_upto_region 1 with (fail)
  generalize hW : ((w.alloc _).alloc _).alloc _ = W
  have X0 : Blk W w.heap.size t.arr := by rw [← hW]; exact ((Blk.new w t.arr _).alloc _).alloc _
  have V0 : Blk W (w.heap.size + 1) arr := by rw [← hW, ← World.size_alloc w (.cells t.arr 23)]; exact (Blk.new _ _ _).alloc _
  have R0 : Blk W (w.heap.size + 2) zeroT.arr := by
    rw [← hW]
    have := Blk.new ((w.alloc (.cells t.arr 23)).alloc (.cells arr 44)) zeroT.arr 23
    simp only [World.size_alloc] at this
    exact this
  have B0 : Below w.heap.size w W := by rw [← hW]; go_grown
  have hle : w.heap.size ≤ w.heap.size + 2 := Nat.le_add_right _ _
  have hxl : w.heap.size ≤ w.heap.size := Nat.le_refl _
  have hne : w.heap.size + 2 ≠ w.heap.size := by omega
  clear hW
  have HC := rknown58_any [76, 69, 71, 83] W (by simp)
  rw [decide_eq_true hmem] at HC
  have HC := Lib.hid HC
  clear hmem hE hsm hcap
  go_upto_region 3 with (go_at_call 25; refine callRB HC.out ?_; intro w1 B1; have q1 := (X0.step B1).cell)
  have X1 := X0.step B1
  have V1 := V0.step B1
  have R1 := R0.step B1
  have B2 := below_step B0 B1
  clear X0 V0 R0 B0 B1 HC
  have x1 := X1.cell
  have x2 := X1.frozen
  have x3 := X1.lt
  have x4 := X1.has_term
  have x5 := X1.of_term
  have r2 := R1.plain
  have r3 := R1.of
  have HS : Hid (functionS t v kLEGS = ({ t with page := 1, first := 0 }, [], 0)) := Lib.hid rfl
  generalize functionS t v kLEGS = out at *
  go_upto_region 42 with (fail)
  have X2 : Blk _ w.heap.size ({ t with page := 1, first := 0 } : Term).arr := ((X1.setCell 0 (.int .i64 1)).setCell 1 (.int .i64 0))
  have R2 := ((R1.setFar hne 0 (.int .i64 1)).setFar hne 1 (.int .i64 0))
  have B3 := (below_setCell (below_setCell B2 hxl 0 (.int .i64 1)) hxl 1 (.int .i64 0))
  clear x1 x2 x3 x4 x5 r2 r3
  generalize (World.setCell _ _ _) = W3 at X2 R2 B3 ⊢
  have x1 := X2.cell
  have x2 := X2.frozen
  have x3 := X2.lt
  have x4 := X2.has_term
  have x5 := X2.of_term
  have r2 := R2.plain
  have r3 := R2.of
  go_wp2
  exact bodyPost_ret (results_agg3 Tryz.results12 _ _ (w.heap.size + 2) ({ t with page := 1, first := 0 } : Term).arr 3 _ rfl rfl (R2.set _).cell Tryz.underlying23 rfl info_term) rfl (RetR.mk (t := { t with page := 1, first := 0 }) (c := []) (e := 0) HS.out (below_setRow' B3 hle _))
set_option maxHeartbeats 4000000 in
set_option maxRecDepth 100000 in
theorem rp_DIR (t : Term) (v : Vw) (d : VAd) (arr : Array Value) (hv : v.At d arr) (w : World) (hok : v.ok w d) (h1 : 1 ≤ t.page) (h2 : t.page ≤ 4) (h3 : 0 ≤ t.first) (h4 : t.first ≤ 1000000) (h5 : t.pad.length ≤ 24) :
    Calls Tryz.prog 12 #[.agg t.arr, .agg arr, .string ⟨#[68, 73, 82]⟩] w (RetR w (functionS t v kDIR)) := by
  have hmem : [68, 73, 82] ∈ keysL := by decide +kernel
  obtain ⟨hsm, hcap, hE⟩ := hok.shown
  have hn := hsm.len
  go_enter Tryz.func12, Tryz.ntmps12
  go_upto_region 1 with (fail)
  generalize hW : ((w.alloc _).alloc _).alloc _ = W
  have X0 : Blk W w.heap.size t.arr := by rw [← hW]; exact ((Blk.new w t.arr _).alloc _).alloc _
  have V0 : Blk W (w.heap.size + 1) arr := by rw [← hW, ← World.size_alloc w (.cells t.arr 23)]; exact (Blk.new _ _ _).alloc _
  have R0 : Blk W (w.heap.size + 2) zeroT.arr := by
    rw [← hW]
    have := Blk.new ((w.alloc (.cells t.arr 23)).alloc (.cells arr 44)) zeroT.arr 23
    simp only [World.size_alloc] at this
    exact this
  have B0 : Below w.heap.size w W := by rw [← hW]; go_grown
  have hle : w.heap.size ≤ w.heap.size + 2 := Nat.le_add_right _ _
  have hxl : w.heap.size ≤ w.heap.size := Nat.le_refl _
  have hne : w.heap.size + 2 ≠ w.heap.size := by omega
  clear hW
  have HC := rknown58_any [68, 73, 82] W (by simp)
  rw [decide_eq_true hmem] at HC
  have HC := Lib.hid HC
  clear hmem hE hsm hcap
  go_upto_region 3 with (go_at_call 25; refine callRB HC.out ?_; intro w1 B1; have q1 := (X0.step B1).cell)
  have X1 := X0.step B1
  have V1 := V0.step B1
  have R1 := R0.step B1
  have B2 := below_step B0 B1
  clear X0 V0 R0 B0 B1 HC
  have x1 := X1.cell
  have x2 := X1.frozen
  have x3 := X1.lt
  have x4 := X1.has_term
  have x5 := X1.of_term
  have r2 := R1.plain
  have r3 := R1.of
  have HS : Hid (functionS t v kDIR = ({ t with page := 2, first := 0 }, [], 0)) := Lib.hid rfl
  generalize functionS t v kDIR = out at *
  go_upto_region 42 with (fail)
  have X2 : Blk _ w.heap.size ({ t with page := 2, first := 0 } : Term).arr := ((X1.setCell 0 (.int .i64 2)).setCell 1 (.int .i64 0))
  have R2 := ((R1.setFar hne 0 (.int .i64 2)).setFar hne 1 (.int .i64 0))
  have B3 := (below_setCell (below_setCell B2 hxl 0 (.int .i64 2)) hxl 1 (.int .i64 0))
  clear x1 x2 x3 x4 x5 r2 r3
  generalize (World.setCell _ _ _) = W3 at X2 R2 B3 ⊢
  have x1 := X2.cell
  have x2 := X2.frozen
  have x3 := X2.lt
  have x4 := X2.has_term
  have x5 := X2.of_term
  have r2 := R2.plain
  have r3 := R2.of
  go_wp2
  exact bodyPost_ret (results_agg3 Tryz.results12 _ _ (w.heap.size + 2) ({ t with page := 2, first := 0 } : Term).arr 3 _ rfl rfl (R2.set _).cell Tryz.underlying23 rfl info_term) rfl (RetR.mk (t := { t with page := 2, first := 0 }) (c := []) (e := 0) HS.out (below_setRow' B3 hle _))
set_option maxHeartbeats 4000000 in
set_option maxRecDepth 100000 in
theorem rp_PROG (t : Term) (v : Vw) (d : VAd) (arr : Array Value) (hv : v.At d arr) (w : World) (hok : v.ok w d) (h1 : 1 ≤ t.page) (h2 : t.page ≤ 4) (h3 : 0 ≤ t.first) (h4 : t.first ≤ 1000000) (h5 : t.pad.length ≤ 24) :
    Calls Tryz.prog 12 #[.agg t.arr, .agg arr, .string ⟨#[80, 82, 79, 71]⟩] w (RetR w (functionS t v kPROG)) := by
  have hmem : [80, 82, 79, 71] ∈ keysL := by decide +kernel
  obtain ⟨hsm, hcap, hE⟩ := hok.shown
  have hn := hsm.len
  go_enter Tryz.func12, Tryz.ntmps12
  go_upto_region 1 with (fail)
  generalize hW : ((w.alloc _).alloc _).alloc _ = W
  have X0 : Blk W w.heap.size t.arr := by rw [← hW]; exact ((Blk.new w t.arr _).alloc _).alloc _
  have V0 : Blk W (w.heap.size + 1) arr := by rw [← hW, ← World.size_alloc w (.cells t.arr 23)]; exact (Blk.new _ _ _).alloc _
  have R0 : Blk W (w.heap.size + 2) zeroT.arr := by
    rw [← hW]
    have := Blk.new ((w.alloc (.cells t.arr 23)).alloc (.cells arr 44)) zeroT.arr 23
    simp only [World.size_alloc] at this
    exact this
  have B0 : Below w.heap.size w W := by rw [← hW]; go_grown
  have hle : w.heap.size ≤ w.heap.size + 2 := Nat.le_add_right _ _
  have hxl : w.heap.size ≤ w.heap.size := Nat.le_refl _
  have hne : w.heap.size + 2 ≠ w.heap.size := by omega
  clear hW
  have HC := rknown58_any [80, 82, 79, 71] W (by simp)
  rw [decide_eq_true hmem] at HC
  have HC := Lib.hid HC
  clear hmem hE hsm hcap
  go_upto_region 3 with (go_at_call 25; refine callRB HC.out ?_; intro w1 B1; have q1 := (X0.step B1).cell)
  have X1 := X0.step B1
  have V1 := V0.step B1
  have R1 := R0.step B1
  have B2 := below_step B0 B1
  clear X0 V0 R0 B0 B1 HC
  have x1 := X1.cell
  have x2 := X1.frozen
  have x3 := X1.lt
  have x4 := X1.has_term
  have x5 := X1.of_term
  have r2 := R1.plain
  have r3 := R1.of
  have HS : Hid (functionS t v kPROG = ({ t with page := 3, first := 0 }, [], 0)) := Lib.hid rfl
  generalize functionS t v kPROG = out at *
  go_upto_region 42 with (fail)
  have X2 : Blk _ w.heap.size ({ t with page := 3, first := 0 } : Term).arr := ((X1.setCell 0 (.int .i64 3)).setCell 1 (.int .i64 0))
  have R2 := ((R1.setFar hne 0 (.int .i64 3)).setFar hne 1 (.int .i64 0))
  have B3 := (below_setCell (below_setCell B2 hxl 0 (.int .i64 3)) hxl 1 (.int .i64 0))
  clear x1 x2 x3 x4 x5 r2 r3
  generalize (World.setCell _ _ _) = W3 at X2 R2 B3 ⊢
  have x1 := X2.cell
  have x2 := X2.frozen
  have x3 := X2.lt
  have x4 := X2.has_term
  have x5 := X2.of_term
  have r2 := R2.plain
  have r3 := R2.of
  go_wp2
  exact bodyPost_ret (results_agg3 Tryz.results12 _ _ (w.heap.size + 2) ({ t with page := 3, first := 0 } : Term).arr 3 _ rfl rfl (R2.set _).cell Tryz.underlying23 rfl info_term) rfl (RetR.mk (t := { t with page := 3, first := 0 }) (c := []) (e := 0) HS.out (below_setRow' B3 hle _))
set_option maxHeartbeats 4000000 in
set_option maxRecDepth 100000 in
theorem rp_MSG (t : Term) (v : Vw) (d : VAd) (arr : Array Value) (hv : v.At d arr) (w : World) (hok : v.ok w d) (h1 : 1 ≤ t.page) (h2 : t.page ≤ 4) (h3 : 0 ≤ t.first) (h4 : t.first ≤ 1000000) (h5 : t.pad.length ≤ 24) :
    Calls Tryz.prog 12 #[.agg t.arr, .agg arr, .string ⟨#[77, 83, 71]⟩] w (RetR w (functionS t v kMSG)) := by
  have hmem : [77, 83, 71] ∈ keysL := by decide +kernel
  obtain ⟨hsm, hcap, hE⟩ := hok.shown
  have hn := hsm.len
  go_enter Tryz.func12, Tryz.ntmps12
  go_upto_region 1 with (fail)
  generalize hW : ((w.alloc _).alloc _).alloc _ = W
  have X0 : Blk W w.heap.size t.arr := by rw [← hW]; exact ((Blk.new w t.arr _).alloc _).alloc _
  have V0 : Blk W (w.heap.size + 1) arr := by rw [← hW, ← World.size_alloc w (.cells t.arr 23)]; exact (Blk.new _ _ _).alloc _
  have R0 : Blk W (w.heap.size + 2) zeroT.arr := by
    rw [← hW]
    have := Blk.new ((w.alloc (.cells t.arr 23)).alloc (.cells arr 44)) zeroT.arr 23
    simp only [World.size_alloc] at this
    exact this
  have B0 : Below w.heap.size w W := by rw [← hW]; go_grown
  have hle : w.heap.size ≤ w.heap.size + 2 := Nat.le_add_right _ _
  have hxl : w.heap.size ≤ w.heap.size := Nat.le_refl _
  have hne : w.heap.size + 2 ≠ w.heap.size := by omega
  clear hW
  have HC := rknown58_any [77, 83, 71] W (by simp)
  rw [decide_eq_true hmem] at HC
  have HC := Lib.hid HC
  clear hmem hE hsm hcap
  go_upto_region 3 with (go_at_call 25; refine callRB HC.out ?_; intro w1 B1; have q1 := (X0.step B1).cell)
  have X1 := X0.step B1
  have V1 := V0.step B1
  have R1 := R0.step B1
  have B2 := below_step B0 B1
  clear X0 V0 R0 B0 B1 HC
  have x1 := X1.cell
  have x2 := X1.frozen
  have x3 := X1.lt
  have x4 := X1.has_term
  have x5 := X1.of_term
  have r2 := R1.plain
  have r3 := R1.of
  have HS : Hid (functionS t v kMSG = ({ t with page := 4, first := 0 }, [], 0)) := Lib.hid rfl
  generalize functionS t v kMSG = out at *
  go_upto_region 42 with (fail)
  have X2 : Blk _ w.heap.size ({ t with page := 4, first := 0 } : Term).arr := ((X1.setCell 0 (.int .i64 4)).setCell 1 (.int .i64 0))
  have R2 := ((R1.setFar hne 0 (.int .i64 4)).setFar hne 1 (.int .i64 0))
  have B3 := (below_setCell (below_setCell B2 hxl 0 (.int .i64 4)) hxl 1 (.int .i64 0))
  clear x1 x2 x3 x4 x5 r2 r3
  generalize (World.setCell _ _ _) = W3 at X2 R2 B3 ⊢
  have x1 := X2.cell
  have x2 := X2.frozen
  have x3 := X2.lt
  have x4 := X2.has_term
  have x5 := X2.of_term
  have r2 := R2.plain
  have r3 := R2.of
  go_wp2
  exact bodyPost_ret (results_agg3 Tryz.results12 _ _ (w.heap.size + 2) ({ t with page := 4, first := 0 } : Term).arr 3 _ rfl rfl (R2.set _).cell Tryz.underlying23 rfl info_term) rfl (RetR.mk (t := { t with page := 4, first := 0 }) (c := []) (e := 0) HS.out (below_setRow' B3 hle _))
set_option maxHeartbeats 4000000 in
set_option maxRecDepth 100000 in
theorem rp_EXEC (t : Term) (v : Vw) (d : VAd) (arr : Array Value) (hv : v.At d arr) (w : World) (hok : v.ok w d) (h1 : 1 ≤ t.page) (h2 : t.page ≤ 4) (h3 : 0 ≤ t.first) (h4 : t.first ≤ 1000000) (h5 : t.pad.length ≤ 24) :
    Calls Tryz.prog 12 #[.agg t.arr, .agg arr, .string ⟨#[69, 88, 69, 67]⟩] w (RetR w (functionS t v kEXEC)) := by
  have hmem : [69, 88, 69, 67] ∈ keysL := by decide +kernel
  obtain ⟨hsm, hcap, hE⟩ := hok.shown
  have hn := hsm.len
  go_enter Tryz.func12, Tryz.ntmps12
  go_upto_region 1 with (fail)
  generalize hW : ((w.alloc _).alloc _).alloc _ = W
  have X0 : Blk W w.heap.size t.arr := by rw [← hW]; exact ((Blk.new w t.arr _).alloc _).alloc _
  have V0 : Blk W (w.heap.size + 1) arr := by rw [← hW, ← World.size_alloc w (.cells t.arr 23)]; exact (Blk.new _ _ _).alloc _
  have R0 : Blk W (w.heap.size + 2) zeroT.arr := by
    rw [← hW]
    have := Blk.new ((w.alloc (.cells t.arr 23)).alloc (.cells arr 44)) zeroT.arr 23
    simp only [World.size_alloc] at this
    exact this
  have B0 : Below w.heap.size w W := by rw [← hW]; go_grown
  have hle : w.heap.size ≤ w.heap.size + 2 := Nat.le_add_right _ _
  have hxl : w.heap.size ≤ w.heap.size := Nat.le_refl _
  have hne : w.heap.size + 2 ≠ w.heap.size := by omega
  clear hW
  have HC := rknown58_any [69, 88, 69, 67] W (by simp)
  rw [decide_eq_true hmem] at HC
  have HC := Lib.hid HC
  clear hmem hE hsm hcap
  go_upto_region 3 with (go_at_call 25; refine callRB HC.out ?_; intro w1 B1; have q1 := (X0.step B1).cell)
  have X1 := X0.step B1
  have V1 := V0.step B1
  have R1 := R0.step B1
  have B2 := below_step B0 B1
  clear X0 V0 R0 B0 B1 HC
  have x1 := X1.cell
  have x2 := X1.frozen
  have x3 := X1.lt
  have x4 := X1.has_term
  have x5 := X1.of_term
  have r2 := R1.plain
  have r3 := R1.of
  have HS : Hid (functionS t v kEXEC = if v.hasTemp then (t, [69, 88, 69, 67], 0) else (t, [], 8)) := Lib.hid rfl
  generalize functionS t v kEXEC = out at *
  have v1 := V1.cell
  have e8 := hv.hasTemp
  cases hT : v.hasTemp
  · rw [hT] at e8 HS
    go_wp2
    exact bodyPost_ret (results_agg3 Tryz.results12 _ _ (w.heap.size + 2) (t : Term).arr 3 _ rfl rfl (R1.set _).cell Tryz.underlying23 rfl info_term) rfl (RetR.mk (t := t) (c := []) (e := 8) HS.out (below_setRow' B2 hle _))
  · rw [hT] at e8 HS
    go_wp2
    exact bodyPost_ret (results_agg3 Tryz.results12 _ _ (w.heap.size + 2) (t : Term).arr 3 _ rfl rfl (R1.set _).cell Tryz.underlying23 rfl info_term) rfl (RetR.mk (t := t) (c := [69, 88, 69, 67]) (e := 0) HS.out (below_setRow' B2 hle _))
set_option maxHeartbeats 4000000 in
set_option maxRecDepth 100000 in
theorem rp_ERASE (t : Term) (v : Vw) (d : VAd) (arr : Array Value) (hv : v.At d arr) (w : World) (hok : v.ok w d) (h1 : 1 ≤ t.page) (h2 : t.page ≤ 4) (h3 : 0 ≤ t.first) (h4 : t.first ≤ 1000000) (h5 : t.pad.length ≤ 24) :
    Calls Tryz.prog 12 #[.agg t.arr, .agg arr, .string ⟨#[69, 82, 65, 83, 69]⟩] w (RetR w (functionS t v kERASE)) := by
  have hmem : [69, 82, 65, 83, 69] ∈ keysL := by decide +kernel
  obtain ⟨hsm, hcap, hE⟩ := hok.shown
  have hn := hsm.len
  go_enter Tryz.func12, Tryz.ntmps12
  go_upto_region 1 with (fail)
  generalize hW : ((w.alloc _).alloc _).alloc _ = W
  have X0 : Blk W w.heap.size t.arr := by rw [← hW]; exact ((Blk.new w t.arr _).alloc _).alloc _
  have V0 : Blk W (w.heap.size + 1) arr := by rw [← hW, ← World.size_alloc w (.cells t.arr 23)]; exact (Blk.new _ _ _).alloc _
  have R0 : Blk W (w.heap.size + 2) zeroT.arr := by
    rw [← hW]
    have := Blk.new ((w.alloc (.cells t.arr 23)).alloc (.cells arr 44)) zeroT.arr 23
    simp only [World.size_alloc] at this
    exact this
  have B0 : Below w.heap.size w W := by rw [← hW]; go_grown
  have hle : w.heap.size ≤ w.heap.size + 2 := Nat.le_add_right _ _
  have hxl : w.heap.size ≤ w.heap.size := Nat.le_refl _
  have hne : w.heap.size + 2 ≠ w.heap.size := by omega
  clear hW
  have HC := rknown58_any [69, 82, 65, 83, 69] W (by simp)
  rw [decide_eq_true hmem] at HC
  have HC := Lib.hid HC
  clear hmem hE hsm hcap
  go_upto_region 3 with (go_at_call 25; refine callRB HC.out ?_; intro w1 B1; have q1 := (X0.step B1).cell)
  have X1 := X0.step B1
  have V1 := V0.step B1
  have R1 := R0.step B1
  have B2 := below_step B0 B1
  clear X0 V0 R0 B0 B1 HC
  have x1 := X1.cell
  have x2 := X1.frozen
  have x3 := X1.lt
  have x4 := X1.has_term
  have x5 := X1.of_term
  have r2 := R1.plain
  have r3 := R1.of
  have HS : Hid (functionS t v kERASE = if v.hasTemp then (t, [69, 82, 65, 83, 69], 0) else (t, [], 8)) := Lib.hid rfl
  generalize functionS t v kERASE = out at *
  have v1 := V1.cell
  have e8 := hv.hasTemp
  cases hT : v.hasTemp
  · rw [hT] at e8 HS
    go_wp2
    exact bodyPost_ret (results_agg3 Tryz.results12 _ _ (w.heap.size + 2) (t : Term).arr 3 _ rfl rfl (R1.set _).cell Tryz.underlying23 rfl info_term) rfl (RetR.mk (t := t) (c := []) (e := 8) HS.out (below_setRow' B2 hle _))
  · rw [hT] at e8 HS
    go_wp2
    exact bodyPost_ret (results_agg3 Tryz.results12 _ _ (w.heap.size + 2) (t : Term).arr 3 _ rfl rfl (R1.set _).cell Tryz.underlying23 rfl info_term) rfl (RetR.mk (t := t) (c := [69, 82, 65, 83, 69]) (e := 0) HS.out (below_setRow' B2 hle _))
set_option maxHeartbeats 4000000 in
set_option maxRecDepth 100000 in
theorem rp_UNDO (t : Term) (v : Vw) (d : VAd) (arr : Array Value) (hv : v.At d arr) (w : World) (hok : v.ok w d) (h1 : 1 ≤ t.page) (h2 : t.page ≤ 4) (h3 : 0 ≤ t.first) (h4 : t.first ≤ 1000000) (h5 : t.pad.length ≤ 24) :
    Calls Tryz.prog 12 #[.agg t.arr, .agg arr, .string ⟨#[85, 78, 68, 79]⟩] w (RetR w (functionS t v kUNDO)) := by
  have hmem : [85, 78, 68, 79] ∈ keysL := by decide +kernel
  obtain ⟨hsm, hcap, hE⟩ := hok.shown
  have hn := hsm.len
  go_enter Tryz.func12, Tryz.ntmps12
  go_upto_region 1 with (fail)
  generalize hW : ((w.alloc _).alloc _).alloc _ = W
  have X0 : Blk W w.heap.size t.arr := by rw [← hW]; exact ((Blk.new w t.arr _).alloc _).alloc _
  have V0 : Blk W (w.heap.size + 1) arr := by rw [← hW, ← World.size_alloc w (.cells t.arr 23)]; exact (Blk.new _ _ _).alloc _
  have R0 : Blk W (w.heap.size + 2) zeroT.arr := by
    rw [← hW]
    have := Blk.new ((w.alloc (.cells t.arr 23)).alloc (.cells arr 44)) zeroT.arr 23
    simp only [World.size_alloc] at this
    exact this
  have B0 : Below w.heap.size w W := by rw [← hW]; go_grown
  have hle : w.heap.size ≤ w.heap.size + 2 := Nat.le_add_right _ _
  have hxl : w.heap.size ≤ w.heap.size := Nat.le_refl _
  have hne : w.heap.size + 2 ≠ w.heap.size := by omega
  clear hW
  have HC := rknown58_any [85, 78, 68, 79] W (by simp)
  rw [decide_eq_true hmem] at HC
  have HC := Lib.hid HC
  clear hmem hE hsm hcap
  go_upto_region 3 with (go_at_call 25; refine callRB HC.out ?_; intro w1 B1; have q1 := (X0.step B1).cell)
  have X1 := X0.step B1
  have V1 := V0.step B1
  have R1 := R0.step B1
  have B2 := below_step B0 B1
  clear X0 V0 R0 B0 B1 HC
  have x1 := X1.cell
  have x2 := X1.frozen
  have x3 := X1.lt
  have x4 := X1.has_term
  have x5 := X1.of_term
  have r2 := R1.plain
  have r3 := R1.of
  have HS : Hid (functionS t v kUNDO = (t, [85, 78, 68, 79], 0)) := Lib.hid rfl
  generalize functionS t v kUNDO = out at *
  go_wp2
  exact bodyPost_ret (results_agg3 Tryz.results12 _ _ (w.heap.size + 2) (t : Term).arr 3 _ rfl rfl (R1.set _).cell Tryz.underlying23 rfl info_term) rfl (RetR.mk (t := t) (c := [85, 78, 68, 79]) (e := 0) HS.out (below_setRow' B2 hle _))
end Go.Proofs.YtijfmfdnagjlpaaGreatDoor
