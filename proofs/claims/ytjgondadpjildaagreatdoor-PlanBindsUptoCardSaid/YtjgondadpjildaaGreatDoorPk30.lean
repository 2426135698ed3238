/- The sphere: validity, the vector of a position, the frame at a position; the program's; walks. The plane: validity of points and origins; walks. The sphere: the scalar product, the frame at a position; the program's; walks. -/
import Derived.Test.YtjgondadpjildaaGreatDoorPk27
import Derived.Test.YtjgondadpjildaaGreatDoorPk15
import Derived.Test.YtjgondadpjildaaGreatDoorPk25
import Derived.Test.YtjgondadpjildaaGreatDoorPk29
import Derived.Test.YtjgondadpjildaaGreatDoorPk18
import Derived.Laws.Tables
namespace Go.Proofs.YtjgondadpjildaaGreatDoor
open Go.RowKit Go.Sort
set_option linter.unusedVariables false
set_option linter.unusedSimpArgs false
set_option maxRecDepth 100000
def V3.vec (v : V3) : Vec := ⟨v.1, v.2.1, v.2.2⟩
def ofV (lat lon : Int) : Vec := V3.vec (ofS lat lon)
theorem svalid_any (lat lon : Int) (w : World) : Calls Tryz.prog 70 #[.agg (Pos.arr ⟨lat, lon⟩)] w (Ret w (.bool (posB lat lon))) := by
  go_enter Tryz.func70, Tryz.ntmps70
  go_wp2
  all_goals (go_ret; exact Ret.bool (by grind [posB]) (by go_grown))
theorem rsvalid_any (lat lon : Int) (w : World) : Calls Tryz.prog 108 #[.agg (Pos.arr ⟨lat, lon⟩)] w (Ret w (.bool (posB lat lon))) := by
  go_enter Tryz.func108, Tryz.ntmps108
  go_wp2
  all_goals (go_ret; exact Ret.bool (by grind [posB]) (by go_grown))
def bvec (parts : Array (Nat × Value)) : Sem Value := Instr.build 102 parts
theorem bvec_fold (parts : Array (Nat × Value)) : Instr.build 102 parts = bvec parts := rfl
theorem run_bvec0 (w : World) : (bvec #[]).run Tryz.prog w = .ok (.agg (Vec.arr ⟨0, 0, 0⟩)) w := run_build w _ _ _ (by kernel_rfl)
theorem run_bvec3 (w : World) (a b c : Int) : (bvec #[(0, .int .i64 a), (1, .int .i64 b), (2, .int .i64 c)]).run Tryz.prog w = .ok (.agg (Vec.arr ⟨a, b, c⟩)) w := run_build w _ _ _ (by kernel_rfl)
attribute [local go_sem ↓] bvec_fold
attribute [local go_sem] run_bvec0 run_bvec3
theorem vec0_arr : Vec.arr ⟨0, 0, 0⟩ = #[.int .i64 0, .int .i64 0, .int .i64 0] := rfl
theorem w64_in {x : Int} (h0 : -9223372036854775808 ≤ x) (h1 : x ≤ 9223372036854775807) : IntKind.i64.wrap x = x := IntWalk.i64_in _ ⟨h0, h1⟩
set_option maxHeartbeats 2000000 in
theorem of_any (lat lon : Int) (h0 : i64 lat) (h1 : i64 lon) (w : World) : Calls Tryz.prog 166 #[.agg (Pos.arr ⟨lat, lon⟩)] w (Ret w (.agg (ofV lat lon).arr)) := by
  have HV := Lib.hid (show ofV lat lon = ⟨roundS (cosS lat * cosS lon), roundS (cosS lat * sinS lon), sinS lat⟩ from rfl)
  have p1 := prod_in (cosS_in lat) (cosS_in lon)
  have p2 := prod_in (cosS_in lat) (sinS_in lon)
  have kc := Lib.hid (tcos_any lat h0.1 h0.2)
  have kcl := Lib.hid (tcos_any lon h1.1 h1.2)
  have ks := Lib.hid (tsin_any lat h0.1 h0.2)
  have ksl := Lib.hid (tsin_any lon h1.1 h1.2)
  have kr1 := Lib.hid (sround_any (x := cosS lat * cosS lon) (by omega) (by omega))
  have kr2 := Lib.hid (sround_any (x := cosS lat * sinS lon) (by omega) (by omega))
  have w1 := w64_in (x := cosS lat * cosS lon) (by omega) (by omega)
  have w2 := w64_in (x := cosS lat * sinS lon) (by omega) (by omega)
  generalize roundS (cosS lat * cosS lon) = ra at *
  generalize roundS (cosS lat * sinS lon) = rb at *
  generalize cosS lat = c at *
  generalize cosS lon = cl at *
  generalize sinS lat = s at *
  generalize sinS lon = sl at *
  generalize ofV lat lon = out at HV ⊢
  clear p1 p2
  go_enter Tryz.func166, Tryz.ntmps166
  go_upto_region 1 with (fail)
  generalize hW : (w.alloc _).alloc _ = W
  have X0 : Blk W w.heap.size (Pos.arr ⟨lat, lon⟩) := by rw [← hW]; exact (Blk.new w _ _).alloc _
  have R0 : Blk W (w.heap.size + 1) (Vec.arr ⟨0, 0, 0⟩) := by rw [← hW, ← World.size_alloc w (.cells (Pos.arr ⟨lat, lon⟩) 23)]; exact Blk.new _ _ _
  have B0 : Below w.heap.size w W := by rw [← hW]; go_grown
  clear hW
  have c1 := X0.cell
  go_upto_region 2 with (go_at_call 217; (with_reducible refine callP (kc.out _) ?_))
  have k0 := cell_regrown (show W.cell? ⟨w.heap.size, 0, none⟩ = some (.int .i64 lat) from X0.cell 0)
  have k1 := cell_regrown (show W.cell? ⟨w.heap.size, 1, none⟩ = some (.int .i64 lon) from X0.cell 1)
  have q1 : ∀ d os, Calls Tryz.prog 217 #[.int .i64 lon] (grow (redrawn W d) os) fun e w'' => e = .returned (.int .i64 cl) ∧ ∃ p : Regrown, w'' = grow (redrawn W p.d) p.os := fun d os => Calls.regrown_ret ((kcl.out _).mono fun _ _ h => h.ret)
  have q2 : ∀ d os, Calls Tryz.prog 216 #[.int .i64 lon] (grow (redrawn W d) os) fun e w'' => e = .returned (.int .i64 sl) ∧ ∃ p : Regrown, w'' = grow (redrawn W p.d) p.os := fun d os => Calls.regrown_ret ((ksl.out _).mono fun _ _ h => h.ret)
  have q3 : ∀ d os, Calls Tryz.prog 216 #[.int .i64 lat] (grow (redrawn W d) os) fun e w'' => e = .returned (.int .i64 s) ∧ ∃ p : Regrown, w'' = grow (redrawn W p.d) p.os := fun d os => Calls.regrown_ret ((ks.out _).mono fun _ _ h => h.ret)
  have q4 : ∀ d os, Calls Tryz.prog 218 #[.int .i64 (c * cl)] (grow (redrawn W d) os) fun e w'' => e = .returned (.int .i64 ra) ∧ ∃ p : Regrown, w'' = grow (redrawn W p.d) p.os := fun d os => Calls.regrown_ret ((kr1.out _).mono fun _ _ h => h.ret)
  have q5 : ∀ d os, Calls Tryz.prog 218 #[.int .i64 (c * sl)] (grow (redrawn W d) os) fun e w'' => e = .returned (.int .i64 rb) ∧ ∃ p : Regrown, w'' = grow (redrawn W p.d) p.os := fun d os => Calls.regrown_ret ((kr2.out _).mono fun _ _ h => h.ret)
  refine wp_region_tail_below 16 (by kernel_rfl) (by kernel_rfl) ?_
  simp only [List.take_succ_cons, List.take_zero, List.drop_succ_cons, List.drop_zero]
  repeat (quiet_step (with_reducible first | exact q1 _ _ | exact q2 _ _ | exact q3 _ _ | exact q4 _ _ | exact q5 _ _))
  refine wpQuiet_nil ?_
  intro _ hw'
  obtain ⟨⟨dq, osq⟩, hw''⟩ := hw'
  subst hw''
  have R4 := R0.step (below_regrown W dq osq)
  have B4 := below_step B0 (below_regrown W dq osq)
  clear k0 k1 q1 q2 q3 q4 q5 X0 R0 c1
  generalize grow (redrawn W dq) osq = w4 at R4 B4 ⊢
  have d2 := R4.plain
  have d3 := R4.of
  go_wp2
  exact bodyPost_ret (results_agg1 Tryz.results166 _ _ (w.heap.size + 1) (Vec.arr ⟨ra, rb, s⟩) 3 _ rfl rfl (R4.set _).cell Tryz.underlying102 rfl info_vec) rfl ⟨by rw [HV.out], below_setRow' B4 (by omega) _⟩
end Go.Proofs.YtjgondadpjildaaGreatDoor
namespace Go.Proofs.YtjgondadpjildaaGreatDoor
open Go.RowKit Go.Sort
set_option linter.unusedVariables false
set_option linter.unusedSimpArgs false
set_option maxRecDepth 100000
theorem ptvalid_any (x y : Int) (w : World) : Calls Tryz.prog 73 #[.agg (Pt.arr ⟨x, y⟩)] w (Ret w (.bool (pointOkB x y))) := by
  go_enter Tryz.func73, Tryz.ntmps73
  go_wp2
  all_goals (go_ret; exact Ret.bool (by grind [pointOkB]) (by go_grown))
theorem rptvalid_any (x y : Int) (w : World) : Calls Tryz.prog 111 #[.agg (Pt.arr ⟨x, y⟩)] w (Ret w (.bool (pointOkB x y))) := by
  go_enter Tryz.func111, Tryz.ntmps111
  go_wp2
  all_goals (go_ret; exact Ret.bool (by grind [pointOkB]) (by go_grown))
theorem origin_any (lat lon : Int) (w : World) : Calls Tryz.prog 69 #[.agg (Pos.arr ⟨lat, lon⟩)] w (Ret w (.bool (originB lat lon))) := by
  have kv := Lib.hid (svalid_any lat lon)
  have HO := Lib.hid (show originB lat lon = (posB lat lon && (decide (-25200000 ≤ lat) && decide (lat ≤ 25200000))) from rfl)
  generalize originB lat lon = out at *
  generalize posB lat lon = b at *
  go_enter Tryz.func69, Tryz.ntmps69
  go_upto_region 1 with (fail)
  have X0 : Blk (w.alloc (.cells (Pos.arr ⟨lat, lon⟩) 23)) w.heap.size (Pos.arr ⟨lat, lon⟩) := Blk.new w _ _
  have B0 := (Below.refl w.heap.size w).alloc (Nat.le_refl _) (.cells (Pos.arr ⟨lat, lon⟩) 23)
  generalize w.alloc _ = W at X0 B0 ⊢
  obtain ⟨g0, hg0⟩ : ∃ g, g = w.heap.size := ⟨_, rfl⟩
  rw [← hg0] at X0 ⊢
  clear hg0
  have i1 : Has_pos W g0 0 := ⟨_, X0.is_pos⟩
  have i2 : of_pos W g0 0 = ⟨lat, lon⟩ := of_pos_eq X0.is_pos
  have k0 : W.cell? ⟨g0, 0, none⟩ = some (.int .i64 lat) := X0.cell 0
  have k1 : g0 < W.heap.size := X0.lt
  go_wp2_with (go_at_call 70; (with_reducible refine callR (kv.out _) ?_); intro w1 b1 _ _ _)
  all_goals first | (go_ret; exact Ret.bool (by rw [HO.out]; simp [*] <;> omega) (below_step B0 b1))
theorem rorigin_any (lat lon : Int) (w : World) : Calls Tryz.prog 107 #[.agg (Pos.arr ⟨lat, lon⟩)] w (Ret w (.bool (originB lat lon))) := by
  have kv := Lib.hid (rsvalid_any lat lon)
  have HO := Lib.hid (show originB lat lon = (posB lat lon && (decide (-25200000 ≤ lat) && decide (lat ≤ 25200000))) from rfl)
  generalize originB lat lon = out at *
  generalize posB lat lon = b at *
  go_enter Tryz.func107, Tryz.ntmps107
  go_upto_region 1 with (fail)
  have X0 : Blk (w.alloc (.cells (Pos.arr ⟨lat, lon⟩) 23)) w.heap.size (Pos.arr ⟨lat, lon⟩) := Blk.new w _ _
  have B0 := (Below.refl w.heap.size w).alloc (Nat.le_refl _) (.cells (Pos.arr ⟨lat, lon⟩) 23)
  generalize w.alloc _ = W at X0 B0 ⊢
  obtain ⟨g0, hg0⟩ : ∃ g, g = w.heap.size := ⟨_, rfl⟩
  rw [← hg0] at X0 ⊢
  clear hg0
  have i1 : Has_pos W g0 0 := ⟨_, X0.is_pos⟩
  have i2 : of_pos W g0 0 = ⟨lat, lon⟩ := of_pos_eq X0.is_pos
  have k0 : W.cell? ⟨g0, 0, none⟩ = some (.int .i64 lat) := X0.cell 0
  have k1 : g0 < W.heap.size := X0.lt
  go_wp2_with (go_at_call 108; (with_reducible refine callR (kv.out _) ?_); intro w1 b1 _ _ _)
  all_goals first | (go_ret; exact Ret.bool (by rw [HO.out]; simp [*] <;> omega) (below_step B0 b1))
end Go.Proofs.YtjgondadpjildaaGreatDoor
namespace Go.Proofs.YtjgondadpjildaaGreatDoor
open Go.RowKit Go.Sort
set_option linter.unusedVariables false
set_option linter.unusedSimpArgs false
set_option maxRecDepth 100000
def Q60 (x : Int) : Prop := -1152921504606846976 ≤ x ∧ x ≤ 1152921504606846976
theorem sdot_any (u v : Vec) (h1 : Q60 (u.a * v.a)) (h2 : Q60 (u.b * v.b)) (h3 : Q60 (u.c * v.c)) (w : World) : Calls Tryz.prog 167 #[.agg u.arr, .agg v.arr] w (Ret w (.int .i64 (roundS (u.a * v.a + u.b * v.b + u.c * v.c)))) := by
  unfold Q60 at h1 h2 h3
  have kr := Lib.hid (sround_any (x := u.a * v.a + u.b * v.b + u.c * v.c) (by omega) (by omega))
  generalize roundS (u.a * v.a + u.b * v.b + u.c * v.c) = out at kr ⊢
  go_enter Tryz.func167, Tryz.ntmps167
  go_upto_region 1 with (fail)
  generalize hW : (w.alloc _).alloc _ = W
  have X0 : Blk W w.heap.size u.arr := by rw [← hW]; exact (Blk.new w _ _).alloc _
  have Y0 : Blk W (w.heap.size + 1) v.arr := by rw [← hW, ← World.size_alloc w (.cells u.arr 102)]; exact Blk.new _ _ _
  have B0 : Below w.heap.size w W := by rw [← hW]; go_grown
  clear hW
  have c1 := X0.cell
  have c2 := Y0.cell
  go_wp2_with (go_at_call 218; (with_reducible refine callP (kr.out _) ?_))
  go_ret
  exact Ret.int rfl B0
def atV (lat lon : Int) : Fr := ⟨⟨-sinS lon, cosS lon, 0⟩, ⟨-roundS (sinS lat * cosS lon), -roundS (sinS lat * sinS lon), cosS lat⟩, ofV lat lon⟩
def bfrm (parts : Array (Nat × Value)) : Sem Value := Instr.build 175 parts
theorem bfrm_fold (parts : Array (Nat × Value)) : Instr.build 175 parts = bfrm parts := rfl
theorem run_bfrm3 (w : World) (e n u : Vec) : (bfrm #[(0, .agg e.arr), (1, .agg n.arr), (2, .agg u.arr)]).run Tryz.prog w = .ok (.agg (Fr.arr ⟨e, n, u⟩)) w := run_build w _ _ _ (by kernel_rfl)
attribute [local go_sem ↓] bvec_fold bfrm_fold
attribute [local go_sem] run_bvec0 run_bvec3 run_bfrm3
abbrev fr0 : Fr := ⟨⟨0, 0, 0⟩, ⟨0, 0, 0⟩, ⟨0, 0, 0⟩⟩
theorem q_ret {P : Program} {f : FuncId} {args : Array Value} {v : Value} {W : World} (h : ∀ w, Calls P f args w (RetP w v)) : ∀ d os, Calls P f args (grow (redrawn W d) os) fun e w'' => e = .returned v ∧ ∃ p : Regrown, w'' = grow (redrawn W p.d) p.os :=
  fun d os => Calls.regrown_ret ((h _).mono fun _ _ h => h.ret)
set_option maxHeartbeats 4000000 in
theorem at_any (lat lon : Int) (h0 : i64 lat) (h1 : i64 lon) (w : World) : Calls Tryz.prog 165 #[.agg (Pos.arr ⟨lat, lon⟩)] w (Ret w (.agg (atV lat lon).arr)) := by
  have HV := Lib.hid (show atV lat lon = ⟨⟨-sinS lon, cosS lon, 0⟩, ⟨-roundS (sinS lat * cosS lon), -roundS (sinS lat * sinS lon), cosS lat⟩, ofV lat lon⟩ from rfl)
  have p1 := prod_in (sinS_in lat) (cosS_in lon)
  have p2 := prod_in (sinS_in lat) (sinS_in lon)
  have r1 := roundS_in p1
  have r2 := roundS_in p2
  have b1 := sinS_in lon
  have b2 := cosS_in lon
  have kc := Lib.hid (tcos_any lat h0.1 h0.2)
  have kcl := Lib.hid (tcos_any lon h1.1 h1.2)
  have ks := Lib.hid (tsin_any lat h0.1 h0.2)
  have ksl := Lib.hid (tsin_any lon h1.1 h1.2)
  have kr1 := Lib.hid (sround_any (x := sinS lat * cosS lon) (by omega) (by omega))
  have kr2 := Lib.hid (sround_any (x := sinS lat * sinS lon) (by omega) (by omega))
  have ko := Lib.hid (of_any lat lon h0 h1)
  have w1 := w64_in (x := sinS lat * cosS lon) (by omega) (by omega)
  have w2 := w64_in (x := sinS lat * sinS lon) (by omega) (by omega)
  generalize roundS (sinS lat * cosS lon) = ra at *
  generalize roundS (sinS lat * sinS lon) = rb at *
  have w3 := w64_in (x := -ra) (by omega) (by omega)
  have w4 := w64_in (x := -rb) (by omega) (by omega)
  have w5 := w64_in (x := -sinS lon) (by omega) (by omega)
  generalize ofV lat lon = ov at *
  generalize cosS lat = c at *
  generalize cosS lon = cl at *
  generalize sinS lat = s at *
  generalize sinS lon = sl at *
  generalize atV lat lon = out at HV ⊢
  clear p1 p2 r1 r2 b1 b2
  go_enter Tryz.func165, Tryz.ntmps165
  go_upto_region 1 with (fail)
  generalize hW : (w.alloc _).alloc _ = W
  have X0 : Blk W w.heap.size (Pos.arr ⟨lat, lon⟩) := by rw [← hW]; exact (Blk.new w _ _).alloc _
  have R0 : Blk W (w.heap.size + 1) fr0.arr := by rw [← hW, ← World.size_alloc w (.cells (Pos.arr ⟨lat, lon⟩) 23)]; exact Blk.new _ _ _
  have B0 : Below w.heap.size w W := by rw [← hW]; go_grown
  clear hW
  have k0 := cell_regrown (show W.cell? ⟨w.heap.size, 0, none⟩ = some (.int .i64 lat) from X0.cell 0)
  have q1 := q_ret (W := W) ks.out
  have q2 := q_ret (W := W) kc.out
  refine wp_region_quiet_below (by kernel_rfl) (by kernel_rfl) ?_
  repeat (quiet_step (with_reducible first | exact q1 _ _ | exact q2 _ _))
  refine wpQuiet_nil ?_
  intro _ hw'
  obtain ⟨⟨dq, osq⟩, hw''⟩ := hw'
  subst hw''
  have R1 := R0.step (below_regrown W dq osq)
  have X1 := X0.step (below_regrown W dq osq)
  have B1 := below_step B0 (below_regrown W dq osq)
  clear k0 q1 q2 R0 X0 B0
  generalize grow (redrawn W dq) osq = W1 at R1 X1 B1 ⊢
  go_upto_region 2 with (fail)
  have k1 := cell_regrown (show W1.cell? ⟨w.heap.size, 1, none⟩ = some (.int .i64 lon) from X1.cell 1)
  have q1 := q_ret (W := W1) ksl.out
  have q2 := q_ret (W := W1) kcl.out
  refine wp_region_quiet_below (by kernel_rfl) (by kernel_rfl) ?_
  repeat (quiet_step (with_reducible first | exact q1 _ _ | exact q2 _ _))
  refine wpQuiet_nil ?_
  intro _ hw'
  obtain ⟨⟨dq2, osq2⟩, hw''⟩ := hw'
  subst hw''
  have R2 := R1.step (below_regrown W1 dq2 osq2)
  have X2 := X1.step (below_regrown W1 dq2 osq2)
  have B2 := below_step B1 (below_regrown W1 dq2 osq2)
  clear k1 q1 q2 R1 X1 B1
  generalize grow (redrawn W1 dq2) osq2 = W2 at R2 X2 B2 ⊢
  go_upto_region 3 with (fail)
  have xlt := X2.lt
  have j1 : ∀ d os, Has_pos (grow (redrawn W2 d) os) w.heap.size 0 := fun d os => ⟨_, X2.is_pos.below (below_regrown W2 d os) xlt⟩
  have j2 : ∀ d os, of_pos (grow (redrawn W2 d) os) w.heap.size 0 = ⟨lat, lon⟩ := fun d os => of_pos_eq (X2.is_pos.below (below_regrown W2 d os) xlt)
  have q1 := q_ret (W := W2) kr1.out
  have q2 := q_ret (W := W2) kr2.out
  have q3 : ∀ d os, Calls Tryz.prog 166 #[.agg (Pos.arr ⟨lat, lon⟩)] (grow (redrawn W2 d) os) fun e w'' => e = .returned (.agg ov.arr) ∧ ∃ p : Regrown, w'' = grow (redrawn W2 p.d) p.os := fun d os => Calls.regrown_ret (ko.out _)
  refine wp_region_tail_below 19 (by kernel_rfl) (by kernel_rfl) ?_
  simp only [List.take_succ_cons, List.take_zero, List.drop_succ_cons, List.drop_zero]
  repeat (quiet_step (with_reducible first | exact q1 _ _ | exact q2 _ _ | exact q3 _ _))
  refine wpQuiet_nil ?_
  intro _ hw'
  obtain ⟨⟨dq3, osq3⟩, hw''⟩ := hw'
  subst hw''
  have R4 := R2.step (below_regrown W2 dq3 osq3)
  have B4 := below_step B2 (below_regrown W2 dq3 osq3)
  clear j1 j2 q1 q2 q3 X2 R2
  generalize grow (redrawn W2 dq3) osq3 = W4 at R4 B4 ⊢
  have d2 := R4.plain
  have d3 := R4.of
  go_wp2
  exact bodyPost_ret (results_agg1 Tryz.results165 _ _ (w.heap.size + 1) (Fr.arr ⟨⟨-sl, cl, 0⟩, ⟨-ra, -rb, c⟩, ov⟩) 9 _ rfl rfl (R4.set _).cell Tryz.underlying175 rfl info_frm) rfl ⟨by rw [HV.out], below_setRow' B4 (by omega) _⟩
end Go.Proofs.YtjgondadpjildaaGreatDoor
