/- The sphere: the reference's vector, slopes, scalar product, Local; walks. -/
import Derived.Test.YtjgondadpjildaaGreatDoorPk32
namespace Go.Proofs.YtjgondadpjildaaGreatDoor
open Go.RowKit Go.Sort
set_option linter.unusedVariables false
set_option linter.unusedSimpArgs false
set_option maxRecDepth 100000
attribute [local go_sem ↓] bvec_fold
attribute [local go_sem] run_bvec0 run_bvec3
theorem rsdot_any (u v : Vec) (h1 : Q60 (u.a * v.a)) (h2 : Q60 (u.b * v.b)) (h3 : Q60 (u.c * v.c)) (w : World) : Calls Tryz.prog 163 #[.agg u.arr, .agg v.arr] w (Ret w (.int .i64 (roundS (u.a * v.a + u.b * v.b + u.c * v.c)))) := by
  unfold Q60 at h1 h2 h3
  have kr := Lib.hid (rsround_any (x := u.a * v.a + u.b * v.b + u.c * v.c) (by omega) (by omega))
  generalize roundS (u.a * v.a + u.b * v.b + u.c * v.c) = out at kr ⊢
  go_enter Tryz.func163, Tryz.ntmps163
  go_upto_region 1 with (fail)
  generalize hW : (w.alloc _).alloc _ = W
  have X0 : Blk W w.heap.size u.arr := by rw [← hW]; exact (Blk.new w _ _).alloc _
  have Y0 : Blk W (w.heap.size + 1) v.arr := by rw [← hW, ← World.size_alloc w (.cells u.arr 102)]; exact Blk.new _ _ _
  have B0 : Below w.heap.size w W := by rw [← hW]; go_grown
  clear hW
  have c1 := X0.cell
  have c2 := Y0.cell
  go_wp2_with (go_at_call 160; (with_reducible refine callP (kr.out _) ?_))
  go_ret
  exact Ret.int rfl B0
set_option maxHeartbeats 2000000 in
theorem rof_any (lat lon : Int) (hp : posB lat lon = true) (w : World) : Calls Tryz.prog 158 #[.agg (Pos.arr ⟨lat, lon⟩)] w (Ret w (.tuple #[.agg (ofV lat lon).arr, .int .i64 0])) := by
  have hi : i64 lat ∧ i64 lon := by simp only [posB, Bool.and_eq_true, decide_eq_true_eq] at hp; unfold i64; omega
  obtain ⟨h0, h1⟩ := hi
  have kv := Lib.hid (rsvalid_any lat lon)
  rw [hp] at kv
  clear hp
  have HV := Lib.hid (show ofV lat lon = ⟨roundS (cosS lat * cosS lon), roundS (cosS lat * sinS lon), sinS lat⟩ from rfl)
  have p1 := prod_in (cosS_in lat) (cosS_in lon)
  have p2 := prod_in (cosS_in lat) (sinS_in lon)
  have kc := Lib.hid (rcos_any lat h0.1 h0.2)
  have kcl := Lib.hid (rcos_any lon h1.1 h1.2)
  have ks := Lib.hid (rsin_any lat h0.1 h0.2)
  have ksl := Lib.hid (rsin_any lon h1.1 h1.2)
  have kr1 := Lib.hid (rsround_any (x := cosS lat * cosS lon) (by omega) (by omega))
  have kr2 := Lib.hid (rsround_any (x := cosS lat * sinS lon) (by omega) (by omega))
  have w1 := w64_in (x := cosS lat * cosS lon) (by omega) (by omega)
  have w2 := w64_in (x := cosS lat * sinS lon) (by omega) (by omega)
  generalize roundS (cosS lat * cosS lon) = ra at *
  generalize roundS (cosS lat * sinS lon) = rb at *
  generalize cosS lat = c at *
  generalize cosS lon = cl at *
  generalize sinS lat = s at *
  generalize sinS lon = sl at *
  generalize ofV lat lon = out at HV ⊢
  clear p1 p2
  go_enter Tryz.func158, Tryz.ntmps158
  go_upto_region 1 with (fail)
  generalize hW : (w.alloc _).alloc _ = W
  have X0 : Blk W w.heap.size (Pos.arr ⟨lat, lon⟩) := by rw [← hW]; exact (Blk.new w _ _).alloc _
  have R0 : Blk W (w.heap.size + 1) (Vec.arr ⟨0, 0, 0⟩) := by rw [← hW, ← World.size_alloc w (.cells (Pos.arr ⟨lat, lon⟩) 23)]; exact Blk.new _ _ _
  have B0 : Below w.heap.size w W := by rw [← hW]; go_grown
  clear hW
  obtain ⟨g0, hg0⟩ : ∃ g, g = w.heap.size := ⟨_, rfl⟩
  rw [← hg0] at X0 R0 ⊢
  have hgle : w.heap.size ≤ g0 + 1 := by omega
  clear hg0
  have i1 : Has_pos W g0 0 := ⟨_, X0.is_pos⟩
  have i2 : of_pos W g0 0 = ⟨lat, lon⟩ := of_pos_eq X0.is_pos
  go_upto_region 3 with (go_at_call 108; (with_reducible refine callR (kv.out _) ?_); intro w1 b1 _ _ _)
  have X1 := X0.step b1
  have R1 := R0.step b1
  have B1 := below_step B0 b1
  clear i1 i2 X0 R0 B0 b1
  have c1 := X1.cell
  go_upto_region 4 with (go_at_call 161; (with_reducible refine callP (kc.out _) ?_))
  have k0 := cell_regrown (show w1.cell? ⟨g0, 0, none⟩ = some (.int .i64 lat) from X1.cell 0)
  have k1 := cell_regrown (show w1.cell? ⟨g0, 1, none⟩ = some (.int .i64 lon) from X1.cell 1)
  have q1 := q_ret (W := w1) kcl.out
  have q2 := q_ret (W := w1) ksl.out
  have q3 := q_ret (W := w1) ks.out
  have q4 := q_ret (W := w1) kr1.out
  have q5 := q_ret (W := w1) kr2.out
  refine wp_region_tail_below 16 (by kernel_rfl) (by kernel_rfl) ?_
  simp only [List.take_succ_cons, List.take_zero, List.drop_succ_cons, List.drop_zero]
  repeat (quiet_step (with_reducible first | exact q1 _ _ | exact q2 _ _ | exact q3 _ _ | exact q4 _ _ | exact q5 _ _))
  refine wpQuiet_nil ?_
  intro _ hw'
  obtain ⟨⟨dq, osq⟩, hw''⟩ := hw'
  subst hw''
  have R4 := R1.step (below_regrown w1 dq osq)
  have B4 := below_step B1 (below_regrown w1 dq osq)
  clear k0 k1 q1 q2 q3 q4 q5 X1 R1 c1
  generalize grow (redrawn w1 dq) osq = w4 at R4 B4 ⊢
  have d2 := R4.plain
  have d3 := R4.of
  go_wp2
  exact bodyPost_ret (results_agg Tryz.results158 _ _ (g0 + 1) (Vec.arr ⟨ra, rb, s⟩) 3 _ rfl rfl (R4.set _).cell Tryz.underlying102 rfl info_vec) rfl ⟨by rw [HV.out]; rfl, below_setRow' B4 hgle _⟩
set_option maxHeartbeats 2000000 in
theorem rslopes_any (lat lon : Int) (h0 : i64 lat) (h1 : i64 lon) (w : World) : Calls Tryz.prog 159 #[.agg (Pos.arr ⟨lat, lon⟩)] w (Ret w (.tuple #[.int .i64 (roundS (sinS lat * cosS lon)), .int .i64 (roundS (sinS lat * sinS lon))])) := by
  have p1 := prod_in (sinS_in lat) (cosS_in lon)
  have p2 := prod_in (sinS_in lat) (sinS_in lon)
  have kcl := Lib.hid (rcos_any lon h1.1 h1.2)
  have ks := Lib.hid (rsin_any lat h0.1 h0.2)
  have ksl := Lib.hid (rsin_any lon h1.1 h1.2)
  have kr1 := Lib.hid (rsround_any (x := sinS lat * cosS lon) (by omega) (by omega))
  have kr2 := Lib.hid (rsround_any (x := sinS lat * sinS lon) (by omega) (by omega))
  have w1 := w64_in (x := sinS lat * cosS lon) (by omega) (by omega)
  have w2 := w64_in (x := sinS lat * sinS lon) (by omega) (by omega)
  generalize roundS (sinS lat * cosS lon) = ra at *
  generalize roundS (sinS lat * sinS lon) = rb at *
  generalize cosS lon = cl at *
  generalize sinS lat = s at *
  generalize sinS lon = sl at *
  clear p1 p2
  go_enter Tryz.func159, Tryz.ntmps159
  go_upto_region 1 with (fail)
  have X0 : Blk (w.alloc (.cells (Pos.arr ⟨lat, lon⟩) 23)) w.heap.size (Pos.arr ⟨lat, lon⟩) := Blk.new w _ _
  have B0 := (Below.refl w.heap.size w).alloc (Nat.le_refl _) (.cells (Pos.arr ⟨lat, lon⟩) 23)
  generalize w.alloc _ = W at X0 B0 ⊢
  generalize w.heap.size = g0 at X0 ⊢
  have c1 := X0.cell
  go_upto_region 2 with (go_at_call 162; (with_reducible refine callP (ks.out _) ?_))
  have k1 := cell_regrown (show W.cell? ⟨g0, 1, none⟩ = some (.int .i64 lon) from X0.cell 1)
  have q1 := q_ret (W := W) kcl.out
  have q2 := q_ret (W := W) ksl.out
  have q4 := q_ret (W := W) kr1.out
  have q5 := q_ret (W := W) kr2.out
  refine wp_region_quiet_below (by kernel_rfl) (by kernel_rfl) ?_
  repeat (quiet_step (with_reducible first | exact q1 _ _ | exact q2 _ _ | exact q4 _ _ | exact q5 _ _))
  refine wpQuiet_nil ?_
  intro _ hw'
  obtain ⟨⟨dq, osq⟩, hw''⟩ := hw'
  subst hw''
  have B4 := below_step B0 (below_regrown W dq osq)
  clear k1 q1 q2 q4 q5 X0 c1
  go_wp2
  go_ret2
  exact ⟨rfl, B4⟩
set_option maxHeartbeats 4000000 in
/-- The reference's Local of two valid positions. -/
theorem rLocal_any (a b c d : Int) (ha : posB a b = true) (hc : posB c d = true) (w : World) : Calls Tryz.prog 109 #[.agg (Pos.arr ⟨a, b⟩), .agg (Pos.arr ⟨c, d⟩)] w (Ret w (.tuple #[.agg (localV a b c d).arr, .int .i64 0])) := by
  have p1 : i64 a ∧ i64 b := by simp only [posB, Bool.and_eq_true, decide_eq_true_eq] at ha; unfold i64; omega
  have hv : U3 (ofS c d) := ofS_in c d
  have hp : U3 (ofS a b) := ofS_in a b
  have x1 : Q60 (cosS b * (ofV c d).b) := prod_in (cosS_in b) hv.2.1
  have x2 : Q60 (sinS b * (ofV c d).a) := prod_in (sinS_in b) hv.1
  have y1 : Q60 (cosS a * (ofV c d).c) := prod_in (cosS_in a) hv.2.2
  have y2 : Q60 (roundS (sinS a * cosS b) * (ofV c d).a) := prod_in (roundS_in (prod_in (sinS_in a) (cosS_in b))) hv.1
  have y3 : Q60 (roundS (sinS a * sinS b) * (ofV c d).b) := prod_in (roundS_in (prod_in (sinS_in a) (sinS_in b))) hv.2.1
  obtain ⟨z1, z2, z3, _⟩ := dot_in hp.1 hp.2.1 hp.2.2 hv
  have kd := Lib.hid (rsdot_any (ofV a b) (ofV c d) z1 z2 z3)
  have HL := Lib.hid (show localV a b c d = ⟨roundS (cosS b * (ofV c d).b - sinS b * (ofV c d).a), roundS (cosS a * (ofV c d).c - roundS (sinS a * cosS b) * (ofV c d).a - roundS (sinS a * sinS b) * (ofV c d).b), roundS ((ofV a b).a * (ofV c d).a + (ofV a b).b * (ofV c d).b + (ofV a b).c * (ofV c d).c)⟩ by
    unfold localV localS V3.vec
    rw [east_ref, north_ref]
    rfl)
  have ko1 := Lib.hid (rof_any a b ha)
  have ko2 := Lib.hid (rof_any c d hc)
  have kcb := Lib.hid (rcos_any b p1.2.1 p1.2.2)
  have ksb := Lib.hid (rsin_any b p1.2.1 p1.2.2)
  have kca := Lib.hid (rcos_any a p1.1.1 p1.1.2)
  have ksl := Lib.hid (rslopes_any a b p1.1 p1.2)
  unfold Q60 at x1 x2 y1 y2 y3
  have kr1 := Lib.hid (rsround_any (x := cosS b * (ofV c d).b - sinS b * (ofV c d).a) (by omega) (by omega))
  have kr2 := Lib.hid (rsround_any (x := cosS a * (ofV c d).c - roundS (sinS a * cosS b) * (ofV c d).a - roundS (sinS a * sinS b) * (ofV c d).b) (by omega) (by omega))
  have w1 := w64_in (x := cosS b * (ofV c d).b) (by omega) (by omega)
  have w2 := w64_in (x := sinS b * (ofV c d).a) (by omega) (by omega)
  have w3 := w64_in (x := cosS b * (ofV c d).b - sinS b * (ofV c d).a) (by omega) (by omega)
  have w4 := w64_in (x := cosS a * (ofV c d).c) (by omega) (by omega)
  have w5 := w64_in (x := roundS (sinS a * cosS b) * (ofV c d).a) (by omega) (by omega)
  have w6 := w64_in (x := roundS (sinS a * sinS b) * (ofV c d).b) (by omega) (by omega)
  have w7 := w64_in (x := cosS a * (ofV c d).c - roundS (sinS a * cosS b) * (ofV c d).a) (by omega) (by omega)
  have w8 := w64_in (x := cosS a * (ofV c d).c - roundS (sinS a * cosS b) * (ofV c d).a - roundS (sinS a * sinS b) * (ofV c d).b) (by omega) (by omega)
  clear x1 x2 y1 y2 y3 z1 z2 z3 hv hp ha hc p1
  generalize roundS (cosS b * (ofV c d).b - sinS b * (ofV c d).a) = e1 at *
  generalize roundS (cosS a * (ofV c d).c - roundS (sinS a * cosS b) * (ofV c d).a - roundS (sinS a * sinS b) * (ofV c d).b) = e2 at *
  generalize roundS ((ofV a b).a * (ofV c d).a + (ofV a b).b * (ofV c d).b + (ofV a b).c * (ofV c d).c) = e3 at *
  generalize roundS (sinS a * cosS b) = ra at *
  generalize roundS (sinS a * sinS b) = rb at *
  generalize localV a b c d = out at *
  generalize ofV a b = u at *
  generalize ofV c d = v at *
  generalize cosS b = cb at *
  generalize sinS b = sb at *
  generalize cosS a = ca at *
  go_enter Tryz.func109, Tryz.ntmps109
  go_upto_region 1 with (fail)
  generalize hW : ((w.alloc _).alloc _).alloc _ = W
  have X0 : Blk W w.heap.size (Pos.arr ⟨a, b⟩) := by rw [← hW]; exact ((Blk.new w _ _).alloc _).alloc _
  have Y0 : Blk W (w.heap.size + 1) (Pos.arr ⟨c, d⟩) := by rw [← hW, ← World.size_alloc w (.cells (Pos.arr ⟨a, b⟩) 23)]; exact (Blk.new _ _ _).alloc _
  have R0 : Blk W (w.heap.size + 1 + 1) (Vec.arr ⟨0, 0, 0⟩) := by rw [← hW, ← World.size_alloc w (.cells (Pos.arr ⟨a, b⟩) 23), ← World.size_alloc (w.alloc (.cells (Pos.arr ⟨a, b⟩) 23)) (.cells (Pos.arr ⟨c, d⟩) 23)]; exact Blk.new _ _ _
  have B0 : Below w.heap.size w W := by rw [← hW]; go_grown
  clear hW
  obtain ⟨g1, hg1⟩ : ∃ g, g = w.heap.size + 1 := ⟨_, rfl⟩
  obtain ⟨g2, hg2⟩ : ∃ g, g = w.heap.size + 1 + 1 := ⟨_, rfl⟩
  obtain ⟨g0, hg0⟩ : ∃ g, g = w.heap.size := ⟨_, rfl⟩
  rw [← hg2] at R0 ⊢
  rw [← hg1] at Y0 ⊢
  rw [← hg0] at X0 ⊢
  have hgle : w.heap.size ≤ g2 := by omega
  clear hg0 hg1 hg2
  have i1 : Has_pos W g0 0 := ⟨_, X0.is_pos⟩
  have i2 : of_pos W g0 0 = ⟨a, b⟩ := of_pos_eq X0.is_pos
  go_wp2_with fail
  with_reducible refine callR (ko1.out _) ?_
  intro w1 b1 _ _ _
  have U2 := Blk.new w1 u.arr 102
  have A2 := (Below.refl w1.heap.size w1).alloc (Nat.le_refl _) (.cells u.arr 102)
  go_upto_region 2 with (fail)
  have b2 := below_step b1 A2
  have X2 := X0.step b2
  have Y2 := Y0.step b2
  have R2 := R0.step b2
  have B2 := below_step B0 b2
  clear i1 i2 X0 Y0 R0 B0 b1 b2 A2
  generalize w1.alloc _ = w2 at *
  generalize w1.heap.size = ub at *
  have i3 : Has_pos w2 g1 0 := ⟨_, Y2.is_pos⟩
  have i4 : of_pos w2 g1 0 = ⟨c, d⟩ := of_pos_eq Y2.is_pos
  go_wp2_with fail
  with_reducible refine callR (ko2.out _) ?_
  intro w3 b3 _ _ _
  have V4 := Blk.new w3 v.arr 102
  have A4 := (Below.refl w3.heap.size w3).alloc (Nat.le_refl _) (.cells v.arr 102)
  go_upto_region 3 with (fail)
  have b4 := below_step b3 A4
  have X4 := X2.step b4
  have R4 := R2.step b4
  have U4 := U2.step b4
  have B4 := below_step B2 b4
  clear i3 i4 X2 Y2 R2 U2 B2 b3 b4 A4
  generalize w3.alloc _ = w4 at *
  generalize w3.heap.size = vb at *
  have i1 : Has_pos w4 g0 0 := ⟨_, X4.is_pos⟩
  have i2 : of_pos w4 g0 0 = ⟨a, b⟩ := of_pos_eq X4.is_pos
  go_upto_region 6 with (go_at_call 159; (with_reducible refine callR (ksl.out _) ?_); intro w5 b5 _ _ _)
  have X5 := X4.step b5
  have R5 := R4.step b5
  have U5 := U4.step b5
  have V5 := V4.step b5
  have B5 := below_step B4 b5
  clear i1 i2 X4 R4 U4 V4 B4 b5
  have k0 := cell_regrown (show w5.cell? ⟨g0, 0, none⟩ = some (.int .i64 a) from X5.cell 0)
  have k1 := cell_regrown (show w5.cell? ⟨g0, 1, none⟩ = some (.int .i64 b) from X5.cell 1)
  have k2 := cell_regrown (show w5.cell? ⟨vb, 0, none⟩ = some (.int .i64 v.a) from V5.cell 0)
  have k3 := cell_regrown (show w5.cell? ⟨vb, 1, none⟩ = some (.int .i64 v.b) from V5.cell 1)
  have q1 := q_ret (W := w5) kcb.out
  have q2 := q_ret (W := w5) ksb.out
  have q3 := q_ret (W := w5) kr1.out
  refine wp_region_quiet_below (by kernel_rfl) (by kernel_rfl) ?_
  repeat (quiet_step (with_reducible first | exact q1 _ _ | exact q2 _ _ | exact q3 _ _))
  refine wpQuiet_nil ?_
  intro _ hw'
  obtain ⟨⟨dq, osq⟩, hw''⟩ := hw'
  subst hw''
  have dd := below_regrown w5 dq osq
  have X6 := X5.step dd
  have R6 := R5.step dd
  have U6 := U5.step dd
  have V6 := V5.step dd
  have B6 := below_step B5 dd
  clear k0 k1 k2 k3 q1 q2 q3 X5 R5 U5 V5 B5 dd
  generalize grow (redrawn w5 dq) osq = w6 at *
  go_upto_region 7 with (fail)
  have k0 := cell_regrown (show w6.cell? ⟨g0, 0, none⟩ = some (.int .i64 a) from X6.cell 0)
  have k2 := cell_regrown (show w6.cell? ⟨vb, 0, none⟩ = some (.int .i64 v.a) from V6.cell 0)
  have k3 := cell_regrown (show w6.cell? ⟨vb, 1, none⟩ = some (.int .i64 v.b) from V6.cell 1)
  have k4 := cell_regrown (show w6.cell? ⟨vb, 2, none⟩ = some (.int .i64 v.c) from V6.cell 2)
  have q1 := q_ret (W := w6) kca.out
  have q3 := q_ret (W := w6) kr2.out
  refine wp_region_quiet_below (by kernel_rfl) (by kernel_rfl) ?_
  repeat (quiet_step (with_reducible first | exact q1 _ _ | exact q3 _ _))
  refine wpQuiet_nil ?_
  intro _ hw'
  obtain ⟨⟨dq2, osq2⟩, hw''⟩ := hw'
  subst hw''
  have dd := below_regrown w6 dq2 osq2
  have R7 := R6.step dd
  have U7 := U6.step dd
  have V7 := V6.step dd
  have B7 := below_step B6 dd
  clear k0 k2 k3 k4 q1 q3 X6 R6 U6 V6 B6 dd
  generalize grow (redrawn w6 dq2) osq2 = w7 at *
  have i1 : Has_vec w7 ub 0 := ⟨_, U7.is_vec⟩
  have i2 : of_vec w7 ub 0 = u := of_vec_eq U7.is_vec
  have i3 : Has_vec w7 vb 0 := ⟨_, V7.is_vec⟩
  have i4 : of_vec w7 vb 0 = v := of_vec_eq V7.is_vec
  go_wp2_with fail
  with_reducible refine callR (kd.out _) ?_
  intro w8 b8 _ _ _
  have R8 := R7.step b8
  have B8 := below_step B7 b8
  have d2 := R8.plain
  have d3 := R8.of
  clear i1 i2 i3 i4 U7 V7 R7 B7 b8
  go_wp2
  exact bodyPost_ret (results_agg Tryz.results109 _ _ g2 (Vec.arr ⟨e1, e2, e3⟩) 3 _ rfl rfl (R8.set _).cell Tryz.underlying102 rfl info_vec) rfl ⟨by rw [HL.out]; rfl, below_setRow' B8 hgle _⟩
end Go.Proofs.YtjgondadpjildaaGreatDoor
