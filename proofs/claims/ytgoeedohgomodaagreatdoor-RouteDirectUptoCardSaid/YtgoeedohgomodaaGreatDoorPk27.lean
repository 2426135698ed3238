/- Lemmas and walks. -/
import Derived.Test.YtgoeedohgomodaaGreatDoorPk26
import Derived.Test.YtgoeedohgomodaaGreatDoorPk23
import Derived.Test.YtgoeedohgomodaaGreatDoorPk11
import Derived.Test.YtgoeedohgomodaaGreatDoorPk16
import Derived.Laws.Tables
import Derived.Test.YtgoeedohgomodaaGreatDoorPk03
import Derived.Deep.RegionHeld3
import Derived.Test.YtgoeedohgomodaaGreatDoorPk01
import Derived.Test.YtgoeedohgomodaaGreatDoorPk12
set_option linter.unusedSimpArgs false
set_option linter.unusedVariables false
namespace Go.Proofs.YtgoeedohgomodaaGreatDoor
open Go.RowKit Go.Sort
set_option maxRecDepth 100000
def V3.vec (v : V3) : Vec := ⟨v.1, v.2.1, v.2.2⟩
def ofV (lat lon : Int) : Vec := V3.vec (ofS lat lon)
theorem svalid_any (lat lon : Int) (w : World) : Calls Tryz.prog 197 #[.agg (Pos.arr ⟨lat, lon⟩)] w (Ret w (.bool (posB lat lon))) := by
  go_enter Tryz.func197, Tryz.ntmps197
  go_wp2
  all_goals (go_ret; exact Ret.bool (by grind [posB]) (by go_grown))
def bvec (parts : Array (Nat × Value)) : Sem Value := Instr.build 234 parts
theorem bvec_fold (parts : Array (Nat × Value)) : Instr.build 234 parts = bvec parts := rfl
theorem run_bvec3 (w : World) (a b c : Int) : (bvec #[(0, .int .i64 a), (1, .int .i64 b), (2, .int .i64 c)]).run Tryz.prog w = .ok (.agg (Vec.arr ⟨a, b, c⟩)) w := run_build w _ _ _ (by kernel_rfl)
attribute [local go_sem ↓] bvec_fold
attribute [local go_sem] run_bvec3
theorem w64_in {x : Int} (h0 : -9223372036854775808 ≤ x) (h1 : x ≤ 9223372036854775807) : IntKind.i64.wrap x = x := IntWalk.i64_in _ ⟨h0, h1⟩
set_option maxHeartbeats 2000000 in
theorem of_any (lat lon : Int) (h0 : i64 lat) (h1 : i64 lon) (w : World) : Calls Tryz.prog 224 #[.agg (Pos.arr ⟨lat, lon⟩)] w (Ret w (.agg (ofV lat lon).arr)) := by
  have HV := Lib.hid (show ofV lat lon = ⟨roundS (cosS lat * cosS lon), roundS (cosS lat * sinS lon), sinS lat⟩ from rfl)
  have p1 := prod_in (cosS_in lat) (cosS_in lon)
  have p2 := prod_in (cosS_in lat) (sinS_in lon)
  have kc := Lib.hid (tcos_any lat h0.1 h0.2)
  have kcl := Lib.hid (tcos_any lon h1.1 h1.2)
  have ks := Lib.hid (tsin_any lat h0.1 h0.2)
  have ksl := Lib.hid (tsin_any lon h1.1 h1.2)
  have kr1 := Lib.hid (sround_any (x := cosS lat * cosS lon) (by omega) (by omega))
  have kr2 := Lib.hid (sround_any (x := cosS lat * sinS lon) (by omega) (by omega))
  have w1 := w64_in (x := cosS lat * cosS lon) (by omega) (by omega)
  have w2 := w64_in (x := cosS lat * sinS lon) (by omega) (by omega)
  generalize roundS (cosS lat * cosS lon) = ra at *
  generalize roundS (cosS lat * sinS lon) = rb at *
  generalize cosS lat = c at *
  generalize cosS lon = cl at *
  generalize sinS lat = s at *
  generalize sinS lon = sl at *
  generalize ofV lat lon = out at HV ⊢
  clear p1 p2
  go_enter Tryz.func224, Tryz.ntmps224
  go_upto_region 1 with (fail)
  generalize hW : (w.alloc _).alloc _ = W
  have X0 : Blk W w.heap.size (Pos.arr ⟨lat, lon⟩) := by rw [← hW]; exact (Blk.new w _ _).alloc _
  have R0 : Blk W (w.heap.size + 1) (Vec.arr ⟨0, 0, 0⟩) := by rw [← hW, ← World.size_alloc w (.cells (Pos.arr ⟨lat, lon⟩) 30)]; exact Blk.new _ _ _
  have B0 : Below w.heap.size w W := by rw [← hW]; go_grown
  clear hW
  have c1 := X0.cell
  go_upto_region 2 with (go_at_call 237; (with_reducible refine callP (kc.out _) ?_))
  have k0 := cell_regrown (show W.cell? ⟨w.heap.size, 0, none⟩ = some (.int .i64 lat) from X0.cell 0)
  have k1 := cell_regrown (show W.cell? ⟨w.heap.size, 1, none⟩ = some (.int .i64 lon) from X0.cell 1)
  have q1 : ∀ d os, Calls Tryz.prog 237 #[.int .i64 lon] (grow (redrawn W d) os) fun e w'' => e = .returned (.int .i64 cl) ∧ ∃ p : Regrown, w'' = grow (redrawn W p.d) p.os := fun d os => Calls.regrown_ret ((kcl.out _).mono fun _ _ h => h.ret)
  have q2 : ∀ d os, Calls Tryz.prog 236 #[.int .i64 lon] (grow (redrawn W d) os) fun e w'' => e = .returned (.int .i64 sl) ∧ ∃ p : Regrown, w'' = grow (redrawn W p.d) p.os := fun d os => Calls.regrown_ret ((ksl.out _).mono fun _ _ h => h.ret)
  have q3 : ∀ d os, Calls Tryz.prog 236 #[.int .i64 lat] (grow (redrawn W d) os) fun e w'' => e = .returned (.int .i64 s) ∧ ∃ p : Regrown, w'' = grow (redrawn W p.d) p.os := fun d os => Calls.regrown_ret ((ks.out _).mono fun _ _ h => h.ret)
  have q4 : ∀ d os, Calls Tryz.prog 238 #[.int .i64 (c * cl)] (grow (redrawn W d) os) fun e w'' => e = .returned (.int .i64 ra) ∧ ∃ p : Regrown, w'' = grow (redrawn W p.d) p.os := fun d os => Calls.regrown_ret ((kr1.out _).mono fun _ _ h => h.ret)
  have q5 : ∀ d os, Calls Tryz.prog 238 #[.int .i64 (c * sl)] (grow (redrawn W d) os) fun e w'' => e = .returned (.int .i64 rb) ∧ ∃ p : Regrown, w'' = grow (redrawn W p.d) p.os := fun d os => Calls.regrown_ret ((kr2.out _).mono fun _ _ h => h.ret)
  refine wp_region_tail_below 16 (by kernel_rfl) (by kernel_rfl) ?_
  simp only [List.take_succ_cons, List.take_zero, List.drop_succ_cons, List.drop_zero]
  repeat (quiet_step (with_reducible first | exact q1 _ _ | exact q2 _ _ | exact q3 _ _ | exact q4 _ _ | exact q5 _ _))
  refine wpQuiet_nil ?_
  intro _ hw'
  obtain ⟨⟨dq, osq⟩, hw''⟩ := hw'
  subst hw''
  have R4 := R0.step (below_regrown W dq osq)
  have B4 := below_step B0 (below_regrown W dq osq)
  clear k0 k1 q1 q2 q3 q4 q5 X0 R0 c1
  generalize grow (redrawn W dq) osq = w4 at R4 B4 ⊢
  have d2 := R4.plain
  have d3 := R4.of
  go_wp2
  exact bodyPost_ret (results_agg1 Tryz.results224 _ _ (w.heap.size + 1) (Vec.arr ⟨ra, rb, s⟩) 3 _ rfl rfl (R4.set _).cell Tryz.underlying234 rfl info_vec) rfl ⟨by rw [HV.out], below_setRow' B4 (by omega) _⟩
end Go.Proofs.YtgoeedohgomodaaGreatDoor
namespace Go.Proofs.YtgoeedohgomodaaGreatDoor
open Go.RowKit Go.Sort
set_option maxRecDepth 100000
theorem ptvalid_any (x y : Int) (w : World) : Calls Tryz.prog 101 #[.agg (Pt.arr ⟨x, y⟩)] w (Ret w (.bool (pointOkB x y))) := by
  go_enter Tryz.func101, Tryz.ntmps101
  go_wp2
  all_goals (go_ret; exact Ret.bool (by grind [pointOkB]) (by go_grown))
theorem origin_any (lat lon : Int) (w : World) : Calls Tryz.prog 196 #[.agg (Pos.arr ⟨lat, lon⟩)] w (Ret w (.bool (originB lat lon))) := by
  have kv := Lib.hid (svalid_any lat lon)
  have HO := Lib.hid (show originB lat lon = (posB lat lon && (decide (-25200000 ≤ lat) && decide (lat ≤ 25200000))) from rfl)
  generalize originB lat lon = out at *
  generalize posB lat lon = b at *
  go_enter Tryz.func196, Tryz.ntmps196
  go_upto_region 1 with (fail)
  have X0 : Blk (w.alloc (.cells (Pos.arr ⟨lat, lon⟩) 30)) w.heap.size (Pos.arr ⟨lat, lon⟩) := Blk.new w _ _
  have B0 := (Below.refl w.heap.size w).alloc (Nat.le_refl _) (.cells (Pos.arr ⟨lat, lon⟩) 30)
  generalize w.alloc _ = W at X0 B0 ⊢
  obtain ⟨g0, hg0⟩ : ∃ g, g = w.heap.size := ⟨_, rfl⟩
  rw [← hg0] at X0 ⊢
  clear hg0
  have i1 : Has_pos W g0 0 := ⟨_, X0.is_pos⟩
  have i2 : of_pos W g0 0 = ⟨lat, lon⟩ := of_pos_eq X0.is_pos
  have k0 : W.cell? ⟨g0, 0, none⟩ = some (.int .i64 lat) := X0.cell 0
  have k1 : g0 < W.heap.size := X0.lt
  go_wp2_with (go_at_call 197; (with_reducible refine callR (kv.out _) ?_); intro w1 b1 _ _ _)
  all_goals first | (go_ret; exact Ret.bool (by rw [HO.out]; simp [*] <;> omega) (below_step B0 b1))
end Go.Proofs.YtgoeedohgomodaaGreatDoor
namespace Go.Proofs.YtgoeedohgomodaaGreatDoor
open Go.RowKit Go.Sort
set_option maxRecDepth 100000
def Q60 (x : Int) : Prop := -1152921504606846976 ≤ x ∧ x ≤ 1152921504606846976
theorem sdot_any (u v : Vec) (h1 : Q60 (u.a * v.a)) (h2 : Q60 (u.b * v.b)) (h3 : Q60 (u.c * v.c)) (w : World) : Calls Tryz.prog 225 #[.agg u.arr, .agg v.arr] w (Ret w (.int .i64 (roundS (u.a * v.a + u.b * v.b + u.c * v.c)))) := by
  unfold Q60 at h1 h2 h3
  have kr := Lib.hid (sround_any (x := u.a * v.a + u.b * v.b + u.c * v.c) (by omega) (by omega))
  generalize roundS (u.a * v.a + u.b * v.b + u.c * v.c) = out at kr ⊢
  go_enter Tryz.func225, Tryz.ntmps225
  go_upto_region 1 with (fail)
  generalize hW : (w.alloc _).alloc _ = W
  have X0 : Blk W w.heap.size u.arr := by rw [← hW]; exact (Blk.new w _ _).alloc _
  have Y0 : Blk W (w.heap.size + 1) v.arr := by rw [← hW, ← World.size_alloc w (.cells u.arr 234)]; exact Blk.new _ _ _
  have B0 : Below w.heap.size w W := by rw [← hW]; go_grown
  clear hW
  have c1 := X0.cell
  have c2 := Y0.cell
  go_wp2_with (go_at_call 238; (with_reducible refine callP (kr.out _) ?_))
  go_ret
  exact Ret.int rfl B0
def atV (lat lon : Int) : Fr := ⟨⟨-sinS lon, cosS lon, 0⟩, ⟨-roundS (sinS lat * cosS lon), -roundS (sinS lat * sinS lon), cosS lat⟩, ofV lat lon⟩
def bfrm (parts : Array (Nat × Value)) : Sem Value := Instr.build 264 parts
theorem bfrm_fold (parts : Array (Nat × Value)) : Instr.build 264 parts = bfrm parts := rfl
theorem run_bfrm3 (w : World) (e n u : Vec) : (bfrm #[(0, .agg e.arr), (1, .agg n.arr), (2, .agg u.arr)]).run Tryz.prog w = .ok (.agg (Fr.arr ⟨e, n, u⟩)) w := run_build w _ _ _ (by kernel_rfl)
attribute [local go_sem ↓] bvec_fold bfrm_fold
attribute [local go_sem] run_bvec3 run_bfrm3
abbrev fr0 : Fr := ⟨⟨0, 0, 0⟩, ⟨0, 0, 0⟩, ⟨0, 0, 0⟩⟩
theorem q_ret {P : Program} {f : FuncId} {args : Array Value} {v : Value} {W : World} (h : ∀ w, Calls P f args w (RetP w v)) : ∀ d os, Calls P f args (grow (redrawn W d) os) fun e w'' => e = .returned v ∧ ∃ p : Regrown, w'' = grow (redrawn W p.d) p.os :=
  fun d os => Calls.regrown_ret ((h _).mono fun _ _ h => h.ret)
set_option maxHeartbeats 4000000 in
theorem at_any (lat lon : Int) (h0 : i64 lat) (h1 : i64 lon) (w : World) : Calls Tryz.prog 223 #[.agg (Pos.arr ⟨lat, lon⟩)] w (Ret w (.agg (atV lat lon).arr)) := by
  have HV := Lib.hid (show atV lat lon = ⟨⟨-sinS lon, cosS lon, 0⟩, ⟨-roundS (sinS lat * cosS lon), -roundS (sinS lat * sinS lon), cosS lat⟩, ofV lat lon⟩ from rfl)
  have p1 := prod_in (sinS_in lat) (cosS_in lon)
  have p2 := prod_in (sinS_in lat) (sinS_in lon)
  have r1 := roundS_in p1
  have r2 := roundS_in p2
  have b1 := sinS_in lon
  have b2 := cosS_in lon
  have kc := Lib.hid (tcos_any lat h0.1 h0.2)
  have kcl := Lib.hid (tcos_any lon h1.1 h1.2)
  have ks := Lib.hid (tsin_any lat h0.1 h0.2)
  have ksl := Lib.hid (tsin_any lon h1.1 h1.2)
  have kr1 := Lib.hid (sround_any (x := sinS lat * cosS lon) (by omega) (by omega))
  have kr2 := Lib.hid (sround_any (x := sinS lat * sinS lon) (by omega) (by omega))
  have ko := Lib.hid (of_any lat lon h0 h1)
  have w1 := w64_in (x := sinS lat * cosS lon) (by omega) (by omega)
  have w2 := w64_in (x := sinS lat * sinS lon) (by omega) (by omega)
  generalize roundS (sinS lat * cosS lon) = ra at *
  generalize roundS (sinS lat * sinS lon) = rb at *
  have w3 := w64_in (x := -ra) (by omega) (by omega)
  have w4 := w64_in (x := -rb) (by omega) (by omega)
  have w5 := w64_in (x := -sinS lon) (by omega) (by omega)
  generalize ofV lat lon = ov at *
  generalize cosS lat = c at *
  generalize cosS lon = cl at *
  generalize sinS lat = s at *
  generalize sinS lon = sl at *
  generalize atV lat lon = out at HV ⊢
  clear p1 p2 r1 r2 b1 b2
  go_enter Tryz.func223, Tryz.ntmps223
  go_upto_region 1 with (fail)
  generalize hW : (w.alloc _).alloc _ = W
  have X0 : Blk W w.heap.size (Pos.arr ⟨lat, lon⟩) := by rw [← hW]; exact (Blk.new w _ _).alloc _
  have R0 : Blk W (w.heap.size + 1) fr0.arr := by rw [← hW, ← World.size_alloc w (.cells (Pos.arr ⟨lat, lon⟩) 30)]; exact Blk.new _ _ _
  have B0 : Below w.heap.size w W := by rw [← hW]; go_grown
  clear hW
  have k0 := cell_regrown (show W.cell? ⟨w.heap.size, 0, none⟩ = some (.int .i64 lat) from X0.cell 0)
  have q1 := q_ret (W := W) ks.out
  have q2 := q_ret (W := W) kc.out
  refine wp_region_quiet_below (by kernel_rfl) (by kernel_rfl) ?_
  repeat (quiet_step (with_reducible first | exact q1 _ _ | exact q2 _ _))
  refine wpQuiet_nil ?_
  intro _ hw'
  obtain ⟨⟨dq, osq⟩, hw''⟩ := hw'
  subst hw''
  have R1 := R0.step (below_regrown W dq osq)
  have X1 := X0.step (below_regrown W dq osq)
  have B1 := below_step B0 (below_regrown W dq osq)
  clear k0 q1 q2 R0 X0 B0
  generalize grow (redrawn W dq) osq = W1 at R1 X1 B1 ⊢
  go_upto_region 2 with (fail)
  have k1 := cell_regrown (show W1.cell? ⟨w.heap.size, 1, none⟩ = some (.int .i64 lon) from X1.cell 1)
  have q1 := q_ret (W := W1) ksl.out
  have q2 := q_ret (W := W1) kcl.out
  refine wp_region_quiet_below (by kernel_rfl) (by kernel_rfl) ?_
  repeat (quiet_step (with_reducible first | exact q1 _ _ | exact q2 _ _))
  refine wpQuiet_nil ?_
  intro _ hw'
  obtain ⟨⟨dq2, osq2⟩, hw''⟩ := hw'
  subst hw''
  have R2 := R1.step (below_regrown W1 dq2 osq2)
  have X2 := X1.step (below_regrown W1 dq2 osq2)
  have B2 := below_step B1 (below_regrown W1 dq2 osq2)
  clear k1 q1 q2 R1 X1 B1
  generalize grow (redrawn W1 dq2) osq2 = W2 at R2 X2 B2 ⊢
  go_upto_region 3 with (fail)
  have xlt := X2.lt
  have j1 : ∀ d os, Has_pos (grow (redrawn W2 d) os) w.heap.size 0 := fun d os => ⟨_, X2.is_pos.below (below_regrown W2 d os) xlt⟩
  have j2 : ∀ d os, of_pos (grow (redrawn W2 d) os) w.heap.size 0 = ⟨lat, lon⟩ := fun d os => of_pos_eq (X2.is_pos.below (below_regrown W2 d os) xlt)
  have q1 := q_ret (W := W2) kr1.out
  have q2 := q_ret (W := W2) kr2.out
  have q3 : ∀ d os, Calls Tryz.prog 224 #[.agg (Pos.arr ⟨lat, lon⟩)] (grow (redrawn W2 d) os) fun e w'' => e = .returned (.agg ov.arr) ∧ ∃ p : Regrown, w'' = grow (redrawn W2 p.d) p.os := fun d os => Calls.regrown_ret (ko.out _)
  refine wp_region_tail_below 19 (by kernel_rfl) (by kernel_rfl) ?_
  simp only [List.take_succ_cons, List.take_zero, List.drop_succ_cons, List.drop_zero]
  repeat (quiet_step (with_reducible first | exact q1 _ _ | exact q2 _ _ | exact q3 _ _))
  refine wpQuiet_nil ?_
  intro _ hw'
  obtain ⟨⟨dq3, osq3⟩, hw''⟩ := hw'
  subst hw''
  have R4 := R2.step (below_regrown W2 dq3 osq3)
  have B4 := below_step B2 (below_regrown W2 dq3 osq3)
  clear j1 j2 q1 q2 q3 X2 R2
  generalize grow (redrawn W2 dq3) osq3 = W4 at R4 B4 ⊢
  have d2 := R4.plain
  have d3 := R4.of
  go_wp2
  exact bodyPost_ret (results_agg1 Tryz.results223 _ _ (w.heap.size + 1) (Fr.arr ⟨⟨-sl, cl, 0⟩, ⟨-ra, -rb, c⟩, ov⟩) 9 _ rfl rfl (R4.set _).cell Tryz.underlying264 rfl info_frm) rfl ⟨by rw [HV.out], below_setRow' B4 (by omega) _⟩
end Go.Proofs.YtgoeedohgomodaaGreatDoor
namespace Go.Proofs.YtgoeedohgomodaaGreatDoor
open Go.RowKit
theorem Plain_newS (w : World) (cs : Array Value) (t : TypeId) : Plain (w.alloc (.cells cs t)) w.heap.size = True := eq_true (Blk.new w cs t).plain
theorem blkOf_newS (w : World) (cs : Array Value) (t : TypeId) : blkOf (w.alloc (.cells cs t)) w.heap.size = cs := (Blk.new w cs t).of
theorem Plain_newS2 (w : World) (a : Obj) (cs : Array Value) (t : TypeId) : Plain ((w.alloc a).alloc (.cells cs t)) (w.heap.size + 1) = True := eq_true (by have := (Blk.new (w.alloc a) cs t).plain; simpa using this)
theorem blkOf_newS2 (w : World) (a : Obj) (cs : Array Value) (t : TypeId) : blkOf ((w.alloc a).alloc (.cells cs t)) (w.heap.size + 1) = cs := by have := (Blk.new (w.alloc a) cs t).of; simpa using this
theorem Plain_oldS2 (w : World) (b : Obj) (cs : Array Value) (t : TypeId) : Plain ((w.alloc (.cells cs t)).alloc b) w.heap.size = True := eq_true (Plain_alloc _ _ b (by simp) (Blk.new w cs t).plain)
theorem two_filled (w : World) (a a' b b' : Array Value) (s t : TypeId) : Blk ((((w.alloc (.cells a s)).alloc (.cells b t)).setRow w.heap.size a').setRow (w.heap.size + 1) b') w.heap.size a' ∧
    Blk ((((w.alloc (.cells a s)).alloc (.cells b t)).setRow w.heap.size a').setRow (w.heap.size + 1) b') (w.heap.size + 1) b' ∧
    Below w.heap.size w ((((w.alloc (.cells a s)).alloc (.cells b t)).setRow w.heap.size a').setRow (w.heap.size + 1) b') := by
  have h2 : Blk ((w.alloc (.cells a s)).alloc (.cells b t)) (w.heap.size + 1) b := by have := Blk.new (w.alloc (.cells a s)) b t; rwa [World.size_alloc] at this
  refine ⟨(((Blk.new w a s).alloc _).set a').far (by omega) _, (h2.far (by omega) _).set b', ?_⟩
  exact below_setRow' (below_setRow' (below_step ((Below.refl _ _).alloc (Nat.le_refl _) _) ((Below.refl _ _).alloc (Nat.le_refl _) _)) (Nat.le_refl _) _) (by omega) _
end Go.Proofs.YtgoeedohgomodaaGreatDoor
namespace Go.Proofs.YtgoeedohgomodaaGreatDoor
open Go.RowKit Go.Sort
set_option maxRecDepth 100000
attribute [local go_sem ↓] bvec_fold
attribute [local go_sem] run_bvec3
theorem blk_iff {W : World} {g : Nat} {cs : Array Value} : Blk W g cs ↔ Plain W g ∧ blkOf W g = cs :=
  ⟨fun h => ⟨h.plain, h.of⟩, fun ⟨⟨cs', t, h⟩, h2⟩ => ⟨t, by have : blkOf W g = cs' := Blk.of ⟨t, h⟩; rw [← h2, this]; exact h⟩⟩
theorem blk_new2' {W Y : World} {a : Obj} {cs : Array Value} {t : TypeId} (hb : Below ((W.alloc a).alloc (.cells cs t)).heap.size ((W.alloc a).alloc (.cells cs t)) Y) : Blk Y (W.heap.size + 1) cs := by
  have := (Blk.new (W.alloc a) cs t).step hb; simpa using this
theorem Plain_drwX (w : World) (g : Nat) : Plain w.drew g = Plain w g := rfl
theorem blkOf_drwX (w : World) (g : Nat) : blkOf w.drew g = blkOf w g := rfl
theorem setRow_drwX (w : World) (g : Nat) (cs : Array Value) : w.drew.setRow g cs = (w.setRow g cs).drew := rfl
theorem Blk.drw {w : World} {g : Nat} {cs : Array Value} (h : Blk w g cs) : Blk w.drew g cs := h
attribute [local go_sem] Plain_drwX blkOf_drwX setRow_drwX
theorem blk_new2d {W Y : World} {a : Obj} {cs : Array Value} {t : TypeId} (hb : Below ((W.alloc a).alloc (.cells cs t)).drew.heap.size ((W.alloc a).alloc (.cells cs t)).drew Y) : Blk Y (W.heap.size + 1) cs := by
  have := (Blk.new (W.alloc a) cs t).drw.step hb; simpa using this
theorem splice_z9 (x : Fr) : splice #[.int .i64 0, .int .i64 0, .int .i64 0, .int .i64 0, .int .i64 0, .int .i64 0, .int .i64 0, .int .i64 0, .int .i64 0] 0 x.arr = x.arr := rfl
theorem splice_z3 (x : Vec) : splice #[.int .i64 0, .int .i64 0, .int .i64 0] 0 x.arr = x.arr := rfl
attribute [local go_sem] splice_z9 splice_z3
attribute [local go_sem] Plain_newS blkOf_newS Plain_newS2 blkOf_newS2 Plain_oldS2 
def localV (a b c d : Int) : Vec := V3.vec (localS a b c d)
theorem fr_vec {W : World} {g : Nat} {x : Fr} (h : Blk W g x.arr) : Is_vec W g 0 x.e ∧ Is_vec W g 3 x.n ∧ Is_vec W g 6 x.u := by
  refine ⟨fun j hj => ?_, fun j hj => ?_, fun j hj => ?_⟩
  all_goals
    rw [h.cell]
    match j, hj with
    | 0, _ | 1, _ | 2, _ => rfl
set_option maxHeartbeats 4000000 in
theorem slocal_any (a b c d : Int) (ha : i64 a) (hb : i64 b) (hc : i64 c) (hd : i64 d) (w : World) : Calls Tryz.prog 213 #[.agg (Pos.arr ⟨a, b⟩), .agg (Pos.arr ⟨c, d⟩)] w (Ret w (.agg (localV a b c d).arr)) := by
  have hv : U3 (ofS c d) := ofS_in c d
  have hp : U3 (ofS a b) := ofS_in a b
  obtain ⟨x1, x2, x3, _⟩ := dot_in (neg_in (sinS_in b)) (cosS_in b) (c := 0) (by decide) hv
  obtain ⟨y1, y2, y3, _⟩ := dot_in (neg_in (roundS_in (prod_in (sinS_in a) (cosS_in b)))) (neg_in (roundS_in (prod_in (sinS_in a) (sinS_in b)))) (cosS_in a) hv
  obtain ⟨z1, z2, z3, _⟩ := dot_in hp.1 hp.2.1 hp.2.2 hv
  have k1 := Lib.hid (sdot_any (atV a b).e (ofV c d) x1 x2 x3)
  have k2 := Lib.hid (sdot_any (atV a b).n (ofV c d) y1 y2 y3)
  have k3 := Lib.hid (sdot_any (atV a b).u (ofV c d) z1 z2 z3)
  have HL := Lib.hid (show localV a b c d = ⟨roundS ((atV a b).e.a * (ofV c d).a + (atV a b).e.b * (ofV c d).b + (atV a b).e.c * (ofV c d).c), roundS ((atV a b).n.a * (ofV c d).a + (atV a b).n.b * (ofV c d).b + (atV a b).n.c * (ofV c d).c), roundS ((atV a b).u.a * (ofV c d).a + (atV a b).u.b * (ofV c d).b + (atV a b).u.c * (ofV c d).c)⟩ from rfl)
  clear hv hp x1 x2 x3 y1 y2 y3 z1 z2 z3
  have kat := Lib.hid (at_any a b ha hb)
  have kof := Lib.hid (of_any c d hc hd)
  generalize roundS ((atV a b).e.a * (ofV c d).a + (atV a b).e.b * (ofV c d).b + (atV a b).e.c * (ofV c d).c) = e1 at *
  generalize roundS ((atV a b).n.a * (ofV c d).a + (atV a b).n.b * (ofV c d).b + (atV a b).n.c * (ofV c d).c) = e2 at *
  generalize roundS ((atV a b).u.a * (ofV c d).a + (atV a b).u.b * (ofV c d).b + (atV a b).u.c * (ofV c d).c) = e3 at *
  generalize atV a b = fr at *
  generalize ofV c d = ov at *
  generalize localV a b c d = out at HL ⊢
  clear ha hb hc hd
  go_enter Tryz.func213, Tryz.ntmps213
  go_upto_region 1 with (fail)
  generalize hW : ((w.alloc _).alloc _).alloc _ = W
  have X0 : Blk W w.heap.size (Pos.arr ⟨a, b⟩) := by rw [← hW]; exact ((Blk.new w _ _).alloc _).alloc _
  have Y0 : Blk W (w.heap.size + 1) (Pos.arr ⟨c, d⟩) := by rw [← hW, ← World.size_alloc w (.cells (Pos.arr ⟨a, b⟩) 30)]; exact (Blk.new _ _ _).alloc _
  have R0 : Blk W (w.heap.size + 1 + 1) (Vec.arr ⟨0, 0, 0⟩) := by rw [← hW, ← World.size_alloc w (.cells (Pos.arr ⟨a, b⟩) 30), ← World.size_alloc (w.alloc (.cells (Pos.arr ⟨a, b⟩) 30)) (.cells (Pos.arr ⟨c, d⟩) 30)]; exact Blk.new _ _ _
  have B0 : Below w.heap.size w W := by rw [← hW]; go_grown
  clear hW
  obtain ⟨g1, hg1⟩ : ∃ g, g = w.heap.size + 1 := ⟨_, rfl⟩
  obtain ⟨g2, hg2⟩ : ∃ g, g = w.heap.size + 1 + 1 := ⟨_, rfl⟩
  obtain ⟨g0, hg0⟩ : ∃ g, g = w.heap.size := ⟨_, rfl⟩
  rw [← hg2] at R0 ⊢
  rw [← hg1] at Y0 ⊢
  rw [← hg0] at X0 ⊢
  have hgle : w.heap.size ≤ g2 := by omega
  clear hg0 hg1 hg2
  go_cut [5, 6] (fun u v wx => ∃ fb vb, u = .pointer (some ⟨fb, 0, none⟩) ∧ v = .pointer (some ⟨vb, 0, none⟩) ∧ Blk wx fb fr.arr ∧ Blk wx vb ov.arr ∧ Below W.heap.size W wx)
  case first =>
    have D2 : Below W.heap.size W W.drew := (Below.refl _ _).drew
    have IS := Lib.hid (fun W' (hB : Below W.heap.size W W') => show (Has_pos W' g0 0 ∧ of_pos W' g0 0 = ⟨a, b⟩) ∧ (Has_pos W' g1 0 ∧ of_pos W' g1 0 = ⟨c, d⟩) from ⟨⟨⟨_, (X0.step hB).is_pos⟩, of_pos_eq (X0.step hB).is_pos⟩, ⟨⟨_, (Y0.step hB).is_pos⟩, of_pos_eq (Y0.step hB).is_pos⟩⟩)
    have hd2 : W.heap.size ≤ W.drew.heap.size := Nat.le_refl _
    go_region_held3 (fun w' => (Has_pos w' g0 0 ∧ of_pos w' g0 0 = ⟨a, b⟩) ∧ (Has_pos w' g1 0 ∧ of_pos w' g1 0 = ⟨c, d⟩)) ((refine IS.out _ ?_; repeat' (first | assumption | omega | (refine below_setRow' ?_ ?_ _) | (refine Below.alloc ?_ ?_ _) | (refine Below.drew ?_) | exact Below.refl _ _ | (simp; done) | (simp; omega))))
      (first
        | (go_at_call 223
           with_reducible refine callR (kat.out _) ?_
           intro wa Ba0 _ _ hza
           have Ba : Below W.heap.size W wa := below_step (by repeat' (first | assumption | omega | (refine Below.alloc ?_ ?_ _) | (refine Below.drew ?_) | exact Below.refl _ _ | (simp; done) | (simp; omega))) Ba0
           have hsa := Ba.size
           try have l1 : W.heap.size < wa.heap.size := by have := hza; simp at this; omega
           try have l2 : W.heap.size + 1 < wa.heap.size := by have := hza; simp at this; omega
           try have A1 := (Blk.new W _ _).drw.step Ba0
           try have A1 := ((Blk.new W _ _).alloc _).drw.step Ba0
           try have A2 := blk_new2d Ba0
           try have a1 := A1.plain
           try have a2 := A1.of
           try have a3 := A2.plain
           try have a4 := A2.of)
        | (go_at_call 224
           with_reducible refine callR (kof.out _) ?_
           intro wo Bo0 _ _ hzo
           have Bo : Below W.heap.size W wo := below_step (by repeat' (first | assumption | omega | (refine Below.alloc ?_ ?_ _) | (refine Below.drew ?_) | exact Below.refl _ _ | (simp; done) | (simp; omega))) Bo0
           have hso := Bo.size
           try have l3 : wa.heap.size < wo.heap.size := by have := hzo; simp at this; omega
           try have l4 : wa.heap.size + 1 < wo.heap.size := by have := hzo; simp at this; omega
           try have l5 : W.heap.size < wo.heap.size := by have := hzo; simp at this; omega
           try have l6 : W.heap.size + 1 < wo.heap.size := by have := hzo; simp at this; omega
           try have O1 := (Blk.new wa _ _).step Bo0
           try have O1 := ((Blk.new wa _ _).alloc _).step Bo0
           try have O2 := blk_new2' Bo0
           try have O3 := A1.step Bo0
           try have O3 := (A1.alloc _).step Bo0
           try have O4 := A2.step Bo0
           try have o1 := O1.plain
           try have o2 := O1.of
           try have o3 := O2.plain
           try have o4 := O2.of
           try have o5 := O3.plain
           try have o6 := O3.of
           try have o7 := O4.plain
           try have o8 := O4.of
           try have z1a := fun o => (O1.alloc o).plain
           try have z1b := fun o => (O1.alloc o).of
           try have z2a := fun o => (O2.alloc o).plain
           try have z2b := fun o => (O2.alloc o).of
           try have z3a := fun o => (O3.alloc o).plain
           try have z3b := fun o => (O3.alloc o).of
           try have z4a := fun o => (O4.alloc o).plain
           try have z4b := fun o => (O4.alloc o).of
           try have n1 : ¬ wa.heap.size = wo.heap.size := by omega
           try have n2 : ¬ wo.heap.size = wa.heap.size := by omega
           try have n3 : ¬ W.heap.size = wo.heap.size := by omega
           try have n4 : ¬ wo.heap.size = W.heap.size := by omega
           try have n5 : ¬ W.heap.size = wa.heap.size := by omega
           try have n6 : ¬ wa.heap.size = W.heap.size := by omega))
    all_goals
      go_wp2
      go_meet
      refine ⟨_, _, rfl, rfl, blk_iff.2 ⟨?_, ?_⟩, blk_iff.2 ⟨?_, ?_⟩, ?_⟩
    all_goals try (go_simp; done)
    all_goals try (simp [go_sem, *]; done)
    all_goals repeat' (first | assumption | omega | (refine below_setRow' ?_ ?_ _) | (refine Below.alloc ?_ ?_ _) | (refine Below.drew ?_) | exact Below.refl _ _ | (simp; done) | (simp; omega))
  case rest =>
    obtain ⟨fb, vb, rfl, rfl, F, V, B1⟩ := hcut
    have R1 := R0.step B1
    have BB := below_step B0 B1
    clear X0 Y0 R0 B0 B1
    obtain ⟨f1, f2, f3⟩ := fr_vec F
    have fl := F.lt
    have vl := V.lt
    go_upto_region 2 with (fail)
    have j1 : ∀ d os, Has_vec (grow (redrawn wc d) os) fb 0 := fun d os => ⟨_, f1.below (below_regrown wc d os) fl⟩
    have j2 : ∀ d os, of_vec (grow (redrawn wc d) os) fb 0 = fr.e := fun d os => of_vec_eq (f1.below (below_regrown wc d os) fl)
    have j3 : ∀ d os, Has_vec (grow (redrawn wc d) os) fb 3 := fun d os => ⟨_, f2.below (below_regrown wc d os) fl⟩
    have j4 : ∀ d os, of_vec (grow (redrawn wc d) os) fb 3 = fr.n := fun d os => of_vec_eq (f2.below (below_regrown wc d os) fl)
    have j5 : ∀ d os, Has_vec (grow (redrawn wc d) os) fb 6 := fun d os => ⟨_, f3.below (below_regrown wc d os) fl⟩
    have j6 : ∀ d os, of_vec (grow (redrawn wc d) os) fb 6 = fr.u := fun d os => of_vec_eq (f3.below (below_regrown wc d os) fl)
    have j7 : ∀ d os, Has_vec (grow (redrawn wc d) os) vb 0 := fun d os => ⟨_, V.is_vec.below (below_regrown wc d os) vl⟩
    have j8 : ∀ d os, of_vec (grow (redrawn wc d) os) vb 0 = ov := fun d os => of_vec_eq (V.is_vec.below (below_regrown wc d os) vl)
    have q1 : ∀ d os, Calls Tryz.prog 225 #[.agg fr.e.arr, .agg ov.arr] (grow (redrawn wc d) os) fun e w'' => e = .returned (.int .i64 e1) ∧ ∃ p : Regrown, w'' = grow (redrawn wc p.d) p.os := fun d os => Calls.regrown_ret (k1.out _)
    have q2 : ∀ d os, Calls Tryz.prog 225 #[.agg fr.n.arr, .agg ov.arr] (grow (redrawn wc d) os) fun e w'' => e = .returned (.int .i64 e2) ∧ ∃ p : Regrown, w'' = grow (redrawn wc p.d) p.os := fun d os => Calls.regrown_ret (k2.out _)
    have q3 : ∀ d os, Calls Tryz.prog 225 #[.agg fr.u.arr, .agg ov.arr] (grow (redrawn wc d) os) fun e w'' => e = .returned (.int .i64 e3) ∧ ∃ p : Regrown, w'' = grow (redrawn wc p.d) p.os := fun d os => Calls.regrown_ret (k3.out _)
    refine wp_region_tail_below 13 (by kernel_rfl) (by kernel_rfl) ?_
    simp only [List.take_succ_cons, List.take_zero, List.drop_succ_cons, List.drop_zero]
    repeat (quiet_step (with_reducible first | exact q1 _ _ | exact q2 _ _ | exact q3 _ _))
    refine wpQuiet_nil ?_
    intro _ hw'
    obtain ⟨⟨dq, osq⟩, hw''⟩ := hw'
    subst hw''
    have R4 := R1.step (below_regrown wc dq osq)
    have B4 := below_step BB (below_regrown wc dq osq)
    clear j1 j2 j3 j4 j5 j6 j7 j8 q1 q2 q3 F V R1
    generalize grow (redrawn wc dq) osq = w4 at R4 B4 ⊢
    have d2 := R4.plain
    have d3 := R4.of
    go_wp2
    exact bodyPost_ret (results_agg1 Tryz.results213 _ _ g2 (Vec.arr ⟨e1, e2, e3⟩) 3 _ rfl rfl (R4.set _).cell Tryz.underlying234 rfl info_vec) rfl ⟨by rw [HL.out], below_setRow' B4 hgle _⟩
end Go.Proofs.YtgoeedohgomodaaGreatDoor
namespace Go.Proofs.YtgoeedohgomodaaGreatDoor
open Go.RowKit Go.Sort
set_option maxRecDepth 100000
attribute [local go_sem ↓] bvec_fold
attribute [local go_sem] run_bvec3
set_option maxHeartbeats 2000000 in
theorem sLocal_any (a b c d : Int) (ha : posB a b = true) (hc : posB c d = true) (w : World) : Calls Tryz.prog 198 #[.agg (Pos.arr ⟨a, b⟩), .agg (Pos.arr ⟨c, d⟩)] w (Ret w (.tuple #[.agg (localV a b c d).arr, .int .i64 0])) := by
  have p1 : i64 a ∧ i64 b := by simp only [posB, Bool.and_eq_true, decide_eq_true_eq] at ha; unfold i64; omega
  have p2 : i64 c ∧ i64 d := by simp only [posB, Bool.and_eq_true, decide_eq_true_eq] at hc; unfold i64; omega
  have kl := Lib.hid (slocal_any a b c d p1.1 p1.2 p2.1 p2.2)
  have k1 := Lib.hid (svalid_any a b)
  have k2 := Lib.hid (svalid_any c d)
  rw [ha] at k1
  rw [hc] at k2
  generalize localV a b c d = out at kl ⊢
  clear ha hc p1 p2
  go_enter Tryz.func198, Tryz.ntmps198
  go_upto_region 1 with (fail)
  generalize hW : ((w.alloc _).alloc _).alloc _ = W
  have X0 : Blk W w.heap.size (Pos.arr ⟨a, b⟩) := by rw [← hW]; exact ((Blk.new w _ _).alloc _).alloc _
  have Y0 : Blk W (w.heap.size + 1) (Pos.arr ⟨c, d⟩) := by rw [← hW, ← World.size_alloc w (.cells (Pos.arr ⟨a, b⟩) 30)]; exact (Blk.new _ _ _).alloc _
  have R0 : Blk W (w.heap.size + 1 + 1) (Vec.arr ⟨0, 0, 0⟩) := by rw [← hW, ← World.size_alloc w (.cells (Pos.arr ⟨a, b⟩) 30), ← World.size_alloc (w.alloc (.cells (Pos.arr ⟨a, b⟩) 30)) (.cells (Pos.arr ⟨c, d⟩) 30)]; exact Blk.new _ _ _
  have B0 : Below w.heap.size w W := by rw [← hW]; go_grown
  clear hW
  obtain ⟨g1, hg1⟩ : ∃ g, g = w.heap.size + 1 := ⟨_, rfl⟩
  obtain ⟨g2, hg2⟩ : ∃ g, g = w.heap.size + 1 + 1 := ⟨_, rfl⟩
  obtain ⟨g0, hg0⟩ : ∃ g, g = w.heap.size := ⟨_, rfl⟩
  rw [← hg2] at R0 ⊢
  rw [← hg1] at Y0 ⊢
  rw [← hg0] at X0 ⊢
  have hgle : w.heap.size ≤ g2 := by omega
  clear hg0 hg1 hg2
  have HX := Lib.hid (fun W' (h : Below W.heap.size W W') => X0.step h)
  have HY := Lib.hid (fun W' (h : Below W.heap.size W W') => Y0.step h)
  have i1 : Has_pos W g0 0 := ⟨_, X0.is_pos⟩
  have i2 : of_pos W g0 0 = ⟨a, b⟩ := of_pos_eq X0.is_pos
  go_upto_region 3 with (first
    | (go_at_call 197; (with_reducible refine callR (k1.out _) ?_); intro w1 b1 _ _ _
       have i3 : Has_pos w1 g1 0 := ⟨_, (HY.out w1 b1).is_pos⟩
       have i4 : of_pos w1 g1 0 = ⟨c, d⟩ := of_pos_eq (HY.out w1 b1).is_pos)
    | (go_at_call 197; (with_reducible refine callR (k2.out _) ?_); intro w2 b2 _ _ _))
  have b12 := below_step b1 b2
  have X2 := HX.out _ b12
  have Y2 := HY.out _ b12
  have R2 := R0.step b12
  have B2 := below_step B0 b12
  clear i1 i2 i3 i4 X0 Y0 R0 B0 HX HY b1 b2 b12
  have i1 : Has_pos w2 g0 0 := ⟨_, X2.is_pos⟩
  have i2 : of_pos w2 g0 0 = ⟨a, b⟩ := of_pos_eq X2.is_pos
  have i3 : Has_pos w2 g1 0 := ⟨_, Y2.is_pos⟩
  have i4 : of_pos w2 g1 0 = ⟨c, d⟩ := of_pos_eq Y2.is_pos
  go_wp2_with fail
  with_reducible refine callR (kl.out _) ?_
  intro w3 b3 _ _ _
  have R3 := R2.step b3
  have B3 := below_step B2 b3
  have d2 := R3.plain
  have d3 := R3.of
  clear i1 i2 i3 i4 X2 Y2 R2 B2 b3
  go_wp2
  exact bodyPost_ret (results_agg Tryz.results198 _ _ g2 out.arr 3 _ rfl rfl (R3.set _).cell Tryz.underlying234 rfl info_vec) rfl ⟨rfl, below_setRow' B3 hgle _⟩
end Go.Proofs.YtgoeedohgomodaaGreatDoor
namespace Go.Proofs.YtgoeedohgomodaaGreatDoor
open Go.RowKit Go.Sort
set_option maxRecDepth 100000
attribute [local go_sem ↓] bvec_fold
attribute [local go_sem] run_bvec3
end Go.Proofs.YtgoeedohgomodaaGreatDoor
namespace Go.Proofs.YtgoeedohgomodaaGreatDoor
theorem near_le {N c : Nat} (hc : 0 < c) : N / c + (if c - N % c ≤ N % c then 1 else 0) ≤ N := by
  split
  · rename_i h
    have hr := Nat.mod_lt N hc
    have hd := Nat.div_add_mod N c
    by_cases h0 : N / c = 0
    · rw [h0, Nat.mul_zero] at hd; omega
    · have : 2 * (N / c) ≤ c * (N / c) := Nat.mul_le_mul_right _ (by omega)
      omega
  · exact Nat.div_le_self _ _
theorem near_lt {N c : Nat} (hc : 0 < c) : N / c + (if c - N % c < N % c then 1 else 0) ≤ N := by
  refine Nat.le_trans ?_ (near_le hc)
  refine Nat.add_le_add_left ?_ _
  split
  · rename_i h
    rw [if_pos (Nat.le_of_lt h)]
    exact Nat.le_refl _
  · exact Nat.zero_le _
end Go.Proofs.YtgoeedohgomodaaGreatDoor
namespace Go.Proofs.YtgoeedohgomodaaGreatDoor
open Go.RowKit Go.Sort
set_option maxRecDepth 100000
theorem u64_mod (x : Int) : IntKind.u64.wrap x = x % 18446744073709551616 := rfl
theorem fsize_any (a : Int) (h : i64 a) (w : World) : Calls Tryz.prog 226 #[.int .i64 a] w (RetP w (.int .u64 ((a.natAbs : Nat) : Int))) := by
  obtain ⟨h0, h1⟩ := h
  go_enter Tryz.func226, Tryz.ntmps226
  go_wp2
  all_goals (go_ret; exact RetP.int (by try rw [u64_mod]
                                        try rw [u64_mod]
                                        omega) rfl)
theorem fdiv_any (l d : Nat) (hl : l < 18446744073709551616) (hd0 : 0 < d) (hd : d < 18446744073709551616) (w : World) : Calls Tryz.prog 228 #[.int .u64 0, .int .u64 (l : Int), .int .u64 (d : Int)] w (Ret w (.tuple #[.int .u64 ((l / d : Nat) : Int), .int .u64 ((l % d : Nat) : Int)])) := by
  have e1 : ((l / d : Nat) : Int) = IntKind.u64.wrap ((l : Int) / (d : Int)) := by
    have : l / d ≤ l := Nat.div_le_self _ _
    rw [u64_mod, ← Int.natCast_ediv]
    generalize l / d = q at *
    omega
  have e2 : ((l % d : Nat) : Int) = (l : Int) % (d : Int) := Int.natCast_emod _ _
  go_enter Tryz.func228, Tryz.ntmps228
  go_wp2
  go_region
  go_wp2
  go_ret2
  exact ⟨by rw [← e1, ← e2]; rfl, by go_grown⟩
theorem fsigned_pos (n : Int) (h0 : 0 ≤ n) (hn : n < 9223372036854775808) (w : World) : Calls Tryz.prog 229 #[.int .u64 n, .bool false] w (RetP w (.tuple #[.int .i64 n, .int .i64 0])) := by
  go_enter Tryz.func229, Tryz.ntmps229
  go_wp2
  go_ret2
  exact ⟨rfl, rfl⟩
theorem fsigned_neg (n : Int) (h0 : 0 ≤ n) (hn : n < 9223372036854775808) (w : World) : Calls Tryz.prog 229 #[.int .u64 n, .bool true] w (RetP w (.tuple #[.int .i64 (-n), .int .i64 0])) := by
  have e : wrap64 (IntKind.u64.wrap (-n)) = -n := by
    rw [u64_mod]
    unfold wrap64
    omega
  go_enter Tryz.func229, Tryz.ntmps229
  go_wp2
  go_ret2
  exact ⟨by rw [e]; rfl, rfl⟩
def awayN (neg : Bool) (n c : Nat) : Nat := if neg then (if c - n % c < n % c then 1 else 0) else (if c - n % c ≤ n % c then 1 else 0)
theorem awayN_le {neg : Bool} {n c : Nat} (hc : 0 < c) : n / c + awayN neg n c ≤ n := by
  unfold awayN
  split
  · exact near_lt hc
  · exact near_le hc
theorem nearS_eq (a c : Int) : nearS a c = if decide (a < 0) then -((a.natAbs / c.natAbs + awayN (decide (a < 0)) a.natAbs c.natAbs : Nat) : Int) else ((a.natAbs / c.natAbs + awayN (decide (a < 0)) a.natAbs c.natAbs : Nat) : Int) := by
  unfold nearS awayN
  by_cases h : a < 0
  · simp only [h, decide_true, if_true]
  · simp only [h, decide_false, if_false, Bool.false_eq_true]
theorem fmul_any (x y : Nat) (hx : x < 18446744073709551616) (hy : y < 18446744073709551616) (h : x * y < 18446744073709551616) (w : World) : Calls Tryz.prog 227 #[.int .u64 (x : Int), .int .u64 (y : Int)] w (RetP w (.tuple #[.int .u64 0, .int .u64 ((x * y : Nat) : Int)])) := by
  refine (Tryz.bits_Mul64 x y hx hy w).mono fun e w' hh => ?_
  rw [Nat.div_eq_of_lt h, Nat.mod_eq_of_lt h] at hh
  exact ⟨hh.1, hh.2.symm⟩
theorem fscale_neg (a b c : Int) (a0 : 0 < a) (a1 : i64 a) (b1 : i64 b) (c0 : 0 < c) (c1 : i64 c) (hn : a.natAbs * b.natAbs < 9223372036854775808) (hb : b < 0) (w : World) : Calls Tryz.prog 214 #[.int .i64 a, .int .i64 b, .int .i64 c, .int .u8 2] w (Ret w (.tuple #[.int .i64 (nearS (a * b) c), .int .i64 0])) := by
  have e0 : (a * b).natAbs = a.natAbs * b.natAbs := Int.natAbs_mul a b
  have e1 : decide (a * b < 0) = true := by
    rw [decide_eq_true_eq]; exact Int.mul_neg_of_pos_of_neg a0 hb
  have hnear := nearS_eq (a * b) c
  rw [e1, if_pos rfl, e0] at hnear
  have hle := awayN_le (neg := true) (n := a.natAbs * b.natAbs) (c := c.natAbs) (by omega)
  have hak : awayN true (a.natAbs * b.natAbs) c.natAbs = if c.natAbs - (a.natAbs * b.natAbs) % c.natAbs < (a.natAbs * b.natAbs) % c.natAbs then 1 else 0 := rfl
  have hr : (a.natAbs * b.natAbs) % c.natAbs < c.natAbs := Nat.mod_lt _ (by omega)
  have hna : a.natAbs < 18446744073709551616 := by have := a1.1; have := a1.2; omega
  have hnb : b.natAbs < 18446744073709551616 := by have := b1.1; have := b1.2; omega
  have hc63 : c.natAbs < 9223372036854775808 := by have := c1.1; have := c1.2; omega
  have hcp : 0 < c.natAbs := by omega
  have k1 := Lib.hid (fsize_any a a1)
  have k2 := Lib.hid (fsize_any b b1)
  have k3 := Lib.hid (fsize_any c c1)
  have k4 := Lib.hid (fun w => fmul_any a.natAbs b.natAbs hna hnb (Nat.lt_trans hn (by decide)) w)
  have k5 := Lib.hid (fun w => fdiv_any (a.natAbs * b.natAbs) c.natAbs (Nat.lt_trans hn (by decide)) hcp (Nat.lt_trans hc63 (by decide)) w)
  have hq63 : (a.natAbs * b.natAbs) / c.natAbs ≤ a.natAbs * b.natAbs := Nat.div_le_self _ _
  clear e0 e1
  generalize nearS (a * b) c = out at *
  generalize awayN true (a.natAbs * b.natAbs) c.natAbs = k at *
  generalize a.natAbs * b.natAbs / c.natAbs = q at *
  generalize a.natAbs * b.natAbs % c.natAbs = r at *
  generalize a.natAbs * b.natAbs = n at *
  generalize c.natAbs = d at *
  generalize a.natAbs = na at *
  generalize b.natAbs = nb at *
  rw [Int.natCast_add] at hnear
  have k6 := Lib.hid (show ∀ w, Calls Tryz.prog 229 #[.int .u64 ((q : Int) + k), .bool true] w (RetP w (.tuple #[.int .i64 out, .int .i64 0])) from fun w => by rw [hnear]; exact fsigned_neg ((q : Int) + k) (by omega) (by omega) w)
  have hd0 : (0 : Int) < d := by omega
  have hrd : (r : Int) < d := by omega
  have hw : IntKind.u64.wrap ((d : Int) - r) = (d : Int) - r := by rw [u64_mod]; omega
  have hw2 : IntKind.u64.wrap ((q : Int) + 1) = (q : Int) + 1 := by rw [u64_mod]; omega
  have hn63 : (n : Int) < 9223372036854775808 := by omega
  have hq64 : (q : Int) < 9223372036854775808 := by omega
  have hd63 : (d : Int) < 9223372036854775808 := by omega
  have hdn : ¬ (0 : Int) ≥ d := by omega
  have ha : (a < 0) = False := by simp; omega
  have hb' : (b < 0) = True := by simp; omega
  have hc : (c < 0) = False := by simp; omega
  have hcz : (c == 0) = false := by simp; omega
  have hki : (k : Int) = if ((d : Int) - r < (r : Int)) then 1 else 0 := by
    rw [hak]
    split <;> split <;> omega
  have hr0 : (0 : Int) ≤ r := by omega
  have k7 := Lib.hid (show ¬ ((d : Int) - r < (r : Int)) → ∀ w, Calls Tryz.prog 229 #[.int .u64 (q : Int), .bool true] w (RetP w (.tuple #[.int .i64 out, .int .i64 0])) from fun h w => by have := k6.out w; rw [hki, if_neg h, Int.add_zero] at this; exact this)
  have k8 := Lib.hid (show ((d : Int) - r < (r : Int)) → ∀ w, Calls Tryz.prog 229 #[.int .u64 ((q : Int) + 1), .bool true] w (RetP w (.tuple #[.int .i64 out, .int .i64 0])) from fun h w => by have := k6.out w; rw [hki, if_pos h] at this; exact this)
  have hq0 : (0 : Int) ≤ q := by omega
  clear hn hnear hle hr hq63 hc63 hak hcp hna hnb hki k6
  generalize (k : Int) = ki at *
  generalize (q : Int) = qi at *
  generalize (r : Int) = ri at *
  generalize (n : Int) = ni at *
  generalize (d : Int) = di at *
  generalize (na : Int) = nai at *
  generalize (nb : Int) = nbi at *
  go_enter Tryz.func214, Tryz.ntmps214
  go_wp2_with (first | (go_at_call 226; first | (with_reducible refine callP (k1.out _) ?_) | (with_reducible refine callP (k2.out _) ?_) | (with_reducible refine callP (k3.out _) ?_)) | (go_at_call 227; (with_reducible refine callP (k4.out _) ?_)) | (go_at_call 228; (with_reducible refine callR (k5.out _) ?_; intro _ _ _ _ _)) | (go_at_call 229; first | (with_reducible refine callP (k7.out (by omega) _) ?_) | (with_reducible refine callP (k8.out (by omega) _) ?_)))
  all_goals (go_ret2; exact ⟨rfl, by assumption⟩)
theorem fscale_pos (a b c : Int) (a0 : 0 < a) (a1 : i64 a) (b1 : i64 b) (c0 : 0 < c) (c1 : i64 c) (hn : a.natAbs * b.natAbs < 9223372036854775808) (hb : 0 ≤ b) (w : World) : Calls Tryz.prog 214 #[.int .i64 a, .int .i64 b, .int .i64 c, .int .u8 2] w (Ret w (.tuple #[.int .i64 (nearS (a * b) c), .int .i64 0])) := by
  have e0 : (a * b).natAbs = a.natAbs * b.natAbs := Int.natAbs_mul a b
  have e1 : decide (a * b < 0) = false := by
    rw [decide_eq_false_iff_not]; exact Int.not_lt.mpr (Int.mul_nonneg (Int.le_of_lt a0) hb)
  have hnear := nearS_eq (a * b) c
  rw [e1, if_neg Bool.false_ne_true, e0] at hnear
  have hle := awayN_le (neg := false) (n := a.natAbs * b.natAbs) (c := c.natAbs) (by omega)
  have hak : awayN false (a.natAbs * b.natAbs) c.natAbs = if c.natAbs - (a.natAbs * b.natAbs) % c.natAbs ≤ (a.natAbs * b.natAbs) % c.natAbs then 1 else 0 := rfl
  have hr : (a.natAbs * b.natAbs) % c.natAbs < c.natAbs := Nat.mod_lt _ (by omega)
  have hna : a.natAbs < 18446744073709551616 := by have := a1.1; have := a1.2; omega
  have hnb : b.natAbs < 18446744073709551616 := by have := b1.1; have := b1.2; omega
  have hc63 : c.natAbs < 9223372036854775808 := by have := c1.1; have := c1.2; omega
  have hcp : 0 < c.natAbs := by omega
  have k1 := Lib.hid (fsize_any a a1)
  have k2 := Lib.hid (fsize_any b b1)
  have k3 := Lib.hid (fsize_any c c1)
  have k4 := Lib.hid (fun w => fmul_any a.natAbs b.natAbs hna hnb (Nat.lt_trans hn (by decide)) w)
  have k5 := Lib.hid (fun w => fdiv_any (a.natAbs * b.natAbs) c.natAbs (Nat.lt_trans hn (by decide)) hcp (Nat.lt_trans hc63 (by decide)) w)
  have hq63 : (a.natAbs * b.natAbs) / c.natAbs ≤ a.natAbs * b.natAbs := Nat.div_le_self _ _
  clear e0 e1
  generalize nearS (a * b) c = out at *
  generalize awayN false (a.natAbs * b.natAbs) c.natAbs = k at *
  generalize a.natAbs * b.natAbs / c.natAbs = q at *
  generalize a.natAbs * b.natAbs % c.natAbs = r at *
  generalize a.natAbs * b.natAbs = n at *
  generalize c.natAbs = d at *
  generalize a.natAbs = na at *
  generalize b.natAbs = nb at *
  rw [Int.natCast_add] at hnear
  have k6 := Lib.hid (show ∀ w, Calls Tryz.prog 229 #[.int .u64 ((q : Int) + k), .bool false] w (RetP w (.tuple #[.int .i64 out, .int .i64 0])) from fun w => by rw [hnear]; exact fsigned_pos ((q : Int) + k) (by omega) (by omega) w)
  have hd0 : (0 : Int) < d := by omega
  have hrd : (r : Int) < d := by omega
  have hw : IntKind.u64.wrap ((d : Int) - r) = (d : Int) - r := by rw [u64_mod]; omega
  have hw2 : IntKind.u64.wrap ((q : Int) + 1) = (q : Int) + 1 := by rw [u64_mod]; omega
  have hn63 : (n : Int) < 9223372036854775808 := by omega
  have hq64 : (q : Int) < 9223372036854775808 := by omega
  have hd63 : (d : Int) < 9223372036854775808 := by omega
  have hdn : ¬ (0 : Int) ≥ d := by omega
  have ha : (a < 0) = False := by simp; omega
  have hb' : (b < 0) = False := by simp; omega
  have hc : (c < 0) = False := by simp; omega
  have hcz : (c == 0) = false := by simp; omega
  have hki : (k : Int) = if ((d : Int) - r ≤ (r : Int)) then 1 else 0 := by
    rw [hak]
    split <;> split <;> omega
  have hr0 : (0 : Int) ≤ r := by omega
  have k7 := Lib.hid (show ¬ ((d : Int) - r ≤ (r : Int)) → ∀ w, Calls Tryz.prog 229 #[.int .u64 (q : Int), .bool false] w (RetP w (.tuple #[.int .i64 out, .int .i64 0])) from fun h w => by have := k6.out w; rw [hki, if_neg h, Int.add_zero] at this; exact this)
  have k8 := Lib.hid (show ((d : Int) - r ≤ (r : Int)) → ∀ w, Calls Tryz.prog 229 #[.int .u64 ((q : Int) + 1), .bool false] w (RetP w (.tuple #[.int .i64 out, .int .i64 0])) from fun h w => by have := k6.out w; rw [hki, if_pos h] at this; exact this)
  have hq0 : (0 : Int) ≤ q := by omega
  clear hn hnear hle hr hq63 hc63 hak hcp hna hnb hki k6
  generalize (k : Int) = ki at *
  generalize (q : Int) = qi at *
  generalize (r : Int) = ri at *
  generalize (n : Int) = ni at *
  generalize (d : Int) = di at *
  generalize (na : Int) = nai at *
  generalize (nb : Int) = nbi at *
  go_enter Tryz.func214, Tryz.ntmps214
  go_wp2_with (first | (go_at_call 226; first | (with_reducible refine callP (k1.out _) ?_) | (with_reducible refine callP (k2.out _) ?_) | (with_reducible refine callP (k3.out _) ?_)) | (go_at_call 227; (with_reducible refine callP (k4.out _) ?_)) | (go_at_call 228; (with_reducible refine callR (k5.out _) ?_; intro _ _ _ _ _)) | (go_at_call 229; first | (with_reducible refine callP (k7.out (by first | omega | grind) _) ?_) | (with_reducible refine callP (k8.out (by first | omega | grind) _) ?_)))
  all_goals (go_ret2; exact ⟨rfl, by assumption⟩)
end Go.Proofs.YtgoeedohgomodaaGreatDoor
namespace Go.Proofs.YtgoeedohgomodaaGreatDoor
open Go.RowKit Go.Sort
set_option maxRecDepth 100000
theorem mdr_any (a b c : Int) (a0 : 0 < a) (a1 : i64 a) (b1 : i64 b) (c0 : 0 < c) (c1 : i64 c) (hn : a.natAbs * b.natAbs < 9223372036854775808) (w : World) : Calls Tryz.prog 199 #[.int .i64 a, .int .i64 b, .int .i64 c] w (Ret w (.tuple #[.int .i64 (nearS (a * b) c), .int .i64 0])) := by
  have k := Lib.hid (show ∀ w, Calls Tryz.prog 214 #[.int .i64 a, .int .i64 b, .int .i64 c, .int .u8 2] w (Ret w (.tuple #[.int .i64 (nearS (a * b) c), .int .i64 0])) from fun w => by
    by_cases h : b < 0
    · exact fscale_neg a b c a0 a1 b1 c0 c1 hn h w
    · exact fscale_pos a b c a0 a1 b1 c0 c1 hn (by omega) w)
  generalize nearS (a * b) c = out at *
  go_enter Tryz.func199, Tryz.ntmps199
  go_wp2_with (go_at_call 214; (with_reducible refine callR (k.out _) ?_); intro _ _ _ _ _)
  go_ret2
  exact ⟨rfl, by assumption⟩
end Go.Proofs.YtgoeedohgomodaaGreatDoor
namespace Go.Proofs.YtgoeedohgomodaaGreatDoor
open Go.RowKit Go.Sort
set_option maxRecDepth 100000
def ptP (p : Int × Int) : Pt := ⟨p.1, p.2⟩
theorem Fits_pt (x : Pt) (o n : Nat) : Fits o n x.arr = (o + n ≤ 2) := propext ⟨fun h => h, fun h => h⟩
theorem splice_pt (a b : Pt) : splice a.arr 0 b.arr = b.arr := rfl
attribute [go_sem] Fits_pt splice_pt
def bpt (parts : Array (Nat × Value)) : Sem Value := Instr.build 66 parts
theorem bpt_fold (parts : Array (Nat × Value)) : Instr.build 66 parts = bpt parts := rfl
theorem run_bpt0 (w : World) : (bpt #[]).run Tryz.prog w = .ok (.agg (Pt.arr ⟨0, 0⟩)) w := run_build w _ _ _ (by kernel_rfl)
theorem run_bpt2 (w : World) (a b : Int) : (bpt #[(0, .int .i64 a), (1, .int .i64 b)]).run Tryz.prog w = .ok (.agg (Pt.arr ⟨a, b⟩)) w := run_build w _ _ _ (by kernel_rfl)
attribute [local go_sem ↓] bpt_fold
attribute [local go_sem] run_bpt0 run_bpt2
theorem near_args {v : Int} (h1 : -3221225472 ≤ v ∧ v ≤ 3221225472) : i64 v ∧ (20626481 : Int).natAbs * v.natAbs < 9223372036854775808 := by
  unfold i64
  constructor
  · omega
  · have : v.natAbs ≤ 3221225472 := by omega
    show 20626481 * v.natAbs < _
    omega
theorem alloc_below3 (w : World) (o : Obj) : Below w.heap.size w (w.alloc o) := (Below.refl _ _).alloc (Nat.le_refl _) _
set_option maxHeartbeats 4000000 in
theorem planeto_any (a b c d : Int) (w : World) : Calls Tryz.prog 162 #[.agg (Pos.arr ⟨a, b⟩), .agg (Pos.arr ⟨c, d⟩)] w (Ret w (.tuple #[.agg (ptP (toPlane a b c d).1).arr, .int .i64 (toPlane a b c d).2])) := by
  have k1 := Lib.hid (origin_any a b)
  have k2 := Lib.hid (svalid_any c d)
  have HT := Lib.hid (show toPlane a b c d = if originB a b && posB c d then toS3 (localS a b c d) else ((0, 0), 1) from rfl)
  have HL := Lib.hid (show originB a b = true → posB c d = true → ∀ w, Calls Tryz.prog 198 #[.agg (Pos.arr ⟨a, b⟩), .agg (Pos.arr ⟨c, d⟩)] w (Ret w (.tuple #[.agg (localV a b c d).arr, .int .i64 0])) from fun h1 h2 w =>
    sLocal_any a b c d (by unfold originB at h1; simp only [Bool.and_eq_true] at h1; exact h1.1) h2 w)
  have HV : localV a b c d = V3.vec (localS a b c d) := rfl
  rw [HV] at HL
  clear HV
  have hin := Lib.hid (localS_in a b c d)
  generalize toPlane a b c d = out at *
  generalize originB a b = ob at *
  generalize posB c d = pb at *
  generalize localS a b c d = v at *
  go_enter Tryz.func162, Tryz.ntmps162
  go_upto_region 1 with (fail)
  generalize hW : ((w.alloc _).alloc _).alloc _ = W
  have X0 : Blk W w.heap.size (Pos.arr ⟨a, b⟩) := by rw [← hW]; exact ((Blk.new w _ _).alloc _).alloc _
  have Y0 : Blk W (w.heap.size + 1) (Pos.arr ⟨c, d⟩) := by rw [← hW, ← World.size_alloc w (.cells (Pos.arr ⟨a, b⟩) 30)]; exact (Blk.new _ _ _).alloc _
  have R0 : Blk W (w.heap.size + 1 + 1) (Pt.arr ⟨0, 0⟩) := by rw [← hW, ← World.size_alloc w (.cells (Pos.arr ⟨a, b⟩) 30), ← World.size_alloc (w.alloc (.cells (Pos.arr ⟨a, b⟩) 30)) (.cells (Pos.arr ⟨c, d⟩) 30)]; exact Blk.new _ _ _
  have B0 : Below w.heap.size w W := by rw [← hW]; go_grown
  clear hW
  obtain ⟨g1, hg1⟩ : ∃ g, g = w.heap.size + 1 := ⟨_, rfl⟩
  obtain ⟨g2, hg2⟩ : ∃ g, g = w.heap.size + 1 + 1 := ⟨_, rfl⟩
  obtain ⟨g0, hg0⟩ : ∃ g, g = w.heap.size := ⟨_, rfl⟩
  rw [← hg2] at R0 ⊢
  rw [← hg1] at Y0 ⊢
  rw [← hg0] at X0 ⊢
  have hgle : w.heap.size ≤ g2 := by omega
  clear hg0 hg1 hg2
  have HX := Lib.hid (fun W' (h : Below W.heap.size W W') => X0.step h)
  have HY := Lib.hid (fun W' (h : Below W.heap.size W W') => Y0.step h)
  have HR := Lib.hid (fun W' (h : Below W.heap.size W W') => R0.step h)
  have i1 : Has_pos W g0 0 := ⟨_, X0.is_pos⟩
  have i2 : of_pos W g0 0 = ⟨a, b⟩ := of_pos_eq X0.is_pos
  have BB := Lib.hid (fun W' (h : Below W.heap.size W W') => below_step B0 h)
  clear X0 Y0 R0 B0
  cases ob with
  | false =>
    have HO := Lib.hid (show out = ((0, 0), 1) by rw [HT.out]; rfl)
    go_upto_region 2 with (go_at_call 196; (with_reducible refine callR (k1.out _) ?_); intro w1 b1 _ _ _)
    have R1 := HR.out w1 b1
    have d2 := R1.plain
    have d3 := R1.of
    go_wp2
    exact bodyPost_ret (results_agg Tryz.results162 _ _ g2 (Pt.arr ⟨0, 0⟩) 2 _ rfl rfl (R1.set _).cell Tryz.underlying66 rfl info_pt) rfl ⟨by rw [HO.out]; rfl, below_setRow' (BB.out _ b1) hgle _⟩
  | true =>
    cases pb with
    | false =>
      have HO := Lib.hid (show out = ((0, 0), 1) by rw [HT.out]; rfl)
      go_upto_region 2 with (first
        | (go_at_call 196; (with_reducible refine callR (k1.out _) ?_); intro w1 b1 _ _ _
           have i3 : Has_pos w1 g1 0 := ⟨_, (HY.out w1 b1).is_pos⟩
           have i4 : of_pos w1 g1 0 = ⟨c, d⟩ := of_pos_eq (HY.out w1 b1).is_pos)
        | (go_at_call 197; (with_reducible refine callR (k2.out _) ?_); intro w2 b2 _ _ _
           have b12 := below_step b1 b2
           have R1 := HR.out w2 b12
           have d2 := R1.plain
           have d3 := R1.of))
      go_wp2
      exact bodyPost_ret (results_agg Tryz.results162 _ _ g2 (Pt.arr ⟨0, 0⟩) 2 _ rfl rfl (R1.set _).cell Tryz.underlying66 rfl info_pt) rfl ⟨by rw [HO.out]; rfl, below_setRow' (BB.out _ b12) hgle _⟩
    | true =>
      have k3 := Lib.hid (HL.out rfl rfl)
      have HO := Lib.hid (show out = toS3 v by rw [HT.out]; rfl)
      clear HT HL
      go_upto_region 3 with (first
        | (go_at_call 196; (with_reducible refine callR (k1.out _) ?_); intro w1 b1 _ _ _
           have i3 : Has_pos w1 g1 0 := ⟨_, (HY.out w1 b1).is_pos⟩
           have i4 : of_pos w1 g1 0 = ⟨c, d⟩ := of_pos_eq (HY.out w1 b1).is_pos)
        | (go_at_call 197; (with_reducible refine callR (k2.out _) ?_); intro w2 b2 _ _ _))
      have b12 := below_step b1 b2
      have X2 := HX.out _ b12
      have Y2 := HY.out _ b12
      have R2 := HR.out _ b12
      have B2 := BB.out _ b12
      clear i1 i2 i3 i4 HX HY HR BB b1 b2 b12 k1 k2
      have i1 : Has_pos w2 g0 0 := ⟨_, X2.is_pos⟩
      have i2 : of_pos w2 g0 0 = ⟨a, b⟩ := of_pos_eq X2.is_pos
      have i3 : Has_pos w2 g1 0 := ⟨_, Y2.is_pos⟩
      have i4 : of_pos w2 g1 0 = ⟨c, d⟩ := of_pos_eq Y2.is_pos
      go_upto_region 4 with ((go_at_call 198; (with_reducible refine callR (k3.out _) ?_); intro w3 b3 _ _ _))
      have B3 := below_step B2 b3
      have R3 := R2.step b3
      clear i1 i2 i3 i4 X2 Y2 R2 B2 b3 k3
      obtain ⟨x, y, z⟩ := v
      have hv : V3.vec (x, y, z) = ⟨x, y, z⟩ := rfl
      rw [hv]
      have hin' := hin.out
      have nx := near_args (v := x) hin'.1
      have ny := near_args (v := y) hin'.2.1
      have nz : i64 z := (near_args (v := z) hin'.2.2).1
      have X4 := Blk.new w3 (Vec.arr ⟨x, y, z⟩) 234
      have B4 := below_step B3 (alloc_below3 w3 (.cells (Vec.arr ⟨x, y, z⟩) 234))
      have R4 := R3.alloc (.cells (Vec.arr ⟨x, y, z⟩) 234)
      generalize w3.alloc _ = W4 at X4 B4 R4 ⊢
      generalize w3.heap.size = g4 at X4 ⊢
      clear R3 B3 hin' hin hv
      have k0 : W4.cell? ⟨g4, 0, none⟩ = some (.int .i64 x) := X4.cell 0
      have k1 : W4.cell? ⟨g4, 1, none⟩ = some (.int .i64 y) := X4.cell 1
      have k2 : W4.cell? ⟨g4, 2, none⟩ = some (.int .i64 z) := X4.cell 2
      by_cases hz : z ≤ 0
      · have HO2 := Lib.hid (show out = ((0, 0), 2) by rw [HO.out]; exact if_pos hz)
        have d2 := R4.plain
        have d3 := R4.of
        clear HO nx ny
        go_wp2
        exact bodyPost_ret (results_agg Tryz.results162 _ _ g2 (Pt.arr ⟨0, 0⟩) 2 _ rfl rfl (R4.set _).cell Tryz.underlying66 rfl info_pt) rfl ⟨by rw [HO2.out]; rfl, below_setRow' B4 hgle _⟩
      · have HO2 := Lib.hid (show out = if pointOkB (nearS (20626481 * x) z) (nearS (20626481 * y) z) then ((nearS (20626481 * x) z, nearS (20626481 * y) z), 0) else ((0, 0), 2) by rw [HO.out]; exact if_neg hz)
        have m1 := Lib.hid (mdr_any 20626481 x z (by decide) (by unfold i64; omega) nx.1 (by omega) nz nx.2)
        have m2 := Lib.hid (mdr_any 20626481 y z (by decide) (by unfold i64; omega) ny.1 (by omega) nz ny.2)
        have HV := Lib.hid (ptvalid_any (nearS (20626481 * x) z) (nearS (20626481 * y) z))
        clear HO nx ny nz
        generalize nearS (20626481 * x) z = px at *
        generalize nearS (20626481 * y) z = py at *
        generalize pointOkB px py = pv at *
        go_upto_region 7 with (go_at_call 199; (with_reducible refine callR (m1.out _) ?_); intro w5 b5 _ _ _)
        have k1 : w5.cell? ⟨g4, 1, none⟩ = some (.int .i64 y) := (X4.step b5).cell 1
        have k2 : w5.cell? ⟨g4, 2, none⟩ = some (.int .i64 z) := (X4.step b5).cell 2
        clear k0
        go_upto_region 8 with (go_at_call 199; (with_reducible refine callR (m2.out _) ?_); intro w6 b6 _ _ _)
        have R6 := (R4.step b5).step b6
        have B6 := below_step (below_step B4 b5) b6
        clear k1 k2 X4 b5 b6 R4 B4 m1 m2
        go_upto_region 9 with (fail)
        have X7 := Blk.new w6 (Pt.arr ⟨px, py⟩) 66
        have B7 := below_step B6 (alloc_below3 w6 (.cells (Pt.arr ⟨px, py⟩) 66))
        have R7 := R6.alloc (.cells (Pt.arr ⟨px, py⟩) 66)
        generalize w6.alloc _ = W7 at X7 B7 R7 ⊢
        generalize w6.heap.size = g7 at X7 ⊢
        clear R6 B6
        have i1 : Has_pt W7 g7 0 := ⟨_, X7.is_pt⟩
        have i2 : of_pt W7 g7 0 = ⟨px, py⟩ := of_pt_eq X7.is_pt
        cases pv with
        | false =>
          have HO3 := Lib.hid (show out = ((0, 0), 2) from HO2.out)
          clear HO2
          go_upto_region 10 with (go_at_call 101; (with_reducible refine callR (HV.out _) ?_); intro w8 b8 _ _ _)
          have X8 := X7.step b8
          have R8 := R7.step b8
          have B8 := below_step B7 b8
          clear i1 i2 X7 R7 B7 b8
          have i1 : Has_pt w8 g7 0 := ⟨_, X8.is_pt⟩
          have i2 : of_pt w8 g7 0 = ⟨px, py⟩ := of_pt_eq X8.is_pt
          have d2 := R8.plain
          have d3 := R8.of
          go_wp2
          exact bodyPost_ret (results_agg Tryz.results162 _ _ g2 (Pt.arr ⟨0, 0⟩) 2 _ rfl rfl (R8.set _).cell Tryz.underlying66 rfl info_pt) rfl ⟨by rw [HO3.out]; rfl, below_setRow' B8 hgle _⟩
        | true =>
          have HO3 := Lib.hid (show out = ((px, py), 0) from HO2.out)
          clear HO2
          go_upto_region 11 with (go_at_call 101; (with_reducible refine callR (HV.out _) ?_); intro w8 b8 _ _ _)
          have X8 := X7.step b8
          have R8 := R7.step b8
          have B8 := below_step B7 b8
          clear i1 i2 X7 R7 B7 b8
          have i1 : Has_pt w8 g7 0 := ⟨_, X8.is_pt⟩
          have i2 : of_pt w8 g7 0 = ⟨px, py⟩ := of_pt_eq X8.is_pt
          have d2 := R8.plain
          have d3 := R8.of
          go_wp2
          exact bodyPost_ret (results_agg Tryz.results162 _ _ g2 (Pt.arr ⟨px, py⟩) 2 _ rfl rfl (R8.set _).cell Tryz.underlying66 rfl info_pt) rfl ⟨by rw [HO3.out]; rfl, below_setRow' B8 hgle _⟩
end Go.Proofs.YtgoeedohgomodaaGreatDoor
