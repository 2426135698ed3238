/- The sphere: the components of a position as seen from another; the program's; walks. The sphere: Local; the reference's vector, slopes, scalar product, Local; walks. -/
import Derived.Test.YtjgondadpjildaaGreatDoorPk30
import Derived.Test.YtjgondadpjildaaGreatDoorPk31
import Derived.Deep.RegionHeld3
namespace Go.Proofs.YtjgondadpjildaaGreatDoor
open Go.RowKit Go.Sort
set_option linter.unusedVariables false
set_option linter.unusedSimpArgs false
set_option maxRecDepth 100000
attribute [local go_sem ↓] bvec_fold
attribute [local go_sem] run_bvec0 run_bvec3
theorem Plain_newd (w : World) (cs : Array Value) (t : TypeId) : Plain (w.drew.alloc (.cells cs t)) w.heap.size = True := eq_true (Blk.new w.drew cs t).plain
theorem blkOf_newd (w : World) (cs : Array Value) (t : TypeId) : blkOf (w.drew.alloc (.cells cs t)) w.heap.size = cs := (Blk.new w.drew cs t).of
theorem Plain_newd2 (w : World) (a : Obj) (cs : Array Value) (t : TypeId) : Plain ((w.drew.alloc a).alloc (.cells cs t)) (w.heap.size + 1) = True := eq_true (by have := (Blk.new (w.drew.alloc a) cs t).plain; simpa using this)
theorem blkOf_newd2 (w : World) (a : Obj) (cs : Array Value) (t : TypeId) : blkOf ((w.drew.alloc a).alloc (.cells cs t)) (w.heap.size + 1) = cs := by have := (Blk.new (w.drew.alloc a) cs t).of; simpa using this
theorem Plain_oldd2 (w : World) (b : Obj) (cs : Array Value) (t : TypeId) : Plain ((w.drew.alloc (.cells cs t)).alloc b) w.heap.size = True := eq_true (Plain_alloc _ _ b (by simp) (Blk.new w.drew cs t).plain)
theorem blkOf_oldd2 (w : World) (b : Obj) (cs : Array Value) (t : TypeId) : blkOf ((w.drew.alloc (.cells cs t)).alloc b) w.heap.size = cs := by
  rw [blkOf_alloc _ _ b (by simp)]; exact (Blk.new w.drew cs t).of
theorem blk_iff {W : World} {g : Nat} {cs : Array Value} : Blk W g cs ↔ Plain W g ∧ blkOf W g = cs :=
  ⟨fun h => ⟨h.plain, h.of⟩, fun ⟨⟨cs', t, h⟩, h2⟩ => ⟨t, by have : blkOf W g = cs' := Blk.of ⟨t, h⟩; rw [← h2, this]; exact h⟩⟩
theorem Plain_step {X Y : World} (hb : Below X.heap.size X Y) (g : Nat) (h : g < X.heap.size) (hp : Plain X g) : Plain Y g := by
  obtain ⟨cs, t, e⟩ := hp; exact ⟨cs, t, (hb.block g h).trans e⟩
theorem blkOf_step {X Y : World} (hb : Below X.heap.size X Y) (g : Nat) (h : g < X.heap.size) : blkOf Y g = blkOf X g := by
  unfold blkOf; rw [hb.block g h]
theorem blk_new2 {W Y : World} {a : Obj} {cs : Array Value} {t : TypeId} (hb : Below ((W.drew.alloc a).alloc (.cells cs t)).heap.size ((W.drew.alloc a).alloc (.cells cs t)) Y) : Blk Y (W.heap.size + 1) cs := by
  have := (Blk.new (W.drew.alloc a) cs t).step hb; simpa using this
theorem blk_new2' {W Y : World} {a : Obj} {cs : Array Value} {t : TypeId} (hb : Below ((W.alloc a).alloc (.cells cs t)).heap.size ((W.alloc a).alloc (.cells cs t)) Y) : Blk Y (W.heap.size + 1) cs := by
  have := (Blk.new (W.alloc a) cs t).step hb; simpa using this
theorem Plain_drwX (w : World) (g : Nat) : Plain w.drew g = Plain w g := rfl
theorem blkOf_drwX (w : World) (g : Nat) : blkOf w.drew g = blkOf w g := rfl
theorem setRow_drwX (w : World) (g : Nat) (cs : Array Value) : w.drew.setRow g cs = (w.setRow g cs).drew := rfl
theorem Blk.drw {w : World} {g : Nat} {cs : Array Value} (h : Blk w g cs) : Blk w.drew g cs := h
attribute [local go_sem] Plain_drwX blkOf_drwX setRow_drwX
theorem blk_new2d {W Y : World} {a : Obj} {cs : Array Value} {t : TypeId} (hb : Below ((W.alloc a).alloc (.cells cs t)).drew.heap.size ((W.alloc a).alloc (.cells cs t)).drew Y) : Blk Y (W.heap.size + 1) cs := by
  have := (Blk.new (W.alloc a) cs t).drw.step hb; simpa using this
theorem splice_z9 (x : Fr) : splice #[.int .i64 0, .int .i64 0, .int .i64 0, .int .i64 0, .int .i64 0, .int .i64 0, .int .i64 0, .int .i64 0, .int .i64 0] 0 x.arr = x.arr := rfl
theorem splice_z3 (x : Vec) : splice #[.int .i64 0, .int .i64 0, .int .i64 0] 0 x.arr = x.arr := rfl
attribute [local go_sem] splice_z9 splice_z3
attribute [local go_sem] Plain_newS blkOf_newS Plain_newS2 blkOf_newS2 setRow_sizeS Plain_farS1 blkOf_farS1 Plain_farS2 blkOf_farS2 Plain_oldS2 blkOf_oldS2 Plain_newd blkOf_newd Plain_newd2 blkOf_newd2 Plain_oldd2 blkOf_oldd2
def localV (a b c d : Int) : Vec := V3.vec (localS a b c d)
theorem fr_vec {W : World} {g : Nat} {x : Fr} (h : Blk W g x.arr) : Is_vec W g 0 x.e ∧ Is_vec W g 3 x.n ∧ Is_vec W g 6 x.u := by
  refine ⟨fun j hj => ?_, fun j hj => ?_, fun j hj => ?_⟩
  all_goals
    rw [h.cell]
    match j, hj with
    | 0, _ | 1, _ | 2, _ => rfl
set_option maxHeartbeats 4000000 in
theorem slocal_any (a b c d : Int) (ha : i64 a) (hb : i64 b) (hc : i64 c) (hd : i64 d) (w : World) : Calls Tryz.prog 115 #[.agg (Pos.arr ⟨a, b⟩), .agg (Pos.arr ⟨c, d⟩)] w (Ret w (.agg (localV a b c d).arr)) := by
  have hv : U3 (ofS c d) := ofS_in c d
  have hp : U3 (ofS a b) := ofS_in a b
  obtain ⟨x1, x2, x3, _⟩ := dot_in (neg_in (sinS_in b)) (cosS_in b) (c := 0) (by decide) hv
  obtain ⟨y1, y2, y3, _⟩ := dot_in (neg_in (roundS_in (prod_in (sinS_in a) (cosS_in b)))) (neg_in (roundS_in (prod_in (sinS_in a) (sinS_in b)))) (cosS_in a) hv
  obtain ⟨z1, z2, z3, _⟩ := dot_in hp.1 hp.2.1 hp.2.2 hv
  have k1 := Lib.hid (sdot_any (atV a b).e (ofV c d) x1 x2 x3)
  have k2 := Lib.hid (sdot_any (atV a b).n (ofV c d) y1 y2 y3)
  have k3 := Lib.hid (sdot_any (atV a b).u (ofV c d) z1 z2 z3)
  have HL := Lib.hid (show localV a b c d = ⟨roundS ((atV a b).e.a * (ofV c d).a + (atV a b).e.b * (ofV c d).b + (atV a b).e.c * (ofV c d).c), roundS ((atV a b).n.a * (ofV c d).a + (atV a b).n.b * (ofV c d).b + (atV a b).n.c * (ofV c d).c), roundS ((atV a b).u.a * (ofV c d).a + (atV a b).u.b * (ofV c d).b + (atV a b).u.c * (ofV c d).c)⟩ from rfl)
  clear hv hp x1 x2 x3 y1 y2 y3 z1 z2 z3
  have kat := Lib.hid (at_any a b ha hb)
  have kof := Lib.hid (of_any c d hc hd)
  generalize roundS ((atV a b).e.a * (ofV c d).a + (atV a b).e.b * (ofV c d).b + (atV a b).e.c * (ofV c d).c) = e1 at *
  generalize roundS ((atV a b).n.a * (ofV c d).a + (atV a b).n.b * (ofV c d).b + (atV a b).n.c * (ofV c d).c) = e2 at *
  generalize roundS ((atV a b).u.a * (ofV c d).a + (atV a b).u.b * (ofV c d).b + (atV a b).u.c * (ofV c d).c) = e3 at *
  generalize atV a b = fr at *
  generalize ofV c d = ov at *
  generalize localV a b c d = out at HL ⊢
  clear ha hb hc hd
  go_enter Tryz.func115, Tryz.ntmps115
  go_upto_region 1 with (fail)
  generalize hW : ((w.alloc _).alloc _).alloc _ = W
  have X0 : Blk W w.heap.size (Pos.arr ⟨a, b⟩) := by rw [← hW]; exact ((Blk.new w _ _).alloc _).alloc _
  have Y0 : Blk W (w.heap.size + 1) (Pos.arr ⟨c, d⟩) := by rw [← hW, ← World.size_alloc w (.cells (Pos.arr ⟨a, b⟩) 23)]; exact (Blk.new _ _ _).alloc _
  have R0 : Blk W (w.heap.size + 1 + 1) (Vec.arr ⟨0, 0, 0⟩) := by rw [← hW, ← World.size_alloc w (.cells (Pos.arr ⟨a, b⟩) 23), ← World.size_alloc (w.alloc (.cells (Pos.arr ⟨a, b⟩) 23)) (.cells (Pos.arr ⟨c, d⟩) 23)]; exact Blk.new _ _ _
  have B0 : Below w.heap.size w W := by rw [← hW]; go_grown
  clear hW
  obtain ⟨g1, hg1⟩ : ∃ g, g = w.heap.size + 1 := ⟨_, rfl⟩
  obtain ⟨g2, hg2⟩ : ∃ g, g = w.heap.size + 1 + 1 := ⟨_, rfl⟩
  obtain ⟨g0, hg0⟩ : ∃ g, g = w.heap.size := ⟨_, rfl⟩
  rw [← hg2] at R0 ⊢
  rw [← hg1] at Y0 ⊢
  rw [← hg0] at X0 ⊢
  have hgle : w.heap.size ≤ g2 := by omega
  clear hg0 hg1 hg2
  go_cut [5, 6] (fun u v wx => ∃ fb vb, u = .pointer (some ⟨fb, 0, none⟩) ∧ v = .pointer (some ⟨vb, 0, none⟩) ∧ Blk wx fb fr.arr ∧ Blk wx vb ov.arr ∧ Below W.heap.size W wx)
  case first =>
    have D2 : Below W.heap.size W W.drew := (Below.refl _ _).drew
    have IS := Lib.hid (fun W' (hB : Below W.heap.size W W') => show (Has_pos W' g0 0 ∧ of_pos W' g0 0 = ⟨a, b⟩) ∧ (Has_pos W' g1 0 ∧ of_pos W' g1 0 = ⟨c, d⟩) from ⟨⟨⟨_, (X0.step hB).is_pos⟩, of_pos_eq (X0.step hB).is_pos⟩, ⟨⟨_, (Y0.step hB).is_pos⟩, of_pos_eq (Y0.step hB).is_pos⟩⟩)
    have hd2 : W.heap.size ≤ W.drew.heap.size := Nat.le_refl _
    go_region_held3 (fun w' => (Has_pos w' g0 0 ∧ of_pos w' g0 0 = ⟨a, b⟩) ∧ (Has_pos w' g1 0 ∧ of_pos w' g1 0 = ⟨c, d⟩)) ((refine IS.out _ ?_; repeat' (first | assumption | omega | (refine below_setRow' ?_ ?_ _) | (refine Below.alloc ?_ ?_ _) | (refine Below.drew ?_) | exact Below.refl _ _ | (simp; done) | (simp; omega))))
      (first
        | (go_at_call 165
           with_reducible refine callR (kat.out _) ?_
           intro wa Ba0 _ _ hza
           have Ba : Below W.heap.size W wa := below_step (by repeat' (first | assumption | omega | (refine Below.alloc ?_ ?_ _) | (refine Below.drew ?_) | exact Below.refl _ _ | (simp; done) | (simp; omega))) Ba0
           have hsa := Ba.size
           try have l1 : W.heap.size < wa.heap.size := by have := hza; simp at this; omega
           try have l2 : W.heap.size + 1 < wa.heap.size := by have := hza; simp at this; omega
           try have A1 := (Blk.new W _ _).drw.step Ba0
           try have A1 := ((Blk.new W _ _).alloc _).drw.step Ba0
           try have A2 := blk_new2d Ba0
           try have a1 := A1.plain
           try have a2 := A1.of
           try have a3 := A2.plain
           try have a4 := A2.of)
        | (go_at_call 166
           with_reducible refine callR (kof.out _) ?_
           intro wo Bo0 _ _ hzo
           have Bo : Below W.heap.size W wo := below_step (by repeat' (first | assumption | omega | (refine Below.alloc ?_ ?_ _) | (refine Below.drew ?_) | exact Below.refl _ _ | (simp; done) | (simp; omega))) Bo0
           have hso := Bo.size
           try have l3 : wa.heap.size < wo.heap.size := by have := hzo; simp at this; omega
           try have l4 : wa.heap.size + 1 < wo.heap.size := by have := hzo; simp at this; omega
           try have l5 : W.heap.size < wo.heap.size := by have := hzo; simp at this; omega
           try have l6 : W.heap.size + 1 < wo.heap.size := by have := hzo; simp at this; omega
           try have O1 := (Blk.new wa _ _).step Bo0
           try have O1 := ((Blk.new wa _ _).alloc _).step Bo0
           try have O2 := blk_new2' Bo0
           try have O3 := A1.step Bo0
           try have O3 := (A1.alloc _).step Bo0
           try have O4 := A2.step Bo0
           try have o1 := O1.plain
           try have o2 := O1.of
           try have o3 := O2.plain
           try have o4 := O2.of
           try have o5 := O3.plain
           try have o6 := O3.of
           try have o7 := O4.plain
           try have o8 := O4.of
           try have z1a := fun o => (O1.alloc o).plain
           try have z1b := fun o => (O1.alloc o).of
           try have z2a := fun o => (O2.alloc o).plain
           try have z2b := fun o => (O2.alloc o).of
           try have z3a := fun o => (O3.alloc o).plain
           try have z3b := fun o => (O3.alloc o).of
           try have z4a := fun o => (O4.alloc o).plain
           try have z4b := fun o => (O4.alloc o).of
           try have n1 : ¬ wa.heap.size = wo.heap.size := by omega
           try have n2 : ¬ wo.heap.size = wa.heap.size := by omega
           try have n3 : ¬ W.heap.size = wo.heap.size := by omega
           try have n4 : ¬ wo.heap.size = W.heap.size := by omega
           try have n5 : ¬ W.heap.size = wa.heap.size := by omega
           try have n6 : ¬ wa.heap.size = W.heap.size := by omega))
    all_goals
      go_wp2
      go_meet
      refine ⟨_, _, rfl, rfl, blk_iff.2 ⟨?_, ?_⟩, blk_iff.2 ⟨?_, ?_⟩, ?_⟩
    all_goals try (go_simp; done)
    all_goals try (simp [go_sem, *]; done)
    all_goals repeat' (first | assumption | omega | (refine below_setRow' ?_ ?_ _) | (refine Below.alloc ?_ ?_ _) | (refine Below.drew ?_) | exact Below.refl _ _ | (simp; done) | (simp; omega))
  case rest =>
    obtain ⟨fb, vb, rfl, rfl, F, V, B1⟩ := hcut
    have R1 := R0.step B1
    have BB := below_step B0 B1
    clear X0 Y0 R0 B0 B1
    obtain ⟨f1, f2, f3⟩ := fr_vec F
    have fl := F.lt
    have vl := V.lt
    go_upto_region 2 with (fail)
    have j1 : ∀ d os, Has_vec (grow (redrawn wc d) os) fb 0 := fun d os => ⟨_, f1.below (below_regrown wc d os) fl⟩
    have j2 : ∀ d os, of_vec (grow (redrawn wc d) os) fb 0 = fr.e := fun d os => of_vec_eq (f1.below (below_regrown wc d os) fl)
    have j3 : ∀ d os, Has_vec (grow (redrawn wc d) os) fb 3 := fun d os => ⟨_, f2.below (below_regrown wc d os) fl⟩
    have j4 : ∀ d os, of_vec (grow (redrawn wc d) os) fb 3 = fr.n := fun d os => of_vec_eq (f2.below (below_regrown wc d os) fl)
    have j5 : ∀ d os, Has_vec (grow (redrawn wc d) os) fb 6 := fun d os => ⟨_, f3.below (below_regrown wc d os) fl⟩
    have j6 : ∀ d os, of_vec (grow (redrawn wc d) os) fb 6 = fr.u := fun d os => of_vec_eq (f3.below (below_regrown wc d os) fl)
    have j7 : ∀ d os, Has_vec (grow (redrawn wc d) os) vb 0 := fun d os => ⟨_, V.is_vec.below (below_regrown wc d os) vl⟩
    have j8 : ∀ d os, of_vec (grow (redrawn wc d) os) vb 0 = ov := fun d os => of_vec_eq (V.is_vec.below (below_regrown wc d os) vl)
    have q1 : ∀ d os, Calls Tryz.prog 167 #[.agg fr.e.arr, .agg ov.arr] (grow (redrawn wc d) os) fun e w'' => e = .returned (.int .i64 e1) ∧ ∃ p : Regrown, w'' = grow (redrawn wc p.d) p.os := fun d os => Calls.regrown_ret (k1.out _)
    have q2 : ∀ d os, Calls Tryz.prog 167 #[.agg fr.n.arr, .agg ov.arr] (grow (redrawn wc d) os) fun e w'' => e = .returned (.int .i64 e2) ∧ ∃ p : Regrown, w'' = grow (redrawn wc p.d) p.os := fun d os => Calls.regrown_ret (k2.out _)
    have q3 : ∀ d os, Calls Tryz.prog 167 #[.agg fr.u.arr, .agg ov.arr] (grow (redrawn wc d) os) fun e w'' => e = .returned (.int .i64 e3) ∧ ∃ p : Regrown, w'' = grow (redrawn wc p.d) p.os := fun d os => Calls.regrown_ret (k3.out _)
    refine wp_region_tail_below 13 (by kernel_rfl) (by kernel_rfl) ?_
    simp only [List.take_succ_cons, List.take_zero, List.drop_succ_cons, List.drop_zero]
    repeat (quiet_step (with_reducible first | exact q1 _ _ | exact q2 _ _ | exact q3 _ _))
    refine wpQuiet_nil ?_
    intro _ hw'
    obtain ⟨⟨dq, osq⟩, hw''⟩ := hw'
    subst hw''
    have R4 := R1.step (below_regrown wc dq osq)
    have B4 := below_step BB (below_regrown wc dq osq)
    clear j1 j2 j3 j4 j5 j6 j7 j8 q1 q2 q3 F V R1
    generalize grow (redrawn wc dq) osq = w4 at R4 B4 ⊢
    have d2 := R4.plain
    have d3 := R4.of
    go_wp2
    exact bodyPost_ret (results_agg1 Tryz.results115 _ _ g2 (Vec.arr ⟨e1, e2, e3⟩) 3 _ rfl rfl (R4.set _).cell Tryz.underlying102 rfl info_vec) rfl ⟨by rw [HL.out], below_setRow' B4 hgle _⟩
end Go.Proofs.YtjgondadpjildaaGreatDoor
namespace Go.Proofs.YtjgondadpjildaaGreatDoor
open Go.RowKit Go.Sort
set_option linter.unusedVariables false
set_option linter.unusedSimpArgs false
set_option maxRecDepth 100000
attribute [local go_sem ↓] bvec_fold
attribute [local go_sem] run_bvec0 run_bvec3
set_option maxHeartbeats 2000000 in
/-- sphere.Local of two valid positions. -/
theorem sLocal_any (a b c d : Int) (ha : posB a b = true) (hc : posB c d = true) (w : World) : Calls Tryz.prog 71 #[.agg (Pos.arr ⟨a, b⟩), .agg (Pos.arr ⟨c, d⟩)] w (Ret w (.tuple #[.agg (localV a b c d).arr, .int .i64 0])) := by
  have p1 : i64 a ∧ i64 b := by simp only [posB, Bool.and_eq_true, decide_eq_true_eq] at ha; unfold i64; omega
  have p2 : i64 c ∧ i64 d := by simp only [posB, Bool.and_eq_true, decide_eq_true_eq] at hc; unfold i64; omega
  have kl := Lib.hid (slocal_any a b c d p1.1 p1.2 p2.1 p2.2)
  have k1 := Lib.hid (svalid_any a b)
  have k2 := Lib.hid (svalid_any c d)
  rw [ha] at k1
  rw [hc] at k2
  generalize localV a b c d = out at kl ⊢
  clear ha hc p1 p2
  go_enter Tryz.func71, Tryz.ntmps71
  go_upto_region 1 with (fail)
  generalize hW : ((w.alloc _).alloc _).alloc _ = W
  have X0 : Blk W w.heap.size (Pos.arr ⟨a, b⟩) := by rw [← hW]; exact ((Blk.new w _ _).alloc _).alloc _
  have Y0 : Blk W (w.heap.size + 1) (Pos.arr ⟨c, d⟩) := by rw [← hW, ← World.size_alloc w (.cells (Pos.arr ⟨a, b⟩) 23)]; exact (Blk.new _ _ _).alloc _
  have R0 : Blk W (w.heap.size + 1 + 1) (Vec.arr ⟨0, 0, 0⟩) := by rw [← hW, ← World.size_alloc w (.cells (Pos.arr ⟨a, b⟩) 23), ← World.size_alloc (w.alloc (.cells (Pos.arr ⟨a, b⟩) 23)) (.cells (Pos.arr ⟨c, d⟩) 23)]; exact Blk.new _ _ _
  have B0 : Below w.heap.size w W := by rw [← hW]; go_grown
  clear hW
  obtain ⟨g1, hg1⟩ : ∃ g, g = w.heap.size + 1 := ⟨_, rfl⟩
  obtain ⟨g2, hg2⟩ : ∃ g, g = w.heap.size + 1 + 1 := ⟨_, rfl⟩
  obtain ⟨g0, hg0⟩ : ∃ g, g = w.heap.size := ⟨_, rfl⟩
  rw [← hg2] at R0 ⊢
  rw [← hg1] at Y0 ⊢
  rw [← hg0] at X0 ⊢
  have hgle : w.heap.size ≤ g2 := by omega
  clear hg0 hg1 hg2
  have HX := Lib.hid (fun W' (h : Below W.heap.size W W') => X0.step h)
  have HY := Lib.hid (fun W' (h : Below W.heap.size W W') => Y0.step h)
  have i1 : Has_pos W g0 0 := ⟨_, X0.is_pos⟩
  have i2 : of_pos W g0 0 = ⟨a, b⟩ := of_pos_eq X0.is_pos
  go_upto_region 3 with (first
    | (go_at_call 70; (with_reducible refine callR (k1.out _) ?_); intro w1 b1 _ _ _
       have i3 : Has_pos w1 g1 0 := ⟨_, (HY.out w1 b1).is_pos⟩
       have i4 : of_pos w1 g1 0 = ⟨c, d⟩ := of_pos_eq (HY.out w1 b1).is_pos)
    | (go_at_call 70; (with_reducible refine callR (k2.out _) ?_); intro w2 b2 _ _ _))
  have b12 := below_step b1 b2
  have X2 := HX.out _ b12
  have Y2 := HY.out _ b12
  have R2 := R0.step b12
  have B2 := below_step B0 b12
  clear i1 i2 i3 i4 X0 Y0 R0 B0 HX HY b1 b2 b12
  have i1 : Has_pos w2 g0 0 := ⟨_, X2.is_pos⟩
  have i2 : of_pos w2 g0 0 = ⟨a, b⟩ := of_pos_eq X2.is_pos
  have i3 : Has_pos w2 g1 0 := ⟨_, Y2.is_pos⟩
  have i4 : of_pos w2 g1 0 = ⟨c, d⟩ := of_pos_eq Y2.is_pos
  go_wp2_with fail
  with_reducible refine callR (kl.out _) ?_
  intro w3 b3 _ _ _
  have R3 := R2.step b3
  have B3 := below_step B2 b3
  have d2 := R3.plain
  have d3 := R3.of
  clear i1 i2 i3 i4 X2 Y2 R2 B2 b3
  go_wp2
  exact bodyPost_ret (results_agg Tryz.results71 _ _ g2 out.arr 3 _ rfl rfl (R3.set _).cell Tryz.underlying102 rfl info_vec) rfl ⟨rfl, below_setRow' B3 hgle _⟩
end Go.Proofs.YtjgondadpjildaaGreatDoor
