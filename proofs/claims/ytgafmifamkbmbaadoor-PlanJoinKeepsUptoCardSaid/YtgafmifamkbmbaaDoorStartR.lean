/- The reference's start. -/
import Derived.Test.YtgafmifamkbmbaaDoorStart
namespace Go.Proofs.YtgafmifamkbmbaaDoor
open Go.RowKit
set_option linter.unusedVariables false
set_option linter.unusedSimpArgs false
def stL (x : Entry) : Leg := ⟨1, x.leg.fix, [], 0, false, 0, 0, 0, 0, x.leg.lo, x.leg.hi, x.leg.speed, x.leg.rnp⟩
def rstartForm (x : Entry) : Entry := ⟨false, stL x, x.ex, x.ey, 0, 0, x.sec, x.via⟩
def rstartOf (x : Entry) : Entry × Bool := if startsB x.leg.ty then (x, true) else if startAble x.leg.ty then (rstartForm x, true) else (x, false)
attribute [local go_sem] Win.arr_mk Pt.arr_mk
theorem Entry.is_pt {W : World} {g : Nat} {x : Entry} (h : Blk W g x.arr) : Is_pt W g 14 ⟨x.ex, x.ey⟩ := by
  intro j hj
  rw [h.cell]
  match j, hj with
  | 0, _ | 1, _ => rfl
set_option maxHeartbeats 4000000 in
set_option maxRecDepth 100000 in
theorem rstart_any (x : Entry) (w : World) : Calls Tryd.prog 35 #[x.val] w (Ret w (.tuple #[(rstartOf x).1.val, .bool (rstartOf x).2])) := by
  obtain ⟨a1, h1⟩ : ∃ a, startsB x.leg.ty = a := ⟨_, rfl⟩
  obtain ⟨a2, h2⟩ : ∃ a, (x.leg.ty != 2) = a := ⟨_, rfl⟩
  obtain ⟨a5, h5⟩ : ∃ a, (x.leg.ty != 5) = a := ⟨_, rfl⟩
  obtain ⟨a6, h6⟩ : ∃ a, (x.leg.ty != 6) = a := ⟨_, rfl⟩
  have hs := Lib.hid (show rstartOf x = if a1 then (x, true) else if !(a2 && a5 && a6) then (rstartForm x, true) else (x, false) by
    rw [rstartOf, startAble, ← h1, ← h2, ← h5, ← h6]; simp [bne, Bool.or_assoc])
  go_enter Tryd.func35, Tryd.ntmps35
  go_upto_region 1 with (fail)
  generalize hW : (w.alloc _).alloc _ = W
  have X0 : Blk W w.heap.size x.arr := by rw [← hW]; exact (Blk.new w x.arr _).alloc _
  have R0 : Blk W (w.heap.size + 1) zeroE.arr := by rw [← hW, ← World.size_alloc w (.cells x.arr 41)]; exact Blk.new _ _ _
  have B0 : Below w.heap.size w W := by rw [← hW]; go_grown
  clear hW
  have c0 := X0.lt
  have c1 := X0.cell
  have c2 := X0.plain
  have c3 := X0.of
  have c4 : Has_ent W w.heap.size 0 := ⟨x, X0.is_ent⟩
  have c5 : of_ent W w.heap.size 0 = x := of_ent_eq X0.is_ent
  have c6 : Has_win W w.heap.size 10 := ⟨_, Entry.is_win X0⟩
  have c7 : of_win W w.heap.size 10 = ⟨x.leg.lo, x.leg.hi⟩ := of_win_eq (Entry.is_win X0)
  have c8 : Has_pt W w.heap.size 14 := ⟨_, Entry.is_pt X0⟩
  have c9 : of_pt W w.heap.size 14 = ⟨x.ex, x.ey⟩ := of_pt_eq (Entry.is_pt X0)
  have d0 := R0.lt
  have d1 := R0.cell
  have d2 := R0.plain
  have d3 := R0.of
  have g1 : Has_leg (W.alloc (.cells #[.int .u8 1, .string ⟨x.leg.fix.toArray⟩, .string ⟨#[]⟩, .int .u8 0, .bool false, .int .i64 0, .int .i64 0, .int .i64 0, .int .i64 0, .int .i64 x.leg.lo, .int .i64 x.leg.hi, .int .i64 x.leg.speed, .int .i64 x.leg.rnp] 37)) W.heap.size 0 := ⟨stL x, Is_leg_new W (stL x) _⟩
  have g2 : of_leg (W.alloc (.cells #[.int .u8 1, .string ⟨x.leg.fix.toArray⟩, .string ⟨#[]⟩, .int .u8 0, .bool false, .int .i64 0, .int .i64 0, .int .i64 0, .int .i64 0, .int .i64 x.leg.lo, .int .i64 x.leg.hi, .int .i64 x.leg.speed, .int .i64 x.leg.rnp] 37)) W.heap.size 0 = stL x := of_leg_eq (Is_leg_new W (stL x) _)
  have g3 : (stL x).arr = #[.int .u8 1, .string ⟨x.leg.fix.toArray⟩, .string ⟨#[]⟩, .int .u8 0, .bool false, .int .i64 0, .int .i64 0, .int .i64 0, .int .i64 0, .int .i64 x.leg.lo, .int .i64 x.leg.hi, .int .i64 x.leg.speed, .int .i64 x.leg.rnp] := rfl
  have f4 : splice zeroE.arr 0 x.arr = x.arr := rfl
  cases a1
  · cases a2
    · go_wp2_with (go_at_call 31; refine callP (rstarts_any _ _) ?_)
      exact bodyPost_ret (results_ent Tryd.results35 _ _ (w.heap.size + 1) (rstartForm x) rfl (((R0.alloc _).set (rstartForm x).arr).is_ent)) rfl (Ret.start (by rw [hs.out]; rfl) (below_setRow' (below_step B0 ((Below.refl _ _).alloc (Nat.le_refl _) _)) (by omega) _))
    · cases a5
      · go_wp2_with (go_at_call 31; refine callP (rstarts_any _ _) ?_)
        exact bodyPost_ret (results_ent Tryd.results35 _ _ (w.heap.size + 1) (rstartForm x) rfl (((R0.alloc _).set (rstartForm x).arr).is_ent)) rfl (Ret.start (by rw [hs.out]; rfl) (below_setRow' (below_step B0 ((Below.refl _ _).alloc (Nat.le_refl _) _)) (by omega) _))
      · cases a6
        · go_wp2_with (go_at_call 31; refine callP (rstarts_any _ _) ?_)
          exact bodyPost_ret (results_ent Tryd.results35 _ _ (w.heap.size + 1) (rstartForm x) rfl (((R0.alloc _).set (rstartForm x).arr).is_ent)) rfl (Ret.start (by rw [hs.out]; rfl) (below_setRow' (below_step B0 ((Below.refl _ _).alloc (Nat.le_refl _) _)) (by omega) _))
        · go_wp2_with (go_at_call 31; refine callP (rstarts_any _ _) ?_)
          exact bodyPost_ret (results_ent Tryd.results35 _ _ (w.heap.size + 1) x rfl ((R0.set x.arr).is_ent)) rfl (Ret.start (by rw [hs.out]; rfl) (below_setRow' B0 (by omega) _))
  · go_wp2_with (go_at_call 31; refine callP (rstarts_any _ _) ?_)
    exact bodyPost_ret (results_ent Tryd.results35 _ _ (w.heap.size + 1) x rfl ((R0.set x.arr).is_ent)) rfl (Ret.start (by rw [hs.out]; rfl) (below_setRow' B0 (by omega) _))
end Go.Proofs.YtgafmifamkbmbaaDoor
