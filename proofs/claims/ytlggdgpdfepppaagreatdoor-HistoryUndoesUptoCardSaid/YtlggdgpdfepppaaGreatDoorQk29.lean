/- navdb.Fix, navdb.Point; walks. -/
import Derived.Test.YtlggdgpdfepppaaGreatDoorQk26
import Derived.Test.YtlggdgpdfepppaaGreatDoorQk28
namespace Go.Proofs.YtlggdgpdfepppaaGreatDoor
open Go.RowKit Go.Sort
set_option linter.unusedVariables false
set_option linter.unusedSimpArgs false
set_option maxRecDepth 100000
attribute [local go_sem ↓] bfix_fold bpt_fold
attribute [local go_sem] run_bfix0 run_bpt0 run_bpt2
structure DbAt (w : World) (d : DBs) (l : List FixV) : Prop where
  ok : d.Ok
  fn : d.fn = l.length
  cap : l.length ≤ d.fc
  items : Items w d.fa 7 (l.map FixV.arr)
  len : l.length ≤ 9000000000
  small : ∀ f ∈ l, f.small
theorem DbAt.below {w w' : World} {d : DBs} {l : List FixV} (h : DbAt w d l) (hb : Below w.heap.size w w') : DbAt w' d l := ⟨h.ok, h.fn, h.cap, h.items.below hb, h.len, h.small⟩
theorem fixV_find (l : List FixV) (r : List UInt8) : fixV l r = ((findV l r).getD noFix, if (findV l r).isSome then 0 else 6) := by
  unfold fixV
  cases findV l r <;> rfl
theorem navfix_any (d : DBs) (l : List FixV) (r : List UInt8) (w : World) (hD : DbAt w d l) :
    Calls Tryz.prog 153 #[.agg d.cells, .string ⟨r.toArray⟩] w (Ret w (.tuple #[.agg (fixV l r).1.arr, .int .i64 (fixV l r).2])) := by
  have HF := Lib.hid (fixV_find l r)
  have hcall := Lib.hid (fun w' (h : Below w.heap.size w w') => fixfind_any l r d.fa d.fc w' (hD.below h).items hD.cap hD.len hD.small)
  rw [← hD.fn] at hcall
  have c6 := hD.ok.c6
  generalize fixV l r = out at HF ⊢
  generalize findV l r = o at hcall HF
  generalize d.fa = A at *
  generalize d.fn = n at *
  generalize d.fc = c at *
  generalize d.cells = cs at c6 ⊢
  clear hD
  go_enter Tryz.func153, Tryz.ntmps153
  go_upto_region 1 with (fail)
  rw [← noFix_arr]
  have X0 : Blk (w.alloc (.cells cs 48)) w.heap.size cs := Blk.new w _ _
  have B0 := alloc_below3 w (.cells cs 48)
  have hsz : (w.alloc (.cells cs 48)).heap.size = w.heap.size + 1 := World.size_alloc _ _
  generalize w.alloc _ = W0 at X0 B0 hsz ⊢
  rw [← hsz]
  have Y1 : Blk (W0.alloc (.cells noFix.arr 218)) W0.heap.size noFix.arr := Blk.new W0 _ _
  have B1 := below_step B0 (alloc_below3 W0 (.cells noFix.arr 218))
  have X1 := X0.alloc (.cells noFix.arr 218)
  have hgle : w.heap.size ≤ W0.heap.size := B0.size
  generalize W0.alloc _ = W at Y1 B1 X1 ⊢
  generalize W0.heap.size = g1 at Y1 hgle ⊢
  generalize w.heap.size = g0 at X1 ⊢
  have k6 : W.cell? ⟨g0, 6, none⟩ = some (.slice A n c) := (X1.cell 6).trans c6
  have hcall := Lib.hid (hcall.out W B1)
  clear X0 B0 hsz c6
  go_upto_region 2 with (go_at_call 177; (with_reducible refine callR hcall.out ?_); intro w2 b2 _ _ _)
  have Y2 := (Y1.step b2).alloc (.cells (o.getD noFix).arr 218)
  have Z2 := Blk.new w2 (o.getD noFix).arr 218
  have B2 := below_step (below_step B1 b2) (alloc_below3 w2 (.cells (o.getD noFix).arr 218))
  generalize w2.alloc _ = W2 at Y2 Z2 B2 ⊢
  generalize w2.heap.size = g2 at Z2 ⊢
  have d2 := Y2.plain
  have d3 := Y2.of
  clear hcall k6 X1 Y1 B1 b2
  cases o with
  | none =>
    have HO := Lib.hid (show out = (noFix, 6) from HF.out)
    clear HF
    go_wp2
    exact bodyPost_ret (results_agg Tryz.results153 _ _ g1 noFix.arr 7 _ rfl rfl (Y2.set _).cell Tryz.underlying218 rfl info_fixv) rfl ⟨by rw [HO.out]; rfl, below_setRow' B2 hgle _⟩
  | some f =>
    have HO := Lib.hid (show out = (f, 0) from HF.out)
    have Z3 : Blk W2 g2 f.arr := Z2
    have i1 : Has_fixv W2 g2 0 := ⟨_, Z3.is_fixv⟩
    have i2 : of_fixv W2 g2 0 = f := of_fixv_eq Z3.is_fixv
    clear HF
    go_wp2
    exact bodyPost_ret (results_agg Tryz.results153 _ _ g1 f.arr 7 _ rfl rfl (Y2.set _).cell Tryz.underlying218 rfl info_fixv) rfl ⟨by rw [HO.out]; rfl, below_setRow' B2 hgle _⟩
theorem pointV_find (a b : Int) (l : List FixV) (r : List UInt8) : pointV a b l r = if (fixV l r).2 = 0 then toPlane a b (fixV l r).1.lat (fixV l r).1.lon else ((0, 0), (fixV l r).2) := by
  unfold pointV fixV
  cases findV l r with
  | none => rfl
  | some f => rfl
theorem Blk.pos4 {W : World} {g : Nat} {d : DBs} (h : Blk W g d.cells) (ok : d.Ok) : Is_pos W g 4 ⟨d.lat, d.lon⟩ := fun j hj => by
  match j, hj with
  | 0, _ => exact (h.cell 4).trans ok.c4
  | 1, _ => exact (h.cell 5).trans ok.c5
set_option maxHeartbeats 2000000 in
theorem navpoint_any (d : DBs) (l : List FixV) (r : List UInt8) (w : World) (hD : DbAt w d l) :
    Calls Tryz.prog 149 #[.agg d.cells, .string ⟨r.toArray⟩] w (Ret w (.tuple #[.agg (ptP (pointV d.lat d.lon l r).1).arr, .int .i64 (pointV d.lat d.lon l r).2])) := by
  have HF := Lib.hid (pointV_find d.lat d.lon l r)
  have hcall := Lib.hid (fun w' (h : Below w.heap.size w w') => navfix_any d l r w' (hD.below h))
  have HP := Lib.hid (planeto_any d.lat d.lon (fixV l r).1.lat (fixV l r).1.lon)
  have HP4 := Lib.hid (fun W g (h : Blk W g d.cells) => h.pos4 hD.ok)
  have hsz9 := hD.ok.size
  generalize fixV l r = fe at *
  generalize pointV d.lat d.lon l r = out at HF ⊢
  generalize hto : toPlane d.lat d.lon fe.1.lat fe.1.lon = pt at *
  obtain ⟨f, e⟩ := fe
  generalize d.cells = cs at *
  generalize d.lat = la at *
  generalize d.lon = lo at *
  clear hD hto
  go_enter Tryz.func149, Tryz.ntmps149
  go_upto_region 1 with (fail)
  have X0 : Blk (w.alloc (.cells cs 48)) w.heap.size cs := Blk.new w _ _
  have B0 := alloc_below3 w (.cells cs 48)
  have hsz : (w.alloc (.cells cs 48)).heap.size = w.heap.size + 1 := World.size_alloc _ _
  generalize w.alloc _ = W0 at X0 B0 hsz ⊢
  rw [← hsz]
  have Y1 : Blk (W0.alloc (.cells (Pt.arr ⟨0, 0⟩) 79)) W0.heap.size (Pt.arr ⟨0, 0⟩) := Blk.new W0 _ _
  have B1 := below_step B0 (alloc_below3 W0 (.cells (Pt.arr ⟨0, 0⟩) 79))
  have X1 := X0.alloc (.cells (Pt.arr ⟨0, 0⟩) 79)
  have hgle : w.heap.size ≤ W0.heap.size := B0.size
  generalize hW : W0.alloc _ = W
  have hE : W0.alloc (.cells (Pt.arr ⟨0, 0⟩) 79) = W := hW
  rw [hE] at Y1 B1 X1
  clear hW hE
  generalize W0.heap.size = g1 at Y1 hgle ⊢
  generalize w.heap.size = g0 at X1 ⊢
  have i1 : Has_db W g0 0 := ⟨_, X1.is_db hsz9⟩
  have i2 : of_db W g0 0 = cs := of_db_eq (X1.is_db hsz9)
  have hcall := Lib.hid (hcall.out W B1)
  clear X0 B0 hsz
  go_upto_region 2 with (go_at_call 153; (with_reducible refine callR hcall.out ?_); intro w2 b2 _ _ _)
  have Y2 := (Y1.step b2).alloc (.cells f.arr 218)
  have X2 := (X1.step b2).alloc (.cells f.arr 218)
  have Z2 := Blk.new w2 f.arr 218
  have B2 := below_step (below_step B1 b2) (alloc_below3 w2 (.cells f.arr 218))
  generalize hW : w2.alloc _ = W2
  have hE : w2.alloc (.cells f.arr 218) = W2 := hW
  rw [hE] at Y2 X2 Z2 B2
  clear hW hE
  generalize w2.heap.size = g2 at Z2 ⊢
  have d2 := Y2.plain
  have d3 := Y2.of
  clear hcall i1 i2 X1 Y1 B1 b2
  by_cases he : e = 0
  · have HO := Lib.hid (show out = pt by rw [HF.out]; exact if_pos he)
    have j1 : Has_pos W2 g0 4 := ⟨_, HP4.out _ _ X2⟩
    have j2 : of_pos W2 g0 4 = ⟨la, lo⟩ := of_pos_eq (HP4.out _ _ X2)
    have j3 : Has_pos W2 g2 3 := ⟨_, f.pos Z2.is_fixv⟩
    have j4 : of_pos W2 g2 3 = ⟨f.lat, f.lon⟩ := of_pos_eq (f.pos Z2.is_fixv)
    clear HF
    have HY := Lib.hid (fun W' (h : Below W2.heap.size W2 W') => Y2.step h)
    have HB := Lib.hid (fun W' (h : Below W2.heap.size W2 W') => below_step B2 h)
    clear d2 d3 Y2 B2
    go_wp2_with (go_at_call 170; (with_reducible refine callR (HP.out _) ?_); intro w3 b3 _ _ _; have d2 := (HY.out _ b3).plain; have d3 := (HY.out _ b3).of)
    exact bodyPost_ret (results_agg Tryz.results149 _ _ g1 (ptP pt.1).arr 2 _ rfl rfl ((HY.out _ b3).set _).cell Tryz.underlying79 rfl info_pt) rfl ⟨by rw [HO.out]; rfl, below_setRow' (HB.out _ b3) hgle _⟩
  · have HO := Lib.hid (show out = ((0, 0), e) by rw [HF.out]; exact if_neg he)
    clear HF
    go_wp2
    exact bodyPost_ret (results_agg Tryz.results149 _ _ g1 (Pt.arr ⟨0, 0⟩) 2 _ rfl rfl (Y2.set _).cell Tryz.underlying79 rfl info_pt) rfl ⟨by rw [HO.out]; rfl, below_setRow' B2 hgle _⟩
end Go.Proofs.YtlggdgpdfepppaaGreatDoor
