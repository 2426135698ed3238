/- Blocks of the caller's own that are written: rules of the walk. The form in which an entry may begin: plan.starting and the reference's start. The reference's start. One or two entries laid into a new row (what append takes). -/
import Derived.Test.YtijfmfdnagjlpaaGreatDoorPk06
import Derived.Laws.CopyRow
import Derived.Test.YtijfmfdnagjlpaaGreatDoorPk05
import Derived.Great.BuildSlice
namespace Go.Proofs.YtijfmfdnagjlpaaGreatDoor
open Go.RowKit
set_option linter.unusedVariables false
set_option linter.unusedSimpArgs false
theorem Leg.arr_oneL (x : Leg) : x.arr.toList.all (·.oneCell') = true := by simp [Leg.arr, Value.oneCell']
theorem Entry.arr_oneL (x : Entry) : x.arr.toList.all (·.oneCell') = true := by simp [Entry.arr, Value.oneCell']
theorem Pt.arr_oneL (x : Pt) : x.arr.toList.all (·.oneCell') = true := by simp [Pt.arr, Value.oneCell']
theorem Win.arr_oneL (x : Win) : x.arr.toList.all (·.oneCell') = true := by simp [Win.arr, Value.oneCell']
theorem SzIs_leg (x : Leg) (n : Nat) : SzIs x.arr n = (13 = n) := propext ⟨fun h => h, fun h => h⟩
theorem SzIs_ent (x : Entry) (n : Nat) : SzIs x.arr n = (20 = n) := propext ⟨fun h => h, fun h => h⟩
theorem SzIs_pt (x : Pt) (n : Nat) : SzIs x.arr n = (2 = n) := propext ⟨fun h => h, fun h => h⟩
theorem SzIs_win (x : Win) (n : Nat) : SzIs x.arr n = (2 = n) := propext ⟨fun h => h, fun h => h⟩
theorem Fits_leg (x : Leg) (o n : Nat) : Fits o n x.arr = (o + n ≤ 13) := propext ⟨fun h => h, fun h => h⟩
theorem Fits_ent (x : Entry) (o n : Nat) : Fits o n x.arr = (o + n ≤ 20) := propext ⟨fun h => h, fun h => h⟩
attribute [go_sem] SzIs_leg SzIs_ent SzIs_pt SzIs_win Fits_leg Fits_ent
theorem Ones_leg (x : Leg) : Ones x.arr = True := eq_true (Leg.arr_oneL x)
theorem Ones_ent (x : Entry) : Ones x.arr = True := eq_true (Entry.arr_oneL x)
theorem Ones_pt (x : Pt) : Ones x.arr = True := eq_true (Pt.arr_oneL x)
theorem Ones_win (x : Win) : Ones x.arr = True := eq_true (Win.arr_oneL x)
attribute [go_sem] Ones_leg Ones_ent Ones_pt Ones_win
theorem run_storeB_pt (W : World) (g o : Nat) (v : Array Value) (hv : SzIs v 2) (h1 : Ones v) (hp : Plain W g) (hn : Fits o 2 (blkOf W g)) :
    (store_pt (.pointer (some ⟨g, o, none⟩)) (.agg v)).run Tryz.prog W = .ok () (W.setRow g (splice (blkOf W g) o v)) := run_store_blk W g o 2 _ v info_pt hv h1 hp hn
theorem Blk.is_pt {W : World} {g : Nat} {x : Pt} (h : Blk W g x.arr) : Is_pt W g 0 x := fun j _ => by rw [Nat.zero_add]; exact h.cell j
theorem Has_pt_set (W : World) (g : Nat) (x : Pt) (h : Plain W g) : Has_pt (W.setRow g x.arr) g 0 = True := eq_true ⟨x, fun j _ => by rw [Nat.zero_add]; exact cell_set W g j x.arr h⟩
theorem of_pt_set (W : World) (g : Nat) (x : Pt) (h : Plain W g) : of_pt (W.setRow g x.arr) g 0 = x := of_pt_eq fun j _ => by rw [Nat.zero_add]; exact cell_set W g j x.arr h
attribute [go_sem] run_storeB_pt Has_pt_set of_pt_set
theorem run_storeB_win (W : World) (g o : Nat) (v : Array Value) (hv : SzIs v 2) (h1 : Ones v) (hp : Plain W g) (hn : Fits o 2 (blkOf W g)) :
    (store_win (.pointer (some ⟨g, o, none⟩)) (.agg v)).run Tryz.prog W = .ok () (W.setRow g (splice (blkOf W g) o v)) := run_store_blk W g o 2 _ v info_win hv h1 hp hn
theorem Blk.is_win {W : World} {g : Nat} {x : Win} (h : Blk W g x.arr) : Is_win W g 0 x := fun j _ => by rw [Nat.zero_add]; exact h.cell j
theorem Has_win_set (W : World) (g : Nat) (x : Win) (h : Plain W g) : Has_win (W.setRow g x.arr) g 0 = True := eq_true ⟨x, fun j _ => by rw [Nat.zero_add]; exact cell_set W g j x.arr h⟩
theorem of_win_set (W : World) (g : Nat) (x : Win) (h : Plain W g) : of_win (W.setRow g x.arr) g 0 = x := of_win_eq fun j _ => by rw [Nat.zero_add]; exact cell_set W g j x.arr h
attribute [go_sem] run_storeB_win Has_win_set of_win_set
theorem run_storeB_leg (W : World) (g o : Nat) (v : Array Value) (hv : SzIs v 13) (h1 : Ones v) (hp : Plain W g) (hn : Fits o 13 (blkOf W g)) :
    (store_leg (.pointer (some ⟨g, o, none⟩)) (.agg v)).run Tryz.prog W = .ok () (W.setRow g (splice (blkOf W g) o v)) := run_store_blk W g o 13 _ v info_leg hv h1 hp hn
theorem Blk.is_leg {W : World} {g : Nat} {x : Leg} (h : Blk W g x.arr) : Is_leg W g 0 x := fun j _ => by rw [Nat.zero_add]; exact h.cell j
theorem Has_leg_set (W : World) (g : Nat) (x : Leg) (h : Plain W g) : Has_leg (W.setRow g x.arr) g 0 = True := eq_true ⟨x, fun j _ => by rw [Nat.zero_add]; exact cell_set W g j x.arr h⟩
theorem of_leg_set (W : World) (g : Nat) (x : Leg) (h : Plain W g) : of_leg (W.setRow g x.arr) g 0 = x := of_leg_eq fun j _ => by rw [Nat.zero_add]; exact cell_set W g j x.arr h
attribute [go_sem] run_storeB_leg Has_leg_set of_leg_set
theorem run_storeB_ent (W : World) (g o : Nat) (v : Array Value) (hv : SzIs v 20) (h1 : Ones v) (hp : Plain W g) (hn : Fits o 20 (blkOf W g)) :
    (store_ent (.pointer (some ⟨g, o, none⟩)) (.agg v)).run Tryz.prog W = .ok () (W.setRow g (splice (blkOf W g) o v)) := run_store_blk W g o 20 _ v info_ent hv h1 hp hn
theorem Blk.is_ent {W : World} {g : Nat} {x : Entry} (h : Blk W g x.arr) : Is_ent W g 0 x := fun j _ => by rw [Nat.zero_add]; exact h.cell j
theorem Has_ent_set (W : World) (g : Nat) (x : Entry) (h : Plain W g) : Has_ent (W.setRow g x.arr) g 0 = True := eq_true ⟨x, fun j _ => by rw [Nat.zero_add]; exact cell_set W g j x.arr h⟩
theorem of_ent_set (W : World) (g : Nat) (x : Entry) (h : Plain W g) : of_ent (W.setRow g x.arr) g 0 = x := of_ent_eq fun j _ => by rw [Nat.zero_add]; exact cell_set W g j x.arr h
attribute [go_sem] run_storeB_ent Has_ent_set of_ent_set
theorem run_storeN_pt (w : World) (c c' : Array Value) (hc : SzIs c 2) (hc' : SzIs c' 2) (h1 : Ones c') :
    (store_pt (.pointer (some ⟨w.heap.size, 0, none⟩)) (.agg c')).run Tryz.prog (w.alloc (.cells c 28)) = .ok () (w.alloc (.cells c' 28)) :=
  run_store_pt w c c' hc hc' (Array.all_eq_true_iff_forall_mem.2 fun v hv => (List.all_eq_true.1 (show c'.toList.all (·.oneCell') = true from h1)) v (by simpa using hv))
attribute [go_sem] run_storeN_pt
theorem run_storeN_win (w : World) (c c' : Array Value) (hc : SzIs c 2) (hc' : SzIs c' 2) (h1 : Ones c') :
    (store_win (.pointer (some ⟨w.heap.size, 0, none⟩)) (.agg c')).run Tryz.prog (w.alloc (.cells c 81)) = .ok () (w.alloc (.cells c' 81)) :=
  run_store_win w c c' hc hc' (Array.all_eq_true_iff_forall_mem.2 fun v hv => (List.all_eq_true.1 (show c'.toList.all (·.oneCell') = true from h1)) v (by simpa using hv))
attribute [go_sem] run_storeN_win
theorem run_storeN_leg (w : World) (c c' : Array Value) (hc : SzIs c 13) (hc' : SzIs c' 13) (h1 : Ones c') :
    (store_leg (.pointer (some ⟨w.heap.size, 0, none⟩)) (.agg c')).run Tryz.prog (w.alloc (.cells c 84)) = .ok () (w.alloc (.cells c' 84)) :=
  run_store_leg w c c' hc hc' (Array.all_eq_true_iff_forall_mem.2 fun v hv => (List.all_eq_true.1 (show c'.toList.all (·.oneCell') = true from h1)) v (by simpa using hv))
attribute [go_sem] run_storeN_leg
theorem run_storeN_ent (w : World) (c c' : Array Value) (hc : SzIs c 20) (hc' : SzIs c' 20) (h1 : Ones c') :
    (store_ent (.pointer (some ⟨w.heap.size, 0, none⟩)) (.agg c')).run Tryz.prog (w.alloc (.cells c 87)) = .ok () (w.alloc (.cells c' 87)) :=
  run_store_ent w c c' hc hc' (Array.all_eq_true_iff_forall_mem.2 fun v hv => (List.all_eq_true.1 (show c'.toList.all (·.oneCell') = true from h1)) v (by simpa using hv))
attribute [go_sem] run_storeN_ent
end Go.Proofs.YtijfmfdnagjlpaaGreatDoor
namespace Go.Proofs.YtijfmfdnagjlpaaGreatDoor
open Go.RowKit
set_option linter.unusedVariables false
set_option linter.unusedSimpArgs false
/-- A track, an arc becomes an initial fix. -/
def startForm (x : Entry) : Entry := ⟨x.gap, ⟨1, x.leg.fix, [], 0, false, 0, 0, 0, 0, x.leg.lo, x.leg.hi, x.leg.speed, x.leg.rnp⟩, x.ex, x.ey, 0, 0, x.sec, x.via⟩
def stF (x : Entry) : Entry := ⟨x.gap, ⟨1, x.leg.fix, [], 0, false, 0, 0, 0, 0, x.leg.lo, x.leg.hi, x.leg.speed, x.leg.rnp⟩, x.ex, x.ey, x.mx, x.my, x.sec, x.via⟩
def startAble (t : Int) : Bool := t == 2 || t == 5 || t == 6
def zeroE : Entry := ⟨false, ⟨0, [], [], 0, false, 0, 0, 0, 0, 0, 0, 0, 0⟩, 0, 0, 0, 0, 0, []⟩
def startOf (x : Entry) : Entry × Bool := if startsB x.leg.ty then (x, true) else if startAble x.leg.ty then (startForm x, true) else (zeroE, false)
theorem Win.arr_mk (a b : Int) : Win.arr ⟨a, b⟩ = #[.int .i64 a, .int .i64 b] := rfl
theorem Pt.arr_mk (a b : Int) : Pt.arr ⟨a, b⟩ = #[.int .i64 a, .int .i64 b] := rfl
attribute [local go_sem] Win.arr_mk Pt.arr_mk
theorem Entry.is_win {W : World} {g : Nat} {x : Entry} (h : Blk W g x.arr) : Is_win W g 10 ⟨x.leg.lo, x.leg.hi⟩ := by
  intro j hj
  rw [h.cell]
  match j, hj with
  | 0, _ | 1, _ => rfl
theorem results_ent {fn : Func} {p t : Tmp} (h : fn.results = #[.cell p 87, .tmp t]) (tmps : Array Value) (w : World) (g : Nat) (x : Entry) (hp : tmps.getD p undef = .pointer (some ⟨g, 0, none⟩)) (hx : Is_ent w g 0 x) :
    (results fn tmps).run Tryz.prog w = .ok (.tuple #[.agg x.arr, tmps.getD t undef]) w := by
  have hp' : tmps[p]?.getD undef = .pointer (some ⟨g, 0, none⟩) := by simpa using hp
  have hl := run_load_agg (P := Tryz.prog) w ⟨g, 0, none⟩ 87 x.arr.toList _ (fun j v hv => by
    rw [addr_add, hx j (by have := (List.getElem?_eq_some_iff.1 hv).1; simpa [Entry.arr_size] using this)]
    simpa using hv) Tryz.underlying87 rfl info_ent
  simp [results, h, hp', asAddr, hl]
theorem Ret.start {w w' : World} {r : Entry × Bool} {x : Entry} {b : Bool} (h : r = (x, b)) (hw : Below w.heap.size w w') : Ret w (.tuple #[r.1.val, .bool r.2]) (.returned (.tuple #[.agg x.arr, .bool b])) w' := by
  subst h; exact ⟨rfl, hw⟩
end Go.Proofs.YtijfmfdnagjlpaaGreatDoor
namespace Go.Proofs.YtijfmfdnagjlpaaGreatDoor
open Go.RowKit
set_option linter.unusedVariables false
set_option linter.unusedSimpArgs false
def stL (x : Entry) : Leg := ⟨1, x.leg.fix, [], 0, false, 0, 0, 0, 0, x.leg.lo, x.leg.hi, x.leg.speed, x.leg.rnp⟩
def rstartForm (x : Entry) : Entry := ⟨false, stL x, x.ex, x.ey, 0, 0, x.sec, x.via⟩
def rstartOf (x : Entry) : Entry × Bool := if startsB x.leg.ty then (x, true) else if startAble x.leg.ty then (rstartForm x, true) else (x, false)
attribute [local go_sem] Win.arr_mk Pt.arr_mk
theorem Entry.is_pt {W : World} {g : Nat} {x : Entry} (h : Blk W g x.arr) : Is_pt W g 14 ⟨x.ex, x.ey⟩ := by
  intro j hj
  rw [h.cell]
  match j, hj with
  | 0, _ | 1, _ => rfl
end Go.Proofs.YtijfmfdnagjlpaaGreatDoor
namespace Go.Proofs.YtijfmfdnagjlpaaGreatDoor
open Go.RowKit
set_option linter.unusedVariables false
set_option linter.unusedSimpArgs false
theorem info_ent_all : (Tryz.prog.info? 87).map (fun i => (i.zero, i.size, i.bytes)) = some (some zeroE.val, 20, 176) := by kernel_rfl
def bs1 (parts : Array (Nat × Value)) : Sem Value := Instr.buildSlice 24 1 parts
theorem bs1_fold (parts : Array (Nat × Value)) : Instr.buildSlice 24 1 parts = bs1 parts := rfl
def bs2 (parts : Array (Nat × Value)) : Sem Value := Instr.buildSlice 24 2 parts
theorem bs2_fold (parts : Array (Nat × Value)) : Instr.buildSlice 24 2 parts = bs2 parts := rfl
theorem run_bs1 (w : World) (x : Entry) : (bs1 #[(0, .agg x.arr)]).run Tryz.prog w = .ok (.slice (some ⟨w.heap.size, 0, none⟩) 1 1) (w.alloc (.cells x.arr 87)) := by
  obtain ⟨i0, hi, hz0, hz1, hz2⟩ := info_parts info_ent_all
  refine run_buildSlice w 24 87 1 #[(0, .agg x.arr)] x.arr i0 _ Tryz.underlying24 hi hz0 (by rw [hz1]; decide) (by rw [hz1]; decide) ?_
  rw [hz1]
  kernel_rfl
theorem run_bs2 (w : World) (x y : Entry) : (bs2 #[(0, .agg x.arr), (1, .agg y.arr)]).run Tryz.prog w = .ok (.slice (some ⟨w.heap.size, 0, none⟩) 2 2) (w.alloc (.cells (x.arr ++ y.arr) 87)) := by
  obtain ⟨i0, hi, hz0, hz1, hz2⟩ := info_parts info_ent_all
  refine run_buildSlice w 24 87 2 #[(0, .agg x.arr), (1, .agg y.arr)] (x.arr ++ y.arr) i0 _ Tryz.underlying24 hi hz0 (by rw [hz1]; decide) (by rw [hz1]; decide) ?_
  rw [hz1]
  kernel_rfl
attribute [go_sem ↓] bs1_fold bs2_fold
attribute [go_sem] run_bs1
end Go.Proofs.YtijfmfdnagjlpaaGreatDoor
