/- Blocks of the caller's own that are written: rules of the walk. -/
import Derived.Test.YtjgondadpjildaaGreatDoorPk13
import Derived.Laws.CopyRow
namespace Go.Proofs.YtjgondadpjildaaGreatDoor
open Go.RowKit
set_option linter.unusedVariables false
set_option linter.unusedSimpArgs false
theorem Leg.arr_oneL (x : Leg) : x.arr.toList.all (·.oneCell') = true := by simp [Leg.arr, Value.oneCell']
theorem Entry.arr_oneL (x : Entry) : x.arr.toList.all (·.oneCell') = true := by simp [Entry.arr, Value.oneCell']
theorem Pt.arr_oneL (x : Pt) : x.arr.toList.all (·.oneCell') = true := by simp [Pt.arr, Value.oneCell']
theorem Win.arr_oneL (x : Win) : x.arr.toList.all (·.oneCell') = true := by simp [Win.arr, Value.oneCell']
theorem SzIs_leg (x : Leg) (n : Nat) : SzIs x.arr n = (13 = n) := propext ⟨fun h => h, fun h => h⟩
theorem SzIs_ent (x : Entry) (n : Nat) : SzIs x.arr n = (20 = n) := propext ⟨fun h => h, fun h => h⟩
theorem SzIs_pt (x : Pt) (n : Nat) : SzIs x.arr n = (2 = n) := propext ⟨fun h => h, fun h => h⟩
theorem SzIs_win (x : Win) (n : Nat) : SzIs x.arr n = (2 = n) := propext ⟨fun h => h, fun h => h⟩
theorem Fits_leg (x : Leg) (o n : Nat) : Fits o n x.arr = (o + n ≤ 13) := propext ⟨fun h => h, fun h => h⟩
theorem Fits_ent (x : Entry) (o n : Nat) : Fits o n x.arr = (o + n ≤ 20) := propext ⟨fun h => h, fun h => h⟩
attribute [go_sem] SzIs_leg SzIs_ent SzIs_pt SzIs_win Fits_leg Fits_ent
theorem Ones_leg (x : Leg) : Ones x.arr = True := eq_true (Leg.arr_oneL x)
theorem Ones_ent (x : Entry) : Ones x.arr = True := eq_true (Entry.arr_oneL x)
theorem Ones_pt (x : Pt) : Ones x.arr = True := eq_true (Pt.arr_oneL x)
theorem Ones_win (x : Win) : Ones x.arr = True := eq_true (Win.arr_oneL x)
attribute [go_sem] Ones_leg Ones_ent Ones_pt Ones_win
theorem run_storeB_pt (W : World) (g o : Nat) (v : Array Value) (hv : SzIs v 2) (h1 : Ones v) (hp : Plain W g) (hn : Fits o 2 (blkOf W g)) :
    (store_pt (.pointer (some ⟨g, o, none⟩)) (.agg v)).run Tryz.prog W = .ok () (W.setRow g (splice (blkOf W g) o v)) := run_store_blk W g o 2 _ v info_pt hv h1 hp hn
theorem Blk.is_pt {W : World} {g : Nat} {x : Pt} (h : Blk W g x.arr) : Is_pt W g 0 x := fun j _ => by rw [Nat.zero_add]; exact h.cell j
theorem Has_pt_set (W : World) (g : Nat) (x : Pt) (h : Plain W g) : Has_pt (W.setRow g x.arr) g 0 = True := eq_true ⟨x, fun j _ => by rw [Nat.zero_add]; exact cell_set W g j x.arr h⟩
theorem of_pt_set (W : World) (g : Nat) (x : Pt) (h : Plain W g) : of_pt (W.setRow g x.arr) g 0 = x := of_pt_eq fun j _ => by rw [Nat.zero_add]; exact cell_set W g j x.arr h
attribute [go_sem] run_storeB_pt Has_pt_set of_pt_set
theorem run_storeB_win (W : World) (g o : Nat) (v : Array Value) (hv : SzIs v 2) (h1 : Ones v) (hp : Plain W g) (hn : Fits o 2 (blkOf W g)) :
    (store_win (.pointer (some ⟨g, o, none⟩)) (.agg v)).run Tryz.prog W = .ok () (W.setRow g (splice (blkOf W g) o v)) := run_store_blk W g o 2 _ v info_win hv h1 hp hn
theorem Blk.is_win {W : World} {g : Nat} {x : Win} (h : Blk W g x.arr) : Is_win W g 0 x := fun j _ => by rw [Nat.zero_add]; exact h.cell j
theorem Has_win_set (W : World) (g : Nat) (x : Win) (h : Plain W g) : Has_win (W.setRow g x.arr) g 0 = True := eq_true ⟨x, fun j _ => by rw [Nat.zero_add]; exact cell_set W g j x.arr h⟩
theorem of_win_set (W : World) (g : Nat) (x : Win) (h : Plain W g) : of_win (W.setRow g x.arr) g 0 = x := of_win_eq fun j _ => by rw [Nat.zero_add]; exact cell_set W g j x.arr h
attribute [go_sem] run_storeB_win Has_win_set of_win_set
theorem run_storeB_leg (W : World) (g o : Nat) (v : Array Value) (hv : SzIs v 13) (h1 : Ones v) (hp : Plain W g) (hn : Fits o 13 (blkOf W g)) :
    (store_leg (.pointer (some ⟨g, o, none⟩)) (.agg v)).run Tryz.prog W = .ok () (W.setRow g (splice (blkOf W g) o v)) := run_store_blk W g o 13 _ v info_leg hv h1 hp hn
theorem Blk.is_leg {W : World} {g : Nat} {x : Leg} (h : Blk W g x.arr) : Is_leg W g 0 x := fun j _ => by rw [Nat.zero_add]; exact h.cell j
theorem Has_leg_set (W : World) (g : Nat) (x : Leg) (h : Plain W g) : Has_leg (W.setRow g x.arr) g 0 = True := eq_true ⟨x, fun j _ => by rw [Nat.zero_add]; exact cell_set W g j x.arr h⟩
theorem of_leg_set (W : World) (g : Nat) (x : Leg) (h : Plain W g) : of_leg (W.setRow g x.arr) g 0 = x := of_leg_eq fun j _ => by rw [Nat.zero_add]; exact cell_set W g j x.arr h
attribute [go_sem] run_storeB_leg Has_leg_set of_leg_set
theorem run_storeB_ent (W : World) (g o : Nat) (v : Array Value) (hv : SzIs v 20) (h1 : Ones v) (hp : Plain W g) (hn : Fits o 20 (blkOf W g)) :
    (store_ent (.pointer (some ⟨g, o, none⟩)) (.agg v)).run Tryz.prog W = .ok () (W.setRow g (splice (blkOf W g) o v)) := run_store_blk W g o 20 _ v info_ent hv h1 hp hn
theorem Blk.is_ent {W : World} {g : Nat} {x : Entry} (h : Blk W g x.arr) : Is_ent W g 0 x := fun j _ => by rw [Nat.zero_add]; exact h.cell j
theorem Has_ent_set (W : World) (g : Nat) (x : Entry) (h : Plain W g) : Has_ent (W.setRow g x.arr) g 0 = True := eq_true ⟨x, fun j _ => by rw [Nat.zero_add]; exact cell_set W g j x.arr h⟩
theorem of_ent_set (W : World) (g : Nat) (x : Entry) (h : Plain W g) : of_ent (W.setRow g x.arr) g 0 = x := of_ent_eq fun j _ => by rw [Nat.zero_add]; exact cell_set W g j x.arr h
attribute [go_sem] run_storeB_ent Has_ent_set of_ent_set
theorem run_storeN_pt (w : World) (c c' : Array Value) (hc : SzIs c 2) (hc' : SzIs c' 2) (h1 : Ones c') :
    (store_pt (.pointer (some ⟨w.heap.size, 0, none⟩)) (.agg c')).run Tryz.prog (w.alloc (.cells c 38)) = .ok () (w.alloc (.cells c' 38)) :=
  run_store_pt w c c' hc hc' (Array.all_eq_true_iff_forall_mem.2 fun v hv => (List.all_eq_true.1 (show c'.toList.all (·.oneCell') = true from h1)) v (by simpa using hv))
attribute [go_sem] run_storeN_pt
theorem run_storeN_win (w : World) (c c' : Array Value) (hc : SzIs c 2) (hc' : SzIs c' 2) (h1 : Ones c') :
    (store_win (.pointer (some ⟨w.heap.size, 0, none⟩)) (.agg c')).run Tryz.prog (w.alloc (.cells c 34)) = .ok () (w.alloc (.cells c' 34)) :=
  run_store_win w c c' hc hc' (Array.all_eq_true_iff_forall_mem.2 fun v hv => (List.all_eq_true.1 (show c'.toList.all (·.oneCell') = true from h1)) v (by simpa using hv))
attribute [go_sem] run_storeN_win
theorem run_storeN_leg (w : World) (c c' : Array Value) (hc : SzIs c 13) (hc' : SzIs c' 13) (h1 : Ones c') :
    (store_leg (.pointer (some ⟨w.heap.size, 0, none⟩)) (.agg c')).run Tryz.prog (w.alloc (.cells c 36)) = .ok () (w.alloc (.cells c' 36)) :=
  run_store_leg w c c' hc hc' (Array.all_eq_true_iff_forall_mem.2 fun v hv => (List.all_eq_true.1 (show c'.toList.all (·.oneCell') = true from h1)) v (by simpa using hv))
attribute [go_sem] run_storeN_leg
theorem run_storeN_ent (w : World) (c c' : Array Value) (hc : SzIs c 20) (hc' : SzIs c' 20) (h1 : Ones c') :
    (store_ent (.pointer (some ⟨w.heap.size, 0, none⟩)) (.agg c')).run Tryz.prog (w.alloc (.cells c 41)) = .ok () (w.alloc (.cells c' 41)) :=
  run_store_ent w c c' hc hc' (Array.all_eq_true_iff_forall_mem.2 fun v hv => (List.all_eq_true.1 (show c'.toList.all (·.oneCell') = true from h1)) v (by simpa using hv))
attribute [go_sem] run_storeN_ent
end Go.Proofs.YtjgondadpjildaaGreatDoor
