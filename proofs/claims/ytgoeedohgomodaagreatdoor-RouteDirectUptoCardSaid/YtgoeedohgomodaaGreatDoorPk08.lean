/- Lemmas and walks. -/
import Derived.Test.YtgoeedohgomodaaGreatDoorPk04
import Derived.Test.YtgoeedohgomodaaGreatDoorPk06
import Derived.Laws.CopyRow
import Derived.Test.YtgoeedohgomodaaGreatDoorPk07
import Derived.Test.YtgoeedohgomodaaGreatDoorPk05
set_option linter.unusedSimpArgs false
set_option linter.unusedVariables false
namespace Go.Proofs.YtgoeedohgomodaaGreatDoor
open Go.RowKit
theorem info_pt : (Tryz.prog.info? 66).map (·.size) = some 2 := by kernel_rfl
def Is_pt (w : World) (b o : Nat) (x : Pt) : Prop := ∀ j, j < 2 → w.cell? ⟨b, o + j, none⟩ = x.arr[j]?
def Has_pt (w : World) (b o : Nat) : Prop := ∃ x, Is_pt w b o x
theorem Pt.arr_inj {x y : Pt} (h : ∀ j, j < 2 → x.arr[j]? = y.arr[j]?) : x = y := by
  refine (Pt.eqB_iff x y).1 ?_
  have hh : ∀ j, j < 2 → x.arr[j]? = y.arr[j]? := h
  have e0 := h 0 (by omega)
  have e1 := h 1 (by omega)
  simp [Pt.arr0, Pt.arr1] at e0 e1
  simp [Pt.eqB, *]
open Classical in
noncomputable def of_pt (w : World) (b o : Nat) : Pt := if h : Has_pt w b o then h.choose else ⟨0, 0⟩
theorem of_pt_spec {w : World} {b o : Nat} (h : Has_pt w b o) : Is_pt w b o (of_pt w b o) := by
  unfold of_pt
  rw [dif_pos h]
  exact h.choose_spec
theorem of_pt_eq {w : World} {b o : Nat} {x : Pt} (h : Is_pt w b o x) : of_pt w b o = x :=
  Pt.arr_inj fun j hj => (of_pt_spec ⟨x, h⟩ j hj).symm.trans (h j hj)
theorem of_pt_drewN (w : World) (b o n : Nat) : of_pt (w.drewN n) b o = of_pt w b o := rfl
def load_pt (v : Value) : Sem Value := Instr.loadAt 66 v
theorem load_pt_fold (v : Value) : Instr.loadAt 66 v = load_pt v := rfl
theorem run_load_pt (w : World) (b o : Nat) (h : Has_pt w b o) : (load_pt (.pointer (some ⟨b, o, none⟩))).run Tryz.prog w = .ok (.agg (of_pt w b o).arr) w := by
  have hs := of_pt_spec h
  generalize of_pt w b o = x at hs
  have := run_load_agg (P := Tryz.prog) w ⟨b, o, none⟩ 66 x.arr.toList _ (fun j v hv => by
    rw [addr_add, hs j (by have := (List.getElem?_eq_some_iff.1 hv).1; simpa [Pt.arr_size] using this)]
    simpa using hv) Tryz.underlying66 rfl info_pt
  simp only [load_pt, Instr.loadAt, Instr.sureAddr, Sem.run_bind, Sem.run_pure, Result.andThen_ok]
  simpa using this
def store_pt (p v : Value) : Sem Unit := Instr.storeAt 66 p v
theorem store_pt_fold (p v : Value) : Instr.storeAt 66 p v = store_pt p v := rfl
theorem run_store_pt (w : World) (c c' : Array Value) (hc : c.size = 2) (hc' : c'.size = 2) (h1 : c'.all (·.oneCell') = true) :
    (store_pt (.pointer (some ⟨w.heap.size, 0, none⟩)) (.agg c')).run Tryz.prog (w.alloc (.cells c 66)) = .ok () (w.alloc (.cells c' 66)) :=
  run_storeAt_new (P := Tryz.prog) w 66 c c' (by rw [hc']; exact info_pt) (by rw [hc, hc']) h1
attribute [go_sem ↓] load_pt_fold store_pt_fold
attribute [go_sem] run_load_pt run_store_pt of_pt_drewN 
theorem info_win : (Tryz.prog.info? 62).map (·.size) = some 2 := by kernel_rfl
def Is_win (w : World) (b o : Nat) (x : Win) : Prop := ∀ j, j < 2 → w.cell? ⟨b, o + j, none⟩ = x.arr[j]?
def Has_win (w : World) (b o : Nat) : Prop := ∃ x, Is_win w b o x
theorem Win.arr_inj {x y : Win} (h : ∀ j, j < 2 → x.arr[j]? = y.arr[j]?) : x = y := by
  refine (Win.eqB_iff x y).1 ?_
  have hh : ∀ j, j < 2 → x.arr[j]? = y.arr[j]? := h
  have e0 := h 0 (by omega)
  have e1 := h 1 (by omega)
  simp [Win.arr0, Win.arr1] at e0 e1
  simp [Win.eqB, *]
open Classical in
noncomputable def of_win (w : World) (b o : Nat) : Win := if h : Has_win w b o then h.choose else ⟨0, 0⟩
theorem of_win_spec {w : World} {b o : Nat} (h : Has_win w b o) : Is_win w b o (of_win w b o) := by
  unfold of_win
  rw [dif_pos h]
  exact h.choose_spec
theorem of_win_eq {w : World} {b o : Nat} {x : Win} (h : Is_win w b o x) : of_win w b o = x :=
  Win.arr_inj fun j hj => (of_win_spec ⟨x, h⟩ j hj).symm.trans (h j hj)
theorem of_win_drewN (w : World) (b o n : Nat) : of_win (w.drewN n) b o = of_win w b o := rfl
theorem Is_win_new (w : World) (x : Win) (t : TypeId) : Is_win (w.alloc (.cells x.arr t)) w.heap.size 0 x := fun j _ => by rw [Nat.zero_add]; exact cell_of_row _ _ j x.arr t (0, 0) (heap_alloc_new w _)
theorem Has_win_new (w : World) (x : Win) (t : TypeId) : Has_win (w.alloc (.cells x.arr t)) w.heap.size 0 = True := eq_true ⟨x, Is_win_new w x t⟩
theorem of_win_new (w : World) (x : Win) (t : TypeId) : of_win (w.alloc (.cells x.arr t)) w.heap.size 0 = x := of_win_eq (Is_win_new w x t)
def load_win (v : Value) : Sem Value := Instr.loadAt 62 v
theorem load_win_fold (v : Value) : Instr.loadAt 62 v = load_win v := rfl
theorem run_load_win (w : World) (b o : Nat) (h : Has_win w b o) : (load_win (.pointer (some ⟨b, o, none⟩))).run Tryz.prog w = .ok (.agg (of_win w b o).arr) w := by
  have hs := of_win_spec h
  generalize of_win w b o = x at hs
  have := run_load_agg (P := Tryz.prog) w ⟨b, o, none⟩ 62 x.arr.toList _ (fun j v hv => by
    rw [addr_add, hs j (by have := (List.getElem?_eq_some_iff.1 hv).1; simpa [Win.arr_size] using this)]
    simpa using hv) Tryz.underlying62 rfl info_win
  simp only [load_win, Instr.loadAt, Instr.sureAddr, Sem.run_bind, Sem.run_pure, Result.andThen_ok]
  simpa using this
def store_win (p v : Value) : Sem Unit := Instr.storeAt 62 p v
theorem store_win_fold (p v : Value) : Instr.storeAt 62 p v = store_win p v := rfl
theorem run_store_win (w : World) (c c' : Array Value) (hc : c.size = 2) (hc' : c'.size = 2) (h1 : c'.all (·.oneCell') = true) :
    (store_win (.pointer (some ⟨w.heap.size, 0, none⟩)) (.agg c')).run Tryz.prog (w.alloc (.cells c 62)) = .ok () (w.alloc (.cells c' 62)) :=
  run_storeAt_new (P := Tryz.prog) w 62 c c' (by rw [hc']; exact info_win) (by rw [hc, hc']) h1
attribute [go_sem ↓] load_win_fold store_win_fold
attribute [go_sem] run_load_win run_store_win of_win_drewN Has_win_new of_win_new 
theorem info_leg : (Tryz.prog.info? 64).map (·.size) = some 13 := by kernel_rfl
def Is_leg (w : World) (b o : Nat) (x : Leg) : Prop := ∀ j, j < 13 → w.cell? ⟨b, o + j, none⟩ = x.arr[j]?
def Has_leg (w : World) (b o : Nat) : Prop := ∃ x, Is_leg w b o x
theorem Leg.arr_inj {x y : Leg} (h : ∀ j, j < 13 → x.arr[j]? = y.arr[j]?) : x = y := by
  refine (Leg.eqB_iff x y).1 ?_
  have hh : ∀ j, j < 13 → x.arr[j]? = y.arr[j]? := h
  have e0 := h 0 (by omega)
  have e1 := h 1 (by omega)
  have e2 := h 2 (by omega)
  have e3 := h 3 (by omega)
  have e4 := h 4 (by omega)
  have e5 := h 5 (by omega)
  have e6 := h 6 (by omega)
  have e7 := h 7 (by omega)
  have e8 := h 8 (by omega)
  have e9 := h 9 (by omega)
  have e10 := h 10 (by omega)
  have e11 := h 11 (by omega)
  have e12 := h 12 (by omega)
  simp [Leg.arr0, Leg.arr1, Leg.arr2, Leg.arr3, Leg.arr4, Leg.arr5, Leg.arr6, Leg.arr7, Leg.arr8, Leg.arr9, Leg.arr10, Leg.arr11, Leg.arr12] at e0 e1 e2 e3 e4 e5 e6 e7 e8 e9 e10 e11 e12
  simp [Leg.eqB, *]
open Classical in
noncomputable def of_leg (w : World) (b o : Nat) : Leg := if h : Has_leg w b o then h.choose else ⟨0, [], [], 0, false, 0, 0, 0, 0, 0, 0, 0, 0⟩
theorem of_leg_spec {w : World} {b o : Nat} (h : Has_leg w b o) : Is_leg w b o (of_leg w b o) := by
  unfold of_leg
  rw [dif_pos h]
  exact h.choose_spec
theorem of_leg_eq {w : World} {b o : Nat} {x : Leg} (h : Is_leg w b o x) : of_leg w b o = x :=
  Leg.arr_inj fun j hj => (of_leg_spec ⟨x, h⟩ j hj).symm.trans (h j hj)
theorem of_leg_drewN (w : World) (b o n : Nat) : of_leg (w.drewN n) b o = of_leg w b o := rfl
theorem Is_leg.below {w w' : World} {B b o : Nat} {x : Leg} (h : Is_leg w b o x) (hb : Below B w w') (hlt : b < B) : Is_leg w' b o x := fun j hj => by rw [hb.cell (p := ⟨b, _, none⟩) hlt]; exact h j hj
theorem Has_leg_alloc (w : World) (b o : Nat) (ob : Obj) (h : b < w.heap.size) : Has_leg (w.alloc ob) b o = Has_leg w b o := by
  have e : ∀ j, (w.alloc ob).cell? ⟨b, o + j, none⟩ = w.cell? ⟨b, o + j, none⟩ := fun j => World.cell?_alloc_lt w ob ⟨b, o + j, none⟩ h
  simp only [Has_leg, Is_leg, e]
theorem of_leg_alloc (w : World) (b o : Nat) (ob : Obj) (h : b < w.heap.size) (hh : Has_leg w b o) : of_leg (w.alloc ob) b o = of_leg w b o :=
  of_leg_eq fun j hj => by rw [World.cell?_alloc_lt w ob ⟨b, o + j, none⟩ h]; exact of_leg_spec hh j hj
def load_leg (v : Value) : Sem Value := Instr.loadAt 64 v
theorem load_leg_fold (v : Value) : Instr.loadAt 64 v = load_leg v := rfl
theorem run_load_leg (w : World) (b o : Nat) (h : Has_leg w b o) : (load_leg (.pointer (some ⟨b, o, none⟩))).run Tryz.prog w = .ok (.agg (of_leg w b o).arr) w := by
  have hs := of_leg_spec h
  generalize of_leg w b o = x at hs
  have := run_load_agg (P := Tryz.prog) w ⟨b, o, none⟩ 64 x.arr.toList _ (fun j v hv => by
    rw [addr_add, hs j (by have := (List.getElem?_eq_some_iff.1 hv).1; simpa [Leg.arr_size] using this)]
    simpa using hv) Tryz.underlying64 rfl info_leg
  simp only [load_leg, Instr.loadAt, Instr.sureAddr, Sem.run_bind, Sem.run_pure, Result.andThen_ok]
  simpa using this
def store_leg (p v : Value) : Sem Unit := Instr.storeAt 64 p v
theorem store_leg_fold (p v : Value) : Instr.storeAt 64 p v = store_leg p v := rfl
theorem run_store_leg (w : World) (c c' : Array Value) (hc : c.size = 13) (hc' : c'.size = 13) (h1 : c'.all (·.oneCell') = true) :
    (store_leg (.pointer (some ⟨w.heap.size, 0, none⟩)) (.agg c')).run Tryz.prog (w.alloc (.cells c 64)) = .ok () (w.alloc (.cells c' 64)) :=
  run_storeAt_new (P := Tryz.prog) w 64 c c' (by rw [hc']; exact info_leg) (by rw [hc, hc']) h1
attribute [go_sem ↓] load_leg_fold store_leg_fold
attribute [go_sem] run_load_leg run_store_leg of_leg_drewN Has_leg_alloc of_leg_alloc
theorem info_ent : (Tryz.prog.info? 69).map (·.size) = some 20 := by kernel_rfl
def Is_ent (w : World) (b o : Nat) (x : Entry) : Prop := ∀ j, j < 20 → w.cell? ⟨b, o + j, none⟩ = x.arr[j]?
def Has_ent (w : World) (b o : Nat) : Prop := ∃ x, Is_ent w b o x
theorem Entry.arr_inj {x y : Entry} (h : ∀ j, j < 20 → x.arr[j]? = y.arr[j]?) : x = y := by
  refine (Entry.eqB_iff x y).1 ?_
  have hh : ∀ j, j < 20 → x.arr[j]? = y.arr[j]? := h
  have e0 := h 0 (by omega)
  have e1 := h 1 (by omega)
  have e2 := h 2 (by omega)
  have e3 := h 3 (by omega)
  have e4 := h 4 (by omega)
  have e5 := h 5 (by omega)
  have e6 := h 6 (by omega)
  have e7 := h 7 (by omega)
  have e8 := h 8 (by omega)
  have e9 := h 9 (by omega)
  have e10 := h 10 (by omega)
  have e11 := h 11 (by omega)
  have e12 := h 12 (by omega)
  have e13 := h 13 (by omega)
  have e14 := h 14 (by omega)
  have e15 := h 15 (by omega)
  have e16 := h 16 (by omega)
  have e17 := h 17 (by omega)
  have e18 := h 18 (by omega)
  have e19 := h 19 (by omega)
  simp [Entry.arr0, Entry.arr1, Entry.arr2, Entry.arr3, Entry.arr4, Entry.arr5, Entry.arr6, Entry.arr7, Entry.arr8, Entry.arr9, Entry.arr10, Entry.arr11, Entry.arr12, Entry.arr13, Entry.arr14, Entry.arr15, Entry.arr16, Entry.arr17, Entry.arr18, Entry.arr19] at e0 e1 e2 e3 e4 e5 e6 e7 e8 e9 e10 e11 e12 e13 e14 e15 e16 e17 e18 e19
  simp [Entry.eqB, *]
open Classical in
noncomputable def of_ent (w : World) (b o : Nat) : Entry := if h : Has_ent w b o then h.choose else ⟨false, ⟨0, [], [], 0, false, 0, 0, 0, 0, 0, 0, 0, 0⟩, 0, 0, 0, 0, 0, []⟩
theorem of_ent_spec {w : World} {b o : Nat} (h : Has_ent w b o) : Is_ent w b o (of_ent w b o) := by
  unfold of_ent
  rw [dif_pos h]
  exact h.choose_spec
theorem of_ent_eq {w : World} {b o : Nat} {x : Entry} (h : Is_ent w b o x) : of_ent w b o = x :=
  Entry.arr_inj fun j hj => (of_ent_spec ⟨x, h⟩ j hj).symm.trans (h j hj)
theorem of_ent_drewN (w : World) (b o n : Nat) : of_ent (w.drewN n) b o = of_ent w b o := rfl
def load_ent (v : Value) : Sem Value := Instr.loadAt 69 v
theorem load_ent_fold (v : Value) : Instr.loadAt 69 v = load_ent v := rfl
theorem run_load_ent (w : World) (b o : Nat) (h : Has_ent w b o) : (load_ent (.pointer (some ⟨b, o, none⟩))).run Tryz.prog w = .ok (.agg (of_ent w b o).arr) w := by
  have hs := of_ent_spec h
  generalize of_ent w b o = x at hs
  have := run_load_agg (P := Tryz.prog) w ⟨b, o, none⟩ 69 x.arr.toList _ (fun j v hv => by
    rw [addr_add, hs j (by have := (List.getElem?_eq_some_iff.1 hv).1; simpa [Entry.arr_size] using this)]
    simpa using hv) Tryz.underlying69 rfl info_ent
  simp only [load_ent, Instr.loadAt, Instr.sureAddr, Sem.run_bind, Sem.run_pure, Result.andThen_ok]
  simpa using this
def store_ent (p v : Value) : Sem Unit := Instr.storeAt 69 p v
theorem store_ent_fold (p v : Value) : Instr.storeAt 69 p v = store_ent p v := rfl
theorem run_store_ent (w : World) (c c' : Array Value) (hc : c.size = 20) (hc' : c'.size = 20) (h1 : c'.all (·.oneCell') = true) :
    (store_ent (.pointer (some ⟨w.heap.size, 0, none⟩)) (.agg c')).run Tryz.prog (w.alloc (.cells c 69)) = .ok () (w.alloc (.cells c' 69)) :=
  run_storeAt_new (P := Tryz.prog) w 69 c c' (by rw [hc']; exact info_ent) (by rw [hc, hc']) h1
attribute [go_sem ↓] load_ent_fold store_ent_fold
attribute [go_sem] run_load_ent run_store_ent of_ent_drewN 
end Go.Proofs.YtgoeedohgomodaaGreatDoor
namespace Go.Proofs.YtgoeedohgomodaaGreatDoor
open Go.RowKit
theorem Leg.arr_oneL (x : Leg) : x.arr.toList.all (·.oneCell') = true := by simp [Leg.arr, Value.oneCell']
theorem Entry.arr_oneL (x : Entry) : x.arr.toList.all (·.oneCell') = true := by simp [Entry.arr, Value.oneCell']
theorem Pt.arr_oneL (x : Pt) : x.arr.toList.all (·.oneCell') = true := by simp [Pt.arr, Value.oneCell']
theorem Win.arr_oneL (x : Win) : x.arr.toList.all (·.oneCell') = true := by simp [Win.arr, Value.oneCell']
theorem SzIs_leg (x : Leg) (n : Nat) : SzIs x.arr n = (13 = n) := propext ⟨fun h => h, fun h => h⟩
theorem SzIs_ent (x : Entry) (n : Nat) : SzIs x.arr n = (20 = n) := propext ⟨fun h => h, fun h => h⟩
theorem SzIs_pt (x : Pt) (n : Nat) : SzIs x.arr n = (2 = n) := propext ⟨fun h => h, fun h => h⟩
theorem SzIs_win (x : Win) (n : Nat) : SzIs x.arr n = (2 = n) := propext ⟨fun h => h, fun h => h⟩
theorem Fits_ent (x : Entry) (o n : Nat) : Fits o n x.arr = (o + n ≤ 20) := propext ⟨fun h => h, fun h => h⟩
attribute [go_sem] SzIs_leg SzIs_ent SzIs_pt SzIs_win Fits_ent
theorem Ones_leg (x : Leg) : Ones x.arr = True := eq_true (Leg.arr_oneL x)
theorem Ones_ent (x : Entry) : Ones x.arr = True := eq_true (Entry.arr_oneL x)
theorem Ones_pt (x : Pt) : Ones x.arr = True := eq_true (Pt.arr_oneL x)
theorem Ones_win (x : Win) : Ones x.arr = True := eq_true (Win.arr_oneL x)
attribute [go_sem] Ones_leg Ones_ent Ones_pt Ones_win
theorem run_storeB_pt (W : World) (g o : Nat) (v : Array Value) (hv : SzIs v 2) (h1 : Ones v) (hp : Plain W g) (hn : Fits o 2 (blkOf W g)) :
    (store_pt (.pointer (some ⟨g, o, none⟩)) (.agg v)).run Tryz.prog W = .ok () (W.setRow g (splice (blkOf W g) o v)) := run_store_blk W g o 2 _ v info_pt hv h1 hp hn
theorem Blk.is_pt {W : World} {g : Nat} {x : Pt} (h : Blk W g x.arr) : Is_pt W g 0 x := fun j _ => by rw [Nat.zero_add]; exact h.cell j
attribute [go_sem] run_storeB_pt 
theorem Blk.is_win {W : World} {g : Nat} {x : Win} (h : Blk W g x.arr) : Is_win W g 0 x := fun j _ => by rw [Nat.zero_add]; exact h.cell j
theorem run_storeB_leg (W : World) (g o : Nat) (v : Array Value) (hv : SzIs v 13) (h1 : Ones v) (hp : Plain W g) (hn : Fits o 13 (blkOf W g)) :
    (store_leg (.pointer (some ⟨g, o, none⟩)) (.agg v)).run Tryz.prog W = .ok () (W.setRow g (splice (blkOf W g) o v)) := run_store_blk W g o 13 _ v info_leg hv h1 hp hn
theorem Blk.is_leg {W : World} {g : Nat} {x : Leg} (h : Blk W g x.arr) : Is_leg W g 0 x := fun j _ => by rw [Nat.zero_add]; exact h.cell j
attribute [go_sem] run_storeB_leg 
theorem run_storeB_ent (W : World) (g o : Nat) (v : Array Value) (hv : SzIs v 20) (h1 : Ones v) (hp : Plain W g) (hn : Fits o 20 (blkOf W g)) :
    (store_ent (.pointer (some ⟨g, o, none⟩)) (.agg v)).run Tryz.prog W = .ok () (W.setRow g (splice (blkOf W g) o v)) := run_store_blk W g o 20 _ v info_ent hv h1 hp hn
theorem Blk.is_ent {W : World} {g : Nat} {x : Entry} (h : Blk W g x.arr) : Is_ent W g 0 x := fun j _ => by rw [Nat.zero_add]; exact h.cell j
theorem Has_ent_set (W : World) (g : Nat) (x : Entry) (h : Plain W g) : Has_ent (W.setRow g x.arr) g 0 = True := eq_true ⟨x, fun j _ => by rw [Nat.zero_add]; exact cell_set W g j x.arr h⟩
theorem of_ent_set (W : World) (g : Nat) (x : Entry) (h : Plain W g) : of_ent (W.setRow g x.arr) g 0 = x := of_ent_eq fun j _ => by rw [Nat.zero_add]; exact cell_set W g j x.arr h
attribute [go_sem] run_storeB_ent Has_ent_set of_ent_set
theorem run_storeN_pt (w : World) (c c' : Array Value) (hc : SzIs c 2) (hc' : SzIs c' 2) (h1 : Ones c') :
    (store_pt (.pointer (some ⟨w.heap.size, 0, none⟩)) (.agg c')).run Tryz.prog (w.alloc (.cells c 66)) = .ok () (w.alloc (.cells c' 66)) :=
  run_store_pt w c c' hc hc' (Array.all_eq_true_iff_forall_mem.2 fun v hv => (List.all_eq_true.1 (show c'.toList.all (·.oneCell') = true from h1)) v (by simpa using hv))
attribute [go_sem] run_storeN_pt
theorem run_storeN_win (w : World) (c c' : Array Value) (hc : SzIs c 2) (hc' : SzIs c' 2) (h1 : Ones c') :
    (store_win (.pointer (some ⟨w.heap.size, 0, none⟩)) (.agg c')).run Tryz.prog (w.alloc (.cells c 62)) = .ok () (w.alloc (.cells c' 62)) :=
  run_store_win w c c' hc hc' (Array.all_eq_true_iff_forall_mem.2 fun v hv => (List.all_eq_true.1 (show c'.toList.all (·.oneCell') = true from h1)) v (by simpa using hv))
attribute [go_sem] run_storeN_win
theorem run_storeN_leg (w : World) (c c' : Array Value) (hc : SzIs c 13) (hc' : SzIs c' 13) (h1 : Ones c') :
    (store_leg (.pointer (some ⟨w.heap.size, 0, none⟩)) (.agg c')).run Tryz.prog (w.alloc (.cells c 64)) = .ok () (w.alloc (.cells c' 64)) :=
  run_store_leg w c c' hc hc' (Array.all_eq_true_iff_forall_mem.2 fun v hv => (List.all_eq_true.1 (show c'.toList.all (·.oneCell') = true from h1)) v (by simpa using hv))
attribute [go_sem] run_storeN_leg
theorem run_storeN_ent (w : World) (c c' : Array Value) (hc : SzIs c 20) (hc' : SzIs c' 20) (h1 : Ones c') :
    (store_ent (.pointer (some ⟨w.heap.size, 0, none⟩)) (.agg c')).run Tryz.prog (w.alloc (.cells c 69)) = .ok () (w.alloc (.cells c' 69)) :=
  run_store_ent w c c' hc hc' (Array.all_eq_true_iff_forall_mem.2 fun v hv => (List.all_eq_true.1 (show c'.toList.all (·.oneCell') = true from h1)) v (by simpa using hv))
attribute [go_sem] run_storeN_ent
end Go.Proofs.YtgoeedohgomodaaGreatDoor
namespace Go.Proofs.YtgoeedohgomodaaGreatDoor
open Go.RowKit
def startForm (x : Entry) : Entry := ⟨x.gap, ⟨1, x.leg.fix, [], 0, false, 0, 0, 0, 0, x.leg.lo, x.leg.hi, x.leg.speed, x.leg.rnp⟩, x.ex, x.ey, 0, 0, x.sec, x.via⟩
def stF (x : Entry) : Entry := ⟨x.gap, ⟨1, x.leg.fix, [], 0, false, 0, 0, 0, 0, x.leg.lo, x.leg.hi, x.leg.speed, x.leg.rnp⟩, x.ex, x.ey, x.mx, x.my, x.sec, x.via⟩
def startAble (t : Int) : Bool := t == 2 || t == 5 || t == 6
def zeroE : Entry := ⟨false, ⟨0, [], [], 0, false, 0, 0, 0, 0, 0, 0, 0, 0⟩, 0, 0, 0, 0, 0, []⟩
def startOf (x : Entry) : Entry × Bool := if startsB x.leg.ty then (x, true) else if startAble x.leg.ty then (startForm x, true) else (zeroE, false)
theorem Win.arr_mk (a b : Int) : Win.arr ⟨a, b⟩ = #[.int .i64 a, .int .i64 b] := rfl
theorem Pt.arr_mk (a b : Int) : Pt.arr ⟨a, b⟩ = #[.int .i64 a, .int .i64 b] := rfl
attribute [local go_sem] Win.arr_mk Pt.arr_mk
theorem Entry.is_win {W : World} {g : Nat} {x : Entry} (h : Blk W g x.arr) : Is_win W g 10 ⟨x.leg.lo, x.leg.hi⟩ := by
  intro j hj
  rw [h.cell]
  match j, hj with
  | 0, _ | 1, _ => rfl
theorem results_ent {fn : Func} {p t : Tmp} (h : fn.results = #[.cell p 69, .tmp t]) (tmps : Array Value) (w : World) (g : Nat) (x : Entry) (hp : tmps.getD p undef = .pointer (some ⟨g, 0, none⟩)) (hx : Is_ent w g 0 x) :
    (results fn tmps).run Tryz.prog w = .ok (.tuple #[.agg x.arr, tmps.getD t undef]) w := by
  have hp' : tmps[p]?.getD undef = .pointer (some ⟨g, 0, none⟩) := by simpa using hp
  have hl := run_load_agg (P := Tryz.prog) w ⟨g, 0, none⟩ 69 x.arr.toList _ (fun j v hv => by
    rw [addr_add, hx j (by have := (List.getElem?_eq_some_iff.1 hv).1; simpa [Entry.arr_size] using this)]
    simpa using hv) Tryz.underlying69 rfl info_ent
  simp [results, h, hp', asAddr, hl]
theorem Ret.start {w w' : World} {r : Entry × Bool} {x : Entry} {b : Bool} (h : r = (x, b)) (hw : Below w.heap.size w w') : Ret w (.tuple #[r.1.val, .bool r.2]) (.returned (.tuple #[.agg x.arr, .bool b])) w' := by
  subst h; exact ⟨rfl, hw⟩
set_option maxHeartbeats 4000000 in
set_option maxRecDepth 100000 in
theorem starting_any (x : Entry) (w : World) : Calls Tryz.prog 154 #[x.val] w (Ret w (.tuple #[(startOf x).1.val, .bool (startOf x).2])) := by
  obtain ⟨a1, h1⟩ : ∃ a, startsB x.leg.ty = a := ⟨_, rfl⟩
  obtain ⟨a2, h2⟩ : ∃ a, (x.leg.ty == 2) = a := ⟨_, rfl⟩
  obtain ⟨a5, h5⟩ : ∃ a, (x.leg.ty == 5) = a := ⟨_, rfl⟩
  obtain ⟨a6, h6⟩ : ∃ a, (x.leg.ty == 6) = a := ⟨_, rfl⟩
  have hs := Lib.hid (show startOf x = if a1 then (x, true) else if a2 || a5 || a6 then (startForm x, true) else (zeroE, false) by simp [startOf, h1, startAble, h2, h5, h6])
  go_enter Tryz.func154, Tryz.ntmps154
  go_upto_region 1 with (fail)
  generalize hW : (w.alloc _).alloc _ = W
  have X0 : Blk W w.heap.size x.arr := by rw [← hW]; exact (Blk.new w x.arr _).alloc _
  have R0 : Blk W (w.heap.size + 1) zeroE.arr := by rw [← hW, ← World.size_alloc w (.cells x.arr 69)]; exact Blk.new _ _ _
  have B0 : Below w.heap.size w W := by rw [← hW]; go_grown
  clear hW
  have c1 := X0.cell
  have c2 := X0.plain
  have c3 := X0.of
  have c4 : Has_ent W w.heap.size 0 := ⟨x, X0.is_ent⟩
  have c5 : of_ent W w.heap.size 0 = x := of_ent_eq X0.is_ent
  have c6 : Has_win W w.heap.size 10 := ⟨_, Entry.is_win X0⟩
  have c7 : of_win W w.heap.size 10 = ⟨x.leg.lo, x.leg.hi⟩ := of_win_eq (Entry.is_win X0)
  have d1 := R0.cell
  have d2 := R0.plain
  have d3 := R0.of
  have f1 : splice x.arr 1 #[.int .u8 1, .string ⟨x.leg.fix.toArray⟩, .string ⟨#[]⟩, .int .u8 0, .bool false, .int .i64 0, .int .i64 0, .int .i64 0, .int .i64 0, .int .i64 x.leg.lo, .int .i64 x.leg.hi, .int .i64 x.leg.speed, .int .i64 x.leg.rnp] = (stF x).arr := rfl
  have f2 : splice (stF x).arr 16 #[.int .i64 0, .int .i64 0] = (startForm x).arr := rfl
  have f3 : splice zeroE.arr 0 (startForm x).arr = (startForm x).arr := rfl
  have f4 : splice zeroE.arr 0 x.arr = x.arr := rfl
  cases a1
  · cases a2
    · cases a5
      · cases a6
        · go_wp2_with (go_at_call 53; refine callP (starts_any _ _) ?_)
          exact bodyPost_ret (results_ent Tryz.results154 _ _ (w.heap.size + 1) zeroE rfl ((R0.set zeroE.arr).is_ent)) rfl (Ret.start (by rw [hs.out]; rfl) (below_setRow' B0 (by omega) _))
        · go_wp2_with (go_at_call 53; refine callP (starts_any _ _) ?_)
          exact bodyPost_ret (results_ent Tryz.results154 _ _ (w.heap.size + 1) (startForm x) rfl (((R0.far (by omega) _).set _).is_ent)) rfl (Ret.start (by rw [hs.out]; rfl) (below_setRow' (below_setRow' B0 (by omega) _) (by omega) _))
      · go_wp2_with (go_at_call 53; refine callP (starts_any _ _) ?_)
        exact bodyPost_ret (results_ent Tryz.results154 _ _ (w.heap.size + 1) (startForm x) rfl (((R0.far (by omega) _).set _).is_ent)) rfl (Ret.start (by rw [hs.out]; rfl) (below_setRow' (below_setRow' B0 (by omega) _) (by omega) _))
    · go_wp2_with (go_at_call 53; refine callP (starts_any _ _) ?_)
      exact bodyPost_ret (results_ent Tryz.results154 _ _ (w.heap.size + 1) (startForm x) rfl (((R0.far (by omega) _).set _).is_ent)) rfl (Ret.start (by rw [hs.out]; rfl) (below_setRow' (below_setRow' B0 (by omega) _) (by omega) _))
  · go_wp2_with (go_at_call 53; refine callP (starts_any _ _) ?_)
    exact bodyPost_ret (results_ent Tryz.results154 _ _ (w.heap.size + 1) x rfl ((R0.set x.arr).is_ent)) rfl (Ret.start (by rw [hs.out]; rfl) (below_setRow' B0 (by omega) _))
end Go.Proofs.YtgoeedohgomodaaGreatDoor
