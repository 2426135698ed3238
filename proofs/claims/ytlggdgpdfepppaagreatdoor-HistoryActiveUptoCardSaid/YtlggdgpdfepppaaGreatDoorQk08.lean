/- Structs out of and into memory as rules of the walk itself. -/
import Derived.Test.YtlggdgpdfepppaaGreatDoorQk04
import Derived.Test.YtlggdgpdfepppaaGreatDoorQk06
namespace Go.Proofs.YtlggdgpdfepppaaGreatDoor
open Go.RowKit
set_option linter.unusedVariables false
set_option linter.unusedSimpArgs false
theorem info_pt : (Tryz.prog.info? 79).map (·.size) = some 2 := by kernel_rfl
def Is_pt (w : World) (b o : Nat) (x : Pt) : Prop := ∀ j, j < 2 → w.cell? ⟨b, o + j, none⟩ = x.arr[j]?
def Has_pt (w : World) (b o : Nat) : Prop := ∃ x, Is_pt w b o x
theorem Pt.arr_inj {x y : Pt} (h : ∀ j, j < 2 → x.arr[j]? = y.arr[j]?) : x = y := by
  refine (Pt.eqB_iff x y).1 ?_
  have hh : ∀ j, j < 2 → x.arr[j]? = y.arr[j]? := h
  have e0 := h 0 (by omega)
  have e1 := h 1 (by omega)
  simp [Pt.arr0, Pt.arr1] at e0 e1
  simp [Pt.eqB, *]
open Classical in
noncomputable def of_pt (w : World) (b o : Nat) : Pt := if h : Has_pt w b o then h.choose else ⟨0, 0⟩
theorem of_pt_spec {w : World} {b o : Nat} (h : Has_pt w b o) : Is_pt w b o (of_pt w b o) := by
  unfold of_pt
  rw [dif_pos h]
  exact h.choose_spec
theorem of_pt_eq {w : World} {b o : Nat} {x : Pt} (h : Is_pt w b o x) : of_pt w b o = x :=
  Pt.arr_inj fun j hj => (of_pt_spec ⟨x, h⟩ j hj).symm.trans (h j hj)
theorem of_pt_drewN (w : World) (b o n : Nat) : of_pt (w.drewN n) b o = of_pt w b o := rfl
def load_pt (v : Value) : Sem Value := Instr.loadAt 79 v
theorem load_pt_fold (v : Value) : Instr.loadAt 79 v = load_pt v := rfl
theorem run_load_pt (w : World) (b o : Nat) (h : Has_pt w b o) : (load_pt (.pointer (some ⟨b, o, none⟩))).run Tryz.prog w = .ok (.agg (of_pt w b o).arr) w := by
  have hs := of_pt_spec h
  generalize of_pt w b o = x at hs
  have := run_load_agg (P := Tryz.prog) w ⟨b, o, none⟩ 79 x.arr.toList _ (fun j v hv => by
    rw [addr_add, hs j (by have := (List.getElem?_eq_some_iff.1 hv).1; simpa [Pt.arr_size] using this)]
    simpa using hv) Tryz.underlying79 rfl info_pt
  simp only [load_pt, Instr.loadAt, Instr.sureAddr, Sem.run_bind, Sem.run_pure, Result.andThen_ok]
  simpa using this
def store_pt (p v : Value) : Sem Unit := Instr.storeAt 79 p v
theorem store_pt_fold (p v : Value) : Instr.storeAt 79 p v = store_pt p v := rfl
theorem run_store_pt (w : World) (c c' : Array Value) (hc : c.size = 2) (hc' : c'.size = 2) (h1 : c'.all (·.oneCell') = true) :
    (store_pt (.pointer (some ⟨w.heap.size, 0, none⟩)) (.agg c')).run Tryz.prog (w.alloc (.cells c 79)) = .ok () (w.alloc (.cells c' 79)) :=
  run_storeAt_new (P := Tryz.prog) w 79 c c' (by rw [hc']; exact info_pt) (by rw [hc, hc']) h1
attribute [go_sem ↓] load_pt_fold store_pt_fold
attribute [go_sem] run_load_pt run_store_pt of_pt_drewN 
theorem info_win : (Tryz.prog.info? 56).map (·.size) = some 2 := by kernel_rfl
def Is_win (w : World) (b o : Nat) (x : Win) : Prop := ∀ j, j < 2 → w.cell? ⟨b, o + j, none⟩ = x.arr[j]?
def Has_win (w : World) (b o : Nat) : Prop := ∃ x, Is_win w b o x
theorem Win.arr_inj {x y : Win} (h : ∀ j, j < 2 → x.arr[j]? = y.arr[j]?) : x = y := by
  refine (Win.eqB_iff x y).1 ?_
  have hh : ∀ j, j < 2 → x.arr[j]? = y.arr[j]? := h
  have e0 := h 0 (by omega)
  have e1 := h 1 (by omega)
  simp [Win.arr0, Win.arr1] at e0 e1
  simp [Win.eqB, *]
open Classical in
noncomputable def of_win (w : World) (b o : Nat) : Win := if h : Has_win w b o then h.choose else ⟨0, 0⟩
theorem of_win_spec {w : World} {b o : Nat} (h : Has_win w b o) : Is_win w b o (of_win w b o) := by
  unfold of_win
  rw [dif_pos h]
  exact h.choose_spec
theorem of_win_eq {w : World} {b o : Nat} {x : Win} (h : Is_win w b o x) : of_win w b o = x :=
  Win.arr_inj fun j hj => (of_win_spec ⟨x, h⟩ j hj).symm.trans (h j hj)
theorem of_win_drewN (w : World) (b o n : Nat) : of_win (w.drewN n) b o = of_win w b o := rfl
def load_win (v : Value) : Sem Value := Instr.loadAt 56 v
theorem load_win_fold (v : Value) : Instr.loadAt 56 v = load_win v := rfl
theorem run_load_win (w : World) (b o : Nat) (h : Has_win w b o) : (load_win (.pointer (some ⟨b, o, none⟩))).run Tryz.prog w = .ok (.agg (of_win w b o).arr) w := by
  have hs := of_win_spec h
  generalize of_win w b o = x at hs
  have := run_load_agg (P := Tryz.prog) w ⟨b, o, none⟩ 56 x.arr.toList _ (fun j v hv => by
    rw [addr_add, hs j (by have := (List.getElem?_eq_some_iff.1 hv).1; simpa [Win.arr_size] using this)]
    simpa using hv) Tryz.underlying56 rfl info_win
  simp only [load_win, Instr.loadAt, Instr.sureAddr, Sem.run_bind, Sem.run_pure, Result.andThen_ok]
  simpa using this
def store_win (p v : Value) : Sem Unit := Instr.storeAt 56 p v
theorem store_win_fold (p v : Value) : Instr.storeAt 56 p v = store_win p v := rfl
theorem run_store_win (w : World) (c c' : Array Value) (hc : c.size = 2) (hc' : c'.size = 2) (h1 : c'.all (·.oneCell') = true) :
    (store_win (.pointer (some ⟨w.heap.size, 0, none⟩)) (.agg c')).run Tryz.prog (w.alloc (.cells c 56)) = .ok () (w.alloc (.cells c' 56)) :=
  run_storeAt_new (P := Tryz.prog) w 56 c c' (by rw [hc']; exact info_win) (by rw [hc, hc']) h1
attribute [go_sem ↓] load_win_fold store_win_fold
attribute [go_sem] run_load_win run_store_win of_win_drewN 
theorem info_leg : (Tryz.prog.info? 77).map (·.size) = some 13 := by kernel_rfl
def Is_leg (w : World) (b o : Nat) (x : Leg) : Prop := ∀ j, j < 13 → w.cell? ⟨b, o + j, none⟩ = x.arr[j]?
def Has_leg (w : World) (b o : Nat) : Prop := ∃ x, Is_leg w b o x
theorem Leg.arr_inj {x y : Leg} (h : ∀ j, j < 13 → x.arr[j]? = y.arr[j]?) : x = y := by
  refine (Leg.eqB_iff x y).1 ?_
  have hh : ∀ j, j < 13 → x.arr[j]? = y.arr[j]? := h
  have e0 := h 0 (by omega)
  have e1 := h 1 (by omega)
  have e2 := h 2 (by omega)
  have e3 := h 3 (by omega)
  have e4 := h 4 (by omega)
  have e5 := h 5 (by omega)
  have e6 := h 6 (by omega)
  have e7 := h 7 (by omega)
  have e8 := h 8 (by omega)
  have e9 := h 9 (by omega)
  have e10 := h 10 (by omega)
  have e11 := h 11 (by omega)
  have e12 := h 12 (by omega)
  simp [Leg.arr0, Leg.arr1, Leg.arr2, Leg.arr3, Leg.arr4, Leg.arr5, Leg.arr6, Leg.arr7, Leg.arr8, Leg.arr9, Leg.arr10, Leg.arr11, Leg.arr12] at e0 e1 e2 e3 e4 e5 e6 e7 e8 e9 e10 e11 e12
  simp [Leg.eqB, *]
open Classical in
noncomputable def of_leg (w : World) (b o : Nat) : Leg := if h : Has_leg w b o then h.choose else ⟨0, [], [], 0, false, 0, 0, 0, 0, 0, 0, 0, 0⟩
theorem of_leg_spec {w : World} {b o : Nat} (h : Has_leg w b o) : Is_leg w b o (of_leg w b o) := by
  unfold of_leg
  rw [dif_pos h]
  exact h.choose_spec
theorem of_leg_eq {w : World} {b o : Nat} {x : Leg} (h : Is_leg w b o x) : of_leg w b o = x :=
  Leg.arr_inj fun j hj => (of_leg_spec ⟨x, h⟩ j hj).symm.trans (h j hj)
theorem of_leg_drewN (w : World) (b o n : Nat) : of_leg (w.drewN n) b o = of_leg w b o := rfl
theorem Is_leg.below {w w' : World} {B b o : Nat} {x : Leg} (h : Is_leg w b o x) (hb : Below B w w') (hlt : b < B) : Is_leg w' b o x := fun j hj => by rw [hb.cell (p := ⟨b, _, none⟩) hlt]; exact h j hj
def load_leg (v : Value) : Sem Value := Instr.loadAt 77 v
theorem load_leg_fold (v : Value) : Instr.loadAt 77 v = load_leg v := rfl
theorem run_load_leg (w : World) (b o : Nat) (h : Has_leg w b o) : (load_leg (.pointer (some ⟨b, o, none⟩))).run Tryz.prog w = .ok (.agg (of_leg w b o).arr) w := by
  have hs := of_leg_spec h
  generalize of_leg w b o = x at hs
  have := run_load_agg (P := Tryz.prog) w ⟨b, o, none⟩ 77 x.arr.toList _ (fun j v hv => by
    rw [addr_add, hs j (by have := (List.getElem?_eq_some_iff.1 hv).1; simpa [Leg.arr_size] using this)]
    simpa using hv) Tryz.underlying77 rfl info_leg
  simp only [load_leg, Instr.loadAt, Instr.sureAddr, Sem.run_bind, Sem.run_pure, Result.andThen_ok]
  simpa using this
def store_leg (p v : Value) : Sem Unit := Instr.storeAt 77 p v
theorem store_leg_fold (p v : Value) : Instr.storeAt 77 p v = store_leg p v := rfl
theorem run_store_leg (w : World) (c c' : Array Value) (hc : c.size = 13) (hc' : c'.size = 13) (h1 : c'.all (·.oneCell') = true) :
    (store_leg (.pointer (some ⟨w.heap.size, 0, none⟩)) (.agg c')).run Tryz.prog (w.alloc (.cells c 77)) = .ok () (w.alloc (.cells c' 77)) :=
  run_storeAt_new (P := Tryz.prog) w 77 c c' (by rw [hc']; exact info_leg) (by rw [hc, hc']) h1
attribute [go_sem ↓] load_leg_fold store_leg_fold
attribute [go_sem] run_load_leg run_store_leg of_leg_drewN 
theorem info_ent : (Tryz.prog.info? 82).map (·.size) = some 20 := by kernel_rfl
def Is_ent (w : World) (b o : Nat) (x : Entry) : Prop := ∀ j, j < 20 → w.cell? ⟨b, o + j, none⟩ = x.arr[j]?
def Has_ent (w : World) (b o : Nat) : Prop := ∃ x, Is_ent w b o x
theorem Entry.arr_inj {x y : Entry} (h : ∀ j, j < 20 → x.arr[j]? = y.arr[j]?) : x = y := by
  refine (Entry.eqB_iff x y).1 ?_
  have hh : ∀ j, j < 20 → x.arr[j]? = y.arr[j]? := h
  have e0 := h 0 (by omega)
  have e1 := h 1 (by omega)
  have e2 := h 2 (by omega)
  have e3 := h 3 (by omega)
  have e4 := h 4 (by omega)
  have e5 := h 5 (by omega)
  have e6 := h 6 (by omega)
  have e7 := h 7 (by omega)
  have e8 := h 8 (by omega)
  have e9 := h 9 (by omega)
  have e10 := h 10 (by omega)
  have e11 := h 11 (by omega)
  have e12 := h 12 (by omega)
  have e13 := h 13 (by omega)
  have e14 := h 14 (by omega)
  have e15 := h 15 (by omega)
  have e16 := h 16 (by omega)
  have e17 := h 17 (by omega)
  have e18 := h 18 (by omega)
  have e19 := h 19 (by omega)
  simp [Entry.arr0, Entry.arr1, Entry.arr2, Entry.arr3, Entry.arr4, Entry.arr5, Entry.arr6, Entry.arr7, Entry.arr8, Entry.arr9, Entry.arr10, Entry.arr11, Entry.arr12, Entry.arr13, Entry.arr14, Entry.arr15, Entry.arr16, Entry.arr17, Entry.arr18, Entry.arr19] at e0 e1 e2 e3 e4 e5 e6 e7 e8 e9 e10 e11 e12 e13 e14 e15 e16 e17 e18 e19
  simp [Entry.eqB, *]
open Classical in
noncomputable def of_ent (w : World) (b o : Nat) : Entry := if h : Has_ent w b o then h.choose else ⟨false, ⟨0, [], [], 0, false, 0, 0, 0, 0, 0, 0, 0, 0⟩, 0, 0, 0, 0, 0, []⟩
theorem of_ent_spec {w : World} {b o : Nat} (h : Has_ent w b o) : Is_ent w b o (of_ent w b o) := by
  unfold of_ent
  rw [dif_pos h]
  exact h.choose_spec
theorem of_ent_eq {w : World} {b o : Nat} {x : Entry} (h : Is_ent w b o x) : of_ent w b o = x :=
  Entry.arr_inj fun j hj => (of_ent_spec ⟨x, h⟩ j hj).symm.trans (h j hj)
theorem Has_ent_drewN (w : World) (b o n : Nat) : Has_ent (w.drewN n) b o = Has_ent w b o := propext ⟨fun h => h, fun h => h⟩
theorem of_ent_drewN (w : World) (b o n : Nat) : of_ent (w.drewN n) b o = of_ent w b o := rfl
theorem Has_ent_alloc (w : World) (b o : Nat) (ob : Obj) (h : b < w.heap.size) : Has_ent (w.alloc ob) b o = Has_ent w b o := by
  have e : ∀ j, (w.alloc ob).cell? ⟨b, o + j, none⟩ = w.cell? ⟨b, o + j, none⟩ := fun j => World.cell?_alloc_lt w ob ⟨b, o + j, none⟩ h
  simp only [Has_ent, Is_ent, e]
theorem of_ent_alloc (w : World) (b o : Nat) (ob : Obj) (h : b < w.heap.size) (hh : Has_ent w b o) : of_ent (w.alloc ob) b o = of_ent w b o :=
  of_ent_eq fun j hj => by rw [World.cell?_alloc_lt w ob ⟨b, o + j, none⟩ h]; exact of_ent_spec hh j hj
def load_ent (v : Value) : Sem Value := Instr.loadAt 82 v
theorem load_ent_fold (v : Value) : Instr.loadAt 82 v = load_ent v := rfl
theorem run_load_ent (w : World) (b o : Nat) (h : Has_ent w b o) : (load_ent (.pointer (some ⟨b, o, none⟩))).run Tryz.prog w = .ok (.agg (of_ent w b o).arr) w := by
  have hs := of_ent_spec h
  generalize of_ent w b o = x at hs
  have := run_load_agg (P := Tryz.prog) w ⟨b, o, none⟩ 82 x.arr.toList _ (fun j v hv => by
    rw [addr_add, hs j (by have := (List.getElem?_eq_some_iff.1 hv).1; simpa [Entry.arr_size] using this)]
    simpa using hv) Tryz.underlying82 rfl info_ent
  simp only [load_ent, Instr.loadAt, Instr.sureAddr, Sem.run_bind, Sem.run_pure, Result.andThen_ok]
  simpa using this
def store_ent (p v : Value) : Sem Unit := Instr.storeAt 82 p v
theorem store_ent_fold (p v : Value) : Instr.storeAt 82 p v = store_ent p v := rfl
theorem run_store_ent (w : World) (c c' : Array Value) (hc : c.size = 20) (hc' : c'.size = 20) (h1 : c'.all (·.oneCell') = true) :
    (store_ent (.pointer (some ⟨w.heap.size, 0, none⟩)) (.agg c')).run Tryz.prog (w.alloc (.cells c 82)) = .ok () (w.alloc (.cells c' 82)) :=
  run_storeAt_new (P := Tryz.prog) w 82 c c' (by rw [hc']; exact info_ent) (by rw [hc, hc']) h1
attribute [go_sem ↓] load_ent_fold store_ent_fold
attribute [go_sem] run_load_ent run_store_ent Has_ent_drewN of_ent_drewN Has_ent_alloc of_ent_alloc
end Go.Proofs.YtlggdgpdfepppaaGreatDoor
