/- Positions and vectors: cells, ways out of and into memory. -/
import Derived.Test.YtcgmemkkcaipfaaGreatDoorPk30
import Derived.Test.YtcgmemkkcaipfaaGreatDoorPk11
namespace Go.Proofs.YtcgmemkkcaipfaaGreatDoor
open Go.RowKit
set_option linter.unusedVariables false
set_option linter.unusedSimpArgs false
structure Pos where
  lat : Int
  lon : Int

def Pos.arr (x : Pos) : Array Value := #[.int .i64 x.lat, .int .i64 x.lon]
abbrev Pos.val (x : Pos) : Value := .agg x.arr
theorem Pos.arr_size (x : Pos) : x.arr.size = 2 := rfl
theorem Pos.arr_sz (x : Pos) : x.arr.size = 2 := by simp [Pos.arr]
theorem Pos.arr_one (x : Pos) : x.arr.all (·.oneCell') = true := by simp [Pos.arr, Value.oneCell']
theorem Pos.arr0 (x : Pos) : x.arr[0]? = some (.int .i64 x.lat) := rfl
theorem Pos.arr1 (x : Pos) : x.arr[1]? = some (.int .i64 x.lon) := rfl
attribute [go_sem] Pos.arr0 Pos.arr1
def Pos.eqB (a b : Pos) : Bool := decide (a.lat = b.lat) && (decide (a.lon = b.lon))
theorem Pos.eqB_iff (a b : Pos) : a.eqB b = true ↔ a = b := by
  obtain ⟨_, _⟩ := a
  obtain ⟨_, _⟩ := b
  simp [Pos.eqB]
set_option maxHeartbeats 1000000 in
set_option maxRecDepth 100000 in
theorem run_eq_pos (d : Nat) (a b : Pos) (w : World) : (Op.equalIn (d + 3) 23 (.agg a.arr) (.agg b.arr)).run Tryz.prog w = .ok (a.eqB b) w := by
  unfold Pos.arr
  simp [go_sem]
  simp only [ite_ok, Bool.and_true]
  rfl
theorem run_neq_pos (a b : Pos) (w : World) : (binOp .neq 23 (.agg a.arr) (.agg b.arr)).run Tryz.prog w = .ok (.bool (!a.eqB b)) w := by
  simp only [binOp]
  simp [Op.equal, Op.maxDepth, run_eq_pos 9997]
theorem run_eql_pos (a b : Pos) (w : World) : (binOp .eql 23 (.agg a.arr) (.agg b.arr)).run Tryz.prog w = .ok (.bool (a.eqB b)) w := by
  simp only [binOp]
  simp [Op.equal, Op.maxDepth, run_eq_pos 9997]
theorem info_pos : (Tryz.prog.info? 23).map (·.size) = some 2 := by kernel_rfl
def Is_pos (w : World) (b o : Nat) (x : Pos) : Prop := ∀ j, j < 2 → w.cell? ⟨b, o + j, none⟩ = x.arr[j]?
def Has_pos (w : World) (b o : Nat) : Prop := ∃ x, Is_pos w b o x
theorem Pos.arr_inj {x y : Pos} (h : ∀ j, j < 2 → x.arr[j]? = y.arr[j]?) : x = y := by
  refine (Pos.eqB_iff x y).1 ?_
  have hh : ∀ j, j < 2 → x.arr[j]? = y.arr[j]? := h
  have e0 := h 0 (by omega)
  have e1 := h 1 (by omega)
  simp [Pos.arr0, Pos.arr1] at e0 e1
  simp [Pos.eqB, *]
open Classical in
noncomputable def of_pos (w : World) (b o : Nat) : Pos := if h : Has_pos w b o then h.choose else ⟨0, 0⟩
theorem of_pos_spec {w : World} {b o : Nat} (h : Has_pos w b o) : Is_pos w b o (of_pos w b o) := by
  unfold of_pos
  rw [dif_pos h]
  exact h.choose_spec
theorem of_pos_eq {w : World} {b o : Nat} {x : Pos} (h : Is_pos w b o x) : of_pos w b o = x :=
  Pos.arr_inj fun j hj => (of_pos_spec ⟨x, h⟩ j hj).symm.trans (h j hj)
theorem Has_pos_drewN (w : World) (b o n : Nat) : Has_pos (w.drewN n) b o = Has_pos w b o := propext ⟨fun h => h, fun h => h⟩
theorem of_pos_drewN (w : World) (b o n : Nat) : of_pos (w.drewN n) b o = of_pos w b o := rfl
theorem Is_pos.below {w w' : World} {B b o : Nat} {x : Pos} (h : Is_pos w b o x) (hb : Below B w w') (hlt : b < B) : Is_pos w' b o x := fun j hj => by rw [hb.cell (p := ⟨b, _, none⟩) hlt]; exact h j hj
theorem Is_pos_new (w : World) (x : Pos) (t : TypeId) : Is_pos (w.alloc (.cells x.arr t)) w.heap.size 0 x := fun j _ => by rw [Nat.zero_add]; exact cell_of_row _ _ j x.arr t (0, 0) (heap_alloc_new w _)
theorem Has_pos_new (w : World) (x : Pos) (t : TypeId) : Has_pos (w.alloc (.cells x.arr t)) w.heap.size 0 = True := eq_true ⟨x, Is_pos_new w x t⟩
theorem of_pos_new (w : World) (x : Pos) (t : TypeId) : of_pos (w.alloc (.cells x.arr t)) w.heap.size 0 = x := of_pos_eq (Is_pos_new w x t)
theorem Has_pos_alloc (w : World) (b o : Nat) (ob : Obj) (h : b < w.heap.size) : Has_pos (w.alloc ob) b o = Has_pos w b o := by
  have e : ∀ j, (w.alloc ob).cell? ⟨b, o + j, none⟩ = w.cell? ⟨b, o + j, none⟩ := fun j => World.cell?_alloc_lt w ob ⟨b, o + j, none⟩ h
  simp only [Has_pos, Is_pos, e]
theorem of_pos_alloc (w : World) (b o : Nat) (ob : Obj) (h : b < w.heap.size) (hh : Has_pos w b o) : of_pos (w.alloc ob) b o = of_pos w b o :=
  of_pos_eq fun j hj => by rw [World.cell?_alloc_lt w ob ⟨b, o + j, none⟩ h]; exact of_pos_spec hh j hj
def load_pos (v : Value) : Sem Value := Instr.loadAt 23 v
theorem load_pos_fold (v : Value) : Instr.loadAt 23 v = load_pos v := rfl
theorem run_load_pos (w : World) (b o : Nat) (h : Has_pos w b o) : (load_pos (.pointer (some ⟨b, o, none⟩))).run Tryz.prog w = .ok (.agg (of_pos w b o).arr) w := by
  have hs := of_pos_spec h
  generalize of_pos w b o = x at hs
  have := run_load_agg (P := Tryz.prog) w ⟨b, o, none⟩ 23 x.arr.toList _ (fun j v hv => by
    rw [addr_add, hs j (by have := (List.getElem?_eq_some_iff.1 hv).1; simpa [Pos.arr_size] using this)]
    simpa using hv) Tryz.underlying23 rfl info_pos
  simp only [load_pos, Instr.loadAt, Instr.sureAddr, Sem.run_bind, Sem.run_pure, Result.andThen_ok]
  simpa using this
def store_pos (p v : Value) : Sem Unit := Instr.storeAt 23 p v
theorem store_pos_fold (p v : Value) : Instr.storeAt 23 p v = store_pos p v := rfl
theorem run_store_pos (w : World) (c c' : Array Value) (hc : c.size = 2) (hc' : c'.size = 2) (h1 : c'.all (·.oneCell') = true) :
    (store_pos (.pointer (some ⟨w.heap.size, 0, none⟩)) (.agg c')).run Tryz.prog (w.alloc (.cells c 23)) = .ok () (w.alloc (.cells c' 23)) :=
  run_storeAt_new (P := Tryz.prog) w 23 c c' (by rw [hc']; exact info_pos) (by rw [hc, hc']) h1
attribute [go_sem ↓] load_pos_fold store_pos_fold
attribute [go_sem] run_load_pos run_store_pos Has_pos_drewN of_pos_drewN Has_pos_new of_pos_new Has_pos_alloc of_pos_alloc
theorem Pos.arr_oneL (x : Pos) : x.arr.toList.all (·.oneCell') = true := by simp [Pos.arr, Value.oneCell']
theorem SzIs_pos (x : Pos) (n : Nat) : SzIs x.arr n = (2 = n) := propext ⟨fun h => h, fun h => h⟩
theorem Fits_pos (x : Pos) (o n : Nat) : Fits o n x.arr = (o + n ≤ 2) := propext ⟨fun h => h, fun h => h⟩
theorem Ones_pos (x : Pos) : Ones x.arr = True := eq_true (Pos.arr_oneL x)
theorem splice_pos (a b : Pos) : splice a.arr 0 b.arr = b.arr := rfl
theorem run_storeB_pos (W : World) (g o : Nat) (v : Array Value) (hv : SzIs v 2) (h1 : Ones v) (hp : Plain W g) (hn : Fits o 2 (blkOf W g)) :
    (store_pos (.pointer (some ⟨g, o, none⟩)) (.agg v)).run Tryz.prog W = .ok () (W.setRow g (splice (blkOf W g) o v)) := run_store_blk W g o 2 _ v info_pos hv h1 hp hn
theorem run_storeN_pos (w : World) (c c' : Array Value) (hc : SzIs c 2) (hc' : SzIs c' 2) (h1 : Ones c') :
    (store_pos (.pointer (some ⟨w.heap.size, 0, none⟩)) (.agg c')).run Tryz.prog (w.alloc (.cells c 23)) = .ok () (w.alloc (.cells c' 23)) :=
  run_store_pos w c c' hc hc' (Array.all_eq_true_iff_forall_mem.2 fun v hv => (List.all_eq_true.1 (show c'.toList.all (·.oneCell') = true from h1)) v (by simpa using hv))
theorem Blk.is_pos {W : World} {g : Nat} {x : Pos} (h : Blk W g x.arr) : Is_pos W g 0 x := fun j _ => by rw [Nat.zero_add]; exact h.cell j
attribute [go_sem] SzIs_pos Fits_pos Ones_pos splice_pos run_storeB_pos run_storeN_pos
structure Vec where
  a : Int
  b : Int
  c : Int

def Vec.arr (x : Vec) : Array Value := #[.int .i64 x.a, .int .i64 x.b, .int .i64 x.c]
abbrev Vec.val (x : Vec) : Value := .agg x.arr
theorem Vec.arr_size (x : Vec) : x.arr.size = 3 := rfl
theorem Vec.arr_sz (x : Vec) : x.arr.size = 3 := by simp [Vec.arr]
theorem Vec.arr_one (x : Vec) : x.arr.all (·.oneCell') = true := by simp [Vec.arr, Value.oneCell']
theorem Vec.arr0 (x : Vec) : x.arr[0]? = some (.int .i64 x.a) := rfl
theorem Vec.arr1 (x : Vec) : x.arr[1]? = some (.int .i64 x.b) := rfl
theorem Vec.arr2 (x : Vec) : x.arr[2]? = some (.int .i64 x.c) := rfl
attribute [go_sem] Vec.arr0 Vec.arr1 Vec.arr2
def Vec.eqB (a b : Vec) : Bool := decide (a.a = b.a) && (decide (a.b = b.b) && (decide (a.c = b.c)))
theorem Vec.eqB_iff (a b : Vec) : a.eqB b = true ↔ a = b := by
  obtain ⟨_, _, _⟩ := a
  obtain ⟨_, _, _⟩ := b
  simp [Vec.eqB]
theorem info_vec : (Tryz.prog.info? 252).map (·.size) = some 3 := by kernel_rfl
def Is_vec (w : World) (b o : Nat) (x : Vec) : Prop := ∀ j, j < 3 → w.cell? ⟨b, o + j, none⟩ = x.arr[j]?
def Has_vec (w : World) (b o : Nat) : Prop := ∃ x, Is_vec w b o x
theorem Vec.arr_inj {x y : Vec} (h : ∀ j, j < 3 → x.arr[j]? = y.arr[j]?) : x = y := by
  refine (Vec.eqB_iff x y).1 ?_
  have hh : ∀ j, j < 3 → x.arr[j]? = y.arr[j]? := h
  have e0 := h 0 (by omega)
  have e1 := h 1 (by omega)
  have e2 := h 2 (by omega)
  simp [Vec.arr0, Vec.arr1, Vec.arr2] at e0 e1 e2
  simp [Vec.eqB, *]
open Classical in
noncomputable def of_vec (w : World) (b o : Nat) : Vec := if h : Has_vec w b o then h.choose else ⟨0, 0, 0⟩
theorem of_vec_spec {w : World} {b o : Nat} (h : Has_vec w b o) : Is_vec w b o (of_vec w b o) := by
  unfold of_vec
  rw [dif_pos h]
  exact h.choose_spec
theorem of_vec_eq {w : World} {b o : Nat} {x : Vec} (h : Is_vec w b o x) : of_vec w b o = x :=
  Vec.arr_inj fun j hj => (of_vec_spec ⟨x, h⟩ j hj).symm.trans (h j hj)
theorem Has_vec_drewN (w : World) (b o n : Nat) : Has_vec (w.drewN n) b o = Has_vec w b o := propext ⟨fun h => h, fun h => h⟩
theorem of_vec_drewN (w : World) (b o n : Nat) : of_vec (w.drewN n) b o = of_vec w b o := rfl
theorem Is_vec.below {w w' : World} {B b o : Nat} {x : Vec} (h : Is_vec w b o x) (hb : Below B w w') (hlt : b < B) : Is_vec w' b o x := fun j hj => by rw [hb.cell (p := ⟨b, _, none⟩) hlt]; exact h j hj
theorem Is_vec_new (w : World) (x : Vec) (t : TypeId) : Is_vec (w.alloc (.cells x.arr t)) w.heap.size 0 x := fun j _ => by rw [Nat.zero_add]; exact cell_of_row _ _ j x.arr t (0, 0) (heap_alloc_new w _)
theorem Has_vec_new (w : World) (x : Vec) (t : TypeId) : Has_vec (w.alloc (.cells x.arr t)) w.heap.size 0 = True := eq_true ⟨x, Is_vec_new w x t⟩
theorem of_vec_new (w : World) (x : Vec) (t : TypeId) : of_vec (w.alloc (.cells x.arr t)) w.heap.size 0 = x := of_vec_eq (Is_vec_new w x t)
theorem Has_vec_alloc (w : World) (b o : Nat) (ob : Obj) (h : b < w.heap.size) : Has_vec (w.alloc ob) b o = Has_vec w b o := by
  have e : ∀ j, (w.alloc ob).cell? ⟨b, o + j, none⟩ = w.cell? ⟨b, o + j, none⟩ := fun j => World.cell?_alloc_lt w ob ⟨b, o + j, none⟩ h
  simp only [Has_vec, Is_vec, e]
theorem of_vec_alloc (w : World) (b o : Nat) (ob : Obj) (h : b < w.heap.size) (hh : Has_vec w b o) : of_vec (w.alloc ob) b o = of_vec w b o :=
  of_vec_eq fun j hj => by rw [World.cell?_alloc_lt w ob ⟨b, o + j, none⟩ h]; exact of_vec_spec hh j hj
def load_vec (v : Value) : Sem Value := Instr.loadAt 252 v
theorem load_vec_fold (v : Value) : Instr.loadAt 252 v = load_vec v := rfl
theorem run_load_vec (w : World) (b o : Nat) (h : Has_vec w b o) : (load_vec (.pointer (some ⟨b, o, none⟩))).run Tryz.prog w = .ok (.agg (of_vec w b o).arr) w := by
  have hs := of_vec_spec h
  generalize of_vec w b o = x at hs
  have := run_load_agg (P := Tryz.prog) w ⟨b, o, none⟩ 252 x.arr.toList _ (fun j v hv => by
    rw [addr_add, hs j (by have := (List.getElem?_eq_some_iff.1 hv).1; simpa [Vec.arr_size] using this)]
    simpa using hv) Tryz.underlying252 rfl info_vec
  simp only [load_vec, Instr.loadAt, Instr.sureAddr, Sem.run_bind, Sem.run_pure, Result.andThen_ok]
  simpa using this
def store_vec (p v : Value) : Sem Unit := Instr.storeAt 252 p v
theorem store_vec_fold (p v : Value) : Instr.storeAt 252 p v = store_vec p v := rfl
theorem run_store_vec (w : World) (c c' : Array Value) (hc : c.size = 3) (hc' : c'.size = 3) (h1 : c'.all (·.oneCell') = true) :
    (store_vec (.pointer (some ⟨w.heap.size, 0, none⟩)) (.agg c')).run Tryz.prog (w.alloc (.cells c 252)) = .ok () (w.alloc (.cells c' 252)) :=
  run_storeAt_new (P := Tryz.prog) w 252 c c' (by rw [hc']; exact info_vec) (by rw [hc, hc']) h1
attribute [go_sem ↓] load_vec_fold store_vec_fold
attribute [go_sem] run_load_vec run_store_vec Has_vec_drewN of_vec_drewN Has_vec_new of_vec_new Has_vec_alloc of_vec_alloc
theorem Vec.arr_oneL (x : Vec) : x.arr.toList.all (·.oneCell') = true := by simp [Vec.arr, Value.oneCell']
theorem SzIs_vec (x : Vec) (n : Nat) : SzIs x.arr n = (3 = n) := propext ⟨fun h => h, fun h => h⟩
theorem Fits_vec (x : Vec) (o n : Nat) : Fits o n x.arr = (o + n ≤ 3) := propext ⟨fun h => h, fun h => h⟩
theorem Ones_vec (x : Vec) : Ones x.arr = True := eq_true (Vec.arr_oneL x)
theorem splice_vec (a b : Vec) : splice a.arr 0 b.arr = b.arr := rfl
theorem run_storeB_vec (W : World) (g o : Nat) (v : Array Value) (hv : SzIs v 3) (h1 : Ones v) (hp : Plain W g) (hn : Fits o 3 (blkOf W g)) :
    (store_vec (.pointer (some ⟨g, o, none⟩)) (.agg v)).run Tryz.prog W = .ok () (W.setRow g (splice (blkOf W g) o v)) := run_store_blk W g o 3 _ v info_vec hv h1 hp hn
theorem run_storeN_vec (w : World) (c c' : Array Value) (hc : SzIs c 3) (hc' : SzIs c' 3) (h1 : Ones c') :
    (store_vec (.pointer (some ⟨w.heap.size, 0, none⟩)) (.agg c')).run Tryz.prog (w.alloc (.cells c 252)) = .ok () (w.alloc (.cells c' 252)) :=
  run_store_vec w c c' hc hc' (Array.all_eq_true_iff_forall_mem.2 fun v hv => (List.all_eq_true.1 (show c'.toList.all (·.oneCell') = true from h1)) v (by simpa using hv))
theorem Blk.is_vec {W : World} {g : Nat} {x : Vec} (h : Blk W g x.arr) : Is_vec W g 0 x := fun j _ => by rw [Nat.zero_add]; exact h.cell j
attribute [go_sem] SzIs_vec Fits_vec Ones_vec splice_vec run_storeB_vec run_storeN_vec
structure Fr where
  e : Vec
  n : Vec
  u : Vec

def Fr.arr (x : Fr) : Array Value := #[.int .i64 x.e.a, .int .i64 x.e.b, .int .i64 x.e.c, .int .i64 x.n.a, .int .i64 x.n.b, .int .i64 x.n.c, .int .i64 x.u.a, .int .i64 x.u.b, .int .i64 x.u.c]
abbrev Fr.val (x : Fr) : Value := .agg x.arr
theorem Fr.arr_size (x : Fr) : x.arr.size = 9 := rfl
theorem Fr.arr_sz (x : Fr) : x.arr.size = 9 := by simp [Fr.arr]
theorem Fr.arr_one (x : Fr) : x.arr.all (·.oneCell') = true := by simp [Fr.arr, Value.oneCell']
theorem Fr.arr0 (x : Fr) : x.arr[0]? = some (.int .i64 x.e.a) := rfl
theorem Fr.arr1 (x : Fr) : x.arr[1]? = some (.int .i64 x.e.b) := rfl
theorem Fr.arr2 (x : Fr) : x.arr[2]? = some (.int .i64 x.e.c) := rfl
theorem Fr.arr3 (x : Fr) : x.arr[3]? = some (.int .i64 x.n.a) := rfl
theorem Fr.arr4 (x : Fr) : x.arr[4]? = some (.int .i64 x.n.b) := rfl
theorem Fr.arr5 (x : Fr) : x.arr[5]? = some (.int .i64 x.n.c) := rfl
theorem Fr.arr6 (x : Fr) : x.arr[6]? = some (.int .i64 x.u.a) := rfl
theorem Fr.arr7 (x : Fr) : x.arr[7]? = some (.int .i64 x.u.b) := rfl
theorem Fr.arr8 (x : Fr) : x.arr[8]? = some (.int .i64 x.u.c) := rfl
attribute [go_sem] Fr.arr0 Fr.arr1 Fr.arr2 Fr.arr3 Fr.arr4 Fr.arr5 Fr.arr6 Fr.arr7 Fr.arr8
def Fr.eqB (a b : Fr) : Bool := decide (a.e.a = b.e.a) && (decide (a.e.b = b.e.b) && (decide (a.e.c = b.e.c) && (decide (a.n.a = b.n.a) && (decide (a.n.b = b.n.b) && (decide (a.n.c = b.n.c) && (decide (a.u.a = b.u.a) && (decide (a.u.b = b.u.b) && (decide (a.u.c = b.u.c)))))))))
theorem Fr.eqB_iff (a b : Fr) : a.eqB b = true ↔ a = b := by
  obtain ⟨⟨_, _, _⟩, ⟨_, _, _⟩, ⟨_, _, _⟩⟩ := a
  obtain ⟨⟨_, _, _⟩, ⟨_, _, _⟩, ⟨_, _, _⟩⟩ := b
  simp [Fr.eqB, and_assoc]
theorem info_frm : (Tryz.prog.info? 305).map (·.size) = some 9 := by kernel_rfl
def Is_frm (w : World) (b o : Nat) (x : Fr) : Prop := ∀ j, j < 9 → w.cell? ⟨b, o + j, none⟩ = x.arr[j]?
def Has_frm (w : World) (b o : Nat) : Prop := ∃ x, Is_frm w b o x
theorem Fr.arr_inj {x y : Fr} (h : ∀ j, j < 9 → x.arr[j]? = y.arr[j]?) : x = y := by
  refine (Fr.eqB_iff x y).1 ?_
  have hh : ∀ j, j < 9 → x.arr[j]? = y.arr[j]? := h
  have e0 := h 0 (by omega)
  have e1 := h 1 (by omega)
  have e2 := h 2 (by omega)
  have e3 := h 3 (by omega)
  have e4 := h 4 (by omega)
  have e5 := h 5 (by omega)
  have e6 := h 6 (by omega)
  have e7 := h 7 (by omega)
  have e8 := h 8 (by omega)
  simp [Fr.arr0, Fr.arr1, Fr.arr2, Fr.arr3, Fr.arr4, Fr.arr5, Fr.arr6, Fr.arr7, Fr.arr8] at e0 e1 e2 e3 e4 e5 e6 e7 e8
  simp [Fr.eqB, *]
open Classical in
noncomputable def of_frm (w : World) (b o : Nat) : Fr := if h : Has_frm w b o then h.choose else ⟨⟨0, 0, 0⟩, ⟨0, 0, 0⟩, ⟨0, 0, 0⟩⟩
theorem of_frm_spec {w : World} {b o : Nat} (h : Has_frm w b o) : Is_frm w b o (of_frm w b o) := by
  unfold of_frm
  rw [dif_pos h]
  exact h.choose_spec
theorem of_frm_eq {w : World} {b o : Nat} {x : Fr} (h : Is_frm w b o x) : of_frm w b o = x :=
  Fr.arr_inj fun j hj => (of_frm_spec ⟨x, h⟩ j hj).symm.trans (h j hj)
theorem Has_frm_drewN (w : World) (b o n : Nat) : Has_frm (w.drewN n) b o = Has_frm w b o := propext ⟨fun h => h, fun h => h⟩
theorem of_frm_drewN (w : World) (b o n : Nat) : of_frm (w.drewN n) b o = of_frm w b o := rfl
theorem Is_frm.below {w w' : World} {B b o : Nat} {x : Fr} (h : Is_frm w b o x) (hb : Below B w w') (hlt : b < B) : Is_frm w' b o x := fun j hj => by rw [hb.cell (p := ⟨b, _, none⟩) hlt]; exact h j hj
theorem Is_frm_new (w : World) (x : Fr) (t : TypeId) : Is_frm (w.alloc (.cells x.arr t)) w.heap.size 0 x := fun j _ => by rw [Nat.zero_add]; exact cell_of_row _ _ j x.arr t (0, 0) (heap_alloc_new w _)
theorem Has_frm_new (w : World) (x : Fr) (t : TypeId) : Has_frm (w.alloc (.cells x.arr t)) w.heap.size 0 = True := eq_true ⟨x, Is_frm_new w x t⟩
theorem of_frm_new (w : World) (x : Fr) (t : TypeId) : of_frm (w.alloc (.cells x.arr t)) w.heap.size 0 = x := of_frm_eq (Is_frm_new w x t)
theorem Has_frm_alloc (w : World) (b o : Nat) (ob : Obj) (h : b < w.heap.size) : Has_frm (w.alloc ob) b o = Has_frm w b o := by
  have e : ∀ j, (w.alloc ob).cell? ⟨b, o + j, none⟩ = w.cell? ⟨b, o + j, none⟩ := fun j => World.cell?_alloc_lt w ob ⟨b, o + j, none⟩ h
  simp only [Has_frm, Is_frm, e]
theorem of_frm_alloc (w : World) (b o : Nat) (ob : Obj) (h : b < w.heap.size) (hh : Has_frm w b o) : of_frm (w.alloc ob) b o = of_frm w b o :=
  of_frm_eq fun j hj => by rw [World.cell?_alloc_lt w ob ⟨b, o + j, none⟩ h]; exact of_frm_spec hh j hj
def load_frm (v : Value) : Sem Value := Instr.loadAt 305 v
theorem load_frm_fold (v : Value) : Instr.loadAt 305 v = load_frm v := rfl
theorem run_load_frm (w : World) (b o : Nat) (h : Has_frm w b o) : (load_frm (.pointer (some ⟨b, o, none⟩))).run Tryz.prog w = .ok (.agg (of_frm w b o).arr) w := by
  have hs := of_frm_spec h
  generalize of_frm w b o = x at hs
  have := run_load_agg (P := Tryz.prog) w ⟨b, o, none⟩ 305 x.arr.toList _ (fun j v hv => by
    rw [addr_add, hs j (by have := (List.getElem?_eq_some_iff.1 hv).1; simpa [Fr.arr_size] using this)]
    simpa using hv) Tryz.underlying305 rfl info_frm
  simp only [load_frm, Instr.loadAt, Instr.sureAddr, Sem.run_bind, Sem.run_pure, Result.andThen_ok]
  simpa using this
def store_frm (p v : Value) : Sem Unit := Instr.storeAt 305 p v
theorem store_frm_fold (p v : Value) : Instr.storeAt 305 p v = store_frm p v := rfl
theorem run_store_frm (w : World) (c c' : Array Value) (hc : c.size = 9) (hc' : c'.size = 9) (h1 : c'.all (·.oneCell') = true) :
    (store_frm (.pointer (some ⟨w.heap.size, 0, none⟩)) (.agg c')).run Tryz.prog (w.alloc (.cells c 305)) = .ok () (w.alloc (.cells c' 305)) :=
  run_storeAt_new (P := Tryz.prog) w 305 c c' (by rw [hc']; exact info_frm) (by rw [hc, hc']) h1
attribute [go_sem ↓] load_frm_fold store_frm_fold
attribute [go_sem] run_load_frm run_store_frm Has_frm_drewN of_frm_drewN Has_frm_new of_frm_new Has_frm_alloc of_frm_alloc
theorem Fr.arr_oneL (x : Fr) : x.arr.toList.all (·.oneCell') = true := by simp [Fr.arr, Value.oneCell']
theorem SzIs_frm (x : Fr) (n : Nat) : SzIs x.arr n = (9 = n) := propext ⟨fun h => h, fun h => h⟩
theorem Fits_frm (x : Fr) (o n : Nat) : Fits o n x.arr = (o + n ≤ 9) := propext ⟨fun h => h, fun h => h⟩
theorem Ones_frm (x : Fr) : Ones x.arr = True := eq_true (Fr.arr_oneL x)
theorem splice_frm (a b : Fr) : splice a.arr 0 b.arr = b.arr := rfl
theorem run_storeB_frm (W : World) (g o : Nat) (v : Array Value) (hv : SzIs v 9) (h1 : Ones v) (hp : Plain W g) (hn : Fits o 9 (blkOf W g)) :
    (store_frm (.pointer (some ⟨g, o, none⟩)) (.agg v)).run Tryz.prog W = .ok () (W.setRow g (splice (blkOf W g) o v)) := run_store_blk W g o 9 _ v info_frm hv h1 hp hn
theorem run_storeN_frm (w : World) (c c' : Array Value) (hc : SzIs c 9) (hc' : SzIs c' 9) (h1 : Ones c') :
    (store_frm (.pointer (some ⟨w.heap.size, 0, none⟩)) (.agg c')).run Tryz.prog (w.alloc (.cells c 305)) = .ok () (w.alloc (.cells c' 305)) :=
  run_store_frm w c c' hc hc' (Array.all_eq_true_iff_forall_mem.2 fun v hv => (List.all_eq_true.1 (show c'.toList.all (·.oneCell') = true from h1)) v (by simpa using hv))
theorem Blk.is_frm {W : World} {g : Nat} {x : Fr} (h : Blk W g x.arr) : Is_frm W g 0 x := fun j _ => by rw [Nat.zero_add]; exact h.cell j
attribute [go_sem] SzIs_frm Fits_frm Ones_frm splice_frm run_storeB_frm run_storeN_frm
end Go.Proofs.YtcgmemkkcaipfaaGreatDoor
