/- Edits: cells, '==', ways out of and into memory. -/
import Derived.Test.YtlleijickhifmaaGreatDoorPk38
import Derived.Test.YtlleijickhifmaaGreatDoorPk07
import Derived.Laws.StructEq
namespace Go.Proofs.YtlleijickhifmaaGreatDoor
open Go.RowKit
set_option linter.unusedVariables false
set_option linter.unusedSimpArgs false
def EditV.arr (x : EditV) : Array Value := #[.int .u8 x.op, .int .i64 x.at_, .string ⟨x.ref.toArray⟩, .string ⟨x.name.toArray⟩, .string ⟨x.rway.toArray⟩, .string ⟨x.trans.toArray⟩, .int .i64 x.lo, .int .i64 x.hi, .int .i64 x.speed, .int .i64 x.course, .int .i64 x.dist, .int .u8 x.turn]
abbrev EditV.val (x : EditV) : Value := .agg x.arr
theorem EditV.arr_size (x : EditV) : x.arr.size = 12 := rfl
theorem EditV.arr_sz (x : EditV) : x.arr.size = 12 := by simp [EditV.arr]
theorem EditV.arr_one (x : EditV) : x.arr.all (·.oneCell') = true := by simp [EditV.arr, Value.oneCell']
theorem EditV.arr0 (x : EditV) : x.arr[0]? = some (.int .u8 x.op) := rfl
theorem EditV.arr1 (x : EditV) : x.arr[1]? = some (.int .i64 x.at_) := rfl
theorem EditV.arr2 (x : EditV) : x.arr[2]? = some (.string ⟨x.ref.toArray⟩) := rfl
theorem EditV.arr3 (x : EditV) : x.arr[3]? = some (.string ⟨x.name.toArray⟩) := rfl
theorem EditV.arr4 (x : EditV) : x.arr[4]? = some (.string ⟨x.rway.toArray⟩) := rfl
theorem EditV.arr5 (x : EditV) : x.arr[5]? = some (.string ⟨x.trans.toArray⟩) := rfl
theorem EditV.arr6 (x : EditV) : x.arr[6]? = some (.int .i64 x.lo) := rfl
theorem EditV.arr7 (x : EditV) : x.arr[7]? = some (.int .i64 x.hi) := rfl
theorem EditV.arr8 (x : EditV) : x.arr[8]? = some (.int .i64 x.speed) := rfl
theorem EditV.arr9 (x : EditV) : x.arr[9]? = some (.int .i64 x.course) := rfl
theorem EditV.arr10 (x : EditV) : x.arr[10]? = some (.int .i64 x.dist) := rfl
theorem EditV.arr11 (x : EditV) : x.arr[11]? = some (.int .u8 x.turn) := rfl
attribute [go_sem] EditV.arr0 EditV.arr1 EditV.arr2 EditV.arr3 EditV.arr4 EditV.arr5 EditV.arr6 EditV.arr7 EditV.arr8 EditV.arr9 EditV.arr10 EditV.arr11
def EditV.eqB (a b : EditV) : Bool := decide (a.op = b.op) && (decide (a.at_ = b.at_) && (decide (a.ref = b.ref) && (decide (a.name = b.name) && (decide (a.rway = b.rway) && (decide (a.trans = b.trans) && (decide (a.lo = b.lo) && (decide (a.hi = b.hi) && (decide (a.speed = b.speed) && (decide (a.course = b.course) && (decide (a.dist = b.dist) && (decide (a.turn = b.turn))))))))))))
theorem EditV.eqB_iff (a b : EditV) : a.eqB b = true ↔ a = b := by
  obtain ⟨_, _, _, _, _, _, _, _, _, _, _, _⟩ := a
  obtain ⟨_, _, _, _, _, _, _, _, _, _, _, _⟩ := b
  simp [EditV.eqB]
set_option maxHeartbeats 1000000 in
set_option maxRecDepth 100000 in
theorem run_eq_edt (d : Nat) (a b : EditV) (w : World) : (Op.equalIn (d + 3) 53 (.agg a.arr) (.agg b.arr)).run Tryz.prog w = .ok (a.eqB b) w := by
  unfold EditV.arr
  simp [go_sem]
  simp only [ite_ok, Bool.and_true]
  rfl
theorem run_neq_edt (a b : EditV) (w : World) : (binOp .neq 53 (.agg a.arr) (.agg b.arr)).run Tryz.prog w = .ok (.bool (!a.eqB b)) w := by
  simp only [binOp]
  simp [Op.equal, Op.maxDepth, run_eq_edt 9997]
theorem run_eql_edt (a b : EditV) (w : World) : (binOp .eql 53 (.agg a.arr) (.agg b.arr)).run Tryz.prog w = .ok (.bool (a.eqB b)) w := by
  simp only [binOp]
  simp [Op.equal, Op.maxDepth, run_eq_edt 9997]
theorem info_edt : (Tryz.prog.info? 53).map (·.size) = some 12 := by kernel_rfl
def Is_edt (w : World) (b o : Nat) (x : EditV) : Prop := ∀ j, j < 12 → w.cell? ⟨b, o + j, none⟩ = x.arr[j]?
def Has_edt (w : World) (b o : Nat) : Prop := ∃ x, Is_edt w b o x
theorem EditV.arr_inj {x y : EditV} (h : ∀ j, j < 12 → x.arr[j]? = y.arr[j]?) : x = y := by
  refine (EditV.eqB_iff x y).1 ?_
  have hh : ∀ j, j < 12 → x.arr[j]? = y.arr[j]? := h
  have e0 := h 0 (by omega)
  have e1 := h 1 (by omega)
  have e2 := h 2 (by omega)
  have e3 := h 3 (by omega)
  have e4 := h 4 (by omega)
  have e5 := h 5 (by omega)
  have e6 := h 6 (by omega)
  have e7 := h 7 (by omega)
  have e8 := h 8 (by omega)
  have e9 := h 9 (by omega)
  have e10 := h 10 (by omega)
  have e11 := h 11 (by omega)
  simp [EditV.arr0, EditV.arr1, EditV.arr2, EditV.arr3, EditV.arr4, EditV.arr5, EditV.arr6, EditV.arr7, EditV.arr8, EditV.arr9, EditV.arr10, EditV.arr11] at e0 e1 e2 e3 e4 e5 e6 e7 e8 e9 e10 e11
  simp [EditV.eqB, *]
open Classical in
noncomputable def of_edt (w : World) (b o : Nat) : EditV := if h : Has_edt w b o then h.choose else ⟨0, 0, [], [], [], [], 0, 0, 0, 0, 0, 0⟩
theorem of_edt_spec {w : World} {b o : Nat} (h : Has_edt w b o) : Is_edt w b o (of_edt w b o) := by
  unfold of_edt
  rw [dif_pos h]
  exact h.choose_spec
theorem of_edt_eq {w : World} {b o : Nat} {x : EditV} (h : Is_edt w b o x) : of_edt w b o = x :=
  EditV.arr_inj fun j hj => (of_edt_spec ⟨x, h⟩ j hj).symm.trans (h j hj)
theorem Has_edt_drewN (w : World) (b o n : Nat) : Has_edt (w.drewN n) b o = Has_edt w b o := propext ⟨fun h => h, fun h => h⟩
theorem of_edt_drewN (w : World) (b o n : Nat) : of_edt (w.drewN n) b o = of_edt w b o := rfl
theorem Is_edt.below {w w' : World} {B b o : Nat} {x : EditV} (h : Is_edt w b o x) (hb : Below B w w') (hlt : b < B) : Is_edt w' b o x := fun j hj => by rw [hb.cell (p := ⟨b, _, none⟩) hlt]; exact h j hj
theorem Is_edt_new (w : World) (x : EditV) (t : TypeId) : Is_edt (w.alloc (.cells x.arr t)) w.heap.size 0 x := fun j _ => by rw [Nat.zero_add]; exact cell_of_row _ _ j x.arr t (0, 0) (heap_alloc_new w _)
theorem Has_edt_new (w : World) (x : EditV) (t : TypeId) : Has_edt (w.alloc (.cells x.arr t)) w.heap.size 0 = True := eq_true ⟨x, Is_edt_new w x t⟩
theorem of_edt_new (w : World) (x : EditV) (t : TypeId) : of_edt (w.alloc (.cells x.arr t)) w.heap.size 0 = x := of_edt_eq (Is_edt_new w x t)
theorem Has_edt_alloc (w : World) (b o : Nat) (ob : Obj) (h : b < w.heap.size) : Has_edt (w.alloc ob) b o = Has_edt w b o := by
  have e : ∀ j, (w.alloc ob).cell? ⟨b, o + j, none⟩ = w.cell? ⟨b, o + j, none⟩ := fun j => World.cell?_alloc_lt w ob ⟨b, o + j, none⟩ h
  simp only [Has_edt, Is_edt, e]
theorem of_edt_alloc (w : World) (b o : Nat) (ob : Obj) (h : b < w.heap.size) (hh : Has_edt w b o) : of_edt (w.alloc ob) b o = of_edt w b o :=
  of_edt_eq fun j hj => by rw [World.cell?_alloc_lt w ob ⟨b, o + j, none⟩ h]; exact of_edt_spec hh j hj
def load_edt (v : Value) : Sem Value := Instr.loadAt 53 v
theorem load_edt_fold (v : Value) : Instr.loadAt 53 v = load_edt v := rfl
theorem run_load_edt (w : World) (b o : Nat) (h : Has_edt w b o) : (load_edt (.pointer (some ⟨b, o, none⟩))).run Tryz.prog w = .ok (.agg (of_edt w b o).arr) w := by
  have hs := of_edt_spec h
  generalize of_edt w b o = x at hs
  have := run_load_agg (P := Tryz.prog) w ⟨b, o, none⟩ 53 x.arr.toList _ (fun j v hv => by
    rw [addr_add, hs j (by have := (List.getElem?_eq_some_iff.1 hv).1; simpa [EditV.arr_size] using this)]
    simpa using hv) Tryz.underlying53 rfl info_edt
  simp only [load_edt, Instr.loadAt, Instr.sureAddr, Sem.run_bind, Sem.run_pure, Result.andThen_ok]
  simpa using this
def store_edt (p v : Value) : Sem Unit := Instr.storeAt 53 p v
theorem store_edt_fold (p v : Value) : Instr.storeAt 53 p v = store_edt p v := rfl
theorem run_store_edt (w : World) (c c' : Array Value) (hc : c.size = 12) (hc' : c'.size = 12) (h1 : c'.all (·.oneCell') = true) :
    (store_edt (.pointer (some ⟨w.heap.size, 0, none⟩)) (.agg c')).run Tryz.prog (w.alloc (.cells c 53)) = .ok () (w.alloc (.cells c' 53)) :=
  run_storeAt_new (P := Tryz.prog) w 53 c c' (by rw [hc']; exact info_edt) (by rw [hc, hc']) h1
attribute [go_sem ↓] load_edt_fold store_edt_fold
attribute [go_sem] run_load_edt run_store_edt Has_edt_drewN of_edt_drewN Has_edt_new of_edt_new Has_edt_alloc of_edt_alloc
theorem EditV.arr_oneL (x : EditV) : x.arr.toList.all (·.oneCell') = true := by simp [EditV.arr, Value.oneCell']
theorem SzIs_edt (x : EditV) (n : Nat) : SzIs x.arr n = (12 = n) := propext ⟨fun h => h, fun h => h⟩
theorem Fits_edt (x : EditV) (o n : Nat) : Fits o n x.arr = (o + n ≤ 12) := propext ⟨fun h => h, fun h => h⟩
theorem Ones_edt (x : EditV) : Ones x.arr = True := eq_true (EditV.arr_oneL x)
theorem splice_edt (a b : EditV) : splice a.arr 0 b.arr = b.arr := rfl
theorem run_storeB_edt (W : World) (g o : Nat) (v : Array Value) (hv : SzIs v 12) (h1 : Ones v) (hp : Plain W g) (hn : Fits o 12 (blkOf W g)) :
    (store_edt (.pointer (some ⟨g, o, none⟩)) (.agg v)).run Tryz.prog W = .ok () (W.setRow g (splice (blkOf W g) o v)) := run_store_blk W g o 12 _ v info_edt hv h1 hp hn
theorem run_storeN_edt (w : World) (c c' : Array Value) (hc : SzIs c 12) (hc' : SzIs c' 12) (h1 : Ones c') :
    (store_edt (.pointer (some ⟨w.heap.size, 0, none⟩)) (.agg c')).run Tryz.prog (w.alloc (.cells c 53)) = .ok () (w.alloc (.cells c' 53)) :=
  run_store_edt w c c' hc hc' (Array.all_eq_true_iff_forall_mem.2 fun v hv => (List.all_eq_true.1 (show c'.toList.all (·.oneCell') = true from h1)) v (by simpa using hv))
theorem Blk.is_edt {W : World} {g : Nat} {x : EditV} (h : Blk W g x.arr) : Is_edt W g 0 x := fun j _ => by rw [Nat.zero_add]; exact h.cell j
attribute [go_sem] SzIs_edt Fits_edt Ones_edt splice_edt run_storeB_edt run_storeN_edt
theorem Blk.edt_win {W : World} {g : Nat} {x : EditV} (h : Blk W g x.arr) : Is_win W g 6 ⟨x.lo, x.hi⟩ := fun j hj => by
  rw [h.cell]
  match j, hj with
  | 0, _ | 1, _ => rfl
def EditV.small (e : EditV) : Prop := e.ref.length ≤ 4000000000 ∧ e.name.length ≤ 4000000000 ∧ e.rway.length ≤ 4000000000 ∧ e.trans.length ≤ 4000000000
end Go.Proofs.YtlleijickhifmaaGreatDoor
