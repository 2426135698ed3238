/- A report: its cells, its equality, and its ways out of and into memory. -/
import Derived.Test.YtjcjglbdklmomaaGreatDoorUnitSpec
import Derived.Test.YtjcjglbdklmomaaGreatDoorGen
namespace Go.Proofs.YtjcjglbdklmomaaGreatDoor
open Go.RowKit
set_option linter.unusedVariables false
set_option linter.unusedSimpArgs false
def Rep.arr (x : Rep) : Array Value := #[.int .i64 x.source, .int .u8 x.kind, .int .i64 x.px, .int .i64 x.py, .int .i64 x.value, .int .i64 x.bound, .int .i64 x.weight, .int .i64 x.tick]
abbrev Rep.val (x : Rep) : Value := .agg x.arr
theorem Rep.arr_size (x : Rep) : x.arr.size = 8 := rfl
theorem Rep.arr_sz (x : Rep) : x.arr.size = 8 := by simp [Rep.arr]
theorem Rep.arr_one (x : Rep) : x.arr.all (·.oneCell') = true := by simp [Rep.arr, Value.oneCell']
theorem Rep.arr0 (x : Rep) : x.arr[0]? = some (.int .i64 x.source) := rfl
theorem Rep.arr1 (x : Rep) : x.arr[1]? = some (.int .u8 x.kind) := rfl
theorem Rep.arr2 (x : Rep) : x.arr[2]? = some (.int .i64 x.px) := rfl
theorem Rep.arr3 (x : Rep) : x.arr[3]? = some (.int .i64 x.py) := rfl
theorem Rep.arr4 (x : Rep) : x.arr[4]? = some (.int .i64 x.value) := rfl
theorem Rep.arr5 (x : Rep) : x.arr[5]? = some (.int .i64 x.bound) := rfl
theorem Rep.arr6 (x : Rep) : x.arr[6]? = some (.int .i64 x.weight) := rfl
theorem Rep.arr7 (x : Rep) : x.arr[7]? = some (.int .i64 x.tick) := rfl
attribute [go_sem] Rep.arr0 Rep.arr1 Rep.arr2 Rep.arr3 Rep.arr4 Rep.arr5 Rep.arr6 Rep.arr7
def Rep.eqB (a b : Rep) : Bool := decide (a.source = b.source) && (decide (a.kind = b.kind) && (decide (a.px = b.px) && (decide (a.py = b.py) && (decide (a.value = b.value) && (decide (a.bound = b.bound) && (decide (a.weight = b.weight) && (decide (a.tick = b.tick))))))))
theorem Rep.eqB_iff (a b : Rep) : a.eqB b = true ↔ a = b := by
  obtain ⟨_, _, _, _, _, _, _, _⟩ := a
  obtain ⟨_, _, _, _, _, _, _, _⟩ := b
  simp [Rep.eqB]
set_option maxHeartbeats 1000000 in
set_option maxRecDepth 100000 in
theorem run_eq_rep (d : Nat) (a b : Rep) (w : World) : (Op.equalIn (d + 3) 68 (.agg a.arr) (.agg b.arr)).run Tryz.prog w = .ok (a.eqB b) w := by
  unfold Rep.arr
  simp [go_sem]
  simp only [ite_ok, Bool.and_true]
  rfl
theorem run_neq_rep (a b : Rep) (w : World) : (binOp .neq 68 (.agg a.arr) (.agg b.arr)).run Tryz.prog w = .ok (.bool (!a.eqB b)) w := by
  simp only [binOp]
  simp [Op.equal, Op.maxDepth, run_eq_rep 9997]
theorem run_eql_rep (a b : Rep) (w : World) : (binOp .eql 68 (.agg a.arr) (.agg b.arr)).run Tryz.prog w = .ok (.bool (a.eqB b)) w := by
  simp only [binOp]
  simp [Op.equal, Op.maxDepth, run_eq_rep 9997]
theorem info_rep : (Tryz.prog.info? 68).map (·.size) = some 8 := by kernel_rfl
def Is_rep (w : World) (b o : Nat) (x : Rep) : Prop := ∀ j, j < 8 → w.cell? ⟨b, o + j, none⟩ = x.arr[j]?
def Has_rep (w : World) (b o : Nat) : Prop := ∃ x, Is_rep w b o x
theorem Rep.arr_inj {x y : Rep} (h : ∀ j, j < 8 → x.arr[j]? = y.arr[j]?) : x = y := by
  refine (Rep.eqB_iff x y).1 ?_
  have hh : ∀ j, j < 8 → x.arr[j]? = y.arr[j]? := h
  have e0 := h 0 (by omega)
  have e1 := h 1 (by omega)
  have e2 := h 2 (by omega)
  have e3 := h 3 (by omega)
  have e4 := h 4 (by omega)
  have e5 := h 5 (by omega)
  have e6 := h 6 (by omega)
  have e7 := h 7 (by omega)
  simp [Rep.arr0, Rep.arr1, Rep.arr2, Rep.arr3, Rep.arr4, Rep.arr5, Rep.arr6, Rep.arr7] at e0 e1 e2 e3 e4 e5 e6 e7
  simp [Rep.eqB, *]
open Classical in
noncomputable def of_rep (w : World) (b o : Nat) : Rep := if h : Has_rep w b o then h.choose else ⟨0, 0, 0, 0, 0, 0, 0, 0⟩
theorem of_rep_spec {w : World} {b o : Nat} (h : Has_rep w b o) : Is_rep w b o (of_rep w b o) := by
  unfold of_rep
  rw [dif_pos h]
  exact h.choose_spec
theorem of_rep_eq {w : World} {b o : Nat} {x : Rep} (h : Is_rep w b o x) : of_rep w b o = x :=
  Rep.arr_inj fun j hj => (of_rep_spec ⟨x, h⟩ j hj).symm.trans (h j hj)
theorem Has_rep_drewN (w : World) (b o n : Nat) : Has_rep (w.drewN n) b o = Has_rep w b o := propext ⟨fun h => h, fun h => h⟩
theorem of_rep_drewN (w : World) (b o n : Nat) : of_rep (w.drewN n) b o = of_rep w b o := rfl
theorem Is_rep.below {w w' : World} {B b o : Nat} {x : Rep} (h : Is_rep w b o x) (hb : Below B w w') (hlt : b < B) : Is_rep w' b o x := fun j hj => by rw [hb.cell (p := ⟨b, _, none⟩) hlt]; exact h j hj
theorem Is_rep_new (w : World) (x : Rep) (t : TypeId) : Is_rep (w.alloc (.cells x.arr t)) w.heap.size 0 x := fun j _ => by rw [Nat.zero_add]; exact cell_of_row _ _ j x.arr t (0, 0) (heap_alloc_new w _)
theorem Has_rep_new (w : World) (x : Rep) (t : TypeId) : Has_rep (w.alloc (.cells x.arr t)) w.heap.size 0 = True := eq_true ⟨x, Is_rep_new w x t⟩
theorem of_rep_new (w : World) (x : Rep) (t : TypeId) : of_rep (w.alloc (.cells x.arr t)) w.heap.size 0 = x := of_rep_eq (Is_rep_new w x t)
theorem Has_rep_alloc (w : World) (b o : Nat) (ob : Obj) (h : b < w.heap.size) : Has_rep (w.alloc ob) b o = Has_rep w b o := by
  have e : ∀ j, (w.alloc ob).cell? ⟨b, o + j, none⟩ = w.cell? ⟨b, o + j, none⟩ := fun j => World.cell?_alloc_lt w ob ⟨b, o + j, none⟩ h
  simp only [Has_rep, Is_rep, e]
theorem of_rep_alloc (w : World) (b o : Nat) (ob : Obj) (h : b < w.heap.size) (hh : Has_rep w b o) : of_rep (w.alloc ob) b o = of_rep w b o :=
  of_rep_eq fun j hj => by rw [World.cell?_alloc_lt w ob ⟨b, o + j, none⟩ h]; exact of_rep_spec hh j hj
def load_rep (v : Value) : Sem Value := Instr.loadAt 68 v
theorem load_rep_fold (v : Value) : Instr.loadAt 68 v = load_rep v := rfl
theorem run_load_rep (w : World) (b o : Nat) (h : Has_rep w b o) : (load_rep (.pointer (some ⟨b, o, none⟩))).run Tryz.prog w = .ok (.agg (of_rep w b o).arr) w := by
  have hs := of_rep_spec h
  generalize of_rep w b o = x at hs
  have := run_load_agg (P := Tryz.prog) w ⟨b, o, none⟩ 68 x.arr.toList _ (fun j v hv => by
    rw [addr_add, hs j (by have := (List.getElem?_eq_some_iff.1 hv).1; simpa [Rep.arr_size] using this)]
    simpa using hv) Tryz.underlying68 rfl info_rep
  simp only [load_rep, Instr.loadAt, Instr.sureAddr, Sem.run_bind, Sem.run_pure, Result.andThen_ok]
  simpa using this
def store_rep (p v : Value) : Sem Unit := Instr.storeAt 68 p v
theorem store_rep_fold (p v : Value) : Instr.storeAt 68 p v = store_rep p v := rfl
theorem run_store_rep (w : World) (c c' : Array Value) (hc : c.size = 8) (hc' : c'.size = 8) (h1 : c'.all (·.oneCell') = true) :
    (store_rep (.pointer (some ⟨w.heap.size, 0, none⟩)) (.agg c')).run Tryz.prog (w.alloc (.cells c 68)) = .ok () (w.alloc (.cells c' 68)) :=
  run_storeAt_new (P := Tryz.prog) w 68 c c' (by rw [hc']; exact info_rep) (by rw [hc, hc']) h1
attribute [go_sem ↓] load_rep_fold store_rep_fold
attribute [go_sem] run_load_rep run_store_rep Has_rep_drewN of_rep_drewN Has_rep_new of_rep_new Has_rep_alloc of_rep_alloc
end Go.Proofs.YtjcjglbdklmomaaGreatDoor
