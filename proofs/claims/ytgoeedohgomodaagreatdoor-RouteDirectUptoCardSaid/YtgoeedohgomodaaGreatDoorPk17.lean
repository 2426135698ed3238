/- Lemmas and walks. -/
import Derived.Test.YtgoeedohgomodaaGreatDoorPk16
import Derived.Test.YtgoeedohgomodaaGreatDoorPk08
import Derived.Laws.StructEq
set_option linter.unusedSimpArgs false
set_option linter.unusedVariables false
namespace Go.Proofs.YtgoeedohgomodaaGreatDoor
open Go.RowKit
def ItemV.arr (x : ItemV) : Array Value := #[.int .u8 x.kind, .string ⟨x.name.toArray⟩, .string ⟨x.trans.toArray⟩]
theorem ItemV.arr_size (x : ItemV) : x.arr.size = 3 := rfl
theorem ItemV.arr_one (x : ItemV) : x.arr.all (·.oneCell') = true := by simp [ItemV.arr, Value.oneCell']
theorem ItemV.arr0 (x : ItemV) : x.arr[0]? = some (.int .u8 x.kind) := rfl
theorem ItemV.arr1 (x : ItemV) : x.arr[1]? = some (.string ⟨x.name.toArray⟩) := rfl
theorem ItemV.arr2 (x : ItemV) : x.arr[2]? = some (.string ⟨x.trans.toArray⟩) := rfl
attribute [go_sem] ItemV.arr0 ItemV.arr1 ItemV.arr2
def ItemV.eqB (a b : ItemV) : Bool := decide (a.kind = b.kind) && (decide (a.name = b.name) && (decide (a.trans = b.trans)))
theorem ItemV.eqB_iff (a b : ItemV) : a.eqB b = true ↔ a = b := by
  obtain ⟨_, _, _⟩ := a
  obtain ⟨_, _, _⟩ := b
  simp [ItemV.eqB]
set_option maxHeartbeats 1000000 in
set_option maxRecDepth 100000 in
theorem run_eq_itm (d : Nat) (a b : ItemV) (w : World) : (Op.equalIn (d + 3) 57 (.agg a.arr) (.agg b.arr)).run Tryz.prog w = .ok (a.eqB b) w := by
  unfold ItemV.arr
  simp [go_sem]
  simp only [ite_ok, Bool.and_true]
  rfl
theorem run_neq_itm (a b : ItemV) (w : World) : (binOp .neq 57 (.agg a.arr) (.agg b.arr)).run Tryz.prog w = .ok (.bool (!a.eqB b)) w := by
  simp only [binOp]
  simp [Op.equal, Op.maxDepth, run_eq_itm 9997]
theorem info_itm : (Tryz.prog.info? 57).map (·.size) = some 3 := by kernel_rfl
def Is_itm (w : World) (b o : Nat) (x : ItemV) : Prop := ∀ j, j < 3 → w.cell? ⟨b, o + j, none⟩ = x.arr[j]?
def Has_itm (w : World) (b o : Nat) : Prop := ∃ x, Is_itm w b o x
theorem ItemV.arr_inj {x y : ItemV} (h : ∀ j, j < 3 → x.arr[j]? = y.arr[j]?) : x = y := by
  refine (ItemV.eqB_iff x y).1 ?_
  have hh : ∀ j, j < 3 → x.arr[j]? = y.arr[j]? := h
  have e0 := h 0 (by omega)
  have e1 := h 1 (by omega)
  have e2 := h 2 (by omega)
  simp [ItemV.arr0, ItemV.arr1, ItemV.arr2] at e0 e1 e2
  simp [ItemV.eqB, *]
open Classical in
noncomputable def of_itm (w : World) (b o : Nat) : ItemV := if h : Has_itm w b o then h.choose else ⟨0, [], []⟩
theorem of_itm_spec {w : World} {b o : Nat} (h : Has_itm w b o) : Is_itm w b o (of_itm w b o) := by
  unfold of_itm
  rw [dif_pos h]
  exact h.choose_spec
theorem of_itm_eq {w : World} {b o : Nat} {x : ItemV} (h : Is_itm w b o x) : of_itm w b o = x :=
  ItemV.arr_inj fun j hj => (of_itm_spec ⟨x, h⟩ j hj).symm.trans (h j hj)
theorem of_itm_drewN (w : World) (b o n : Nat) : of_itm (w.drewN n) b o = of_itm w b o := rfl
def load_itm (v : Value) : Sem Value := Instr.loadAt 57 v
theorem load_itm_fold (v : Value) : Instr.loadAt 57 v = load_itm v := rfl
theorem run_load_itm (w : World) (b o : Nat) (h : Has_itm w b o) : (load_itm (.pointer (some ⟨b, o, none⟩))).run Tryz.prog w = .ok (.agg (of_itm w b o).arr) w := by
  have hs := of_itm_spec h
  generalize of_itm w b o = x at hs
  have := run_load_agg (P := Tryz.prog) w ⟨b, o, none⟩ 57 x.arr.toList _ (fun j v hv => by
    rw [addr_add, hs j (by have := (List.getElem?_eq_some_iff.1 hv).1; simpa [ItemV.arr_size] using this)]
    simpa using hv) Tryz.underlying57 rfl info_itm
  simp only [load_itm, Instr.loadAt, Instr.sureAddr, Sem.run_bind, Sem.run_pure, Result.andThen_ok]
  simpa using this
def store_itm (p v : Value) : Sem Unit := Instr.storeAt 57 p v
theorem store_itm_fold (p v : Value) : Instr.storeAt 57 p v = store_itm p v := rfl
theorem run_store_itm (w : World) (c c' : Array Value) (hc : c.size = 3) (hc' : c'.size = 3) (h1 : c'.all (·.oneCell') = true) :
    (store_itm (.pointer (some ⟨w.heap.size, 0, none⟩)) (.agg c')).run Tryz.prog (w.alloc (.cells c 57)) = .ok () (w.alloc (.cells c' 57)) :=
  run_storeAt_new (P := Tryz.prog) w 57 c c' (by rw [hc']; exact info_itm) (by rw [hc, hc']) h1
attribute [go_sem ↓] load_itm_fold store_itm_fold
attribute [go_sem] run_load_itm run_store_itm of_itm_drewN 
theorem ItemV.arr_oneL (x : ItemV) : x.arr.toList.all (·.oneCell') = true := by simp [ItemV.arr, Value.oneCell']
theorem SzIs_itm (x : ItemV) (n : Nat) : SzIs x.arr n = (3 = n) := propext ⟨fun h => h, fun h => h⟩
theorem Fits_itm (x : ItemV) (o n : Nat) : Fits o n x.arr = (o + n ≤ 3) := propext ⟨fun h => h, fun h => h⟩
theorem Ones_itm (x : ItemV) : Ones x.arr = True := eq_true (ItemV.arr_oneL x)
theorem splice_itm (a b : ItemV) : splice a.arr 0 b.arr = b.arr := rfl
theorem run_storeB_itm (W : World) (g o : Nat) (v : Array Value) (hv : SzIs v 3) (h1 : Ones v) (hp : Plain W g) (hn : Fits o 3 (blkOf W g)) :
    (store_itm (.pointer (some ⟨g, o, none⟩)) (.agg v)).run Tryz.prog W = .ok () (W.setRow g (splice (blkOf W g) o v)) := run_store_blk W g o 3 _ v info_itm hv h1 hp hn
theorem run_storeN_itm (w : World) (c c' : Array Value) (hc : SzIs c 3) (hc' : SzIs c' 3) (h1 : Ones c') :
    (store_itm (.pointer (some ⟨w.heap.size, 0, none⟩)) (.agg c')).run Tryz.prog (w.alloc (.cells c 57)) = .ok () (w.alloc (.cells c' 57)) :=
  run_store_itm w c c' hc hc' (Array.all_eq_true_iff_forall_mem.2 fun v hv => (List.all_eq_true.1 (show c'.toList.all (·.oneCell') = true from h1)) v (by simpa using hv))
theorem Blk.is_itm {W : World} {g : Nat} {x : ItemV} (h : Blk W g x.arr) : Is_itm W g 0 x := fun j _ => by rw [Nat.zero_add]; exact h.cell j
attribute [go_sem] SzIs_itm Fits_itm Ones_itm splice_itm run_storeB_itm run_storeN_itm
def ItemV.small (x : ItemV) : Prop := x.name.length ≤ 4000000000 ∧ x.trans.length ≤ 4000000000
theorem infoA_itm : (Tryz.prog.info? 57).map (fun i => (i.zero, i.size, i.bytes)) = some (some (.agg noItem.arr), 3, 40) := by kernel_rfl
theorem itm_sizes (l : List ItemV) : ∀ y ∈ l.map ItemV.arr, y.size = 3 := fun y hy => by
  obtain ⟨s, _, rfl⟩ := List.mem_map.1 hy
  rfl
theorem Items.itm {w : World} {A : Option Addr} {l : List ItemV} (h : Items w A 3 (l.map ItemV.arr)) {i : Nat} (hi : i < l.length) : ∃ b off, A = some ⟨b, off, none⟩ ∧ b < w.heap.size ∧ ∀ W, Below w.heap.size w W → Is_itm W b (off + i * 3) l[i] := by
  obtain ⟨b, off, e, hb, hc⟩ := h.get (k := i) (by simpa using hi)
  refine ⟨b, off, e, hb, fun W hB j hj => ?_⟩
  rw [hB.cell (p := ⟨b, _, none⟩) hb, hc j hj, List.getElem_map]
def bitm (parts : Array (Nat × Value)) : Sem Value := Instr.build 57 parts
theorem bitm_fold (parts : Array (Nat × Value)) : Instr.build 57 parts = bitm parts := rfl
theorem run_bitm0 (w : World) : (bitm #[]).run Tryz.prog w = .ok (.agg noItem.arr) w := run_build w _ _ _ (by kernel_rfl)
theorem run_bitm1 (w : World) (k : Int) : (bitm #[(0, .int .u8 k)]).run Tryz.prog w = .ok (.agg (ItemV.arr ⟨k, [], []⟩)) w := run_build w _ _ _ (by kernel_rfl)
theorem run_bitm2 (w : World) (k : Int) (s : List UInt8) : (bitm #[(0, .int .u8 k), (1, .string ⟨s.toArray⟩)]).run Tryz.prog w = .ok (.agg (ItemV.arr ⟨k, s, []⟩)) w := run_build w _ _ _ (by kernel_rfl)
theorem run_bitm3 (w : World) (k : Int) (s t : List UInt8) : (bitm #[(0, .int .u8 k), (1, .string ⟨s.toArray⟩), (2, .string ⟨t.toArray⟩)]).run Tryz.prog w = .ok (.agg (ItemV.arr ⟨k, s, t⟩)) w := run_build w _ _ _ (by kernel_rfl)
def bitms (parts : Array (Nat × Value)) : Sem Value := Instr.buildSlice 23 1 parts
theorem bitms_fold (parts : Array (Nat × Value)) : Instr.buildSlice 23 1 parts = bitms parts := rfl
theorem run_bitms (w : World) (x : ItemV) : (bitms #[(0, .agg x.arr)]).run Tryz.prog w = .ok (.slice (some ⟨w.heap.size, 0, none⟩) 1 1) (w.alloc (.cells x.arr 57)) := by
  obtain ⟨i0, hi, hz0, hz1, hz2⟩ := info_parts infoA_itm
  refine run_buildSlice w 23 57 1 #[(0, .agg x.arr)] x.arr i0 _ Tryz.underlying23 hi hz0 (by rw [hz1]; decide) (by rw [hz1]; decide) ?_
  rw [hz1]
  kernel_rfl
def RetItms (w : World) (r : (List ItemV × Int) × Int) (e : Ending) (w' : World) : Prop := ∃ A c, e = .returned (.tuple #[.slice A r.1.1.length c, .int .i64 r.1.2, .int .i64 r.2]) ∧ r.1.1.length ≤ c ∧ Items w' A 3 (r.1.1.map ItemV.arr) ∧ (∀ a, A = some a → w.heap.size ≤ a.block) ∧ Below w.heap.size w w'
theorem callItms {P : Program} {f : FuncId} {args : Array Value} {W : World} {r : (List ItemV × Int) × Int} {K : Ending → World → Prop} (h : Calls P f args W (RetItms W r))
    (k : ∀ A c w', r.1.1.length ≤ c → Items w' A 3 (r.1.1.map ItemV.arr) → (∀ a, A = some a → W.heap.size ≤ a.block) → Below W.heap.size W w' → K (.returned (.tuple #[.slice A r.1.1.length c, .int .i64 r.1.2, .int .i64 r.2])) w') : Calls P f args W K :=
  h.mono fun e w' ⟨A, c, he, h1, h2, h3, h4⟩ => by subst he; exact k A c w' h1 h2 h3 h4
end Go.Proofs.YtgoeedohgomodaaGreatDoor
