/- Lemmas and walks. -/
import Derived.Test.YtnmpfmelaninbaaGreatDoorQk12
import Derived.Test.YtnmpfmelaninbaaGreatDoorQk09
import Derived.Laws.StructEq
import Derived.Test.YtnmpfmelaninbaaGreatDoorQk15
import Derived.Test.YtnmpfmelaninbaaGreatDoorQk10
import Derived.Maps.AppendAt
import Derived.Laws.AppendOwnNone
set_option linter.unusedSimpArgs false
set_option linter.unusedVariables false
namespace Go.Proofs.YtnmpfmelaninbaaGreatDoor
open Go.RowKit
def EditV.arr (x : EditV) : Array Value := #[.int .u8 x.op, .int .i64 x.at_, .string ⟨x.ref.toArray⟩, .string ⟨x.name.toArray⟩, .string ⟨x.rway.toArray⟩, .string ⟨x.trans.toArray⟩, .int .i64 x.lo, .int .i64 x.hi, .int .i64 x.speed, .int .i64 x.course, .int .i64 x.dist, .int .u8 x.turn]
theorem EditV.arr_size (x : EditV) : x.arr.size = 12 := rfl
theorem EditV.arr0 (x : EditV) : x.arr[0]? = some (.int .u8 x.op) := rfl
theorem EditV.arr1 (x : EditV) : x.arr[1]? = some (.int .i64 x.at_) := rfl
theorem EditV.arr2 (x : EditV) : x.arr[2]? = some (.string ⟨x.ref.toArray⟩) := rfl
theorem EditV.arr3 (x : EditV) : x.arr[3]? = some (.string ⟨x.name.toArray⟩) := rfl
theorem EditV.arr4 (x : EditV) : x.arr[4]? = some (.string ⟨x.rway.toArray⟩) := rfl
theorem EditV.arr5 (x : EditV) : x.arr[5]? = some (.string ⟨x.trans.toArray⟩) := rfl
theorem EditV.arr6 (x : EditV) : x.arr[6]? = some (.int .i64 x.lo) := rfl
theorem EditV.arr7 (x : EditV) : x.arr[7]? = some (.int .i64 x.hi) := rfl
theorem EditV.arr8 (x : EditV) : x.arr[8]? = some (.int .i64 x.speed) := rfl
theorem EditV.arr9 (x : EditV) : x.arr[9]? = some (.int .i64 x.course) := rfl
theorem EditV.arr10 (x : EditV) : x.arr[10]? = some (.int .i64 x.dist) := rfl
theorem EditV.arr11 (x : EditV) : x.arr[11]? = some (.int .u8 x.turn) := rfl
attribute [go_sem] EditV.arr0 EditV.arr1 EditV.arr2 EditV.arr3 EditV.arr4 EditV.arr5 EditV.arr6 EditV.arr7 EditV.arr8 EditV.arr9 EditV.arr10 EditV.arr11
def EditV.eqB (a b : EditV) : Bool := decide (a.op = b.op) && (decide (a.at_ = b.at_) && (decide (a.ref = b.ref) && (decide (a.name = b.name) && (decide (a.rway = b.rway) && (decide (a.trans = b.trans) && (decide (a.lo = b.lo) && (decide (a.hi = b.hi) && (decide (a.speed = b.speed) && (decide (a.course = b.course) && (decide (a.dist = b.dist) && (decide (a.turn = b.turn))))))))))))
theorem EditV.eqB_iff (a b : EditV) : a.eqB b = true ↔ a = b := by
  obtain ⟨_, _, _, _, _, _, _, _, _, _, _, _⟩ := a
  obtain ⟨_, _, _, _, _, _, _, _, _, _, _, _⟩ := b
  simp [EditV.eqB]
set_option maxHeartbeats 1000000 in
set_option maxRecDepth 100000 in
theorem run_eq_edt (d : Nat) (a b : EditV) (w : World) : (Op.equalIn (d + 3) 26 (.agg a.arr) (.agg b.arr)).run Tryz.prog w = .ok (a.eqB b) w := by
  unfold EditV.arr
  simp [go_sem]
  simp only [ite_ok, Bool.and_true]
  rfl
theorem run_neq_edt (a b : EditV) (w : World) : (binOp .neq 26 (.agg a.arr) (.agg b.arr)).run Tryz.prog w = .ok (.bool (!a.eqB b)) w := by
  simp only [binOp]
  simp [Op.equal, Op.maxDepth, run_eq_edt 9997]
theorem info_edt : (Tryz.prog.info? 26).map (·.size) = some 12 := by kernel_rfl
def Is_edt (w : World) (b o : Nat) (x : EditV) : Prop := ∀ j, j < 12 → w.cell? ⟨b, o + j, none⟩ = x.arr[j]?
def Has_edt (w : World) (b o : Nat) : Prop := ∃ x, Is_edt w b o x
theorem EditV.arr_inj {x y : EditV} (h : ∀ j, j < 12 → x.arr[j]? = y.arr[j]?) : x = y := by
  refine (EditV.eqB_iff x y).1 ?_
  have hh : ∀ j, j < 12 → x.arr[j]? = y.arr[j]? := h
  have e0 := h 0 (by omega)
  have e1 := h 1 (by omega)
  have e2 := h 2 (by omega)
  have e3 := h 3 (by omega)
  have e4 := h 4 (by omega)
  have e5 := h 5 (by omega)
  have e6 := h 6 (by omega)
  have e7 := h 7 (by omega)
  have e8 := h 8 (by omega)
  have e9 := h 9 (by omega)
  have e10 := h 10 (by omega)
  have e11 := h 11 (by omega)
  simp [EditV.arr0, EditV.arr1, EditV.arr2, EditV.arr3, EditV.arr4, EditV.arr5, EditV.arr6, EditV.arr7, EditV.arr8, EditV.arr9, EditV.arr10, EditV.arr11] at e0 e1 e2 e3 e4 e5 e6 e7 e8 e9 e10 e11
  simp [EditV.eqB, *]
open Classical in
noncomputable def of_edt (w : World) (b o : Nat) : EditV := if h : Has_edt w b o then h.choose else ⟨0, 0, [], [], [], [], 0, 0, 0, 0, 0, 0⟩
theorem of_edt_spec {w : World} {b o : Nat} (h : Has_edt w b o) : Is_edt w b o (of_edt w b o) := by
  unfold of_edt
  rw [dif_pos h]
  exact h.choose_spec
theorem of_edt_eq {w : World} {b o : Nat} {x : EditV} (h : Is_edt w b o x) : of_edt w b o = x :=
  EditV.arr_inj fun j hj => (of_edt_spec ⟨x, h⟩ j hj).symm.trans (h j hj)
theorem of_edt_drewN (w : World) (b o n : Nat) : of_edt (w.drewN n) b o = of_edt w b o := rfl
theorem Is_edt_new (w : World) (x : EditV) (t : TypeId) : Is_edt (w.alloc (.cells x.arr t)) w.heap.size 0 x := fun j _ => by rw [Nat.zero_add]; exact cell_of_row _ _ j x.arr t (0, 0) (heap_alloc_new w _)
theorem Has_edt_new (w : World) (x : EditV) (t : TypeId) : Has_edt (w.alloc (.cells x.arr t)) w.heap.size 0 = True := eq_true ⟨x, Is_edt_new w x t⟩
theorem of_edt_new (w : World) (x : EditV) (t : TypeId) : of_edt (w.alloc (.cells x.arr t)) w.heap.size 0 = x := of_edt_eq (Is_edt_new w x t)
def load_edt (v : Value) : Sem Value := Instr.loadAt 26 v
theorem load_edt_fold (v : Value) : Instr.loadAt 26 v = load_edt v := rfl
theorem run_load_edt (w : World) (b o : Nat) (h : Has_edt w b o) : (load_edt (.pointer (some ⟨b, o, none⟩))).run Tryz.prog w = .ok (.agg (of_edt w b o).arr) w := by
  have hs := of_edt_spec h
  generalize of_edt w b o = x at hs
  have := run_load_agg (P := Tryz.prog) w ⟨b, o, none⟩ 26 x.arr.toList _ (fun j v hv => by
    rw [addr_add, hs j (by have := (List.getElem?_eq_some_iff.1 hv).1; simpa [EditV.arr_size] using this)]
    simpa using hv) Tryz.underlying26 rfl info_edt
  simp only [load_edt, Instr.loadAt, Instr.sureAddr, Sem.run_bind, Sem.run_pure, Result.andThen_ok]
  simpa using this
def store_edt (p v : Value) : Sem Unit := Instr.storeAt 26 p v
theorem store_edt_fold (p v : Value) : Instr.storeAt 26 p v = store_edt p v := rfl
theorem run_store_edt (w : World) (c c' : Array Value) (hc : c.size = 12) (hc' : c'.size = 12) (h1 : c'.all (·.oneCell') = true) :
    (store_edt (.pointer (some ⟨w.heap.size, 0, none⟩)) (.agg c')).run Tryz.prog (w.alloc (.cells c 26)) = .ok () (w.alloc (.cells c' 26)) :=
  run_storeAt_new (P := Tryz.prog) w 26 c c' (by rw [hc']; exact info_edt) (by rw [hc, hc']) h1
attribute [go_sem ↓] load_edt_fold store_edt_fold
attribute [go_sem] run_load_edt run_store_edt of_edt_drewN Has_edt_new of_edt_new 
theorem EditV.arr_oneL (x : EditV) : x.arr.toList.all (·.oneCell') = true := by simp [EditV.arr, Value.oneCell']
theorem SzIs_edt (x : EditV) (n : Nat) : SzIs x.arr n = (12 = n) := propext ⟨fun h => h, fun h => h⟩
theorem Fits_edt (x : EditV) (o n : Nat) : Fits o n x.arr = (o + n ≤ 12) := propext ⟨fun h => h, fun h => h⟩
theorem Ones_edt (x : EditV) : Ones x.arr = True := eq_true (EditV.arr_oneL x)
theorem splice_edt (a b : EditV) : splice a.arr 0 b.arr = b.arr := rfl
theorem run_storeB_edt (W : World) (g o : Nat) (v : Array Value) (hv : SzIs v 12) (h1 : Ones v) (hp : Plain W g) (hn : Fits o 12 (blkOf W g)) :
    (store_edt (.pointer (some ⟨g, o, none⟩)) (.agg v)).run Tryz.prog W = .ok () (W.setRow g (splice (blkOf W g) o v)) := run_store_blk W g o 12 _ v info_edt hv h1 hp hn
theorem run_storeN_edt (w : World) (c c' : Array Value) (hc : SzIs c 12) (hc' : SzIs c' 12) (h1 : Ones c') :
    (store_edt (.pointer (some ⟨w.heap.size, 0, none⟩)) (.agg c')).run Tryz.prog (w.alloc (.cells c 26)) = .ok () (w.alloc (.cells c' 26)) :=
  run_store_edt w c c' hc hc' (Array.all_eq_true_iff_forall_mem.2 fun v hv => (List.all_eq_true.1 (show c'.toList.all (·.oneCell') = true from h1)) v (by simpa using hv))
theorem Blk.is_edt {W : World} {g : Nat} {x : EditV} (h : Blk W g x.arr) : Is_edt W g 0 x := fun j _ => by rw [Nat.zero_add]; exact h.cell j
attribute [go_sem] SzIs_edt Fits_edt Ones_edt splice_edt run_storeB_edt run_storeN_edt
theorem Blk.edt_win {W : World} {g : Nat} {x : EditV} (h : Blk W g x.arr) : Is_win W g 6 ⟨x.lo, x.hi⟩ := fun j hj => by
  rw [h.cell]
  match j, hj with
  | 0, _ | 1, _ => rfl
def EditV.small (e : EditV) : Prop := e.ref.length ≤ 4000000000 ∧ e.name.length ≤ 4000000000 ∧ e.rway.length ≤ 4000000000 ∧ e.trans.length ≤ 4000000000
end Go.Proofs.YtnmpfmelaninbaaGreatDoor
namespace Go.Proofs.YtnmpfmelaninbaaGreatDoor
open Go.RowKit Go.Sort
set_option maxRecDepth 100000
structure Edr where
  c0 : Value
  c1 : Value
  c2 : Value
  c3 : Value
  c4 : Value
  c5 : Value
  c6 : Value
  c7 : Value
  c8 : Value
  p : Plan
  A : Option Addr
  c : Nat
  e : EditV
  v : Value
def Edr.db (x : Edr) : Array Value := #[x.c0, x.c1, x.c2, x.c3, x.c4, x.c5, x.c6, x.c7, x.c8]
def Edr.arr (x : Edr) : Array Value := #[x.c0, x.c1, x.c2, x.c3, x.c4, x.c5, x.c6, x.c7, x.c8, .string ⟨x.p.from_.toArray⟩, .string ⟨x.p.to_.toArray⟩, .slice x.A x.p.es.length x.c, .int .i64 x.p.active,
  .int .u8 x.e.op, .int .i64 x.e.at_, .string ⟨x.e.ref.toArray⟩, .string ⟨x.e.name.toArray⟩, .string ⟨x.e.rway.toArray⟩, .string ⟨x.e.trans.toArray⟩, .int .i64 x.e.lo, .int .i64 x.e.hi, .int .i64 x.e.speed, .int .i64 x.e.course, .int .i64 x.e.dist, .int .u8 x.e.turn, x.v]
theorem Edr.arr_size (x : Edr) : x.arr.size = 26 := rfl
theorem Edr.setV (x : Edr) (v : Value) : x.arr.setIfInBounds 25 v = ({ x with v := v } : Edr).arr := rfl
def subE (A : Option Addr) (k c : Nat) : Option Addr := if c = k then A else A.map (·.add (k * 20))
theorem Ents.drop {w : World} {A : Option Addr} {es : List Entry} (h : Ents w A es) {k c : Nat} (hc : es.length ≤ c) : Ents w (subE A k c) (es.drop k) := by
  refine ⟨fun hne => ?_⟩
  have hk : k < es.length := by
    rcases Nat.lt_or_ge k es.length with h | h
    · exact h
    · exact absurd (List.drop_of_length_le h) hne
  obtain ⟨b, o, rfl, hb, hcell⟩ := h.at_ (by rintro rfl; simp at hk)
  refine ⟨b, o + k * 20, ?_, hb, fun i x hx j hj => ?_⟩
  · unfold subE
    rw [if_neg (by omega), Option.map_some, addr_add]
  · rw [List.getElem?_drop] at hx
    have := hcell (k + i) x hx j hj
    rw [← this]
    congr 2
    omega
theorem Ents.take {w : World} {A : Option Addr} {es : List Entry} (h : Ents w A es) {k c : Nat} : Ents w (subE A 0 c) (es.take k) := by
  refine ⟨fun hne => ?_⟩
  obtain ⟨b, o, rfl, hb, hcell⟩ := h.at_ (by rintro rfl; simp at hne)
  refine ⟨b, o, ?_, hb, fun i x hx j hj => ?_⟩
  · unfold subE
    split
    · rfl
    · rw [Option.map_some, addr_add]; simp
  · rw [List.getElem?_take] at hx
    split at hx
    · exact hcell i x hx j hj
    · cases hx
def slE (v : Value) (lo hi : Option Value) : Sem Value := Instr.slice 44 v lo hi none
theorem slE_fold (v : Value) (lo hi : Option Value) : Instr.slice 44 v lo hi none = slE v lo hi := rfl
theorem elem_ents : Tryz.prog.elem 44 = 57 := by kernel_rfl
theorem run_size_ent (w : World) : (sizeOf 57).run Tryz.prog w = .ok 20 w := by
  have h := info_ent
  cases hq : Tryz.prog.info? 57 with
  | none => rw [hq] at h; cases h
  | some i =>
    rw [hq] at h
    simp only [Option.map_some, Option.some.injEq] at h
    simp [sizeOf, typeInfo, Sem.run_bind, hq, h, Result.andThen]
theorem run_slE_h (A : Option Addr) (n c : Nat) (h : Int) (h0 : 0 ≤ h) (h1 : h ≤ c) (w : World) : (slE (.slice A n c) none (some (.int .i64 h))).run Tryz.prog w = .ok (.slice (subE A 0 c) h.toNat c) w := by
  unfold slE
  rw [run_slice_h (P := Tryz.prog) w 44 A n c (by rw [elem_ents]; exact Tryz.underlying44) .i64 h h0 h1, elem_ents, run_size_ent]
  simp [Result.andThen, sliced, subE]
theorem run_slE_l (A : Option Addr) (n c : Nat) (l : Int) (h0 : 0 ≤ l) (h1 : l ≤ n) (w : World) : (slE (.slice A n c) (some (.int .i64 l)) none).run Tryz.prog w = .ok (.slice (subE A l.toNat c) (n - l.toNat) (c - l.toNat)) w := by
  unfold slE
  rw [run_slice_l (P := Tryz.prog) w 44 A n c (by rw [elem_ents]; exact Tryz.underlying44) .i64 l h0 h1, elem_ents, run_size_ent]
  simp [Result.andThen, sliced, subE]
structure Ed (w W : World) (g : Nat) (x : Edr) (es : List Entry) : Prop where
  blk : Blk W g x.arr
  out : Out w W x.v es
  far : x.v.ownBlock ≠ some g
  bel : Below w.heap.size w W
  ge : w.heap.size ≤ g
theorem Ed.step {w W W' : World} {g : Nat} {x : Edr} {es : List Entry} (h : Ed w W g x es) (b : Below W.heap.size W W') : Ed w W' g x es :=
  ⟨h.blk.step b, h.out.below b, h.far, h.bel.trans (b.mono h.bel.size), h.ge⟩
theorem Ed.alloc {w W : World} {g : Nat} {x : Edr} {es : List Entry} (h : Ed w W g x es) (o : Obj) : Ed w (W.alloc o) g x es := h.step ((Below.refl _ _).alloc (Nat.le_refl _) _)
theorem Ed.lt {w W : World} {g : Nat} {x : Edr} {es : List Entry} (h : Ed w W g x es) : g < W.heap.size := h.blk.lt
structure Keep (g : Nat) (W : World) (v : Value) (W' : World) (v' : Value) : Prop where
  os : W'.os = W.os
  tape : W'.tape = W.tape
  output : W'.output = W.output
  size : W.heap.size ≤ W'.heap.size
  block : ∀ k, k < W.heap.size → k ≠ g → v.ownBlock ≠ some k → W'.heap[k]? = W.heap[k]?
  own : v'.ownBlock = v.ownBlock ∨ ∃ q, v'.ownBlock = some q ∧ W.heap.size ≤ q
theorem Keep.of {g : Nat} {W W' : World} {v : Value} (b : Below W.heap.size W W') : Keep g W v W' v := ⟨b.os, b.tape, b.output, b.size, fun k hk _ _ => b.block k hk, .inl rfl⟩
structure FarB (W : World) (g : Nat) (v : Value) (q : Nat) : Prop where
  lt : q < W.heap.size
  ne : q ≠ g
  own : v.ownBlock ≠ some q
theorem FarB.step {W W' : World} {g q : Nat} {v v' : Value} (h : FarB W g v q) (k : Keep g W v W' v') : FarB W' g v' q where
  lt := Nat.lt_of_lt_of_le h.lt k.size
  ne := h.ne
  own := by
    rcases k.own with e | ⟨z, e, hz⟩
    · rw [e]; exact h.own
    · rw [e]; intro y; injection y with y; have := h.lt; omega
theorem Keep.blk {W W' : World} {g q : Nat} {v v' : Value} {cs : Array Value} (k : Keep g W v W' v') (f : FarB W g v q) (h : Blk W q cs) : Blk W' q cs := by
  obtain ⟨t, h⟩ := h
  exact ⟨t, (k.block q f.lt f.ne f.own).trans h⟩
theorem Keep.ents {W W' : World} {g : Nat} {v v' : Value} {A : Option Addr} {es : List Entry} (k : Keep g W v W' v') (f : ∀ a, A = some a → FarB W g v a.block) (h : Ents W A es) : Ents W' A es := by
  refine ⟨fun hne => ?_⟩
  obtain ⟨b, o, rfl, hb, hc⟩ := h.at_ hne
  refine ⟨b, o, rfl, Nat.lt_of_lt_of_le hb k.size, fun i x hx j hj => ?_⟩
  have q := f _ rfl
  rw [World.cell?_of_block (k.block b q.lt q.ne q.own)]
  exact hc i x hx j hj
theorem run_append_nil (w : World) (base : Nat) (t ty e : TypeId) (i : TypeInfo) (size c : Nat) (ht : Tryz.prog.underlying t = some (.slice e)) (hi : Tryz.prog.info? e = some i) (v : Value) (n : Nat) (xs : List Value) (hown : w.ownsRow base e size v n xs) :
    (Builtin.append_ #[t, t] ty #[v, .slice none 0 c]).run Tryz.prog w = .ok v w := by
  rcases hown.2 with ⟨rfl, rfl⟩ | ⟨g, cap, cur, rfl, _, _, hnc, _⟩
  · simp [Builtin.append_, run_underlying ht, sizeOf, typeInfo, hi, Builtin.lenOf, Builtin.firstCells]
  · simp [Builtin.append_, run_underlying ht, sizeOf, typeInfo, hi, Builtin.lenOf, Builtin.firstCells, hnc, storeCells]
theorem cellsOf_get {es : List Entry} {j : Nat} {u : Value} (h : (cellsOf es)[j]? = some u) : ∃ i x, es[i]? = some x ∧ i * 20 + j % 20 = j ∧ x.arr[j % 20]? = some u := by
  have hl := (List.getElem?_eq_some_iff.1 h).1
  rw [cellsOf_len] at hl
  have hi : j / 20 < es.length := by omega
  have e : j / 20 * 20 + j % 20 = j := by omega
  refine ⟨j / 20, es[j / 20], List.getElem?_eq_getElem hi, e, ?_⟩
  rw [← cellsOf_at es (j / 20) _ (List.getElem?_eq_getElem hi) (j % 20) (by omega), e]
  exact h
theorem wpList_append_src {ops : Array Oper} {rest : List Oper} {op : Oper} {a : Act} {Q : Exit → Act → World → Prop} {w0 W : World} {v : Value} {es : List Entry} (hgd : op.guard = none) (s x : Operand)
    (ho : op.op = .call { callee := .builtin .append, args := #[s, x], argTypes := #[44, 44] }) (h : Out w0 W v es) (hs : a.eval s = v) (src : List Entry) (A : Option Addr) (n c : Nat) (hnn : src.length = n)
    (hx : a.eval x = .slice A n c) (hE : Ents W A src) (hn : es.length + n ≤ 1000000) (hb : w0.heap.size ≤ W.heap.size)
    (k : ∀ v' W', Out w0 W' v' (es ++ src) → W.grownBy W' v.ownBlock → (v'.ownBlock = v.ownBlock ∨ ∃ q, v'.ownBlock = some q ∧ W.heap.size ≤ q) → wpList Tryz.prog ops Q rest (a.put op.dst v') W') : wpList Tryz.prog ops Q (op :: rest) a W := by
  obtain ⟨i0, hi, hz0, hz1, hz2⟩ := info_parts info_ent_all
  subst hnn
  cases A with
  | none =>
    have he : src = [] := by
      rcases src with _ | ⟨y, r⟩
      · rfl
      · obtain ⟨b, o, hh, _⟩ := hE.at_ (by simp)
        cases hh
    subst he
    refine wpList_plain hgd fun K hK => ?_
    have hrun := run_append_nil W w0.heap.size 44 op.type 57 i0 20 c Tryz.underlying44 hi v es.length (cellsOf es) h
    unfold Oper.wp
    simp [execOp, ho, resolve, invoke, builtin, hs, hx, hrun, Result.andThen]
    exact hK _ _ (k v W (by simpa using h) ⟨rfl, rfl, rfl, Nat.le_refl _, fun _ _ _ => rfl⟩ (.inl rfl))
  | some ad =>
    refine wpList_append_own_at (w := W) hgd s x 44 ho w0.heap.size 57 i0 _ 20 176 Tryz.underlying44 hi hz0 hz1 hz2 rfl (by omega) v es.length (cellsOf es) hs h ad src.length c (cellsOf src) hx (cellsOf_len src) ?_ (cellsOf_one src) (by unfold maxLen; omega) (by omega) hb ?_
    · intro j u hu
      obtain ⟨i, y, hy, e, hu2⟩ := cellsOf_get hu
      obtain ⟨b, o, hA, hlt, hc⟩ := hE.at_ (by rintro rfl; simp at hy)
      injection hA with hA
      subst hA
      have := hc i y hy (j % 20) (by omega)
      rw [addr_add, ← hu2, ← this]
      congr 2
      omega
    · intro v' W' h1 h2 _ h4
      refine k v' W' ?_ h2 ?_
      · unfold Out
        rw [List.length_append, cellsOf_app]
        exact h1
      · rcases h4 with e | e
        · exact .inl e
        · exact .inr ⟨_, e, Nat.le_refl _⟩
theorem Out.keepE {w0 W W' : World} {v : Value} {es : List Entry} (h : Out w0 W v es) (hk : ∀ k, v.ownBlock = some k → W'.heap[k]? = W.heap[k]?) : Out w0 W' v es := by
  obtain ⟨hl, h⟩ := h
  refine ⟨hl, ?_⟩
  rcases h with ⟨rfl, h0⟩ | ⟨g, cap, cur, rfl, hg, hbk, hn, hm, hsz, hc⟩
  · exact .inl ⟨rfl, h0⟩
  · exact .inr ⟨g, cap, cur, rfl, hg, (hk g (by simp [Value.ownBlock])).trans hbk, hn, hm, hsz, hc⟩
def RetPut (w W : World) (g : Nat) (x : Edr) (l : List Entry) (e : Ending) (W' : World) : Prop := ∃ v', e = .returned (.tuple #[]) ∧ Ed w W' g { x with v := v' } l ∧ Keep g W x.v W' v'
theorem put_any (x : Edr) (es src : List Entry) (A : Option Addr) (c n g : Nat) (w W : World) (h : Ed w W g x es) (hE : Ents W A src) (hn : src.length = n) (hb : es.length + n ≤ 1000000) :
    Calls Tryz.prog 181 #[.pointer (some ⟨g, 0, none⟩), .slice A n c] W (RetPut w W g x (es ++ src)) := by
  have c25 : W.cell? ⟨g, 25, none⟩ = some x.v := h.blk.cell 25
  have HH := Lib.hid h
  have HE := Lib.hid hE
  clear h hE
  go_enter Tryz.func181, Tryz.ntmps181
  go_wp2_with (at_builtin; refine wpList_append_src rfl (.tmp 8) (.tmp 9) rfl HH.out.out rfl src A n c hn rfl HE.out hb HH.out.bel.size ?_; intro v' W' O' G' N'; have X' := HH.out.blk.grown G' HH.out.far; have f1 := X'.frozen 25; have f2 := X'.cell 25; have OH := Lib.hid O'; obtain ⟨A', c', hv', _, _, _⟩ := O'.form; rw [List.length_append, hn] at hv'; subst hv')
  go_end0
  have O' := OH.out
  generalize hv : Value.slice A' (es.length + n) c' = v' at *
  have hne : v'.ownBlock ≠ some g := by
    rcases N' with e | ⟨q, e, hq⟩
    · rw [e]; exact HH.out.far
    · rw [e]; intro z; injection z with z; have := HH.out.lt; omega
  refine ⟨v', rfl, ⟨?_, ?_, hne, ?_, HH.out.ge⟩, ?_⟩
  · rw [← Edr.setV x v']; exact X'.setCell 25 _
  · exact O'.keepE fun q hq => Below.heap_setCell _ _ _ _ (by show q ≠ g; rintro rfl; exact hne hq)
  · exact below_setCell (below_grown HH.out.bel HH.out.out G') HH.out.ge _ _
  · refine ⟨G'.os, G'.tape, G'.output, Nat.le_trans G'.size (by simp [World.setCell]), fun q hq hqg hqv => ?_, N'⟩
    exact (Below.heap_setCell _ _ _ _ (by show q ≠ g; exact hqg)).trans (G'.block q hq (fun e => hqv e.symm))
end Go.Proofs.YtnmpfmelaninbaaGreatDoor
