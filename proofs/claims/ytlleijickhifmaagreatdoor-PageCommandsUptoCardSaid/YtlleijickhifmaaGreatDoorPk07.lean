/- The first error of a plan, in plain Lean. Structs out of and into memory as rules of the walk itself. Blocks of the caller's own that are written: rules of the walk. The form in which an entry may begin: plan.starting and the reference's start. The reference's start. One or two entries laid into a new row (what append takes). Join in plain Lean; a slice of entries that the call itself grows. What a grown slice of entries is good for. A slice of strings that the call itself grows. A region that draws its order, whose first n operations only read or call what keeps memory, and whose last ones come in one order: one walk. No condition. strings.Join over strings as lists of bytes; plan.dash, plan.point. leg.Text: the words of a leg, joined; the texts of its numbers are told by the callees' contracts. Printed by wip/mklegtext.py. Layer 58 in plain Lean: the keys of the terminal, its pages. No program in sight. -/
import Derived.Test.YtlleijickhifmaaGreatDoorPk06
import Derived.Test.YtlleijickhifmaaGreatDoorPk05
import Derived.Laws.CopyRow
import Derived.Test.YtlleijickhifmaaGreatDoorPk04
import Derived.Great.BuildSlice
import Derived.Laws.OwnMore
import Derived.StillTail
import Derived.Lib.QuietBelow
import Derived.Lib.Join
import Derived.Lib.ItoaLen
import Derived.Lib.ItoaNum
namespace Go.Proofs.YtlleijickhifmaaGreatDoor
open Go.RowKit
set_option linter.unusedVariables false
set_option linter.unusedSimpArgs false
def gapE : Entry := ⟨true, ⟨0, [], [], 0, false, 0, 0, 0, 0, 0, 0, 0, 0⟩, 0, 0, 0, 0, 0, []⟩
def Leg.arrivedB (y x : Leg) : Bool := endsB y.ty && y.fix == x.fix
def orderE (prev : Option Entry) (x : Entry) : Int :=
  match prev with
  | none => if startsB x.leg.ty then 0 else 9
  | some y => if y.gap then (if startsB x.leg.ty then 0 else 9) else if y.leg.joinsB x.leg then (if (x.leg.ty == 2 || x.leg.ty == 4) && y.leg.arrivedB x.leg then 7 else 0) else 9
def gapOrdE (prev : Option Entry) (last : Bool) : Int :=
  match prev with
  | none => 9
  | some y => if last || y.gap then 9 else 0
def stepE (prev : Option Entry) (s : Int) (last : Bool) (x : Entry) : Int :=
  if x.gap then (if x.eqB gapE then gapOrdE prev last else 1) else orE (aloneE x) (orE (orderE prev x) (if x.sec < s then 9 else 0))
def checkGo : Option Entry → Int → List Entry → Int
  | _, _, [] => 0
  | prev, s, x :: r => orE (stepE prev s r.isEmpty x) (checkGo (some x) (if x.gap then s else x.sec) r)
def activeE (p : Plan) : Int :=
  if p.active = -1 then 0 else if p.active < 0 ∨ (p.es.length : Int) ≤ p.active then 2 else if ((p.es[p.active.toNat]?).map (·.gap)).getD true then 2 else 0
def planCheck (p : Plan) : Int :=
  if !placeB p.from_ || !placeB p.to_ then 5 else if 60 < p.es.length then 3 else orE (checkGo none 0 p.es) (activeE p)
def prevOf (es : List Entry) : Nat → Option Entry
  | 0 => none
  | k + 1 => es[k]?
theorem run_gap (x : Entry) : ∀ w, (binOp .neq 80 (.agg x.arr) (.agg #[.bool true, .int .u8 0, .string ⟨#[]⟩, .string ⟨#[]⟩, .int .u8 0, .bool false, .int .i64 0, .int .i64 0, .int .i64 0, .int .i64 0, .int .i64 0, .int .i64 0, .int .i64 0, .int .i64 0, .int .i64 0, .int .i64 0, .int .i64 0, .int .i64 0, .int .u8 0, .string ⟨#[]⟩])).run Tryz.prog w = .ok (.bool (!x.eqB gapE)) w := fun w => run_neq_ent x gapE w
theorem st_gap1 {prev : Option Entry} {s : Int} {l : Bool} {x : Entry} {R T : Int} (h : x.gap = true) (he : (!x.eqB gapE) = true) : 1 = orE (orE (stepE prev s l x) R) T := by grind [stepE, orE]
theorem st_gap9 {prev : Option Entry} {s : Int} {l : Bool} {x : Entry} {R T : Int} (h : x.gap = true) (he : (!x.eqB gapE) = false) (hp : gapOrdE prev l = 9) : 9 = orE (orE (stepE prev s l x) R) T := by grind [stepE, orE]
theorem st_gap0 {prev : Option Entry} {s : Int} {l : Bool} {x : Entry} {R T : Int} (h : x.gap = true) (he : (!x.eqB gapE) = false) (hp : gapOrdE prev l = 0) : orE (orE (stepE prev s l x) R) T = orE R T := by grind [stepE, orE]
theorem st_one {prev : Option Entry} {s : Int} {l : Bool} {x : Entry} {R T : Int} (h : x.gap = false) (he : (aloneE x != 0) = true) : aloneE x = orE (orE (stepE prev s l x) R) T := by grind [stepE, orE]
theorem st_ord {prev : Option Entry} {s : Int} {l : Bool} {x : Entry} {R T v : Int} (h : x.gap = false) (he : (aloneE x != 0) = false) (ho : orderE prev x = v) (hv : v ≠ 0) : v = orE (orE (stepE prev s l x) R) T := by grind [stepE, orE]
theorem st_sec {prev : Option Entry} {s : Int} {l : Bool} {x : Entry} {R T : Int} (h : x.gap = false) (he : (aloneE x != 0) = false) (ho : orderE prev x = 0) (hs : x.sec < s) : 9 = orE (orE (stepE prev s l x) R) T := by grind [stepE, orE]
theorem st_ok {prev : Option Entry} {s : Int} {l : Bool} {x : Entry} {R T : Int} (h : x.gap = false) (he : (aloneE x != 0) = false) (ho : orderE prev x = 0) (hs : ¬ x.sec < s) : orE (orE (stepE prev s l x) R) T = orE R T := by grind [stepE, orE]
theorem drop_last (es : List Entry) (k : Nat) (h : k < es.length) : (es.drop (k + 1)).isEmpty = decide ((k : Int) = (es.length : Int) - 1) := by
  rw [Bool.eq_iff_iff]
  simp
  omega
theorem ord_start {y : Entry} {x : Entry} (hy : y.gap = true) (h : (!startsB x.leg.ty) = true) : orderE (some y) x = 9 := by grind [orderE]
theorem ord_start0 {y : Entry} {x : Entry} (hy : y.gap = true) (h : (!startsB x.leg.ty) = false) : orderE (some y) x = 0 := by grind [orderE]
theorem ord_none {x : Entry} (h : (!startsB x.leg.ty) = true) : orderE none x = 9 := by grind [orderE]
theorem ord_none0 {x : Entry} (h : (!startsB x.leg.ty) = false) : orderE none x = 0 := by grind [orderE]
theorem ord_join {y : Entry} {x : Entry} (hy : y.gap = false) (h : (!y.leg.joinsB x.leg) = true) : orderE (some y) x = 9 := by grind [orderE]
def tdB (t : Int) : Bool := t == 2 || t == 4
def Leg.dupB (y x : Leg) : Bool := tdB x.ty && y.arrivedB x
theorem ord_arr {y : Entry} {x : Entry} (hy : y.gap = false) (h : (!y.leg.joinsB x.leg) = false) (ha : y.leg.dupB x.leg = true) : orderE (some y) x = 7 := by grind [orderE, tdB, Leg.dupB]
theorem ord_ok {y : Entry} {x : Entry} (hy : y.gap = false) (h : (!y.leg.joinsB x.leg) = false) (ha : y.leg.dupB x.leg = false) : orderE (some y) x = 0 := by grind [orderE, tdB, Leg.dupB]
end Go.Proofs.YtlleijickhifmaaGreatDoor
namespace Go.Proofs.YtlleijickhifmaaGreatDoor
open Go.RowKit
set_option linter.unusedVariables false
set_option linter.unusedSimpArgs false
theorem info_pt : (Tryz.prog.info? 28).map (·.size) = some 2 := by kernel_rfl
def Is_pt (w : World) (b o : Nat) (x : Pt) : Prop := ∀ j, j < 2 → w.cell? ⟨b, o + j, none⟩ = x.arr[j]?
def Has_pt (w : World) (b o : Nat) : Prop := ∃ x, Is_pt w b o x
theorem Pt.arr_inj {x y : Pt} (h : ∀ j, j < 2 → x.arr[j]? = y.arr[j]?) : x = y := by
  refine (Pt.eqB_iff x y).1 ?_
  have hh : ∀ j, j < 2 → x.arr[j]? = y.arr[j]? := h
  have e0 := h 0 (by omega)
  have e1 := h 1 (by omega)
  simp [Pt.arr0, Pt.arr1] at e0 e1
  simp [Pt.eqB, *]
open Classical in
noncomputable def of_pt (w : World) (b o : Nat) : Pt := if h : Has_pt w b o then h.choose else ⟨0, 0⟩
theorem of_pt_spec {w : World} {b o : Nat} (h : Has_pt w b o) : Is_pt w b o (of_pt w b o) := by
  unfold of_pt
  rw [dif_pos h]
  exact h.choose_spec
theorem of_pt_eq {w : World} {b o : Nat} {x : Pt} (h : Is_pt w b o x) : of_pt w b o = x :=
  Pt.arr_inj fun j hj => (of_pt_spec ⟨x, h⟩ j hj).symm.trans (h j hj)
theorem Has_pt_drewN (w : World) (b o n : Nat) : Has_pt (w.drewN n) b o = Has_pt w b o := propext ⟨fun h => h, fun h => h⟩
theorem of_pt_drewN (w : World) (b o n : Nat) : of_pt (w.drewN n) b o = of_pt w b o := rfl
theorem Is_pt.below {w w' : World} {B b o : Nat} {x : Pt} (h : Is_pt w b o x) (hb : Below B w w') (hlt : b < B) : Is_pt w' b o x := fun j hj => by rw [hb.cell (p := ⟨b, _, none⟩) hlt]; exact h j hj
theorem Is_pt_new (w : World) (x : Pt) (t : TypeId) : Is_pt (w.alloc (.cells x.arr t)) w.heap.size 0 x := fun j _ => by rw [Nat.zero_add]; exact cell_of_row _ _ j x.arr t (0, 0) (heap_alloc_new w _)
theorem Has_pt_new (w : World) (x : Pt) (t : TypeId) : Has_pt (w.alloc (.cells x.arr t)) w.heap.size 0 = True := eq_true ⟨x, Is_pt_new w x t⟩
theorem of_pt_new (w : World) (x : Pt) (t : TypeId) : of_pt (w.alloc (.cells x.arr t)) w.heap.size 0 = x := of_pt_eq (Is_pt_new w x t)
theorem Has_pt_alloc (w : World) (b o : Nat) (ob : Obj) (h : b < w.heap.size) : Has_pt (w.alloc ob) b o = Has_pt w b o := by
  have e : ∀ j, (w.alloc ob).cell? ⟨b, o + j, none⟩ = w.cell? ⟨b, o + j, none⟩ := fun j => World.cell?_alloc_lt w ob ⟨b, o + j, none⟩ h
  simp only [Has_pt, Is_pt, e]
theorem of_pt_alloc (w : World) (b o : Nat) (ob : Obj) (h : b < w.heap.size) (hh : Has_pt w b o) : of_pt (w.alloc ob) b o = of_pt w b o :=
  of_pt_eq fun j hj => by rw [World.cell?_alloc_lt w ob ⟨b, o + j, none⟩ h]; exact of_pt_spec hh j hj
def load_pt (v : Value) : Sem Value := Instr.loadAt 28 v
theorem load_pt_fold (v : Value) : Instr.loadAt 28 v = load_pt v := rfl
theorem run_load_pt (w : World) (b o : Nat) (h : Has_pt w b o) : (load_pt (.pointer (some ⟨b, o, none⟩))).run Tryz.prog w = .ok (.agg (of_pt w b o).arr) w := by
  have hs := of_pt_spec h
  generalize of_pt w b o = x at hs
  have := run_load_agg (P := Tryz.prog) w ⟨b, o, none⟩ 28 x.arr.toList _ (fun j v hv => by
    rw [addr_add, hs j (by have := (List.getElem?_eq_some_iff.1 hv).1; simpa [Pt.arr_size] using this)]
    simpa using hv) Tryz.underlying28 rfl info_pt
  simp only [load_pt, Instr.loadAt, Instr.sureAddr, Sem.run_bind, Sem.run_pure, Result.andThen_ok]
  simpa using this
def store_pt (p v : Value) : Sem Unit := Instr.storeAt 28 p v
theorem store_pt_fold (p v : Value) : Instr.storeAt 28 p v = store_pt p v := rfl
theorem run_store_pt (w : World) (c c' : Array Value) (hc : c.size = 2) (hc' : c'.size = 2) (h1 : c'.all (·.oneCell') = true) :
    (store_pt (.pointer (some ⟨w.heap.size, 0, none⟩)) (.agg c')).run Tryz.prog (w.alloc (.cells c 28)) = .ok () (w.alloc (.cells c' 28)) :=
  run_storeAt_new (P := Tryz.prog) w 28 c c' (by rw [hc']; exact info_pt) (by rw [hc, hc']) h1
attribute [go_sem ↓] load_pt_fold store_pt_fold
attribute [go_sem] run_load_pt run_store_pt Has_pt_drewN of_pt_drewN Has_pt_new of_pt_new Has_pt_alloc of_pt_alloc
theorem info_win : (Tryz.prog.info? 51).map (·.size) = some 2 := by kernel_rfl
def Is_win (w : World) (b o : Nat) (x : Win) : Prop := ∀ j, j < 2 → w.cell? ⟨b, o + j, none⟩ = x.arr[j]?
def Has_win (w : World) (b o : Nat) : Prop := ∃ x, Is_win w b o x
theorem Win.arr_inj {x y : Win} (h : ∀ j, j < 2 → x.arr[j]? = y.arr[j]?) : x = y := by
  refine (Win.eqB_iff x y).1 ?_
  have hh : ∀ j, j < 2 → x.arr[j]? = y.arr[j]? := h
  have e0 := h 0 (by omega)
  have e1 := h 1 (by omega)
  simp [Win.arr0, Win.arr1] at e0 e1
  simp [Win.eqB, *]
open Classical in
noncomputable def of_win (w : World) (b o : Nat) : Win := if h : Has_win w b o then h.choose else ⟨0, 0⟩
theorem of_win_spec {w : World} {b o : Nat} (h : Has_win w b o) : Is_win w b o (of_win w b o) := by
  unfold of_win
  rw [dif_pos h]
  exact h.choose_spec
theorem of_win_eq {w : World} {b o : Nat} {x : Win} (h : Is_win w b o x) : of_win w b o = x :=
  Win.arr_inj fun j hj => (of_win_spec ⟨x, h⟩ j hj).symm.trans (h j hj)
theorem Has_win_drewN (w : World) (b o n : Nat) : Has_win (w.drewN n) b o = Has_win w b o := propext ⟨fun h => h, fun h => h⟩
theorem of_win_drewN (w : World) (b o n : Nat) : of_win (w.drewN n) b o = of_win w b o := rfl
theorem Is_win.below {w w' : World} {B b o : Nat} {x : Win} (h : Is_win w b o x) (hb : Below B w w') (hlt : b < B) : Is_win w' b o x := fun j hj => by rw [hb.cell (p := ⟨b, _, none⟩) hlt]; exact h j hj
theorem Is_win_new (w : World) (x : Win) (t : TypeId) : Is_win (w.alloc (.cells x.arr t)) w.heap.size 0 x := fun j _ => by rw [Nat.zero_add]; exact cell_of_row _ _ j x.arr t (0, 0) (heap_alloc_new w _)
theorem Has_win_new (w : World) (x : Win) (t : TypeId) : Has_win (w.alloc (.cells x.arr t)) w.heap.size 0 = True := eq_true ⟨x, Is_win_new w x t⟩
theorem of_win_new (w : World) (x : Win) (t : TypeId) : of_win (w.alloc (.cells x.arr t)) w.heap.size 0 = x := of_win_eq (Is_win_new w x t)
theorem Has_win_alloc (w : World) (b o : Nat) (ob : Obj) (h : b < w.heap.size) : Has_win (w.alloc ob) b o = Has_win w b o := by
  have e : ∀ j, (w.alloc ob).cell? ⟨b, o + j, none⟩ = w.cell? ⟨b, o + j, none⟩ := fun j => World.cell?_alloc_lt w ob ⟨b, o + j, none⟩ h
  simp only [Has_win, Is_win, e]
theorem of_win_alloc (w : World) (b o : Nat) (ob : Obj) (h : b < w.heap.size) (hh : Has_win w b o) : of_win (w.alloc ob) b o = of_win w b o :=
  of_win_eq fun j hj => by rw [World.cell?_alloc_lt w ob ⟨b, o + j, none⟩ h]; exact of_win_spec hh j hj
def load_win (v : Value) : Sem Value := Instr.loadAt 51 v
theorem load_win_fold (v : Value) : Instr.loadAt 51 v = load_win v := rfl
theorem run_load_win (w : World) (b o : Nat) (h : Has_win w b o) : (load_win (.pointer (some ⟨b, o, none⟩))).run Tryz.prog w = .ok (.agg (of_win w b o).arr) w := by
  have hs := of_win_spec h
  generalize of_win w b o = x at hs
  have := run_load_agg (P := Tryz.prog) w ⟨b, o, none⟩ 51 x.arr.toList _ (fun j v hv => by
    rw [addr_add, hs j (by have := (List.getElem?_eq_some_iff.1 hv).1; simpa [Win.arr_size] using this)]
    simpa using hv) Tryz.underlying51 rfl info_win
  simp only [load_win, Instr.loadAt, Instr.sureAddr, Sem.run_bind, Sem.run_pure, Result.andThen_ok]
  simpa using this
def store_win (p v : Value) : Sem Unit := Instr.storeAt 51 p v
theorem store_win_fold (p v : Value) : Instr.storeAt 51 p v = store_win p v := rfl
theorem run_store_win (w : World) (c c' : Array Value) (hc : c.size = 2) (hc' : c'.size = 2) (h1 : c'.all (·.oneCell') = true) :
    (store_win (.pointer (some ⟨w.heap.size, 0, none⟩)) (.agg c')).run Tryz.prog (w.alloc (.cells c 51)) = .ok () (w.alloc (.cells c' 51)) :=
  run_storeAt_new (P := Tryz.prog) w 51 c c' (by rw [hc']; exact info_win) (by rw [hc, hc']) h1
attribute [go_sem ↓] load_win_fold store_win_fold
attribute [go_sem] run_load_win run_store_win Has_win_drewN of_win_drewN Has_win_new of_win_new Has_win_alloc of_win_alloc
theorem info_leg : (Tryz.prog.info? 77).map (·.size) = some 13 := by kernel_rfl
def Is_leg (w : World) (b o : Nat) (x : Leg) : Prop := ∀ j, j < 13 → w.cell? ⟨b, o + j, none⟩ = x.arr[j]?
def Has_leg (w : World) (b o : Nat) : Prop := ∃ x, Is_leg w b o x
theorem Leg.arr_inj {x y : Leg} (h : ∀ j, j < 13 → x.arr[j]? = y.arr[j]?) : x = y := by
  refine (Leg.eqB_iff x y).1 ?_
  have hh : ∀ j, j < 13 → x.arr[j]? = y.arr[j]? := h
  have e0 := h 0 (by omega)
  have e1 := h 1 (by omega)
  have e2 := h 2 (by omega)
  have e3 := h 3 (by omega)
  have e4 := h 4 (by omega)
  have e5 := h 5 (by omega)
  have e6 := h 6 (by omega)
  have e7 := h 7 (by omega)
  have e8 := h 8 (by omega)
  have e9 := h 9 (by omega)
  have e10 := h 10 (by omega)
  have e11 := h 11 (by omega)
  have e12 := h 12 (by omega)
  simp [Leg.arr0, Leg.arr1, Leg.arr2, Leg.arr3, Leg.arr4, Leg.arr5, Leg.arr6, Leg.arr7, Leg.arr8, Leg.arr9, Leg.arr10, Leg.arr11, Leg.arr12] at e0 e1 e2 e3 e4 e5 e6 e7 e8 e9 e10 e11 e12
  simp [Leg.eqB, *]
open Classical in
noncomputable def of_leg (w : World) (b o : Nat) : Leg := if h : Has_leg w b o then h.choose else ⟨0, [], [], 0, false, 0, 0, 0, 0, 0, 0, 0, 0⟩
theorem of_leg_spec {w : World} {b o : Nat} (h : Has_leg w b o) : Is_leg w b o (of_leg w b o) := by
  unfold of_leg
  rw [dif_pos h]
  exact h.choose_spec
theorem of_leg_eq {w : World} {b o : Nat} {x : Leg} (h : Is_leg w b o x) : of_leg w b o = x :=
  Leg.arr_inj fun j hj => (of_leg_spec ⟨x, h⟩ j hj).symm.trans (h j hj)
theorem Has_leg_drewN (w : World) (b o n : Nat) : Has_leg (w.drewN n) b o = Has_leg w b o := propext ⟨fun h => h, fun h => h⟩
theorem of_leg_drewN (w : World) (b o n : Nat) : of_leg (w.drewN n) b o = of_leg w b o := rfl
theorem Is_leg.below {w w' : World} {B b o : Nat} {x : Leg} (h : Is_leg w b o x) (hb : Below B w w') (hlt : b < B) : Is_leg w' b o x := fun j hj => by rw [hb.cell (p := ⟨b, _, none⟩) hlt]; exact h j hj
theorem Is_leg_new (w : World) (x : Leg) (t : TypeId) : Is_leg (w.alloc (.cells x.arr t)) w.heap.size 0 x := fun j _ => by rw [Nat.zero_add]; exact cell_of_row _ _ j x.arr t (0, 0) (heap_alloc_new w _)
theorem Has_leg_new (w : World) (x : Leg) (t : TypeId) : Has_leg (w.alloc (.cells x.arr t)) w.heap.size 0 = True := eq_true ⟨x, Is_leg_new w x t⟩
theorem of_leg_new (w : World) (x : Leg) (t : TypeId) : of_leg (w.alloc (.cells x.arr t)) w.heap.size 0 = x := of_leg_eq (Is_leg_new w x t)
theorem Has_leg_alloc (w : World) (b o : Nat) (ob : Obj) (h : b < w.heap.size) : Has_leg (w.alloc ob) b o = Has_leg w b o := by
  have e : ∀ j, (w.alloc ob).cell? ⟨b, o + j, none⟩ = w.cell? ⟨b, o + j, none⟩ := fun j => World.cell?_alloc_lt w ob ⟨b, o + j, none⟩ h
  simp only [Has_leg, Is_leg, e]
theorem of_leg_alloc (w : World) (b o : Nat) (ob : Obj) (h : b < w.heap.size) (hh : Has_leg w b o) : of_leg (w.alloc ob) b o = of_leg w b o :=
  of_leg_eq fun j hj => by rw [World.cell?_alloc_lt w ob ⟨b, o + j, none⟩ h]; exact of_leg_spec hh j hj
def load_leg (v : Value) : Sem Value := Instr.loadAt 77 v
theorem load_leg_fold (v : Value) : Instr.loadAt 77 v = load_leg v := rfl
theorem run_load_leg (w : World) (b o : Nat) (h : Has_leg w b o) : (load_leg (.pointer (some ⟨b, o, none⟩))).run Tryz.prog w = .ok (.agg (of_leg w b o).arr) w := by
  have hs := of_leg_spec h
  generalize of_leg w b o = x at hs
  have := run_load_agg (P := Tryz.prog) w ⟨b, o, none⟩ 77 x.arr.toList _ (fun j v hv => by
    rw [addr_add, hs j (by have := (List.getElem?_eq_some_iff.1 hv).1; simpa [Leg.arr_size] using this)]
    simpa using hv) Tryz.underlying77 rfl info_leg
  simp only [load_leg, Instr.loadAt, Instr.sureAddr, Sem.run_bind, Sem.run_pure, Result.andThen_ok]
  simpa using this
def store_leg (p v : Value) : Sem Unit := Instr.storeAt 77 p v
theorem store_leg_fold (p v : Value) : Instr.storeAt 77 p v = store_leg p v := rfl
theorem run_store_leg (w : World) (c c' : Array Value) (hc : c.size = 13) (hc' : c'.size = 13) (h1 : c'.all (·.oneCell') = true) :
    (store_leg (.pointer (some ⟨w.heap.size, 0, none⟩)) (.agg c')).run Tryz.prog (w.alloc (.cells c 77)) = .ok () (w.alloc (.cells c' 77)) :=
  run_storeAt_new (P := Tryz.prog) w 77 c c' (by rw [hc']; exact info_leg) (by rw [hc, hc']) h1
attribute [go_sem ↓] load_leg_fold store_leg_fold
attribute [go_sem] run_load_leg run_store_leg Has_leg_drewN of_leg_drewN Has_leg_new of_leg_new Has_leg_alloc of_leg_alloc
theorem info_ent : (Tryz.prog.info? 80).map (·.size) = some 20 := by kernel_rfl
def Is_ent (w : World) (b o : Nat) (x : Entry) : Prop := ∀ j, j < 20 → w.cell? ⟨b, o + j, none⟩ = x.arr[j]?
def Has_ent (w : World) (b o : Nat) : Prop := ∃ x, Is_ent w b o x
theorem Entry.arr_inj {x y : Entry} (h : ∀ j, j < 20 → x.arr[j]? = y.arr[j]?) : x = y := by
  refine (Entry.eqB_iff x y).1 ?_
  have hh : ∀ j, j < 20 → x.arr[j]? = y.arr[j]? := h
  have e0 := h 0 (by omega)
  have e1 := h 1 (by omega)
  have e2 := h 2 (by omega)
  have e3 := h 3 (by omega)
  have e4 := h 4 (by omega)
  have e5 := h 5 (by omega)
  have e6 := h 6 (by omega)
  have e7 := h 7 (by omega)
  have e8 := h 8 (by omega)
  have e9 := h 9 (by omega)
  have e10 := h 10 (by omega)
  have e11 := h 11 (by omega)
  have e12 := h 12 (by omega)
  have e13 := h 13 (by omega)
  have e14 := h 14 (by omega)
  have e15 := h 15 (by omega)
  have e16 := h 16 (by omega)
  have e17 := h 17 (by omega)
  have e18 := h 18 (by omega)
  have e19 := h 19 (by omega)
  simp [Entry.arr0, Entry.arr1, Entry.arr2, Entry.arr3, Entry.arr4, Entry.arr5, Entry.arr6, Entry.arr7, Entry.arr8, Entry.arr9, Entry.arr10, Entry.arr11, Entry.arr12, Entry.arr13, Entry.arr14, Entry.arr15, Entry.arr16, Entry.arr17, Entry.arr18, Entry.arr19] at e0 e1 e2 e3 e4 e5 e6 e7 e8 e9 e10 e11 e12 e13 e14 e15 e16 e17 e18 e19
  simp [Entry.eqB, *]
open Classical in
noncomputable def of_ent (w : World) (b o : Nat) : Entry := if h : Has_ent w b o then h.choose else ⟨false, ⟨0, [], [], 0, false, 0, 0, 0, 0, 0, 0, 0, 0⟩, 0, 0, 0, 0, 0, []⟩
theorem of_ent_spec {w : World} {b o : Nat} (h : Has_ent w b o) : Is_ent w b o (of_ent w b o) := by
  unfold of_ent
  rw [dif_pos h]
  exact h.choose_spec
theorem of_ent_eq {w : World} {b o : Nat} {x : Entry} (h : Is_ent w b o x) : of_ent w b o = x :=
  Entry.arr_inj fun j hj => (of_ent_spec ⟨x, h⟩ j hj).symm.trans (h j hj)
theorem Has_ent_drewN (w : World) (b o n : Nat) : Has_ent (w.drewN n) b o = Has_ent w b o := propext ⟨fun h => h, fun h => h⟩
theorem of_ent_drewN (w : World) (b o n : Nat) : of_ent (w.drewN n) b o = of_ent w b o := rfl
theorem Is_ent.below {w w' : World} {B b o : Nat} {x : Entry} (h : Is_ent w b o x) (hb : Below B w w') (hlt : b < B) : Is_ent w' b o x := fun j hj => by rw [hb.cell (p := ⟨b, _, none⟩) hlt]; exact h j hj
theorem Is_ent_new (w : World) (x : Entry) (t : TypeId) : Is_ent (w.alloc (.cells x.arr t)) w.heap.size 0 x := fun j _ => by rw [Nat.zero_add]; exact cell_of_row _ _ j x.arr t (0, 0) (heap_alloc_new w _)
theorem Has_ent_new (w : World) (x : Entry) (t : TypeId) : Has_ent (w.alloc (.cells x.arr t)) w.heap.size 0 = True := eq_true ⟨x, Is_ent_new w x t⟩
theorem of_ent_new (w : World) (x : Entry) (t : TypeId) : of_ent (w.alloc (.cells x.arr t)) w.heap.size 0 = x := of_ent_eq (Is_ent_new w x t)
theorem Has_ent_alloc (w : World) (b o : Nat) (ob : Obj) (h : b < w.heap.size) : Has_ent (w.alloc ob) b o = Has_ent w b o := by
  have e : ∀ j, (w.alloc ob).cell? ⟨b, o + j, none⟩ = w.cell? ⟨b, o + j, none⟩ := fun j => World.cell?_alloc_lt w ob ⟨b, o + j, none⟩ h
  simp only [Has_ent, Is_ent, e]
theorem of_ent_alloc (w : World) (b o : Nat) (ob : Obj) (h : b < w.heap.size) (hh : Has_ent w b o) : of_ent (w.alloc ob) b o = of_ent w b o :=
  of_ent_eq fun j hj => by rw [World.cell?_alloc_lt w ob ⟨b, o + j, none⟩ h]; exact of_ent_spec hh j hj
def load_ent (v : Value) : Sem Value := Instr.loadAt 80 v
theorem load_ent_fold (v : Value) : Instr.loadAt 80 v = load_ent v := rfl
theorem run_load_ent (w : World) (b o : Nat) (h : Has_ent w b o) : (load_ent (.pointer (some ⟨b, o, none⟩))).run Tryz.prog w = .ok (.agg (of_ent w b o).arr) w := by
  have hs := of_ent_spec h
  generalize of_ent w b o = x at hs
  have := run_load_agg (P := Tryz.prog) w ⟨b, o, none⟩ 80 x.arr.toList _ (fun j v hv => by
    rw [addr_add, hs j (by have := (List.getElem?_eq_some_iff.1 hv).1; simpa [Entry.arr_size] using this)]
    simpa using hv) Tryz.underlying80 rfl info_ent
  simp only [load_ent, Instr.loadAt, Instr.sureAddr, Sem.run_bind, Sem.run_pure, Result.andThen_ok]
  simpa using this
def store_ent (p v : Value) : Sem Unit := Instr.storeAt 80 p v
theorem store_ent_fold (p v : Value) : Instr.storeAt 80 p v = store_ent p v := rfl
theorem run_store_ent (w : World) (c c' : Array Value) (hc : c.size = 20) (hc' : c'.size = 20) (h1 : c'.all (·.oneCell') = true) :
    (store_ent (.pointer (some ⟨w.heap.size, 0, none⟩)) (.agg c')).run Tryz.prog (w.alloc (.cells c 80)) = .ok () (w.alloc (.cells c' 80)) :=
  run_storeAt_new (P := Tryz.prog) w 80 c c' (by rw [hc']; exact info_ent) (by rw [hc, hc']) h1
attribute [go_sem ↓] load_ent_fold store_ent_fold
attribute [go_sem] run_load_ent run_store_ent Has_ent_drewN of_ent_drewN Has_ent_new of_ent_new Has_ent_alloc of_ent_alloc
end Go.Proofs.YtlleijickhifmaaGreatDoor
namespace Go.Proofs.YtlleijickhifmaaGreatDoor
open Go.RowKit
set_option linter.unusedVariables false
set_option linter.unusedSimpArgs false
theorem Leg.arr_oneL (x : Leg) : x.arr.toList.all (·.oneCell') = true := by simp [Leg.arr, Value.oneCell']
theorem Entry.arr_oneL (x : Entry) : x.arr.toList.all (·.oneCell') = true := by simp [Entry.arr, Value.oneCell']
theorem Pt.arr_oneL (x : Pt) : x.arr.toList.all (·.oneCell') = true := by simp [Pt.arr, Value.oneCell']
theorem Win.arr_oneL (x : Win) : x.arr.toList.all (·.oneCell') = true := by simp [Win.arr, Value.oneCell']
theorem SzIs_leg (x : Leg) (n : Nat) : SzIs x.arr n = (13 = n) := propext ⟨fun h => h, fun h => h⟩
theorem SzIs_ent (x : Entry) (n : Nat) : SzIs x.arr n = (20 = n) := propext ⟨fun h => h, fun h => h⟩
theorem SzIs_pt (x : Pt) (n : Nat) : SzIs x.arr n = (2 = n) := propext ⟨fun h => h, fun h => h⟩
theorem SzIs_win (x : Win) (n : Nat) : SzIs x.arr n = (2 = n) := propext ⟨fun h => h, fun h => h⟩
theorem Fits_leg (x : Leg) (o n : Nat) : Fits o n x.arr = (o + n ≤ 13) := propext ⟨fun h => h, fun h => h⟩
theorem Fits_ent (x : Entry) (o n : Nat) : Fits o n x.arr = (o + n ≤ 20) := propext ⟨fun h => h, fun h => h⟩
attribute [go_sem] SzIs_leg SzIs_ent SzIs_pt SzIs_win Fits_leg Fits_ent
theorem Ones_leg (x : Leg) : Ones x.arr = True := eq_true (Leg.arr_oneL x)
theorem Ones_ent (x : Entry) : Ones x.arr = True := eq_true (Entry.arr_oneL x)
theorem Ones_pt (x : Pt) : Ones x.arr = True := eq_true (Pt.arr_oneL x)
theorem Ones_win (x : Win) : Ones x.arr = True := eq_true (Win.arr_oneL x)
attribute [go_sem] Ones_leg Ones_ent Ones_pt Ones_win
theorem run_storeB_pt (W : World) (g o : Nat) (v : Array Value) (hv : SzIs v 2) (h1 : Ones v) (hp : Plain W g) (hn : Fits o 2 (blkOf W g)) :
    (store_pt (.pointer (some ⟨g, o, none⟩)) (.agg v)).run Tryz.prog W = .ok () (W.setRow g (splice (blkOf W g) o v)) := run_store_blk W g o 2 _ v info_pt hv h1 hp hn
theorem Blk.is_pt {W : World} {g : Nat} {x : Pt} (h : Blk W g x.arr) : Is_pt W g 0 x := fun j _ => by rw [Nat.zero_add]; exact h.cell j
theorem Has_pt_set (W : World) (g : Nat) (x : Pt) (h : Plain W g) : Has_pt (W.setRow g x.arr) g 0 = True := eq_true ⟨x, fun j _ => by rw [Nat.zero_add]; exact cell_set W g j x.arr h⟩
theorem of_pt_set (W : World) (g : Nat) (x : Pt) (h : Plain W g) : of_pt (W.setRow g x.arr) g 0 = x := of_pt_eq fun j _ => by rw [Nat.zero_add]; exact cell_set W g j x.arr h
attribute [go_sem] run_storeB_pt Has_pt_set of_pt_set
theorem run_storeB_win (W : World) (g o : Nat) (v : Array Value) (hv : SzIs v 2) (h1 : Ones v) (hp : Plain W g) (hn : Fits o 2 (blkOf W g)) :
    (store_win (.pointer (some ⟨g, o, none⟩)) (.agg v)).run Tryz.prog W = .ok () (W.setRow g (splice (blkOf W g) o v)) := run_store_blk W g o 2 _ v info_win hv h1 hp hn
theorem Blk.is_win {W : World} {g : Nat} {x : Win} (h : Blk W g x.arr) : Is_win W g 0 x := fun j _ => by rw [Nat.zero_add]; exact h.cell j
theorem Has_win_set (W : World) (g : Nat) (x : Win) (h : Plain W g) : Has_win (W.setRow g x.arr) g 0 = True := eq_true ⟨x, fun j _ => by rw [Nat.zero_add]; exact cell_set W g j x.arr h⟩
theorem of_win_set (W : World) (g : Nat) (x : Win) (h : Plain W g) : of_win (W.setRow g x.arr) g 0 = x := of_win_eq fun j _ => by rw [Nat.zero_add]; exact cell_set W g j x.arr h
attribute [go_sem] run_storeB_win Has_win_set of_win_set
theorem run_storeB_leg (W : World) (g o : Nat) (v : Array Value) (hv : SzIs v 13) (h1 : Ones v) (hp : Plain W g) (hn : Fits o 13 (blkOf W g)) :
    (store_leg (.pointer (some ⟨g, o, none⟩)) (.agg v)).run Tryz.prog W = .ok () (W.setRow g (splice (blkOf W g) o v)) := run_store_blk W g o 13 _ v info_leg hv h1 hp hn
theorem Blk.is_leg {W : World} {g : Nat} {x : Leg} (h : Blk W g x.arr) : Is_leg W g 0 x := fun j _ => by rw [Nat.zero_add]; exact h.cell j
theorem Has_leg_set (W : World) (g : Nat) (x : Leg) (h : Plain W g) : Has_leg (W.setRow g x.arr) g 0 = True := eq_true ⟨x, fun j _ => by rw [Nat.zero_add]; exact cell_set W g j x.arr h⟩
theorem of_leg_set (W : World) (g : Nat) (x : Leg) (h : Plain W g) : of_leg (W.setRow g x.arr) g 0 = x := of_leg_eq fun j _ => by rw [Nat.zero_add]; exact cell_set W g j x.arr h
attribute [go_sem] run_storeB_leg Has_leg_set of_leg_set
theorem run_storeB_ent (W : World) (g o : Nat) (v : Array Value) (hv : SzIs v 20) (h1 : Ones v) (hp : Plain W g) (hn : Fits o 20 (blkOf W g)) :
    (store_ent (.pointer (some ⟨g, o, none⟩)) (.agg v)).run Tryz.prog W = .ok () (W.setRow g (splice (blkOf W g) o v)) := run_store_blk W g o 20 _ v info_ent hv h1 hp hn
theorem Blk.is_ent {W : World} {g : Nat} {x : Entry} (h : Blk W g x.arr) : Is_ent W g 0 x := fun j _ => by rw [Nat.zero_add]; exact h.cell j
theorem Has_ent_set (W : World) (g : Nat) (x : Entry) (h : Plain W g) : Has_ent (W.setRow g x.arr) g 0 = True := eq_true ⟨x, fun j _ => by rw [Nat.zero_add]; exact cell_set W g j x.arr h⟩
theorem of_ent_set (W : World) (g : Nat) (x : Entry) (h : Plain W g) : of_ent (W.setRow g x.arr) g 0 = x := of_ent_eq fun j _ => by rw [Nat.zero_add]; exact cell_set W g j x.arr h
attribute [go_sem] run_storeB_ent Has_ent_set of_ent_set
theorem run_storeN_pt (w : World) (c c' : Array Value) (hc : SzIs c 2) (hc' : SzIs c' 2) (h1 : Ones c') :
    (store_pt (.pointer (some ⟨w.heap.size, 0, none⟩)) (.agg c')).run Tryz.prog (w.alloc (.cells c 28)) = .ok () (w.alloc (.cells c' 28)) :=
  run_store_pt w c c' hc hc' (Array.all_eq_true_iff_forall_mem.2 fun v hv => (List.all_eq_true.1 (show c'.toList.all (·.oneCell') = true from h1)) v (by simpa using hv))
attribute [go_sem] run_storeN_pt
theorem run_storeN_win (w : World) (c c' : Array Value) (hc : SzIs c 2) (hc' : SzIs c' 2) (h1 : Ones c') :
    (store_win (.pointer (some ⟨w.heap.size, 0, none⟩)) (.agg c')).run Tryz.prog (w.alloc (.cells c 51)) = .ok () (w.alloc (.cells c' 51)) :=
  run_store_win w c c' hc hc' (Array.all_eq_true_iff_forall_mem.2 fun v hv => (List.all_eq_true.1 (show c'.toList.all (·.oneCell') = true from h1)) v (by simpa using hv))
attribute [go_sem] run_storeN_win
theorem run_storeN_leg (w : World) (c c' : Array Value) (hc : SzIs c 13) (hc' : SzIs c' 13) (h1 : Ones c') :
    (store_leg (.pointer (some ⟨w.heap.size, 0, none⟩)) (.agg c')).run Tryz.prog (w.alloc (.cells c 77)) = .ok () (w.alloc (.cells c' 77)) :=
  run_store_leg w c c' hc hc' (Array.all_eq_true_iff_forall_mem.2 fun v hv => (List.all_eq_true.1 (show c'.toList.all (·.oneCell') = true from h1)) v (by simpa using hv))
attribute [go_sem] run_storeN_leg
theorem run_storeN_ent (w : World) (c c' : Array Value) (hc : SzIs c 20) (hc' : SzIs c' 20) (h1 : Ones c') :
    (store_ent (.pointer (some ⟨w.heap.size, 0, none⟩)) (.agg c')).run Tryz.prog (w.alloc (.cells c 80)) = .ok () (w.alloc (.cells c' 80)) :=
  run_store_ent w c c' hc hc' (Array.all_eq_true_iff_forall_mem.2 fun v hv => (List.all_eq_true.1 (show c'.toList.all (·.oneCell') = true from h1)) v (by simpa using hv))
attribute [go_sem] run_storeN_ent
end Go.Proofs.YtlleijickhifmaaGreatDoor
namespace Go.Proofs.YtlleijickhifmaaGreatDoor
open Go.RowKit
set_option linter.unusedVariables false
set_option linter.unusedSimpArgs false
/-- A track, an arc becomes an initial fix. -/
def startForm (x : Entry) : Entry := ⟨x.gap, ⟨1, x.leg.fix, [], 0, false, 0, 0, 0, 0, x.leg.lo, x.leg.hi, x.leg.speed, x.leg.rnp⟩, x.ex, x.ey, 0, 0, x.sec, x.via⟩
def stF (x : Entry) : Entry := ⟨x.gap, ⟨1, x.leg.fix, [], 0, false, 0, 0, 0, 0, x.leg.lo, x.leg.hi, x.leg.speed, x.leg.rnp⟩, x.ex, x.ey, x.mx, x.my, x.sec, x.via⟩
def startAble (t : Int) : Bool := t == 2 || t == 5 || t == 6
def zeroE : Entry := ⟨false, ⟨0, [], [], 0, false, 0, 0, 0, 0, 0, 0, 0, 0⟩, 0, 0, 0, 0, 0, []⟩
def startOf (x : Entry) : Entry × Bool := if startsB x.leg.ty then (x, true) else if startAble x.leg.ty then (startForm x, true) else (zeroE, false)
theorem Win.arr_mk (a b : Int) : Win.arr ⟨a, b⟩ = #[.int .i64 a, .int .i64 b] := rfl
theorem Pt.arr_mk (a b : Int) : Pt.arr ⟨a, b⟩ = #[.int .i64 a, .int .i64 b] := rfl
attribute [local go_sem] Win.arr_mk Pt.arr_mk
theorem Entry.is_win {W : World} {g : Nat} {x : Entry} (h : Blk W g x.arr) : Is_win W g 10 ⟨x.leg.lo, x.leg.hi⟩ := by
  intro j hj
  rw [h.cell]
  match j, hj with
  | 0, _ | 1, _ => rfl
theorem results_ent {fn : Func} {p t : Tmp} (h : fn.results = #[.cell p 80, .tmp t]) (tmps : Array Value) (w : World) (g : Nat) (x : Entry) (hp : tmps.getD p undef = .pointer (some ⟨g, 0, none⟩)) (hx : Is_ent w g 0 x) :
    (results fn tmps).run Tryz.prog w = .ok (.tuple #[.agg x.arr, tmps.getD t undef]) w := by
  have hp' : tmps[p]?.getD undef = .pointer (some ⟨g, 0, none⟩) := by simpa using hp
  have hl := run_load_agg (P := Tryz.prog) w ⟨g, 0, none⟩ 80 x.arr.toList _ (fun j v hv => by
    rw [addr_add, hx j (by have := (List.getElem?_eq_some_iff.1 hv).1; simpa [Entry.arr_size] using this)]
    simpa using hv) Tryz.underlying80 rfl info_ent
  simp [results, h, hp', asAddr, hl]
theorem Ret.start {w w' : World} {r : Entry × Bool} {x : Entry} {b : Bool} (h : r = (x, b)) (hw : Below w.heap.size w w') : Ret w (.tuple #[r.1.val, .bool r.2]) (.returned (.tuple #[.agg x.arr, .bool b])) w' := by
  subst h; exact ⟨rfl, hw⟩
end Go.Proofs.YtlleijickhifmaaGreatDoor
namespace Go.Proofs.YtlleijickhifmaaGreatDoor
open Go.RowKit
set_option linter.unusedVariables false
set_option linter.unusedSimpArgs false
def stL (x : Entry) : Leg := ⟨1, x.leg.fix, [], 0, false, 0, 0, 0, 0, x.leg.lo, x.leg.hi, x.leg.speed, x.leg.rnp⟩
def rstartForm (x : Entry) : Entry := ⟨false, stL x, x.ex, x.ey, 0, 0, x.sec, x.via⟩
def rstartOf (x : Entry) : Entry × Bool := if startsB x.leg.ty then (x, true) else if startAble x.leg.ty then (rstartForm x, true) else (x, false)
attribute [local go_sem] Win.arr_mk Pt.arr_mk
theorem Entry.is_pt {W : World} {g : Nat} {x : Entry} (h : Blk W g x.arr) : Is_pt W g 14 ⟨x.ex, x.ey⟩ := by
  intro j hj
  rw [h.cell]
  match j, hj with
  | 0, _ | 1, _ => rfl
end Go.Proofs.YtlleijickhifmaaGreatDoor
namespace Go.Proofs.YtlleijickhifmaaGreatDoor
open Go.RowKit
set_option linter.unusedVariables false
set_option linter.unusedSimpArgs false
theorem info_ent_all : (Tryz.prog.info? 80).map (fun i => (i.zero, i.size, i.bytes)) = some (some zeroE.val, 20, 176) := by kernel_rfl
def bs1 (parts : Array (Nat × Value)) : Sem Value := Instr.buildSlice 24 1 parts
theorem bs1_fold (parts : Array (Nat × Value)) : Instr.buildSlice 24 1 parts = bs1 parts := rfl
def bs2 (parts : Array (Nat × Value)) : Sem Value := Instr.buildSlice 24 2 parts
theorem bs2_fold (parts : Array (Nat × Value)) : Instr.buildSlice 24 2 parts = bs2 parts := rfl
theorem run_bs1 (w : World) (x : Entry) : (bs1 #[(0, .agg x.arr)]).run Tryz.prog w = .ok (.slice (some ⟨w.heap.size, 0, none⟩) 1 1) (w.alloc (.cells x.arr 80)) := by
  obtain ⟨i0, hi, hz0, hz1, hz2⟩ := info_parts info_ent_all
  refine run_buildSlice w 24 80 1 #[(0, .agg x.arr)] x.arr i0 _ Tryz.underlying24 hi hz0 (by rw [hz1]; decide) (by rw [hz1]; decide) ?_
  rw [hz1]
  kernel_rfl
theorem run_bs2 (w : World) (x y : Entry) : (bs2 #[(0, .agg x.arr), (1, .agg y.arr)]).run Tryz.prog w = .ok (.slice (some ⟨w.heap.size, 0, none⟩) 2 2) (w.alloc (.cells (x.arr ++ y.arr) 80)) := by
  obtain ⟨i0, hi, hz0, hz1, hz2⟩ := info_parts info_ent_all
  refine run_buildSlice w 24 80 2 #[(0, .agg x.arr), (1, .agg y.arr)] (x.arr ++ y.arr) i0 _ Tryz.underlying24 hi hz0 (by rw [hz1]; decide) (by rw [hz1]; decide) ?_
  rw [hz1]
  kernel_rfl
attribute [go_sem ↓] bs1_fold bs2_fold
attribute [go_sem] run_bs1
end Go.Proofs.YtlleijickhifmaaGreatDoor
namespace Go.Proofs.YtlleijickhifmaaGreatDoor
open Go.RowKit
set_option linter.unusedVariables false
set_option linter.unusedSimpArgs false
def skipB (t : Int) : Bool := t == 1 || t == 2 || t == 4
/-- What an entry that cannot follow does: it begins anew, if it may. -/
def joinNew (out : List Entry) (pend : Bool) (x : Entry) : List Entry × Bool :=
  if (startOf x).2 then ((if out.isEmpty then out else out ++ [gapE]) ++ [(startOf x).1], false) else (out, pend || !out.isEmpty)
def joinStep (out : List Entry) (pend : Bool) (x : Entry) : List Entry × Bool :=
  if x.gap then (out, true) else
  match out.getLast? with
  | none => joinNew out pend x
  | some y => if pend then joinNew out pend x else
      if y.leg.arrivedB x.leg && skipB x.leg.ty then (out, pend) else if y.leg.joinsB x.leg then (out ++ [x], pend) else joinNew out pend x
def joinGo : List Entry → Bool → List Entry → List Entry
  | out, _, [] => out
  | out, pend, x :: r => joinGo (joinStep out pend x).1 (joinStep out pend x).2 r
def joinE (l : List Entry) : List Entry := joinGo [] false l

def cellsOf (es : List Entry) : List Value := es.flatMap fun x => x.arr.toList
theorem cellsOf_len (es : List Entry) : (cellsOf es).length = es.length * 20 := by
  induction es with
  | nil => rfl
  | cons x r ih => simp only [cellsOf, List.flatMap_cons, List.length_append, List.length_cons] at *; rw [ih]; simp [Entry.arr]; omega
theorem cellsOf_app (a b : List Entry) : cellsOf (a ++ b) = cellsOf a ++ cellsOf b := by simp [cellsOf]
theorem cellsOf_one (es : List Entry) : ∀ u ∈ cellsOf es, u.oneCell' = true := by
  intro u hu
  obtain ⟨x, _, hx⟩ := List.mem_flatMap.1 hu
  exact (List.all_eq_true.1 (Entry.arr_oneL x)) u hx
/-- The slice v, made since w0, holds es. -/
def Out (w0 W : World) (v : Value) (es : List Entry) : Prop := W.ownsRow w0.heap.size 80 20 v es.length (cellsOf es)
theorem cellsOf_at : ∀ (es : List Entry) (i : Nat) (x : Entry), es[i]? = some x → ∀ j, j < 20 → (cellsOf es)[i * 20 + j]? = x.arr[j]?
  | [], i, x, h, _, _ => by simp at h
  | y :: r, 0, x, h, j, hj => by
    obtain rfl : y = x := by simpa using h
    simp only [cellsOf, List.flatMap_cons, Nat.zero_mul, Nat.zero_add]
    rw [List.getElem?_append_left (by simp [Entry.arr]; omega)]
    simp
  | y :: r, i + 1, x, h, j, hj => by
    have ih := cellsOf_at r i x (by simpa using h) j hj
    simp only [cellsOf, List.flatMap_cons] at ih ⊢
    rw [List.getElem?_append_right (by simp [Entry.arr]; omega), ← ih]
    congr 1
    simp [Entry.arr]
    omega
end Go.Proofs.YtlleijickhifmaaGreatDoor
namespace Go.Proofs.YtlleijickhifmaaGreatDoor
open Go.RowKit
set_option linter.unusedVariables false
set_option linter.unusedSimpArgs false
theorem Out.nil (w0 W : World) : Out w0 W (.slice none 0 0) [] := ⟨rfl, .inl ⟨rfl, rfl⟩⟩
theorem Out.form {w0 W : World} {v : Value} {es : List Entry} (h : Out w0 W v es) : ∃ A c, v = .slice A es.length c ∧ es.length ≤ c ∧ Ents W A es ∧ (∀ a, A = some a → w0.heap.size ≤ a.block) := by
  obtain ⟨hl, h⟩ := h
  rcases h with ⟨rfl, h0⟩ | ⟨g, cap, cur, rfl, hg, hb, hn, _, hsz, hc⟩
  · refine ⟨none, 0, by rw [h0], by omega, ?_, by simp⟩
    obtain rfl : es = [] := List.eq_nil_of_length_eq_zero h0
    exact Ents.nil _ _
  · refine ⟨some ⟨g, 0, none⟩, cap, rfl, hn, ⟨fun _ => ⟨g, 0, rfl, ?_, ?_⟩⟩, by rintro a h; injection h with h; subst h; exact hg⟩
    · rcases Nat.lt_or_ge g W.heap.size with hlt | hge
      · exact hlt
      · rw [Array.getElem?_eq_none hge] at hb; cases hb
    · intro i x hx j hj
      have h1 := cellsOf_at es i x hx j hj
      have hi : i < es.length := (List.getElem?_eq_some_iff.1 hx).1
      rw [Nat.zero_add, cell_of_row W g _ cur _ _ hb, ← h1, ← hc, List.getElem?_take]
      rw [if_pos (by omega)]
      simp
theorem Out.below {w0 W W' : World} {v : Value} {es : List Entry} (h : Out w0 W v es) (hb : Below W.heap.size W W') : Out w0 W' v es := by
  obtain ⟨hl, h⟩ := h
  refine ⟨hl, ?_⟩
  rcases h with ⟨rfl, h0⟩ | ⟨g, cap, cur, rfl, hg, hbk, hn, hm, hsz, hc⟩
  · exact .inl ⟨rfl, h0⟩
  · have hlt : g < W.heap.size := by
      rcases Nat.lt_or_ge g W.heap.size with hlt | hge
      · exact hlt
      · rw [Array.getElem?_eq_none hge] at hbk; cases hbk
    exact .inr ⟨g, cap, cur, rfl, hg, (hb.block g hlt).trans hbk, hn, hm, hsz, hc⟩
theorem Out.alloc {w0 W : World} {v : Value} {es : List Entry} (h : Out w0 W v es) (o : Obj) : Out w0 (W.alloc o) v es := h.below ((Below.refl _ _).alloc (Nat.le_refl _) _)
/-- 'out = append(out, ..)': the source is a block of the entries news. -/
theorem wpList_append_out {ops : Array Oper} {rest : List Oper} {op : Oper} {a : Act} {Q : Exit → Act → World → Prop} {w0 W : World} {v : Value} {es : List Entry} (hgd : op.guard = none) (s x : Operand)
    (ho : op.op = .call { callee := .builtin .append, args := #[s, x], argTypes := #[24, 24] }) (h : Out w0 W v es) (hs : a.eval s = v) (news : List Entry) (g c n : Nat) (hnn : news.length = n)
    (hx : a.eval x = .slice (some ⟨g, 0, none⟩) n c) (hg : Blk W g (cellsOf news).toArray) (hn : es.length + news.length ≤ 1000000) (hb : w0.heap.size ≤ W.heap.size)
    (k : ∀ v' W', Out w0 W' v' (es ++ news) → W.grownBy W' v.ownBlock → wpList Tryz.prog ops Q rest (a.put op.dst v') W') : wpList Tryz.prog ops Q (op :: rest) a W := by
  obtain ⟨i0, hi, hz0, hz1, hz2⟩ := info_parts info_ent_all
  subst hnn
  refine wpList_append_own W hgd s x 24 ho w0.heap.size 80 i0 _ 20 176 Tryz.underlying24 hi hz0 hz1 hz2 rfl (by omega) v es.length (cellsOf es) hs h ⟨g, 0, none⟩ news.length c (cellsOf news) hx (cellsOf_len news) ?_ (cellsOf_one news) (by unfold maxLen; omega) (by omega) hb ?_
  · intro j u hu
    rw [addr_add, Nat.zero_add, hg.cell]
    simpa using hu
  · intro v' W' h1 h2 _
    refine k v' W' ?_ h2
    unfold Out
    rw [List.length_append, cellsOf_app]
    exact h1
theorem Blk.one (w : World) (x : Entry) (t : TypeId) : Blk (w.alloc (.cells x.arr t)) w.heap.size (cellsOf [x]).toArray := by
  have : (cellsOf [x]).toArray = x.arr := by simp [cellsOf]
  rw [this]; exact Blk.new w x.arr t
theorem Blk.two (w : World) (x y : Entry) (t : TypeId) : Blk (w.alloc (.cells (x.arr ++ y.arr) t)) w.heap.size (cellsOf [x, y]).toArray := by
  have : (cellsOf [x, y]).toArray = x.arr ++ y.arr := by simp [cellsOf]
  rw [this]; exact Blk.new w _ t
theorem Out.own_lt {w0 W : World} {v : Value} {es : List Entry} (hO : Out w0 W v es) {g : Nat} (h : v.ownBlock = some g) : g < W.heap.size := by
  rcases hO.2 with ⟨rfl, _⟩ | ⟨g', cap, cur, rfl, _, hb, _⟩
  · simp [Value.ownBlock] at h
  · have : g' = g := by simpa [Value.ownBlock] using h
    subst this
    rcases Nat.lt_or_ge g' W.heap.size with hlt | hge
    · exact hlt
    · rw [Array.getElem?_eq_none hge] at hb; cases hb
/-- A block made behind the slice's own is kept by the append. -/
theorem Blk.grown {W W' : World} {row : Option Nat} {g : Nat} {cs : Array Value} (h : Blk W g cs) (hg : W.grownBy W' row) (hne : row ≠ some g) : Blk W' g cs := by
  have hlt := h.lt
  obtain ⟨t, h⟩ := h
  exact ⟨t, (hg.block g hlt (fun e => hne e.symm)).trans h⟩
/-- What the append may have written lies behind w0. -/
theorem below_grown {w0 W W' : World} {v : Value} {es : List Entry} (hB : Below w0.heap.size w0 W) (hO : Out w0 W v es) (hg : W.grownBy W' v.ownBlock) : Below w0.heap.size w0 W' := by
  refine hB.grown hg hB.size ?_
  intro g he
  rcases hO.2 with ⟨rfl, _⟩ | ⟨g', cap, cur, rfl, hgb, _⟩
  · simp [Value.ownBlock] at he
  · have : g' = g := by simpa [Value.ownBlock] using he
    omega
end Go.Proofs.YtlleijickhifmaaGreatDoor
namespace Go.Proofs.YtlleijickhifmaaGreatDoor
open Go.RowKit
set_option linter.unusedVariables false
set_option linter.unusedSimpArgs false
def sval (s : List UInt8) : Value := .string ⟨s.toArray⟩
def svals (ss : List (List UInt8)) : List Value := ss.map sval
/-- The slice v, made since w0, holds the strings ss. -/
def SOut (w0 W : World) (v : Value) (ss : List (List UInt8)) : Prop := W.ownsRow w0.heap.size 9 1 v ss.length (svals ss)
/-- The slice at A holds the strings ss. -/
structure Strs (W : World) (A : Option Addr) (ss : List (List UInt8)) : Prop where
  at_ : ss ≠ [] → ∃ b o, A = some ⟨b, o, none⟩ ∧ b < W.heap.size ∧ ∀ i s, ss[i]? = some s → W.cell? ⟨b, o + i, none⟩ = some (sval s)
theorem SOut.nil (w0 W : World) : SOut w0 W (.slice none 0 0) [] := ⟨rfl, .inl ⟨rfl, rfl⟩⟩
theorem SOut.form {w0 W : World} {v : Value} {ss : List (List UInt8)} (h : SOut w0 W v ss) : ∃ A c, v = .slice A ss.length c ∧ ss.length ≤ c ∧ Strs W A ss := by
  obtain ⟨hl, h⟩ := h
  rcases h with ⟨rfl, h0⟩ | ⟨g, cap, cur, rfl, hg, hb, hn, _, hsz, hc⟩
  · refine ⟨none, 0, by rw [h0], by omega, ⟨?_⟩⟩
    obtain rfl : ss = [] := List.eq_nil_of_length_eq_zero h0
    intro h; exact absurd rfl h
  · refine ⟨some ⟨g, 0, none⟩, cap, rfl, hn, ⟨fun _ => ⟨g, 0, rfl, ?_, ?_⟩⟩⟩
    · rcases Nat.lt_or_ge g W.heap.size with hlt | hge
      · exact hlt
      · rw [Array.getElem?_eq_none hge] at hb; cases hb
    · intro i s hs
      have hi : i < ss.length := (List.getElem?_eq_some_iff.1 hs).1
      have h1 : (svals ss)[i]? = some (sval s) := by simp [svals, hs]
      rw [Nat.zero_add, cell_of_row W g _ cur _ _ hb, ← h1, ← hc, List.getElem?_take, if_pos (by omega)]
      simp
theorem SOut.below {w0 W W' : World} {v : Value} {ss : List (List UInt8)} (h : SOut w0 W v ss) (hb : Below W.heap.size W W') : SOut w0 W' v ss := by
  obtain ⟨hl, h⟩ := h
  refine ⟨hl, ?_⟩
  rcases h with ⟨rfl, h0⟩ | ⟨g, cap, cur, rfl, hg, hbk, hn, hm, hsz, hc⟩
  · exact .inl ⟨rfl, h0⟩
  · have hlt : g < W.heap.size := by
      rcases Nat.lt_or_ge g W.heap.size with hlt | hge
      · exact hlt
      · rw [Array.getElem?_eq_none hge] at hbk; cases hbk
    exact .inr ⟨g, cap, cur, rfl, hg, (hb.block g hlt).trans hbk, hn, hm, hsz, hc⟩
theorem SOut.alloc {w0 W : World} {v : Value} {ss : List (List UInt8)} (h : SOut w0 W v ss) (o : Obj) : SOut w0 (W.alloc o) v ss := h.below ((Below.refl _ _).alloc (Nat.le_refl _) _)
theorem SOut.drewN {w0 W : World} {v : Value} {ss : List (List UInt8)} (h : SOut w0 W v ss) (n : Nat) : SOut w0 (W.drewN n) v ss := h.below (below_drewN (Below.refl _ _) n)
theorem info_str_all : (Tryz.prog.info? 9).map (fun i => (i.zero, i.size, i.bytes)) = some (some (.string ⟨#[]⟩), 1, 16) := by kernel_rfl
/-- 'out = append(out, s)': the source is a new block of one string. -/
theorem wpList_append_sout {ops : Array Oper} {rest : List Oper} {op : Oper} {a : Act} {Q : Exit → Act → World → Prop} {w0 W : World} {v : Value} {ss : List (List UInt8)} (hgd : op.guard = none) (s x : Operand)
    (ho : op.op = .call { callee := .builtin .append, args := #[s, x], argTypes := #[41, 41] }) (h : SOut w0 W v ss) (hs : a.eval s = v) (t : List UInt8) (g c : Nat)
    (hx : a.eval x = .slice (some ⟨g, 0, none⟩) 1 c) (hg : W.cell? ⟨g, 0, none⟩ = some (sval t)) (hn : ss.length + 1 ≤ 10000000) (hb : w0.heap.size ≤ W.heap.size)
    (k : ∀ v' W', SOut w0 W' v' (ss ++ [t]) → W.grownBy W' v.ownBlock → wpList Tryz.prog ops Q rest (a.put op.dst v') W') : wpList Tryz.prog ops Q (op :: rest) a W := by
  obtain ⟨i0, hi, hz0, hz1, hz2⟩ := info_parts info_str_all
  refine wpList_append_own W hgd s x 41 ho w0.heap.size 9 i0 _ 1 16 Tryz.underlying41 hi hz0 hz1 hz2 rfl (by omega) v ss.length (svals ss) hs h ⟨g, 0, none⟩ 1 c [sval t] hx rfl ?_ (by simp [sval, Value.oneCell']) (by unfold maxLen; omega) (by omega) hb ?_
  · intro j u hu
    match j, hu with
    | 0, hu => rw [addr_add, Nat.zero_add, hg]; simpa using hu
    | j + 1, hu => simp at hu
  · intro v' W' h1 h2 _
    refine k v' W' ?_ h2
    unfold SOut
    rw [List.length_append, svals, List.map_append]
    exact h1
theorem below_sgrown {w0 W W' : World} {v : Value} {ss : List (List UInt8)} (hB : Below w0.heap.size w0 W) (hO : SOut w0 W v ss) (hg : W.grownBy W' v.ownBlock) : Below w0.heap.size w0 W' := by
  refine hB.grown hg hB.size ?_
  intro g he
  rcases hO.2 with ⟨rfl, _⟩ | ⟨g', cap, cur, rfl, hgb, _⟩
  · simp [Value.ownBlock] at he
  · have : g' = g := by simpa [Value.ownBlock] using he
    omega
/-- The call returns a slice of its own that holds the strings ss. -/
def RetStrs (w : World) (ss : List (List UInt8)) (e : Ending) (w' : World) : Prop := ∃ v, e = .returned v ∧ SOut w w' v ss ∧ Below w.heap.size w w'
def fixesGo : List Entry → List (List UInt8)
  | [] => []
  | x :: r => if !x.gap && endsB x.leg.ty then x.leg.fix :: fixesGo r else fixesGo r
theorem fixes_take {x : Entry} {r : List Entry} (h : x.gap = false) (he : endsB x.leg.ty = true) : fixesGo (x :: r) = x.leg.fix :: fixesGo r := by simp [fixesGo, h, he]
theorem fixes_skip {x : Entry} {r : List Entry} (h : (!x.gap && endsB x.leg.ty) = false) : fixesGo (x :: r) = fixesGo r := by rw [fixesGo, h]; rfl
end Go.Proofs.YtlleijickhifmaaGreatDoor
namespace Go.Proofs.YtlleijickhifmaaGreatDoor
open Go.RowKit Go.Sort
set_option linter.unusedVariables false
set_option linter.unusedSimpArgs false
section
variable {P : Program} {ops : Array Oper} {md : Region.Mode} {C : World → Prop}
def wpAnyT (P : Program) (md : Region.Mode) (ops : Array Oper) (C : World → Prop) (n : Nat) (L : Array Bool → Act → Prop) : Nat → Array Bool → Act → Prop
  | 0, listed, a => L listed a
  | f + 1, listed, a =>
    Region.ready md ops listed ≠ [] ∧ ∀ i ∈ Region.ready md ops listed, i < n ∧ qOp P ops C i (wpAnyT P md ops C n L f (listed.setIfInBounds i true)) a
theorem wpAny_of_headT {n g : Nat} {L : Array Bool → Act → Prop} {Q' : Exit → Act → World → Prop} (hL : ∀ listed a w, C w → L listed a → wpAny P md ops Q' g listed a w) :
    ∀ (f : Nat) (listed : Array Bool) (a : Act) (w : World), C w → wpAnyT P md ops C n L f listed a → wpAny P md ops Q' (f + g) listed a w
  | 0, listed, a, w, hw, h => by rw [Nat.zero_add]; exact hL _ _ _ hw h
  | f + 1, listed, a, w, hw, h => by
    rw [show f + 1 + g = (f + g) + 1 by omega]
    exact ⟨fun h0 => absurd h0 h.1, fun i hi => wpOp_of_qOp hw (fun a' w' hw' h' => wpAny_of_headT hL f _ a' w' hw' h') (h.2 i hi).2⟩
theorem wpAnyT_first {n i : Nat} {oi : Oper} {v : Value} {L : Array Bool → Act → Prop} (hi : ops[i]? = some oi) (hsel : ∀ (j : Nat) (o : Oper) cs b, ops[j]? = some o → o.op ≠ .select cs b)
    (hs : Region.sinkB md ops n = true) (hc : Region.chainB md ops n = true) (hn : n < ops.size) (hin : i < n)
    (hdone : ∀ listed a, L listed a → ∀ j ∈ Region.ready md ops listed, n ≤ j) :
    ∀ (f : Nat) (listed : Array Bool) (a : Act), HeadInv md ops n listed →
      (∀ j oj, ops[j]? = some oj → j ≠ i → listed.getD j true = false → (∀ e ∈ oj.after, Region.binds md e = true → e.on ≠ i) → oi.apart ops oj = true) →
      i ∈ Region.ready md ops listed → YieldsIn P ops C oi v a →
      wpAnyT P md ops C n L f (listed.setIfInBounds i true) (a.put oi.dst v) → wpAnyT P md ops C n L (f + 1) listed a := by
  intro f
  induction f with
  | zero =>
    intro listed a inv _ hr hy H
    have hun := (mem_ready.1 hr).1
    refine ⟨fun h => (by rw [h] at hr; cases hr), fun j hj => ?_⟩
    have hjn : j < n := by
      rcases Nat.lt_or_ge j n with h | h
      · exact h
      · exact absurd hj (tail_waits hs hc hn inv _ i rfl hin hun j h)
    refine ⟨hjn, ?_⟩
    by_cases hji : j = i
    · subst hji; exact hy.qOp hi H
    · have := hdone _ _ H j (ready_mono hj hji)
      omega
  | succ f ih =>
    intro listed a inv hfree hr hy H
    have hun := (mem_ready.1 hr).1
    refine ⟨fun h => (by rw [h] at hr; cases hr), fun j hj => ?_⟩
    have hjn : j < n := by
      rcases Nat.lt_or_ge j n with h | h
      · exact h
      · exact absurd hj (tail_waits hs hc hn inv _ i rfl hin hun j h)
    refine ⟨hjn, ?_⟩
    by_cases hji : j = i
    · subst hji; exact hy.qOp hi H
    · have h1 := (H.2 j (ready_mono hj hji)).2
      obtain ⟨hjun, oj, hoj, hall⟩ := mem_ready.1 hj
      have hnot : ∀ e ∈ oj.after, Region.binds md e = true → e.on ≠ i := fun e he hb heq => by
        have h1 := hall e he hb
        rw [heq, getD_both hun] at h1
        cases h1
      have h2 := qOp_put hoj (hfree j oj hoj hji hjun hnot) (fun cs b => hsel i oi cs b hi) (fun cs b => hsel j oj cs b hoj) hy h1
      have hfree' : ∀ k ok, ops[k]? = some ok → k ≠ i → (listed.setIfInBounds j true).getD k true = false →
          (∀ e ∈ ok.after, Region.binds md e = true → e.on ≠ i) → oi.apart ops ok = true := fun k ok hk hki hun hno => by
        refine hfree k ok hk hki ?_ hno
        by_cases hjk : j = k
        · subst hjk; exact hjun
        · rw [getD_set_ne true hjk] at hun; exact hun
      refine qOp_mono (fun a' h3 => ih (listed.setIfInBounds j true) a' (inv.set hj hjn) hfree' (ready_mono hr (Ne.symm hji)) h3.1 ?_) h2
      rw [Array.setIfInBounds_comm _ _ hji]
      exact h3.2
theorem wpAnyT_lex {n g : Nat} {Lq : Act → Prop} (hsel : Region.noSelect ops = true) (hs : Region.sinkB md ops n = true) (hc : Region.chainB md ops n = true) (hn : n < ops.size) :
    ∀ (l : List Oper) (k : Nat) (listed : Array Bool) (a : Act), (∀ j, j < l.length → l[j]? = ops[k + j]?) → k + l.length = n → HeadInv md ops n listed →
    Region.lexHead md ops g l.length k listed = true → wpQuiet P ops C Lq l a →
    wpAnyT P md ops C n (fun listed' a' => Region.seqB md ops g n listed' = true ∧ Lq a') l.length listed a
  | [], k, listed, a, _, hk, _, hB, h => by
    have : k = n := by simpa using hk
    subst this
    exact ⟨by simpa [Region.lexHead] using hB, h⟩
  | o :: l, k, listed, a, hl, hk, inv, hB, h => by
    have h0 : ops[k]? = some o := by simpa using (hl 0 (by simp)).symm
    simp only [List.length_cons, Region.lexHead, Bool.and_eq_true] at hB
    obtain ⟨⟨hr, hf⟩, hB'⟩ := hB
    have hkn : k < n := by simp only [List.length_cons] at hk; omega
    have hr' : k ∈ Region.ready md ops listed := by simpa using hr
    have hst : qOp P ops C k (wpQuiet P ops C Lq l) a := by unfold qOp; simp only [h0]; exact h
    obtain ⟨v, hy, hK⟩ := yieldsIn_of_qOp h0 hst
    exact wpAnyT_first h0 (Region.noSelect_spec hsel) hs hc hn hkn (fun listed' a' hL => seqB_ready hL.1) l.length listed a inv (Region.free_spec h0 hf) hr' hy
      (wpAnyT_lex hsel hs hc hn l (k + 1) _ _ (fun j hj => by have := hl (j + 1) (by simp; omega); simpa [Nat.add_assoc, Nat.add_comm 1 j] using this) (by simp only [List.length_cons] at hk; omega) (inv.set hr' hkn) hB' hK)
theorem wp_region_quiet_tail {id : Nat} {Q : Exit → Act → World → Prop} {a : Act} {w : World} {l : List Oper} (n : Nat) (hm : P.follows .mixedOrders = true) (hB : Region.lexTailB .any l.toArray n = true) (hC : C { w with drawn := w.drawn + 1 })
    (h : wpQuiet P l.toArray C (fun a' => ∀ w', C w' → wpList P l.toArray Q (l.drop n) a' w') (l.take n) a) : (Code.region id l.toArray true).wp P Q a w := by
  simp only [Region.lexTailB, Bool.and_eq_true, decide_eq_true_eq] at hB
  obtain ⟨⟨⟨⟨hsel, hn⟩, hs⟩, hc⟩, hlex⟩ := hB
  have hn' : n < l.length := by simpa using hn
  have htl : (l.take n).length = n := by simp; omega
  have hdl : (l.drop n).length = l.toArray.size - n := by simp
  have inv0 : HeadInv .any l.toArray n (Array.replicate l.toArray.size false) :=
    ⟨by simp, fun j oj _ hl => (by rw [getD_replicate_false] at hl; cases hl), fun t _ ht => getD_in (by simpa using ht) (getD_replicate_false _ _)⟩
  have H := wpAnyT_lex (md := .any) (g := l.toArray.size - n) hsel hs hc hn (l.take n) 0 _ a (fun j hj => by
    have hj' : j < n := by rw [htl] at hj; exact hj
    simp [hj']) (by simpa using htl) inv0 (by rw [htl]; exact hlex) h
  refine wp_region_any hm ?_
  have := wpAny_of_headT (Q' := Q) (g := l.toArray.size - n) (fun listed a' w' hw' hL => by
    have := wpAny_of_seq (l.drop n) n listed a' w' (fun j => by simp) (by rw [hdl]; exact hL.1) (hL.2 w' hw')
    rw [hdl] at this
    exact this) _ _ _ _ hC H
  rw [htl] at this
  rw [show n + (l.toArray.size - n) = l.toArray.size by simp; omega] at this
  exact this
/-- The same at the class 'what was in memory is as it was'. -/
theorem wp_region_tail_below {id : Nat} {Q : Exit → Act → World → Prop} {a : Act} {w : World} {l : List Oper} (n : Nat) (hm : P.follows .mixedOrders = true) (hB : Region.lexTailB .any l.toArray n = true)
    (h : wpQuiet P l.toArray (fun w' => ∃ p : Regrown, w' = grow (redrawn w p.d) p.os) (fun a' => ∀ w', (∃ p : Regrown, w' = grow (redrawn w p.d) p.os) → wpList P l.toArray Q (l.drop n) a' w') (l.take n) a) : (Code.region id l.toArray true).wp P Q a w :=
  wp_region_quiet_tail n hm hB ⟨⟨w.drawn + 1, #[]⟩, by rw [grow_empty]; rfl⟩ h
theorem Calls.regrown_ret {f : FuncId} {args : Array Value} {w : World} {d : Nat} {os : Array Obj} {v : Value}
    (h : Calls P f args (grow (redrawn w d) os) (Ret (grow (redrawn w d) os) v)) : Calls P f args (grow (redrawn w d) os) fun e w'' => e = .returned v ∧ ∃ p : Regrown, w'' = grow (redrawn w p.d) p.os := Calls.regrown_of h
/-! The same where the first operation (a copy) is taken ahead: what waits for it may come behind the head. -/
def sinkF (md : Region.Mode) (ops : Array Oper) (m n : Nat) : Bool :=
  (List.range n).all fun i => decide (i < m) || (List.range (n + 1)).any fun j => decide (i < j) && Region.waitsFor md ops j i
theorem tail_waitsF {m n : Nat} {listed : Array Bool} (hs : sinkF md ops m n = true) (hc : Region.chainB md ops n = true) (hn : n < ops.size) (inv : HeadInv md ops n listed) :
    ∀ (d i : Nat), n - i = d → m ≤ i → i < n → listed.getD i true = false → ∀ t, n ≤ t → t ∉ Region.ready md ops listed := by
  intro d
  induction d using Nat.strongRecOn with
  | _ d ih =>
    intro i hd hmi hi hun t ht hr
    obtain ⟨_, ot, hot, hall⟩ := mem_ready.1 hr
    have htlt : t < ops.size := (Array.getElem?_eq_some_iff.1 hot).1
    by_cases htn : t = n
    · subst htn
      have h1 := List.all_eq_true.1 hs i (List.mem_range.2 hi)
      have hnm : ¬ i < m := by omega
      simp only [Bool.or_eq_true, decide_eq_true_eq, hnm, false_or] at h1
      obtain ⟨j, hj, hj2⟩ := List.any_eq_true.1 h1
      simp only [Bool.and_eq_true, decide_eq_true_eq] at hj2
      obtain ⟨oj, hoj, e, he, hb, hon⟩ := Region.waitsFor_spec hj2.2
      have hjle : j ≤ t := by have := List.mem_range.1 hj; omega
      by_cases hjt : j = t
      · subst hjt
        have : oj = ot := Option.some.inj (hoj.symm.trans hot)
        subst this
        have h2 := hall e he hb
        rw [hon, getD_both hun] at h2
        cases h2
      · cases hl : listed.getD j false with
        | true =>
          have h2 := inv.closed j oj hoj hl e he hb
          rw [hon, getD_both hun] at h2
          cases h2
        | false =>
          have hjs : j < listed.size := by rw [inv.size]; omega
          exact ih (t - j) (by omega) j rfl (by omega) (by omega) (getD_in hjs hl) t (Nat.le_refl _) hr
    · have h1 := List.all_eq_true.1 hc t (List.mem_range.2 htlt)
      simp only [Bool.or_eq_true, decide_eq_true_eq] at h1
      rcases h1 with h1 | h1
      · omega
      · obtain ⟨o', ho', e, he, hb, hon⟩ := Region.waitsFor_spec h1
        have : o' = ot := Option.some.inj (ho'.symm.trans hot)
        subst this
        have h2 := hall e he hb
        rw [hon, getD_both (inv.tail (t - 1) (by omega) (by omega))] at h2
        cases h2
theorem wpAnyF_first {m n i : Nat} {oi : Oper} {v : Value} {L : Array Bool → Act → Prop} (hi : ops[i]? = some oi) (hsel : ∀ (j : Nat) (o : Oper) cs b, ops[j]? = some o → o.op ≠ .select cs b)
    (hs : sinkF md ops m n = true) (hc : Region.chainB md ops n = true) (hn : n < ops.size) (hmi : m ≤ i) (hin : i < n)
    (hdone : ∀ listed a, L listed a → ∀ j ∈ Region.ready md ops listed, n ≤ j) :
    ∀ (f : Nat) (listed : Array Bool) (a : Act), HeadInv md ops n listed →
      (∀ j oj, ops[j]? = some oj → j ≠ i → listed.getD j true = false → (∀ e ∈ oj.after, Region.binds md e = true → e.on ≠ i) → oi.apart ops oj = true) →
      i ∈ Region.ready md ops listed → YieldsIn P ops C oi v a →
      wpAnyT P md ops C n L f (listed.setIfInBounds i true) (a.put oi.dst v) → wpAnyT P md ops C n L (f + 1) listed a := by
  intro f
  induction f with
  | zero =>
    intro listed a inv _ hr hy H
    have hun := (mem_ready.1 hr).1
    refine ⟨fun h => (by rw [h] at hr; cases hr), fun j hj => ?_⟩
    have hjn : j < n := by
      rcases Nat.lt_or_ge j n with h | h
      · exact h
      · exact absurd hj (tail_waitsF hs hc hn inv _ i rfl hmi hin hun j h)
    refine ⟨hjn, ?_⟩
    by_cases hji : j = i
    · subst hji; exact hy.qOp hi H
    · have := hdone _ _ H j (ready_mono hj hji)
      omega
  | succ f ih =>
    intro listed a inv hfree hr hy H
    have hun := (mem_ready.1 hr).1
    refine ⟨fun h => (by rw [h] at hr; cases hr), fun j hj => ?_⟩
    have hjn : j < n := by
      rcases Nat.lt_or_ge j n with h | h
      · exact h
      · exact absurd hj (tail_waitsF hs hc hn inv _ i rfl hmi hin hun j h)
    refine ⟨hjn, ?_⟩
    by_cases hji : j = i
    · subst hji; exact hy.qOp hi H
    · have h1 := (H.2 j (ready_mono hj hji)).2
      obtain ⟨hjun, oj, hoj, hall⟩ := mem_ready.1 hj
      have hnot : ∀ e ∈ oj.after, Region.binds md e = true → e.on ≠ i := fun e he hb heq => by
        have h1 := hall e he hb
        rw [heq, getD_both hun] at h1
        cases h1
      have h2 := qOp_put hoj (hfree j oj hoj hji hjun hnot) (fun cs b => hsel i oi cs b hi) (fun cs b => hsel j oj cs b hoj) hy h1
      have hfree' : ∀ k ok, ops[k]? = some ok → k ≠ i → (listed.setIfInBounds j true).getD k true = false →
          (∀ e ∈ ok.after, Region.binds md e = true → e.on ≠ i) → oi.apart ops ok = true := fun k ok hk hki hun hno => by
        refine hfree k ok hk hki ?_ hno
        by_cases hjk : j = k
        · subst hjk; exact hjun
        · rw [getD_set_ne true hjk] at hun; exact hun
      refine qOp_mono (fun a' h3 => ih (listed.setIfInBounds j true) a' (inv.set hj hjn) hfree' (ready_mono hr (Ne.symm hji)) h3.1 ?_) h2
      rw [Array.setIfInBounds_comm _ _ hji]
      exact h3.2
theorem wpAnyF_lex {m n g : Nat} {Lq : Act → Prop} (hsel : Region.noSelect ops = true) (hs : sinkF md ops m n = true) (hc : Region.chainB md ops n = true) (hn : n < ops.size) :
    ∀ (l : List Oper) (k : Nat) (listed : Array Bool) (a : Act), (∀ j, j < l.length → l[j]? = ops[k + j]?) → m ≤ k → k + l.length = n → HeadInv md ops n listed →
    Region.lexHead md ops g l.length k listed = true → wpQuiet P ops C Lq l a →
    wpAnyT P md ops C n (fun listed' a' => Region.seqB md ops g n listed' = true ∧ Lq a') l.length listed a
  | [], k, listed, a, _, _, hk, _, hB, h => by
    have : k = n := by simpa using hk
    subst this
    exact ⟨by simpa [Region.lexHead] using hB, h⟩
  | o :: l, k, listed, a, hl, hmk, hk, inv, hB, h => by
    have h0 : ops[k]? = some o := by simpa using (hl 0 (by simp)).symm
    simp only [List.length_cons, Region.lexHead, Bool.and_eq_true] at hB
    obtain ⟨⟨hr, hf⟩, hB'⟩ := hB
    have hkn : k < n := by simp only [List.length_cons] at hk; omega
    have hr' : k ∈ Region.ready md ops listed := by simpa using hr
    have hst : qOp P ops C k (wpQuiet P ops C Lq l) a := by unfold qOp; simp only [h0]; exact h
    obtain ⟨v, hy, hK⟩ := yieldsIn_of_qOp h0 hst
    exact wpAnyF_first h0 (Region.noSelect_spec hsel) hs hc hn hmk hkn (fun listed' a' hL => seqB_ready hL.1) l.length listed a inv (Region.free_spec h0 hf) hr' hy
      (wpAnyF_lex hsel hs hc hn l (k + 1) _ _ (fun j hj => by have := hl (j + 1) (by simp; omega); simpa [Nat.add_assoc, Nat.add_comm 1 j] using this) (by omega) (by simp only [List.length_cons] at hk; omega) (inv.set hr' hkn) hB' hK)
def lexTailF (ops : Array Oper) (n : Nat) : Bool :=
  Region.noSelect ops && decide (n < ops.size) && decide (1 ≤ n) && sinkF .any ops 1 n && Region.chainB .any ops n && Region.free .any ops (Array.replicate ops.size false) 0 && (Region.ready .any ops (Array.replicate ops.size false)).contains 0 &&
    Region.lexHead .any ops (ops.size - n) (n - 1) 1 ((Array.replicate ops.size false).setIfInBounds 0 true)
theorem wp_region_take_tail {id : Nat} {Q : Exit → Act → World → Prop} {a : Act} {w : World} {o0 : Oper} {l : List Oper} {v0 : Value} (n : Nat) (hm : P.follows .mixedOrders = true) (hB : lexTailF (o0 :: l).toArray n = true)
    (hQ : ∀ c a w, Q (.panic c) (a.put o0.dst v0) w → Q (.panic c) a w) (hy : Yields P (o0 :: l).toArray o0 v0 a) (hC : C { w with drawn := w.drawn + 1 })
    (h : wpQuiet P (o0 :: l).toArray C (fun a' => ∀ w', C w' → wpList P (o0 :: l).toArray Q ((o0 :: l).drop n) a' w') (l.take (n - 1)) (a.put o0.dst v0)) : (Code.region id (o0 :: l).toArray true).wp P Q a w := by
  simp only [lexTailF, Bool.and_eq_true, decide_eq_true_eq] at hB
  obtain ⟨⟨⟨⟨⟨⟨⟨hsel, hn⟩, hn1⟩, hs⟩, hc⟩, hf0⟩, hr0⟩, hlex⟩ := hB
  have hn' : n < l.length + 1 := by simpa using hn
  have htl : (l.take (n - 1)).length = n - 1 := by simp; omega
  have hdl : ((o0 :: l).drop n).length = (o0 :: l).toArray.size - n := by simp
  have inv0 : HeadInv .any (o0 :: l).toArray n (Array.replicate (o0 :: l).toArray.size false) :=
    ⟨by simp, fun j oj _ hl => (by rw [getD_replicate_false] at hl; cases hl), fun t _ ht => getD_in (by simpa using ht) (getD_replicate_false _ _)⟩
  have inv1 := inv0.set (i := 0) (by simpa using hr0) (by omega)
  have H := wpAnyF_lex (md := .any) (m := 1) (g := (o0 :: l).toArray.size - n) hsel hs hc hn (l.take (n - 1)) 1 _ (a.put o0.dst v0) (fun j hj => by
    have hj' : j < n - 1 := by rw [htl] at hj; exact hj
    rw [List.getElem?_take, if_pos hj', Nat.add_comm 1 j]; simp) (Nat.le_refl _) (by omega) inv1 (by rw [htl]; exact hlex) h
  refine wp_region_any hm ?_
  have := wpAny_of_headT (Q' := Q) (g := (o0 :: l).toArray.size - n) (fun listed a' w' hw' hL => by
    have := wpAny_of_seq ((o0 :: l).drop n) n listed a' w' (fun j => by simp) (by rw [hdl]; exact hL.1) (hL.2 w' hw')
    rw [hdl] at this
    exact this) _ _ _ _ hC H
  rw [htl] at this
  have h2 := wpAny_take (Q := Q) (i := 0) (oi := o0) (v := v0) (by simp) hsel hf0 hr0 hQ hy this
  rw [show n - 1 + ((o0 :: l).toArray.size - n) + 1 = (o0 :: l).toArray.size by simp; omega] at h2
  exact h2
theorem wp_region_take_tail_below {id : Nat} {Q : Exit → Act → World → Prop} {a : Act} {w : World} {o0 : Oper} {l : List Oper} (v0 : Value) (n : Nat) (hm : P.follows .mixedOrders = true) (hB : lexTailF (o0 :: l).toArray n = true)
    (hQ : ∀ c a w, Q (.panic c) (a.put o0.dst v0) w → Q (.panic c) a w) (hy : Yields P (o0 :: l).toArray o0 v0 a)
    (h : wpQuiet P (o0 :: l).toArray (fun w' => ∃ p : Regrown, w' = grow (redrawn w p.d) p.os) (fun a' => ∀ w', (∃ p : Regrown, w' = grow (redrawn w p.d) p.os) → wpList P (o0 :: l).toArray Q ((o0 :: l).drop n) a' w') (l.take (n - 1)) (a.put o0.dst v0)) : (Code.region id (o0 :: l).toArray true).wp P Q a w :=
  wp_region_take_tail n hm hB hQ hy ⟨⟨w.drawn + 1, #[]⟩, by rw [grow_empty]; rfl⟩ h
end
end Go.Proofs.YtlleijickhifmaaGreatDoor
namespace Go.Proofs.YtlleijickhifmaaGreatDoor
open Go.RowKit Go.Sort
set_option linter.unusedVariables false
set_option linter.unusedSimpArgs false
theorem ba_append (a b : List UInt8) : (ByteArray.mk a.toArray) ++ (ByteArray.mk b.toArray) = ⟨(a ++ b).toArray⟩ := by
  apply ByteArray.ext
  simp [ByteArray.data_append]
theorem ba_maps (ws : List (List UInt8)) : (ws.map fun s => ByteArray.mk s.toArray).map (·.data.toList) = ws := by
  induction ws with
  | nil => rfl
  | cons x r ih => simp [ih]
theorem lens_le : ∀ (ws : List (List UInt8)) (m : Nat), (∀ s ∈ ws, s.length ≤ m) → Lib.lens ws ≤ m * ws.length
  | [], m, _ => by simp [Lib.lens]
  | x :: r, m, h => by
    have h1 := lens_le r m fun s hs => h s (by simp [hs])
    have h2 := h x (by simp)
    have e : Lib.lens (x :: r) = x.length + Lib.lens r := rfl
    rw [e, List.length_cons, Nat.mul_add]; omega
theorem join_len_le (ws : List (List UInt8)) (sep : List UInt8) (m : Nat) (h : ∀ s ∈ ws, s.length ≤ m) : (Lib.join ws sep).length ≤ (m + sep.length) * ws.length := by
  cases ws with
  | nil => simp [Lib.join, List.intercalate]
  | cons x r =>
    rw [Lib.join_length, Nat.add_mul]
    have := lens_le (x :: r) m h
    have h2 : sep.length * r.length ≤ sep.length * (x :: r).length := Nat.mul_le_mul_left _ (by simp)
    omega
def dashB (s : List UInt8) : List UInt8 := if s.isEmpty then [45] else s
def cat (a b : List UInt8) : List UInt8 := a ++ b
theorem cat_len (a b : List UInt8) : (cat a b).length = a.length + b.length := by simp [cat]
theorem ba_cat (a b : List UInt8) : (ByteArray.mk a.toArray) ++ (ByteArray.mk b.toArray) = ⟨(cat a b).toArray⟩ := ba_append a b
attribute [local go_sem] ba_append
def pointText (ref : List UInt8) (x y : Int) : List UInt8 := if ref.isEmpty then [45] else Lib.itoa x ++ [44] ++ Lib.itoa y
theorem callG {P : Program} {f : FuncId} {args : Array Value} {W : World} {v : Value} (h : Calls P f args W fun e w' => e = .returned v ∧ ∃ k os, w' = grow (W.drewN k) os) : Calls P f args W (Ret W v) :=
  h.mono fun e w' ⟨he, k, os, hw⟩ => ⟨he, by rw [hw]; exact below_regrown W (W.drawn + k) os⟩
theorem itoa_len (n : Int) (h0 : -9223372036854775808 ≤ n) (h1 : n ≤ 9223372036854775807) : (Lib.itoa n).length ≤ 21 := Lib.itoa_length_le n h0 h1
theorem fmt_any (n : Int) (h0 : -9223372036854775808 ≤ n) (h1 : n ≤ 9223372036854775807) (w : World) (hL : Laid w) : Calls Tryz.prog 67 #[.int .i64 n, .int .i64 10] w (Ret w (.string ⟨(Lib.itoa n).toArray⟩)) :=
  callG (Tryz.strconv_FormatInt_10 n h0 h1 w hL.pow10)
theorem itoa_any (n : Int) (h0 : -9223372036854775808 ≤ n) (h1 : n ≤ 9223372036854775807) (w : World) (hL : Laid w) : Calls Tryz.prog 23 #[.int .i64 n] w (Ret w (.string ⟨(Lib.itoa n).toArray⟩)) :=
  callG (Tryz.strconv_Itoa n h0 h1 w hL.pow10)
/-- The numbers of a point are numbers of 64 bits. -/
def i64 (n : Int) : Prop := -9223372036854775808 ≤ n ∧ n ≤ 9223372036854775807
end Go.Proofs.YtlleijickhifmaaGreatDoor
namespace Go.Proofs.YtlleijickhifmaaGreatDoor
open Go.RowKit Go.Sort
set_option linter.unusedVariables false
set_option linter.unusedSimpArgs false
def opt (b : Bool) (s : List UInt8) : List (List UInt8) := if b then [s] else []
theorem opt_len (b : Bool) (s : List UInt8) : (opt b s).length ≤ 1 := by cases b <;> simp [opt]
def winB (l : Leg) : Bool := l.lo != -200000 || l.hi != 6000000
/-- The texts of a leg's numbers. -/
structure LegTx where
  course : List UInt8
  dist : List UInt8
  radius : List UInt8
  theta : List UInt8
  win : List UInt8
  speed : List UInt8
  rnp : List UInt8
def nameOf (t : Int) : List UInt8 := namesTab.getD t.toNat []
def legWords (l : Leg) (t : LegTx) : List (List UInt8) := [nameOf l.ty] ++ opt (uB l.ty 1) l.fix ++ opt (uB l.ty 2) (64 :: l.center) ++ opt (uB l.ty 4) (if l.turn = 1 then [76] else [82]) ++ opt (uB l.ty 16) t.course ++ opt (uB l.ty 32) t.dist ++ opt (uB l.ty 64) t.radius ++ opt (uB l.ty 128) (116 :: t.theta) ++ opt (l.over) [111, 118, 101, 114] ++ opt (winB l) t.win ++ opt (l.speed != 0) (115 :: t.speed) ++ opt (l.rnp != 0) t.rnp
def legText (l : Leg) (t : LegTx) : List UInt8 := if legCheck l != 0 then [] else Lib.join (legWords l t) [32]
theorem mem_opt {b : Bool} {s x : List UInt8} (h : x ∈ opt b s) : x = s := by cases b <;> simp_all [opt]
theorem names_len : ∀ s ∈ namesTab, s.length ≤ 2 := by decide
theorem nameOf_len (t : Int) : (nameOf t).length ≤ 2 := by
  unfold nameOf
  rcases Nat.lt_or_ge t.toNat namesTab.length with h | h
  · have e : namesTab.getD t.toNat [] = namesTab[t.toNat] := by simp [h]
    rw [e]; exact names_len _ (List.getElem_mem h)
  · simp [List.getElem?_eq_none h]
theorem legWords_len (l : Leg) (t : LegTx) : (legWords l t).length ≤ 12 := by
  simp only [legWords, List.length_append, List.length_singleton]
  have := opt_len (uB l.ty 1) l.fix
  have := opt_len (uB l.ty 2) (64 :: l.center)
  have := opt_len (uB l.ty 4) (if l.turn = 1 then [76] else [82])
  have := opt_len (uB l.ty 16) t.course
  have := opt_len (uB l.ty 32) t.dist
  have := opt_len (uB l.ty 64) t.radius
  have := opt_len (uB l.ty 128) (116 :: t.theta)
  have := opt_len (l.over) [111, 118, 101, 114]
  have := opt_len (winB l) t.win
  have := opt_len (l.speed != 0) (115 :: t.speed)
  have := opt_len (l.rnp != 0) t.rnp
  omega
theorem SOut.push {w0 W : World} {v : Value} {ws : List (List UInt8)} {b : Bool} {s : List UInt8} (hb : b = false) (h : SOut w0 W v ws) : SOut w0 W v (ws ++ opt b s) := by subst hb; simpa [opt] using h
theorem SOut.push1 {w0 W : World} {v : Value} {ws : List (List UInt8)} {b : Bool} {s : List UInt8} (hb : b = true) (h : SOut w0 W v (ws ++ [s])) : SOut w0 W v (ws ++ opt b s) := by subst hb; exact h
theorem push_len {ws : List (List UInt8)} {n : Nat} (h : ws.length ≤ n) (b : Bool) (s : List UInt8) : (ws ++ opt b s).length ≤ n + 1 := by have := opt_len b s; simp; omega
attribute [local go_sem] bit_eq bit_ne ba_append
theorem Blk.win_at {W : World} {g : Nat} {l : Leg} (h : Blk W g l.arr) : Is_win W g 9 ⟨l.lo, l.hi⟩ := by
  intro j hj
  rw [h.cell]
  match j, hj with
  | 0, _ | 1, _ => rfl
end Go.Proofs.YtlleijickhifmaaGreatDoor
namespace Go.Proofs.YtlleijickhifmaaGreatDoor
open Go.RowKit
set_option linter.unusedVariables false
set_option linter.unusedSimpArgs false
structure Term where
  page : Int
  first : Int
  pad : List UInt8
/-- What the pages read of a view. -/
structure Vw where
  active : Plan
  temp : Plan
  hasTemp : Bool
  px : Int
  py : Int
  lx : Int
  ly : Int
  usable : Bool
  excluded : Int
  required : Int
  left : Int
  lat : Int
  vert : Int
  phase : Int
  bank : Int
  talt : Int
  alerts : List (List UInt8)
  last : Int
/-- ASCII text. -/
def tx (s : String) : List UInt8 := s.toList.map fun c => UInt8.ofNat c.toNat
def signsL : List UInt8 := [65, 66, 67, 68, 69, 70, 71, 72, 73, 74, 75, 76, 77, 78, 79, 80, 81, 82, 83, 84, 85, 86, 87, 88, 89, 90, 48, 49, 50, 51, 52, 53, 54, 55, 56, 57, 47, 46, 58, 43, 45]
def kCLR : List UInt8 := [67, 76, 82]
def kUP : List UInt8 := [85, 80]
def kDOWN : List UInt8 := [68, 79, 87, 78]
def kLEGS : List UInt8 := [76, 69, 71, 83]
def kDIR : List UInt8 := [68, 73, 82]
def kPROG : List UInt8 := [80, 82, 79, 71]
def kMSG : List UInt8 := [77, 83, 71]
def kEXEC : List UInt8 := [69, 88, 69, 67]
def kERASE : List UInt8 := [69, 82, 65, 83, 69]
def kUNDO : List UInt8 := [85, 78, 68, 79]
def kDELETE : List UInt8 := [68, 69, 76, 69, 84, 69]
def wordsL : List (List UInt8) := [kCLR, kUP, kDOWN, kLEGS, kDIR, kPROG, kMSG, kEXEC, kERASE, kUNDO]
def linesL : List (List UInt8) := [[76, 49], [76, 50], [76, 51], [76, 52], [76, 53], [82, 49], [82, 50], [82, 51], [82, 52], [82, 53]]
/-- The 61 keys. -/
def keysL : List (List UInt8) := signsL.map (fun c => [c]) ++ wordsL ++ linesL
def shownS (v : Vw) : Plan := if v.hasTemp then v.temp else v.active
/-- The leg with an index that is not negative. -/
def legAtS (p : Plan) (k : Int) : Option Leg := match p.es[k.toNat]? with | some x => if x.gap then none else some x.leg | none => none
abbrev Pressed := Term × List UInt8 × Int
def editS (t : Term) (word : List UInt8) (k : Int) (rest : List UInt8) : Pressed :=
  if 60 < k then (t, [], 3) else ({ t with pad := [] }, [69, 68, 73, 84, 32] ++ word ++ [32] ++ Lib.itoa k ++ rest, 0)
def fixAtS (p : Plan) (k : Int) : Option (List UInt8) := match legAtS p k with | some l => if endsB l.ty then some l.fix else none | none => none
def leftS (t : Term) (p : Plan) (k : Int) : Pressed :=
  if t.pad = [] then (match fixAtS p k with | some f => ({ t with pad := f }, [], 0) | none => (t, [], 6))
  else if t.pad = kDELETE then (if (p.es.length : Int) ≤ k then (t, [], 6) else editS t kDELETE k [])
  else if (p.es.length : Int) < k then (t, [], 6)
  else if (splitRef t.pad).2.2 != 0 then (t, [], 4)
  else editS t [73, 78, 83, 69, 82, 84] k (32 :: t.pad)
/-- Is this a number from 0 to 1000? (0: yes; the error otherwise.) -/
def speedE (n : List UInt8) : Int :=
  if !plainB (cutPre 45 n).1 || ((cutPre 45 n).2 && (cutPre 45 n).1 == [48]) then 4
  else if (cutPre 45 n).2 then 2 else if 1000 < val n then 2 else 0
def rightS (t : Term) (p : Plan) (k : Int) : Pressed :=
  match legAtS p k with
  | none => (t, [], 6)
  | some l =>
    if t.pad = [] then ({ t with pad := (winT l.lo l.hi).1 }, [], 0)
    else if (cutPre 47 t.pad).2 then (if speedE (cutPre 47 t.pad).1 != 0 then (t, [], 4) else editS t [83, 80, 68] k (32 :: (cutPre 47 t.pad).1))
    else if (parseWinS t.pad).2 != 0 then (t, [], 4)
    else editS t [65, 76, 84] k (32 :: t.pad)
def selectS (t : Term) (v : Vw) (side : UInt8) (row : Int) : Pressed :=
  if t.page = 1 then (if side = 76 then leftS t (shownS v) (t.first + row) else rightS t (shownS v) (t.first + row))
  else if t.page = 2 ∧ side = 76 then
    (match fixAtS (shownS v) (t.first + row) with
     | none => (t, [], 6)
     | some _ => if t.pad ≠ [] then (t, [], 4) else editS t [68, 73, 82, 69, 67, 84] (t.first + row) [])
  else if t.page = 4 ∧ side = 76 ∧ row = 0 ∧ 0 < v.alerts.length then (t, [65, 67, 75], 0)
  else (t, [], 6)
def putS (t : Term) (key : List UInt8) : Pressed :=
  if t.pad = kDELETE then ({ t with pad := key }, [], 0)
  else if t.pad.length = 24 then (t, [], 18) else ({ t with pad := t.pad ++ key }, [], 0)
def functionS (t : Term) (v : Vw) (key : List UInt8) : Pressed :=
  if key = kCLR then (if t.pad = [] then ({ t with pad := kDELETE }, [], 0) else if t.pad = kDELETE then ({ t with pad := [] }, [], 0) else ({ t with pad := t.pad.take (t.pad.length - 1) }, [], 0))
  else if key = kLEGS then ({ t with page := 1, first := 0 }, [], 0)
  else if key = kDIR then ({ t with page := 2, first := 0 }, [], 0)
  else if key = kPROG then ({ t with page := 3, first := 0 }, [], 0)
  else if key = kMSG then ({ t with page := 4, first := 0 }, [], 0)
  else if key = kDOWN then (if ((shownS v).es.length : Int) ≤ t.first + 5 then (t, [], 6) else ({ t with first := t.first + 5 }, [], 0))
  else if key = kUP then (if t.first < 5 then (t, [], 6) else ({ t with first := t.first - 5 }, [], 0))
  else if key = kEXEC ∨ key = kERASE then (if v.hasTemp then (t, key, 0) else (t, [], 8))
  else (t, key, 0)
def pressS (t : Term) (v : Vw) (key : List UInt8) : Pressed :=
  if key ∉ keysL ∨ t.page < 1 ∨ 4 < t.page ∨ t.first < 0 ∨ 1000000 < t.first ∨ 24 < t.pad.length then (t, [], 1)
  else match key with
    | [c] => putS t [c]
    | [a, b] => if key ∈ linesL then selectS t v a ((b.toNat : Int) - 49) else functionS t v key
    | _ => functionS t v key
/-! The pages. -/
def lineS (l r : List UInt8) : List UInt8 :=
  let r' := if 24 < r.length then r.take 24 else r
  let l0 := if 24 < r.length then [] else l
  let l' := if 23 < l0.length + r'.length then l0.take (min l0.length (23 - r'.length)) else l0
  (l' ++ List.replicate (24 - l'.length - r'.length) 32 ++ r').map fun (c : UInt8) => if c.toNat < 32 ∨ 126 < c.toNat then 63 else c
def rowS (t : Term) (p : Plan) (k : Nat) : List (List UInt8) :=
  match p.es[k]? with
  | none => [lineS [] [], lineS [] []]
  | some x =>
    if x.gap then [lineS [] [], lineS [45, 32, 45, 32, 45, 32, 45] [71, 65, 80]]
    else
      [lineS (nameOf x.leg.ty ++ (if (k : Int) = p.active then [32, 60] else [])) x.via,
       lineS (if x.leg.fix = [] then [40] ++ nameOf x.leg.ty ++ [41] else x.leg.fix) ((if (winT x.leg.lo x.leg.hi).2 = 0 then (winT x.leg.lo x.leg.hi).1 else [45]) ++ (if x.leg.speed = 0 then [] else [47] ++ Lib.itoa x.leg.speed))]
def rowsS (t : Term) (p : Plan) : List (List UInt8) :=
  (List.range 5).flatMap fun i => rowS t p ((min (max t.first 0) p.es.length).toNat + i)
def latL : List (List UInt8) := [[], [82, 79, 76, 76], [72, 69, 65, 68, 73, 78, 71], [65, 82, 77, 69, 68], [78, 65, 86], [65, 80, 80, 82, 79, 65, 67, 72], [71, 79, 65, 82, 79, 85, 78, 68]]
def vertL : List (List UInt8) := [[], [72, 79, 76, 68], [67, 76, 73, 77, 66], [68, 69, 83, 67, 69, 78, 68], [83, 80, 69, 69, 68], [67, 65, 80, 84, 85, 82, 69], [80, 65, 84, 72], [71, 76, 73, 68, 69], [71, 79, 65, 82, 79, 85, 78, 68]]
def phaseL : List (List UInt8) := [[], [80, 82, 69, 70, 76, 84], [84, 65, 75, 69, 79, 70, 70], [67, 76, 73, 77, 66], [67, 82, 85, 73, 83, 69], [68, 69, 83, 67, 69, 78, 84], [65, 80, 80, 82, 79, 65, 67, 72], [71, 79, 65, 82, 79, 85, 78, 68], [76, 65, 78, 68, 69, 68]]
def modeN (l : List (List UInt8)) (m : Int) : List UInt8 := l.getD m.toNat []
def modesT (a b c : Int) : List UInt8 := if modeN latL a = [] ∨ modeN vertL b = [] ∨ modeN phaseL c = [] then [] else modeN latL a ++ [32] ++ modeN vertL b ++ [32] ++ modeN phaseL c
def toS (v : Vw) : List UInt8 := if 0 ≤ v.active.active then (match v.active.es[v.active.active.toNat]? with | some x => x.leg.fix | none => []) else []
def progressS (v : Vw) : List (List UInt8) :=
  [lineS [84, 79] (toS v), lineS [76, 69, 70, 84] (distT v.left).1, lineS [88] (Lib.itoa v.px), lineS [89] (Lib.itoa v.py),
   lineS [76, 69, 86, 69, 76, 83] (Lib.itoa v.lx ++ [32] ++ Lib.itoa v.ly), lineS [82, 69, 81, 85, 73, 82, 69, 68] (Lib.itoa v.required),
   lineS [85, 83, 65, 66, 76, 69] (if v.usable then [89, 69, 83] else [78, 79]), lineS [69, 88, 67, 76, 85, 68, 69, 68] (if v.excluded = 0 then [78, 79, 78, 69] else Lib.itoa v.excluded),
   lineS [66, 65, 78, 75] (Lib.itoa v.bank), lineS [65, 76, 84] (altT v.talt).1]
def pageN (t : Term) : List UInt8 := if t.page = 1 then [76, 69, 71, 83] else if t.page = 2 then [68, 73, 82] else if t.page = 3 then [80, 82, 79, 71] else if t.page = 4 then [77, 83, 71] else []
def bodyS (t : Term) (v : Vw) : List (List UInt8) :=
  if t.page = 1 ∨ t.page = 2 then rowsS t (shownS v) else if t.page = 3 then progressS v else if t.page = 4 then (v.alerts.take 10).map (fun s => lineS s []) else []
def titleS (t : Term) (v : Vw) : List UInt8 :=
  lineS ((if v.hasTemp then [77, 79, 68, 32] else [65, 67, 84, 32]) ++ pageN t) (Lib.itoa (max t.first 0 / 5 + 1) ++ [47] ++ Lib.itoa (max (((shownS v).es.length : Int) + 4) 5 / 5))
def fill11 (l : List (List UInt8)) : List (List UInt8) := l ++ List.replicate (11 - l.length) (lineS [] [])
def renderS (t : Term) (v : Vw) : List (List UInt8) :=
  fill11 (titleS t v :: bodyS t v) ++
    [lineS (modesT v.lat v.vert v.phase) [], lineS (v.alerts.headD []) (if v.last = 0 then [] else [69] ++ Lib.itoa v.last), lineS ([91] ++ t.pad ++ [93]) []]
theorem lineS_len (l r : List UInt8) : (lineS l r).length = 24 := by
  unfold lineS
  simp only [List.length_map, List.length_append, List.length_replicate]
  by_cases h : 24 < r.length
  · simp only [if_pos h]
    by_cases h2 : 23 < ([] : List UInt8).length + (r.take 24).length
    · simp only [if_pos h2]
      simp only [List.length_take, List.length_nil] at *; omega
    · simp only [if_neg h2]
      simp only [List.length_take, List.length_nil] at *; omega
  · simp only [if_neg h]
    by_cases h2 : 23 < l.length + r.length
    · simp only [if_pos h2, List.length_take]; omega
    · simp only [if_neg h2]; omega
theorem lineS_in (l r : List UInt8) : ∀ c ∈ lineS l r, 32 ≤ c.toNat ∧ c.toNat ≤ 126 := by
  intro c hc
  unfold lineS at hc
  simp only [List.mem_map] at hc
  obtain ⟨a, _, rfl⟩ := hc
  split
  · decide
  · omega
end Go.Proofs.YtlleijickhifmaaGreatDoor
