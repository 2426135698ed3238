/- Blocks of the caller's own that are written: rules of the walk. The form in which an entry may begin: plan.starting and the reference's start. The reference's start. -/
import Derived.Test.YtjijpkimlgbepaaGreatDoorPk14
import Derived.Laws.CopyRow
import Derived.Test.YtjijpkimlgbepaaGreatDoorPk08
namespace Go.Proofs.YtjijpkimlgbepaaGreatDoor
open Go.RowKit
set_option linter.unusedVariables false
set_option linter.unusedSimpArgs false
theorem Leg.arr_oneL (x : Leg) : x.arr.toList.all (·.oneCell') = true := by simp [Leg.arr, Value.oneCell']
theorem Entry.arr_oneL (x : Entry) : x.arr.toList.all (·.oneCell') = true := by simp [Entry.arr, Value.oneCell']
theorem Pt.arr_oneL (x : Pt) : x.arr.toList.all (·.oneCell') = true := by simp [Pt.arr, Value.oneCell']
theorem Win.arr_oneL (x : Win) : x.arr.toList.all (·.oneCell') = true := by simp [Win.arr, Value.oneCell']
def Ones (v : Array Value) : Prop := v.toList.all (·.oneCell') = true
def SzIs (v : Array Value) (n : Nat) : Prop := v.size = n
def Fits (o n : Nat) (v : Array Value) : Prop := o + n ≤ v.size
theorem SzIs_lit (l : List Value) (n : Nat) : SzIs l.toArray n = (l.length = n) := by simp [SzIs]
theorem Fits_lit (l : List Value) (o n : Nat) : Fits o n l.toArray = (o + n ≤ l.length) := by simp [Fits]
theorem SzIs_leg (x : Leg) (n : Nat) : SzIs x.arr n = (13 = n) := propext ⟨fun h => h, fun h => h⟩
theorem SzIs_ent (x : Entry) (n : Nat) : SzIs x.arr n = (20 = n) := propext ⟨fun h => h, fun h => h⟩
theorem SzIs_pt (x : Pt) (n : Nat) : SzIs x.arr n = (2 = n) := propext ⟨fun h => h, fun h => h⟩
theorem SzIs_win (x : Win) (n : Nat) : SzIs x.arr n = (2 = n) := propext ⟨fun h => h, fun h => h⟩
theorem Fits_leg (x : Leg) (o n : Nat) : Fits o n x.arr = (o + n ≤ 13) := propext ⟨fun h => h, fun h => h⟩
theorem Fits_ent (x : Entry) (o n : Nat) : Fits o n x.arr = (o + n ≤ 20) := propext ⟨fun h => h, fun h => h⟩
attribute [go_sem] SzIs_lit Fits_lit SzIs_leg SzIs_ent SzIs_pt SzIs_win Fits_leg Fits_ent
theorem Ones_lit (l : List Value) : Ones l.toArray = (l.all (·.oneCell') = true) := by simp [Ones]
theorem Ones_leg (x : Leg) : Ones x.arr = True := eq_true (Leg.arr_oneL x)
theorem Ones_ent (x : Entry) : Ones x.arr = True := eq_true (Entry.arr_oneL x)
theorem Ones_pt (x : Pt) : Ones x.arr = True := eq_true (Pt.arr_oneL x)
theorem Ones_win (x : Win) : Ones x.arr = True := eq_true (Win.arr_oneL x)
attribute [go_sem] Ones_lit Ones_leg Ones_ent Ones_pt Ones_win
theorem one_int (k : IntKind) (n : Int) : (Value.int k n).oneCell' = true := rfl
theorem one_bool (b : Bool) : (Value.bool b).oneCell' = true := rfl
theorem one_str (b : ByteArray) : (Value.string b).oneCell' = true := rfl
theorem one_slice (a : Option Addr) (n c : Nat) : (Value.slice a n c).oneCell' = true := rfl
attribute [go_sem] one_int one_bool one_str one_slice
def blkOf (W : World) (g : Nat) : Array Value := match W.heap[g]? with | some (.cells cs _ _) => cs | _ => #[]
def Plain (W : World) (g : Nat) : Prop := ∃ cs t, W.heap[g]? = some (.cells cs t (0, 0))
def splice (cs : Array Value) (o : Nat) (v : Array Value) : Array Value := (cs.toList.take o ++ v.toList ++ cs.toList.drop (o + v.size)).toArray
/-- Block g is the cells cs, to be written freely. -/
def Blk (W : World) (g : Nat) (cs : Array Value) : Prop := ∃ t, W.heap[g]? = some (.cells cs t (0, 0))
theorem Blk.new (w : World) (cs : Array Value) (t : TypeId) : Blk (w.alloc (.cells cs t)) w.heap.size cs := ⟨t, heap_alloc_new w _⟩
theorem Blk.lt {W : World} {g : Nat} {cs : Array Value} (h : Blk W g cs) : g < W.heap.size := by
  obtain ⟨t, h⟩ := h
  rcases Nat.lt_or_ge g W.heap.size with hlt | hge
  · exact hlt
  · rw [Array.getElem?_eq_none hge] at h; cases h
theorem Blk.plain {W : World} {g : Nat} {cs : Array Value} (h : Blk W g cs) : Plain W g := by obtain ⟨t, h⟩ := h; exact ⟨cs, t, h⟩
theorem Blk.of {W : World} {g : Nat} {cs : Array Value} (h : Blk W g cs) : blkOf W g = cs := by obtain ⟨t, h⟩ := h; simp [blkOf, h]
theorem Blk.cell {W : World} {g : Nat} {cs : Array Value} (h : Blk W g cs) (j : Nat) : W.cell? ⟨g, j, none⟩ = cs[j]? := by obtain ⟨t, h⟩ := h; exact cell_of_row W g j cs t (0, 0) h
theorem Blk.frozen {W : World} {g : Nat} {cs : Array Value} (h : Blk W g cs) (j : Nat) : W.frozen? ⟨g, j, none⟩ = false := by obtain ⟨t, h⟩ := h; simp [World.frozen?, h]
theorem Blk.below {W w1 : World} {B g : Nat} {cs : Array Value} (h : Blk W g cs) (hb : Below B W w1) (hlt : g < B) : Blk w1 g cs := by obtain ⟨t, h⟩ := h; exact ⟨t, (hb.block g hlt).trans h⟩
theorem Blk.step {W w1 : World} {g : Nat} {cs : Array Value} (h : Blk W g cs) (hb : Below W.heap.size W w1) : Blk w1 g cs := h.below hb h.lt
theorem Blk.alloc {W : World} {g : Nat} {cs : Array Value} (h : Blk W g cs) (o : Obj) : Blk (W.alloc o) g cs := h.step ((Below.refl _ _).alloc (Nat.le_refl _) _)
theorem Blk.set {W : World} {g : Nat} {cs : Array Value} (h : Blk W g cs) (cs' : Array Value) : Blk (W.setRow g cs') g cs' := by obtain ⟨t, h⟩ := h; exact ⟨t, setRow_heap W g cs cs' t _ h⟩
theorem Blk.far {W : World} {g g' : Nat} {cs : Array Value} (h : Blk W g cs) (hne : g ≠ g') (cs' : Array Value) : Blk (W.setRow g' cs') g cs := by obtain ⟨t, h⟩ := h; exact ⟨t, (setRow_other W g' g cs' hne).trans h⟩
theorem Blk.boxed {W : World} {g : Nat} {cs : Array Value} (h : Blk W g cs) : Boxed W g cs := ⟨h.lt, h.cell⟩
theorem below_setRow' {B g : Nat} {w0 w : World} (hb : Below B w0 w) (hBg : B ≤ g) (cs : Array Value) : Below B w0 (w.setRow g cs) :=
  hb.trans ⟨rfl, rfl, rfl, by simp [World.setRow], fun k hk => setRow_other w g k cs (by omega)⟩
theorem Plain_set (W : World) (g : Nat) (cs : Array Value) (h : Plain W g) : Plain (W.setRow g cs) g := by obtain ⟨c, t, h⟩ := h; exact ⟨cs, t, setRow_heap W g c cs t _ h⟩
theorem Plain_far (W : World) (g g' : Nat) (cs : Array Value) (hne : g ≠ g') (h : Plain W g) : Plain (W.setRow g' cs) g := by obtain ⟨c, t, h⟩ := h; exact ⟨c, t, (setRow_other W g' g cs hne).trans h⟩
theorem blkOf_set (W : World) (g : Nat) (cs : Array Value) (h : Plain W g) : blkOf (W.setRow g cs) g = cs := by obtain ⟨c, t, h⟩ := h; exact Blk.of ⟨t, setRow_heap W g c cs t _ h⟩
theorem blkOf_far (W : World) (g g' : Nat) (cs : Array Value) (hne : g ≠ g') : blkOf (W.setRow g' cs) g = blkOf W g := by simp [blkOf, setRow_other W g' g cs hne]
theorem cell_set (W : World) (g j : Nat) (cs : Array Value) (h : Plain W g) : (W.setRow g cs).cell? ⟨g, j, none⟩ = cs[j]? := by obtain ⟨c, t, h⟩ := h; exact cell_setRow_same W g j c cs t _ h
theorem cell_far (W : World) (g g' j : Nat) (cs : Array Value) (hne : g ≠ g') : (W.setRow g' cs).cell? ⟨g, j, none⟩ = W.cell? ⟨g, j, none⟩ := by simp [World.cell?, setRow_other W g' g cs hne]
theorem Plain_alloc (W : World) (g : Nat) (o : Obj) (hlt : g < W.heap.size) (h : Plain W g) : Plain (W.alloc o) g := by obtain ⟨c, t, h⟩ := h; exact ⟨c, t, (Below.heap_alloc W o g hlt).trans h⟩
theorem blkOf_alloc (W : World) (g : Nat) (o : Obj) (hlt : g < W.heap.size) : blkOf (W.alloc o) g = blkOf W g := by simp [blkOf, Below.heap_alloc W o g hlt]
attribute [go_sem] Plain_alloc blkOf_alloc
attribute [go_sem] Plain_set Plain_far blkOf_set blkOf_far cell_set cell_far setRow_setRow
theorem run_store_blk {P : Program} (W : World) (g o n : Nat) (ty : TypeId) (v : Array Value) (hi : (P.info? ty).map (·.size) = some n) (hv : SzIs v n) (h1 : Ones v) (hp : Plain W g) (hn : Fits o n (blkOf W g)) :
    (Instr.storeAt ty (.pointer (some ⟨g, o, none⟩)) (.agg v)).run P W = .ok () (W.setRow g (splice (blkOf W g) o v)) := by
  unfold SzIs at hv
  unfold Fits at hn
  obtain ⟨cs, t, h⟩ := hp
  have hb : blkOf W g = cs := Blk.of ⟨t, h⟩
  rw [hb] at hn ⊢
  have hs := run_storeCells_at (P := P) g o t v.toList 0 cs W h (by simp [hv]; omega) (fun x hx => (List.all_eq_true.1 (show v.toList.all (·.oneCell') = true from h1)) x hx)
  cases hq : P.info? ty with
  | none => simp [hq] at hi
  | some i =>
    have hsz : v.size = i.size := by simp [hq] at hi; omega
    simp only [Instr.storeAt, Instr.sureAddr, Sem.run_bind, Sem.run_pure, Result.andThen_ok]
    simp only [Nat.add_zero] at hs
    simpa [storeVar, sizeOf, typeInfo, hq, Value.cells, hsz, splice] using hs
theorem Blk.is_pt {W : World} {g : Nat} {x : Pt} (h : Blk W g x.arr) : Is_pt W g 0 x := fun j _ => by rw [Nat.zero_add]; exact h.cell j
theorem Has_pt_set (W : World) (g : Nat) (x : Pt) (h : Plain W g) : Has_pt (W.setRow g x.arr) g 0 = True := eq_true ⟨x, fun j _ => by rw [Nat.zero_add]; exact cell_set W g j x.arr h⟩
theorem of_pt_set (W : World) (g : Nat) (x : Pt) (h : Plain W g) : of_pt (W.setRow g x.arr) g 0 = x := of_pt_eq fun j _ => by rw [Nat.zero_add]; exact cell_set W g j x.arr h
attribute [go_sem]  Has_pt_set of_pt_set
theorem run_storeB_win (W : World) (g o : Nat) (v : Array Value) (hv : SzIs v 2) (h1 : Ones v) (hp : Plain W g) (hn : Fits o 2 (blkOf W g)) :
    (store_win (.pointer (some ⟨g, o, none⟩)) (.agg v)).run Tryz.prog W = .ok () (W.setRow g (splice (blkOf W g) o v)) := run_store_blk W g o 2 _ v info_win hv h1 hp hn
theorem Blk.is_win {W : World} {g : Nat} {x : Win} (h : Blk W g x.arr) : Is_win W g 0 x := fun j _ => by rw [Nat.zero_add]; exact h.cell j
theorem Has_win_set (W : World) (g : Nat) (x : Win) (h : Plain W g) : Has_win (W.setRow g x.arr) g 0 = True := eq_true ⟨x, fun j _ => by rw [Nat.zero_add]; exact cell_set W g j x.arr h⟩
theorem of_win_set (W : World) (g : Nat) (x : Win) (h : Plain W g) : of_win (W.setRow g x.arr) g 0 = x := of_win_eq fun j _ => by rw [Nat.zero_add]; exact cell_set W g j x.arr h
attribute [go_sem] run_storeB_win Has_win_set of_win_set
theorem run_storeB_leg (W : World) (g o : Nat) (v : Array Value) (hv : SzIs v 13) (h1 : Ones v) (hp : Plain W g) (hn : Fits o 13 (blkOf W g)) :
    (store_leg (.pointer (some ⟨g, o, none⟩)) (.agg v)).run Tryz.prog W = .ok () (W.setRow g (splice (blkOf W g) o v)) := run_store_blk W g o 13 _ v info_leg hv h1 hp hn
theorem Blk.is_leg {W : World} {g : Nat} {x : Leg} (h : Blk W g x.arr) : Is_leg W g 0 x := fun j _ => by rw [Nat.zero_add]; exact h.cell j
theorem Has_leg_set (W : World) (g : Nat) (x : Leg) (h : Plain W g) : Has_leg (W.setRow g x.arr) g 0 = True := eq_true ⟨x, fun j _ => by rw [Nat.zero_add]; exact cell_set W g j x.arr h⟩
theorem of_leg_set (W : World) (g : Nat) (x : Leg) (h : Plain W g) : of_leg (W.setRow g x.arr) g 0 = x := of_leg_eq fun j _ => by rw [Nat.zero_add]; exact cell_set W g j x.arr h
attribute [go_sem] run_storeB_leg Has_leg_set of_leg_set
theorem Blk.is_ent {W : World} {g : Nat} {x : Entry} (h : Blk W g x.arr) : Is_ent W g 0 x := fun j _ => by rw [Nat.zero_add]; exact h.cell j
theorem Has_ent_set (W : World) (g : Nat) (x : Entry) (h : Plain W g) : Has_ent (W.setRow g x.arr) g 0 = True := eq_true ⟨x, fun j _ => by rw [Nat.zero_add]; exact cell_set W g j x.arr h⟩
theorem of_ent_set (W : World) (g : Nat) (x : Entry) (h : Plain W g) : of_ent (W.setRow g x.arr) g 0 = x := of_ent_eq fun j _ => by rw [Nat.zero_add]; exact cell_set W g j x.arr h
attribute [go_sem]  Has_ent_set of_ent_set
theorem run_storeN_win (w : World) (c c' : Array Value) (hc : SzIs c 2) (hc' : SzIs c' 2) (h1 : Ones c') :
    (store_win (.pointer (some ⟨w.heap.size, 0, none⟩)) (.agg c')).run Tryz.prog (w.alloc (.cells c 24)) = .ok () (w.alloc (.cells c' 24)) :=
  run_store_win w c c' hc hc' (Array.all_eq_true_iff_forall_mem.2 fun v hv => (List.all_eq_true.1 (show c'.toList.all (·.oneCell') = true from h1)) v (by simpa using hv))
attribute [go_sem] run_storeN_win
theorem run_storeN_leg (w : World) (c c' : Array Value) (hc : SzIs c 13) (hc' : SzIs c' 13) (h1 : Ones c') :
    (store_leg (.pointer (some ⟨w.heap.size, 0, none⟩)) (.agg c')).run Tryz.prog (w.alloc (.cells c 26)) = .ok () (w.alloc (.cells c' 26)) :=
  run_store_leg w c c' hc hc' (Array.all_eq_true_iff_forall_mem.2 fun v hv => (List.all_eq_true.1 (show c'.toList.all (·.oneCell') = true from h1)) v (by simpa using hv))
attribute [go_sem] run_storeN_leg
end Go.Proofs.YtjijpkimlgbepaaGreatDoor
namespace Go.Proofs.YtjijpkimlgbepaaGreatDoor
open Go.RowKit
set_option linter.unusedVariables false
set_option linter.unusedSimpArgs false
/-- A track, an arc becomes an initial fix. -/
def startForm (x : Entry) : Entry := ⟨x.gap, ⟨1, x.leg.fix, [], 0, false, 0, 0, 0, 0, x.leg.lo, x.leg.hi, x.leg.speed, x.leg.rnp⟩, x.ex, x.ey, 0, 0, x.sec, x.via⟩
def stF (x : Entry) : Entry := ⟨x.gap, ⟨1, x.leg.fix, [], 0, false, 0, 0, 0, 0, x.leg.lo, x.leg.hi, x.leg.speed, x.leg.rnp⟩, x.ex, x.ey, x.mx, x.my, x.sec, x.via⟩
def startAble (t : Int) : Bool := t == 2 || t == 5 || t == 6
def zeroE : Entry := ⟨false, ⟨0, [], [], 0, false, 0, 0, 0, 0, 0, 0, 0, 0⟩, 0, 0, 0, 0, 0, []⟩
def startOf (x : Entry) : Entry × Bool := if startsB x.leg.ty then (x, true) else if startAble x.leg.ty then (startForm x, true) else (zeroE, false)
theorem Win.arr_mk (a b : Int) : Win.arr ⟨a, b⟩ = #[.int .i64 a, .int .i64 b] := rfl
theorem Pt.arr_mk (a b : Int) : Pt.arr ⟨a, b⟩ = #[.int .i64 a, .int .i64 b] := rfl
attribute [local go_sem] Win.arr_mk Pt.arr_mk
theorem Entry.is_win {W : World} {g : Nat} {x : Entry} (h : Blk W g x.arr) : Is_win W g 10 ⟨x.leg.lo, x.leg.hi⟩ := by
  intro j hj
  rw [h.cell]
  match j, hj with
  | 0, _ | 1, _ => rfl
theorem Ret.start {w w' : World} {r : Entry × Bool} {x : Entry} {b : Bool} (h : r = (x, b)) (hw : Below w.heap.size w w') : Ret w (.tuple #[r.1.val, .bool r.2]) (.returned (.tuple #[.agg x.arr, .bool b])) w' := by
  subst h; exact ⟨rfl, hw⟩
end Go.Proofs.YtjijpkimlgbepaaGreatDoor
namespace Go.Proofs.YtjijpkimlgbepaaGreatDoor
open Go.RowKit
set_option linter.unusedVariables false
set_option linter.unusedSimpArgs false
def stL (x : Entry) : Leg := ⟨1, x.leg.fix, [], 0, false, 0, 0, 0, 0, x.leg.lo, x.leg.hi, x.leg.speed, x.leg.rnp⟩
def rstartForm (x : Entry) : Entry := ⟨false, stL x, x.ex, x.ey, 0, 0, x.sec, x.via⟩
def rstartOf (x : Entry) : Entry × Bool := if startsB x.leg.ty then (x, true) else if startAble x.leg.ty then (rstartForm x, true) else (x, false)
attribute [local go_sem] Win.arr_mk Pt.arr_mk
theorem Entry.is_pt {W : World} {g : Nat} {x : Entry} (h : Blk W g x.arr) : Is_pt W g 14 ⟨x.ex, x.ey⟩ := by
  intro j hj
  rw [h.cell]
  match j, hj with
  | 0, _ | 1, _ => rfl
end Go.Proofs.YtjijpkimlgbepaaGreatDoor
