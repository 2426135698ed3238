/- Lemmas and walks. -/
import Derived.Test.YtgoeedohgomodaaGreatDoorPk24
import Derived.Test.YtgoeedohgomodaaGreatDoorPk14
import Derived.Test.YtgoeedohgomodaaGreatDoorPk16
import Derived.Test.YtgoeedohgomodaaGreatDoorPk02
import Derived.Test.YtgoeedohgomodaaGreatDoorPk03
import Derived.Deep.MidRow
import Derived.Deep.WholeRow
import Derived.Deep.Light
set_option linter.unusedSimpArgs false
set_option linter.unusedVariables false
namespace Go.Proofs.YtgoeedohgomodaaGreatDoor
open Go.RowKit
def APt.arr (x : APt) : Array Value := #[.string ⟨x.ref.toArray⟩, .int .i64 x.lo, .int .i64 x.hi, .int .u8 x.dir]
theorem APt.arr_size (x : APt) : x.arr.size = 4 := rfl
theorem APt.arr_sz (x : APt) : x.arr.size = 4 := by simp [APt.arr]
theorem APt.arr_one (x : APt) : x.arr.all (·.oneCell') = true := by simp [APt.arr, Value.oneCell']
theorem APt.arr0 (x : APt) : x.arr[0]? = some (.string ⟨x.ref.toArray⟩) := rfl
theorem APt.arr1 (x : APt) : x.arr[1]? = some (.int .i64 x.lo) := rfl
theorem APt.arr2 (x : APt) : x.arr[2]? = some (.int .i64 x.hi) := rfl
theorem APt.arr3 (x : APt) : x.arr[3]? = some (.int .u8 x.dir) := rfl
attribute [go_sem] APt.arr0 APt.arr1 APt.arr2 APt.arr3
def APt.eqB (a b : APt) : Bool := decide (a.ref = b.ref) && (decide (a.lo = b.lo) && (decide (a.hi = b.hi) && (decide (a.dir = b.dir))))
theorem APt.eqB_iff (a b : APt) : a.eqB b = true ↔ a = b := by
  obtain ⟨_, _, _, _⟩ := a
  obtain ⟨_, _, _, _⟩ := b
  simp [APt.eqB]
theorem info_apt : (Tryz.prog.info? 107).map (·.size) = some 4 := by kernel_rfl
def Is_apt (w : World) (b o : Nat) (x : APt) : Prop := ∀ j, j < 4 → w.cell? ⟨b, o + j, none⟩ = x.arr[j]?
def Has_apt (w : World) (b o : Nat) : Prop := ∃ x, Is_apt w b o x
theorem APt.arr_inj {x y : APt} (h : ∀ j, j < 4 → x.arr[j]? = y.arr[j]?) : x = y := by
  refine (APt.eqB_iff x y).1 ?_
  have hh : ∀ j, j < 4 → x.arr[j]? = y.arr[j]? := h
  have e0 := h 0 (by omega)
  have e1 := h 1 (by omega)
  have e2 := h 2 (by omega)
  have e3 := h 3 (by omega)
  simp [APt.arr0, APt.arr1, APt.arr2, APt.arr3] at e0 e1 e2 e3
  simp [APt.eqB, *]
open Classical in
noncomputable def of_apt (w : World) (b o : Nat) : APt := if h : Has_apt w b o then h.choose else ⟨[], 0, 0, 0⟩
theorem of_apt_spec {w : World} {b o : Nat} (h : Has_apt w b o) : Is_apt w b o (of_apt w b o) := by
  unfold of_apt
  rw [dif_pos h]
  exact h.choose_spec
theorem of_apt_eq {w : World} {b o : Nat} {x : APt} (h : Is_apt w b o x) : of_apt w b o = x :=
  APt.arr_inj fun j hj => (of_apt_spec ⟨x, h⟩ j hj).symm.trans (h j hj)
theorem of_apt_drewN (w : World) (b o n : Nat) : of_apt (w.drewN n) b o = of_apt w b o := rfl
def load_apt (v : Value) : Sem Value := Instr.loadAt 107 v
theorem load_apt_fold (v : Value) : Instr.loadAt 107 v = load_apt v := rfl
theorem run_load_apt (w : World) (b o : Nat) (h : Has_apt w b o) : (load_apt (.pointer (some ⟨b, o, none⟩))).run Tryz.prog w = .ok (.agg (of_apt w b o).arr) w := by
  have hs := of_apt_spec h
  generalize of_apt w b o = x at hs
  have := run_load_agg (P := Tryz.prog) w ⟨b, o, none⟩ 107 x.arr.toList _ (fun j v hv => by
    rw [addr_add, hs j (by have := (List.getElem?_eq_some_iff.1 hv).1; simpa [APt.arr_size] using this)]
    simpa using hv) Tryz.underlying107 rfl info_apt
  simp only [load_apt, Instr.loadAt, Instr.sureAddr, Sem.run_bind, Sem.run_pure, Result.andThen_ok]
  simpa using this
def store_apt (p v : Value) : Sem Unit := Instr.storeAt 107 p v
theorem store_apt_fold (p v : Value) : Instr.storeAt 107 p v = store_apt p v := rfl
theorem run_store_apt (w : World) (c c' : Array Value) (hc : c.size = 4) (hc' : c'.size = 4) (h1 : c'.all (·.oneCell') = true) :
    (store_apt (.pointer (some ⟨w.heap.size, 0, none⟩)) (.agg c')).run Tryz.prog (w.alloc (.cells c 107)) = .ok () (w.alloc (.cells c' 107)) :=
  run_storeAt_new (P := Tryz.prog) w 107 c c' (by rw [hc']; exact info_apt) (by rw [hc, hc']) h1
attribute [go_sem ↓] load_apt_fold store_apt_fold
attribute [go_sem] run_load_apt run_store_apt of_apt_drewN 
theorem APt.arr_oneL (x : APt) : x.arr.toList.all (·.oneCell') = true := by simp [APt.arr, Value.oneCell']
theorem SzIs_apt (x : APt) (n : Nat) : SzIs x.arr n = (4 = n) := propext ⟨fun h => h, fun h => h⟩
theorem Ones_apt (x : APt) : Ones x.arr = True := eq_true (APt.arr_oneL x)
theorem splice_apt (a b : APt) : splice a.arr 0 b.arr = b.arr := rfl
theorem run_storeN_apt (w : World) (c c' : Array Value) (hc : SzIs c 4) (hc' : SzIs c' 4) (h1 : Ones c') :
    (store_apt (.pointer (some ⟨w.heap.size, 0, none⟩)) (.agg c')).run Tryz.prog (w.alloc (.cells c 107)) = .ok () (w.alloc (.cells c' 107)) :=
  run_store_apt w c c' hc hc' (Array.all_eq_true_iff_forall_mem.2 fun v hv => (List.all_eq_true.1 (show c'.toList.all (·.oneCell') = true from h1)) v (by simpa using hv))
theorem Blk.is_apt {W : World} {g : Nat} {x : APt} (h : Blk W g x.arr) : Is_apt W g 0 x := fun j _ => by rw [Nat.zero_add]; exact h.cell j
attribute [go_sem] SzIs_apt Ones_apt splice_apt run_storeN_apt
theorem info_awy : (Tryz.prog.info? 81).map (·.size) = some 2 := by kernel_rfl
def Is_awy (w : World) (b o : Nat) (x : Array Value) : Prop := x.size = 2 ∧ ∀ j, j < 2 → w.cell? ⟨b, o + j, none⟩ = x[j]?
def Has_awy (w : World) (b o : Nat) : Prop := ∃ x, Is_awy w b o x
open Classical in
noncomputable def of_awy (w : World) (b o : Nat) : Array Value := if h : Has_awy w b o then h.choose else #[]
theorem of_awy_spec {w : World} {b o : Nat} (h : Has_awy w b o) : Is_awy w b o (of_awy w b o) := by
  unfold of_awy
  rw [dif_pos h]
  exact h.choose_spec
theorem of_awy_eq {w : World} {b o : Nat} {x : Array Value} (h : Is_awy w b o x) : of_awy w b o = x := by
  have hs := of_awy_spec ⟨x, h⟩
  apply Array.ext_getElem?
  intro j
  rcases Nat.lt_or_ge j 2 with hj | hj
  · exact (hs.2 j hj).symm.trans (h.2 j hj)
  · rw [Array.getElem?_eq_none (by rw [hs.1]; exact hj), Array.getElem?_eq_none (by rw [h.1]; exact hj)]
theorem of_awy_drewN (w : World) (b o n : Nat) : of_awy (w.drewN n) b o = of_awy w b o := rfl
theorem Blk.is_awy {W : World} {g : Nat} {x : Array Value} (h : Blk W g x) (hx : x.size = 2) : Is_awy W g 0 x := ⟨hx, fun j _ => by rw [Nat.zero_add]; exact h.cell j⟩
def load_awy (v : Value) : Sem Value := Instr.loadAt 81 v
theorem load_awy_fold (v : Value) : Instr.loadAt 81 v = load_awy v := rfl
theorem run_load_awy (w : World) (b o : Nat) (h : Has_awy w b o) : (load_awy (.pointer (some ⟨b, o, none⟩))).run Tryz.prog w = .ok (.agg (of_awy w b o)) w := by
  have hs := of_awy_spec h
  generalize of_awy w b o = x at hs
  have hl := run_load_agg (P := Tryz.prog) w ⟨b, o, none⟩ 81 x.toList _ (fun j v hv => by
    rw [addr_add, hs.2 j (by have := (List.getElem?_eq_some_iff.1 hv).1; rw [← hs.1]; simpa using this)]
    simpa using hv) Tryz.underlying81 rfl (by rw [info_awy]; simp [hs.1])
  simp only [load_awy, Instr.loadAt, Instr.sureAddr, Sem.run_bind, Sem.run_pure, Result.andThen_ok]
  simpa using hl
attribute [go_sem ↓] load_awy_fold
attribute [go_sem] run_load_awy of_awy_drewN
def store_awy (p v : Value) : Sem Unit := Instr.storeAt 81 p v
theorem store_awy_fold (p v : Value) : Instr.storeAt 81 p v = store_awy p v := rfl
theorem run_storeN_awy (w : World) (c c' : Array Value) (hc : SzIs c 2) (hc' : SzIs c' 2) (h1 : Ones c') :
    (store_awy (.pointer (some ⟨w.heap.size, 0, none⟩)) (.agg c')).run Tryz.prog (w.alloc (.cells c 81)) = .ok () (w.alloc (.cells c' 81)) :=
  run_storeAt_new (P := Tryz.prog) w 81 c c' (by rw [show c'.size = 2 from hc']; exact info_awy) (by rw [show c'.size = 2 from hc', show c.size = 2 from hc]) (Array.all_eq_true_iff_forall_mem.2 fun v hv => (List.all_eq_true.1 (show c'.toList.all (·.oneCell') = true from h1)) v (by simpa using hv))
theorem run_storeB_awy (W : World) (g o : Nat) (v : Array Value) (hv : SzIs v 2) (h1 : Ones v) (hp : Plain W g) (hn : Fits o 2 (blkOf W g)) :
    (store_awy (.pointer (some ⟨g, o, none⟩)) (.agg v)).run Tryz.prog W = .ok () (W.setRow g (splice (blkOf W g) o v)) := run_store_blk W g o 2 _ v info_awy hv h1 hp hn
attribute [go_sem ↓] store_awy_fold
attribute [go_sem] run_storeN_awy run_storeB_awy
theorem info_prt : (Tryz.prog.info? 183).map (·.size) = some 3 := by kernel_rfl
def Is_prt (w : World) (b o : Nat) (x : Array Value) : Prop := x.size = 3 ∧ ∀ j, j < 3 → w.cell? ⟨b, o + j, none⟩ = x[j]?
def Has_prt (w : World) (b o : Nat) : Prop := ∃ x, Is_prt w b o x
open Classical in
noncomputable def of_prt (w : World) (b o : Nat) : Array Value := if h : Has_prt w b o then h.choose else #[]
theorem of_prt_spec {w : World} {b o : Nat} (h : Has_prt w b o) : Is_prt w b o (of_prt w b o) := by
  unfold of_prt
  rw [dif_pos h]
  exact h.choose_spec
theorem of_prt_eq {w : World} {b o : Nat} {x : Array Value} (h : Is_prt w b o x) : of_prt w b o = x := by
  have hs := of_prt_spec ⟨x, h⟩
  apply Array.ext_getElem?
  intro j
  rcases Nat.lt_or_ge j 3 with hj | hj
  · exact (hs.2 j hj).symm.trans (h.2 j hj)
  · rw [Array.getElem?_eq_none (by rw [hs.1]; exact hj), Array.getElem?_eq_none (by rw [h.1]; exact hj)]
theorem of_prt_drewN (w : World) (b o n : Nat) : of_prt (w.drewN n) b o = of_prt w b o := rfl
theorem Blk.is_prt {W : World} {g : Nat} {x : Array Value} (h : Blk W g x) (hx : x.size = 3) : Is_prt W g 0 x := ⟨hx, fun j _ => by rw [Nat.zero_add]; exact h.cell j⟩
def load_prt (v : Value) : Sem Value := Instr.loadAt 183 v
theorem load_prt_fold (v : Value) : Instr.loadAt 183 v = load_prt v := rfl
theorem run_load_prt (w : World) (b o : Nat) (h : Has_prt w b o) : (load_prt (.pointer (some ⟨b, o, none⟩))).run Tryz.prog w = .ok (.agg (of_prt w b o)) w := by
  have hs := of_prt_spec h
  generalize of_prt w b o = x at hs
  have hl := run_load_agg (P := Tryz.prog) w ⟨b, o, none⟩ 183 x.toList _ (fun j v hv => by
    rw [addr_add, hs.2 j (by have := (List.getElem?_eq_some_iff.1 hv).1; rw [← hs.1]; simpa using this)]
    simpa using hv) Tryz.underlying183 rfl (by rw [info_prt]; simp [hs.1])
  simp only [load_prt, Instr.loadAt, Instr.sureAddr, Sem.run_bind, Sem.run_pure, Result.andThen_ok]
  simpa using hl
attribute [go_sem ↓] load_prt_fold
attribute [go_sem] run_load_prt of_prt_drewN
def store_prt (p v : Value) : Sem Unit := Instr.storeAt 183 p v
theorem store_prt_fold (p v : Value) : Instr.storeAt 183 p v = store_prt p v := rfl
theorem run_storeN_prt (w : World) (c c' : Array Value) (hc : SzIs c 3) (hc' : SzIs c' 3) (h1 : Ones c') :
    (store_prt (.pointer (some ⟨w.heap.size, 0, none⟩)) (.agg c')).run Tryz.prog (w.alloc (.cells c 183)) = .ok () (w.alloc (.cells c' 183)) :=
  run_storeAt_new (P := Tryz.prog) w 183 c c' (by rw [show c'.size = 3 from hc']; exact info_prt) (by rw [show c'.size = 3 from hc', show c.size = 3 from hc]) (Array.all_eq_true_iff_forall_mem.2 fun v hv => (List.all_eq_true.1 (show c'.toList.all (·.oneCell') = true from h1)) v (by simpa using hv))
theorem run_storeB_prt (W : World) (g o : Nat) (v : Array Value) (hv : SzIs v 3) (h1 : Ones v) (hp : Plain W g) (hn : Fits o 3 (blkOf W g)) :
    (store_prt (.pointer (some ⟨g, o, none⟩)) (.agg v)).run Tryz.prog W = .ok () (W.setRow g (splice (blkOf W g) o v)) := run_store_blk W g o 3 _ v info_prt hv h1 hp hn
attribute [go_sem ↓] store_prt_fold
attribute [go_sem] run_storeN_prt run_storeB_prt
theorem info_prc : (Tryz.prog.info? 131).map (·.size) = some 4 := by kernel_rfl
def Is_prc (w : World) (b o : Nat) (x : Array Value) : Prop := x.size = 4 ∧ ∀ j, j < 4 → w.cell? ⟨b, o + j, none⟩ = x[j]?
def Has_prc (w : World) (b o : Nat) : Prop := ∃ x, Is_prc w b o x
open Classical in
noncomputable def of_prc (w : World) (b o : Nat) : Array Value := if h : Has_prc w b o then h.choose else #[]
theorem of_prc_spec {w : World} {b o : Nat} (h : Has_prc w b o) : Is_prc w b o (of_prc w b o) := by
  unfold of_prc
  rw [dif_pos h]
  exact h.choose_spec
theorem of_prc_eq {w : World} {b o : Nat} {x : Array Value} (h : Is_prc w b o x) : of_prc w b o = x := by
  have hs := of_prc_spec ⟨x, h⟩
  apply Array.ext_getElem?
  intro j
  rcases Nat.lt_or_ge j 4 with hj | hj
  · exact (hs.2 j hj).symm.trans (h.2 j hj)
  · rw [Array.getElem?_eq_none (by rw [hs.1]; exact hj), Array.getElem?_eq_none (by rw [h.1]; exact hj)]
theorem of_prc_drewN (w : World) (b o n : Nat) : of_prc (w.drewN n) b o = of_prc w b o := rfl
theorem Blk.is_prc {W : World} {g : Nat} {x : Array Value} (h : Blk W g x) (hx : x.size = 4) : Is_prc W g 0 x := ⟨hx, fun j _ => by rw [Nat.zero_add]; exact h.cell j⟩
def load_prc (v : Value) : Sem Value := Instr.loadAt 131 v
theorem load_prc_fold (v : Value) : Instr.loadAt 131 v = load_prc v := rfl
theorem run_load_prc (w : World) (b o : Nat) (h : Has_prc w b o) : (load_prc (.pointer (some ⟨b, o, none⟩))).run Tryz.prog w = .ok (.agg (of_prc w b o)) w := by
  have hs := of_prc_spec h
  generalize of_prc w b o = x at hs
  have hl := run_load_agg (P := Tryz.prog) w ⟨b, o, none⟩ 131 x.toList _ (fun j v hv => by
    rw [addr_add, hs.2 j (by have := (List.getElem?_eq_some_iff.1 hv).1; rw [← hs.1]; simpa using this)]
    simpa using hv) Tryz.underlying131 rfl (by rw [info_prc]; simp [hs.1])
  simp only [load_prc, Instr.loadAt, Instr.sureAddr, Sem.run_bind, Sem.run_pure, Result.andThen_ok]
  simpa using hl
attribute [go_sem ↓] load_prc_fold
attribute [go_sem] run_load_prc of_prc_drewN
def store_prc (p v : Value) : Sem Unit := Instr.storeAt 131 p v
theorem store_prc_fold (p v : Value) : Instr.storeAt 131 p v = store_prc p v := rfl
theorem run_storeN_prc (w : World) (c c' : Array Value) (hc : SzIs c 4) (hc' : SzIs c' 4) (h1 : Ones c') :
    (store_prc (.pointer (some ⟨w.heap.size, 0, none⟩)) (.agg c')).run Tryz.prog (w.alloc (.cells c 131)) = .ok () (w.alloc (.cells c' 131)) :=
  run_storeAt_new (P := Tryz.prog) w 131 c c' (by rw [show c'.size = 4 from hc']; exact info_prc) (by rw [show c'.size = 4 from hc', show c.size = 4 from hc]) (Array.all_eq_true_iff_forall_mem.2 fun v hv => (List.all_eq_true.1 (show c'.toList.all (·.oneCell') = true from h1)) v (by simpa using hv))
theorem run_storeB_prc (W : World) (g o : Nat) (v : Array Value) (hv : SzIs v 4) (h1 : Ones v) (hp : Plain W g) (hn : Fits o 4 (blkOf W g)) :
    (store_prc (.pointer (some ⟨g, o, none⟩)) (.agg v)).run Tryz.prog W = .ok () (W.setRow g (splice (blkOf W g) o v)) := run_store_blk W g o 4 _ v info_prc hv h1 hp hn
attribute [go_sem ↓] store_prc_fold
attribute [go_sem] run_storeN_prc run_storeB_prc
def awyArr (a : AwyV) (A : Option Addr) (c : Nat) : Array Value := #[.string ⟨a.name.toArray⟩, .slice A a.pts.length c]
def prtArr (x : PartV) (A : Option Addr) (c : Nat) : Array Value := #[.int .u8 x.kind, .string ⟨x.name.toArray⟩, .slice A x.legs.length c]
def prcArr (p : ProcV) (A : Option Addr) (c : Nat) : Array Value := #[.string ⟨p.airport.toArray⟩, .string ⟨p.name.toArray⟩, .int .u8 p.kind, .slice A p.parts.length c]
structure AwyAt (w : World) (cs : Array Value) (a : AwyV) : Prop where
  ex : ∃ A c, cs = awyArr a A c ∧ a.pts.length ≤ c ∧ Items w A 4 (a.pts.map APt.arr)
structure PrtAt (w : World) (cs : Array Value) (x : PartV) : Prop where
  ex : ∃ A c, cs = prtArr x A c ∧ x.legs.length ≤ c ∧ Items w A 13 (x.legs.map Leg.arr)
structure PrtsAt (w : World) (A : Option Addr) (l : List PartV) : Prop where
  ex : ∃ css : List (Array Value), css.length = l.length ∧ Items w A 3 css ∧ ∀ (i : Nat) (cs : Array Value) (x : PartV), css[i]? = some cs → l[i]? = some x → PrtAt w cs x
structure PrcAt (w : World) (cs : Array Value) (p : ProcV) : Prop where
  ex : ∃ A c, cs = prcArr p A c ∧ p.parts.length ≤ c ∧ PrtsAt w A p.parts
structure AwysAt (w : World) (A : Option Addr) (l : List AwyV) : Prop where
  ex : ∃ css : List (Array Value), css.length = l.length ∧ Items w A 2 css ∧ ∀ (i : Nat) (cs : Array Value) (x : AwyV), css[i]? = some cs → l[i]? = some x → AwyAt w cs x
structure PrcsAt (w : World) (A : Option Addr) (l : List ProcV) : Prop where
  ex : ∃ css : List (Array Value), css.length = l.length ∧ Items w A 4 css ∧ ∀ (i : Nat) (cs : Array Value) (x : ProcV), css[i]? = some cs → l[i]? = some x → PrcAt w cs x
theorem AwyAt.below {w w' : World} {cs : Array Value} {a : AwyV} (h : AwyAt w cs a) (hb : Below w.heap.size w w') : AwyAt w' cs a := by
  obtain ⟨A, c, h1, h2, h3⟩ := h.ex
  exact ⟨⟨A, c, h1, h2, h3.below hb⟩⟩
theorem PrtAt.below {w w' : World} {cs : Array Value} {a : PartV} (h : PrtAt w cs a) (hb : Below w.heap.size w w') : PrtAt w' cs a := by
  obtain ⟨A, c, h1, h2, h3⟩ := h.ex
  exact ⟨⟨A, c, h1, h2, h3.below hb⟩⟩
theorem PrtsAt.below {w w' : World} {A : Option Addr} {l : List PartV} (h : PrtsAt w A l) (hb : Below w.heap.size w w') : PrtsAt w' A l := by
  obtain ⟨css, h1, h2, h3⟩ := h.ex
  exact ⟨⟨css, h1, h2.below hb, fun i cs x a b => (h3 i cs x a b).below hb⟩⟩
theorem PrcAt.below {w w' : World} {cs : Array Value} {a : ProcV} (h : PrcAt w cs a) (hb : Below w.heap.size w w') : PrcAt w' cs a := by
  obtain ⟨A, c, h1, h2, h3⟩ := h.ex
  exact ⟨⟨A, c, h1, h2, h3.below hb⟩⟩
theorem AwysAt.below {w w' : World} {A : Option Addr} {l : List AwyV} (h : AwysAt w A l) (hb : Below w.heap.size w w') : AwysAt w' A l := by
  obtain ⟨css, h1, h2, h3⟩ := h.ex
  exact ⟨⟨css, h1, h2.below hb, fun i cs x a b => (h3 i cs x a b).below hb⟩⟩
theorem PrcsAt.below {w w' : World} {A : Option Addr} {l : List ProcV} (h : PrcsAt w A l) (hb : Below w.heap.size w w') : PrcsAt w' A l := by
  obtain ⟨css, h1, h2, h3⟩ := h.ex
  exact ⟨⟨css, h1, h2.below hb, fun i cs x a b => (h3 i cs x a b).below hb⟩⟩
theorem AwysAt.get {w W : World} {A : Option Addr} {l : List AwyV} (h : AwysAt w A l) (hB : Below w.heap.size w W) {k : Nat} (hk : k < l.length) :
    ∃ b off cs, A = some ⟨b, off, none⟩ ∧ b < w.heap.size ∧ Is_awy W b (off + k * 2) cs ∧ AwyAt W cs l[k] := by
  obtain ⟨css, h1, h2, h3⟩ := h.ex
  have hk' : k < css.length := by omega
  obtain ⟨b, off, hA, hb, hc⟩ := h2.get hk'
  have ha := h3 k _ _ (List.getElem?_eq_getElem hk') (List.getElem?_eq_getElem hk)
  refine ⟨b, off, css[k], hA, hb, ⟨?_, fun j hj => by rw [hB.cell (p := ⟨b, _, none⟩) hb]; exact hc j hj⟩, ha.below hB⟩
  obtain ⟨_, _, e, _⟩ := ha.ex
  rw [e]; rfl
theorem PrtsAt.get {w W : World} {A : Option Addr} {l : List PartV} (h : PrtsAt w A l) (hB : Below w.heap.size w W) {k : Nat} (hk : k < l.length) :
    ∃ b off cs, A = some ⟨b, off, none⟩ ∧ b < w.heap.size ∧ Is_prt W b (off + k * 3) cs ∧ PrtAt W cs l[k] := by
  obtain ⟨css, h1, h2, h3⟩ := h.ex
  have hk' : k < css.length := by omega
  obtain ⟨b, off, hA, hb, hc⟩ := h2.get hk'
  have ha := h3 k _ _ (List.getElem?_eq_getElem hk') (List.getElem?_eq_getElem hk)
  refine ⟨b, off, css[k], hA, hb, ⟨?_, fun j hj => by rw [hB.cell (p := ⟨b, _, none⟩) hb]; exact hc j hj⟩, ha.below hB⟩
  obtain ⟨_, _, e, _⟩ := ha.ex
  rw [e]; rfl
theorem PrcsAt.get {w W : World} {A : Option Addr} {l : List ProcV} (h : PrcsAt w A l) (hB : Below w.heap.size w W) {k : Nat} (hk : k < l.length) :
    ∃ b off cs, A = some ⟨b, off, none⟩ ∧ b < w.heap.size ∧ Is_prc W b (off + k * 4) cs ∧ PrcAt W cs l[k] := by
  obtain ⟨css, h1, h2, h3⟩ := h.ex
  have hk' : k < css.length := by omega
  obtain ⟨b, off, hA, hb, hc⟩ := h2.get hk'
  have ha := h3 k _ _ (List.getElem?_eq_getElem hk') (List.getElem?_eq_getElem hk)
  refine ⟨b, off, css[k], hA, hb, ⟨?_, fun j hj => by rw [hB.cell (p := ⟨b, _, none⟩) hb]; exact hc j hj⟩, ha.below hB⟩
  obtain ⟨_, _, e, _⟩ := ha.ex
  rw [e]; rfl
theorem PrtAt.no (w : World) : PrtAt w #[.int .u8 0, .string ⟨#[]⟩, .slice none 0 0] noPart := ⟨⟨none, 0, rfl, Nat.le_refl _, Items.nil _ _ _⟩⟩
theorem aptItem {w W : World} {b off : Nat} {l : List APt} (h : Items w (some ⟨b, off, none⟩) 4 (l.map APt.arr)) (hB : Below w.heap.size w W) {k : Nat} (hk : k < l.length) : Is_apt W b (off + k * 4) l[k] := fun j hj => by
  rw [h.cells hB (k := k) (by simpa using hk) j hj, List.getElem_map]
structure AwyV.small (a : AwyV) : Prop where
  name : a.name.length ≤ 4000000000
  len : a.pts.length ≤ 4000000
  each : ∀ p ∈ a.pts, p.ref.length ≤ 4000000000
structure PartV.small (x : PartV) : Prop where
  name : x.name.length ≤ 4000000000
  len : x.legs.length ≤ 4000000
  each : ∀ l ∈ x.legs, l.small
structure ProcV.small (p : ProcV) : Prop where
  airport : p.airport.length ≤ 4000000000
  name : p.name.length ≤ 4000000000
  len : p.parts.length ≤ 4000000
  each : ∀ x ∈ p.parts, x.small
end Go.Proofs.YtgoeedohgomodaaGreatDoor
