/- Edits: cells, '==', ways out of and into memory. What an edit makes of a plan is short where the plan and the edit are. No program in sight. Histories in plain Lean: what each act does, and the laws of a script. No program in sight. Histories in plain Lean: undos lead back through the temporary plans one by one, redos forth; the histories in between. No program in sight. The editor in memory: its cells, the slices of a plan's entries, put; walks. -/
import Derived.Test.YtlggdgpdfepppaaGreatDoorQk14
import Derived.Test.YtlggdgpdfepppaaGreatDoorQk09
import Derived.Laws.StructEq
import Derived.Test.YtlggdgpdfepppaaGreatDoorQk17
import Derived.Test.YtlggdgpdfepppaaGreatDoorQk13
import Derived.Test.YtlggdgpdfepppaaGreatDoorQk10
import Derived.Test.YtlggdgpdfepppaaGreatDoorQk03
import Derived.Laws.OwnMore
import Derived.Lib.AppendStr
import Derived.Maps.AppendAt
import Derived.Laws.AppendOwnNone
namespace Go.Proofs.YtlggdgpdfepppaaGreatDoor
open Go.RowKit
set_option linter.unusedVariables false
set_option linter.unusedSimpArgs false
def EditV.arr (x : EditV) : Array Value := #[.int .u8 x.op, .int .i64 x.at_, .string ⟨x.ref.toArray⟩, .string ⟨x.name.toArray⟩, .string ⟨x.rway.toArray⟩, .string ⟨x.trans.toArray⟩, .int .i64 x.lo, .int .i64 x.hi, .int .i64 x.speed, .int .i64 x.course, .int .i64 x.dist, .int .u8 x.turn]
theorem EditV.arr_size (x : EditV) : x.arr.size = 12 := rfl
theorem EditV.arr_sz (x : EditV) : x.arr.size = 12 := by simp [EditV.arr]
theorem EditV.arr0 (x : EditV) : x.arr[0]? = some (.int .u8 x.op) := rfl
theorem EditV.arr1 (x : EditV) : x.arr[1]? = some (.int .i64 x.at_) := rfl
theorem EditV.arr2 (x : EditV) : x.arr[2]? = some (.string ⟨x.ref.toArray⟩) := rfl
theorem EditV.arr3 (x : EditV) : x.arr[3]? = some (.string ⟨x.name.toArray⟩) := rfl
theorem EditV.arr4 (x : EditV) : x.arr[4]? = some (.string ⟨x.rway.toArray⟩) := rfl
theorem EditV.arr5 (x : EditV) : x.arr[5]? = some (.string ⟨x.trans.toArray⟩) := rfl
theorem EditV.arr6 (x : EditV) : x.arr[6]? = some (.int .i64 x.lo) := rfl
theorem EditV.arr7 (x : EditV) : x.arr[7]? = some (.int .i64 x.hi) := rfl
theorem EditV.arr8 (x : EditV) : x.arr[8]? = some (.int .i64 x.speed) := rfl
theorem EditV.arr9 (x : EditV) : x.arr[9]? = some (.int .i64 x.course) := rfl
theorem EditV.arr10 (x : EditV) : x.arr[10]? = some (.int .i64 x.dist) := rfl
theorem EditV.arr11 (x : EditV) : x.arr[11]? = some (.int .u8 x.turn) := rfl
attribute [go_sem] EditV.arr0 EditV.arr1 EditV.arr2 EditV.arr3 EditV.arr4 EditV.arr5 EditV.arr6 EditV.arr7 EditV.arr8 EditV.arr9 EditV.arr10 EditV.arr11
def EditV.eqB (a b : EditV) : Bool := decide (a.op = b.op) && (decide (a.at_ = b.at_) && (decide (a.ref = b.ref) && (decide (a.name = b.name) && (decide (a.rway = b.rway) && (decide (a.trans = b.trans) && (decide (a.lo = b.lo) && (decide (a.hi = b.hi) && (decide (a.speed = b.speed) && (decide (a.course = b.course) && (decide (a.dist = b.dist) && (decide (a.turn = b.turn))))))))))))
theorem EditV.eqB_iff (a b : EditV) : a.eqB b = true ↔ a = b := by
  obtain ⟨_, _, _, _, _, _, _, _, _, _, _, _⟩ := a
  obtain ⟨_, _, _, _, _, _, _, _, _, _, _, _⟩ := b
  simp [EditV.eqB]
theorem info_edt : (Tryz.prog.info? 58).map (·.size) = some 12 := by kernel_rfl
def Is_edt (w : World) (b o : Nat) (x : EditV) : Prop := ∀ j, j < 12 → w.cell? ⟨b, o + j, none⟩ = x.arr[j]?
def Has_edt (w : World) (b o : Nat) : Prop := ∃ x, Is_edt w b o x
theorem EditV.arr_inj {x y : EditV} (h : ∀ j, j < 12 → x.arr[j]? = y.arr[j]?) : x = y := by
  refine (EditV.eqB_iff x y).1 ?_
  have hh : ∀ j, j < 12 → x.arr[j]? = y.arr[j]? := h
  have e0 := h 0 (by omega)
  have e1 := h 1 (by omega)
  have e2 := h 2 (by omega)
  have e3 := h 3 (by omega)
  have e4 := h 4 (by omega)
  have e5 := h 5 (by omega)
  have e6 := h 6 (by omega)
  have e7 := h 7 (by omega)
  have e8 := h 8 (by omega)
  have e9 := h 9 (by omega)
  have e10 := h 10 (by omega)
  have e11 := h 11 (by omega)
  simp [EditV.arr0, EditV.arr1, EditV.arr2, EditV.arr3, EditV.arr4, EditV.arr5, EditV.arr6, EditV.arr7, EditV.arr8, EditV.arr9, EditV.arr10, EditV.arr11] at e0 e1 e2 e3 e4 e5 e6 e7 e8 e9 e10 e11
  simp [EditV.eqB, *]
open Classical in
noncomputable def of_edt (w : World) (b o : Nat) : EditV := if h : Has_edt w b o then h.choose else ⟨0, 0, [], [], [], [], 0, 0, 0, 0, 0, 0⟩
theorem of_edt_spec {w : World} {b o : Nat} (h : Has_edt w b o) : Is_edt w b o (of_edt w b o) := by
  unfold of_edt
  rw [dif_pos h]
  exact h.choose_spec
theorem of_edt_eq {w : World} {b o : Nat} {x : EditV} (h : Is_edt w b o x) : of_edt w b o = x :=
  EditV.arr_inj fun j hj => (of_edt_spec ⟨x, h⟩ j hj).symm.trans (h j hj)
theorem of_edt_drewN (w : World) (b o n : Nat) : of_edt (w.drewN n) b o = of_edt w b o := rfl
def load_edt (v : Value) : Sem Value := Instr.loadAt 58 v
theorem load_edt_fold (v : Value) : Instr.loadAt 58 v = load_edt v := rfl
theorem run_load_edt (w : World) (b o : Nat) (h : Has_edt w b o) : (load_edt (.pointer (some ⟨b, o, none⟩))).run Tryz.prog w = .ok (.agg (of_edt w b o).arr) w := by
  have hs := of_edt_spec h
  generalize of_edt w b o = x at hs
  have := run_load_agg (P := Tryz.prog) w ⟨b, o, none⟩ 58 x.arr.toList _ (fun j v hv => by
    rw [addr_add, hs j (by have := (List.getElem?_eq_some_iff.1 hv).1; simpa [EditV.arr_size] using this)]
    simpa using hv) Tryz.underlying58 rfl info_edt
  simp only [load_edt, Instr.loadAt, Instr.sureAddr, Sem.run_bind, Sem.run_pure, Result.andThen_ok]
  simpa using this
def store_edt (p v : Value) : Sem Unit := Instr.storeAt 58 p v
theorem store_edt_fold (p v : Value) : Instr.storeAt 58 p v = store_edt p v := rfl
theorem run_store_edt (w : World) (c c' : Array Value) (hc : c.size = 12) (hc' : c'.size = 12) (h1 : c'.all (·.oneCell') = true) :
    (store_edt (.pointer (some ⟨w.heap.size, 0, none⟩)) (.agg c')).run Tryz.prog (w.alloc (.cells c 58)) = .ok () (w.alloc (.cells c' 58)) :=
  run_storeAt_new (P := Tryz.prog) w 58 c c' (by rw [hc']; exact info_edt) (by rw [hc, hc']) h1
attribute [go_sem ↓] load_edt_fold store_edt_fold
attribute [go_sem] run_load_edt run_store_edt of_edt_drewN 
theorem EditV.arr_oneL (x : EditV) : x.arr.toList.all (·.oneCell') = true := by simp [EditV.arr, Value.oneCell']
theorem SzIs_edt (x : EditV) (n : Nat) : SzIs x.arr n = (12 = n) := propext ⟨fun h => h, fun h => h⟩
theorem Ones_edt (x : EditV) : Ones x.arr = True := eq_true (EditV.arr_oneL x)
theorem splice_edt (a b : EditV) : splice a.arr 0 b.arr = b.arr := rfl
theorem run_storeN_edt (w : World) (c c' : Array Value) (hc : SzIs c 12) (hc' : SzIs c' 12) (h1 : Ones c') :
    (store_edt (.pointer (some ⟨w.heap.size, 0, none⟩)) (.agg c')).run Tryz.prog (w.alloc (.cells c 58)) = .ok () (w.alloc (.cells c' 58)) :=
  run_store_edt w c c' hc hc' (Array.all_eq_true_iff_forall_mem.2 fun v hv => (List.all_eq_true.1 (show c'.toList.all (·.oneCell') = true from h1)) v (by simpa using hv))
theorem Blk.is_edt {W : World} {g : Nat} {x : EditV} (h : Blk W g x.arr) : Is_edt W g 0 x := fun j _ => by rw [Nat.zero_add]; exact h.cell j
attribute [go_sem] SzIs_edt Ones_edt splice_edt run_storeN_edt
theorem Blk.edt_win {W : World} {g : Nat} {x : EditV} (h : Blk W g x.arr) : Is_win W g 6 ⟨x.lo, x.hi⟩ := fun j hj => by
  rw [h.cell]
  match j, hj with
  | 0, _ | 1, _ => rfl
def EditV.small (e : EditV) : Prop := e.ref.length ≤ 4000000000 ∧ e.name.length ≤ 4000000000 ∧ e.rway.length ≤ 4000000000 ∧ e.trans.length ≤ 4000000000
end Go.Proofs.YtlggdgpdfepppaaGreatDoor
namespace Go.Proofs.YtlggdgpdfepppaaGreatDoor
open Go.RowKit
set_option linter.unusedVariables false
set_option linter.unusedSimpArgs false
def SmL (n : Nat) (l : List Entry) : Prop := l.length ≤ n ∧ ∀ x ∈ l, x.small
theorem SmL.nil (n : Nat) : SmL n [] := ⟨Nat.zero_le _, fun x h => by cases h⟩
theorem SmL.append {n m : Nat} {a b : List Entry} (h : SmL n a) (k : SmL m b) : SmL (n + m) (a ++ b) :=
  ⟨by rw [List.length_append]; have := h.1; have := k.1; omega, fun x hx => (List.mem_append.1 hx).elim (h.2 x) (k.2 x)⟩
theorem SmL.mono {n m : Nat} {a : List Entry} (h : SmL n a) (k : n ≤ m) : SmL m a := ⟨Nat.le_trans h.1 k, h.2⟩
theorem SmL.take {n : Nat} {a : List Entry} (h : SmL n a) (k : Nat) : SmL n (a.take k) := ⟨by rw [List.length_take]; have := h.1; omega, fun x hx => h.2 x (List.mem_of_mem_take hx)⟩
theorem SmL.drop {n : Nat} {a : List Entry} (h : SmL n a) (k : Nat) : SmL n (a.drop k) := ⟨by rw [List.length_drop]; have := h.1; omega, fun x hx => h.2 x (List.mem_of_mem_drop hx)⟩
theorem SmL.one {x : Entry} (h : x.small) : SmL 1 [x] := ⟨Nat.le_refl _, fun y hy => by
  obtain rfl : y = x := by simpa using hy
  exact h⟩
theorem gapE_small : gapE.small := ⟨⟨by simp [gapE], by simp [gapE]⟩, by simp [gapE]⟩
theorem directE_small {x : Entry} (h : x.small) : (directE x).small := ⟨⟨h.leg.fix, by simp [directE]⟩, h.via⟩
theorem entAt_small {p : Plan} (h : ∀ x ∈ p.es, x.small) (k : Nat) : (entAt p k).small := by
  unfold entAt
  rw [List.getD_eq_getElem?_getD]
  cases hq : p.es[k]? with
  | none => exact gapE_small
  | some x => exact h x (List.mem_of_getElem? hq)
theorem toLeg_small {t : Int} {f : List UInt8} (h : f.length ≤ 4000000000) : (toLeg t f).small := ⟨h, by simp [toLeg]⟩
theorem startForm_small {x : Entry} (h : x.small) : (startForm x).small := ⟨⟨h.leg.fix, by simp [startForm]⟩, h.via⟩
theorem zeroE_small : zeroE.small := ⟨⟨by simp [zeroE], by simp [zeroE]⟩, by simp [zeroE]⟩
theorem startOf_small {x : Entry} (h : x.small) : (startOf x).1.small := by
  unfold startOf
  split
  · exact h
  · split
    · exact startForm_small h
    · exact zeroE_small
theorem joinNew_small {out : List Entry} {pb : Bool} {x : Entry} (ho : ∀ y ∈ out, y.small) (h : x.small) : ∀ y ∈ (joinNew out pb x).1, y.small := by
  unfold joinNew
  intro y hy
  split at hy
  · rcases List.mem_append.1 hy with hy | hy
    · split at hy
      · exact ho y hy
      · rcases List.mem_append.1 hy with hy | hy
        · exact ho y hy
        · obtain rfl : y = gapE := by simpa using hy
          exact gapE_small
    · obtain rfl : y = (startOf x).1 := by simpa using hy
      exact startOf_small h
  · exact ho y hy
theorem joinStep_small {out : List Entry} {pb : Bool} {x : Entry} (ho : ∀ y ∈ out, y.small) (h : x.small) : ∀ y ∈ (joinStep out pb x).1, y.small := by
  unfold joinStep
  split
  · exact ho
  · split
    · exact joinNew_small ho h
    · split
      · exact joinNew_small ho h
      · split
        · exact ho
        · split
          · intro y hy
            rcases List.mem_append.1 hy with hy | hy
            · exact ho y hy
            · obtain rfl : y = x := by simpa using hy
              exact h
          · exact joinNew_small ho h
theorem joinGo_small : ∀ (r out : List Entry) (pb : Bool), (∀ y ∈ out, y.small) → (∀ y ∈ r, y.small) → ∀ y ∈ joinGo out pb r, y.small
  | [], _, _, ho, _ => ho
  | x :: r, out, pb, ho, h => joinGo_small r _ _ (joinStep_small ho (h x (by simp))) fun y hy => h y (List.mem_cons_of_mem _ hy)
theorem joinE_small {l : List Entry} {n : Nat} (h : SmL n l) : SmL (2 * n) (joinE l) := ⟨Nat.le_trans (joinE_len l) (by have := h.1; omega), joinGo_small l [] false (fun y hy => by cases hy) h.2⟩
structure Look.ok (L : Look) : Prop where
  place : ∀ s, (L.place s).1.length ≤ 4000000000
  way : ∀ n a b, (L.way n a b).1.length ≤ 100000 ∧ ∀ q ∈ (L.way n a b).1, q.1.length ≤ 4000000000
  proc : ∀ a k n t, ((L.proc a k n t).1.1.length ≤ 100000 ∧ ∀ l ∈ (L.proc a k n t).1.1, l.small) ∧ ((L.proc a k n t).1.2.length ≤ 100000 ∧ ∀ l ∈ (L.proc a k n t).1.2, l.small)
theorem bindS_small {pt : List UInt8 → (Int × Int) × Int} {legs : List Leg} {s : Int} {via : List UInt8} {n : Nat} (hl : legs.length ≤ n) (h : ∀ l ∈ legs, l.small) (hv : via.length ≤ 4000000000) : SmL n (bindS pt legs s via).1 := by
  unfold bindS
  split
  · exact .nil _
  · split
    · exact .nil _
    · split
      · refine ⟨by simpa using hl, fun x hx => ?_⟩
        obtain ⟨l, hm, rfl⟩ := List.mem_map.1 hx
        exact ⟨h l hm, hv⟩
      · exact .nil _
theorem oneS_small {L : Look} {t s : Int} {ref via : List UInt8} (h : ref.length ≤ 4000000000) (hv : via.length ≤ 4000000000) : SmL 1 (oneS L t ref s via).1 :=
  bindS_small (by simp) (fun l hl => by obtain rfl : l = toLeg t ref := by simpa using hl
                                        exact toLeg_small h) hv
theorem setLeg_small {e : EditV} {x : Entry} (h : x.small) : (setLeg e x).small := by
  unfold setLeg
  split
  · exact ⟨⟨h.leg.fix, h.leg.center⟩, h.via⟩
  · split
    · exact ⟨⟨h.leg.fix, h.leg.center⟩, h.via⟩
    · exact ⟨⟨h.leg.fix, h.leg.center⟩, h.via⟩
theorem keepSec_small {s : Int} : ∀ {l : List Entry} {n : Nat}, SmL n l → SmL n (keepSec s l)
  | [], _, _ => .nil _
  | x :: r, 0, h => by have := h.1; simp at this
  | x :: r, n + 1, h => by
    unfold keepSec
    split
    · exact .nil _
    · have ih := keepSec_small (s := s) (l := r) (n := n) ⟨by have := h.1; simpa using this, fun y hy => h.2 y (List.mem_cons_of_mem _ hy)⟩
      have := (SmL.one (h.2 x (by simp))).append ih
      exact this.mono (by omega)
theorem restDep_small {n : Nat} : ∀ {l rest : List Entry}, SmL n rest → SmL n l → SmL n (restDep rest l)
  | [], _, h, _ => h
  | x :: r, rest, h, k => by
    unfold restDep
    have k' : SmL n r := ⟨by have := k.1; simp at this; omega, fun y hy => k.2 y (List.mem_cons_of_mem _ hy)⟩
    split
    · exact restDep_small k' k'
    · exact restDep_small h k'
theorem restFirst_small {n : Nat} {l : List Entry} (h : SmL n l) : SmL n (restFirst l) := by
  cases l with
  | nil => exact h
  | cons x r =>
    show SmL n (if !x.gap && x.leg.ty == 1 then r else x :: r)
    split
    · exact ⟨by have := h.1; simp at this; omega, fun y hy => h.2 y (List.mem_cons_of_mem _ hy)⟩
    · exact h
theorem reopenE_small {n : Nat} {l : List Entry} (h : SmL n l) : SmL n (reopenE l) := by
  cases l with
  | nil => exact h
  | cons x r =>
    show SmL n (if x.leg.ty == 1 then directE x :: r else x :: r)
    split
    · refine ⟨by have := h.1; simpa using this, fun y hy => ?_⟩
      rcases List.mem_cons.1 hy with rfl | hy
      · exact directE_small (h.2 x (by simp))
      · exact h.2 y (List.mem_cons_of_mem _ hy)
    · exact h
theorem SmL.dropLast {n : Nat} {l : List Entry} (h : SmL n l) : SmL n l.dropLast := ⟨by rw [List.length_dropLast]; have := h.1; omega, fun x hx => h.2 x ((List.dropLast_sublist l).subset hx)⟩
theorem withB_len {a b : List UInt8} {c : UInt8} (ha : a.length ≤ 1000000000) (hb : b.length ≤ 1000000000) : (withB a c b).length ≤ 4000000000 := by
  unfold withB; split
  · omega
  · simp; omega
structure ShortE (p : Plan) (e : EditV) : Prop where
  len : p.es.length ≤ 60
  each : ∀ x ∈ p.es, x.small
  ref : e.ref.length ≤ 1000000000
  name : e.name.length ≤ 1000000000
  rway : e.rway.length ≤ 1000000000
  trans : e.trans.length ≤ 1000000000
  from_ : p.from_.length ≤ 1000000000
  to_ : p.to_.length ≤ 1000000000
def EdR.sm (r : EdR) : Prop := SmL 300300 r.list ∧ r.from_.length ≤ 4000000000 ∧ r.to_.length ≤ 4000000000
theorem EdR.sm_bad (n : Int) : (EdR.bad n).sm := ⟨.nil _, by simp [EdR.bad], by simp [EdR.bad]⟩
theorem keepR_sm {p : Plan} {e : EditV} {l : List Entry} (hs : ShortE p e) (h : SmL 300300 l) : (keepR p l).sm := ⟨h, by have := hs.from_; show p.from_.length ≤ _; omega, by have := hs.to_; show p.to_.length ≤ _; omega⟩
theorem rwayS_len {a b : List UInt8} (ha : a.length ≤ 1000000000) (hb : b.length ≤ 1000000000) : (rwayS a b).length ≤ 4000000000 := by
  unfold rwayS; split
  · omega
  · have := (cutAt_len 47 a).1
    simp; omega
set_option maxHeartbeats 4000000 in
theorem runS_sm {L : Look} {p : Plan} {e : EditV} (hs : ShortE p e) (hL : L.ok) : (runS L p e).sm := by
  have hp : SmL 60 p.es := ⟨hs.len, hs.each⟩
  have hn : e.name.length ≤ 4000000000 := by have := hs.name; omega
  have hr : e.ref.length ≤ 4000000000 := by have := hs.ref; omega
  have hf : p.from_.length ≤ 4000000000 := by have := hs.from_; omega
  have ht : p.to_.length ≤ 4000000000 := by have := hs.to_; omega
  unfold runS
  split
  · exact EdR.sm_bad _
  split
  · unfold insertS
    split
    · exact EdR.sm_bad _
    · split
      · exact keepR_sm hs ((((hp.take _).append (.one (directE_small (entAt_small hs.each _)))).append (hp.drop _)).mono (by omega))
      · split
        · exact EdR.sm_bad _
        · exact keepR_sm hs ((((hp.take _).append ((oneS_small hr (by simp)).append (.one gapE_small))).append (hp.drop _)).mono (by omega))
  split
  · unfold deleteS
    split
    · exact EdR.sm_bad _
    · split
      · exact keepR_sm hs (((hp.take _).append (reopenE_small (hp.drop _))).mono (by omega))
      · exact keepR_sm hs ((((hp.take _).append (.one gapE_small)).append (hp.drop _)).mono (by omega))
  split
  · unfold directS
    split
    · exact EdR.sm_bad _
    · split
      · exact EdR.sm_bad _
      · refine ⟨?_, hf, ht⟩
        show SmL _ (if _ then _ else _)
        have hx := entAt_small hs.each e.at_.toNat
        split
        · exact ((SmL.one (x := ⟨false, toLeg 4 (entAt p e.at_.toNat).leg.fix, (entAt p e.at_.toNat).ex, (entAt p e.at_.toNat).ey, 0, 0, (entAt p e.at_.toNat).sec, (entAt p e.at_.toNat).via⟩) ⟨toLeg_small hx.leg.fix, hx.via⟩).append (hp.drop _)).mono (by omega)
        · exact ((SmL.one (directE_small hx)).append (hp.drop _)).mono (by omega)
  split
  · unfold setS
    split
    · exact EdR.sm_bad _
    · split
      · exact EdR.sm_bad _
      · refine keepR_sm hs ⟨by rw [List.length_set]; have := hs.len; omega, fun x hx => ?_⟩
        rcases List.mem_or_eq_of_mem_set hx with hx | rfl
        · exact hs.each x hx
        · exact setLeg_small (entAt_small hs.each _)
  split
  · unfold holdS
    split
    · exact EdR.sm_bad _
    · split
      · exact EdR.sm_bad _
      · split
        · exact EdR.sm_bad _
        · have hx := entAt_small hs.each e.at_.toNat
          exact keepR_sm hs ((((hp.take _).append (.one (x := holdE e (entAt p e.at_.toNat)) ⟨⟨hx.leg.fix, by simp [holdE]⟩, by simp [holdE]⟩)).append (hp.drop _)).mono (by omega))
  split
  · unfold joinS
    split
    · exact EdR.sm_bad _
    · split
      · exact EdR.sm_bad _
      · split
        · exact EdR.sm_bad _
        · obtain ⟨w1, w2⟩ := hL.way e.name (entAt p e.at_.toNat).leg.fix e.ref
          have hb := bindS_small (pt := L.pt) (legs := (L.way e.name (entAt p e.at_.toNat).leg.fix e.ref).1.map fun q => { toLeg 2 q.1 with lo := q.2.1, hi := q.2.2 }) (s := (entAt p e.at_.toNat).sec) (via := e.name) (n := 100000) (by simpa using w1) (fun l hl => by
            obtain ⟨q, hq, rfl⟩ := List.mem_map.1 hl
            exact ⟨w2 q hq, by simp [toLeg]⟩) hn
          dsimp only
          split
          · exact EdR.sm_bad _
          · split
            · exact keepR_sm hs ((((hp.take _).append hb).append (hp.drop _)).mono (by omega))
            · exact keepR_sm hs (((((hp.take _).append hb).append (.one gapE_small)).append (hp.drop _)).mono (by omega))
  split
  · unfold departS
    split
    · exact EdR.sm_bad _
    · split
      · exact EdR.sm_bad _
      · dsimp only
        have hfr := rwayS_len hs.from_ hs.rway
        have hw := withB_len (c := 46) hs.name hs.trans
        obtain ⟨⟨p1, p2⟩, _⟩ := hL.proc (rwayS p.from_ e.rway) 1 e.name e.trans
        have h1 := oneS_small (L := L) (t := 1) (s := 1) (hL.place (rwayS p.from_ e.rway)) hw
        have h2 := bindS_small (pt := L.pt) (s := 1) p1 p2 hw
        have hall := h1.append h2
        have hrest := restDep_small (restFirst_small hp) hp
        split
        · exact EdR.sm_bad _
        split
        · exact EdR.sm_bad _
        split
        · exact EdR.sm_bad _
        split
        · exact EdR.sm_bad _
        split
        · exact ⟨((hall.append (hrest.drop _))).mono (by omega), hfr, ht⟩
        · exact ⟨(((hall.append (.one gapE_small)).append hrest)).mono (by omega), hfr, ht⟩
  have harr : ∀ kind s, (arriveS L p e kind s).sm := by
    intro kind s
    unfold arriveS
    split
    · exact EdR.sm_bad _
    split
    · exact EdR.sm_bad _
    dsimp only
    generalize hto : (if kind = 2 then rwayS p.to_ e.rway else p.to_) = to_
    have hto2 : to_.length ≤ 4000000000 := by
      rw [← hto]; split
      · exact rwayS_len hs.to_ hs.rway
      · exact ht
    have hw := withB_len (c := 46) hs.name hs.trans
    obtain ⟨⟨p1, p2⟩, p3, p4⟩ := hL.proc to_ kind e.name e.trans
    have hy := bindS_small (pt := L.pt) (s := s) p1 p2 hw
    have h1 := oneS_small (L := L) (t := 2) (s := s) (via := []) (hL.place to_) (by simp)
    have hm : SmL 100000 (if kind = 3 then bindS L.pt (L.proc to_ kind e.name e.trans).1.2 5 (withB e.name 46 e.trans) else ([], 0)).1 := by
      split
      · exact bindS_small p3 p4 hw
      · exact .nil _
    have hk0 := keepSec_small (s := s) hp
    split
    · exact EdR.sm_bad _
    split
    · exact EdR.sm_bad _
    split
    · exact EdR.sm_bad _
    split
    · exact EdR.sm_bad _
    generalize (if kind = 3 then bindS L.pt (L.proc to_ kind e.name e.trans).1.2 5 (withB e.name 46 e.trans) else ([], 0)) = mm at hm
    split
    · exact EdR.sm_bad _
    refine ⟨?_, hf, hto2⟩
    refine SmL.mono (n := 61 + 100000 + 1 + 100000) ?_ (by omega)
    refine SmL.append (SmL.append (SmL.append ?_ hy) h1) hm
    have hkeep : ∀ b : Bool, SmL 60 (if b then (keepSec s p.es).dropLast else keepSec s p.es) := fun b => by
      cases b
      · exact hk0
      · exact hk0.dropLast
    have hk : ∀ keep, SmL 60 keep → ∀ j : Int, SmL 61 (if 0 ≤ j then keep.take (j.toNat + 1) else keep ++ [gapE]) := fun keep hk j => by
      split
      · exact SmL.mono (n := 60) (hk.take _) (by omega)
      · exact hk.append (.one gapE_small)
    exact hk _ (hkeep _) _
  split
  · exact harr _ _
  split
  · exact harr _ _
  · unfold divertS
    split
    · exact EdR.sm_bad _
    · split
      · exact EdR.sm_bad _
      · split
        · exact EdR.sm_bad _
        · dsimp only
          split
          · exact EdR.sm_bad _
          · exact ⟨((hp.take _).append (oneS_small (hL.place _) (by simp))).mono (by omega), hf, hn⟩
end Go.Proofs.YtlggdgpdfepppaaGreatDoor
namespace Go.Proofs.YtlggdgpdfepppaaGreatDoor
open Go.RowKit
set_option linter.unusedVariables false
set_option linter.unusedSimpArgs false
structure Hist where
  act : Plan
  temp : Option Plan
  undo : List (Option Plan)
  redo : List (Option Plan)
def histNew (p : Plan) : Hist := ⟨p, none, [], []⟩
def Hist.base (h : Hist) : Plan := h.temp.getD h.act
def pushU (l : List (Option Plan)) (s : Option Plan) : List (Option Plan) := if 16 < l.length + 1 then (l ++ [s]).drop 1 else l ++ [s]
def Hist.change (h : Hist) (q : Plan) : Hist := ⟨h.act, some q, pushU h.undo h.temp, []⟩
def Hist.doE (L : Look) (h : Hist) (e : EditV) : Hist × Int := if (applyS L h.base e).2 ≠ 0 then (h, (applyS L h.base e).2) else (h.change (applyS L h.base e).1, 0)
def Hist.replace (h : Hist) (p : Plan) : Hist × Int := if planCheck p ≠ 0 then (h, planCheck p) else (h.change p, 0)
def Hist.undoH (h : Hist) : Hist × Int := match h.undo.getLast? with | none => (h, 6) | some s => (⟨h.act, s, h.undo.dropLast, h.redo ++ [h.temp]⟩, 0)
def Hist.redoH (h : Hist) : Hist × Int := match h.redo.getLast? with | none => (h, 6) | some s => (⟨h.act, s, h.undo ++ [h.temp], h.redo.dropLast⟩, 0)
def Hist.exec (h : Hist) : Hist × Int := match h.temp with | none => (h, 8) | some q => (⟨q, none, [], []⟩, 0)
def Hist.erase (h : Hist) : Hist × Int := match h.temp with | none => (h, 8) | some _ => (⟨h.act, none, [], []⟩, 0)
def followH (a : List Entry) (k : Nat) (s : Option Plan) : Option Plan :=
  match s with
  | none => none
  | some p => if decide (k < p.es.length) && eqGo (p.es.take (k + 1)) (a.take (k + 1)) then some { p with active := (k : Int) } else some p
def Hist.advance (h : Hist) (to_ : Int) : Hist × Int :=
  if to_ < 0 ∨ (h.act.es.length : Int) ≤ to_ ∨ to_ ≤ h.act.active ∨ (entAt h.act to_.toNat).gap = true then (h, 2) else
  (⟨{ h.act with active := to_ }, followH h.act.es to_.toNat h.temp, h.undo.map (followH h.act.es to_.toNat), h.redo.map (followH h.act.es to_.toNat)⟩, 0)
structure ActV where
  kind : Int
  e : EditV
  to_ : Int
  plan : Plan
def Hist.step (L : Look) (h : Hist) (a : ActV) : Hist × Int :=
  if a.kind % 9 = 3 then h.undoH else if a.kind % 9 = 4 then h.redoH else if a.kind % 9 = 5 then h.exec else if a.kind % 9 = 6 then h.erase else
  if a.kind % 9 = 7 then h.advance a.to_ else if a.kind % 9 = 8 then h.replace a.plan else h.doE L a.e
structure Hist.ok (h : Hist) : Prop where
  act : planCheck h.act = 0
  temp : ∀ q, h.temp = some q → planCheck q = 0
  undo : ∀ s ∈ h.undo, ∀ q, s = some q → planCheck q = 0
  redo : ∀ s ∈ h.redo, ∀ q, s = some q → planCheck q = 0
theorem histNew_ok {p : Plan} (h : planCheck p = 0) : (histNew p).ok := ⟨h, fun q hq => (by cases hq), fun s hs => (by cases hs), fun s hs => (by cases hs)⟩
theorem applyS_valid {L : Look} {p : Plan} {e : EditV} (h : (applyS L p e).2 = 0) : planCheck (applyS L p e).1 = 0 := by
  unfold applyS at h ⊢
  split at h
  · rename_i h1; exact absurd h h1
  rename_i h1
  rw [if_neg h1]
  split at h
  · rename_i h1; exact absurd h h1
  rename_i h1
  rw [if_neg h1]
  split at h
  · rename_i h1; exact absurd h h1
  rename_i h1
  rw [if_neg h1]
  split at h
  · rename_i h1; exact absurd h h1
  rename_i h1
  rw [if_neg h1]
  simpa using h1
theorem pushU_mem {l : List (Option Plan)} {s x : Option Plan} (h : x ∈ pushU l s) : x ∈ l ∨ x = s := by
  unfold pushU at h
  have h : x ∈ l ++ [s] := by
    split at h
    · exact List.mem_of_mem_drop h
    · exact h
  rcases List.mem_append.1 h with h | h
  · exact .inl h
  · exact .inr (by simpa using h)
theorem Hist.ok.change {h : Hist} (hk : h.ok) {q : Plan} (hq : planCheck q = 0) : (h.change q).ok where
  act := hk.act
  temp := fun x hx => by
    obtain rfl : q = x := by simpa [Hist.change] using hx
    exact hq
  undo := fun s hs x hx => by
    rcases pushU_mem hs with hs | hs
    · exact hk.undo s hs x hx
    · exact hk.temp x (by rw [← hs]; exact hx)
  redo := fun s hs => by cases hs
theorem activeE_of {p : Plan} (h : planCheck p = 0) {k : Nat} (hk : k < p.es.length) (hg : (entAt p k).gap = false) : planCheck { p with active := (k : Int) } = 0 := by
  unfold planCheck at h ⊢
  dsimp only
  split at h
  · simp at h
  rename_i h1
  rw [if_neg h1]
  split at h
  · simp at h
  rename_i h2
  rw [if_neg h2]
  obtain ⟨h3, _⟩ := orE_zeroJ h
  rw [h3]
  unfold activeE
  dsimp only
  rw [if_neg (by omega), if_neg (by omega), Int.toNat_natCast, entAt_get hk]
  simp [hg, orE]
theorem followH_ok {a : Plan} {k : Nat} (hk : k < a.es.length) (hg : (entAt a k).gap = false) {s : Option Plan} (hs : ∀ q, s = some q → planCheck q = 0) : ∀ q, followH a.es k s = some q → planCheck q = 0 := by
  intro q hq
  unfold followH at hq
  split at hq
  · cases hq
  · rename_i p
    split at hq
    · rename_i hc
      simp only [Bool.and_eq_true, decide_eq_true_eq] at hc
      obtain rfl : { p with active := (k : Int) } = q := by simpa using hq
      refine activeE_of (hs p rfl) hc.1 ?_
      have he := (eqGo_iff _ _).1 hc.2
      have h1 := congrArg (fun l => l[k]?) he
      simp only [List.getElem?_take, if_pos (Nat.lt_succ_self k), entAt_get hc.1, entAt_get hk, Option.some.injEq] at h1
      rw [h1]
      exact hg
    · obtain rfl : p = q := by simpa using hq
      exact hs p rfl
theorem getLast?_mem' {α : Type _} {l : List α} {x : α} (h : l.getLast? = some x) : x ∈ l := List.mem_of_getLast? h
theorem Hist.ok.step {L : Look} {h : Hist} (hk : h.ok) (a : ActV) : (h.step L a).1.ok := by
  unfold Hist.step
  split
  · unfold Hist.undoH
    split
    · exact hk
    · rename_i s hs
      refine ⟨hk.act, fun q hq => hk.undo s (getLast?_mem' hs) q hq, fun x hx => hk.undo x ((List.dropLast_sublist _).subset hx), fun x hx q hq => ?_⟩
      rcases List.mem_append.1 hx with hx | hx
      · exact hk.redo x hx q hq
      · obtain rfl : x = h.temp := by simpa using hx
        exact hk.temp q hq
  split
  · unfold Hist.redoH
    split
    · exact hk
    · rename_i s hs
      refine ⟨hk.act, fun q hq => hk.redo s (getLast?_mem' hs) q hq, fun x hx q hq => ?_, fun x hx => hk.redo x ((List.dropLast_sublist _).subset hx)⟩
      rcases List.mem_append.1 hx with hx | hx
      · exact hk.undo x hx q hq
      · obtain rfl : x = h.temp := by simpa using hx
        exact hk.temp q hq
  split
  · unfold Hist.exec
    split
    · exact hk
    · rename_i q hq
      exact histNew_ok (hk.temp q hq)
  split
  · unfold Hist.erase
    split
    · exact hk
    · exact histNew_ok hk.act
  split
  · unfold Hist.advance
    split
    · exact hk
    · rename_i hc
      have h1 : a.to_.toNat < h.act.es.length := by omega
      have hg : (entAt h.act a.to_.toNat).gap = false := by
        cases hg : (entAt h.act a.to_.toNat).gap with
        | false => rfl
        | true => exact absurd (Or.inr (Or.inr (Or.inr hg))) hc
      have hto : a.to_ = ((a.to_.toNat : Nat) : Int) := by omega
      refine ⟨?_, followH_ok h1 hg hk.temp, fun x hx => ?_, fun x hx => ?_⟩
      · show planCheck { h.act with active := a.to_ } = 0
        rw [hto]
        exact activeE_of hk.act h1 hg
      · obtain ⟨s, hs, rfl⟩ := List.mem_map.1 hx
        exact followH_ok h1 hg (hk.undo s hs)
      · obtain ⟨s, hs, rfl⟩ := List.mem_map.1 hx
        exact followH_ok h1 hg (hk.redo s hs)
  split
  · unfold Hist.replace
    split
    · exact hk
    · rename_i h1
      exact hk.change (by simpa using h1)
  · unfold Hist.doE
    split
    · exact hk
    · rename_i h1
      exact hk.change (applyS_valid (by simpa using h1))
theorem Hist.step_act (L : Look) (h : Hist) (a : ActV) (h5 : a.kind % 9 ≠ 5) (h7 : a.kind % 9 ≠ 7) : (h.step L a).1.act = h.act := by
  unfold Hist.step
  rw [if_neg h5, if_neg h7]
  split
  · unfold Hist.undoH; split <;> rfl
  split
  · unfold Hist.redoH; split <;> rfl
  split
  · unfold Hist.erase; split <;> rfl
  split
  · unfold Hist.replace; split <;> rfl
  · unfold Hist.doE; split <;> rfl
end Go.Proofs.YtlggdgpdfepppaaGreatDoor
namespace Go.Proofs.YtlggdgpdfepppaaGreatDoor
open Go.RowKit
set_option linter.unusedVariables false
set_option linter.unusedSimpArgs false
def statesH (ps : List Plan) : List (Option Plan) := none :: ps.map some
theorem statesH_len (ps : List Plan) : (statesH ps).length = ps.length + 1 := by simp [statesH]
theorem statesH_get (ps : List Plan) {i : Nat} (h : i < ps.length) : (statesH ps)[i + 1]? = some (some ps[i]) := by simp [statesH, h]
def histAt (p : Plan) (ps : List Plan) (i : Nat) : Hist := ⟨p, ((statesH ps)[i]?).getD none, (statesH ps).take i, ((statesH ps).drop (i + 1)).reverse⟩
theorem histAt_new (p : Plan) : histAt p [] 0 = histNew p := by simp [histAt, statesH, histNew]
theorem histAt_temp0 (p : Plan) (ps : List Plan) : (histAt p ps 0).temp = none := by simp [histAt, statesH]
theorem histAt_temp (p : Plan) (ps : List Plan) {i : Nat} (h : i < ps.length) : (histAt p ps (i + 1)).temp = some ps[i] := by
  show ((statesH ps)[i + 1]?).getD none = _
  rw [statesH_get ps h]; rfl
theorem histAt_act (p : Plan) (ps : List Plan) (i : Nat) : (histAt p ps i).act = p := rfl
theorem histAt_change (p q : Plan) (ps : List Plan) (h : ps.length < 16) : (histAt p ps ps.length).change q = histAt p (ps ++ [q]) (ps ++ [q]).length := by
  have hl : (statesH ps).length = ps.length + 1 := statesH_len ps
  have hs : statesH (ps ++ [q]) = statesH ps ++ [some q] := by simp [statesH]
  have hg : (statesH ps)[ps.length]? = some ((statesH ps)[ps.length]'(by omega)) := List.getElem?_eq_getElem (by omega)
  unfold Hist.change histAt pushU
  dsimp only
  rw [if_neg (by rw [List.length_take]; omega)]
  congr 1
  · rw [hs, List.length_append, List.length_singleton, ← hl, List.getElem?_append_right (Nat.le_refl _), Nat.sub_self]; rfl
  · rw [hg, Option.getD_some, ← List.take_succ_eq_append_getElem (by omega), hs, List.length_append, List.length_singleton, ← hl, List.take_left', List.take_of_length_le (by omega)]
    rfl
  · rw [hs, List.drop_eq_nil_of_le (by simp [hl])]; rfl
theorem getLast?_take {α : Type _} (l : List α) {i : Nat} (h : i < l.length) : (l.take (i + 1)).getLast? = some l[i] := by
  rw [List.take_succ_eq_append_getElem h]; exact List.getLast?_concat ..
theorem dropLast_take {α : Type _} (l : List α) {i : Nat} (h : i < l.length) : (l.take (i + 1)).dropLast = l.take i := by
  rw [List.take_succ_eq_append_getElem h]; exact List.dropLast_concat
theorem histAt_undo (p : Plan) (ps : List Plan) {i : Nat} (h : i < ps.length) : (histAt p ps (i + 1)).undoH = (histAt p ps i, 0) := by
  have hl : (statesH ps).length = ps.length + 1 := statesH_len ps
  have h1 : (histAt p ps (i + 1)).undo.getLast? = some ((statesH ps)[i]'(by omega)) := getLast?_take _ (by omega)
  have h2 : (statesH ps).drop (i + 1) = (statesH ps)[i + 1]'(by omega) :: (statesH ps).drop (i + 2) := List.drop_eq_getElem_cons (by omega)
  have h3 : (histAt p ps (i + 1)).temp = (statesH ps)[i + 1]'(by omega) := by
    show ((statesH ps)[i + 1]?).getD none = _
    rw [List.getElem?_eq_getElem (by omega)]; rfl
  unfold Hist.undoH
  rw [h1]
  dsimp only
  rw [h3]
  show (Hist.mk p _ ((statesH ps).take (i + 1)).dropLast (((statesH ps).drop (i + 2)).reverse ++ _), (0 : Int)) = _
  rw [dropLast_take _ (by omega)]
  unfold histAt
  rw [h2, List.reverse_cons, List.getElem?_eq_getElem (by omega)]
  rfl
theorem histAt_undo0 (p : Plan) (ps : List Plan) : (histAt p ps 0).undoH = (histAt p ps 0, 6) := rfl
theorem histAt_redo (p : Plan) (ps : List Plan) {i : Nat} (h : i < ps.length) : (histAt p ps i).redoH = (histAt p ps (i + 1), 0) := by
  have hl : (statesH ps).length = ps.length + 1 := statesH_len ps
  have h2 : (statesH ps).drop (i + 1) = (statesH ps)[i + 1]'(by omega) :: (statesH ps).drop (i + 2) := List.drop_eq_getElem_cons (by omega)
  have h1 : (histAt p ps i).redo = ((statesH ps).drop (i + 2)).reverse ++ [(statesH ps)[i + 1]'(by omega)] := by
    show ((statesH ps).drop (i + 1)).reverse = _
    rw [h2, List.reverse_cons]
  have h3 : (histAt p ps i).temp = (statesH ps)[i]'(by omega) := by
    show ((statesH ps)[i]?).getD none = _
    rw [List.getElem?_eq_getElem (by omega)]; rfl
  have h4 : (histAt p ps i).redo.getLast? = some ((statesH ps)[i + 1]'(by omega)) := by rw [h1]; simp
  unfold Hist.redoH
  rw [h4]
  dsimp only
  rw [h3, h1, List.dropLast_concat]
  show (Hist.mk p _ ((statesH ps).take i ++ _) _, (0 : Int)) = _
  rw [← List.take_succ_eq_append_getElem]
  unfold histAt
  rw [List.getElem?_eq_getElem (by omega)]
  rfl
theorem histAt_redo0 (p : Plan) (ps : List Plan) : (histAt p ps ps.length).redoH = (histAt p ps ps.length, 6) := by
  have h1 : (histAt p ps ps.length).redo = [] := by
    show ((statesH ps).drop (ps.length + 1)).reverse = _
    rw [List.drop_eq_nil_of_le (by simp [statesH])]; rfl
  unfold Hist.redoH
  rw [h1]; rfl
theorem histAt_do (L : Look) (p : Plan) (ps : List Plan) (e : EditV) (h : ps.length < 16) :
    (histAt p ps ps.length).doE L e = if (applyS L (histAt p ps ps.length).base e).2 ≠ 0 then (histAt p ps ps.length, (applyS L (histAt p ps ps.length).base e).2) else (histAt p (ps ++ [(applyS L (histAt p ps ps.length).base e).1]) (ps ++ [(applyS L (histAt p ps ps.length).base e).1]).length, 0) := by
  unfold Hist.doE
  split
  · rfl
  · rw [histAt_change p _ ps h]
end Go.Proofs.YtlggdgpdfepppaaGreatDoor
namespace Go.Proofs.YtlggdgpdfepppaaGreatDoor
open Go.RowKit Go.Sort
set_option linter.unusedVariables false
set_option linter.unusedSimpArgs false
set_option maxRecDepth 100000
structure Edr where
  c0 : Value
  c1 : Value
  c2 : Value
  c3 : Value
  c4 : Value
  c5 : Value
  c6 : Value
  c7 : Value
  c8 : Value
  p : Plan
  A : Option Addr
  c : Nat
  e : EditV
  v : Value
def Edr.db (x : Edr) : Array Value := #[x.c0, x.c1, x.c2, x.c3, x.c4, x.c5, x.c6, x.c7, x.c8]
def Edr.arr (x : Edr) : Array Value := #[x.c0, x.c1, x.c2, x.c3, x.c4, x.c5, x.c6, x.c7, x.c8, .string ⟨x.p.from_.toArray⟩, .string ⟨x.p.to_.toArray⟩, .slice x.A x.p.es.length x.c, .int .i64 x.p.active,
  .int .u8 x.e.op, .int .i64 x.e.at_, .string ⟨x.e.ref.toArray⟩, .string ⟨x.e.name.toArray⟩, .string ⟨x.e.rway.toArray⟩, .string ⟨x.e.trans.toArray⟩, .int .i64 x.e.lo, .int .i64 x.e.hi, .int .i64 x.e.speed, .int .i64 x.e.course, .int .i64 x.e.dist, .int .u8 x.e.turn, x.v]
theorem Edr.arr_size (x : Edr) : x.arr.size = 26 := rfl
theorem Edr.setV (x : Edr) (v : Value) : x.arr.setIfInBounds 25 v = ({ x with v := v } : Edr).arr := rfl
def subE (A : Option Addr) (k c : Nat) : Option Addr := if c = k then A else A.map (·.add (k * 20))
theorem Ents.drop {w : World} {A : Option Addr} {es : List Entry} (h : Ents w A es) {k c : Nat} (hc : es.length ≤ c) : Ents w (subE A k c) (es.drop k) := by
  refine ⟨fun hne => ?_⟩
  have hk : k < es.length := by
    rcases Nat.lt_or_ge k es.length with h | h
    · exact h
    · exact absurd (List.drop_of_length_le h) hne
  obtain ⟨b, o, rfl, hb, hcell⟩ := h.at_ (by rintro rfl; simp at hk)
  refine ⟨b, o + k * 20, ?_, hb, fun i x hx j hj => ?_⟩
  · unfold subE
    rw [if_neg (by omega), Option.map_some, addr_add]
  · rw [List.getElem?_drop] at hx
    have := hcell (k + i) x hx j hj
    rw [← this]
    congr 2
    omega
theorem Ents.take {w : World} {A : Option Addr} {es : List Entry} (h : Ents w A es) {k c : Nat} : Ents w (subE A 0 c) (es.take k) := by
  refine ⟨fun hne => ?_⟩
  obtain ⟨b, o, rfl, hb, hcell⟩ := h.at_ (by rintro rfl; simp at hne)
  refine ⟨b, o, ?_, hb, fun i x hx j hj => ?_⟩
  · unfold subE
    split
    · rfl
    · rw [Option.map_some, addr_add]; simp
  · rw [List.getElem?_take] at hx
    split at hx
    · exact hcell i x hx j hj
    · cases hx
def slE (v : Value) (lo hi : Option Value) : Sem Value := Instr.slice 22 v lo hi none
theorem slE_fold (v : Value) (lo hi : Option Value) : Instr.slice 22 v lo hi none = slE v lo hi := rfl
theorem elem_ents : Tryz.prog.elem 22 = 82 := by kernel_rfl
theorem run_size_ent (w : World) : (sizeOf 82).run Tryz.prog w = .ok 20 w := by
  have h := info_ent
  cases hq : Tryz.prog.info? 82 with
  | none => rw [hq] at h; cases h
  | some i =>
    rw [hq] at h
    simp only [Option.map_some, Option.some.injEq] at h
    simp [sizeOf, typeInfo, Sem.run_bind, hq, h, Result.andThen]
theorem run_slE_h (A : Option Addr) (n c : Nat) (h : Int) (h0 : 0 ≤ h) (h1 : h ≤ c) (w : World) : (slE (.slice A n c) none (some (.int .i64 h))).run Tryz.prog w = .ok (.slice (subE A 0 c) h.toNat c) w := by
  unfold slE
  rw [run_slice_h (P := Tryz.prog) w 22 A n c (by rw [elem_ents]; exact Tryz.underlying22) .i64 h h0 h1, elem_ents, run_size_ent]
  simp [Result.andThen, sliced, subE]
theorem run_slE_l (A : Option Addr) (n c : Nat) (l : Int) (h0 : 0 ≤ l) (h1 : l ≤ n) (w : World) : (slE (.slice A n c) (some (.int .i64 l)) none).run Tryz.prog w = .ok (.slice (subE A l.toNat c) (n - l.toNat) (c - l.toNat)) w := by
  unfold slE
  rw [run_slice_l (P := Tryz.prog) w 22 A n c (by rw [elem_ents]; exact Tryz.underlying22) .i64 l h0 h1, elem_ents, run_size_ent]
  simp [Result.andThen, sliced, subE]
structure Ed (w W : World) (g : Nat) (x : Edr) (es : List Entry) : Prop where
  blk : Blk W g x.arr
  out : Out w W x.v es
  far : x.v.ownBlock ≠ some g
  bel : Below w.heap.size w W
  ge : w.heap.size ≤ g
theorem Ed.step {w W W' : World} {g : Nat} {x : Edr} {es : List Entry} (h : Ed w W g x es) (b : Below W.heap.size W W') : Ed w W' g x es :=
  ⟨h.blk.step b, h.out.below b, h.far, h.bel.trans (b.mono h.bel.size), h.ge⟩
theorem Ed.alloc {w W : World} {g : Nat} {x : Edr} {es : List Entry} (h : Ed w W g x es) (o : Obj) : Ed w (W.alloc o) g x es := h.step ((Below.refl _ _).alloc (Nat.le_refl _) _)
theorem Ed.lt {w W : World} {g : Nat} {x : Edr} {es : List Entry} (h : Ed w W g x es) : g < W.heap.size := h.blk.lt
structure Keep (g : Nat) (W : World) (v : Value) (W' : World) (v' : Value) : Prop where
  os : W'.os = W.os
  tape : W'.tape = W.tape
  output : W'.output = W.output
  size : W.heap.size ≤ W'.heap.size
  block : ∀ k, k < W.heap.size → k ≠ g → v.ownBlock ≠ some k → W'.heap[k]? = W.heap[k]?
  own : v'.ownBlock = v.ownBlock ∨ ∃ q, v'.ownBlock = some q ∧ W.heap.size ≤ q
theorem Keep.of {g : Nat} {W W' : World} {v : Value} (b : Below W.heap.size W W') : Keep g W v W' v := ⟨b.os, b.tape, b.output, b.size, fun k hk _ _ => b.block k hk, .inl rfl⟩
structure FarB (W : World) (g : Nat) (v : Value) (q : Nat) : Prop where
  lt : q < W.heap.size
  ne : q ≠ g
  own : v.ownBlock ≠ some q
theorem FarB.step {W W' : World} {g q : Nat} {v v' : Value} (h : FarB W g v q) (k : Keep g W v W' v') : FarB W' g v' q where
  lt := Nat.lt_of_lt_of_le h.lt k.size
  ne := h.ne
  own := by
    rcases k.own with e | ⟨z, e, hz⟩
    · rw [e]; exact h.own
    · rw [e]; intro y; injection y with y; have := h.lt; omega
theorem Keep.blk {W W' : World} {g q : Nat} {v v' : Value} {cs : Array Value} (k : Keep g W v W' v') (f : FarB W g v q) (h : Blk W q cs) : Blk W' q cs := by
  obtain ⟨t, h⟩ := h
  exact ⟨t, (k.block q f.lt f.ne f.own).trans h⟩
theorem Keep.ents {W W' : World} {g : Nat} {v v' : Value} {A : Option Addr} {es : List Entry} (k : Keep g W v W' v') (f : ∀ a, A = some a → FarB W g v a.block) (h : Ents W A es) : Ents W' A es := by
  refine ⟨fun hne => ?_⟩
  obtain ⟨b, o, rfl, hb, hc⟩ := h.at_ hne
  refine ⟨b, o, rfl, Nat.lt_of_lt_of_le hb k.size, fun i x hx j hj => ?_⟩
  have q := f _ rfl
  rw [World.cell?_of_block (k.block b q.lt q.ne q.own)]
  exact hc i x hx j hj
theorem run_append_nil (w : World) (base : Nat) (t ty e : TypeId) (i : TypeInfo) (size c : Nat) (ht : Tryz.prog.underlying t = some (.slice e)) (hi : Tryz.prog.info? e = some i) (v : Value) (n : Nat) (xs : List Value) (hown : w.ownsRow base e size v n xs) :
    (Builtin.append_ #[t, t] ty #[v, .slice none 0 c]).run Tryz.prog w = .ok v w := by
  rcases hown.2 with ⟨rfl, rfl⟩ | ⟨g, cap, cur, rfl, _, _, hnc, _⟩
  · simp [Builtin.append_, run_underlying ht, sizeOf, typeInfo, hi, Builtin.lenOf, Builtin.firstCells]
  · simp [Builtin.append_, run_underlying ht, sizeOf, typeInfo, hi, Builtin.lenOf, Builtin.firstCells, hnc, storeCells]
theorem cellsOf_get {es : List Entry} {j : Nat} {u : Value} (h : (cellsOf es)[j]? = some u) : ∃ i x, es[i]? = some x ∧ i * 20 + j % 20 = j ∧ x.arr[j % 20]? = some u := by
  have hl := (List.getElem?_eq_some_iff.1 h).1
  rw [cellsOf_len] at hl
  have hi : j / 20 < es.length := by omega
  have e : j / 20 * 20 + j % 20 = j := by omega
  refine ⟨j / 20, es[j / 20], List.getElem?_eq_getElem hi, e, ?_⟩
  rw [← cellsOf_at es (j / 20) _ (List.getElem?_eq_getElem hi) (j % 20) (by omega), e]
  exact h
theorem wpList_append_src {ops : Array Oper} {rest : List Oper} {op : Oper} {a : Act} {Q : Exit → Act → World → Prop} {w0 W : World} {v : Value} {es : List Entry} (hgd : op.guard = none) (s x : Operand)
    (ho : op.op = .call { callee := .builtin .append, args := #[s, x], argTypes := #[22, 22] }) (h : Out w0 W v es) (hs : a.eval s = v) (src : List Entry) (A : Option Addr) (n c : Nat) (hnn : src.length = n)
    (hx : a.eval x = .slice A n c) (hE : Ents W A src) (hn : es.length + n ≤ 1000000) (hb : w0.heap.size ≤ W.heap.size)
    (k : ∀ v' W', Out w0 W' v' (es ++ src) → W.grownBy W' v.ownBlock → (v'.ownBlock = v.ownBlock ∨ ∃ q, v'.ownBlock = some q ∧ W.heap.size ≤ q) → wpList Tryz.prog ops Q rest (a.put op.dst v') W') : wpList Tryz.prog ops Q (op :: rest) a W := by
  obtain ⟨i0, hi, hz0, hz1, hz2⟩ := info_parts info_ent_all
  subst hnn
  cases A with
  | none =>
    have he : src = [] := by
      rcases src with _ | ⟨y, r⟩
      · rfl
      · obtain ⟨b, o, hh, _⟩ := hE.at_ (by simp)
        cases hh
    subst he
    refine wpList_plain hgd fun K hK => ?_
    have hrun := run_append_nil W w0.heap.size 22 op.type 82 i0 20 c Tryz.underlying22 hi v es.length (cellsOf es) h
    unfold Oper.wp
    simp [execOp, ho, resolve, invoke, builtin, hs, hx, hrun, Result.andThen]
    exact hK _ _ (k v W (by simpa using h) ⟨rfl, rfl, rfl, Nat.le_refl _, fun _ _ _ => rfl⟩ (.inl rfl))
  | some ad =>
    refine wpList_append_own_at (w := W) hgd s x 22 ho w0.heap.size 82 i0 _ 20 176 Tryz.underlying22 hi hz0 hz1 hz2 rfl (by omega) v es.length (cellsOf es) hs h ad src.length c (cellsOf src) hx (cellsOf_len src) ?_ (cellsOf_one src) (by unfold maxLen; omega) (by omega) hb ?_
    · intro j u hu
      obtain ⟨i, y, hy, e, hu2⟩ := cellsOf_get hu
      obtain ⟨b, o, hA, hlt, hc⟩ := hE.at_ (by rintro rfl; simp at hy)
      injection hA with hA
      subst hA
      have := hc i y hy (j % 20) (by omega)
      rw [addr_add, ← hu2, ← this]
      congr 2
      omega
    · intro v' W' h1 h2 _ h4
      refine k v' W' ?_ h2 ?_
      · unfold Out
        rw [List.length_append, cellsOf_app]
        exact h1
      · rcases h4 with e | e
        · exact .inl e
        · exact .inr ⟨_, e, Nat.le_refl _⟩
theorem Out.keepE {w0 W W' : World} {v : Value} {es : List Entry} (h : Out w0 W v es) (hk : ∀ k, v.ownBlock = some k → W'.heap[k]? = W.heap[k]?) : Out w0 W' v es := by
  obtain ⟨hl, h⟩ := h
  refine ⟨hl, ?_⟩
  rcases h with ⟨rfl, h0⟩ | ⟨g, cap, cur, rfl, hg, hbk, hn, hm, hsz, hc⟩
  · exact .inl ⟨rfl, h0⟩
  · exact .inr ⟨g, cap, cur, rfl, hg, (hk g (by simp [Value.ownBlock])).trans hbk, hn, hm, hsz, hc⟩
def RetPut (w W : World) (g : Nat) (x : Edr) (l : List Entry) (e : Ending) (W' : World) : Prop := ∃ v', e = .returned (.tuple #[]) ∧ Ed w W' g { x with v := v' } l ∧ Keep g W x.v W' v'
theorem put_any (x : Edr) (es src : List Entry) (A : Option Addr) (c n g : Nat) (w W : World) (h : Ed w W g x es) (hE : Ents W A src) (hn : src.length = n) (hb : es.length + n ≤ 1000000) :
    Calls Tryz.prog 118 #[.pointer (some ⟨g, 0, none⟩), .slice A n c] W (RetPut w W g x (es ++ src)) := by
  have c25 : W.cell? ⟨g, 25, none⟩ = some x.v := h.blk.cell 25
  have HH := Lib.hid h
  have HE := Lib.hid hE
  clear h hE
  go_enter Tryz.func118, Tryz.ntmps118
  go_wp2_with (at_builtin; refine wpList_append_src rfl (.tmp 8) (.tmp 9) rfl HH.out.out rfl src A n c hn rfl HE.out hb HH.out.bel.size ?_; intro v' W' O' G' N'; have X' := HH.out.blk.grown G' HH.out.far; have f1 := X'.frozen 25; have f2 := X'.cell 25; have OH := Lib.hid O'; obtain ⟨A', c', hv', _, _, _⟩ := O'.form; rw [List.length_append, hn] at hv'; subst hv')
  go_end0
  have O' := OH.out
  generalize hv : Value.slice A' (es.length + n) c' = v' at *
  have hne : v'.ownBlock ≠ some g := by
    rcases N' with e | ⟨q, e, hq⟩
    · rw [e]; exact HH.out.far
    · rw [e]; intro z; injection z with z; have := HH.out.lt; omega
  refine ⟨v', rfl, ⟨?_, ?_, hne, ?_, HH.out.ge⟩, ?_⟩
  · rw [← Edr.setV x v']; exact X'.setCell 25 _
  · exact O'.keepE fun q hq => Below.heap_setCell _ _ _ _ (by show q ≠ g; rintro rfl; exact hne hq)
  · exact below_setCell (below_grown HH.out.bel HH.out.out G') HH.out.ge _ _
  · refine ⟨G'.os, G'.tape, G'.output, Nat.le_trans G'.size (by simp [World.setCell]), fun q hq hqg hqv => ?_, N'⟩
    exact (Below.heap_setCell _ _ _ _ (by show q ≠ g; exact hqg)).trans (G'.block q hq (fun e => hqv e.symm))
end Go.Proofs.YtlggdgpdfepppaaGreatDoor
