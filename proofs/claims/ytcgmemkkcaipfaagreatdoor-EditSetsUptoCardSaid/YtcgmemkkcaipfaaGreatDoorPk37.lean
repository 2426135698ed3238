/- What an edit makes of a plan is short where the plan and the edit are. No program in sight. edit: one entry bound; walks. edit: InsertFix; walks. -/
import Derived.Test.YtcgmemkkcaipfaaGreatDoorPk28
import Derived.Test.YtcgmemkkcaipfaaGreatDoorPk19
import Derived.Test.YtcgmemkkcaipfaaGreatDoorPk11
import Derived.Test.YtcgmemkkcaipfaaGreatDoorPk29
import Derived.Test.YtcgmemkkcaipfaaGreatDoorPk36
import Derived.Deep.CutBlock
namespace Go.Proofs.YtcgmemkkcaipfaaGreatDoor
open Go.RowKit
set_option linter.unusedVariables false
set_option linter.unusedSimpArgs false
def SmL (n : Nat) (l : List Entry) : Prop := l.length ≤ n ∧ ∀ x ∈ l, x.small
theorem SmL.nil (n : Nat) : SmL n [] := ⟨Nat.zero_le _, fun x h => by cases h⟩
theorem SmL.append {n m : Nat} {a b : List Entry} (h : SmL n a) (k : SmL m b) : SmL (n + m) (a ++ b) :=
  ⟨by rw [List.length_append]; have := h.1; have := k.1; omega, fun x hx => (List.mem_append.1 hx).elim (h.2 x) (k.2 x)⟩
theorem SmL.mono {n m : Nat} {a : List Entry} (h : SmL n a) (k : n ≤ m) : SmL m a := ⟨Nat.le_trans h.1 k, h.2⟩
theorem SmL.take {n : Nat} {a : List Entry} (h : SmL n a) (k : Nat) : SmL n (a.take k) := ⟨by rw [List.length_take]; have := h.1; omega, fun x hx => h.2 x (List.mem_of_mem_take hx)⟩
theorem SmL.drop {n : Nat} {a : List Entry} (h : SmL n a) (k : Nat) : SmL n (a.drop k) := ⟨by rw [List.length_drop]; have := h.1; omega, fun x hx => h.2 x (List.mem_of_mem_drop hx)⟩
theorem SmL.one {x : Entry} (h : x.small) : SmL 1 [x] := ⟨Nat.le_refl _, fun y hy => by
  obtain rfl : y = x := by simpa using hy
  exact h⟩
theorem gapE_small : gapE.small := ⟨⟨by simp [gapE], by simp [gapE]⟩, by simp [gapE]⟩
theorem directE_small {x : Entry} (h : x.small) : (directE x).small := ⟨⟨h.leg.fix, by simp [directE]⟩, h.via⟩
theorem entAt_small {p : Plan} (h : ∀ x ∈ p.es, x.small) (k : Nat) : (entAt p k).small := by
  unfold entAt
  rw [List.getD_eq_getElem?_getD]
  cases hq : p.es[k]? with
  | none => exact gapE_small
  | some x => exact h x (List.mem_of_getElem? hq)
theorem toLeg_small {t : Int} {f : List UInt8} (h : f.length ≤ 4000000000) : (toLeg t f).small := ⟨h, by simp [toLeg]⟩
theorem startForm_small {x : Entry} (h : x.small) : (startForm x).small := ⟨⟨h.leg.fix, by simp [startForm]⟩, h.via⟩
theorem zeroE_small : zeroE.small := ⟨⟨by simp [zeroE], by simp [zeroE]⟩, by simp [zeroE]⟩
theorem startOf_small {x : Entry} (h : x.small) : (startOf x).1.small := by
  unfold startOf
  split
  · exact h
  · split
    · exact startForm_small h
    · exact zeroE_small
theorem joinNew_small {out : List Entry} {pb : Bool} {x : Entry} (ho : ∀ y ∈ out, y.small) (h : x.small) : ∀ y ∈ (joinNew out pb x).1, y.small := by
  unfold joinNew
  intro y hy
  split at hy
  · rcases List.mem_append.1 hy with hy | hy
    · split at hy
      · exact ho y hy
      · rcases List.mem_append.1 hy with hy | hy
        · exact ho y hy
        · obtain rfl : y = gapE := by simpa using hy
          exact gapE_small
    · obtain rfl : y = (startOf x).1 := by simpa using hy
      exact startOf_small h
  · exact ho y hy
theorem joinStep_small {out : List Entry} {pb : Bool} {x : Entry} (ho : ∀ y ∈ out, y.small) (h : x.small) : ∀ y ∈ (joinStep out pb x).1, y.small := by
  unfold joinStep
  split
  · exact ho
  · split
    · exact joinNew_small ho h
    · split
      · exact joinNew_small ho h
      · split
        · exact ho
        · split
          · intro y hy
            rcases List.mem_append.1 hy with hy | hy
            · exact ho y hy
            · obtain rfl : y = x := by simpa using hy
              exact h
          · exact joinNew_small ho h
theorem joinGo_small : ∀ (r out : List Entry) (pb : Bool), (∀ y ∈ out, y.small) → (∀ y ∈ r, y.small) → ∀ y ∈ joinGo out pb r, y.small
  | [], _, _, ho, _ => ho
  | x :: r, out, pb, ho, h => joinGo_small r _ _ (joinStep_small ho (h x (by simp))) fun y hy => h y (List.mem_cons_of_mem _ hy)
theorem joinE_small {l : List Entry} {n : Nat} (h : SmL n l) : SmL (2 * n) (joinE l) := ⟨Nat.le_trans (joinE_len l) (by have := h.1; omega), joinGo_small l [] false (fun y hy => by cases hy) h.2⟩
/-- What a database gives is short. -/
structure Look.ok (L : Look) : Prop where
  place : ∀ s, (L.place s).1.length ≤ 4000000000
  way : ∀ n a b, (L.way n a b).1.length ≤ 100000 ∧ ∀ q ∈ (L.way n a b).1, q.1.length ≤ 4000000000
  proc : ∀ a k n t, ((L.proc a k n t).1.1.length ≤ 100000 ∧ ∀ l ∈ (L.proc a k n t).1.1, l.small) ∧ ((L.proc a k n t).1.2.length ≤ 100000 ∧ ∀ l ∈ (L.proc a k n t).1.2, l.small)
theorem bindS_small {pt : List UInt8 → (Int × Int) × Int} {legs : List Leg} {s : Int} {via : List UInt8} {n : Nat} (hl : legs.length ≤ n) (h : ∀ l ∈ legs, l.small) (hv : via.length ≤ 4000000000) : SmL n (bindS pt legs s via).1 := by
  unfold bindS
  split
  · exact .nil _
  · split
    · exact .nil _
    · split
      · refine ⟨by simpa using hl, fun x hx => ?_⟩
        obtain ⟨l, hm, rfl⟩ := List.mem_map.1 hx
        exact ⟨h l hm, hv⟩
      · exact .nil _
theorem oneS_small {L : Look} {t s : Int} {ref via : List UInt8} (h : ref.length ≤ 4000000000) (hv : via.length ≤ 4000000000) : SmL 1 (oneS L t ref s via).1 :=
  bindS_small (by simp) (fun l hl => by obtain rfl : l = toLeg t ref := by simpa using hl
                                        exact toLeg_small h) hv
theorem setLeg_small {e : EditV} {x : Entry} (h : x.small) : (setLeg e x).small := by
  unfold setLeg
  split
  · exact ⟨⟨h.leg.fix, h.leg.center⟩, h.via⟩
  · split
    · exact ⟨⟨h.leg.fix, h.leg.center⟩, h.via⟩
    · exact ⟨⟨h.leg.fix, h.leg.center⟩, h.via⟩
theorem keepSec_small {s : Int} : ∀ {l : List Entry} {n : Nat}, SmL n l → SmL n (keepSec s l)
  | [], _, _ => .nil _
  | x :: r, 0, h => by have := h.1; simp at this
  | x :: r, n + 1, h => by
    unfold keepSec
    split
    · exact .nil _
    · have ih := keepSec_small (s := s) (l := r) (n := n) ⟨by have := h.1; simpa using this, fun y hy => h.2 y (List.mem_cons_of_mem _ hy)⟩
      have := (SmL.one (h.2 x (by simp))).append ih
      exact this.mono (by omega)
theorem restDep_small {n : Nat} : ∀ {l rest : List Entry}, SmL n rest → SmL n l → SmL n (restDep rest l)
  | [], _, h, _ => h
  | x :: r, rest, h, k => by
    unfold restDep
    have k' : SmL n r := ⟨by have := k.1; simp at this; omega, fun y hy => k.2 y (List.mem_cons_of_mem _ hy)⟩
    split
    · exact restDep_small k' k'
    · exact restDep_small h k'
theorem restFirst_small {n : Nat} {l : List Entry} (h : SmL n l) : SmL n (restFirst l) := by
  cases l with
  | nil => exact h
  | cons x r =>
    show SmL n (if !x.gap && x.leg.ty == 1 then r else x :: r)
    split
    · exact ⟨by have := h.1; simp at this; omega, fun y hy => h.2 y (List.mem_cons_of_mem _ hy)⟩
    · exact h
theorem reopenE_small {n : Nat} {l : List Entry} (h : SmL n l) : SmL n (reopenE l) := by
  cases l with
  | nil => exact h
  | cons x r =>
    show SmL n (if x.leg.ty == 1 then directE x :: r else x :: r)
    split
    · refine ⟨by have := h.1; simpa using this, fun y hy => ?_⟩
      rcases List.mem_cons.1 hy with rfl | hy
      · exact directE_small (h.2 x (by simp))
      · exact h.2 y (List.mem_cons_of_mem _ hy)
    · exact h
theorem SmL.dropLast {n : Nat} {l : List Entry} (h : SmL n l) : SmL n l.dropLast := ⟨by rw [List.length_dropLast]; have := h.1; omega, fun x hx => h.2 x ((List.dropLast_sublist l).subset hx)⟩
theorem withB_len {a b : List UInt8} {c : UInt8} (ha : a.length ≤ 1000000000) (hb : b.length ≤ 1000000000) : (withB a c b).length ≤ 4000000000 := by
  unfold withB; split
  · omega
  · simp; omega
/-- The strings of the edit and the plan's places are short. -/
structure ShortE (p : Plan) (e : EditV) : Prop where
  len : p.es.length ≤ 60
  each : ∀ x ∈ p.es, x.small
  ref : e.ref.length ≤ 1000000000
  name : e.name.length ≤ 1000000000
  rway : e.rway.length ≤ 1000000000
  trans : e.trans.length ≤ 1000000000
  from_ : p.from_.length ≤ 1000000000
  to_ : p.to_.length ≤ 1000000000
def EdR.sm (r : EdR) : Prop := SmL 300300 r.list ∧ r.from_.length ≤ 4000000000 ∧ r.to_.length ≤ 4000000000
theorem EdR.sm_bad (n : Int) : (EdR.bad n).sm := ⟨.nil _, by simp [EdR.bad], by simp [EdR.bad]⟩
theorem keepR_sm {p : Plan} {e : EditV} {l : List Entry} (hs : ShortE p e) (h : SmL 300300 l) : (keepR p l).sm := ⟨h, by have := hs.from_; show p.from_.length ≤ _; omega, by have := hs.to_; show p.to_.length ≤ _; omega⟩
theorem rwayS_len {a b : List UInt8} (ha : a.length ≤ 1000000000) (hb : b.length ≤ 1000000000) : (rwayS a b).length ≤ 4000000000 := by
  unfold rwayS; split
  · omega
  · have := (cutAt_len 47 a).1
    simp; omega
set_option maxHeartbeats 4000000 in
theorem runS_sm {L : Look} {p : Plan} {e : EditV} (hs : ShortE p e) (hL : L.ok) : (runS L p e).sm := by
  have hp : SmL 60 p.es := ⟨hs.len, hs.each⟩
  have hn : e.name.length ≤ 4000000000 := by have := hs.name; omega
  have hr : e.ref.length ≤ 4000000000 := by have := hs.ref; omega
  have hf : p.from_.length ≤ 4000000000 := by have := hs.from_; omega
  have ht : p.to_.length ≤ 4000000000 := by have := hs.to_; omega
  unfold runS
  split
  · exact EdR.sm_bad _
  split
  · unfold insertS
    split
    · exact EdR.sm_bad _
    · split
      · exact keepR_sm hs ((((hp.take _).append (.one (directE_small (entAt_small hs.each _)))).append (hp.drop _)).mono (by omega))
      · split
        · exact EdR.sm_bad _
        · exact keepR_sm hs ((((hp.take _).append ((oneS_small hr (by simp)).append (.one gapE_small))).append (hp.drop _)).mono (by omega))
  split
  · unfold deleteS
    split
    · exact EdR.sm_bad _
    · split
      · exact keepR_sm hs (((hp.take _).append (reopenE_small (hp.drop _))).mono (by omega))
      · exact keepR_sm hs ((((hp.take _).append (.one gapE_small)).append (hp.drop _)).mono (by omega))
  split
  · unfold directS
    split
    · exact EdR.sm_bad _
    · split
      · exact EdR.sm_bad _
      · refine ⟨?_, hf, ht⟩
        show SmL _ (if _ then _ else _)
        have hx := entAt_small hs.each e.at_.toNat
        split
        · exact ((SmL.one (x := ⟨false, toLeg 4 (entAt p e.at_.toNat).leg.fix, (entAt p e.at_.toNat).ex, (entAt p e.at_.toNat).ey, 0, 0, (entAt p e.at_.toNat).sec, (entAt p e.at_.toNat).via⟩) ⟨toLeg_small hx.leg.fix, hx.via⟩).append (hp.drop _)).mono (by omega)
        · exact ((SmL.one (directE_small hx)).append (hp.drop _)).mono (by omega)
  split
  · unfold setS
    split
    · exact EdR.sm_bad _
    · split
      · exact EdR.sm_bad _
      · refine keepR_sm hs ⟨by rw [List.length_set]; have := hs.len; omega, fun x hx => ?_⟩
        rcases List.mem_or_eq_of_mem_set hx with hx | rfl
        · exact hs.each x hx
        · exact setLeg_small (entAt_small hs.each _)
  split
  · unfold holdS
    split
    · exact EdR.sm_bad _
    · split
      · exact EdR.sm_bad _
      · split
        · exact EdR.sm_bad _
        · have hx := entAt_small hs.each e.at_.toNat
          exact keepR_sm hs ((((hp.take _).append (.one (x := holdE e (entAt p e.at_.toNat)) ⟨⟨hx.leg.fix, by simp [holdE]⟩, by simp [holdE]⟩)).append (hp.drop _)).mono (by omega))
  split
  · unfold joinS
    split
    · exact EdR.sm_bad _
    · split
      · exact EdR.sm_bad _
      · split
        · exact EdR.sm_bad _
        · obtain ⟨w1, w2⟩ := hL.way e.name (entAt p e.at_.toNat).leg.fix e.ref
          have hb := bindS_small (pt := L.pt) (legs := (L.way e.name (entAt p e.at_.toNat).leg.fix e.ref).1.map fun q => { toLeg 2 q.1 with lo := q.2.1, hi := q.2.2 }) (s := (entAt p e.at_.toNat).sec) (via := e.name) (n := 100000) (by simpa using w1) (fun l hl => by
            obtain ⟨q, hq, rfl⟩ := List.mem_map.1 hl
            exact ⟨w2 q hq, by simp [toLeg]⟩) hn
          dsimp only
          split
          · exact EdR.sm_bad _
          · split
            · exact keepR_sm hs ((((hp.take _).append hb).append (hp.drop _)).mono (by omega))
            · exact keepR_sm hs (((((hp.take _).append hb).append (.one gapE_small)).append (hp.drop _)).mono (by omega))
  split
  · unfold departS
    split
    · exact EdR.sm_bad _
    · split
      · exact EdR.sm_bad _
      · dsimp only
        have hfr := rwayS_len hs.from_ hs.rway
        have hw := withB_len (c := 46) hs.name hs.trans
        obtain ⟨⟨p1, p2⟩, _⟩ := hL.proc (rwayS p.from_ e.rway) 1 e.name e.trans
        have h1 := oneS_small (L := L) (t := 1) (s := 1) (hL.place (rwayS p.from_ e.rway)) hw
        have h2 := bindS_small (pt := L.pt) (s := 1) p1 p2 hw
        have hall := h1.append h2
        have hrest := restDep_small (restFirst_small hp) hp
        split
        · exact EdR.sm_bad _
        split
        · exact EdR.sm_bad _
        split
        · exact EdR.sm_bad _
        split
        · exact EdR.sm_bad _
        split
        · exact ⟨((hall.append (hrest.drop _))).mono (by omega), hfr, ht⟩
        · exact ⟨(((hall.append (.one gapE_small)).append hrest)).mono (by omega), hfr, ht⟩
  have harr : ∀ kind s, (arriveS L p e kind s).sm := by
    intro kind s
    unfold arriveS
    split
    · exact EdR.sm_bad _
    split
    · exact EdR.sm_bad _
    dsimp only
    generalize hto : (if kind = 2 then rwayS p.to_ e.rway else p.to_) = to_
    have hto2 : to_.length ≤ 4000000000 := by
      rw [← hto]; split
      · exact rwayS_len hs.to_ hs.rway
      · exact ht
    have hw := withB_len (c := 46) hs.name hs.trans
    obtain ⟨⟨p1, p2⟩, p3, p4⟩ := hL.proc to_ kind e.name e.trans
    have hy := bindS_small (pt := L.pt) (s := s) p1 p2 hw
    have h1 := oneS_small (L := L) (t := 2) (s := s) (via := []) (hL.place to_) (by simp)
    have hm : SmL 100000 (if kind = 3 then bindS L.pt (L.proc to_ kind e.name e.trans).1.2 5 (withB e.name 46 e.trans) else ([], 0)).1 := by
      split
      · exact bindS_small p3 p4 hw
      · exact .nil _
    have hk0 := keepSec_small (s := s) hp
    split
    · exact EdR.sm_bad _
    split
    · exact EdR.sm_bad _
    split
    · exact EdR.sm_bad _
    split
    · exact EdR.sm_bad _
    generalize (if kind = 3 then bindS L.pt (L.proc to_ kind e.name e.trans).1.2 5 (withB e.name 46 e.trans) else ([], 0)) = mm at hm
    split
    · exact EdR.sm_bad _
    refine ⟨?_, hf, hto2⟩
    refine SmL.mono (n := 61 + 100000 + 1 + 100000) ?_ (by omega)
    refine SmL.append (SmL.append (SmL.append ?_ hy) h1) hm
    have hkeep : ∀ b : Bool, SmL 60 (if b then (keepSec s p.es).dropLast else keepSec s p.es) := fun b => by
      cases b
      · exact hk0
      · exact hk0.dropLast
    have hk : ∀ keep, SmL 60 keep → ∀ j : Int, SmL 61 (if 0 ≤ j then keep.take (j.toNat + 1) else keep ++ [gapE]) := fun keep hk j => by
      split
      · exact SmL.mono (n := 60) (hk.take _) (by omega)
      · exact hk.append (.one gapE_small)
    exact hk _ (hkeep _) _
  split
  · exact harr _ _
  split
  · exact harr _ _
  · unfold divertS
    split
    · exact EdR.sm_bad _
    · split
      · exact EdR.sm_bad _
      · split
        · exact EdR.sm_bad _
        · dsimp only
          split
          · exact EdR.sm_bad _
          · exact ⟨((hp.take _).append (oneS_small (hL.place _) (by simp))).mono (by omega), hf, hn⟩
end Go.Proofs.YtcgmemkkcaipfaaGreatDoor
namespace Go.Proofs.YtcgmemkkcaipfaaGreatDoor
open Go.RowKit Go.Sort
set_option linter.unusedVariables false
set_option linter.unusedSimpArgs false
set_option maxRecDepth 100000
theorem alloc_below5 (w : World) (o : Obj) : Below w.heap.size w (w.alloc o) := (Below.refl _ _).alloc (Nat.le_refl _) _
theorem info_leg_all : (Tryz.prog.info? 46).map (fun i => (i.zero, i.size, i.bytes)) = some (some (.agg (⟨0, [], [], 0, false, 0, 0, 0, 0, 0, 0, 0, 0⟩ : Leg).arr), 13, 112) := by kernel_rfl
def bsl1 (parts : Array (Nat × Value)) : Sem Value := Instr.buildSlice 113 1 parts
theorem bsl1_fold (parts : Array (Nat × Value)) : Instr.buildSlice 113 1 parts = bsl1 parts := rfl
theorem run_bsl1 (w : World) (x : Leg) : (bsl1 #[(0, .agg x.arr)]).run Tryz.prog w = .ok (.slice (some ⟨w.heap.size, 0, none⟩) 1 1) (w.alloc (.cells x.arr 46)) := by
  obtain ⟨i0, hi, hz0, hz1, hz2⟩ := info_parts info_leg_all
  refine run_buildSlice w 113 46 1 #[(0, .agg x.arr)] x.arr i0 _ Tryz.underlying113 hi hz0 (by rw [hz1]; decide) (by rw [hz1]; decide) ?_
  rw [hz1]
  kernel_rfl
theorem Blk.legItems {W : World} {q : Nat} {x : Leg} (h : Blk W q x.arr) : Items W (some ⟨q, 0, none⟩) 13 ([x].map Leg.arr) where
  at_ _ := ⟨q, 0, rfl, h.lt, fun i y hy j hj => by
    cases i with
    | zero =>
      obtain rfl : x.arr = y := by simpa using hy
      rw [h.cell]; congr 2; omega
    | succ i => simp at hy⟩
theorem Ed.is_db {w W : World} {g : Nat} {x : Edr} {es : List Entry} (h : Ed w W g x es) : Is_db W g 0 x.db := ⟨rfl, fun j hj => by
  rw [h.blk.cell, Nat.zero_add]
  match j, hj with
  | 0, _ | 1, _ | 2, _ | 3, _ | 4, _ | 5, _ | 6, _ | 7, _ | 8, _ => rfl⟩
theorem run_bentZ (w : World) : (bentD #[]).run Tryz.prog w = .ok (.agg zeroE.arr) w := run_build w _ _ _ (by kernel_rfl)
theorem Has_db_drew5 (W : World) (b o : Nat) : Has_db W.drew b o = Has_db W b o := propext ⟨fun h => h, fun h => h⟩
theorem of_db_drew5 (W : World) (b o : Nat) : of_db W.drew b o = of_db W b o := rfl
theorem Has_win_drew5 (W : World) (b o : Nat) : Has_win W.drew b o = Has_win W b o := propext ⟨fun h => h, fun h => h⟩
theorem of_win_drew5 (W : World) (b o : Nat) : of_win W.drew b o = of_win W b o := rfl
theorem Has_db_alloc5 (w : World) (b o : Nat) (ob : Obj) (h : b < w.heap.size) : Has_db (w.alloc ob) b o = Has_db w b o := by
  have e : ∀ j, (w.alloc ob).cell? ⟨b, o + j, none⟩ = w.cell? ⟨b, o + j, none⟩ := fun j => World.cell?_alloc_lt w ob ⟨b, o + j, none⟩ h
  simp only [Has_db, Is_db, e]
theorem of_db_alloc5 (w : World) (b o : Nat) (ob : Obj) (h : b < w.heap.size) (hh : Has_db w b o) : of_db (w.alloc ob) b o = of_db w b o :=
  of_db_eq ⟨(of_db_spec hh).1, fun j hj => by rw [World.cell?_alloc_lt w ob ⟨b, o + j, none⟩ h]; exact (of_db_spec hh).2 j hj⟩
attribute [local go_sem] Has_db_alloc5 of_db_alloc5 Has_db_drew5 of_db_drew5 Has_win_drew5 of_win_drew5
attribute [local go_sem ↓] bleg_fold bentD_fold bsl1_fold
attribute [local go_sem] run_bleg3 run_bentZ run_bsl1
theorem bindS_len0 {pt : List UInt8 → (Int × Int) × Int} {legs : List Leg} {s : Int} {via : List UInt8} (h : (bindS pt legs s via).2 = 0) : (bindS pt legs s via).1.length = legs.length := by
  unfold bindS at h ⊢
  split at h
  · simp at h
  · rename_i h1
    split at h
    · simp at h
    · rename_i h2
      split at h
      · rename_i h3
        rw [if_neg h1, if_neg h2, if_pos h3]; simp
      · rename_i h3; exact absurd h h3
theorem bindS_nil {pt : List UInt8 → (Int × Int) × Int} {legs : List Leg} {s : Int} {via : List UInt8} (h : (bindS pt legs s via).2 ≠ 0) : (bindS pt legs s via).1 = [] := by
  unfold bindS at h ⊢
  split
  · rfl
  · split
    · rfl
    · split
      · rename_i h1 h2 h3
        rw [if_neg h1, if_neg h2, if_pos h3] at h; simp at h
      · rfl
theorem oneS_ok {L : Look} {t s : Int} {ref via : List UInt8} (h : (oneS L t ref s via).2 = 0) : ∃ y, (oneS L t ref s via).1 = [y] := by
  have h1 := bindS_len0 (legs := [toLeg t ref]) h
  match hm : (oneS L t ref s via).1 with
  | [] => unfold oneS at hm; rw [hm] at h1; simp at h1
  | [y] => exact ⟨y, rfl⟩
  | y :: z :: r => unfold oneS at hm; rw [hm] at h1; simp at h1
/-- One leg to a fix as an entry. -/
def oneE (L : Look) (t : Int) (ref : List UInt8) (s : Int) (via : List UInt8) : Entry := (oneS L t ref s via).1.headD zeroE
set_option maxHeartbeats 16000000 in
theorem eone_any (x : Edr) (es : List Entry) (g : Nat) (w W : World) (h : Ed w W g x es) (hL : Laid w) (d : DBs) (l : List FixV) (hd : d.cells = x.db) (hD : DbAt w d l) (L : Look) (hpt : L.pt = pointV d.lat d.lon l) (hG : GapAt w) (t s : Int) (ref via : List UInt8)
    (hr : ref.length ≤ 4000000000) (hv : via.length ≤ 4000000000) :
    Calls Tryz.prog 114 #[.pointer (some ⟨g, 0, none⟩), .int .u8 t, .string ⟨ref.toArray⟩, .int .u8 s, .string ⟨via.toArray⟩] W (Ret W (.tuple #[.agg (oneE L t ref s via).arr, .int .i64 (oneS L t ref s via).2])) := by
  have HB := Lib.hid (fun (W' : World) (b : Below w.heap.size w W') (q : Nat) (Y : Blk W' q (toLeg t ref).arr) =>
    show Calls Tryz.prog 118 #[.agg x.db, .slice (some ⟨q, 0, none⟩) 1 1, .int .u8 s, .string ⟨via.toArray⟩] W' (RetBd W' (oneS L t ref s via)) from by
      have := bind_any d l [toLeg t ref] (some ⟨q, 0, none⟩) 1 s via W' (hL.below b) (hD.below b) Y.legItems (Nat.le_refl _) (by simp) (fun y hy => (List.mem_singleton.1 hy) ▸ toLeg_small hr) hv
      rw [hd, ← hpt] at this
      exact this)
  have HN := Lib.hid (fun h => @bindS_nil L.pt [toLeg t ref] s via h)
  have HO := Lib.hid (fun h => @oneS_ok L t s ref via h)
  have HE := Lib.hid (show oneE L t ref s via = (oneS L t ref s via).1.headD zeroE from rfl)
  have HNl := Lib.hid (show bindS L.pt [toLeg t ref] s via = oneS L t ref s via from rfl)
  rw [HNl.out] at HN
  generalize oneS L t ref s via = r at *
  generalize oneE L t ref s via = out at *
  clear HNl hD hL hpt hd
  go_enter Tryz.func114, Tryz.ntmps114
  go_upto_region 1 with (fail)
  have R0 := Blk.new W zeroE.arr 51
  have X0 := h.alloc (.cells zeroE.arr 51)
  have B0 := alloc_below5 W (.cells zeroE.arr 51)
  have hg0 : W.heap.size ≤ W.heap.size := Nat.le_refl _
  have hz : zeroE.arr = #[.bool false, .int .u8 0, .string ⟨#[]⟩, .string ⟨#[]⟩, .int .u8 0, .bool false, .int .i64 0, .int .i64 0, .int .i64 0, .int .i64 0, .int .i64 0, .int .i64 0, .int .i64 0, .int .i64 0, .int .i64 0, .int .i64 0, .int .i64 0, .int .i64 0, .int .u8 0, .string ⟨#[]⟩] := rfl
  rw [hz] at R0 X0 B0
  generalize W.alloc _ = W0 at R0 X0 B0 ⊢
  rw [← hz] at R0
  clear hz h
  obtain ⟨g9, hg9⟩ : ∃ g9, g9 = W.heap.size := ⟨_, rfl⟩
  rw [← hg9] at R0 ⊢
  have hge : W.heap.size ≤ g9 := by omega
  clear hg9 hg0
  go_cut [12, 13] (fun a e wx => ∃ A c, a = .slice A r.1.length c ∧ e = .int .i64 r.2 ∧ r.1.length ≤ c ∧ Ents wx A r.1 ∧ Below W0.heap.size W0 wx)
  case first =>
    have k1 : Has_db W0 g 0 := ⟨_, X0.is_db⟩
    have k2 : of_db W0 g 0 = x.db := of_db_eq X0.is_db
    have hlt := X0.lt
    have hlt3 := block_lt_of_cell (hG.below X0.bel).lo
    have r1 : Has_win W0 2 0 := ⟨_, (hG.below X0.bel).win⟩
    have r2 : of_win W0 2 0 = ⟨-200000, 6000000⟩ := of_win_eq (hG.below X0.bel).win
    have hX0 := Lib.hid X0
    unfold toLeg at HB
    clear X0 R0
    go_region_with (go_at_call 118; refine (HB.out _ (hX0.out.alloc _).drw.bel _ ((Blk.new _ _ _).step (Below.refl _ _).drew)).mono ?_; rintro e w2 ⟨A2, c2, rfl, hc2, hE2, b2⟩)
    all_goals
      go_wp2
      go_meet
      exact ⟨A2, c2, rfl, rfl, hc2, hE2, below_step (alloc_below5 _ _).drew b2⟩
  case rest =>
    obtain ⟨A, c, rfl, rfl, hc, hE, BC⟩ := hcut
    have R1 := R0.step BC
    have BB := below_step B0 BC
    clear X0 R0 BC B0 HB
    have d2 := R1.plain
    have d3 := R1.of
    obtain ⟨l1, e1⟩ := r
    by_cases hz : e1 = 0
    · obtain ⟨y, hy⟩ := HO.out hz
      have HOUT := Lib.hid (show out = y by rw [HE.out, hy]; rfl)
      obtain rfl : l1 = [y] := hy
      subst hz
      obtain ⟨b, off, hA, hb, hcl⟩ := hE.get (k := 0) (by simp)
      subst hA
      have hI : Is_ent wc b off y := fun j hj => by have := hcl j hj; rw [Nat.zero_mul, Nat.add_zero] at this; exact this
      have i1 : Has_ent wc b off := ⟨_, hI⟩
      have i2 : of_ent wc b off = y := of_ent_eq hI
      have f3 : splice zeroE.arr 0 y.arr = y.arr := rfl
      clear hcl hE hI HN HO
      go_wp2
      exact bodyPost_ret (results_agg Tryz.results114 _ _ g9 y.arr 20 _ rfl rfl (R1.set _).cell Tryz.underlying51 rfl info_ent) rfl ⟨by rw [HOUT.out]; rfl, below_setRow' BB hge _⟩
    · have hn := HN.out hz
      have HOUT := Lib.hid (show out = zeroE by rw [HE.out, hn]; rfl)
      have hz' : (e1 != 0) = true := by simpa using hz
      have f3 : splice zeroE.arr 0 zeroE.arr = zeroE.arr := rfl
      clear HN HO hE
      go_wp2
      exact bodyPost_ret (results_agg Tryz.results114 _ _ g9 zeroE.arr 20 _ rfl rfl (R1.set _).cell Tryz.underlying51 rfl info_ent) rfl ⟨by rw [HOUT.out]; rfl, below_setRow' BB hge _⟩
end Go.Proofs.YtcgmemkkcaipfaaGreatDoor
namespace Go.Proofs.YtcgmemkkcaipfaaGreatDoor
open Go.RowKit Go.Sort
set_option linter.unusedVariables false
set_option linter.unusedSimpArgs false
set_option maxRecDepth 100000
attribute [local go_sem ↓] slE_fold
attribute [local go_sem] run_slE_hk run_slE_hk1 run_slE_lk run_slE_lk1 run_bs2'
theorem findGo_range (from_ : Int) (ref : List UInt8) : ∀ (l : List Entry) (i : Nat), findGo from_ ref l i = -1 ∨ ∃ m, m < l.length ∧ findGo from_ ref l i = ((i + m : Nat) : Int)
  | [], i => .inl rfl
  | x :: r, i => by
    rw [findGo]
    split
    · exact .inr ⟨0, by simp, by simp⟩
    · rcases findGo_range from_ ref r (i + 1) with h | ⟨m, h1, h2⟩
      · exact .inl h
      · exact .inr ⟨m + 1, by simp; omega, by rw [h2]; congr 1; omega⟩
theorem secLast_step (s : Int) {l : List Entry} {k : Nat} (h : k < l.length) : secLast s (l.drop k) = secLast (if l[k].gap then s else l[k].sec) (l.drop (k + 1)) := by
  rw [List.drop_eq_getElem_cons h, secLast]
theorem secFirst_step (s : Int) {l : List Entry} {k : Nat} (h : k < l.length) : secFirst s (l.drop k) = if l[k].gap then secFirst s (l.drop (k + 1)) else l[k].sec := by
  rw [List.drop_eq_getElem_cons h, secFirst]
/-- Where entry k of a row lies, for good. -/
theorem Ents.entE {w : World} {A : Option Addr} {l : List Entry} (h : Ents w A l) {k : Nat} (hk : k < l.length) : ∃ b off, A = some ⟨b, off, none⟩ ∧ ∀ W', Below w.heap.size w W' → Is_ent W' b (off + k * 20) l[k] := by
  obtain ⟨b, off, hA, hb, hc⟩ := h.get hk
  refine ⟨b, off, hA, fun W' hB j hj => ?_⟩
  rw [hB.cell (p := ⟨b, _, none⟩) hb]
  exact hc j hj
set_option maxHeartbeats 32000000 in
theorem einsert_any (x : Edr) (g : Nat) (w W : World) (h : Ed w W g x []) (hL : Laid w) (hE : Ents w x.A x.p.es) (hc : x.p.es.length ≤ x.c) (hn : x.p.es.length ≤ 60) (ha : -1 ≤ x.p.active) (h0 : 0 ≤ x.e.at_) (hat : x.e.at_ ≤ x.p.es.length) (hG : GapAt w) (L : Look)
    (hF : ∃ d l, DBs.cells d = x.db ∧ DbAt w d l ∧ L.pt = pointV d.lat d.lon l) (hr : x.e.ref.length ≤ 4000000000) :
    Calls Tryz.prog 47 #[.pointer (some ⟨g, 0, none⟩)] W (RetRun w g x (insertS L x.p x.e)) := by
  have c11 := h.c11
  have c14 := h.c14
  go_enter Tryz.func47, Tryz.ntmps47
  go_upto_region 1 with (fail)
  go_region
  replace h := h.drw
  clear c11 c14
  generalize W.drew = W1 at h ⊢
  clear W
  have c12 := h.c12
  by_cases h1 : x.e.at_ ≤ x.p.active
  · have HS := Lib.hid (show insertS L x.p x.e = .bad 8 from if_pos h1)
    have HX := Lib.hid h
    clear h hE hc hn h0 hat hG hF
    go_wp2
    go_ret
    exact RetRun.bad HS.out (by decide) HX.out.bel
  · obtain ⟨k, hk⟩ : ∃ k : Nat, x.e.at_ = k := ⟨x.e.at_.toNat, by omega⟩
    have hkl : k ≤ x.p.es.length := by omega
    have hkc : k ≤ x.c := by omega
    have HEn := Lib.hid (fun W' (b : Below w.heap.size w W') => (hE.below (B := 0) b : Ents W' x.A x.p.es))
    have HGp := Lib.hid (fun W' (b : Below w.heap.size w W') => (hG.below b).is)
    have HC := Lib.hid hc
    have HN := Lib.hid hn
    have c15 := h.c15
    have KS := Lib.hid (search_any x.p.es x.A x.p.es.length x.c k x.e.ref W1 (HEn.out _ h.bel) rfl (by omega) (by omega))
    have HSI : insertS L x.p x.e = if 0 ≤ searchE x.p.es k x.e.ref then
        keepR x.p (x.p.es.take k ++ [directE (entAt x.p (searchE x.p.es k x.e.ref).toNat)] ++ x.p.es.drop ((searchE x.p.es k x.e.ref).toNat + 1))
      else if (oneS L 4 x.e.ref (secFirst (secLast 2 x.p.es) (x.p.es.drop k)) []).2 ≠ 0 then .bad (oneS L 4 x.e.ref (secFirst (secLast 2 x.p.es) (x.p.es.drop k)) []).2
      else keepR x.p (x.p.es.take k ++ ((oneS L 4 x.e.ref (secFirst (secLast 2 x.p.es) (x.p.es.drop k)) []).1 ++ [gapE]) ++ x.p.es.drop k) := by
      unfold insertS; rw [if_neg h1, hk, Int.toNat_natCast]
    have hrange := findGo_range k x.e.ref x.p.es 0
    have hse : searchE x.p.es k x.e.ref = findGo k x.e.ref x.p.es 0 := rfl
    rw [← hse] at hrange
    generalize searchE x.p.es k x.e.ref = z at KS HSI hrange
    clear hse
    rw [hk] at h1 ⊢
    rcases hrange with rfl | ⟨m, hm, rfl⟩
    · have HSI := Lib.hid (show insertS L x.p x.e = _ from HSI.trans (if_neg (by decide)))
      go_upto_region 12 with (go_at_call 111; (with_reducible refine callR KS.out ?_); intro w2 b2 _ _ _)
      have X2 := h.step b2
      clear KS b2 h c12 c15 h1
      go_loopw [6, 61] (fun s i wr => ∃ (j : Nat) (y : Int), j ≤ x.p.es.length ∧ i = .int .i64 j ∧ s = .int .u8 y ∧ secLast 2 x.p.es = secLast y (x.p.es.drop j) ∧ Below w2.heap.size w2 wr) (fun _ i _ => x.p.es.length - (intOf i).toNat)
      case atStart => exact ⟨0, 2, by omega, rfl, rfl, rfl, Below.refl _ _⟩
      case round =>
        obtain ⟨j, y, hj, rfl, rfl, hq, BW⟩ := hrel
        have HQ := Lib.hid hq
        clear hq
        by_cases hlt : j < x.p.es.length
        · obtain ⟨b, off, hA, hcl⟩ := hE.entE hlt
          have hI := hcl wr (X2.bel.trans (BW.mono X2.bel.size))
          have HQ2 := Lib.hid (HQ.out.trans (secLast_step y hlt))
          generalize x.p.es[j] = u at hI HQ2
          have i1 : Has_ent wr b (off + j * 20) := ⟨_, hI⟩
          have i2 : of_ent wr b (off + j * 20) = u := of_ent_eq hI
          have hlt2 : (j : Int) < (x.p.es.length : Int) := by omega
          have hjc : j < x.c := by have := HC.out; omega
          have hB := Lib.hid BW
          clear HQ hcl hI BW X2 HSI HEn HGp
          go_upto_region 14 with (fail)
          have Y := Blk.new wr u.arr 51
          have B3 := below_step hB.out ((Below.refl wr.heap.size wr).alloc (Nat.le_refl _) (.cells u.arr 51))
          clear i1 i2 hB
          generalize wr.alloc _ = W3 at Y B3 ⊢
          generalize wr.heap.size = gy at Y ⊢
          have c0 : W3.cell? ⟨gy, 0, none⟩ = some (.bool u.gap) := Y.cell 0
          have c18 : W3.cell? ⟨gy, 18, none⟩ = some (.int .u8 u.sec) := Y.cell 18
          cases hg : u.gap with
          | true =>
            rw [hg] at HQ2 c0
            go_wp2
            go_roundw
            case rel => exact ⟨j + 1, y, by omega, by go_num, rfl, HQ2.out, B3⟩
            case measure => simp [intOf]; omega
          | false =>
            rw [hg] at HQ2 c0
            go_wp2
            go_roundw
            case rel => exact ⟨j + 1, u.sec, by omega, by go_num, rfl, HQ2.out, B3⟩
            case measure => simp [intOf]; omega
        · have hj2 : j = x.p.es.length := by omega
          have HY := Lib.hid (show secLast 2 x.p.es = y by rw [HQ.out, List.drop_of_length_le (by omega)]; rfl)
          rw [HY.out] at HSI
          subst hj2
          have X3 := X2.step BW
          clear X2 BW HQ hlt HY
          obtain ⟨l, hl⟩ : ∃ l, x.p.es.drop k = l := ⟨_, rfl⟩
          have HL := Lib.hid hl
          have hln : l.length = x.p.es.length - k := by rw [← hl, List.length_drop]
          rw [hl] at HSI
          clear hl
          go_upto_block 2 with (fail)
          go_cut [6] (fun s wx => s = .int .u8 (secFirst y l) ∧ Below wr.heap.size wr wx)
          case first =>
            go_wp2_with (fail)
            go_loopw [6, 75] (fun s i wx => ∃ (j : Nat), j ≤ l.length ∧ i = .int .i64 j ∧ s = .int .u8 y ∧ secFirst y l = secFirst y (l.drop j) ∧ Below wr.heap.size wr wx) (fun _ i _ => l.length - (intOf i).toNat)
            case atStart => exact ⟨0, by omega, rfl, rfl, rfl, Below.refl _ _⟩
            case round =>
              obtain ⟨j, hj, rfl, rfl, hq, BW⟩ := hrel
              have HQ := Lib.hid hq
              clear hq HSI
              by_cases hlt : j < l.length
              · obtain ⟨b, off, hA, hcl⟩ := (HL.out ▸ hE.drop (k := k) HC.out : Ents w (subE x.A k x.c) l).entE hlt
                have hI := hcl wr (X3.bel.trans (BW.mono X3.bel.size))
                have HQ2 := Lib.hid (HQ.out.trans (secFirst_step y hlt))
                generalize l[j] = u at hI HQ2
                have i1 : Has_ent wr b (off + j * 20) := ⟨_, hI⟩
                have i2 : of_ent wr b (off + j * 20) = u := of_ent_eq hI
                have hlt2 : (j : Int) < ((x.p.es.length - k : Nat) : Int) := by omega
                have hlt3 : j < x.p.es.length - k := by omega
                have hB := Lib.hid BW
                have HJ := Lib.hid hj
                clear HQ hcl hI BW X3 HEn HGp hj
                go_upto_region 20 with (fail)
                have Y := Blk.new wr u.arr 51
                have B3 := below_step hB.out ((Below.refl wr.heap.size wr).alloc (Nat.le_refl _) (.cells u.arr 51))
                clear i1 i2 hB
                generalize wr.alloc _ = W3 at Y B3 ⊢
                generalize wr.heap.size = gy at Y ⊢
                have c0 : W3.cell? ⟨gy, 0, none⟩ = some (.bool u.gap) := Y.cell 0
                have c18 : W3.cell? ⟨gy, 18, none⟩ = some (.int .u8 u.sec) := Y.cell 18
                cases hg : u.gap with
                | true =>
                  rw [hg] at HQ2 c0
                  go_wp2
                  go_roundw
                  case rel => exact ⟨j + 1, by omega, by go_num, rfl, HQ2.out, B3⟩
                  case measure => simp [intOf]; omega
                | false =>
                  rw [hg] at HQ2 c0
                  go_wp2
                  go_meet
                  exact ⟨by rw [HQ2.out]; rfl, B3⟩
              · have HY := Lib.hid (show secFirst y l = y by rw [HQ.out, List.drop_of_length_le (by omega)]; rfl)
                have hge : ¬ (j : Int) < ((x.p.es.length - k : Nat) : Int) := by omega
                have hB := Lib.hid BW
                clear HQ BW hlt
                go_wp2
                go_meet
                exact ⟨by rw [HY.out], hB.out⟩
          case rest =>
            obtain ⟨rfl, BC⟩ := hcut
            have X4 := X3.step BC
            clear X3 BC
            generalize secFirst y l = sc at HSI ⊢
            obtain ⟨d, lx, hd, hD, hpt⟩ := hF
            have K := Lib.hid (show Calls Tryz.prog 114 #[.pointer (some ⟨g, 0, none⟩), .int .u8 4, .string ⟨x.e.ref.toArray⟩, .int .u8 sc, .string ⟨#[]⟩] wc (Ret wc (.tuple #[.agg (oneE L 4 x.e.ref sc []).arr, .int .i64 (oneS L 4 x.e.ref sc []).2])) from
              eone_any x [] g w wc X4 hL d lx hd hD L hpt hG 4 sc x.e.ref [] hr (by simp))
            have HO := Lib.hid (fun h => @oneS_ok L 4 sc x.e.ref [] h)
            have HE1 := Lib.hid (show oneE L 4 x.e.ref sc [] = (oneS L 4 x.e.ref sc []).1.headD zeroE from rfl)
            generalize oneE L 4 x.e.ref sc [] = y1 at K HE1
            obtain ⟨l1, e1⟩ : ∃ r, oneS L 4 x.e.ref sc [] = r := ⟨_, rfl⟩
            rw [e1] at K HO HE1 HSI
            clear e1 hd hD hpt
            obtain ⟨l2, e2⟩ := l1
            have c15 := X4.c15
            go_upto_region 24 with (go_at_call 114; (with_reducible refine callR K.out ?_); intro w5 b5 _ _ _)
            have X5 := X4.step b5
            have Y := Blk.new w5 y1.arr 51
            have X6 := X5.alloc (.cells y1.arr 51)
            have F := FarB.new X5 (.cells y1.arr 51)
            clear X4 X5 b5 K c15
            generalize w5.alloc _ = W6 at Y X6 F ⊢
            generalize w5.heap.size = gy at Y F ⊢
            by_cases hz : e2 = 0
            · subst hz
              obtain ⟨y2, hy⟩ := HO.out rfl
              obtain rfl : l2 = [y2] := hy
              obtain rfl : y1 = y2 := HE1.out
              have HS := Lib.hid (show insertS L x.p x.e = keepR x.p (x.p.es.take k ++ [y1, gapE] ++ l) from HSI.out)
              have K1 := Lib.hid (put_any x [] (x.p.es.take k) (subE x.A 0 x.c) x.c k g w W6 X6 (HEn.out _ X6.bel).take (by rw [List.length_take]; omega) (by have := HN.out; simp; omega))
              rw [List.nil_append] at K1
              clear HSI HO HE1
              go_upto_region 27 with (go_at_call 112; (with_reducible refine callPut K1.out ?_); intro v7 W7 X7 kp)
              have Y7 := kp.blk F Y
              have j1 : Has_ent W7 gy 0 := ⟨_, Y7.is_ent⟩
              have j2 : of_ent W7 gy 0 = y1 := of_ent_eq Y7.is_ent
              have g1 : Has_ent W7 1 0 := ⟨_, HGp.out W7 X7.bel⟩
              have g2 : of_ent W7 1 0 = gapE := of_ent_eq (HGp.out W7 X7.bel)
              have K2 := Lib.hid (put_any { x with v := v7 } (x.p.es.take k) [y1, gapE] (some ⟨W7.heap.size, 0, none⟩) 2 2 g w _ (X7.alloc (.cells (cellsOf [y1, gapE]).toArray 51)) (Blk.new _ _ _).ents rfl (by rw [List.length_take]; have := HN.out; omega))
              clear K1 kp F Y
              go_wp2_with (first
                | (go_at_call 112; (with_reducible refine callPut K2.out ?_); intro v8 W8 X8 _
                   have K3 := Lib.hid (put_any { x with v := v8 } (x.p.es.take k ++ [y1, gapE]) l (subE x.A k x.c) (x.c - k) (x.p.es.length - k) g w W8 X8 (HL.out ▸ (HEn.out W8 X8.bel).drop HC.out) hln (by simp; have := HN.out; omega)))
                | (go_at_call 112; (with_reducible refine callPut K3.out ?_); intro v9 W9 X9 _))
              go_ret
              exact RetRun.keep HS.out X9
            · have HS := Lib.hid (show insertS L x.p x.e = .bad e2 from HSI.out.trans (if_pos hz))
              have hz' : (e2 != 0) = true := by simpa using hz
              have HZ := Lib.hid hz
              clear HSI HO HE1 hz
              go_wp2
              go_ret
              exact RetRun.bad HS.out HZ.out X6.bel
    · have HS := Lib.hid (show insertS L x.p x.e = keepR x.p (x.p.es.take k ++ [directE (entAt x.p m)] ++ x.p.es.drop (m + 1)) by rw [HSI, if_pos (by omega)]; simp)
      obtain ⟨b, off, hA, hcl⟩ := hE.ent hm
      have HEa := Lib.hid (fun W' (bb : Below w.heap.size w W') => (show Ents W' (some ⟨b, off, none⟩) x.p.es from by have := hE.below (B := 0) bb; rwa [hA] at this))
      have HI := Lib.hid hcl
      rw [hA] at KS
      have hw1 : wrap64 ((m : Int) + 1) = (m : Int) + 1 := IntWalk.wrap64_in _ (by omega)
      have hlt : (m : Int) < (x.p.es.length : Int) := by omega
      have hm1 : m + 1 ≤ x.p.es.length := by omega
      rw [Nat.zero_add] at KS
      have HX := Lib.hid h
      clear h hE hG hcl ha hk hat hc hn h0 HSI HEn HGp
      go_upto_region 6 with (go_at_call 111; (with_reducible refine callR KS.out ?_); intro w2 b2 _ _ _)
      have X2 := HX.out.step b2
      have K1 := Lib.hid (put_any x [] (x.p.es.take k) (subE (some ⟨b, off, none⟩) 0 x.c) x.c k g w w2 X2 (HEa.out _ X2.bel).take (by rw [List.length_take]; omega) (by have := HN.out; simp; omega))
      rw [List.nil_append] at K1
      clear KS b2 HX c12 c15 h1
      go_upto_region 7 with (go_at_call 112; (with_reducible refine callPut K1.out ?_); intro v3 W3 X3 _)
      have j1 : Has_ent W3 b (off + m * 20) := ⟨_, HI.out _ X3.bel⟩
      have j2 : of_ent W3 b (off + m * 20) = entAt x.p m := of_ent_eq (HI.out _ X3.bel)
      have kd := Lib.hid (edirect_any (entAt x.p m) W3)
      clear K1 X2
      go_wp2_with (first
        | (go_at_call 113; (with_reducible refine callR kd.out ?_); intro wd bd _ _ _
           have K2 := Lib.hid (put_any { x with v := v3 } (x.p.es.take k) [directE (entAt x.p m)] (some ⟨wd.heap.size, 0, none⟩) 1 1 g w _ ((X3.step bd).alloc (.cells (directE (entAt x.p m)).arr 51)) (ents1 (Blk.new _ _ _)) rfl (by rw [List.length_take]; have := HN.out; omega)))
        | (go_at_call 112; (with_reducible refine callPut K2.out ?_); intro v5 W5 X5 _
           have K3 := Lib.hid (put_any { x with v := v5 } (x.p.es.take k ++ [directE (entAt x.p m)]) (x.p.es.drop (m + 1)) (subE (some ⟨b, off, none⟩) (m + 1) x.c) (x.c - (m + 1)) (x.p.es.length - (m + 1)) g w W5 X5 ((HEa.out W5 X5.bel).drop HC.out) (by rw [List.length_drop]) (by simp; have := HN.out; omega)))
        | (go_at_call 112; (with_reducible refine callPut K3.out ?_); intro v6 W6 X6 _))
      go_ret
      exact RetRun.keep HS.out X6
end Go.Proofs.YtcgmemkkcaipfaaGreatDoor
