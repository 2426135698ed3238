/- Lemmas and walks. -/
import Derived.Test.YtnmpfmelaninbaaGreatDoorQk25
import Derived.Test.YtnmpfmelaninbaaGreatDoorQk16
import Derived.Test.YtnmpfmelaninbaaGreatDoorQk09
set_option linter.unusedSimpArgs false
set_option linter.unusedVariables false
namespace Go.Proofs.YtnmpfmelaninbaaGreatDoor
open Go.RowKit
def SmL (n : Nat) (l : List Entry) : Prop := l.length ≤ n ∧ ∀ x ∈ l, x.small
theorem SmL.nil (n : Nat) : SmL n [] := ⟨Nat.zero_le _, fun x h => by cases h⟩
theorem SmL.append {n m : Nat} {a b : List Entry} (h : SmL n a) (k : SmL m b) : SmL (n + m) (a ++ b) :=
  ⟨by rw [List.length_append]; have := h.1; have := k.1; omega, fun x hx => (List.mem_append.1 hx).elim (h.2 x) (k.2 x)⟩
theorem SmL.mono {n m : Nat} {a : List Entry} (h : SmL n a) (k : n ≤ m) : SmL m a := ⟨Nat.le_trans h.1 k, h.2⟩
theorem SmL.take {n : Nat} {a : List Entry} (h : SmL n a) (k : Nat) : SmL n (a.take k) := ⟨by rw [List.length_take]; have := h.1; omega, fun x hx => h.2 x (List.mem_of_mem_take hx)⟩
theorem SmL.drop {n : Nat} {a : List Entry} (h : SmL n a) (k : Nat) : SmL n (a.drop k) := ⟨by rw [List.length_drop]; have := h.1; omega, fun x hx => h.2 x (List.mem_of_mem_drop hx)⟩
theorem SmL.one {x : Entry} (h : x.small) : SmL 1 [x] := ⟨Nat.le_refl _, fun y hy => by
  obtain rfl : y = x := by simpa using hy
  exact h⟩
theorem gapE_small : gapE.small := ⟨⟨by simp [gapE], by simp [gapE]⟩, by simp [gapE]⟩
theorem directE_small {x : Entry} (h : x.small) : (directE x).small := ⟨⟨h.leg.fix, by simp [directE]⟩, h.via⟩
theorem entAt_small {p : Plan} (h : ∀ x ∈ p.es, x.small) (k : Nat) : (entAt p k).small := by
  unfold entAt
  rw [List.getD_eq_getElem?_getD]
  cases hq : p.es[k]? with
  | none => exact gapE_small
  | some x => exact h x (List.mem_of_getElem? hq)
theorem toLeg_small {t : Int} {f : List UInt8} (h : f.length ≤ 4000000000) : (toLeg t f).small := ⟨h, by simp [toLeg]⟩
theorem startForm_small {x : Entry} (h : x.small) : (startForm x).small := ⟨⟨h.leg.fix, by simp [startForm]⟩, h.via⟩
theorem zeroE_small : zeroE.small := ⟨⟨by simp [zeroE], by simp [zeroE]⟩, by simp [zeroE]⟩
theorem startOf_small {x : Entry} (h : x.small) : (startOf x).1.small := by
  unfold startOf
  split
  · exact h
  · split
    · exact startForm_small h
    · exact zeroE_small
theorem joinNew_small {out : List Entry} {pb : Bool} {x : Entry} (ho : ∀ y ∈ out, y.small) (h : x.small) : ∀ y ∈ (joinNew out pb x).1, y.small := by
  unfold joinNew
  intro y hy
  split at hy
  · rcases List.mem_append.1 hy with hy | hy
    · split at hy
      · exact ho y hy
      · rcases List.mem_append.1 hy with hy | hy
        · exact ho y hy
        · obtain rfl : y = gapE := by simpa using hy
          exact gapE_small
    · obtain rfl : y = (startOf x).1 := by simpa using hy
      exact startOf_small h
  · exact ho y hy
theorem joinStep_small {out : List Entry} {pb : Bool} {x : Entry} (ho : ∀ y ∈ out, y.small) (h : x.small) : ∀ y ∈ (joinStep out pb x).1, y.small := by
  unfold joinStep
  split
  · exact ho
  · split
    · exact joinNew_small ho h
    · split
      · exact joinNew_small ho h
      · split
        · exact ho
        · split
          · intro y hy
            rcases List.mem_append.1 hy with hy | hy
            · exact ho y hy
            · obtain rfl : y = x := by simpa using hy
              exact h
          · exact joinNew_small ho h
theorem joinGo_small : ∀ (r out : List Entry) (pb : Bool), (∀ y ∈ out, y.small) → (∀ y ∈ r, y.small) → ∀ y ∈ joinGo out pb r, y.small
  | [], _, _, ho, _ => ho
  | x :: r, out, pb, ho, h => joinGo_small r _ _ (joinStep_small ho (h x (by simp))) fun y hy => h y (List.mem_cons_of_mem _ hy)
theorem joinE_small {l : List Entry} {n : Nat} (h : SmL n l) : SmL (2 * n) (joinE l) := ⟨Nat.le_trans (joinE_len l) (by have := h.1; omega), joinGo_small l [] false (fun y hy => by cases hy) h.2⟩
structure Look.ok (L : Look) : Prop where
  place : ∀ s, (L.place s).1.length ≤ 4000000000
  way : ∀ n a b, (L.way n a b).1.length ≤ 100000 ∧ ∀ q ∈ (L.way n a b).1, q.1.length ≤ 4000000000
  proc : ∀ a k n t, ((L.proc a k n t).1.1.length ≤ 100000 ∧ ∀ l ∈ (L.proc a k n t).1.1, l.small) ∧ ((L.proc a k n t).1.2.length ≤ 100000 ∧ ∀ l ∈ (L.proc a k n t).1.2, l.small)
theorem bindS_small {pt : List UInt8 → (Int × Int) × Int} {legs : List Leg} {s : Int} {via : List UInt8} {n : Nat} (hl : legs.length ≤ n) (h : ∀ l ∈ legs, l.small) (hv : via.length ≤ 4000000000) : SmL n (bindS pt legs s via).1 := by
  unfold bindS
  split
  · exact .nil _
  · split
    · exact .nil _
    · split
      · refine ⟨by simpa using hl, fun x hx => ?_⟩
        obtain ⟨l, hm, rfl⟩ := List.mem_map.1 hx
        exact ⟨h l hm, hv⟩
      · exact .nil _
theorem oneS_small {L : Look} {t s : Int} {ref via : List UInt8} (h : ref.length ≤ 4000000000) (hv : via.length ≤ 4000000000) : SmL 1 (oneS L t ref s via).1 :=
  bindS_small (by simp) (fun l hl => by obtain rfl : l = toLeg t ref := by simpa using hl
                                        exact toLeg_small h) hv
theorem setLeg_small {e : EditV} {x : Entry} (h : x.small) : (setLeg e x).small := by
  unfold setLeg
  split
  · exact ⟨⟨h.leg.fix, h.leg.center⟩, h.via⟩
  · split
    · exact ⟨⟨h.leg.fix, h.leg.center⟩, h.via⟩
    · exact ⟨⟨h.leg.fix, h.leg.center⟩, h.via⟩
theorem keepSec_small {s : Int} : ∀ {l : List Entry} {n : Nat}, SmL n l → SmL n (keepSec s l)
  | [], _, _ => .nil _
  | x :: r, 0, h => by have := h.1; simp at this
  | x :: r, n + 1, h => by
    unfold keepSec
    split
    · exact .nil _
    · have ih := keepSec_small (s := s) (l := r) (n := n) ⟨by have := h.1; simpa using this, fun y hy => h.2 y (List.mem_cons_of_mem _ hy)⟩
      have := (SmL.one (h.2 x (by simp))).append ih
      exact this.mono (by omega)
theorem restDep_small {n : Nat} : ∀ {l rest : List Entry}, SmL n rest → SmL n l → SmL n (restDep rest l)
  | [], _, h, _ => h
  | x :: r, rest, h, k => by
    unfold restDep
    have k' : SmL n r := ⟨by have := k.1; simp at this; omega, fun y hy => k.2 y (List.mem_cons_of_mem _ hy)⟩
    split
    · exact restDep_small k' k'
    · exact restDep_small h k'
theorem restFirst_small {n : Nat} {l : List Entry} (h : SmL n l) : SmL n (restFirst l) := by
  cases l with
  | nil => exact h
  | cons x r =>
    show SmL n (if !x.gap && x.leg.ty == 1 then r else x :: r)
    split
    · exact ⟨by have := h.1; simp at this; omega, fun y hy => h.2 y (List.mem_cons_of_mem _ hy)⟩
    · exact h
theorem reopenE_small {n : Nat} {l : List Entry} (h : SmL n l) : SmL n (reopenE l) := by
  cases l with
  | nil => exact h
  | cons x r =>
    show SmL n (if x.leg.ty == 1 then directE x :: r else x :: r)
    split
    · refine ⟨by have := h.1; simpa using this, fun y hy => ?_⟩
      rcases List.mem_cons.1 hy with rfl | hy
      · exact directE_small (h.2 x (by simp))
      · exact h.2 y (List.mem_cons_of_mem _ hy)
    · exact h
theorem SmL.dropLast {n : Nat} {l : List Entry} (h : SmL n l) : SmL n l.dropLast := ⟨by rw [List.length_dropLast]; have := h.1; omega, fun x hx => h.2 x ((List.dropLast_sublist l).subset hx)⟩
theorem withB_len {a b : List UInt8} {c : UInt8} (ha : a.length ≤ 1000000000) (hb : b.length ≤ 1000000000) : (withB a c b).length ≤ 4000000000 := by
  unfold withB; split
  · omega
  · simp; omega
structure ShortE (p : Plan) (e : EditV) : Prop where
  len : p.es.length ≤ 60
  each : ∀ x ∈ p.es, x.small
  ref : e.ref.length ≤ 1000000000
  name : e.name.length ≤ 1000000000
  rway : e.rway.length ≤ 1000000000
  trans : e.trans.length ≤ 1000000000
  from_ : p.from_.length ≤ 1000000000
  to_ : p.to_.length ≤ 1000000000
def EdR.sm (r : EdR) : Prop := SmL 300300 r.list ∧ r.from_.length ≤ 4000000000 ∧ r.to_.length ≤ 4000000000
theorem EdR.sm_bad (n : Int) : (EdR.bad n).sm := ⟨.nil _, by simp [EdR.bad], by simp [EdR.bad]⟩
theorem keepR_sm {p : Plan} {e : EditV} {l : List Entry} (hs : ShortE p e) (h : SmL 300300 l) : (keepR p l).sm := ⟨h, by have := hs.from_; show p.from_.length ≤ _; omega, by have := hs.to_; show p.to_.length ≤ _; omega⟩
theorem rwayS_len {a b : List UInt8} (ha : a.length ≤ 1000000000) (hb : b.length ≤ 1000000000) : (rwayS a b).length ≤ 4000000000 := by
  unfold rwayS; split
  · omega
  · have := (cutAt_len 47 a).1
    simp; omega
set_option maxHeartbeats 4000000 in
theorem runS_sm {L : Look} {p : Plan} {e : EditV} (hs : ShortE p e) (hL : L.ok) : (runS L p e).sm := by
  have hp : SmL 60 p.es := ⟨hs.len, hs.each⟩
  have hn : e.name.length ≤ 4000000000 := by have := hs.name; omega
  have hr : e.ref.length ≤ 4000000000 := by have := hs.ref; omega
  have hf : p.from_.length ≤ 4000000000 := by have := hs.from_; omega
  have ht : p.to_.length ≤ 4000000000 := by have := hs.to_; omega
  unfold runS
  split
  · exact EdR.sm_bad _
  split
  · unfold insertS
    split
    · exact EdR.sm_bad _
    · split
      · exact keepR_sm hs ((((hp.take _).append (.one (directE_small (entAt_small hs.each _)))).append (hp.drop _)).mono (by omega))
      · split
        · exact EdR.sm_bad _
        · exact keepR_sm hs ((((hp.take _).append ((oneS_small hr (by simp)).append (.one gapE_small))).append (hp.drop _)).mono (by omega))
  split
  · unfold deleteS
    split
    · exact EdR.sm_bad _
    · split
      · exact keepR_sm hs (((hp.take _).append (reopenE_small (hp.drop _))).mono (by omega))
      · exact keepR_sm hs ((((hp.take _).append (.one gapE_small)).append (hp.drop _)).mono (by omega))
  split
  · unfold directS
    split
    · exact EdR.sm_bad _
    · split
      · exact EdR.sm_bad _
      · refine ⟨?_, hf, ht⟩
        show SmL _ (if _ then _ else _)
        have hx := entAt_small hs.each e.at_.toNat
        split
        · exact ((SmL.one (x := ⟨false, toLeg 4 (entAt p e.at_.toNat).leg.fix, (entAt p e.at_.toNat).ex, (entAt p e.at_.toNat).ey, 0, 0, (entAt p e.at_.toNat).sec, (entAt p e.at_.toNat).via⟩) ⟨toLeg_small hx.leg.fix, hx.via⟩).append (hp.drop _)).mono (by omega)
        · exact ((SmL.one (directE_small hx)).append (hp.drop _)).mono (by omega)
  split
  · unfold setS
    split
    · exact EdR.sm_bad _
    · split
      · exact EdR.sm_bad _
      · refine keepR_sm hs ⟨by rw [List.length_set]; have := hs.len; omega, fun x hx => ?_⟩
        rcases List.mem_or_eq_of_mem_set hx with hx | rfl
        · exact hs.each x hx
        · exact setLeg_small (entAt_small hs.each _)
  split
  · unfold holdS
    split
    · exact EdR.sm_bad _
    · split
      · exact EdR.sm_bad _
      · split
        · exact EdR.sm_bad _
        · have hx := entAt_small hs.each e.at_.toNat
          exact keepR_sm hs ((((hp.take _).append (.one (x := holdE e (entAt p e.at_.toNat)) ⟨⟨hx.leg.fix, by simp [holdE]⟩, by simp [holdE]⟩)).append (hp.drop _)).mono (by omega))
  split
  · unfold joinS
    split
    · exact EdR.sm_bad _
    · split
      · exact EdR.sm_bad _
      · split
        · exact EdR.sm_bad _
        · obtain ⟨w1, w2⟩ := hL.way e.name (entAt p e.at_.toNat).leg.fix e.ref
          have hb := bindS_small (pt := L.pt) (legs := (L.way e.name (entAt p e.at_.toNat).leg.fix e.ref).1.map fun q => { toLeg 2 q.1 with lo := q.2.1, hi := q.2.2 }) (s := (entAt p e.at_.toNat).sec) (via := e.name) (n := 100000) (by simpa using w1) (fun l hl => by
            obtain ⟨q, hq, rfl⟩ := List.mem_map.1 hl
            exact ⟨w2 q hq, by simp [toLeg]⟩) hn
          dsimp only
          split
          · exact EdR.sm_bad _
          · split
            · exact keepR_sm hs ((((hp.take _).append hb).append (hp.drop _)).mono (by omega))
            · exact keepR_sm hs (((((hp.take _).append hb).append (.one gapE_small)).append (hp.drop _)).mono (by omega))
  split
  · unfold departS
    split
    · exact EdR.sm_bad _
    · split
      · exact EdR.sm_bad _
      · dsimp only
        have hfr := rwayS_len hs.from_ hs.rway
        have hw := withB_len (c := 46) hs.name hs.trans
        obtain ⟨⟨p1, p2⟩, _⟩ := hL.proc (rwayS p.from_ e.rway) 1 e.name e.trans
        have h1 := oneS_small (L := L) (t := 1) (s := 1) (hL.place (rwayS p.from_ e.rway)) hw
        have h2 := bindS_small (pt := L.pt) (s := 1) p1 p2 hw
        have hall := h1.append h2
        have hrest := restDep_small (restFirst_small hp) hp
        split
        · exact EdR.sm_bad _
        split
        · exact EdR.sm_bad _
        split
        · exact EdR.sm_bad _
        split
        · exact EdR.sm_bad _
        split
        · exact ⟨((hall.append (hrest.drop _))).mono (by omega), hfr, ht⟩
        · exact ⟨(((hall.append (.one gapE_small)).append hrest)).mono (by omega), hfr, ht⟩
  have harr : ∀ kind s, (arriveS L p e kind s).sm := by
    intro kind s
    unfold arriveS
    split
    · exact EdR.sm_bad _
    split
    · exact EdR.sm_bad _
    dsimp only
    generalize hto : (if kind = 2 then rwayS p.to_ e.rway else p.to_) = to_
    have hto2 : to_.length ≤ 4000000000 := by
      rw [← hto]; split
      · exact rwayS_len hs.to_ hs.rway
      · exact ht
    have hw := withB_len (c := 46) hs.name hs.trans
    obtain ⟨⟨p1, p2⟩, p3, p4⟩ := hL.proc to_ kind e.name e.trans
    have hy := bindS_small (pt := L.pt) (s := s) p1 p2 hw
    have h1 := oneS_small (L := L) (t := 2) (s := s) (via := []) (hL.place to_) (by simp)
    have hm : SmL 100000 (if kind = 3 then bindS L.pt (L.proc to_ kind e.name e.trans).1.2 5 (withB e.name 46 e.trans) else ([], 0)).1 := by
      split
      · exact bindS_small p3 p4 hw
      · exact .nil _
    have hk0 := keepSec_small (s := s) hp
    split
    · exact EdR.sm_bad _
    split
    · exact EdR.sm_bad _
    split
    · exact EdR.sm_bad _
    split
    · exact EdR.sm_bad _
    generalize (if kind = 3 then bindS L.pt (L.proc to_ kind e.name e.trans).1.2 5 (withB e.name 46 e.trans) else ([], 0)) = mm at hm
    split
    · exact EdR.sm_bad _
    refine ⟨?_, hf, hto2⟩
    refine SmL.mono (n := 61 + 100000 + 1 + 100000) ?_ (by omega)
    refine SmL.append (SmL.append (SmL.append ?_ hy) h1) hm
    have hkeep : ∀ b : Bool, SmL 60 (if b then (keepSec s p.es).dropLast else keepSec s p.es) := fun b => by
      cases b
      · exact hk0
      · exact hk0.dropLast
    have hk : ∀ keep, SmL 60 keep → ∀ j : Int, SmL 61 (if 0 ≤ j then keep.take (j.toNat + 1) else keep ++ [gapE]) := fun keep hk j => by
      split
      · exact SmL.mono (n := 60) (hk.take _) (by omega)
      · exact hk.append (.one gapE_small)
    exact hk _ (hkeep _) _
  split
  · exact harr _ _
  split
  · exact harr _ _
  · unfold divertS
    split
    · exact EdR.sm_bad _
    · split
      · exact EdR.sm_bad _
      · split
        · exact EdR.sm_bad _
        · dsimp only
          split
          · exact EdR.sm_bad _
          · exact ⟨((hp.take _).append (oneS_small (hL.place _) (by simp))).mono (by omega), hf, hn⟩
end Go.Proofs.YtnmpfmelaninbaaGreatDoor
