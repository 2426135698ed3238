/- Lemmas and walks. -/
import Derived.Test.YtgoeedohgomodaaGreatDoorPk02
import Derived.Test.YtgoeedohgomodaaGreatDoorPk03
import Derived.Deep.MidRow
import Derived.Deep.WholeRow
import Derived.Deep.Light
import Derived.Test.YtgoeedohgomodaaGreatDoorPk05
set_option linter.unusedSimpArgs false
set_option linter.unusedVariables false
namespace Go.Proofs.YtgoeedohgomodaaGreatDoor
open Go.RowKit
def placedB (x : Entry) : Bool := (x.leg.fix.isEmpty && !(x.ex == 0 && x.ey == 0)) || (x.leg.center.isEmpty && !(x.mx == 0 && x.my == 0))
def alone2 (x : Entry) : Int :=
  if !sectionB x.sec then 17 else if !viaB x.via then 5 else if !pointB x.ex x.ey || !pointB x.mx x.my then 2 else if placedB x then 1 else 0
def aloneE (x : Entry) : Int := orE (legCheck x.leg) (alone2 x)
set_option maxHeartbeats 2000000 in
set_option maxRecDepth 100000 in
theorem alone_any (x : Entry) (w : World) (hL : Laid w) (hx : x.small) : Calls Tryz.prog 52 #[x.val] w (Ret w (.int .i64 (aloneE x))) := by
  have hO0 := Own1.mk0 w x.arr 69
  go_enter Tryz.func52, Tryz.ntmps52
  go_upto_region 1 with (fail)
  generalize w.alloc _ = W at hO0 ⊢
  have hc0 := hO0.cell
  have hlt0 := hO0.lt
  go_wp2_with (first
    | (go_at_call 98; refine callO (by assumption) (check_any x.leg _ (hL.below (Own1.below (by assumption))) hx.leg) ?_; intro w1 hO1 hc1 hlt1)
    | (go_at_call 99; refine callP (section_any _ _) ?_)
    | (go_at_call 100; refine callOQ (by assumption) (way_any _ _ (hL.below (Own1.below (by assumption))) hx.via) ?_; intro w2 hO2 hc2 hlt2)
    | (go_at_call 101; refine callO (by assumption) (valid_any _ _ _) ?_; intro w3 hO3 hc3 hlt3))
  all_goals (go_ret; refine Ret.int ?_ (Own1.below (cs := x.arr) (by first | assumption | exact Own1.drewN (by assumption) _ | exact Own1.alloc (by assumption) _)); go_light; first | (simp [aloneE, alone2, placedB, orE, *]; done) | grind [aloneE, alone2, placedB, orE])
end Go.Proofs.YtgoeedohgomodaaGreatDoor
namespace Go.Proofs.YtgoeedohgomodaaGreatDoor
open Go.RowKit

theorem Entry.leg_sub (x : Entry) : ∀ j, j < 13 → x.arr[1 + j]? = x.leg.arr[j]? := by
  intro j hj
  match j, hj with
  | 0, _ | 1, _ | 2, _ | 3, _ | 4, _ | 5, _ | 6, _ | 7, _ | 8, _ | 9, _ | 10, _ | 11, _ | 12, _ => rfl
theorem infoEntry : (Tryz.prog.info? 69).map (·.size) = some 20 := by kernel_rfl
theorem infoLeg : (Tryz.prog.info? 64).map (·.size) = some 13 := by kernel_rfl
structure Ents (w : World) (A : Option Addr) (es : List Entry) : Prop where
  at_ : es ≠ [] → ∃ b off, A = some ⟨b, off, none⟩ ∧ b < w.heap.size ∧ ∀ i x, es[i]? = some x → ∀ j, j < 20 → w.cell? ⟨b, off + i * 20 + j, none⟩ = x.arr[j]?
theorem Ents.get {w : World} {A : Option Addr} {es : List Entry} (h : Ents w A es) {k : Nat} (hk : k < es.length) :
    ∃ b off, A = some ⟨b, off, none⟩ ∧ b < w.heap.size ∧ ∀ j, j < 20 → w.cell? ⟨b, off + k * 20 + j, none⟩ = es[k].arr[j]? := by
  obtain ⟨b, off, rfl, hb, hc⟩ := h.at_ (by rintro rfl; simp at hk)
  exact ⟨b, off, rfl, hb, hc k _ (List.getElem?_eq_getElem hk)⟩
theorem Ents.below {w w' : World} {A : Option Addr} {es : List Entry} {B : Nat} (h : Ents w A es) (hb : Below w.heap.size w w') : Ents w' A es where
  at_ hne := by
    obtain ⟨b, off, rfl, hlt, hc⟩ := h.at_ hne
    exact ⟨b, off, rfl, Nat.lt_of_lt_of_le hlt hb.size, fun i x hx j hj => by rw [hb.cell (p := ⟨b, _, none⟩) hlt]; exact hc i x hx j hj⟩
theorem Ents.cells {w W : World} {b off : Nat} {es : List Entry} (h : Ents w (some ⟨b, off, none⟩) es) (hB : Below w.heap.size w W) {k : Nat} (hk : k < es.length) :
    ∀ j, j < 20 → W.cell? ⟨b, off + k * 20 + j, none⟩ = es[k].arr[j]? := by
  obtain ⟨b', off', hA, hb, hc⟩ := h.get hk
  obtain ⟨rfl, rfl⟩ : b = b' ∧ off = off' := by simpa using hA
  exact fun j hj => by rw [hB.cell (p := ⟨b, _, none⟩) hb]; exact hc j hj
theorem Ents.nil (w : World) (A : Option Addr) : Ents w A [] := ⟨fun h => absurd rfl h⟩

structure Plan where
  from_ : List UInt8
  to_ : List UInt8
  es : List Entry
  active : Int
def Plan.arr (p : Plan) (A : Option Addr) (c : Nat) : Array Value := #[.string ⟨p.from_.toArray⟩, .string ⟨p.to_.toArray⟩, .slice A p.es.length c, .int .i64 p.active]
abbrev Plan.val (p : Plan) (A : Option Addr) (c : Nat) : Value := .agg (p.arr A c)
theorem Plan.arr0 (p : Plan) (A : Option Addr) (c : Nat) : (p.arr A c)[0]? = some (.string ⟨p.from_.toArray⟩) := rfl
theorem Plan.arr1 (p : Plan) (A : Option Addr) (c : Nat) : (p.arr A c)[1]? = some (.string ⟨p.to_.toArray⟩) := rfl
theorem Plan.arr2 (p : Plan) (A : Option Addr) (c : Nat) : (p.arr A c)[2]? = some (.slice A p.es.length c) := rfl
theorem Plan.arr3 (p : Plan) (A : Option Addr) (c : Nat) : (p.arr A c)[3]? = some (.int .i64 p.active) := rfl
attribute [go_sem] Plan.arr0 Plan.arr1 Plan.arr2 Plan.arr3
structure Plan.small (p : Plan) : Prop where
  from_ : p.from_.length ≤ 4000000000
  to_ : p.to_.length ≤ 4000000000
  len : p.es.length ≤ 4000000000
  each : ∀ x ∈ p.es, x.small

def findGo (at_ : Int) (ref : List UInt8) : List Entry → Nat → Int
  | [], _ => -1
  | x :: r, i => if decide (at_ ≤ i) && !x.gap && endsB x.leg.ty && x.leg.fix == ref then i else findGo at_ ref r (i + 1)
def findE (p : Plan) (at_ : Int) (ref : List UInt8) : Int := findGo at_ ref p.es 0
end Go.Proofs.YtgoeedohgomodaaGreatDoor
namespace Go.Proofs.YtgoeedohgomodaaGreatDoor
open Go.RowKit
set_option maxHeartbeats 2000000 in
set_option maxRecDepth 100000 in
theorem find_any (p : Plan) (A : Option Addr) (c : Nat) (at_ : Int) (ref : List UInt8) (w : World) (hs : p.small) (hc : p.es.length ≤ c) (hE : Ents w A p.es) :
   Calls Tryz.prog 24 #[p.val A c, .int .i64 at_, .string ⟨ref.toArray⟩] w (Ret w (.int .i64 (findE p at_ ref))) := by
  have hn := hs.len
  have hO0 := Own1.mk0 w (p.arr A c) 43
  go_enter Tryz.func24, Tryz.ntmps24
  go_upto_region 1 with (fail)
  generalize w.alloc _ = W at hO0 ⊢
  have hc0 := hO0.cell
  have hlt0 := hO0.lt
  go_wp2
  go_loopw [12] (fun i wr => ∃ k : Nat, k ≤ p.es.length ∧ i = .int .i64 k ∧ findE p at_ ref = findGo at_ ref (p.es.drop k) k ∧ Own1 w (p.arr A c) wr) (fun i _ => p.es.length - (intOf i).toNat)
  case atStart => exact ⟨0, by omega, rfl, rfl, hO0⟩
  case round =>
    obtain ⟨k, hk, rfl, hq, hO⟩ := hrel
    have HQ := Lib.hid hq; clear hq
    by_cases hlt : k < p.es.length
    · obtain ⟨b, off, hA, hb, he⟩ := hE.get hlt
      subst hA
      have hd := Lib.hid (List.drop_eq_getElem_cons hlt)
      generalize p.es[k] = x at he hd
      have e1 : ∀ j, j < 20 → wr.cell? ⟨b, off + k * 20 + j, none⟩ = x.arr[j]? := fun j hj => by rw [hO.below.cell (p := ⟨b, _, none⟩) hb]; exact he j hj
      have e0 : wr.cell? ⟨b, off + k * 20, none⟩ = some (.bool x.gap) := e1 0 (by omega)
      clear he hc0 hlt0 hO0
      have hc1 := hO.cell
      have hlt1 := hO.lt
      go_wp2_with (first
        | (go_at_call 47; refine callP (ends_any _ _) ?_)
        | ((with_reducible refine at_load 69 (.tmp 15) rfl ?_); refine wpList_load_arr rfl 69 (.tmp 15) rfl b (off + k * 20) rfl x.arr _ _ rfl e1 Tryz.underlying69 rfl infoEntry ?_)
        | ((with_reducible refine at_store 69 (.tmp 8) (.tmp 16) rfl ?_); refine wpList_store_new rfl 69 (.tmp 8) (.tmp 16) rfl _ x.arr rfl rfl 20 infoEntry (x).arr_size rfl (x).arr_one ?_))
      all_goals first
        | (go_ret; exact Ret.int (by have h1 := HQ.out; have h2 := hd.out; clear HQ hd e1 e0 hc1; go_light; grind [findGo]) (hO.alloc _).below)
        | (go_roundw
           case rel => exact ⟨k + 1, by omega, by go_num, by have h1 := HQ.out; have h2 := hd.out; clear HQ hd e1 e0 hc1; go_light; grind [findGo], hO.alloc _⟩
           case measure => simp [intOf]; omega)
    · go_wp2
      go_ret
      exact Ret.int (by rw [HQ.out, List.drop_of_length_le (by omega)]; rfl) hO.below
end Go.Proofs.YtgoeedohgomodaaGreatDoor
