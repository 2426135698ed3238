/- Slices of entries in memory. -/
import Derived.Test.YtjgondadpjildaaGreatDoorPk11
namespace Go.Proofs.YtjgondadpjildaaGreatDoor
open Go.RowKit
set_option linter.unusedVariables false
set_option linter.unusedSimpArgs false

theorem Entry.leg_sub (x : Entry) : ∀ j, j < 13 → x.arr[1 + j]? = x.leg.arr[j]? := by
  intro j hj
  match j, hj with
  | 0, _ | 1, _ | 2, _ | 3, _ | 4, _ | 5, _ | 6, _ | 7, _ | 8, _ | 9, _ | 10, _ | 11, _ | 12, _ => rfl
theorem infoEntry : (Tryz.prog.info? 41).map (·.size) = some 20 := by kernel_rfl
theorem infoLeg : (Tryz.prog.info? 36).map (·.size) = some 13 := by kernel_rfl
theorem infoPlan : (Tryz.prog.info? 52).map (·.size) = some 4 := by kernel_rfl

/-- The slice (its address A) reads as the entries es. -/
structure Ents (w : World) (A : Option Addr) (es : List Entry) : Prop where
  at_ : es ≠ [] → ∃ b off, A = some ⟨b, off, none⟩ ∧ b < w.heap.size ∧ ∀ i x, es[i]? = some x → ∀ j, j < 20 → w.cell? ⟨b, off + i * 20 + j, none⟩ = x.arr[j]?
theorem Ents.get {w : World} {A : Option Addr} {es : List Entry} (h : Ents w A es) {k : Nat} (hk : k < es.length) :
    ∃ b off, A = some ⟨b, off, none⟩ ∧ b < w.heap.size ∧ ∀ j, j < 20 → w.cell? ⟨b, off + k * 20 + j, none⟩ = es[k].arr[j]? := by
  obtain ⟨b, off, rfl, hb, hc⟩ := h.at_ (by rintro rfl; simp at hk)
  exact ⟨b, off, rfl, hb, hc k _ (List.getElem?_eq_getElem hk)⟩
theorem Ents.below {w w' : World} {A : Option Addr} {es : List Entry} {B : Nat} (h : Ents w A es) (hb : Below w.heap.size w w') : Ents w' A es where
  at_ hne := by
    obtain ⟨b, off, rfl, hlt, hc⟩ := h.at_ hne
    exact ⟨b, off, rfl, Nat.lt_of_lt_of_le hlt hb.size, fun i x hx j hj => by rw [hb.cell (p := ⟨b, _, none⟩) hlt]; exact hc i x hx j hj⟩
/-- The cells of element k in a later world. -/
theorem Ents.cells {w W : World} {b off : Nat} {es : List Entry} (h : Ents w (some ⟨b, off, none⟩) es) (hB : Below w.heap.size w W) {k : Nat} (hk : k < es.length) :
    ∀ j, j < 20 → W.cell? ⟨b, off + k * 20 + j, none⟩ = es[k].arr[j]? := by
  obtain ⟨b', off', hA, hb, hc⟩ := h.get hk
  obtain ⟨rfl, rfl⟩ : b = b' ∧ off = off' := by simpa using hA
  exact fun j hj => by rw [hB.cell (p := ⟨b, _, none⟩) hb]; exact hc j hj
theorem Ents.nil (w : World) (A : Option Addr) : Ents w A [] := ⟨fun h => absurd rfl h⟩

structure Plan where
  from_ : List UInt8
  to_ : List UInt8
  es : List Entry
  active : Int
def Plan.arr (p : Plan) (A : Option Addr) (c : Nat) : Array Value := #[.string ⟨p.from_.toArray⟩, .string ⟨p.to_.toArray⟩, .slice A p.es.length c, .int .i64 p.active]
abbrev Plan.val (p : Plan) (A : Option Addr) (c : Nat) : Value := .agg (p.arr A c)
theorem Plan.arr0 (p : Plan) (A : Option Addr) (c : Nat) : (p.arr A c)[0]? = some (.string ⟨p.from_.toArray⟩) := rfl
theorem Plan.arr1 (p : Plan) (A : Option Addr) (c : Nat) : (p.arr A c)[1]? = some (.string ⟨p.to_.toArray⟩) := rfl
theorem Plan.arr2 (p : Plan) (A : Option Addr) (c : Nat) : (p.arr A c)[2]? = some (.slice A p.es.length c) := rfl
theorem Plan.arr3 (p : Plan) (A : Option Addr) (c : Nat) : (p.arr A c)[3]? = some (.int .i64 p.active) := rfl
attribute [go_sem] Plan.arr0 Plan.arr1 Plan.arr2 Plan.arr3
structure Plan.small (p : Plan) : Prop where
  from_ : p.from_.length ≤ 4000000000
  to_ : p.to_.length ≤ 4000000000
  len : p.es.length ≤ 4000000000
  each : ∀ x ∈ p.es, x.small

def findGo (at_ : Int) (ref : List UInt8) : List Entry → Nat → Int
  | [], _ => -1
  | x :: r, i => if decide (at_ ≤ i) && !x.gap && endsB x.leg.ty && x.leg.fix == ref then i else findGo at_ ref r (i + 1)
def findE (p : Plan) (at_ : Int) (ref : List UInt8) : Int := findGo at_ ref p.es 0
end Go.Proofs.YtjgondadpjildaaGreatDoor
