/- The errors of an entry by itself, of the program and of the reference. Slices of entries in memory. -/
import Derived.Test.YtjijpkimlgbepaaGreatDoorPk06
import Derived.Test.YtjijpkimlgbepaaGreatDoorPk10
import Derived.Test.YtjijpkimlgbepaaGreatDoorPk12
namespace Go.Proofs.YtjijpkimlgbepaaGreatDoor
open Go.RowKit
set_option linter.unusedVariables false
set_option linter.unusedSimpArgs false
def placedB (x : Entry) : Bool := (x.leg.fix.isEmpty && !(x.ex == 0 && x.ey == 0)) || (x.leg.center.isEmpty && !(x.mx == 0 && x.my == 0))
def alone2 (x : Entry) : Int :=
  if !sectionB x.sec then 17 else if !viaB x.via then 5 else if !pointB x.ex x.ey || !pointB x.mx x.my then 2 else if placedB x then 1 else 0
def aloneE (x : Entry) : Int := orE (legCheck x.leg) (alone2 x)
end Go.Proofs.YtjijpkimlgbepaaGreatDoor
namespace Go.Proofs.YtjijpkimlgbepaaGreatDoor
open Go.RowKit
set_option linter.unusedVariables false
set_option linter.unusedSimpArgs false

section
variable {P : Program}
theorem addr_add (b o j : Nat) : (⟨b, o, none⟩ : Addr).add j = ⟨b, o + j, none⟩ := by unfold Addr.add; split <;> simp_all
/-- Guards: is the next operation this load, this store? -/
theorem at_load {ops : Array Oper} {rest : List Oper} {op : Oper} {a : Act} {w : World} {Q : Exit → Act → World → Prop} (ty : TypeId) (x : Operand) (ho : op.op = .load ty x) (h : wpList P ops Q (op :: rest) a w) : wpList P ops Q (op :: rest) a w := h
theorem at_store {ops : Array Oper} {rest : List Oper} {op : Oper} {a : Act} {w : World} {Q : Exit → Act → World → Prop} (ty : TypeId) (x y : Operand) (ho : op.op = .store ty x y) (h : wpList P ops Q (op :: rest) a w) : wpList P ops Q (op :: rest) a w := h
/-- A struct out of memory, its cells whatever. -/
theorem wpList_load_arr {ops : Array Oper} {rest : List Oper} {op : Oper} {a : Act} {w : World} {Q : Exit → Act → World → Prop} (hgd : op.guard = none) (ty : TypeId) (x : Operand) (ho : op.op = .load ty x)
    (b o : Nat) (hx : a.eval x = .pointer (some ⟨b, o, none⟩)) (arr : Array Value) (n : Nat) (d : TypeDesc) (hn : arr.size = n) (hc : ∀ j, j < n → w.cell? ⟨b, o + j, none⟩ = arr[j]?)
    (hu : P.underlying ty = some d) (hd : (match d with | .struct _ | .array _ _ => true | _ => false) = true) (hi : (P.info? ty).map (·.size) = some n)
    (h : wpList P ops Q rest (a.put op.dst (.agg arr)) w) : wpList P ops Q (op :: rest) a w := by
  subst hn
  refine wpList_load_agg hgd ty x ho ⟨b, o, none⟩ hx arr.toList d ?_ hu hd (by simpa using hi) (by simpa using h)
  intro j v hv
  rw [addr_add, hc j (by have := (List.getElem?_eq_some_iff.1 hv).1; simpa using this)]
  simpa using hv
end
/-- Block g holds the cells cs. -/
structure Boxed (w : World) (g : Nat) (cs : Array Value) : Prop where
  lt : g < w.heap.size
  cell : ∀ j, w.cell? ⟨g, j, none⟩ = cs[j]?
theorem Boxed.step {W w1 : World} {g : Nat} {cs : Array Value} (h : Boxed W g cs) (hb : Below W.heap.size W w1) : Boxed w1 g cs :=
  ⟨Nat.lt_of_lt_of_le h.lt hb.size, fun j => by rw [hb.cell (p := ⟨g, j, none⟩) h.lt]; exact h.cell j⟩
theorem Boxed.new (w : World) (cs : Array Value) (t : TypeId) : Boxed (w.alloc (.cells cs t)) w.heap.size cs :=
  ⟨by simp, fun j => cell_of_row _ _ j cs t (0, 0) (heap_alloc_new w _)⟩
theorem Boxed.alloc {W : World} {g : Nat} {cs : Array Value} (h : Boxed W g cs) (o : Obj) : Boxed (W.alloc o) g cs := h.step ((Below.refl _ _).alloc (Nat.le_refl _) _)
theorem Boxed.drewN {W : World} {g : Nat} {cs : Array Value} (h : Boxed W g cs) (n : Nat) : Boxed (W.drewN n) g cs := h.step (below_drewN (Below.refl _ _) n)
theorem Own1.boxed {w W : World} {cs : Array Value} (h : Own1 w cs W) : Boxed W w.heap.size cs := ⟨h.lt, h.cell⟩
theorem Boxed.own {w W : World} {cs : Array Value} (h : Boxed W w.heap.size cs) (hB : Below w.heap.size w W) : Own1 w cs W := ⟨hB, h.lt, h.cell⟩
theorem Boxed.at {W : World} {g : Nat} {cs : Array Value} (h : Boxed W g cs) (o : Nat) (sub : Array Value) (n : Nat) (hs : ∀ j, j < n → cs[o + j]? = sub[j]?) : ∀ j, j < n → W.cell? ⟨g, o + j, none⟩ = sub[j]? :=
  fun j hj => (h.cell _).trans (hs j hj)
theorem below_step {w W w1 : World} (h : Below w.heap.size w W) (hb : Below W.heap.size W w1) : Below w.heap.size w w1 := h.trans (hb.mono h.size)
theorem Entry.leg_sub (x : Entry) : ∀ j, j < 13 → x.arr[1 + j]? = x.leg.arr[j]? := by
  intro j hj
  match j, hj with
  | 0, _ | 1, _ | 2, _ | 3, _ | 4, _ | 5, _ | 6, _ | 7, _ | 8, _ | 9, _ | 10, _ | 11, _ | 12, _ => rfl
section
variable {P : Program}
/-- A call that may make memory, in a world with two boxes. -/
theorem call2 {f : FuncId} {args : Array Value} {w W : World} {v : Value} {K : Ending → World → Prop} {g1 g2 : Nat} {c1 c2 : Array Value} (h1 : Boxed W g1 c1) (h2 : Boxed W g2 c2) (hB : Below w.heap.size w W) (h : Calls P f args W (Ret W v))
    (k : ∀ w', Boxed w' g1 c1 → Boxed w' g2 c2 → Below w.heap.size w w' → (∀ j, w'.cell? ⟨g1, j, none⟩ = c1[j]?) → (∀ j, w'.cell? ⟨g2, j, none⟩ = c2[j]?) → K (.returned v) w') : Calls P f args W K :=
  h.mono fun e w' ⟨he, hw⟩ => by subst he; exact k w' (h1.step hw) (h2.step hw) (below_step hB hw) (h1.step hw).cell (h2.step hw).cell
theorem call3 {f : FuncId} {args : Array Value} {w W : World} {v : Value} {K : Ending → World → Prop} {g1 g2 g3 : Nat} {c1 c2 c3 : Array Value} (h1 : Boxed W g1 c1) (h2 : Boxed W g2 c2) (h3 : Boxed W g3 c3) (hB : Below w.heap.size w W) (h : Calls P f args W (Ret W v))
    (k : ∀ w', Boxed w' g1 c1 → Boxed w' g2 c2 → Boxed w' g3 c3 → Below w.heap.size w w' → (∀ j, w'.cell? ⟨g1, j, none⟩ = c1[j]?) → (∀ j, w'.cell? ⟨g2, j, none⟩ = c2[j]?) → (∀ j, w'.cell? ⟨g3, j, none⟩ = c3[j]?) → K (.returned v) w') : Calls P f args W K :=
  h.mono fun e w' ⟨he, hw⟩ => by subst he; exact k w' (h1.step hw) (h2.step hw) (h3.step hw) (below_step hB hw) (h1.step hw).cell (h2.step hw).cell (h3.step hw).cell
end
theorem infoLeg : (Tryz.prog.info? 26).map (·.size) = some 13 := by kernel_rfl
/-- The slice (its address A) reads as the entries es. -/
structure Ents (w : World) (A : Option Addr) (es : List Entry) : Prop where
  at_ : es ≠ [] → ∃ b off, A = some ⟨b, off, none⟩ ∧ b < w.heap.size ∧ ∀ i x, es[i]? = some x → ∀ j, j < 20 → w.cell? ⟨b, off + i * 20 + j, none⟩ = x.arr[j]?
theorem Ents.get {w : World} {A : Option Addr} {es : List Entry} (h : Ents w A es) {k : Nat} (hk : k < es.length) :
    ∃ b off, A = some ⟨b, off, none⟩ ∧ b < w.heap.size ∧ ∀ j, j < 20 → w.cell? ⟨b, off + k * 20 + j, none⟩ = es[k].arr[j]? := by
  obtain ⟨b, off, rfl, hb, hc⟩ := h.at_ (by rintro rfl; simp at hk)
  exact ⟨b, off, rfl, hb, hc k _ (List.getElem?_eq_getElem hk)⟩
theorem Ents.below {w w' : World} {A : Option Addr} {es : List Entry} {B : Nat} (h : Ents w A es) (hb : Below w.heap.size w w') : Ents w' A es where
  at_ hne := by
    obtain ⟨b, off, rfl, hlt, hc⟩ := h.at_ hne
    exact ⟨b, off, rfl, Nat.lt_of_lt_of_le hlt hb.size, fun i x hx j hj => by rw [hb.cell (p := ⟨b, _, none⟩) hlt]; exact hc i x hx j hj⟩
/-- The cells of element k in a later world. -/
theorem Ents.cells {w W : World} {b off : Nat} {es : List Entry} (h : Ents w (some ⟨b, off, none⟩) es) (hB : Below w.heap.size w W) {k : Nat} (hk : k < es.length) :
    ∀ j, j < 20 → W.cell? ⟨b, off + k * 20 + j, none⟩ = es[k].arr[j]? := by
  obtain ⟨b', off', hA, hb, hc⟩ := h.get hk
  obtain ⟨rfl, rfl⟩ : b = b' ∧ off = off' := by simpa using hA
  exact fun j hj => by rw [hB.cell (p := ⟨b, _, none⟩) hb]; exact hc j hj
theorem Ents.nil (w : World) (A : Option Addr) : Ents w A [] := ⟨fun h => absurd rfl h⟩

structure Plan where
  from_ : List UInt8
  to_ : List UInt8
  es : List Entry
  active : Int
def Plan.arr (p : Plan) (A : Option Addr) (c : Nat) : Array Value := #[.string ⟨p.from_.toArray⟩, .string ⟨p.to_.toArray⟩, .slice A p.es.length c, .int .i64 p.active]
abbrev Plan.val (p : Plan) (A : Option Addr) (c : Nat) : Value := .agg (p.arr A c)
theorem Plan.arr0 (p : Plan) (A : Option Addr) (c : Nat) : (p.arr A c)[0]? = some (.string ⟨p.from_.toArray⟩) := rfl
theorem Plan.arr1 (p : Plan) (A : Option Addr) (c : Nat) : (p.arr A c)[1]? = some (.string ⟨p.to_.toArray⟩) := rfl
theorem Plan.arr2 (p : Plan) (A : Option Addr) (c : Nat) : (p.arr A c)[2]? = some (.slice A p.es.length c) := rfl
theorem Plan.arr3 (p : Plan) (A : Option Addr) (c : Nat) : (p.arr A c)[3]? = some (.int .i64 p.active) := rfl
attribute [go_sem] Plan.arr0 Plan.arr1 Plan.arr2 Plan.arr3
structure Plan.small (p : Plan) : Prop where
  from_ : p.from_.length ≤ 4000000000
  to_ : p.to_.length ≤ 4000000000
  len : p.es.length ≤ 4000000000
  each : ∀ x ∈ p.es, x.small

def findGo (at_ : Int) (ref : List UInt8) : List Entry → Nat → Int
  | [], _ => -1
  | x :: r, i => if decide (at_ ≤ i) && !x.gap && endsB x.leg.ty && x.leg.fix == ref then i else findGo at_ ref r (i + 1)
def findE (p : Plan) (at_ : Int) (ref : List UInt8) : Int := findGo at_ ref p.es 0
end Go.Proofs.YtjijpkimlgbepaaGreatDoor
