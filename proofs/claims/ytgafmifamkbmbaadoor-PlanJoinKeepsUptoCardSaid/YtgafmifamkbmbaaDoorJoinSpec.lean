/- Join in plain Lean; a slice of entries that the call itself grows. -/
import Derived.Test.YtgafmifamkbmbaaDoorBs
namespace Go.Proofs.YtgafmifamkbmbaaDoor
open Go.RowKit
set_option linter.unusedVariables false
set_option linter.unusedSimpArgs false
def skipB (t : Int) : Bool := t == 1 || t == 2 || t == 4
/-- What an entry that cannot follow does: it begins anew, if it may. -/
def joinNew (out : List Entry) (pend : Bool) (x : Entry) : List Entry × Bool :=
  if (startOf x).2 then ((if out.isEmpty then out else out ++ [gapE]) ++ [(startOf x).1], false) else (out, pend || !out.isEmpty)
def joinStep (out : List Entry) (pend : Bool) (x : Entry) : List Entry × Bool :=
  if x.gap then (out, true) else
  match out.getLast? with
  | none => joinNew out pend x
  | some y => if pend then joinNew out pend x else
      if y.leg.arrivedB x.leg && skipB x.leg.ty then (out, pend) else if y.leg.joinsB x.leg then (out ++ [x], pend) else joinNew out pend x
def joinGo : List Entry → Bool → List Entry → List Entry
  | out, _, [] => out
  | out, pend, x :: r => joinGo (joinStep out pend x).1 (joinStep out pend x).2 r
def joinE (l : List Entry) : List Entry := joinGo [] false l

def cellsOf (es : List Entry) : List Value := es.flatMap fun x => x.arr.toList
theorem cellsOf_len (es : List Entry) : (cellsOf es).length = es.length * 20 := by
  induction es with
  | nil => rfl
  | cons x r ih => simp only [cellsOf, List.flatMap_cons, List.length_append, List.length_cons] at *; rw [ih]; simp [Entry.arr]; omega
theorem cellsOf_app (a b : List Entry) : cellsOf (a ++ b) = cellsOf a ++ cellsOf b := by simp [cellsOf]
theorem cellsOf_one (es : List Entry) : ∀ u ∈ cellsOf es, u.oneCell' = true := by
  intro u hu
  obtain ⟨x, _, hx⟩ := List.mem_flatMap.1 hu
  exact (List.all_eq_true.1 (Entry.arr_oneL x)) u hx
/-- The slice v, made since w0, holds es. -/
def Out (w0 W : World) (v : Value) (es : List Entry) : Prop := W.ownsRow w0.heap.size 41 20 v es.length (cellsOf es)
theorem cellsOf_at : ∀ (es : List Entry) (i : Nat) (x : Entry), es[i]? = some x → ∀ j, j < 20 → (cellsOf es)[i * 20 + j]? = x.arr[j]?
  | [], i, x, h, _, _ => by simp at h
  | y :: r, 0, x, h, j, hj => by
    obtain rfl : y = x := by simpa using h
    simp only [cellsOf, List.flatMap_cons, Nat.zero_mul, Nat.zero_add]
    rw [List.getElem?_append_left (by simp [Entry.arr]; omega)]
    simp
  | y :: r, i + 1, x, h, j, hj => by
    have ih := cellsOf_at r i x (by simpa using h) j hj
    simp only [cellsOf, List.flatMap_cons] at ih ⊢
    rw [List.getElem?_append_right (by simp [Entry.arr]; omega), ← ih]
    congr 1
    simp [Entry.arr]
    omega
end Go.Proofs.YtgafmifamkbmbaaDoor
