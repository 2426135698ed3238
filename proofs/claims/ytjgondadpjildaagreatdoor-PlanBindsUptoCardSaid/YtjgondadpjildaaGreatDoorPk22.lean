/- The first fix with a reference, as slices.IndexFunc gives its place, in plain Lean. No program in sight. -/
import Derived.Test.YtjgondadpjildaaGreatDoorPk16
import Derived.Lib.SlBy
namespace Go.Proofs.YtjgondadpjildaaGreatDoor
open Go.RowKit
set_option linter.unusedVariables false
set_option linter.unusedSimpArgs false
instance : Inhabited FixV := ⟨noFix⟩
/-- slices.IndexFunc's index and the fix. -/
theorem findV_from (r : List UInt8) (x : FixV) : ∀ (l : List FixV) (i : Nat),
    (findV l r = none ∧ Lib.idxByFrom (fun _ (y : FixV) => y.ref == r) x l i = -1) ∨ (∃ k f, l[k]? = some f ∧ findV l r = some f ∧ Lib.idxByFrom (fun _ (y : FixV) => y.ref == r) x l i = ((i + k : Nat) : Int))
  | [], i => .inl ⟨rfl, rfl⟩
  | f :: l, i => by
      by_cases h : (f.ref == r) = true
      · refine .inr ⟨0, f, rfl, ?_, ?_⟩
        · simp only [findV, h, if_true]
        · simp only [Lib.idxByFrom, h, if_true, Nat.add_zero]
      · have h' : (f.ref == r) = false := by simpa using h
        have e1 : findV (f :: l) r = findV l r := by simp only [findV, h', Bool.false_eq_true, if_false]
        have e2 : Lib.idxByFrom (fun _ (y : FixV) => y.ref == r) x (f :: l) i = Lib.idxByFrom (fun _ (y : FixV) => y.ref == r) x l (i + 1) := by
          simp only [Lib.idxByFrom, h', Bool.false_eq_true, if_false]
        rw [e1, e2]
        rcases findV_from r x l (i + 1) with ⟨a, b⟩ | ⟨k, g, a, b, c⟩
        · exact .inl ⟨a, b⟩
        · refine .inr ⟨k + 1, g, a, b, ?_⟩
          rw [c]
          congr 1
          omega
theorem findV_idx (l : List FixV) (r : List UInt8) (x : FixV) :
    (findV l r = none ∧ Lib.idxBy (fun _ (y : FixV) => y.ref == r) l x = -1) ∨ (∃ (k : Nat) (f : FixV), l[k]? = some f ∧ findV l r = some f ∧ Lib.idxBy (fun _ (y : FixV) => y.ref == r) l x = (k : Int)) := by
  have := findV_from r x l 0
  simpa only [Lib.idxBy, Nat.zero_add] using this
end Go.Proofs.YtjgondadpjildaaGreatDoor
