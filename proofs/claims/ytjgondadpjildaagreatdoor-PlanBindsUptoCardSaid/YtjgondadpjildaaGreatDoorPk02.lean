/- Plain facts on lists of bytes: cutting at a byte. No program in sight. -/
import Derived.Lib.IndexMore
import Derived.Lib.IndexLaws
import Derived.Lib.CutLaws
namespace Go.Proofs.YtjgondadpjildaaGreatDoor
set_option linter.unusedVariables false
set_option linter.unusedSimpArgs false

/-- The text ahead of the first byte c, the text behind it, whether there is one. -/
def cutAt (c : UInt8) : List UInt8 → List UInt8 × List UInt8 × Bool
  | [] => ([], [], false)
  | x :: r => if x = c then ([], r, true) else (x :: (cutAt c r).1, (cutAt c r).2.1, (cutAt c r).2.2)

theorem cutAt_at (c : UInt8) : ∀ (l : List UInt8) (k : Nat) (h : k < l.length), (l.take k).all (· != c) = true → l[k] = c → cutAt c l = (l.take k, l.drop (k + 1), true)
  | [], k, h, _, _ => by simp at h
  | x :: r, 0, h, _, hc => by simp at hc; simp [cutAt, hc]
  | x :: r, k + 1, h, ha, hc => by
    simp at ha
    have hx : ¬ x = c := ha.1
    have ih := cutAt_at c r k (by simpa using h) (by simpa using ha.2) (by simpa using hc)
    simp [cutAt, hx, ih]
theorem cutAt_none (c : UInt8) : ∀ (l : List UInt8), l.all (· != c) = true → cutAt c l = (l, [], false)
  | [], _ => rfl
  | x :: r, ha => by
    simp at ha
    have ih := cutAt_none c r (by simpa using ha.2)
    simp [cutAt, ha.1, ih]
theorem take_all_succ (p : UInt8 → Bool) (l : List UInt8) (k : Nat) (h : k < l.length) (ha : (l.take k).all p = true) (hk : p l[k] = true) : (l.take (k + 1)).all p = true := by
  rw [List.take_succ_eq_append_getElem h, List.all_append, ha]; simp [hk]
theorem cutAt_len (c : UInt8) : ∀ l : List UInt8, (cutAt c l).1.length ≤ l.length ∧ (cutAt c l).2.1.length ≤ l.length
  | [] => by simp [cutAt]
  | x :: r => by have ih := cutAt_len c r; unfold cutAt; split <;> simp <;> omega
theorem index_cutAt (c : UInt8) : ∀ l : List UInt8, Lib.index l [c] = if (cutAt c l).2.2 then ((cutAt c l).1.length : Int) else -1
  | [] => by simp [Lib.index, cutAt]
  | x :: r => by
    have ih := index_cutAt c r
    by_cases hx : x = c
    · simp [Lib.index, cutAt, hx]
    · have hx' : ¬ c = x := fun e => hx e.symm
      cases hf : (cutAt c r).2.2
      · simp [hf] at ih
        simp [Lib.index, cutAt, hx, hx', hf, ih]
      · simp [hf] at ih
        simp [Lib.index, cutAt, hx, hx', hf, ih]
theorem cutAt_parts (c : UInt8) : ∀ l : List UInt8, (cutAt c l).2.2 = true → l = (cutAt c l).1 ++ c :: (cutAt c l).2.1
  | [], h => by simp [cutAt] at h
  | x :: r, h => by
    by_cases hx : x = c
    · simp [cutAt, hx]
    · simp [cutAt, hx] at h ⊢
      exact cutAt_parts c r h
theorem cutAt_miss (c : UInt8) : ∀ l : List UInt8, (cutAt c l).2.2 = false → (cutAt c l).1 = l ∧ (cutAt c l).2.1 = []
  | [], h => by simp [cutAt]
  | x :: r, h => by
    by_cases hx : x = c
    · simp [cutAt, hx] at h
    · simp [cutAt, hx] at h ⊢
      exact cutAt_miss c r h
theorem cut_cutAt (c : UInt8) (l : List UInt8) : Lib.cut l [c] = cutAt c l := by
  unfold Lib.cut
  rw [index_cutAt c l]
  cases hf : (cutAt c l).2.2
  · obtain ⟨h1, h2⟩ := cutAt_miss c l hf
    simp
    exact Prod.ext h1.symm (Prod.ext h2.symm hf.symm)
  · have hp := cutAt_parts c l hf
    generalize hA : (cutAt c l).1 = A at hp ⊢
    generalize hB : (cutAt c l).2.1 = B at hp ⊢
    simp only [if_true]
    rw [if_pos (by omega)]
    subst hp
    refine Prod.ext ?_ (Prod.ext ?_ ?_)
    · simp [hA]
    · simp [hB]
    · simp [hf]
end Go.Proofs.YtjgondadpjildaaGreatDoor
