/- The reference's windows are the program's, in plain Lean. -/
import Derived.Test.YtijfmfdnagjlpaaGreatDoorPk32
import Derived.Test.YtijfmfdnagjlpaaGreatDoorPk25
namespace Go.Proofs.YtijfmfdnagjlpaaGreatDoor
open Go.RowKit Go.Sort
set_option linter.unusedVariables false
set_option linter.unusedSimpArgs false
set_option maxRecDepth 100000
def rwinO (ra rb : Int × Bool × Bool) (kind : Int) (s : List UInt8) : (Int × Int) × Int :=
  if !(ra.2.1 && rb.2.1) then ((0, 0), 4)
  else if !(ra.2.2 && rb.2.2) then ((0, 0), 2)
  else if rb.1 < ra.1 then ((0, 0), 9)
  else if winS (if kind = 2 then -200000 else ra.1) (if kind = 1 then 6000000 else rb.1) = s then (((if kind = 2 then -200000 else ra.1), (if kind = 1 then 6000000 else rb.1)), 0) else ((0, 0), 4)
def rparseWinS (s : List UInt8) : (Int × Int) × Int :=
  if s = [45] then ((-200000, 6000000), 0)
  else if (cutAt 58 s).2.2 then rwinO (raltP (cutAt 58 s).1) (raltP (cutAt 58 s).2.1) 3 s
  else if (cutSuf 43 s).2 then rwinO (raltP (cutSuf 43 s).1) (raltP (cutSuf 43 s).1) 1 s
  else if (cutSuf 45 s).2 then rwinO (raltP (cutSuf 45 s).1) (raltP (cutSuf 45 s).1) 2 s
  else rwinO (raltP s) (raltP s) 0 s
theorem raltN_in {neg : Bool} {n : Int} (h : (raltN neg n).2.2 = true) : -200000 ≤ (raltN neg n).1 ∧ (raltN neg n).1 ≤ 6000000 := by
  unfold raltN at h ⊢
  simp only [Bool.and_eq_true, decide_eq_true_eq] at h
  exact h
theorem ralt_in {s : List UInt8} (h : (raltP s).2.2 = true) : -200000 ≤ (raltP s).1 ∧ (raltP s).1 ≤ 6000000 := by
  unfold raltP raltT at h ⊢
  revert h
  repeat' split
  · intro h; cases h
  · intro h; cases h
  · intro h; cases h
  · exact raltN_in
theorem ralt_form {s : List UInt8} (h : (raltP s).2.2 = true) : (raltP s).2.1 = true := by
  unfold raltP raltT raltN at h ⊢
  revert h
  repeat' split
  all_goals simp
/-- The reference's windows are the program's. -/
theorem rwin_same (s : List UInt8) : ((rparseWinS s).2 = 0 ↔ (parseWinS s).2 = 0) ∧ ((rparseWinS s).2 = 0 → (rparseWinS s).1 = (parseWinS s).1) := by
  have key : ∀ (a b : List UInt8) (kind : Int) (q : (Int × Int) × Bool), q = (((if kind = 2 then -200000 else (altP a).1), (if kind = 1 then 6000000 else (altP b).1)), (altP a).2 && (altP b).2) → ((kind = 1 ∨ kind = 2) → a = b) →
      ((rwinO (raltP a) (raltP b) kind s).2 = 0 ↔ (parseWinO s q).2 = 0) ∧ ((rwinO (raltP a) (raltP b) kind s).2 = 0 → (rwinO (raltP a) (raltP b) kind s).1 = (parseWinO s q).1) := by
    intro a b kind q hq hk
    obtain ⟨a1, a2⟩ := ralt_altP a
    obtain ⟨b1, b2⟩ := ralt_altP b
    have a3 := fun h => ralt_form (s := a) h
    have b3 := fun h => ralt_form (s := b) h
    have a4 := fun h => ralt_in (s := a) h
    have b4 := fun h => ralt_in (s := b) h
    subst hq
    unfold rwinO parseWinO
    simp only
    have rlo : rangedB (-200000) = true := by decide
    have rhi : rangedB 6000000 = true := by decide
    by_cases h12 : kind = 1 ∨ kind = 2
    · have hab := hk h12
      subst hab
      cases ha : ((raltP a).2.1 && (raltP a).2.2)
      · rw [ha] at a1
        have hne : ¬ ((altP a).2 = true ∧ rangedB (altP a).1 = true) := by rintro ⟨h1, h2⟩; rw [h1, h2] at a1; cases a1
        have h1 : ((if !((raltP a).2.1 && (raltP a).2.1) then ((0, 0), 4) else if !((raltP a).2.2 && (raltP a).2.2) then ((0, 0), 2) else if (raltP a).1 < (raltP a).1 then ((0, 0), 9) else if winS (if kind = 2 then -200000 else (raltP a).1) (if kind = 1 then 6000000 else (raltP a).1) = s then (((if kind = 2 then -200000 else (raltP a).1), (if kind = 1 then 6000000 else (raltP a).1)), 0) else ((0, 0), 4)) : (Int × Int) × Int).2 ≠ 0 := by
          cases h5 : (raltP a).2.1
          · simp
          · rw [h5] at ha
            have h6 : (raltP a).2.2 = false := by simpa using ha
            rw [h6]; simp
        have h2 : ((if ((altP a).2 && (altP a).2) = true then (if rangedB (if kind = 2 then -200000 else (altP a).1) = true ∧ rangedB (if kind = 1 then 6000000 else (altP a).1) = true then (if (if kind = 1 then 6000000 else (altP a).1) < (if kind = 2 then -200000 else (altP a).1) then ((0, 0), 9) else if winS (if kind = 2 then -200000 else (altP a).1) (if kind = 1 then 6000000 else (altP a).1) = s then ((((if kind = 2 then -200000 else (altP a).1)), (if kind = 1 then 6000000 else (altP a).1)), 0) else ((0, 0), 4)) else ((0, 0), 2)) else ((0, 0), 4)) : (Int × Int) × Int).2 ≠ 0 := by
          cases h5 : (altP a).2
          · simp
          · have h6 : rangedB (altP a).1 = false := by
              cases h7 : rangedB (altP a).1
              · rfl
              · exact absurd ⟨h5, h7⟩ hne
            rcases h12 with rfl | rfl <;> simp [h6]
        exact ⟨⟨fun h => absurd h h1, fun h => absurd h h2⟩, fun h => absurd h h1⟩
      · rw [ha] at a1
        have e1 := a2 a1.symm
        simp only [Bool.and_eq_true] at ha
        have hr := a1.symm
        simp only [Bool.and_eq_true] at hr
        have hin := a4 ha.2
        rw [ha.1, ha.2, hr.1, e1]
        rw [e1] at hin
        rcases h12 with rfl | rfl
        · simp only [hr.2, rhi]
          have : ¬ (6000000 < (altP a).1) := by omega
          simp [this, hr.2, rhi]
        · simp only [hr.2, rlo]
          have : ¬ ((altP a).1 < -200000) := by omega
          simp [this, hr.2, rlo]
    · have k1 : ¬ kind = 1 := fun h => h12 (.inl h)
      have k2 : ¬ kind = 2 := fun h => h12 (.inr h)
      simp only [k1, k2, if_false]
      cases ha : ((raltP a).2.1 && (raltP a).2.2)
      · rw [ha] at a1
        cases h5 : (raltP a).2.1
        · cases h8 : (altP a).2
          · simp
          · have h6 : rangedB (altP a).1 = false := by rw [h8] at a1; simpa using a1.symm
            cases (altP b).2 <;> simp [h6]
        · have h6 : (raltP a).2.2 = false := by rw [h5] at ha; simpa using ha
          cases h8 : (altP a).2
          · cases (raltP b).2.1 <;> simp [h6]
          · have h7 : rangedB (altP a).1 = false := by rw [h8] at a1; simpa using a1.symm
            cases (altP b).2 <;> cases (raltP b).2.1 <;> simp [h6, h7]
      · rw [ha] at a1
        have e1 := a2 a1.symm
        simp only [Bool.and_eq_true] at ha
        have hr := a1.symm
        simp only [Bool.and_eq_true] at hr
        rw [ha.1, ha.2, hr.1, e1, hr.2]
        cases hb : ((raltP b).2.1 && (raltP b).2.2)
        · rw [hb] at b1
          cases h5 : (raltP b).2.1
          · cases h8 : (altP b).2
            · simp
            · have h6 : rangedB (altP b).1 = false := by rw [h8] at b1; simpa using b1.symm
              simp [h6]
          · have h6 : (raltP b).2.2 = false := by rw [h5] at hb; simpa using hb
            cases h8 : (altP b).2
            · simp [h6]
            · have h7 : rangedB (altP b).1 = false := by rw [h8] at b1; simpa using b1.symm
              simp [h6, h7]
        · rw [hb] at b1
          have e2 := b2 b1.symm
          simp only [Bool.and_eq_true] at hb
          have hr2 := b1.symm
          simp only [Bool.and_eq_true] at hr2
          rw [hb.1, hb.2, hr2.1, e2, hr2.2]
          simp
  rw [parseWinO_eq]
  unfold rparseWinS
  by_cases h45 : s = [45]
  · subst h45
    rw [if_pos rfl, winP_1]
    decide
  · rw [if_neg h45]
    cases h58 : (cutAt 58 s).2.2
    · simp only [Bool.false_eq_true, if_false]
      cases h43 : (cutSuf 43 s).2
      · simp only [Bool.false_eq_true, if_false]
        cases h4 : (cutSuf 45 s).2
        · simp only [Bool.false_eq_true, if_false]
          exact key s s 0 _ (by rw [winP_5 h45 h58 h43 h4]; simp) (by intro h; omega)
        · simp only [if_true]
          exact key _ _ 2 _ (by rw [winP_4 h45 h58 h43 h4]; simp) (fun _ => rfl)
      · simp only [if_true]
        exact key _ _ 1 _ (by rw [winP_3 h45 h58 h43]; simp) (fun _ => rfl)
    · simp only [if_true]
      exact key _ _ 3 _ (by rw [winP_2 h45 h58]; simp) (by intro h; omega)
end Go.Proofs.YtijfmfdnagjlpaaGreatDoor
