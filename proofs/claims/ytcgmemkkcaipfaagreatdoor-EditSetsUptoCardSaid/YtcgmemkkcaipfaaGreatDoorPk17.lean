/- Binding legs to a database in plain Lean: the first fix with a reference, its point, the entries and the first error; the law of PlanPoints. No program in sight. -/
import Derived.Test.YtcgmemkkcaipfaaGreatDoorPk08
import Derived.Test.YtcgmemkkcaipfaaGreatDoorPk16
namespace Go.Proofs.YtcgmemkkcaipfaaGreatDoor
open Go.RowKit
set_option linter.unusedVariables false
set_option linter.unusedSimpArgs false
structure FixV where
  ident : List UInt8
  region : List UInt8
  kind : Int
  lat : Int
  lon : Int
  elev : Int
  range : Int
def FixV.ref (f : FixV) : List UInt8 := f.ident ++ 47 :: f.region
def noFix : FixV := ⟨[], [], 0, 0, 0, 0, 0⟩
/-- fix.Find, ref14.Find: the first fix with a reference. -/
def findV : List FixV → List UInt8 → Option FixV
  | [], _ => none
  | f :: l, r => if f.ref == r then some f else findV l r
/-- navdb.Fix: the fix and the error. -/
def fixV (l : List FixV) (r : List UInt8) : FixV × Int :=
  match findV l r with
  | none => (noFix, 6)
  | some f => (f, 0)
/-- navdb.Point, ref18.Point: the point and the error. -/
def pointV (olat olon : Int) (l : List FixV) (r : List UInt8) : (Int × Int) × Int :=
  match findV l r with
  | none => ((0, 0), 6)
  | some f => toPlane olat olon f.lat f.lon
theorem toS3_err (v : V3) (h : (toS3 v).2 ≠ 0) : (toS3 v).1 = (0, 0) := by
  unfold toS3 at h ⊢
  split
  · rfl
  · rename_i h1
    rw [if_neg h1] at h
    split
    · rename_i h2
      rw [if_pos h2] at h
      exact absurd rfl h
    · rfl
theorem pointV_err (olat olon : Int) (l : List FixV) (r : List UInt8) (h : (pointV olat olon l r).2 ≠ 0) : (pointV olat olon l r).1 = (0, 0) := by
  unfold pointV at h ⊢
  split
  · rfl
  · rename_i f hf
    rw [hf] at h
    simp only at h
    unfold toPlane at h ⊢
    split
    · rename_i h1
      rw [if_pos h1] at h
      exact toS3_err _ h
    · rfl
/-- The point of a fix of a leg, (0, 0) where the leg names none. -/
def ptOf (pt : List UInt8 → (Int × Int) × Int) (r : List UInt8) : (Int × Int) × Int := if r.isEmpty then ((0, 0), 0) else pt r
def bindE (pt : List UInt8 → (Int × Int) × Int) (l : Leg) : Int := orE (legCheck l) (orE (ptOf pt l.fix).2 (ptOf pt l.center).2)
def bindX (pt : List UInt8 → (Int × Int) × Int) (sec : Int) (via : List UInt8) (l : Leg) : Entry :=
  ⟨false, l, (ptOf pt l.fix).1.1, (ptOf pt l.fix).1.2, (ptOf pt l.center).1.1, (ptOf pt l.center).1.2, sec, via⟩
def bindGoE (pt : List UInt8 → (Int × Int) × Int) : List Leg → Int
  | [] => 0
  | l :: r => orE (bindE pt l) (bindGoE pt r)
/-- plan.Bind, ref21.Bind: the entries and the error. -/
def bindS (pt : List UInt8 → (Int × Int) × Int) (legs : List Leg) (sec : Int) (via : List UInt8) : List Entry × Int :=
  if !sectionB sec then ([], 17) else if !viaB via then ([], 5) else if bindGoE pt legs = 0 then (legs.map (bindX pt sec via), 0) else ([], bindGoE pt legs)
theorem orE_eq0 {a b : Int} : orE a b = 0 ↔ a = 0 ∧ b = 0 := by
  unfold orE
  constructor
  · intro h
    split at h
    · rename_i h1
      rw [h] at h1
      exact absurd h1 (by decide)
    · rename_i h1
      refine ⟨?_, h⟩
      simpa using h1
  · rintro ⟨rfl, rfl⟩
    rfl
theorem bindGo_all {pt : List UInt8 → (Int × Int) × Int} : ∀ {legs : List Leg}, bindGoE pt legs = 0 → ∀ l ∈ legs, bindE pt l = 0
  | [], _, l, hl => absurd hl List.not_mem_nil
  | l0 :: r, h, l, hl => by
      obtain ⟨h1, h2⟩ := orE_eq0.mp h
      rcases List.mem_cons.mp hl with rfl | hr
      · exact h1
      · exact bindGo_all h2 l hr
theorem bindS_err {pt : List UInt8 → (Int × Int) × Int} {legs : List Leg} {sec : Int} {via : List UInt8} (h : (bindS pt legs sec via).2 ≠ 0) : (bindS pt legs sec via).1 = [] := by
  unfold bindS at h ⊢
  split
  · rfl
  · split
    · rfl
    · split
      · rename_i h1 h2 h3
        rw [if_neg h1, if_neg h2, if_pos h3] at h
        exact absurd rfl h
      · rfl
theorem bindS_ok {pt : List UInt8 → (Int × Int) × Int} {legs : List Leg} {sec : Int} {via : List UInt8} (h : (bindS pt legs sec via).2 = 0) :
    (bindS pt legs sec via).1 = legs.map (bindX pt sec via) ∧ ∀ l ∈ legs, bindE pt l = 0 := by
  unfold bindS at h ⊢
  split
  · rename_i h1
    rw [if_pos h1] at h
    exact absurd h (by decide : (17 : Int) ≠ 0)
  · split
    · rename_i h1 h2
      rw [if_neg h1, if_pos h2] at h
      exact absurd h (by decide : (5 : Int) ≠ 0)
    · rename_i h1 h2
      split
      · rename_i h3
        exact ⟨rfl, bindGo_all h3⟩
      · rename_i h3
        rw [if_neg h1, if_neg h2, if_neg h3] at h
        exact absurd h h3
/-- What PlanPoints asks of one entry. -/
def pointOk (pt : List UInt8 → (Int × Int) × Int) (l : Leg) (sec : Int) (via : List UInt8) (y : Entry) : Prop :=
  y.gap = false ∧ y.leg = l ∧ y.sec = sec ∧ y.via = via ∧ (l.fix ≠ [] → (pt l.fix).2 = 0 ∧ (pt l.fix).1 = (y.ex, y.ey)) ∧ (l.fix = [] → y.ex = 0 ∧ y.ey = 0) ∧ (l.center ≠ [] → (pt l.center).2 = 0 ∧ (pt l.center).1 = (y.mx, y.my))
theorem bindX_ok {pt : List UInt8 → (Int × Int) × Int} {l : Leg} (sec : Int) (via : List UInt8) (h : bindE pt l = 0) : pointOk pt l sec via (bindX pt sec via l) := by
  obtain ⟨_, h2⟩ := orE_eq0.mp h
  obtain ⟨h3, h4⟩ := orE_eq0.mp h2
  have hp : ∀ r : List UInt8, r ≠ [] → ptOf pt r = pt r := by
    intro r hr
    unfold ptOf
    rw [if_neg]
    simpa using hr
  refine ⟨rfl, rfl, rfl, rfl, ?_, ?_, ?_⟩
  · intro hf
    rw [hp _ hf] at h3
    exact ⟨h3, by show (pt l.fix).1 = ((ptOf pt l.fix).1.1, (ptOf pt l.fix).1.2); rw [hp _ hf]⟩
  · intro hf
    have : ptOf pt l.fix = ((0, 0), 0) := by rw [hf]; rfl
    exact ⟨by show (ptOf pt l.fix).1.1 = 0; rw [this], by show (ptOf pt l.fix).1.2 = 0; rw [this]⟩
  · intro hf
    rw [hp _ hf] at h4
    exact ⟨h4, by show (pt l.center).1 = ((ptOf pt l.center).1.1, (ptOf pt l.center).1.2); rw [hp _ hf]⟩
/-- The law of PlanPoints in plain Lean. -/
theorem bind_points {pt : List UInt8 → (Int × Int) × Int} {legs : List Leg} {sec : Int} {via : List UInt8} (h : (bindS pt legs sec via).2 = 0) :
    (bindS pt legs sec via).1.length = legs.length ∧ ∀ (i : Nat) (l : Leg), legs[i]? = some l → ∃ y, (bindS pt legs sec via).1[i]? = some y ∧ pointOk pt l sec via y := by
  obtain ⟨e, ha⟩ := bindS_ok h
  rw [e]
  refine ⟨List.length_map _, ?_⟩
  intro i l hl
  refine ⟨bindX pt sec via l, ?_, bindX_ok sec via (ha l (List.mem_of_getElem? hl))⟩
  rw [List.getElem?_map, hl]
  rfl
end Go.Proofs.YtcgmemkkcaipfaaGreatDoor
