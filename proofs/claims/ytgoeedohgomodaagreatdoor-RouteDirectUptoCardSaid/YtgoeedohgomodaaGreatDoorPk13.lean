/- Lemmas and walks. -/
import Derived.Test.YtgoeedohgomodaaGreatDoorPk06
import Derived.Test.YtgoeedohgomodaaGreatDoorPk12
set_option linter.unusedSimpArgs false
set_option linter.unusedVariables false
namespace Go.Proofs.YtgoeedohgomodaaGreatDoor
open Go.RowKit
structure FixV where
  ident : List UInt8
  region : List UInt8
  kind : Int
  lat : Int
  lon : Int
  elev : Int
  range : Int
def FixV.ref (f : FixV) : List UInt8 := f.ident ++ 47 :: f.region
def noFix : FixV := ⟨[], [], 0, 0, 0, 0, 0⟩
def findV : List FixV → List UInt8 → Option FixV
  | [], _ => none
  | f :: l, r => if f.ref == r then some f else findV l r
def fixV (l : List FixV) (r : List UInt8) : FixV × Int :=
  match findV l r with
  | none => (noFix, 6)
  | some f => (f, 0)
def pointV (olat olon : Int) (l : List FixV) (r : List UInt8) : (Int × Int) × Int :=
  match findV l r with
  | none => ((0, 0), 6)
  | some f => toPlane olat olon f.lat f.lon
def ptOf (pt : List UInt8 → (Int × Int) × Int) (r : List UInt8) : (Int × Int) × Int := if r.isEmpty then ((0, 0), 0) else pt r
def bindE (pt : List UInt8 → (Int × Int) × Int) (l : Leg) : Int := orE (legCheck l) (orE (ptOf pt l.fix).2 (ptOf pt l.center).2)
def bindX (pt : List UInt8 → (Int × Int) × Int) (sec : Int) (via : List UInt8) (l : Leg) : Entry :=
  ⟨false, l, (ptOf pt l.fix).1.1, (ptOf pt l.fix).1.2, (ptOf pt l.center).1.1, (ptOf pt l.center).1.2, sec, via⟩
def bindGoE (pt : List UInt8 → (Int × Int) × Int) : List Leg → Int
  | [] => 0
  | l :: r => orE (bindE pt l) (bindGoE pt r)
def bindS (pt : List UInt8 → (Int × Int) × Int) (legs : List Leg) (sec : Int) (via : List UInt8) : List Entry × Int :=
  if !sectionB sec then ([], 17) else if !viaB via then ([], 5) else if bindGoE pt legs = 0 then (legs.map (bindX pt sec via), 0) else ([], bindGoE pt legs)
theorem orE_eq0 {a b : Int} : orE a b = 0 ↔ a = 0 ∧ b = 0 := by
  unfold orE
  constructor
  · intro h
    split at h
    · rename_i h1
      rw [h] at h1
      exact absurd h1 (by decide)
    · rename_i h1
      refine ⟨?_, h⟩
      simpa using h1
  · rintro ⟨rfl, rfl⟩
    rfl
theorem bindS_err {pt : List UInt8 → (Int × Int) × Int} {legs : List Leg} {sec : Int} {via : List UInt8} (h : (bindS pt legs sec via).2 ≠ 0) : (bindS pt legs sec via).1 = [] := by
  unfold bindS at h ⊢
  split
  · rfl
  · split
    · rfl
    · split
      · rename_i h1 h2 h3
        rw [if_neg h1, if_neg h2, if_pos h3] at h
        exact absurd rfl h
      · rfl
end Go.Proofs.YtgoeedohgomodaaGreatDoor
