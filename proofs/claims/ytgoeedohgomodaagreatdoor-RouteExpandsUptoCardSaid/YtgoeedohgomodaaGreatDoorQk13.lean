/- Lemmas and walks. -/
import Derived.Test.YtgoeedohgomodaaGreatDoorQk06
import Derived.Test.YtgoeedohgomodaaGreatDoorQk12
set_option linter.unusedSimpArgs false
set_option linter.unusedVariables false
namespace Go.Proofs.YtgoeedohgomodaaGreatDoor
open Go.RowKit
structure FixV where
  ident:List UInt8
  region:List UInt8
  kind:Int
  lat:Int
  lon:Int
  elev:Int
  range:Int
def FixV.ref (f:FixV):List UInt8:=f.ident ++ 47 :: f.region
def noFix:FixV:=⟨[],[],0,0,0,0,0⟩
def zc7:List FixV→List UInt8→Option FixV
  | [],_=>none
  | f :: l,r=>if f.ref == r then some f else zc7 l r
def zkD (l:List FixV) (r:List UInt8):FixV × Int:=
  match zc7 l r with
  | none=>(noFix,6)
  | some f=>(f,0)
def zcK (olat olon:Int) (l:List FixV) (r:List UInt8):(Int × Int) × Int:=
  match zc7 l r with
  | none=>((0,0),6)
  | some f=>zdL olat olon f.lat f.lon
def zhU (pt:List UInt8→(Int × Int) × Int) (r:List UInt8):(Int × Int) × Int:=if r.isEmpty then ((0,0),0) else pt r
def zx9 (pt:List UInt8→(Int × Int) × Int) (l:Leg):Int:=orE (zaN l) (orE (zhU pt l.fix).2 (zhU pt l.center).2)
def zgA (pt:List UInt8→(Int × Int) × Int) (sec:Int) (via:List UInt8) (l:Leg):Entry:=
  ⟨false,l,(zhU pt l.fix).1.1,(zhU pt l.fix).1.2,(zhU pt l.center).1.1,(zhU pt l.center).1.2,sec,via⟩
def zbB (pt:List UInt8→(Int × Int) × Int):List Leg→Int
  | []=>0
  | l :: r=>orE (zx9 pt l) (zbB pt r)
def zbL (pt:List UInt8→(Int × Int) × Int) (legs:List Leg) (sec:Int) (via:List UInt8):List Entry × Int:=
  if !zdS sec then ([],17) else if !zuw via then ([],5) else if zbB pt legs=0 then (legs.map (zgA pt sec via),0) else ([],zbB pt legs)
theorem orE_eq0 {a b:Int}:orE a b=0 ↔ a=0∧b=0:=by
  unfold orE
  constructor
  · intro h
    split at h
    · rename_i h1
      rw [h] at h1
      exact absurd h1 (by decide)
    · rename_i h1
      refine ⟨?_,h⟩
      simpa using h1
  · rintro ⟨rfl,rfl⟩
    rfl
theorem zod {pt:List UInt8→(Int × Int) × Int} {legs:List Leg} {sec:Int} {via:List UInt8} (h:(zbL pt legs sec via).2 ≠ 0):(zbL pt legs sec via).1=[]:=by
  unfold zbL at h ⊢
  split
  · rfl
  · split
    · rfl
    · split
      · rename_i h1 h2 h3
        rw [if_neg h1,if_neg h2,if_pos h3] at h
        exact absurd rfl h
      · rfl
end Go.Proofs.YtgoeedohgomodaaGreatDoor
