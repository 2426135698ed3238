/- Airways, procedures and places of a database in plain Lean: their errors, what they expand to, what a database gives to an edit. No program in sight. Points of airways, airways, parts and procedures: cells, ways out of and into memory, what they read as. Printed by wip/mkgd.py. -/
import Derived.Test.YtlggdgpdfepppaaGreatDoorPk15
import Derived.Test.YtlggdgpdfepppaaGreatDoorPk24
import Derived.Test.YtlggdgpdfepppaaGreatDoorPk19
import Derived.Test.YtlggdgpdfepppaaGreatDoorPk02
import Derived.Test.YtlggdgpdfepppaaGreatDoorPk03
import Derived.Deep.MidRow
import Derived.Deep.WholeRow
import Derived.Deep.Light
namespace Go.Proofs.YtlggdgpdfepppaaGreatDoor
open Go.RowKit
set_option linter.unusedVariables false
set_option linter.unusedSimpArgs false
structure APt where
  ref : List UInt8
  lo : Int
  hi : Int
  dir : Int
structure AwyV where
  name : List UInt8
  pts : List APt
structure PartV where
  kind : Int
  name : List UInt8
  legs : List Leg
structure ProcV where
  airport : List UInt8
  name : List UInt8
  kind : Int
  parts : List PartV
structure GDB where
  olat : Int
  olon : Int
  fixes : List FixV
  airways : List AwyV
  procs : List ProcV
end Go.Proofs.YtlggdgpdfepppaaGreatDoor
namespace Go.Proofs.YtlggdgpdfepppaaGreatDoor
open Go.RowKit
set_option linter.unusedVariables false
set_option linter.unusedSimpArgs false
def APt.arr (x : APt) : Array Value := #[.string ⟨x.ref.toArray⟩, .int .i64 x.lo, .int .i64 x.hi, .int .u8 x.dir]
theorem APt.arr_sz (x : APt) : x.arr.size = 4 := by simp [APt.arr]
theorem APt.arr0 (x : APt) : x.arr[0]? = some (.string ⟨x.ref.toArray⟩) := rfl
theorem APt.arr1 (x : APt) : x.arr[1]? = some (.int .i64 x.lo) := rfl
theorem APt.arr2 (x : APt) : x.arr[2]? = some (.int .i64 x.hi) := rfl
theorem APt.arr3 (x : APt) : x.arr[3]? = some (.int .u8 x.dir) := rfl
attribute [go_sem] APt.arr0 APt.arr1 APt.arr2 APt.arr3
theorem splice_apt (a b : APt) : splice a.arr 0 b.arr = b.arr := rfl
attribute [go_sem] splice_apt 
def awyArr (a : AwyV) (A : Option Addr) (c : Nat) : Array Value := #[.string ⟨a.name.toArray⟩, .slice A a.pts.length c]
def prtArr (x : PartV) (A : Option Addr) (c : Nat) : Array Value := #[.int .u8 x.kind, .string ⟨x.name.toArray⟩, .slice A x.legs.length c]
def prcArr (p : ProcV) (A : Option Addr) (c : Nat) : Array Value := #[.string ⟨p.airport.toArray⟩, .string ⟨p.name.toArray⟩, .int .u8 p.kind, .slice A p.parts.length c]
structure AwyAt (w : World) (cs : Array Value) (a : AwyV) : Prop where
  ex : ∃ A c, cs = awyArr a A c ∧ a.pts.length ≤ c ∧ Items w A 4 (a.pts.map APt.arr)
structure PrtAt (w : World) (cs : Array Value) (x : PartV) : Prop where
  ex : ∃ A c, cs = prtArr x A c ∧ x.legs.length ≤ c ∧ Items w A 13 (x.legs.map Leg.arr)
structure PrtsAt (w : World) (A : Option Addr) (l : List PartV) : Prop where
  ex : ∃ css : List (Array Value), css.length = l.length ∧ Items w A 3 css ∧ ∀ (i : Nat) (cs : Array Value) (x : PartV), css[i]? = some cs → l[i]? = some x → PrtAt w cs x
structure PrcAt (w : World) (cs : Array Value) (p : ProcV) : Prop where
  ex : ∃ A c, cs = prcArr p A c ∧ p.parts.length ≤ c ∧ PrtsAt w A p.parts
structure AwysAt (w : World) (A : Option Addr) (l : List AwyV) : Prop where
  ex : ∃ css : List (Array Value), css.length = l.length ∧ Items w A 2 css ∧ ∀ (i : Nat) (cs : Array Value) (x : AwyV), css[i]? = some cs → l[i]? = some x → AwyAt w cs x
structure PrcsAt (w : World) (A : Option Addr) (l : List ProcV) : Prop where
  ex : ∃ css : List (Array Value), css.length = l.length ∧ Items w A 4 css ∧ ∀ (i : Nat) (cs : Array Value) (x : ProcV), css[i]? = some cs → l[i]? = some x → PrcAt w cs x
structure AwyV.small (a : AwyV) : Prop where
  name : a.name.length ≤ 4000000000
  len : a.pts.length ≤ 4000000
  each : ∀ p ∈ a.pts, p.ref.length ≤ 4000000000
structure PartV.small (x : PartV) : Prop where
  name : x.name.length ≤ 4000000000
  len : x.legs.length ≤ 4000000
  each : ∀ l ∈ x.legs, l.small
structure ProcV.small (p : ProcV) : Prop where
  airport : p.airport.length ≤ 4000000000
  name : p.name.length ≤ 4000000000
  len : p.parts.length ≤ 4000000
  each : ∀ x ∈ p.parts, x.small
end Go.Proofs.YtlggdgpdfepppaaGreatDoor
