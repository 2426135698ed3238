/- Lemmas and walks. -/
import Derived.Test.YtgoeedohgomodaaGreatDoorPk04
import Derived.Test.YtgoeedohgomodaaGreatDoorPk06
set_option linter.unusedSimpArgs false
set_option linter.unusedVariables false
namespace Go.Proofs.YtgoeedohgomodaaGreatDoor
open Go.RowKit
def gapE : Entry := ⟨true, ⟨0, [], [], 0, false, 0, 0, 0, 0, 0, 0, 0, 0⟩, 0, 0, 0, 0, 0, []⟩
def Leg.arrivedB (y x : Leg) : Bool := endsB y.ty && y.fix == x.fix
def orderE (prev : Option Entry) (x : Entry) : Int :=
  match prev with
  | none => if startsB x.leg.ty then 0 else 9
  | some y => if y.gap then (if startsB x.leg.ty then 0 else 9) else if y.leg.joinsB x.leg then (if (x.leg.ty == 2 || x.leg.ty == 4) && y.leg.arrivedB x.leg then 7 else 0) else 9
def gapOrdE (prev : Option Entry) (last : Bool) : Int :=
  match prev with
  | none => 9
  | some y => if last || y.gap then 9 else 0
def stepE (prev : Option Entry) (s : Int) (last : Bool) (x : Entry) : Int :=
  if x.gap then (if x.eqB gapE then gapOrdE prev last else 1) else orE (aloneE x) (orE (orderE prev x) (if x.sec < s then 9 else 0))
def checkGo : Option Entry → Int → List Entry → Int
  | _, _, [] => 0
  | prev, s, x :: r => orE (stepE prev s r.isEmpty x) (checkGo (some x) (if x.gap then s else x.sec) r)
def activeE (p : Plan) : Int :=
  if p.active = -1 then 0 else if p.active < 0 ∨ (p.es.length : Int) ≤ p.active then 2 else if ((p.es[p.active.toNat]?).map (·.gap)).getD true then 2 else 0
def planCheck (p : Plan) : Int :=
  if !placeB p.from_ || !placeB p.to_ then 5 else if 60 < p.es.length then 3 else orE (checkGo none 0 p.es) (activeE p)
def prevOf (es : List Entry) : Nat → Option Entry
  | 0 => none
  | k + 1 => es[k]?
theorem run_gap (x : Entry) : ∀ w, (binOp .neq 69 (.agg x.arr) (.agg #[.bool true, .int .u8 0, .string ⟨#[]⟩, .string ⟨#[]⟩, .int .u8 0, .bool false, .int .i64 0, .int .i64 0, .int .i64 0, .int .i64 0, .int .i64 0, .int .i64 0, .int .i64 0, .int .i64 0, .int .i64 0, .int .i64 0, .int .i64 0, .int .i64 0, .int .u8 0, .string ⟨#[]⟩])).run Tryz.prog w = .ok (.bool (!x.eqB gapE)) w := fun w => run_neq_ent x gapE w
theorem st_gap1 {prev : Option Entry} {s : Int} {l : Bool} {x : Entry} {R T : Int} (h : x.gap = true) (he : (!x.eqB gapE) = true) : 1 = orE (orE (stepE prev s l x) R) T := by grind [stepE, orE]
theorem st_gap9 {prev : Option Entry} {s : Int} {l : Bool} {x : Entry} {R T : Int} (h : x.gap = true) (he : (!x.eqB gapE) = false) (hp : gapOrdE prev l = 9) : 9 = orE (orE (stepE prev s l x) R) T := by grind [stepE, orE]
theorem st_gap0 {prev : Option Entry} {s : Int} {l : Bool} {x : Entry} {R T : Int} (h : x.gap = true) (he : (!x.eqB gapE) = false) (hp : gapOrdE prev l = 0) : orE (orE (stepE prev s l x) R) T = orE R T := by grind [stepE, orE]
theorem st_one {prev : Option Entry} {s : Int} {l : Bool} {x : Entry} {R T : Int} (h : x.gap = false) (he : (aloneE x != 0) = true) : aloneE x = orE (orE (stepE prev s l x) R) T := by grind [stepE, orE]
theorem st_ord {prev : Option Entry} {s : Int} {l : Bool} {x : Entry} {R T v : Int} (h : x.gap = false) (he : (aloneE x != 0) = false) (ho : orderE prev x = v) (hv : v ≠ 0) : v = orE (orE (stepE prev s l x) R) T := by grind [stepE, orE]
theorem st_sec {prev : Option Entry} {s : Int} {l : Bool} {x : Entry} {R T : Int} (h : x.gap = false) (he : (aloneE x != 0) = false) (ho : orderE prev x = 0) (hs : x.sec < s) : 9 = orE (orE (stepE prev s l x) R) T := by grind [stepE, orE]
theorem st_ok {prev : Option Entry} {s : Int} {l : Bool} {x : Entry} {R T : Int} (h : x.gap = false) (he : (aloneE x != 0) = false) (ho : orderE prev x = 0) (hs : ¬ x.sec < s) : orE (orE (stepE prev s l x) R) T = orE R T := by grind [stepE, orE]
theorem drop_last (es : List Entry) (k : Nat) (h : k < es.length) : (es.drop (k + 1)).isEmpty = decide ((k : Int) = (es.length : Int) - 1) := by
  rw [Bool.eq_iff_iff]
  simp
  omega
theorem ord_start {y : Entry} {x : Entry} (hy : y.gap = true) (h : (!startsB x.leg.ty) = true) : orderE (some y) x = 9 := by grind [orderE]
theorem ord_start0 {y : Entry} {x : Entry} (hy : y.gap = true) (h : (!startsB x.leg.ty) = false) : orderE (some y) x = 0 := by grind [orderE]
theorem ord_none {x : Entry} (h : (!startsB x.leg.ty) = true) : orderE none x = 9 := by grind [orderE]
theorem ord_none0 {x : Entry} (h : (!startsB x.leg.ty) = false) : orderE none x = 0 := by grind [orderE]
theorem ord_join {y : Entry} {x : Entry} (hy : y.gap = false) (h : (!y.leg.joinsB x.leg) = true) : orderE (some y) x = 9 := by grind [orderE]
def tdB (t : Int) : Bool := t == 2 || t == 4
def Leg.dupB (y x : Leg) : Bool := tdB x.ty && y.arrivedB x
theorem ord_arr {y : Entry} {x : Entry} (hy : y.gap = false) (h : (!y.leg.joinsB x.leg) = false) (ha : y.leg.dupB x.leg = true) : orderE (some y) x = 7 := by grind [orderE, tdB, Leg.dupB]
theorem ord_ok {y : Entry} {x : Entry} (hy : y.gap = false) (h : (!y.leg.joinsB x.leg) = false) (ha : y.leg.dupB x.leg = false) : orderE (some y) x = 0 := by grind [orderE, tdB, Leg.dupB]
end Go.Proofs.YtgoeedohgomodaaGreatDoor
