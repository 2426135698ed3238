/- The predicates of the types of legs, of the program and of the reference. The first error of a leg, in plain Lean. -/
import Derived.Test.YtcgmemkkcaipfaaGreatDoorPk02
namespace Go.Proofs.YtcgmemkkcaipfaaGreatDoor
open Go.RowKit
set_option linter.unusedVariables false
set_option linter.unusedSimpArgs false
set_option maxHeartbeats 400000 in
theorem known_any (t : Int) (w : World) : Calls Tryz.prog 148 #[.int .u8 t] w (RetP w (.bool (knownB t))) := by
  go_enter Tryz.func148, Tryz.ntmps148
  go_wp2
  all_goals (go_ret; exact RetP.bool (by grind [knownB]) rfl)
set_option maxHeartbeats 400000 in
theorem starts_any (t : Int) (w : World) : Calls Tryz.prog 38 #[.int .u8 t] w (RetP w (.bool (startsB t))) := by
  go_enter Tryz.func38, Tryz.ntmps38
  go_wp2
  all_goals (go_ret; exact RetP.bool (by grind [startsB]) rfl)
set_option maxHeartbeats 400000 in
theorem ends_any (t : Int) (w : World) : Calls Tryz.prog 92 #[.int .u8 t] w (RetP w (.bool (endsB t))) := by
  go_enter Tryz.func92, Tryz.ntmps92
  go_wp2
  all_goals (go_ret; exact RetP.bool (by grind [endsB]) rfl)
set_option maxHeartbeats 400000 in
theorem from_any (t : Int) (w : World) : Calls Tryz.prog 91 #[.int .u8 t] w (RetP w (.bool (fromB t))) := by
  go_enter Tryz.func91, Tryz.ntmps91
  go_wp2
  all_goals (go_ret; exact RetP.bool (by grind [fromB]) rfl)
set_option maxHeartbeats 400000 in
theorem rstarts_any (t : Int) (w : World) : Calls Tryz.prog 59 #[.int .u8 t] w (RetP w (.bool (startsB t))) := by
  go_enter Tryz.func59, Tryz.ntmps59
  go_wp2
  all_goals (go_ret; exact RetP.bool (by grind [startsB]) rfl)
set_option maxHeartbeats 400000 in
theorem rends_any (t : Int) (w : World) : Calls Tryz.prog 61 #[.int .u8 t] w (RetP w (.bool (endsB t))) := by
  go_enter Tryz.func61, Tryz.ntmps61
  go_wp2
  all_goals (go_ret; exact RetP.bool (by grind [endsB]) rfl)
set_option maxHeartbeats 400000 in
theorem rfrom_any (t : Int) (w : World) : Calls Tryz.prog 132 #[.int .u8 t] w (RetP w (.bool (fromB t))) := by
  go_enter Tryz.func132, Tryz.ntmps132
  go_wp2
  all_goals (go_ret; exact RetP.bool (by grind [fromB]) rfl)
set_option maxHeartbeats 1000000 in
theorem follows_any (a b : Int) (w : World) : Calls Tryz.prog 90 #[.int .u8 a, .int .u8 b] w (RetP w (.bool (followsB a b))) := by
  go_enter Tryz.func90, Tryz.ntmps90
  go_wp2_with (go_at_call 148; refine callP (known_any _ _) ?_)
  all_goals (go_ret; exact RetP.bool (by grind [followsB, knownB]) rfl)
def usesStr (t : Int) : List UInt8 :=
  if t = 1 then [70] else if t = 2 ∨ t = 4 then [70, 111] else if t = 3 then [70, 111, 75] else if t = 5 ∨ t = 6 then [70, 67, 84, 82]
  else if t = 7 then [75, 97] else if t = 8 then [67, 75, 68] else if t = 9 then [75] else if t = 10 then [67, 75, 72] else if t = 11 then [70, 75, 97]
  else if t = 12 then [70, 75, 68] else if t = 13 then [70, 75] else if t = 14 then [70, 84, 75, 68, 97] else if t = 15 ∨ t = 16 ∨ t = 17 then [70, 84, 75, 68] else []
set_option maxHeartbeats 1000000 in
theorem ruses_any (t : Int) (w : World) : Calls Tryz.prog 179 #[.int .u8 t] w (RetP w (.string ⟨(usesStr t).toArray⟩)) := by
  go_enter Tryz.func179, Tryz.ntmps179
  go_wp2
  all_goals (go_ret; exact RetP.str (by grind [usesStr]) rfl)
theorem usesStr_empty (t : Int) : (usesStr t).isEmpty = !knownB t := by grind (splits := 30) [usesStr, knownB]
set_option maxHeartbeats 1000000 in
theorem rfollows_any (a b : Int) (w : World) : Calls Tryz.prog 131 #[.int .u8 a, .int .u8 b] w (RetP w (.bool (followsB a b))) := by
  have ha := Lib.hid (usesStr_empty a)
  have hb := Lib.hid (usesStr_empty b)
  go_enter Tryz.func131, Tryz.ntmps131
  go_wp2_with (go_at_call 179; refine callP (ruses_any _ _) ?_)
  all_goals (go_ret; exact RetP.bool (by have ha := ha.out; have hb := hb.out; grind [followsB, knownB]) rfl)
set_option maxHeartbeats 400000 in
theorem joins_any (a b : Leg) (w : World) : Calls Tryz.prog 39 #[a.val, b.val] w (Ret w (.bool (a.joinsB b))) := by
  go_enter Tryz.func39, Tryz.ntmps39
  go_wp2_with (first
    | (go_at_call 90; refine callP (follows_any _ _ _) ?_)
    | (go_at_call 91; refine callP (from_any _ _) ?_))
  all_goals (go_ret; exact Ret.bool (by grind [Leg.joinsB]) (by go_grown))
set_option maxHeartbeats 400000 in
theorem rjoins_any (a b : Leg) (w : World) : Calls Tryz.prog 60 #[a.val, b.val] w (Ret w (.bool (a.joinsB b))) := by
  go_enter Tryz.func60, Tryz.ntmps60
  go_wp2_with (first
    | (go_at_call 131; refine callP (rfollows_any _ _ _) ?_)
    | (go_at_call 132; refine callP (rfrom_any _ _) ?_))
  all_goals (go_ret; exact Ret.bool (by grind [Leg.joinsB]) (by go_grown))
end Go.Proofs.YtcgmemkkcaipfaaGreatDoor
namespace Go.Proofs.YtcgmemkkcaipfaaGreatDoor
open Go.RowKit
set_option linter.unusedVariables false
set_option linter.unusedSimpArgs false

def orE (a b : Int) : Int := if (a != 0) = true then a else b
def usesOf (t : Int) : Int := usesTab.getD t.toNat 0
def uB (t m : Int) : Bool := bits BinOp.and IntKind.u16 (usesOf t) m != 0
def checkRefI (s : List UInt8) (used : Bool) : Int := if used then (if (splitRef s).2.2 = 0 then 0 else 5) else if s.isEmpty then 0 else 1
def checkNum (n : Int) (used : Bool) (lo hi : Int) : Int := if used then (if n < lo ∨ hi < n then 2 else 0) else if n = 0 then 0 else 1
def turnE (used : Bool) (turn : Int) : Int := if used then (if turn = 1 ∨ turn = 2 then 0 else 1) else if turn = 0 then 0 else 1
def climbsB (t : Int) : Bool := t == 7 || t == 11 || t == 14
def limitsE (l : Leg) : Int :=
  if l.lo < -200000 ∨ l.hi < l.lo ∨ 6000000 < l.hi then 2 else if climbsB l.ty = true ∧ l.lo = -200000 then 2
  else if l.speed < 0 ∨ 1000 < l.speed ∨ l.rnp < 0 ∨ 120000 < l.rnp then 2 else 0
def legC4 (l : Leg) : Int := orE (checkNum l.course (uB l.ty 16) 0 129599999) (orE (checkNum l.dist (uB l.ty 32) 1 2000000) (orE (checkNum l.radius (uB l.ty 64) 1 2000000) (orE (checkNum l.theta (uB l.ty 128) 0 129599999) (limitsE l))))
def overB (l : Leg) : Bool := l.over && !uB l.ty 8
def legC3 (l : Leg) : Int := orE (if overB l then 1 else 0) (legC4 l)
def legC2 (l : Leg) : Int := orE (turnE (uB l.ty 4) l.turn) (legC3 l)
def legCheck (l : Leg) : Int := if knownB l.ty then orE (checkRefI l.fix (uB l.ty 1)) (orE (checkRefI l.center (uB l.ty 2)) (legC2 l)) else 17

theorem bit_eq (t m : Int) : (bits BinOp.and IntKind.u16 (usesOf t) m == 0) = !uB t m := by simp [uB, bne]
theorem bit_ne (t m : Int) : (bits BinOp.and IntKind.u16 (usesOf t) m != 0) = uB t m := rfl
theorem turn_a (l : Leg) (h : uB l.ty 4 = true) (h2 : (l.turn != 1) = true ∧ (l.turn != 2) = true) : 1 = legC2 l := by grind [legC2, orE, turnE]
theorem turn_b (l : Leg) (h : uB l.ty 4 = false) (h2 : (l.turn != 0) = true) : 1 = legC2 l := by grind [legC2, orE, turnE]
theorem turn_c (l : Leg) (h : uB l.ty 4 = true) (h2 : (l.turn != 1) = false ∨ (l.turn != 2) = false) : legC2 l = legC3 l := by grind [legC2, orE, turnE]
theorem turn_d (l : Leg) (h : uB l.ty 4 = false) (h2 : (l.turn != 0) = false) : legC2 l = legC3 l := by grind [legC2, orE, turnE]
theorem turn_e (l : Leg) (h : uB l.ty 4 = true) (h2 : l.turn = 1) : legC2 l = legC3 l := by grind [legC2, orE, turnE]
end Go.Proofs.YtcgmemkkcaipfaaGreatDoor
