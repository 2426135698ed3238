/- The predicates of the types of legs, of the program and of the reference. -/
import Derived.Test.YtgafmifamkbmbaaDoorData
namespace Go.Proofs.YtgafmifamkbmbaaDoor
open Go.RowKit
set_option linter.unusedVariables false
set_option linter.unusedSimpArgs false
set_option maxHeartbeats 400000 in
theorem known_any (t : Int) (w : World) : Calls Tryd.prog 61 #[.int .u8 t] w (RetP w (.bool (knownB t))) := by
  go_enter Tryd.func61, Tryd.ntmps61
  go_wp2
  all_goals (go_ret; exact RetP.bool (by grind [knownB]) rfl)
set_option maxHeartbeats 400000 in
theorem starts_any (t : Int) (w : World) : Calls Tryd.prog 17 #[.int .u8 t] w (RetP w (.bool (startsB t))) := by
  go_enter Tryd.func17, Tryd.ntmps17
  go_wp2
  all_goals (go_ret; exact RetP.bool (by grind [startsB]) rfl)
set_option maxHeartbeats 400000 in
theorem ends_any (t : Int) (w : World) : Calls Tryd.prog 19 #[.int .u8 t] w (RetP w (.bool (endsB t))) := by
  go_enter Tryd.func19, Tryd.ntmps19
  go_wp2
  all_goals (go_ret; exact RetP.bool (by grind [endsB]) rfl)
set_option maxHeartbeats 400000 in
theorem from_any (t : Int) (w : World) : Calls Tryd.prog 42 #[.int .u8 t] w (RetP w (.bool (fromB t))) := by
  go_enter Tryd.func42, Tryd.ntmps42
  go_wp2
  all_goals (go_ret; exact RetP.bool (by grind [fromB]) rfl)
set_option maxHeartbeats 400000 in
theorem rstarts_any (t : Int) (w : World) : Calls Tryd.prog 31 #[.int .u8 t] w (RetP w (.bool (startsB t))) := by
  go_enter Tryd.func31, Tryd.ntmps31
  go_wp2
  all_goals (go_ret; exact RetP.bool (by grind [startsB]) rfl)
set_option maxHeartbeats 400000 in
theorem rends_any (t : Int) (w : World) : Calls Tryd.prog 33 #[.int .u8 t] w (RetP w (.bool (endsB t))) := by
  go_enter Tryd.func33, Tryd.ntmps33
  go_wp2
  all_goals (go_ret; exact RetP.bool (by grind [endsB]) rfl)
set_option maxHeartbeats 400000 in
theorem rfrom_any (t : Int) (w : World) : Calls Tryd.prog 55 #[.int .u8 t] w (RetP w (.bool (fromB t))) := by
  go_enter Tryd.func55, Tryd.ntmps55
  go_wp2
  all_goals (go_ret; exact RetP.bool (by grind [fromB]) rfl)
set_option maxHeartbeats 1000000 in
theorem follows_any (a b : Int) (w : World) : Calls Tryd.prog 41 #[.int .u8 a, .int .u8 b] w (RetP w (.bool (followsB a b))) := by
  go_enter Tryd.func41, Tryd.ntmps41
  go_wp2_with (go_at_call 61; refine callP (known_any _ _) ?_)
  all_goals (go_ret; exact RetP.bool (by grind [followsB, knownB]) rfl)
def usesStr (t : Int) : List UInt8 :=
  if t = 1 then [70] else if t = 2 ∨ t = 4 then [70, 111] else if t = 3 then [70, 111, 75] else if t = 5 ∨ t = 6 then [70, 67, 84, 82]
  else if t = 7 then [75, 97] else if t = 8 then [67, 75, 68] else if t = 9 then [75] else if t = 10 then [67, 75, 72] else if t = 11 then [70, 75, 97]
  else if t = 12 then [70, 75, 68] else if t = 13 then [70, 75] else if t = 14 then [70, 84, 75, 68, 97] else if t = 15 ∨ t = 16 ∨ t = 17 then [70, 84, 75, 68] else []
set_option maxHeartbeats 1000000 in
theorem ruses_any (t : Int) (w : World) : Calls Tryd.prog 56 #[.int .u8 t] w (RetP w (.string ⟨(usesStr t).toArray⟩)) := by
  go_enter Tryd.func56, Tryd.ntmps56
  go_wp2
  all_goals (go_ret; exact RetP.str (by grind [usesStr]) rfl)
theorem usesStr_empty (t : Int) : (usesStr t).isEmpty = !knownB t := by grind (splits := 30) [usesStr, knownB]
set_option maxHeartbeats 1000000 in
theorem rfollows_any (a b : Int) (w : World) : Calls Tryd.prog 54 #[.int .u8 a, .int .u8 b] w (RetP w (.bool (followsB a b))) := by
  have ha := Lib.hid (usesStr_empty a)
  have hb := Lib.hid (usesStr_empty b)
  go_enter Tryd.func54, Tryd.ntmps54
  go_wp2_with (go_at_call 56; refine callP (ruses_any _ _) ?_)
  all_goals (go_ret; exact RetP.bool (by have ha := ha.out; have hb := hb.out; grind [followsB, knownB]) rfl)
set_option maxHeartbeats 400000 in
theorem joins_any (a b : Leg) (w : World) : Calls Tryd.prog 18 #[a.val, b.val] w (Ret w (.bool (a.joinsB b))) := by
  go_enter Tryd.func18, Tryd.ntmps18
  go_wp2_with (first
    | (go_at_call 41; refine callP (follows_any _ _ _) ?_)
    | (go_at_call 42; refine callP (from_any _ _) ?_))
  all_goals (go_ret; exact Ret.bool (by grind [Leg.joinsB]) (by go_grown))
set_option maxHeartbeats 400000 in
theorem rjoins_any (a b : Leg) (w : World) : Calls Tryd.prog 32 #[a.val, b.val] w (Ret w (.bool (a.joinsB b))) := by
  go_enter Tryd.func32, Tryd.ntmps32
  go_wp2_with (first
    | (go_at_call 54; refine callP (rfollows_any _ _ _) ?_)
    | (go_at_call 55; refine callP (rfrom_any _ _) ?_))
  all_goals (go_ret; exact Ret.bool (by grind [Leg.joinsB]) (by go_grown))
end Go.Proofs.YtgafmifamkbmbaaDoor
