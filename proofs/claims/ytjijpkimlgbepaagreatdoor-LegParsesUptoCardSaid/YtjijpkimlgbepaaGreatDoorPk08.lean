/- The predicates of the types of legs, of the program and of the reference. -/
import Derived.Test.YtjijpkimlgbepaaGreatDoorPk05
namespace Go.Proofs.YtjijpkimlgbepaaGreatDoor
open Go.RowKit
set_option linter.unusedVariables false
set_option linter.unusedSimpArgs false
set_option maxHeartbeats 400000 in
theorem known_any (t : Int) (w : World) : Calls Tryz.prog 30 #[.int .u8 t] w (RetP w (.bool (knownB t))) := by
  go_enter Tryz.func30, Tryz.ntmps30
  go_wp2
  all_goals (go_ret; exact RetP.bool (by grind [knownB]) rfl)
set_option maxHeartbeats 400000 in
theorem starts_any (t : Int) (w : World) : Calls Tryz.prog 27 #[.int .u8 t] w (RetP w (.bool (startsB t))) := by
  go_enter Tryz.func27, Tryz.ntmps27
  go_wp2
  all_goals (go_ret; exact RetP.bool (by grind [startsB]) rfl)
set_option maxHeartbeats 400000 in
theorem ends_any (t : Int) (w : World) : Calls Tryz.prog 23 #[.int .u8 t] w (RetP w (.bool (endsB t))) := by
  go_enter Tryz.func23, Tryz.ntmps23
  go_wp2
  all_goals (go_ret; exact RetP.bool (by grind [endsB]) rfl)
set_option maxHeartbeats 400000 in
theorem from_any (t : Int) (w : World) : Calls Tryz.prog 19 #[.int .u8 t] w (RetP w (.bool (fromB t))) := by
  go_enter Tryz.func19, Tryz.ntmps19
  go_wp2
  all_goals (go_ret; exact RetP.bool (by grind [fromB]) rfl)
set_option maxHeartbeats 400000 in
theorem rstarts_any (t : Int) (w : World) : Calls Tryz.prog 28 #[.int .u8 t] w (RetP w (.bool (startsB t))) := by
  go_enter Tryz.func28, Tryz.ntmps28
  go_wp2
  all_goals (go_ret; exact RetP.bool (by grind [startsB]) rfl)
set_option maxHeartbeats 400000 in
theorem rends_any (t : Int) (w : World) : Calls Tryz.prog 25 #[.int .u8 t] w (RetP w (.bool (endsB t))) := by
  go_enter Tryz.func25, Tryz.ntmps25
  go_wp2
  all_goals (go_ret; exact RetP.bool (by grind [endsB]) rfl)
set_option maxHeartbeats 400000 in
theorem rfrom_any (t : Int) (w : World) : Calls Tryz.prog 26 #[.int .u8 t] w (RetP w (.bool (fromB t))) := by
  go_enter Tryz.func26, Tryz.ntmps26
  go_wp2
  all_goals (go_ret; exact RetP.bool (by grind [fromB]) rfl)
set_option maxHeartbeats 1000000 in
theorem follows_any (a b : Int) (w : World) : Calls Tryz.prog 18 #[.int .u8 a, .int .u8 b] w (RetP w (.bool (followsB a b))) := by
  go_enter Tryz.func18, Tryz.ntmps18
  go_wp2_with (go_at_call 30; refine callP (known_any _ _) ?_)
  all_goals (go_ret; exact RetP.bool (by grind [followsB, knownB]) rfl)
def usesStr (t : Int) : List UInt8 :=
  if t = 1 then [70] else if t = 2 ∨ t = 4 then [70, 111] else if t = 3 then [70, 111, 75] else if t = 5 ∨ t = 6 then [70, 67, 84, 82]
  else if t = 7 then [75, 97] else if t = 8 then [67, 75, 68] else if t = 9 then [75] else if t = 10 then [67, 75, 72] else if t = 11 then [70, 75, 97]
  else if t = 12 then [70, 75, 68] else if t = 13 then [70, 75] else if t = 14 then [70, 84, 75, 68, 97] else if t = 15 ∨ t = 16 ∨ t = 17 then [70, 84, 75, 68] else []
set_option maxHeartbeats 1000000 in
theorem ruses_any (t : Int) (w : World) : Calls Tryz.prog 33 #[.int .u8 t] w (RetP w (.string ⟨(usesStr t).toArray⟩)) := by
  go_enter Tryz.func33, Tryz.ntmps33
  go_wp2
  all_goals (go_ret; exact RetP.str (by grind [usesStr]) rfl)
theorem usesStr_empty (t : Int) : (usesStr t).isEmpty = !knownB t := by grind (splits := 30) [usesStr, knownB]
set_option maxHeartbeats 1000000 in
theorem rfollows_any (a b : Int) (w : World) : Calls Tryz.prog 29 #[.int .u8 a, .int .u8 b] w (RetP w (.bool (followsB a b))) := by
  have ha := Lib.hid (usesStr_empty a)
  have hb := Lib.hid (usesStr_empty b)
  go_enter Tryz.func29, Tryz.ntmps29
  go_wp2_with (go_at_call 33; refine callP (ruses_any _ _) ?_)
  all_goals (go_ret; exact RetP.bool (by have ha := ha.out; have hb := hb.out; grind [followsB, knownB]) rfl)
set_option maxHeartbeats 400000 in
theorem joins_any (a b : Leg) (w : World) : Calls Tryz.prog 20 #[a.val, b.val] w (Ret w (.bool (a.joinsB b))) := by
  go_enter Tryz.func20, Tryz.ntmps20
  go_wp2_with (first
    | (go_at_call 18; refine callP (follows_any _ _ _) ?_)
    | (go_at_call 19; refine callP (from_any _ _) ?_))
  all_goals (go_ret; exact Ret.bool (by grind [Leg.joinsB]) (by go_grown))
set_option maxHeartbeats 400000 in
theorem rjoins_any (a b : Leg) (w : World) : Calls Tryz.prog 21 #[a.val, b.val] w (Ret w (.bool (a.joinsB b))) := by
  go_enter Tryz.func21, Tryz.ntmps21
  go_wp2_with (first
    | (go_at_call 29; refine callP (rfollows_any _ _ _) ?_)
    | (go_at_call 26; refine callP (rfrom_any _ _) ?_))
  all_goals (go_ret; exact Ret.bool (by grind [Leg.joinsB]) (by go_grown))
end Go.Proofs.YtjijpkimlgbepaaGreatDoor
