/- Layer 57: the first error of a report, in the program and in the reference. -/
import Derived.Test.YtjcjglbdklmomaaGreatDoorRep
namespace Go.Proofs.YtjcjglbdklmomaaGreatDoor
open Go.RowKit
set_option linter.unusedVariables false
set_option linter.unusedSimpArgs false
theorem from_any (x lo hi : Int) (w : World) : Calls Tryz.prog 29 #[.int .i64 x, .int .i64 lo, .int .i64 hi] w (RetP w (.bool (inB x lo hi))) := by
  go_enter Tryz.func29, Tryz.ntmps29
  go_wp2
  all_goals (go_ret; exact RetP.bool (by grind [inB]) rfl)
theorem in_any (x lo hi : Int) (w : World) : Calls Tryz.prog 13 #[.int .i64 x, .int .i64 lo, .int .i64 hi] w (RetP w (.bool (inB x lo hi))) := by
  go_enter Tryz.func13, Tryz.ntmps13
  go_wp2
  all_goals (go_ret; exact RetP.bool (by grind [inB]) rfl)
theorem within_any (x lo hi : Int) (w : World) : Calls Tryz.prog 32 #[.int .i64 x, .int .i64 lo, .int .i64 hi] w (RetP w (.bool (inB x lo hi))) := by
  go_enter Tryz.func32, Tryz.ntmps32
  go_wp2
  all_goals (go_ret; exact RetP.bool (by grind [inB]) rfl)
theorem out_any (x lo hi : Int) (w : World) : Calls Tryz.prog 16 #[.int .i64 x, .int .i64 lo, .int .i64 hi] w (RetP w (.bool (!inB x lo hi))) := by
  go_enter Tryz.func16, Tryz.ntmps16
  go_wp2
  all_goals (go_ret; exact RetP.bool (by grind [inB]) rfl)
theorem pvalid_any (x y : Int) (w : World) : Calls Tryz.prog 30 #[.agg #[.int .i64 x, .int .i64 y]] w (Ret w (.bool (xyB x y))) := by
  go_enter Tryz.func30, Tryz.ntmps30
  go_wp2
  all_goals (go_ret; exact Ret.bool (by grind [xyB, inB]) (by go_grown))
theorem rpvalid_any (x y : Int) (w : World) : Calls Tryz.prog 31 #[.agg #[.int .i64 x, .int .i64 y]] w (Ret w (.bool (xyB x y))) := by
  go_enter Tryz.func31, Tryz.ntmps31
  go_wp2
  all_goals (go_ret; exact Ret.bool (by grind [xyB, inB]) (by go_grown))
end Go.Proofs.YtjcjglbdklmomaaGreatDoor
