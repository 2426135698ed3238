/- The errors of an entry by itself, of the program and of the reference. -/
import Derived.Test.YtjgondadpjildaaGreatDoorPk04
import Derived.Test.YtjgondadpjildaaGreatDoorPk05
import Derived.Deep.MidRow
import Derived.Deep.WholeRow
import Derived.Deep.Light
import Derived.Test.YtjgondadpjildaaGreatDoorPk08
import Derived.Test.YtjgondadpjildaaGreatDoorPk10
namespace Go.Proofs.YtjgondadpjildaaGreatDoor
open Go.RowKit
set_option linter.unusedVariables false
set_option linter.unusedSimpArgs false
def placedB (x : Entry) : Bool := (x.leg.fix.isEmpty && !(x.ex == 0 && x.ey == 0)) || (x.leg.center.isEmpty && !(x.mx == 0 && x.my == 0))
def alone2 (x : Entry) : Int :=
  if !sectionB x.sec then 17 else if !viaB x.via then 5 else if !pointB x.ex x.ey || !pointB x.mx x.my then 2 else if placedB x then 1 else 0
def aloneE (x : Entry) : Int := orE (legCheck x.leg) (alone2 x)
set_option maxHeartbeats 2000000 in
set_option maxRecDepth 100000 in
theorem alone_any (x : Entry) (w : World) (hL : Laid w) (hx : x.small) : Calls Tryz.prog 41 #[x.val] w (Ret w (.int .i64 (aloneE x))) := by
  have hO0 := Own1.mk0 w x.arr 41
  go_enter Tryz.func41, Tryz.ntmps41
  go_upto_region 1 with (fail)
  generalize w.alloc _ = W at hO0 ⊢
  have hc0 := hO0.cell
  have hlt0 := hO0.lt
  go_wp2_with (first
    | (go_at_call 25; refine callO (by assumption) (check_any x.leg _ (hL.below (Own1.below (by assumption))) hx.leg) ?_; intro w1 hO1 hc1 hlt1)
    | (go_at_call 23; refine callP (section_any _ _) ?_)
    | (go_at_call 24; refine callOQ (by assumption) (way_any _ _ (hL.below (Own1.below (by assumption))) hx.via) ?_; intro w2 hO2 hc2 hlt2)
    | (go_at_call 73; refine callO (by assumption) (valid_any _ _ _) ?_; intro w3 hO3 hc3 hlt3))
  all_goals (go_ret; refine Ret.int ?_ (Own1.below (cs := x.arr) (by first | assumption | exact Own1.drewN (by assumption) _ | exact Own1.alloc (by assumption) _)); go_light; first | (simp [aloneE, alone2, placedB, orE, *]; done) | grind [aloneE, alone2, placedB, orE])
set_option maxHeartbeats 2000000 in
set_option maxRecDepth 100000 in
theorem single_any (x : Entry) (w : World) (hx : x.small) : Calls Tryz.prog 94 #[x.val] w (Ret w (.int .i64 (aloneE x))) := by
  have hO0 := Own1.mk0 w x.arr 41
  go_enter Tryz.func94, Tryz.ntmps94
  go_upto_region 1 with (fail)
  generalize w.alloc _ = W at hO0 ⊢
  have hc0 := hO0.cell
  have hlt0 := hO0.lt
  go_wp2_with (first
    | (go_at_call 28; refine callO (by assumption) (rcheck_any x.leg _ hx.leg) ?_; intro w1 hO1 hc1 hlt1)
    | (go_at_call 26; refine callP (rsection_any _ _) ?_)
    | (go_at_call 27; refine callP (rvia_any _ _ hx.via) ?_)
    | (go_at_call 111; refine callO (by assumption) (rvalid_any _ _ _) ?_; intro w3 hO3 hc3 hlt3))
  all_goals (go_ret; refine Ret.int ?_ (Own1.below (cs := x.arr) (by first | assumption | exact Own1.drewN (by assumption) _ | exact Own1.alloc (by assumption) _)); go_light; first | (simp [aloneE, alone2, placedB, orE, *]; done) | grind [aloneE, alone2, placedB, orE])
end Go.Proofs.YtjgondadpjildaaGreatDoor
