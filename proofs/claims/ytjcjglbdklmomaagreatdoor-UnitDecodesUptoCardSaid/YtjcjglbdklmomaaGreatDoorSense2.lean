/- Layer 57: the first error of a report, in the program and in the reference. -/
import Derived.Test.YtjcjglbdklmomaaGreatDoorSense1
namespace Go.Proofs.YtjcjglbdklmomaaGreatDoor
open Go.RowKit
set_option linter.unusedVariables false
set_option linter.unusedSimpArgs false
theorem infoPoint : (Tryz.prog.info? 55).map (·.size) = some 2 := by kernel_rfl
def Rep.pt (r : Rep) : Array Value := #[.int .i64 r.px, .int .i64 r.py]
theorem Rep.pt_sub (r : Rep) : ∀ j, j < 2 → r.arr[2 + j]? = r.pt[j]? := by
  intro j hj
  match j, hj with
  | 0, _ | 1, _ => rfl
set_option maxHeartbeats 4000000 in
set_option maxRecDepth 100000 in
theorem scheck_any (r : Rep) (w : World) : Calls Tryz.prog 14 #[r.val] w (Ret w (.int .i64 (repCheck r))) := by
  have hO0 := Own1.mk0 w r.arr 68
  go_enter Tryz.func14, Tryz.ntmps14
  go_upto_region 1 with (fail)
  generalize w.alloc _ = W at hO0 ⊢
  have hc := hO0.cell
  have hlt := hO0.lt
  have hpt : ∀ j, j < 2 → W.cell? ⟨w.heap.size, 2 + j, none⟩ = r.pt[j]? := fun j hj => by rw [hc]; exact r.pt_sub j hj
  go_wp2_with (first
    | (go_at_call 29; refine callP (from_any _ _ _ _) ?_)
    | ((with_reducible refine at_load 55 (.tmp 20) rfl ?_); refine wpList_load_arr rfl 55 (.tmp 20) rfl w.heap.size 2 rfl r.pt _ _ rfl hpt Tryz.underlying55 rfl infoPoint ?_)
    | (go_at_call 30; refine callO hO0 (pvalid_any _ _ _) ?_; intro w2 hO2 hc2 hlt2; clear hO0 hc hlt hpt))
  all_goals (go_ret; refine Ret.int ?_ (Own1.below (by assumption)); go_light; grind [repCheck, inB, boundOf, valueOf])
set_option maxHeartbeats 4000000 in
set_option maxRecDepth 100000 in
theorem rcheck41_any (r : Rep) (w : World) : Calls Tryz.prog 17 #[r.val] w (Ret w (.int .i64 (repCheck r))) := by
  have hO0 := Own1.mk0 w r.arr 68
  go_enter Tryz.func17, Tryz.ntmps17
  go_upto_region 1 with (fail)
  generalize w.alloc _ = W at hO0 ⊢
  have hc := hO0.cell
  have hlt := hO0.lt
  have hpt : ∀ j, j < 2 → W.cell? ⟨w.heap.size, 2 + j, none⟩ = r.pt[j]? := fun j hj => by rw [hc]; exact r.pt_sub j hj
  go_wp2_with (first
    | (go_at_call 32; refine callP (within_any _ _ _ _) ?_)
    | ((with_reducible refine at_load 55 (.tmp 24) rfl ?_); refine wpList_load_arr rfl 55 (.tmp 24) rfl w.heap.size 2 rfl r.pt _ _ rfl hpt Tryz.underlying55 rfl infoPoint ?_)
    | (go_at_call 31; refine callO hO0 (rpvalid_any _ _ _) ?_; intro w2 hO2 hc2 hlt2; clear hO0 hc hlt hpt))
  all_goals (go_ret; refine Ret.int ?_ (Own1.below (by assumption)); go_light; grind [repCheck, inB, boundOf, valueOf])
end Go.Proofs.YtjcjglbdklmomaaGreatDoor
