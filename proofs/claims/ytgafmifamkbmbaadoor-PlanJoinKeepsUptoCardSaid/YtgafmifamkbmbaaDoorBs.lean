/- One or two entries laid into a new row (what append takes). -/
import Derived.Test.YtgafmifamkbmbaaDoorStartR
import Derived.Great.BuildSlice
namespace Go.Proofs.YtgafmifamkbmbaaDoor
open Go.RowKit
set_option linter.unusedVariables false
set_option linter.unusedSimpArgs false
theorem info_ent_all : (Tryd.prog.info? 41).map (fun i => (i.zero, i.size, i.bytes)) = some (some zeroE.val, 20, 176) := by kernel_rfl
def bs1 (parts : Array (Nat × Value)) : Sem Value := Instr.buildSlice 22 1 parts
theorem bs1_fold (parts : Array (Nat × Value)) : Instr.buildSlice 22 1 parts = bs1 parts := rfl
def bs2 (parts : Array (Nat × Value)) : Sem Value := Instr.buildSlice 22 2 parts
theorem bs2_fold (parts : Array (Nat × Value)) : Instr.buildSlice 22 2 parts = bs2 parts := rfl
theorem run_bs1 (w : World) (x : Entry) : (bs1 #[(0, .agg x.arr)]).run Tryd.prog w = .ok (.slice (some ⟨w.heap.size, 0, none⟩) 1 1) (w.alloc (.cells x.arr 41)) := by
  obtain ⟨i0, hi, hz0, hz1, hz2⟩ := info_parts info_ent_all
  refine run_buildSlice w 22 41 1 #[(0, .agg x.arr)] x.arr i0 _ Tryd.underlying22 hi hz0 (by rw [hz1]; decide) (by rw [hz1]; decide) ?_
  rw [hz1]
  kernel_rfl
theorem run_bs2 (w : World) (x y : Entry) : (bs2 #[(0, .agg x.arr), (1, .agg y.arr)]).run Tryd.prog w = .ok (.slice (some ⟨w.heap.size, 0, none⟩) 2 2) (w.alloc (.cells (x.arr ++ y.arr) 41)) := by
  obtain ⟨i0, hi, hz0, hz1, hz2⟩ := info_parts info_ent_all
  refine run_buildSlice w 22 41 2 #[(0, .agg x.arr), (1, .agg y.arr)] (x.arr ++ y.arr) i0 _ Tryd.underlying22 hi hz0 (by rw [hz1]; decide) (by rw [hz1]; decide) ?_
  rw [hz1]
  kernel_rfl
attribute [go_sem ↓] bs1_fold bs2_fold
attribute [go_sem] run_bs1
end Go.Proofs.YtgafmifamkbmbaaDoor
