/- Lemmas and walks. -/
import Derived.Test.YtnmpfmelaninbaaGreatDoorQk22
import Derived.Test.YtnmpfmelaninbaaGreatDoorQk23
set_option linter.unusedSimpArgs false
set_option linter.unusedVariables false
namespace Go.Proofs.YtnmpfmelaninbaaGreatDoor
open Go.RowKit Go.Sort
def toE (t : Int) (fix : List UInt8) : Entry := ⟨false, ⟨t, fix, [], 0, false, 0, 0, 0, 0, -200000, 6000000, 0, 0⟩, 0, 0, 0, 0, 2, []⟩
theorem results_ent1 {fn : Func} {p : Tmp} (h : fn.results = #[.cell p 57]) (tmps : Array Value) (w : World) (g : Nat) (x : Entry) (hp : tmps.getD p undef = .pointer (some ⟨g, 0, none⟩)) (hx : Is_ent w g 0 x) :
    (results fn tmps).run Tryz.prog w = .ok (.agg x.arr) w := by
  have hp' : tmps[p]?.getD undef = .pointer (some ⟨g, 0, none⟩) := by simpa using hp
  have hl := run_load_agg (P := Tryz.prog) w ⟨g, 0, none⟩ 57 x.arr.toList _ (fun j v hv => by
    rw [addr_add, hx j (by have := (List.getElem?_eq_some_iff.1 hv).1; simpa [Entry.arr_size] using this)]
    simpa using hv) Tryz.underlying57 rfl info_ent
  simp [results, h, hp', asAddr, hl]
theorem Blk.ents {W : World} {g : Nat} {l : List Entry} (h : Blk W g (cellsOf l).toArray) : Ents W (some ⟨g, 0, none⟩) l :=
  ⟨fun _ => ⟨g, 0, rfl, h.lt, fun i x hx j hj => by rw [h.cell, Nat.zero_add]; simpa using cellsOf_at l i x hx j hj⟩⟩
def bs3 (parts : Array (Nat × Value)) : Sem Value := Instr.buildSlice 44 3 parts
theorem bs3_fold (parts : Array (Nat × Value)) : Instr.buildSlice 44 3 parts = bs3 parts := rfl
theorem run_bs3 (w : World) (x y z : Entry) : (bs3 #[(0, .agg x.arr), (1, .agg y.arr), (2, .agg z.arr)]).run Tryz.prog w = .ok (.slice (some ⟨w.heap.size, 0, none⟩) 3 3) (w.alloc (.cells (cellsOf [x, y, z]).toArray 57)) := by
  obtain ⟨i0, hi, hz0, hz1, hz2⟩ := info_parts info_ent_all
  refine run_buildSlice w 44 57 3 #[(0, .agg x.arr), (1, .agg y.arr), (2, .agg z.arr)] (cellsOf [x, y, z]).toArray i0 _ Tryz.underlying44 hi hz0 (by rw [hz1]; decide) (by rw [hz1]; decide) ?_
  rw [hz1]
  kernel_rfl
theorem run_bs2' (w : World) (x y : Entry) : (bs2 #[(0, .agg x.arr), (1, .agg y.arr)]).run Tryz.prog w = .ok (.slice (some ⟨w.heap.size, 0, none⟩) 2 2) (w.alloc (.cells (cellsOf [x, y]).toArray 57)) := by
  have h : x.arr ++ y.arr = (cellsOf [x, y]).toArray := by simp [cellsOf]
  rw [run_bs2, h]
end Go.Proofs.YtnmpfmelaninbaaGreatDoor
