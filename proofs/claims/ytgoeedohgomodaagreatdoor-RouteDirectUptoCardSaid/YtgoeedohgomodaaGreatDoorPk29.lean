/- Lemmas and walks. -/
import Derived.Test.YtgoeedohgomodaaGreatDoorPk21
import Derived.Test.YtgoeedohgomodaaGreatDoorPk28
import Derived.Deep.CutBlock
import Derived.Test.YtgoeedohgomodaaGreatDoorPk10
import Derived.Test.YtgoeedohgomodaaGreatDoorPk18
import Derived.Deep.RegionHeld3
set_option linter.unusedSimpArgs false
set_option linter.unusedVariables false
namespace Go.Proofs.YtgoeedohgomodaaGreatDoor
open Go.RowKit Go.Sort
set_option maxRecDepth 100000
theorem alloc_below5 (w : World) (o : Obj) : Below w.heap.size w (w.alloc o) := (Below.refl _ _).alloc (Nat.le_refl _) _
theorem info_leg_all : (Tryz.prog.info? 64).map (fun i => (i.zero, i.size, i.bytes)) = some (some (.agg (⟨0, [], [], 0, false, 0, 0, 0, 0, 0, 0, 0, 0⟩ : Leg).arr), 13, 112) := by kernel_rfl
def bsl1 (parts : Array (Nat × Value)) : Sem Value := Instr.buildSlice 119 1 parts
theorem bsl1_fold (parts : Array (Nat × Value)) : Instr.buildSlice 119 1 parts = bsl1 parts := rfl
theorem run_bsl1 (w : World) (x : Leg) : (bsl1 #[(0, .agg x.arr)]).run Tryz.prog w = .ok (.slice (some ⟨w.heap.size, 0, none⟩) 1 1) (w.alloc (.cells x.arr 64)) := by
  obtain ⟨i0, hi, hz0, hz1, hz2⟩ := info_parts info_leg_all
  refine run_buildSlice w 119 64 1 #[(0, .agg x.arr)] x.arr i0 _ Tryz.underlying119 hi hz0 (by rw [hz1]; decide) (by rw [hz1]; decide) ?_
  rw [hz1]
  kernel_rfl
theorem Blk.legItems {W : World} {q : Nat} {x : Leg} (h : Blk W q x.arr) : Items W (some ⟨q, 0, none⟩) 13 ([x].map Leg.arr) where
  at_ _ := ⟨q, 0, rfl, h.lt, fun i y hy j hj => by
    cases i with
    | zero =>
      obtain rfl : x.arr = y := by simpa using hy
      rw [h.cell]; congr 2; omega
    | succ i => simp at hy⟩
theorem of_db_drew5 (W : World) (b o : Nat) : of_db W.drew b o = of_db W b o := rfl
theorem of_win_drew5 (W : World) (b o : Nat) : of_win W.drew b o = of_win W b o := rfl
theorem Has_db_alloc5 (w : World) (b o : Nat) (ob : Obj) (h : b < w.heap.size) : Has_db (w.alloc ob) b o = Has_db w b o := by
  have e : ∀ j, (w.alloc ob).cell? ⟨b, o + j, none⟩ = w.cell? ⟨b, o + j, none⟩ := fun j => World.cell?_alloc_lt w ob ⟨b, o + j, none⟩ h
  simp only [Has_db, Is_db, e]
theorem of_db_alloc5 (w : World) (b o : Nat) (ob : Obj) (h : b < w.heap.size) (hh : Has_db w b o) : of_db (w.alloc ob) b o = of_db w b o :=
  of_db_eq ⟨(of_db_spec hh).1, fun j hj => by rw [World.cell?_alloc_lt w ob ⟨b, o + j, none⟩ h]; exact (of_db_spec hh).2 j hj⟩
attribute [local go_sem] Has_db_alloc5 of_db_alloc5 of_db_drew5 of_win_drew5
attribute [local go_sem ↓] bleg_fold bsl1_fold
attribute [local go_sem] run_bleg3 run_bsl1
end Go.Proofs.YtgoeedohgomodaaGreatDoor
namespace Go.Proofs.YtgoeedohgomodaaGreatDoor
open Go.RowKit Go.Sort
set_option maxRecDepth 100000
theorem splice_planA (p q : Plan) (A B : Option Addr) (c d : Nat) : splice (p.arr A c) 0 (q.arr B d) = q.arr B d := rfl
attribute [local go_sem] splice_planA 
end Go.Proofs.YtgoeedohgomodaaGreatDoor
