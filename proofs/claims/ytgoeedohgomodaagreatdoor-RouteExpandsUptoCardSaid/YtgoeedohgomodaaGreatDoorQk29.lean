/- Lemmas and walks. -/
import Derived.Test.YtgoeedohgomodaaGreatDoorQk21
import Derived.Test.YtgoeedohgomodaaGreatDoorQk28
import Derived.Deep.CutBlock
import Derived.Test.YtgoeedohgomodaaGreatDoorQk10
import Derived.Test.YtgoeedohgomodaaGreatDoorQk18
import Derived.Deep.RegionHeld3
set_option linter.unusedSimpArgs false
set_option linter.unusedVariables false
namespace Go.Proofs.YtgoeedohgomodaaGreatDoor
open Go.RowKit Go.Sort
set_option maxRecDepth 100000
theorem zoi (w:World) (o:Obj):Below w.heap.size w (w.alloc o):=(Below.refl _ _).alloc (Nat.le_refl _) _
theorem znV:(Tryz.prog.info? 64).map (fun i=>(i.zero,i.size,i.bytes))=some (some (.agg (⟨0,[],[],0,false,0,0,0,0,0,0,0,0⟩:Leg).arr),13,112):=by kernel_rfl
def zyp (parts:Array (Nat × Value)):Sem Value:=Instr.buildSlice 119 1 parts
theorem zfy (parts:Array (Nat × Value)):Instr.buildSlice 119 1 parts=zyp parts:=rfl
theorem zgS (w:World) (x:Leg):(zyp #[(0, .agg x.arr)]).run Tryz.prog w=.ok (.slice (some ⟨w.heap.size,0,none⟩) 1 1) (w.alloc (.cells x.arr 64)):=by
  obtain ⟨i0,hi,hz0,hz1,hz2⟩:=info_parts znV
  refine run_buildSlice w 119 64 1 #[(0, .agg x.arr)] x.arr i0 _ Tryz.underlying119 hi hz0 (by rw [hz1];decide) (by rw [hz1];decide) ?_
  rw [hz1]
  kernel_rfl
theorem Blk.legItems {W:World} {q:Nat} {x:Leg} (h:Blk W q x.arr):Items W (some ⟨q,0,none⟩) 13 ([x].map Leg.arr) where
  at_ _:=⟨q,0,rfl,h.lt,fun i y hy j hj=>by
    cases i with
    | zero=>
      obtain rfl:x.arr=y:=by simpa using hy
      rw [h.cell];congr 2;omega
    | succ i=>simp at hy⟩
theorem zgu (W:World) (b o:Nat):zbQ W.drew b o=zbQ W b o:=rfl
theorem znE (W:World) (b o:Nat):zcL W.drew b o=zcL W b o:=rfl
theorem zaO (w:World) (b o:Nat) (ob:Obj) (h:b < w.heap.size):za7 (w.alloc ob) b o=za7 w b o:=by
  have e:∀ j,(w.alloc ob).cell? ⟨b,o+j,none⟩=w.cell? ⟨b,o+j,none⟩:=fun j=>World.cell?_alloc_lt w ob ⟨b,o+j,none⟩ h
  simp only [za7,Is_db,e]
theorem zaT (w:World) (b o:Nat) (ob:Obj) (h:b < w.heap.size) (hh:za7 w b o):zbQ (w.alloc ob) b o=zbQ w b o:=
  zaL ⟨(zfK hh).1,fun j hj=>by rw [World.cell?_alloc_lt w ob ⟨b,o+j,none⟩ h];exact (zfK hh).2 j hj⟩
attribute [local go_sem] zaO zaT zgu znE
attribute [local go_sem ↓] zeM zfy
attribute [local go_sem] zi5 zgS
end Go.Proofs.YtgoeedohgomodaaGreatDoor
namespace Go.Proofs.YtgoeedohgomodaaGreatDoor
open Go.RowKit Go.Sort
set_option maxRecDepth 100000
theorem zmY (p q:Plan) (A B:Option Addr) (c d:Nat):splice (p.arr A c) 0 (q.arr B d)=q.arr B d:=rfl
attribute [local go_sem] zmY
end Go.Proofs.YtgoeedohgomodaaGreatDoor
