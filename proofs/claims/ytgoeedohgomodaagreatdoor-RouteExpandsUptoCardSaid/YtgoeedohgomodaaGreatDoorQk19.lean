/- Lemmas and walks. -/
import Derived.Test.YtgoeedohgomodaaGreatDoorQk11
import Derived.Test.YtgoeedohgomodaaGreatDoorQk07
import Derived.Test.YtgoeedohgomodaaGreatDoorQk01
import Derived.Test.YtgoeedohgomodaaGreatDoorQk03
import Derived.Laws.OwnMore
import Derived.Lib.AppendStr
import Derived.Lib.AtoiAll
import Derived.Test.YtgoeedohgomodaaGreatDoorQk08
import Derived.Laws.StructEq
import Derived.Test.YtgoeedohgomodaaGreatDoorQk02
import Derived.Lib.IndexAny
set_option linter.unusedSimpArgs false
set_option linter.unusedVariables false
namespace Go.Proofs.YtgoeedohgomodaaGreatDoor
open Go.RowKit Go.Sort
set_option maxRecDepth 100000
attribute [local go_sem] zdv
end Go.Proofs.YtgoeedohgomodaaGreatDoor
namespace Go.Proofs.YtgoeedohgomodaaGreatDoor
open Go.RowKit
theorem Plan.arr_oneL (p:Plan) (A:Option Addr) (c:Nat):(p.arr A c).toList.all (·.oneCell')=true:=by simp [Plan.arr,Value.oneCell']
theorem zcE:(Tryz.prog.info? 43).map (·.size)=some 4:=by kernel_rfl
def zmM (w:World) (b o:Nat) (x:Array Value):Prop:=x.size=4∧∀ j,j < 4→w.cell? ⟨b,o+j,none⟩=x[j]?
def zcB (w:World) (b o:Nat):Prop:=∃ x,zmM w b o x
open Classical in
noncomputable def zcN (w:World) (b o:Nat):Array Value:=if h:zcB w b o then h.choose else #[]
theorem zhZ {w:World} {b o:Nat} (h:zcB w b o):zmM w b o (zcN w b o):=by
  unfold zcN
  rw [dif_pos h]
  exact h.choose_spec
theorem zb9 {w:World} {b o:Nat} {x:Array Value} (h:zmM w b o x):zcN w b o=x:=by
  have hs:=zhZ ⟨x,h⟩
  apply Array.ext_getElem?
  intro j
  rcases Nat.lt_or_ge j 4 with hj | hj
  · exact (hs.2 j hj).symm.trans (h.2 j hj)
  · rw [Array.getElem?_eq_none (by rw [hs.1];exact hj),Array.getElem?_eq_none (by rw [h.1];exact hj)]
def zjA (v:Value):Sem Value:=Instr.loadAt 43 v
theorem zkx (v:Value):Instr.loadAt 43 v=zjA v:=rfl
theorem zlS (w:World) (b o:Nat) (h:zcB w b o):(zjA (.pointer (some ⟨b,o,none⟩))).run Tryz.prog w=.ok (.agg (zcN w b o)) w:=by
  have hs:=zhZ h
  generalize zcN w b o=x at hs
  have hl:=zaE (P:=Tryz.prog) w ⟨b,o,none⟩ 43 x.toList _ (fun j v hv=>by
    rw [addr_add,hs.2 j (by have:=(List.getElem?_eq_some_iff.1 hv).1;rw [← hs.1];simpa using this)]
    simpa using hv) Tryz.underlying43 rfl (by rw [zcE];simp [hs.1])
  simp only [zjA,Instr.loadAt,Instr.sureAddr,Sem.run_bind,Sem.run_pure,Result.andThen_ok]
  simpa using hl
attribute [go_sem ↓] zkx
attribute [go_sem] zlS
theorem Blk.is_plan {W:World} {g:Nat} {x:Array Value} (h:Blk W g x) (hx:x.size=4):zmM W g 0 x:=⟨hx,fun j _=>by rw [Nat.zero_add];exact h.cell j⟩
def zhl (p v:Value):Sem Unit:=Instr.storeAt 43 p v
theorem ziN (p v:Value):Instr.storeAt 43 p v=zhl p v:=rfl
theorem ziY (w:World) (c c':Array Value) (hc:zdg c 4) (hc':zdg c' 4) (h1:zdQ c'):
    (zhl (.pointer (some ⟨w.heap.size,0,none⟩)) (.agg c')).run Tryz.prog (w.alloc (.cells c 43))=.ok () (w.alloc (.cells c' 43)):=
  run_storeAt_new (P:=Tryz.prog) w 43 c c' (by rw [show c'.size=4 from hc'];exact zcE) (by rw [show c'.size=4 from hc',show c.size=4 from hc]) (Array.all_eq_true_iff_forall_mem.2 fun v hv=>(List.all_eq_true.1 (show c'.toList.all (·.oneCell')=true from h1)) v (by simpa using hv))
theorem zuh (p:Plan) (A:Option Addr) (c n:Nat):zdg (p.arr A c) n=(4=n):=propext ⟨fun h=>h,fun h=>h⟩
theorem zur (p:Plan) (A:Option Addr) (c:Nat):zdQ (p.arr A c)=True:=eq_true (Plan.arr_oneL p A c)
attribute [go_sem ↓] ziN
attribute [go_sem] ziY zuh zur
end Go.Proofs.YtgoeedohgomodaaGreatDoor
