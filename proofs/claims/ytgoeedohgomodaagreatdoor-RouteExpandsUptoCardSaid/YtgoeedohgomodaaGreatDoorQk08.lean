/- Lemmas and walks. -/
import Derived.Test.YtgoeedohgomodaaGreatDoorQk04
import Derived.Test.YtgoeedohgomodaaGreatDoorQk06
import Derived.Laws.CopyRow
import Derived.Test.YtgoeedohgomodaaGreatDoorQk07
import Derived.Test.YtgoeedohgomodaaGreatDoorQk05
set_option linter.unusedSimpArgs false
set_option linter.unusedVariables false
namespace Go.Proofs.YtgoeedohgomodaaGreatDoor
open Go.RowKit
theorem zcx:(Tryz.prog.info? 66).map (·.size)=some 2:=by kernel_rfl
def zmL (w:World) (b o:Nat) (x:Pt):Prop:=∀ j,j < 2→w.cell? ⟨b,o+j,none⟩=x.arr[j]?
def zbw (w:World) (b o:Nat):Prop:=∃ x,zmL w b o x
theorem Pt.arr_inj {x y:Pt} (h:∀ j,j < 2→x.arr[j]? = y.arr[j]?):x=y:=by
  refine (Pt.eqB_iff x y).1 ?_
  have hh:∀ j,j < 2→x.arr[j]? = y.arr[j]?:=h
  have e0:=h 0 (by omega)
  have e1:=h 1 (by omega)
  simp [Pt.arr0,Pt.arr1] at e0 e1
  simp [Pt.eqB, *]
open Classical in
noncomputable def zcr (w:World) (b o:Nat):Pt:=if h:zbw w b o then h.choose else ⟨0,0⟩
theorem zhs {w:World} {b o:Nat} (h:zbw w b o):zmL w b o (zcr w b o):=by
  unfold zcr
  rw [dif_pos h]
  exact h.choose_spec
theorem zaZ {w:World} {b o:Nat} {x:Pt} (h:zmL w b o x):zcr w b o=x:=
  Pt.arr_inj fun j hj=>(zhs ⟨x,h⟩ j hj).symm.trans (h j hj)
theorem zjq (w:World) (b o n:Nat):zcr (w.drewN n) b o=zcr w b o:=rfl
def zo5 (v:Value):Sem Value:=Instr.loadAt 66 v
theorem zh4 (v:Value):Instr.loadAt 66 v=zo5 v:=rfl
theorem zi2 (w:World) (b o:Nat) (h:zbw w b o):(zo5 (.pointer (some ⟨b,o,none⟩))).run Tryz.prog w=.ok (.agg (zcr w b o).arr) w:=by
  have hs:=zhs h
  generalize zcr w b o=x at hs
  have:=zaE (P:=Tryz.prog) w ⟨b,o,none⟩ 66 x.arr.toList _ (fun j v hv=>by
    rw [addr_add,hs j (by have:=(List.getElem?_eq_some_iff.1 hv).1;simpa [Pt.arr_size] using this)]
    simpa using hv) Tryz.underlying66 rfl zcx
  simp only [zo5,Instr.loadAt,Instr.sureAddr,Sem.run_bind,Sem.run_pure,Result.andThen_ok]
  simpa using this
def zio (p v:Value):Sem Unit:=Instr.storeAt 66 p v
theorem zgH (p v:Value):Instr.storeAt 66 p v=zio p v:=rfl
theorem zfj (w:World) (c c':Array Value) (hc:c.size=2) (hc':c'.size=2) (h1:c'.all (·.oneCell')=true):
    (zio (.pointer (some ⟨w.heap.size,0,none⟩)) (.agg c')).run Tryz.prog (w.alloc (.cells c 66))=.ok () (w.alloc (.cells c' 66)):=
  run_storeAt_new (P:=Tryz.prog) w 66 c c' (by rw [hc'];exact zcx) (by rw [hc,hc']) h1
attribute [go_sem ↓] zh4 zgH
attribute [go_sem] zi2 zfj zjq
theorem zfL:(Tryz.prog.info? 62).map (·.size)=some 2:=by kernel_rfl
def zid (w:World) (b o:Nat) (x:Win):Prop:=∀ j,j < 2→w.cell? ⟨b,o+j,none⟩=x.arr[j]?
def zcR (w:World) (b o:Nat):Prop:=∃ x,zid w b o x
theorem Win.arr_inj {x y:Win} (h:∀ j,j < 2→x.arr[j]? = y.arr[j]?):x=y:=by
  refine (Win.eqB_iff x y).1 ?_
  have hh:∀ j,j < 2→x.arr[j]? = y.arr[j]?:=h
  have e0:=h 0 (by omega)
  have e1:=h 1 (by omega)
  simp [Win.arr0,Win.arr1] at e0 e1
  simp [Win.eqB, *]
open Classical in
noncomputable def zcL (w:World) (b o:Nat):Win:=if h:zcR w b o then h.choose else ⟨0,0⟩
theorem zjn {w:World} {b o:Nat} (h:zcR w b o):zid w b o (zcL w b o):=by
  unfold zcL
  rw [dif_pos h]
  exact h.choose_spec
theorem zb8 {w:World} {b o:Nat} {x:Win} (h:zid w b o x):zcL w b o=x:=
  Win.arr_inj fun j hj=>(zjn ⟨x,h⟩ j hj).symm.trans (h j hj)
theorem zhY (w:World) (b o n:Nat):zcL (w.drewN n) b o=zcL w b o:=rfl
theorem zlA (w:World) (x:Win) (t:TypeId):zid (w.alloc (.cells x.arr t)) w.heap.size 0 x:=fun j _=>by rw [Nat.zero_add];exact cell_of_row _ _ j x.arr t (0,0) (heap_alloc_new w _)
theorem zj3 (w:World) (x:Win) (t:TypeId):zcR (w.alloc (.cells x.arr t)) w.heap.size 0=True:=eq_true ⟨x,zlA w x t⟩
theorem zk2 (w:World) (x:Win) (t:TypeId):zcL (w.alloc (.cells x.arr t)) w.heap.size 0=x:=zb8 (zlA w x t)
def zma (v:Value):Sem Value:=Instr.loadAt 62 v
theorem zha (v:Value):Instr.loadAt 62 v=zma v:=rfl
theorem zhO (w:World) (b o:Nat) (h:zcR w b o):(zma (.pointer (some ⟨b,o,none⟩))).run Tryz.prog w=.ok (.agg (zcL w b o).arr) w:=by
  have hs:=zjn h
  generalize zcL w b o=x at hs
  have:=zaE (P:=Tryz.prog) w ⟨b,o,none⟩ 62 x.arr.toList _ (fun j v hv=>by
    rw [addr_add,hs j (by have:=(List.getElem?_eq_some_iff.1 hv).1;simpa [Win.arr_size] using this)]
    simpa using hv) Tryz.underlying62 rfl zfL
  simp only [zma,Instr.loadAt,Instr.sureAddr,Sem.run_bind,Sem.run_pure,Result.andThen_ok]
  simpa using this
def zgF (p v:Value):Sem Unit:=Instr.storeAt 62 p v
theorem zfY (p v:Value):Instr.storeAt 62 p v=zgF p v:=rfl
theorem zeT (w:World) (c c':Array Value) (hc:c.size=2) (hc':c'.size=2) (h1:c'.all (·.oneCell')=true):
    (zgF (.pointer (some ⟨w.heap.size,0,none⟩)) (.agg c')).run Tryz.prog (w.alloc (.cells c 62))=.ok () (w.alloc (.cells c' 62)):=
  run_storeAt_new (P:=Tryz.prog) w 62 c c' (by rw [hc'];exact zfL) (by rw [hc,hc']) h1
attribute [go_sem ↓] zha zfY
attribute [go_sem] zhO zeT zhY zj3 zk2
theorem ziv:(Tryz.prog.info? 64).map (·.size)=some 13:=by kernel_rfl
def Is_leg (w:World) (b o:Nat) (x:Leg):Prop:=∀ j,j < 13→w.cell? ⟨b,o+j,none⟩=x.arr[j]?
def zaJ (w:World) (b o:Nat):Prop:=∃ x,Is_leg w b o x
theorem Leg.arr_inj {x y:Leg} (h:∀ j,j < 13→x.arr[j]? = y.arr[j]?):x=y:=by
  refine (Leg.eqB_iff x y).1 ?_
  have hh:∀ j,j < 13→x.arr[j]? = y.arr[j]?:=h
  have e0:=h 0 (by omega)
  have e1:=h 1 (by omega)
  have e2:=h 2 (by omega)
  have e3:=h 3 (by omega)
  have e4:=h 4 (by omega)
  have e5:=h 5 (by omega)
  have e6:=h 6 (by omega)
  have e7:=h 7 (by omega)
  have e8:=h 8 (by omega)
  have e9:=h 9 (by omega)
  have e10:=h 10 (by omega)
  have e11:=h 11 (by omega)
  have e12:=h 12 (by omega)
  simp [Leg.arr0,Leg.arr1,Leg.arr2,Leg.arr3,Leg.arr4,Leg.arr5,Leg.arr6,Leg.arr7,Leg.arr8,Leg.arr9,Leg.arr10,Leg.arr11,Leg.arr12] at e0 e1 e2 e3 e4 e5 e6 e7 e8 e9 e10 e11 e12
  simp [Leg.eqB, *]
open Classical in
noncomputable def za6 (w:World) (b o:Nat):Leg:=if h:zaJ w b o then h.choose else ⟨0,[],[],0,false,0,0,0,0,0,0,0,0⟩
theorem zgs {w:World} {b o:Nat} (h:zaJ w b o):Is_leg w b o (za6 w b o):=by
  unfold za6
  rw [dif_pos h]
  exact h.choose_spec
theorem zaz {w:World} {b o:Nat} {x:Leg} (h:Is_leg w b o x):za6 w b o=x:=
  Leg.arr_inj fun j hj=>(zgs ⟨x,h⟩ j hj).symm.trans (h j hj)
theorem zh0 (w:World) (b o n:Nat):za6 (w.drewN n) b o=za6 w b o:=rfl
theorem Is_leg.below {w w':World} {B b o:Nat} {x:Leg} (h:Is_leg w b o x) (hb:Below B w w') (hlt:b < B):Is_leg w' b o x:=fun j hj=>by rw [hb.cell (p:=⟨b,_,none⟩) hlt];exact h j hj
theorem zhk (w:World) (b o:Nat) (ob:Obj) (h:b < w.heap.size):zaJ (w.alloc ob) b o=zaJ w b o:=by
  have e:∀ j,(w.alloc ob).cell? ⟨b,o+j,none⟩=w.cell? ⟨b,o+j,none⟩:=fun j=>World.cell?_alloc_lt w ob ⟨b,o+j,none⟩ h
  simp only [zaJ,Is_leg,e]
theorem zh1 (w:World) (b o:Nat) (ob:Obj) (h:b < w.heap.size) (hh:zaJ w b o):za6 (w.alloc ob) b o=za6 w b o:=
  zaz fun j hj=>by rw [World.cell?_alloc_lt w ob ⟨b,o+j,none⟩ h];exact zgs hh j hj
def zmj (v:Value):Sem Value:=Instr.loadAt 64 v
theorem zhb (v:Value):Instr.loadAt 64 v=zmj v:=rfl
theorem zhP (w:World) (b o:Nat) (h:zaJ w b o):(zmj (.pointer (some ⟨b,o,none⟩))).run Tryz.prog w=.ok (.agg (za6 w b o).arr) w:=by
  have hs:=zgs h
  generalize za6 w b o=x at hs
  have:=zaE (P:=Tryz.prog) w ⟨b,o,none⟩ 64 x.arr.toList _ (fun j v hv=>by
    rw [addr_add,hs j (by have:=(List.getElem?_eq_some_iff.1 hv).1;simpa [Leg.arr_size] using this)]
    simpa using hv) Tryz.underlying64 rfl ziv
  simp only [zmj,Instr.loadAt,Instr.sureAddr,Sem.run_bind,Sem.run_pure,Result.andThen_ok]
  simpa using this
def zgI (p v:Value):Sem Unit:=Instr.storeAt 64 p v
theorem zfZ (p v:Value):Instr.storeAt 64 p v=zgI p v:=rfl
theorem zeU (w:World) (c c':Array Value) (hc:c.size=13) (hc':c'.size=13) (h1:c'.all (·.oneCell')=true):
    (zgI (.pointer (some ⟨w.heap.size,0,none⟩)) (.agg c')).run Tryz.prog (w.alloc (.cells c 64))=.ok () (w.alloc (.cells c' 64)):=
  run_storeAt_new (P:=Tryz.prog) w 64 c c' (by rw [hc'];exact ziv) (by rw [hc,hc']) h1
attribute [go_sem ↓] zhb zfZ
attribute [go_sem] zhP zeU zh0 zhk zh1
theorem zhf:(Tryz.prog.info? 69).map (·.size)=some 20:=by kernel_rfl
def zfB (w:World) (b o:Nat) (x:Entry):Prop:=∀ j,j < 20→w.cell? ⟨b,o+j,none⟩=x.arr[j]?
def za4 (w:World) (b o:Nat):Prop:=∃ x,zfB w b o x
theorem Entry.arr_inj {x y:Entry} (h:∀ j,j < 20→x.arr[j]? = y.arr[j]?):x=y:=by
  refine (Entry.eqB_iff x y).1 ?_
  have hh:∀ j,j < 20→x.arr[j]? = y.arr[j]?:=h
  have e0:=h 0 (by omega)
  have e1:=h 1 (by omega)
  have e2:=h 2 (by omega)
  have e3:=h 3 (by omega)
  have e4:=h 4 (by omega)
  have e5:=h 5 (by omega)
  have e6:=h 6 (by omega)
  have e7:=h 7 (by omega)
  have e8:=h 8 (by omega)
  have e9:=h 9 (by omega)
  have e10:=h 10 (by omega)
  have e11:=h 11 (by omega)
  have e12:=h 12 (by omega)
  have e13:=h 13 (by omega)
  have e14:=h 14 (by omega)
  have e15:=h 15 (by omega)
  have e16:=h 16 (by omega)
  have e17:=h 17 (by omega)
  have e18:=h 18 (by omega)
  have e19:=h 19 (by omega)
  simp [Entry.arr0,Entry.arr1,Entry.arr2,Entry.arr3,Entry.arr4,Entry.arr5,Entry.arr6,Entry.arr7,Entry.arr8,Entry.arr9,Entry.arr10,Entry.arr11,Entry.arr12,Entry.arr13,Entry.arr14,Entry.arr15,Entry.arr16,Entry.arr17,Entry.arr18,Entry.arr19] at e0 e1 e2 e3 e4 e5 e6 e7 e8 e9 e10 e11 e12 e13 e14 e15 e16 e17 e18 e19
  simp [Entry.eqB, *]
open Classical in
noncomputable def zbE (w:World) (b o:Nat):Entry:=if h:za4 w b o then h.choose else ⟨false,⟨0,[],[],0,false,0,0,0,0,0,0,0,0⟩,0,0,0,0,0,[]⟩
theorem zgt {w:World} {b o:Nat} (h:za4 w b o):zfB w b o (zbE w b o):=by
  unfold zbE
  rw [dif_pos h]
  exact h.choose_spec
theorem zaS {w:World} {b o:Nat} {x:Entry} (h:zfB w b o x):zbE w b o=x:=
  Entry.arr_inj fun j hj=>(zgt ⟨x,h⟩ j hj).symm.trans (h j hj)
theorem zh2 (w:World) (b o n:Nat):zbE (w.drewN n) b o=zbE w b o:=rfl
def zmm (v:Value):Sem Value:=Instr.loadAt 69 v
theorem zhc (v:Value):Instr.loadAt 69 v=zmm v:=rfl
theorem zhQ (w:World) (b o:Nat) (h:za4 w b o):(zmm (.pointer (some ⟨b,o,none⟩))).run Tryz.prog w=.ok (.agg (zbE w b o).arr) w:=by
  have hs:=zgt h
  generalize zbE w b o=x at hs
  have:=zaE (P:=Tryz.prog) w ⟨b,o,none⟩ 69 x.arr.toList _ (fun j v hv=>by
    rw [addr_add,hs j (by have:=(List.getElem?_eq_some_iff.1 hv).1;simpa [Entry.arr_size] using this)]
    simpa using hv) Tryz.underlying69 rfl zhf
  simp only [zmm,Instr.loadAt,Instr.sureAddr,Sem.run_bind,Sem.run_pure,Result.andThen_ok]
  simpa using this
def zgK (p v:Value):Sem Unit:=Instr.storeAt 69 p v
theorem zf0 (p v:Value):Instr.storeAt 69 p v=zgK p v:=rfl
theorem zeV (w:World) (c c':Array Value) (hc:c.size=20) (hc':c'.size=20) (h1:c'.all (·.oneCell')=true):
    (zgK (.pointer (some ⟨w.heap.size,0,none⟩)) (.agg c')).run Tryz.prog (w.alloc (.cells c 69))=.ok () (w.alloc (.cells c' 69)):=
  run_storeAt_new (P:=Tryz.prog) w 69 c c' (by rw [hc'];exact zhf) (by rw [hc,hc']) h1
attribute [go_sem ↓] zhc zf0
attribute [go_sem] zhQ zeV zh2
end Go.Proofs.YtgoeedohgomodaaGreatDoor
namespace Go.Proofs.YtgoeedohgomodaaGreatDoor
open Go.RowKit
theorem Leg.arr_oneL (x:Leg):x.arr.toList.all (·.oneCell')=true:=by simp [Leg.arr,Value.oneCell']
theorem Entry.arr_oneL (x:Entry):x.arr.toList.all (·.oneCell')=true:=by simp [Entry.arr,Value.oneCell']
theorem Pt.arr_oneL (x:Pt):x.arr.toList.all (·.oneCell')=true:=by simp [Pt.arr,Value.oneCell']
theorem Win.arr_oneL (x:Win):x.arr.toList.all (·.oneCell')=true:=by simp [Win.arr,Value.oneCell']
theorem zqi (x:Leg) (n:Nat):zdg x.arr n=(13=n):=propext ⟨fun h=>h,fun h=>h⟩
theorem zqj (x:Entry) (n:Nat):zdg x.arr n=(20=n):=propext ⟨fun h=>h,fun h=>h⟩
theorem zug (x:Pt) (n:Nat):zdg x.arr n=(2=n):=propext ⟨fun h=>h,fun h=>h⟩
theorem zqh (x:Win) (n:Nat):zdg x.arr n=(2=n):=propext ⟨fun h=>h,fun h=>h⟩
theorem zqn (x:Entry) (o n:Nat):Fits o n x.arr=(o+n≤20):=propext ⟨fun h=>h,fun h=>h⟩
attribute [go_sem] zqi zqj zug zqh zqn
theorem zql (x:Leg):zdQ x.arr=True:=eq_true (Leg.arr_oneL x)
theorem zqm (x:Entry):zdQ x.arr=True:=eq_true (Entry.arr_oneL x)
theorem zuq (x:Pt):zdQ x.arr=True:=eq_true (Pt.arr_oneL x)
theorem zqk (x:Win):zdQ x.arr=True:=eq_true (Win.arr_oneL x)
attribute [go_sem] zql zqm zuq zqk
theorem zgR (W:World) (g o:Nat) (v:Array Value) (hv:zdg v 2) (h1:zdQ v) (hp:Plain W g) (hn:Fits o 2 (zbN W g)):
    (zio (.pointer (some ⟨g,o,none⟩)) (.agg v)).run Tryz.prog W=.ok () (W.setRow g (splice (zbN W g) o v)):=zaX W g o 2 _ v zcx hv h1 hp hn
theorem Blk.is_pt {W:World} {g:Nat} {x:Pt} (h:Blk W g x.arr):zmL W g 0 x:=fun j _=>by rw [Nat.zero_add];exact h.cell j
attribute [go_sem] zgR
theorem Blk.is_win {W:World} {g:Nat} {x:Win} (h:Blk W g x.arr):zid W g 0 x:=fun j _=>by rw [Nat.zero_add];exact h.cell j
theorem zf6 (W:World) (g o:Nat) (v:Array Value) (hv:zdg v 13) (h1:zdQ v) (hp:Plain W g) (hn:Fits o 13 (zbN W g)):
    (zgI (.pointer (some ⟨g,o,none⟩)) (.agg v)).run Tryz.prog W=.ok () (W.setRow g (splice (zbN W g) o v)):=zaX W g o 13 _ v ziv hv h1 hp hn
theorem Blk.is_leg {W:World} {g:Nat} {x:Leg} (h:Blk W g x.arr):Is_leg W g 0 x:=fun j _=>by rw [Nat.zero_add];exact h.cell j
attribute [go_sem] zf6
theorem zf7 (W:World) (g o:Nat) (v:Array Value) (hv:zdg v 20) (h1:zdQ v) (hp:Plain W g) (hn:Fits o 20 (zbN W g)):
    (zgK (.pointer (some ⟨g,o,none⟩)) (.agg v)).run Tryz.prog W=.ok () (W.setRow g (splice (zbN W g) o v)):=zaX W g o 20 _ v zhf hv h1 hp hn
theorem Blk.is_ent {W:World} {g:Nat} {x:Entry} (h:Blk W g x.arr):zfB W g 0 x:=fun j _=>by rw [Nat.zero_add];exact h.cell j
theorem zj4 (W:World) (g:Nat) (x:Entry) (h:Plain W g):za4 (W.setRow g x.arr) g 0=True:=eq_true ⟨x,fun j _=>by rw [Nat.zero_add];exact zmE W g j x.arr h⟩
theorem zk3 (W:World) (g:Nat) (x:Entry) (h:Plain W g):zbE (W.setRow g x.arr) g 0=x:=zaS fun j _=>by rw [Nat.zero_add];exact zmE W g j x.arr h
attribute [go_sem] zf7 zj4 zk3
theorem zgQ (w:World) (c c':Array Value) (hc:zdg c 2) (hc':zdg c' 2) (h1:zdQ c'):
    (zio (.pointer (some ⟨w.heap.size,0,none⟩)) (.agg c')).run Tryz.prog (w.alloc (.cells c 66))=.ok () (w.alloc (.cells c' 66)):=
  zfj w c c' hc hc' (Array.all_eq_true_iff_forall_mem.2 fun v hv=>(List.all_eq_true.1 (show c'.toList.all (·.oneCell')=true from h1)) v (by simpa using hv))
attribute [go_sem] zgQ
theorem zf3 (w:World) (c c':Array Value) (hc:zdg c 2) (hc':zdg c' 2) (h1:zdQ c'):
    (zgF (.pointer (some ⟨w.heap.size,0,none⟩)) (.agg c')).run Tryz.prog (w.alloc (.cells c 62))=.ok () (w.alloc (.cells c' 62)):=
  zeT w c c' hc hc' (Array.all_eq_true_iff_forall_mem.2 fun v hv=>(List.all_eq_true.1 (show c'.toList.all (·.oneCell')=true from h1)) v (by simpa using hv))
attribute [go_sem] zf3
theorem zf4 (w:World) (c c':Array Value) (hc:zdg c 13) (hc':zdg c' 13) (h1:zdQ c'):
    (zgI (.pointer (some ⟨w.heap.size,0,none⟩)) (.agg c')).run Tryz.prog (w.alloc (.cells c 64))=.ok () (w.alloc (.cells c' 64)):=
  zeU w c c' hc hc' (Array.all_eq_true_iff_forall_mem.2 fun v hv=>(List.all_eq_true.1 (show c'.toList.all (·.oneCell')=true from h1)) v (by simpa using hv))
attribute [go_sem] zf4
theorem zf5 (w:World) (c c':Array Value) (hc:zdg c 20) (hc':zdg c' 20) (h1:zdQ c'):
    (zgK (.pointer (some ⟨w.heap.size,0,none⟩)) (.agg c')).run Tryz.prog (w.alloc (.cells c 69))=.ok () (w.alloc (.cells c' 69)):=
  zeV w c c' hc hc' (Array.all_eq_true_iff_forall_mem.2 fun v hv=>(List.all_eq_true.1 (show c'.toList.all (·.oneCell')=true from h1)) v (by simpa using hv))
attribute [go_sem] zf5
end Go.Proofs.YtgoeedohgomodaaGreatDoor
namespace Go.Proofs.YtgoeedohgomodaaGreatDoor
open Go.RowKit
def zco (x:Entry):Entry:=⟨x.gap,⟨1,x.leg.fix,[],0,false,0,0,0,0,x.leg.lo,x.leg.hi,x.leg.speed,x.leg.rnp⟩,x.ex,x.ey,0,0,x.sec,x.via⟩
def stF (x:Entry):Entry:=⟨x.gap,⟨1,x.leg.fix,[],0,false,0,0,0,0,x.leg.lo,x.leg.hi,x.leg.speed,x.leg.rnp⟩,x.ex,x.ey,x.mx,x.my,x.sec,x.via⟩
def zgL (t:Int):Bool:=t == 2 || t == 5 || t == 6
def zeroE:Entry:=⟨false,⟨0,[],[],0,false,0,0,0,0,0,0,0,0⟩,0,0,0,0,0,[]⟩
def zbq (x:Entry):Entry × Bool:=if zcu x.leg.ty then (x,true) else if zgL x.leg.ty then (zco x,true) else (zeroE,false)
theorem Win.arr_mk (a b:Int):Win.arr ⟨a,b⟩=#[.int .i64 a, .int .i64 b]:=rfl
theorem Pt.arr_mk (a b:Int):Pt.arr ⟨a,b⟩=#[.int .i64 a, .int .i64 b]:=rfl
attribute [local go_sem] Win.arr_mk Pt.arr_mk
theorem Entry.is_win {W:World} {g:Nat} {x:Entry} (h:Blk W g x.arr):zid W g 10 ⟨x.leg.lo,x.leg.hi⟩:=by
  intro j hj
  rw [h.cell]
  match j,hj with
  | 0,_ | 1,_=>rfl
theorem zb1 {fn:Func} {p t:Tmp} (h:fn.results=#[.cell p 69, .tmp t]) (tmps:Array Value) (w:World) (g:Nat) (x:Entry) (hp:tmps.getD p undef=.pointer (some ⟨g,0,none⟩)) (hx:zfB w g 0 x):
    (results fn tmps).run Tryz.prog w=.ok (.tuple #[.agg x.arr,tmps.getD t undef]) w:=by
  have hp':tmps[p]?.getD undef=.pointer (some ⟨g,0,none⟩):=by simpa using hp
  have hl:=zaE (P:=Tryz.prog) w ⟨g,0,none⟩ 69 x.arr.toList _ (fun j v hv=>by
    rw [addr_add,hx j (by have:=(List.getElem?_eq_some_iff.1 hv).1;simpa [Entry.arr_size] using this)]
    simpa using hv) Tryz.underlying69 rfl zhf
  simp [results,h,hp',asAddr,hl]
theorem Ret.start {w w':World} {r:Entry × Bool} {x:Entry} {b:Bool} (h:r=(x,b)) (hw:Below w.heap.size w w'):Ret w (.tuple #[r.1.val, .bool r.2]) (.returned (.tuple #[.agg x.arr, .bool b])) w':=by
  subst h;exact ⟨rfl,hw⟩
set_option maxHeartbeats 4000000 in
set_option maxRecDepth 100000 in
theorem zmX (x:Entry) (w:World):Calls Tryz.prog 154 #[x.val] w (Ret w (.tuple #[(zbq x).1.val, .bool (zbq x).2])):=by
  obtain ⟨a1,h1⟩:∃ a,zcu x.leg.ty=a:=⟨_,rfl⟩
  obtain ⟨a2,h2⟩:∃ a,(x.leg.ty == 2)=a:=⟨_,rfl⟩
  obtain ⟨a5,h5⟩:∃ a,(x.leg.ty == 5)=a:=⟨_,rfl⟩
  obtain ⟨a6,h6⟩:∃ a,(x.leg.ty == 6)=a:=⟨_,rfl⟩
  have hs:=Lib.hid (show zbq x=if a1 then (x,true) else if a2 || a5 || a6 then (zco x,true) else (zeroE,false) by simp [zbq,h1,zgL,h2,h5,h6])
  go_enter Tryz.func154,Tryz.ntmps154
  go_upto_region 1 with (fail)
  generalize hW:(w.alloc _).alloc _=W
  have X0:Blk W w.heap.size x.arr:=by rw [← hW];exact (Blk.new w x.arr _).alloc _
  have R0:Blk W (w.heap.size+1) zeroE.arr:=by rw [← hW,← World.size_alloc w (.cells x.arr 69)];exact Blk.new _ _ _
  have B0:Below w.heap.size w W:=by rw [← hW];go_grown
  clear hW
  have c1:=X0.cell
  have c2:=X0.plain
  have c3:=X0.of
  have c4:za4 W w.heap.size 0:=⟨x,X0.is_ent⟩
  have c5:zbE W w.heap.size 0=x:=zaS X0.is_ent
  have c6:zcR W w.heap.size 10:=⟨_,Entry.is_win X0⟩
  have c7:zcL W w.heap.size 10=⟨x.leg.lo,x.leg.hi⟩:=zb8 (Entry.is_win X0)
  have d1:=R0.cell
  have d2:=R0.plain
  have d3:=R0.of
  have f1:splice x.arr 1 #[.int .u8 1, .string ⟨x.leg.fix.toArray⟩, .string ⟨#[]⟩, .int .u8 0, .bool false, .int .i64 0, .int .i64 0, .int .i64 0, .int .i64 0, .int .i64 x.leg.lo, .int .i64 x.leg.hi, .int .i64 x.leg.speed, .int .i64 x.leg.rnp]=(stF x).arr:=rfl
  have f2:splice (stF x).arr 16 #[.int .i64 0, .int .i64 0]=(zco x).arr:=rfl
  have f3:splice zeroE.arr 0 (zco x).arr=(zco x).arr:=rfl
  have f4:splice zeroE.arr 0 x.arr=x.arr:=rfl
  cases a1
  · cases a2
    · cases a5
      · cases a6
        · go_wp2_with (go_at_call 53;refine zae (zdu _ _) ?_)
          exact bodyPost_ret (zb1 Tryz.results154 _ _ (w.heap.size+1) zeroE rfl ((R0.set zeroE.arr).is_ent)) rfl (Ret.start (by rw [hs.out];rfl) (zab B0 (by omega) _))
        · go_wp2_with (go_at_call 53;refine zae (zdu _ _) ?_)
          exact bodyPost_ret (zb1 Tryz.results154 _ _ (w.heap.size+1) (zco x) rfl (((R0.far (by omega) _).set _).is_ent)) rfl (Ret.start (by rw [hs.out];rfl) (zab (zab B0 (by omega) _) (by omega) _))
      · go_wp2_with (go_at_call 53;refine zae (zdu _ _) ?_)
        exact bodyPost_ret (zb1 Tryz.results154 _ _ (w.heap.size+1) (zco x) rfl (((R0.far (by omega) _).set _).is_ent)) rfl (Ret.start (by rw [hs.out];rfl) (zab (zab B0 (by omega) _) (by omega) _))
    · go_wp2_with (go_at_call 53;refine zae (zdu _ _) ?_)
      exact bodyPost_ret (zb1 Tryz.results154 _ _ (w.heap.size+1) (zco x) rfl (((R0.far (by omega) _).set _).is_ent)) rfl (Ret.start (by rw [hs.out];rfl) (zab (zab B0 (by omega) _) (by omega) _))
  · go_wp2_with (go_at_call 53;refine zae (zdu _ _) ?_)
    exact bodyPost_ret (zb1 Tryz.results154 _ _ (w.heap.size+1) x rfl ((R0.set x.arr).is_ent)) rfl (Ret.start (by rw [hs.out];rfl) (zab B0 (by omega) _))
end Go.Proofs.YtgoeedohgomodaaGreatDoor
