/- Lemmas and walks. -/
import Derived.Test.YtgoeedohgomodaaGreatDoorQk22
import Derived.Test.YtgoeedohgomodaaGreatDoorQk08
set_option linter.unusedSimpArgs false
set_option linter.unusedVariables false
namespace Go.Proofs.YtgoeedohgomodaaGreatDoor
open Go.RowKit
structure Pos where
  lat:Int
  lon:Int
def Pos.arr (x:Pos):Array Value:=#[.int .i64 x.lat, .int .i64 x.lon]
theorem Pos.arr_size (x:Pos):x.arr.size=2:=rfl
theorem Pos.arr0 (x:Pos):x.arr[0]? = some (.int .i64 x.lat):=rfl
theorem Pos.arr1 (x:Pos):x.arr[1]? = some (.int .i64 x.lon):=rfl
attribute [go_sem] Pos.arr0 Pos.arr1
def Pos.eqB (a b:Pos):Bool:=decide (a.lat=b.lat) && (decide (a.lon=b.lon))
theorem Pos.eqB_iff (a b:Pos):a.eqB b=true ↔ a=b:=by
  obtain ⟨_,_⟩:=a
  obtain ⟨_,_⟩:=b
  simp [Pos.eqB]
theorem zvh:(Tryz.prog.info? 30).map (·.size)=some 2:=by kernel_rfl
def Is_pos (w:World) (b o:Nat) (x:Pos):Prop:=∀ j,j < 2→w.cell? ⟨b,o+j,none⟩=x.arr[j]?
def za3 (w:World) (b o:Nat):Prop:=∃ x,Is_pos w b o x
theorem Pos.arr_inj {x y:Pos} (h:∀ j,j < 2→x.arr[j]? = y.arr[j]?):x=y:=by
  refine (Pos.eqB_iff x y).1 ?_
  have hh:∀ j,j < 2→x.arr[j]? = y.arr[j]?:=h
  have e0:=h 0 (by omega)
  have e1:=h 1 (by omega)
  simp [Pos.arr0,Pos.arr1] at e0 e1
  simp [Pos.eqB, *]
open Classical in
noncomputable def zbm (w:World) (b o:Nat):Pos:=if h:za3 w b o then h.choose else ⟨0,0⟩
theorem zjt {w:World} {b o:Nat} (h:za3 w b o):Is_pos w b o (zbm w b o):=by
  unfold zbm
  rw [dif_pos h]
  exact h.choose_spec
theorem zaH {w:World} {b o:Nat} {x:Pos} (h:Is_pos w b o x):zbm w b o=x:=
  Pos.arr_inj fun j hj=>(zjt ⟨x,h⟩ j hj).symm.trans (h j hj)
theorem znJ (w:World) (b o n:Nat):zbm (w.drewN n) b o=zbm w b o:=rfl
theorem Is_pos.below {w w':World} {B b o:Nat} {x:Pos} (h:Is_pos w b o x) (hb:Below B w w') (hlt:b < B):Is_pos w' b o x:=fun j hj=>by rw [hb.cell (p:=⟨b,_,none⟩) hlt];exact h j hj
def zmi (v:Value):Sem Value:=Instr.loadAt 30 v
theorem zmh (v:Value):Instr.loadAt 30 v=zmi v:=rfl
theorem zm4 (w:World) (b o:Nat) (h:za3 w b o):(zmi (.pointer (some ⟨b,o,none⟩))).run Tryz.prog w=.ok (.agg (zbm w b o).arr) w:=by
  have hs:=zjt h
  generalize zbm w b o=x at hs
  have:=zaE (P:=Tryz.prog) w ⟨b,o,none⟩ 30 x.arr.toList _ (fun j v hv=>by
    rw [addr_add,hs j (by have:=(List.getElem?_eq_some_iff.1 hv).1;simpa [Pos.arr_size] using this)]
    simpa using hv) Tryz.underlying30 rfl zvh
  simp only [zmi,Instr.loadAt,Instr.sureAddr,Sem.run_bind,Sem.run_pure,Result.andThen_ok]
  simpa using this
attribute [go_sem ↓] zmh
attribute [go_sem] zm4 znJ
theorem zqr (a b:Pos):splice a.arr 0 b.arr=b.arr:=rfl
theorem Blk.is_pos {W:World} {g:Nat} {x:Pos} (h:Blk W g x.arr):Is_pos W g 0 x:=fun j _=>by rw [Nat.zero_add];exact h.cell j
attribute [go_sem] zqr
structure Vec where
  a:Int
  b:Int
  c:Int
def Vec.arr (x:Vec):Array Value:=#[.int .i64 x.a, .int .i64 x.b, .int .i64 x.c]
theorem Vec.arr_size (x:Vec):x.arr.size=3:=rfl
theorem Vec.arr0 (x:Vec):x.arr[0]? = some (.int .i64 x.a):=rfl
theorem Vec.arr1 (x:Vec):x.arr[1]? = some (.int .i64 x.b):=rfl
theorem Vec.arr2 (x:Vec):x.arr[2]? = some (.int .i64 x.c):=rfl
attribute [go_sem] Vec.arr0 Vec.arr1 Vec.arr2
def Vec.eqB (a b:Vec):Bool:=decide (a.a=b.a) && (decide (a.b=b.b) && (decide (a.c=b.c)))
theorem Vec.eqB_iff (a b:Vec):a.eqB b=true ↔ a=b:=by
  obtain ⟨_,_,_⟩:=a
  obtain ⟨_,_,_⟩:=b
  simp [Vec.eqB]
theorem zek:(Tryz.prog.info? 234).map (·.size)=some 3:=by kernel_rfl
def Is_vec (w:World) (b o:Nat) (x:Vec):Prop:=∀ j,j < 3→w.cell? ⟨b,o+j,none⟩=x.arr[j]?
def ze7 (w:World) (b o:Nat):Prop:=∃ x,Is_vec w b o x
theorem Vec.arr_inj {x y:Vec} (h:∀ j,j < 3→x.arr[j]? = y.arr[j]?):x=y:=by
  refine (Vec.eqB_iff x y).1 ?_
  have hh:∀ j,j < 3→x.arr[j]? = y.arr[j]?:=h
  have e0:=h 0 (by omega)
  have e1:=h 1 (by omega)
  have e2:=h 2 (by omega)
  simp [Vec.arr0,Vec.arr1,Vec.arr2] at e0 e1 e2
  simp [Vec.eqB, *]
open Classical in
noncomputable def zeF (w:World) (b o:Nat):Vec:=if h:ze7 w b o then h.choose else ⟨0,0,0⟩
theorem zjo {w:World} {b o:Nat} (h:ze7 w b o):Is_vec w b o (zeF w b o):=by
  unfold zeF
  rw [dif_pos h]
  exact h.choose_spec
theorem zeE {w:World} {b o:Nat} {x:Vec} (h:Is_vec w b o x):zeF w b o=x:=
  Vec.arr_inj fun j hj=>(zjo ⟨x,h⟩ j hj).symm.trans (h j hj)
theorem znF (w:World) (b o n:Nat):zeF (w.drewN n) b o=zeF w b o:=rfl
theorem Is_vec.below {w w':World} {B b o:Nat} {x:Vec} (h:Is_vec w b o x) (hb:Below B w w') (hlt:b < B):Is_vec w' b o x:=fun j hj=>by rw [hb.cell (p:=⟨b,_,none⟩) hlt];exact h j hj
def zmc (v:Value):Sem Value:=Instr.loadAt 234 v
theorem zmb (v:Value):Instr.loadAt 234 v=zmc v:=rfl
theorem zm1 (w:World) (b o:Nat) (h:ze7 w b o):(zmc (.pointer (some ⟨b,o,none⟩))).run Tryz.prog w=.ok (.agg (zeF w b o).arr) w:=by
  have hs:=zjo h
  generalize zeF w b o=x at hs
  have:=zaE (P:=Tryz.prog) w ⟨b,o,none⟩ 234 x.arr.toList _ (fun j v hv=>by
    rw [addr_add,hs j (by have:=(List.getElem?_eq_some_iff.1 hv).1;simpa [Vec.arr_size] using this)]
    simpa using hv) Tryz.underlying234 rfl zek
  simp only [zmc,Instr.loadAt,Instr.sureAddr,Sem.run_bind,Sem.run_pure,Result.andThen_ok]
  simpa using this
def zgG (p v:Value):Sem Unit:=Instr.storeAt 234 p v
theorem zj8 (p v:Value):Instr.storeAt 234 p v=zgG p v:=rfl
theorem zgN (w:World) (c c':Array Value) (hc:c.size=3) (hc':c'.size=3) (h1:c'.all (·.oneCell')=true):
    (zgG (.pointer (some ⟨w.heap.size,0,none⟩)) (.agg c')).run Tryz.prog (w.alloc (.cells c 234))=.ok () (w.alloc (.cells c' 234)):=
  run_storeAt_new (P:=Tryz.prog) w 234 c c' (by rw [hc'];exact zek) (by rw [hc,hc']) h1
attribute [go_sem ↓] zmb zj8
attribute [go_sem] zm1 zgN znF
theorem Vec.arr_oneL (x:Vec):x.arr.toList.all (·.oneCell')=true:=by simp [Vec.arr,Value.oneCell']
theorem zvN (x:Vec) (n:Nat):zdg x.arr n=(3=n):=propext ⟨fun h=>h,fun h=>h⟩
theorem zv0 (x:Vec) (o n:Nat):Fits o n x.arr=(o+n≤3):=propext ⟨fun h=>h,fun h=>h⟩
theorem zvU (x:Vec):zdQ x.arr=True:=eq_true (Vec.arr_oneL x)
theorem zqq (a b:Vec):splice a.arr 0 b.arr=b.arr:=rfl
theorem zkm (W:World) (g o:Nat) (v:Array Value) (hv:zdg v 3) (h1:zdQ v) (hp:Plain W g) (hn:Fits o 3 (zbN W g)):
    (zgG (.pointer (some ⟨g,o,none⟩)) (.agg v)).run Tryz.prog W=.ok () (W.setRow g (splice (zbN W g) o v)):=zaX W g o 3 _ v zek hv h1 hp hn
theorem zkf (w:World) (c c':Array Value) (hc:zdg c 3) (hc':zdg c' 3) (h1:zdQ c'):
    (zgG (.pointer (some ⟨w.heap.size,0,none⟩)) (.agg c')).run Tryz.prog (w.alloc (.cells c 234))=.ok () (w.alloc (.cells c' 234)):=
  zgN w c c' hc hc' (Array.all_eq_true_iff_forall_mem.2 fun v hv=>(List.all_eq_true.1 (show c'.toList.all (·.oneCell')=true from h1)) v (by simpa using hv))
theorem Blk.is_vec {W:World} {g:Nat} {x:Vec} (h:Blk W g x.arr):Is_vec W g 0 x:=fun j _=>by rw [Nat.zero_add];exact h.cell j
attribute [go_sem] zvN zv0 zvU zqq zkm zkf
structure Fr where
  e:Vec
  n:Vec
  u:Vec
def Fr.arr (x:Fr):Array Value:=#[.int .i64 x.e.a, .int .i64 x.e.b, .int .i64 x.e.c, .int .i64 x.n.a, .int .i64 x.n.b, .int .i64 x.n.c, .int .i64 x.u.a, .int .i64 x.u.b, .int .i64 x.u.c]
theorem Fr.arr0 (x:Fr):x.arr[0]? = some (.int .i64 x.e.a):=rfl
theorem Fr.arr1 (x:Fr):x.arr[1]? = some (.int .i64 x.e.b):=rfl
theorem Fr.arr2 (x:Fr):x.arr[2]? = some (.int .i64 x.e.c):=rfl
theorem Fr.arr3 (x:Fr):x.arr[3]? = some (.int .i64 x.n.a):=rfl
theorem Fr.arr4 (x:Fr):x.arr[4]? = some (.int .i64 x.n.b):=rfl
theorem Fr.arr5 (x:Fr):x.arr[5]? = some (.int .i64 x.n.c):=rfl
theorem Fr.arr6 (x:Fr):x.arr[6]? = some (.int .i64 x.u.a):=rfl
theorem Fr.arr7 (x:Fr):x.arr[7]? = some (.int .i64 x.u.b):=rfl
theorem Fr.arr8 (x:Fr):x.arr[8]? = some (.int .i64 x.u.c):=rfl
attribute [go_sem] Fr.arr0 Fr.arr1 Fr.arr2 Fr.arr3 Fr.arr4 Fr.arr5 Fr.arr6 Fr.arr7 Fr.arr8
theorem zpZ:(Tryz.prog.info? 264).map (·.size)=some 9:=by kernel_rfl
def zmW (p v:Value):Sem Unit:=Instr.storeAt 264 p v
theorem zkc (p v:Value):Instr.storeAt 264 p v=zmW p v:=rfl
attribute [go_sem ↓] zkc
theorem Fr.arr_oneL (x:Fr):x.arr.toList.all (·.oneCell')=true:=by simp [Fr.arr,Value.oneCell']
theorem zvR (x:Fr) (n:Nat):zdg x.arr n=(9=n):=propext ⟨fun h=>h,fun h=>h⟩
theorem zv4 (x:Fr) (o n:Nat):Fits o n x.arr=(o+n≤9):=propext ⟨fun h=>h,fun h=>h⟩
theorem zvX (x:Fr):zdQ x.arr=True:=eq_true (Fr.arr_oneL x)
theorem zqu (a b:Fr):splice a.arr 0 b.arr=b.arr:=rfl
theorem zkq (W:World) (g o:Nat) (v:Array Value) (hv:zdg v 9) (h1:zdQ v) (hp:Plain W g) (hn:Fits o 9 (zbN W g)):
    (zmW (.pointer (some ⟨g,o,none⟩)) (.agg v)).run Tryz.prog W=.ok () (W.setRow g (splice (zbN W g) o v)):=zaX W g o 9 _ v zpZ hv h1 hp hn
attribute [go_sem] zvR zv4 zvX zqu zkq
end Go.Proofs.YtgoeedohgomodaaGreatDoor
