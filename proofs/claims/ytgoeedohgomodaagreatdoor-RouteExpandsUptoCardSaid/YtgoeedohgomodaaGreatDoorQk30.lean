/- Lemmas and walks. -/
import Derived.Test.YtgoeedohgomodaaGreatDoorQk24
import Derived.Test.YtgoeedohgomodaaGreatDoorQk14
import Derived.Test.YtgoeedohgomodaaGreatDoorQk16
import Derived.Test.YtgoeedohgomodaaGreatDoorQk02
import Derived.Test.YtgoeedohgomodaaGreatDoorQk03
import Derived.Deep.MidRow
import Derived.Deep.WholeRow
import Derived.Deep.Light
set_option linter.unusedSimpArgs false
set_option linter.unusedVariables false
namespace Go.Proofs.YtgoeedohgomodaaGreatDoor
open Go.RowKit
def APt.arr (x:APt):Array Value:=#[.string ⟨x.ref.toArray⟩, .int .i64 x.lo, .int .i64 x.hi, .int .u8 x.dir]
theorem APt.arr_size (x:APt):x.arr.size=4:=rfl
theorem APt.arr_sz (x:APt):x.arr.size=4:=by simp [APt.arr]
theorem APt.arr_one (x:APt):x.arr.all (·.oneCell')=true:=by simp [APt.arr,Value.oneCell']
theorem APt.arr0 (x:APt):x.arr[0]? = some (.string ⟨x.ref.toArray⟩):=rfl
theorem APt.arr1 (x:APt):x.arr[1]? = some (.int .i64 x.lo):=rfl
theorem APt.arr2 (x:APt):x.arr[2]? = some (.int .i64 x.hi):=rfl
theorem APt.arr3 (x:APt):x.arr[3]? = some (.int .u8 x.dir):=rfl
attribute [go_sem] APt.arr0 APt.arr1 APt.arr2 APt.arr3
def APt.eqB (a b:APt):Bool:=decide (a.ref=b.ref) && (decide (a.lo=b.lo) && (decide (a.hi=b.hi) && (decide (a.dir=b.dir))))
theorem APt.eqB_iff (a b:APt):a.eqB b=true ↔ a=b:=by
  obtain ⟨_,_,_,_⟩:=a
  obtain ⟨_,_,_,_⟩:=b
  simp [APt.eqB]
theorem zp0:(Tryz.prog.info? 107).map (·.size)=some 4:=by kernel_rfl
def zds (w:World) (b o:Nat) (x:APt):Prop:=∀ j,j < 4→w.cell? ⟨b,o+j,none⟩=x.arr[j]?
def zed (w:World) (b o:Nat):Prop:=∃ x,zds w b o x
theorem APt.arr_inj {x y:APt} (h:∀ j,j < 4→x.arr[j]? = y.arr[j]?):x=y:=by
  refine (APt.eqB_iff x y).1 ?_
  have hh:∀ j,j < 4→x.arr[j]? = y.arr[j]?:=h
  have e0:=h 0 (by omega)
  have e1:=h 1 (by omega)
  have e2:=h 2 (by omega)
  have e3:=h 3 (by omega)
  simp [APt.arr0,APt.arr1,APt.arr2,APt.arr3] at e0 e1 e2 e3
  simp [APt.eqB, *]
open Classical in
noncomputable def zd6 (w:World) (b o:Nat):APt:=if h:zed w b o then h.choose else ⟨[],0,0,0⟩
theorem zjw {w:World} {b o:Nat} (h:zed w b o):zds w b o (zd6 w b o):=by
  unfold zd6
  rw [dif_pos h]
  exact h.choose_spec
theorem zdF {w:World} {b o:Nat} {x:APt} (h:zds w b o x):zd6 w b o=x:=
  APt.arr_inj fun j hj=>(zjw ⟨x,h⟩ j hj).symm.trans (h j hj)
theorem znP (w:World) (b o n:Nat):zd6 (w.drewN n) b o=zd6 w b o:=rfl
def zmq (v:Value):Sem Value:=Instr.loadAt 107 v
theorem zmp (v:Value):Instr.loadAt 107 v=zmq v:=rfl
theorem zm7 (w:World) (b o:Nat) (h:zed w b o):(zmq (.pointer (some ⟨b,o,none⟩))).run Tryz.prog w=.ok (.agg (zd6 w b o).arr) w:=by
  have hs:=zjw h
  generalize zd6 w b o=x at hs
  have:=zaE (P:=Tryz.prog) w ⟨b,o,none⟩ 107 x.arr.toList _ (fun j v hv=>by
    rw [addr_add,hs j (by have:=(List.getElem?_eq_some_iff.1 hv).1;simpa [APt.arr_size] using this)]
    simpa using hv) Tryz.underlying107 rfl zp0
  simp only [zmq,Instr.loadAt,Instr.sureAddr,Sem.run_bind,Sem.run_pure,Result.andThen_ok]
  simpa using this
def ziQ (p v:Value):Sem Unit:=Instr.storeAt 107 p v
theorem zke (p v:Value):Instr.storeAt 107 p v=ziQ p v:=rfl
theorem zgP (w:World) (c c':Array Value) (hc:c.size=4) (hc':c'.size=4) (h1:c'.all (·.oneCell')=true):
    (ziQ (.pointer (some ⟨w.heap.size,0,none⟩)) (.agg c')).run Tryz.prog (w.alloc (.cells c 107))=.ok () (w.alloc (.cells c' 107)):=
  run_storeAt_new (P:=Tryz.prog) w 107 c c' (by rw [hc'];exact zp0) (by rw [hc,hc']) h1
attribute [go_sem ↓] zmp zke
attribute [go_sem] zm7 zgP znP
theorem APt.arr_oneL (x:APt):x.arr.toList.all (·.oneCell')=true:=by simp [APt.arr,Value.oneCell']
theorem zvT (x:APt) (n:Nat):zdg x.arr n=(4=n):=propext ⟨fun h=>h,fun h=>h⟩
theorem zvZ (x:APt):zdQ x.arr=True:=eq_true (APt.arr_oneL x)
theorem zqw (a b:APt):splice a.arr 0 b.arr=b.arr:=rfl
theorem zkk (w:World) (c c':Array Value) (hc:zdg c 4) (hc':zdg c' 4) (h1:zdQ c'):
    (ziQ (.pointer (some ⟨w.heap.size,0,none⟩)) (.agg c')).run Tryz.prog (w.alloc (.cells c 107))=.ok () (w.alloc (.cells c' 107)):=
  zgP w c c' hc hc' (Array.all_eq_true_iff_forall_mem.2 fun v hv=>(List.all_eq_true.1 (show c'.toList.all (·.oneCell')=true from h1)) v (by simpa using hv))
theorem Blk.is_apt {W:World} {g:Nat} {x:APt} (h:Blk W g x.arr):zds W g 0 x:=fun j _=>by rw [Nat.zero_add];exact h.cell j
attribute [go_sem] zvT zvZ zqw zkk
theorem zel:(Tryz.prog.info? 81).map (·.size)=some 2:=by kernel_rfl
def zlC (w:World) (b o:Nat) (x:Array Value):Prop:=x.size=2∧∀ j,j < 2→w.cell? ⟨b,o+j,none⟩=x[j]?
def zce (w:World) (b o:Nat):Prop:=∃ x,zlC w b o x
open Classical in
noncomputable def zcz (w:World) (b o:Nat):Array Value:=if h:zce w b o then h.choose else #[]
theorem zjv {w:World} {b o:Nat} (h:zce w b o):zlC w b o (zcz w b o):=by
  unfold zcz
  rw [dif_pos h]
  exact h.choose_spec
theorem zby {w:World} {b o:Nat} {x:Array Value} (h:zlC w b o x):zcz w b o=x:=by
  have hs:=zjv ⟨x,h⟩
  apply Array.ext_getElem?
  intro j
  rcases Nat.lt_or_ge j 2 with hj | hj
  · exact (hs.2 j hj).symm.trans (h.2 j hj)
  · rw [Array.getElem?_eq_none (by rw [hs.1];exact hj),Array.getElem?_eq_none (by rw [h.1];exact hj)]
theorem znO (w:World) (b o n:Nat):zcz (w.drewN n) b o=zcz w b o:=rfl
theorem Blk.is_awy {W:World} {g:Nat} {x:Array Value} (h:Blk W g x) (hx:x.size=2):zlC W g 0 x:=⟨hx,fun j _=>by rw [Nat.zero_add];exact h.cell j⟩
def zmo (v:Value):Sem Value:=Instr.loadAt 81 v
theorem zmn (v:Value):Instr.loadAt 81 v=zmo v:=rfl
theorem zm6 (w:World) (b o:Nat) (h:zce w b o):(zmo (.pointer (some ⟨b,o,none⟩))).run Tryz.prog w=.ok (.agg (zcz w b o)) w:=by
  have hs:=zjv h
  generalize zcz w b o=x at hs
  have hl:=zaE (P:=Tryz.prog) w ⟨b,o,none⟩ 81 x.toList _ (fun j v hv=>by
    rw [addr_add,hs.2 j (by have:=(List.getElem?_eq_some_iff.1 hv).1;rw [← hs.1];simpa using this)]
    simpa using hv) Tryz.underlying81 rfl (by rw [zel];simp [hs.1])
  simp only [zmo,Instr.loadAt,Instr.sureAddr,Sem.run_bind,Sem.run_pure,Result.andThen_ok]
  simpa using hl
attribute [go_sem ↓] zmn
attribute [go_sem] zm6 znO
def ziP (p v:Value):Sem Unit:=Instr.storeAt 81 p v
theorem zkd (p v:Value):Instr.storeAt 81 p v=ziP p v:=rfl
theorem zkj (w:World) (c c':Array Value) (hc:zdg c 2) (hc':zdg c' 2) (h1:zdQ c'):
    (ziP (.pointer (some ⟨w.heap.size,0,none⟩)) (.agg c')).run Tryz.prog (w.alloc (.cells c 81))=.ok () (w.alloc (.cells c' 81)):=
  run_storeAt_new (P:=Tryz.prog) w 81 c c' (by rw [show c'.size=2 from hc'];exact zel) (by rw [show c'.size=2 from hc',show c.size=2 from hc]) (Array.all_eq_true_iff_forall_mem.2 fun v hv=>(List.all_eq_true.1 (show c'.toList.all (·.oneCell')=true from h1)) v (by simpa using hv))
theorem zkr (W:World) (g o:Nat) (v:Array Value) (hv:zdg v 2) (h1:zdQ v) (hp:Plain W g) (hn:Fits o 2 (zbN W g)):
    (ziP (.pointer (some ⟨g,o,none⟩)) (.agg v)).run Tryz.prog W=.ok () (W.setRow g (splice (zbN W g) o v)):=zaX W g o 2 _ v zel hv h1 hp hn
attribute [go_sem ↓] zkd
attribute [go_sem] zkj zkr
theorem ze1:(Tryz.prog.info? 183).map (·.size)=some 3:=by kernel_rfl
def zgc (w:World) (b o:Nat) (x:Array Value):Prop:=x.size=3∧∀ j,j < 3→w.cell? ⟨b,o+j,none⟩=x[j]?
def zb3 (w:World) (b o:Nat):Prop:=∃ x,zgc w b o x
open Classical in
noncomputable def zcs (w:World) (b o:Nat):Array Value:=if h:zb3 w b o then h.choose else #[]
theorem zjr {w:World} {b o:Nat} (h:zb3 w b o):zgc w b o (zcs w b o):=by
  unfold zcs
  rw [dif_pos h]
  exact h.choose_spec
theorem zbD {w:World} {b o:Nat} {x:Array Value} (h:zgc w b o x):zcs w b o=x:=by
  have hs:=zjr ⟨x,h⟩
  apply Array.ext_getElem?
  intro j
  rcases Nat.lt_or_ge j 3 with hj | hj
  · exact (hs.2 j hj).symm.trans (h.2 j hj)
  · rw [Array.getElem?_eq_none (by rw [hs.1];exact hj),Array.getElem?_eq_none (by rw [h.1];exact hj)]
theorem znG (w:World) (b o n:Nat):zcs (w.drewN n) b o=zcs w b o:=rfl
theorem Blk.is_prt {W:World} {g:Nat} {x:Array Value} (h:Blk W g x) (hx:x.size=3):zgc W g 0 x:=⟨hx,fun j _=>by rw [Nat.zero_add];exact h.cell j⟩
def zme (v:Value):Sem Value:=Instr.loadAt 183 v
theorem zmd (v:Value):Instr.loadAt 183 v=zme v:=rfl
theorem zm2 (w:World) (b o:Nat) (h:zb3 w b o):(zme (.pointer (some ⟨b,o,none⟩))).run Tryz.prog w=.ok (.agg (zcs w b o)) w:=by
  have hs:=zjr h
  generalize zcs w b o=x at hs
  have hl:=zaE (P:=Tryz.prog) w ⟨b,o,none⟩ 183 x.toList _ (fun j v hv=>by
    rw [addr_add,hs.2 j (by have:=(List.getElem?_eq_some_iff.1 hv).1;rw [← hs.1];simpa using this)]
    simpa using hv) Tryz.underlying183 rfl (by rw [ze1];simp [hs.1])
  simp only [zme,Instr.loadAt,Instr.sureAddr,Sem.run_bind,Sem.run_pure,Result.andThen_ok]
  simpa using hl
attribute [go_sem ↓] zmd
attribute [go_sem] zm2 znG
def ziL (p v:Value):Sem Unit:=Instr.storeAt 183 p v
theorem zj9 (p v:Value):Instr.storeAt 183 p v=ziL p v:=rfl
theorem zkg (w:World) (c c':Array Value) (hc:zdg c 3) (hc':zdg c' 3) (h1:zdQ c'):
    (ziL (.pointer (some ⟨w.heap.size,0,none⟩)) (.agg c')).run Tryz.prog (w.alloc (.cells c 183))=.ok () (w.alloc (.cells c' 183)):=
  run_storeAt_new (P:=Tryz.prog) w 183 c c' (by rw [show c'.size=3 from hc'];exact ze1) (by rw [show c'.size=3 from hc',show c.size=3 from hc]) (Array.all_eq_true_iff_forall_mem.2 fun v hv=>(List.all_eq_true.1 (show c'.toList.all (·.oneCell')=true from h1)) v (by simpa using hv))
theorem zkn (W:World) (g o:Nat) (v:Array Value) (hv:zdg v 3) (h1:zdQ v) (hp:Plain W g) (hn:Fits o 3 (zbN W g)):
    (ziL (.pointer (some ⟨g,o,none⟩)) (.agg v)).run Tryz.prog W=.ok () (W.setRow g (splice (zbN W g) o v)):=zaX W g o 3 _ v ze1 hv h1 hp hn
attribute [go_sem ↓] zj9
attribute [go_sem] zkg zkn
theorem zdm:(Tryz.prog.info? 131).map (·.size)=some 4:=by kernel_rfl
def zj2 (w:World) (b o:Nat) (x:Array Value):Prop:=x.size=4∧∀ j,j < 4→w.cell? ⟨b,o+j,none⟩=x[j]?
def zaR (w:World) (b o:Nat):Prop:=∃ x,zj2 w b o x
open Classical in
noncomputable def za9 (w:World) (b o:Nat):Array Value:=if h:zaR w b o then h.choose else #[]
theorem zjs {w:World} {b o:Nat} (h:zaR w b o):zj2 w b o (za9 w b o):=by
  unfold za9
  rw [dif_pos h]
  exact h.choose_spec
theorem zaB {w:World} {b o:Nat} {x:Array Value} (h:zj2 w b o x):za9 w b o=x:=by
  have hs:=zjs ⟨x,h⟩
  apply Array.ext_getElem?
  intro j
  rcases Nat.lt_or_ge j 4 with hj | hj
  · exact (hs.2 j hj).symm.trans (h.2 j hj)
  · rw [Array.getElem?_eq_none (by rw [hs.1];exact hj),Array.getElem?_eq_none (by rw [h.1];exact hj)]
theorem znI (w:World) (b o n:Nat):za9 (w.drewN n) b o=za9 w b o:=rfl
theorem Blk.is_prc {W:World} {g:Nat} {x:Array Value} (h:Blk W g x) (hx:x.size=4):zj2 W g 0 x:=⟨hx,fun j _=>by rw [Nat.zero_add];exact h.cell j⟩
def zmg (v:Value):Sem Value:=Instr.loadAt 131 v
theorem zmf (v:Value):Instr.loadAt 131 v=zmg v:=rfl
theorem zm3 (w:World) (b o:Nat) (h:zaR w b o):(zmg (.pointer (some ⟨b,o,none⟩))).run Tryz.prog w=.ok (.agg (za9 w b o)) w:=by
  have hs:=zjs h
  generalize za9 w b o=x at hs
  have hl:=zaE (P:=Tryz.prog) w ⟨b,o,none⟩ 131 x.toList _ (fun j v hv=>by
    rw [addr_add,hs.2 j (by have:=(List.getElem?_eq_some_iff.1 hv).1;rw [← hs.1];simpa using this)]
    simpa using hv) Tryz.underlying131 rfl (by rw [zdm];simp [hs.1])
  simp only [zmg,Instr.loadAt,Instr.sureAddr,Sem.run_bind,Sem.run_pure,Result.andThen_ok]
  simpa using hl
attribute [go_sem ↓] zmf
attribute [go_sem] zm3 znI
def ziM (p v:Value):Sem Unit:=Instr.storeAt 131 p v
theorem zka (p v:Value):Instr.storeAt 131 p v=ziM p v:=rfl
theorem zkh (w:World) (c c':Array Value) (hc:zdg c 4) (hc':zdg c' 4) (h1:zdQ c'):
    (ziM (.pointer (some ⟨w.heap.size,0,none⟩)) (.agg c')).run Tryz.prog (w.alloc (.cells c 131))=.ok () (w.alloc (.cells c' 131)):=
  run_storeAt_new (P:=Tryz.prog) w 131 c c' (by rw [show c'.size=4 from hc'];exact zdm) (by rw [show c'.size=4 from hc',show c.size=4 from hc]) (Array.all_eq_true_iff_forall_mem.2 fun v hv=>(List.all_eq_true.1 (show c'.toList.all (·.oneCell')=true from h1)) v (by simpa using hv))
theorem zko (W:World) (g o:Nat) (v:Array Value) (hv:zdg v 4) (h1:zdQ v) (hp:Plain W g) (hn:Fits o 4 (zbN W g)):
    (ziM (.pointer (some ⟨g,o,none⟩)) (.agg v)).run Tryz.prog W=.ok () (W.setRow g (splice (zbN W g) o v)):=zaX W g o 4 _ v zdm hv h1 hp hn
attribute [go_sem ↓] zka
attribute [go_sem] zkh zko
def zao (a:AwyV) (A:Option Addr) (c:Nat):Array Value:=#[.string ⟨a.name.toArray⟩, .slice A a.pts.length c]
def zan (x:PartV) (A:Option Addr) (c:Nat):Array Value:=#[.int .u8 x.kind, .string ⟨x.name.toArray⟩, .slice A x.legs.length c]
def zaf (p:ProcV) (A:Option Addr) (c:Nat):Array Value:=#[.string ⟨p.airport.toArray⟩, .string ⟨p.name.toArray⟩, .int .u8 p.kind, .slice A p.parts.length c]
structure AwyAt (w:World) (cs:Array Value) (a:AwyV):Prop where
  ex:∃ A c,cs=zao a A c∧a.pts.length≤c∧Items w A 4 (a.pts.map APt.arr)
structure PrtAt (w:World) (cs:Array Value) (x:PartV):Prop where
  ex:∃ A c,cs=zan x A c∧x.legs.length≤c∧Items w A 13 (x.legs.map Leg.arr)
structure PrtsAt (w:World) (A:Option Addr) (l:List PartV):Prop where
  ex:∃ css:List (Array Value),css.length=l.length∧Items w A 3 css∧∀ (i:Nat) (cs:Array Value) (x:PartV),css[i]? = some cs→l[i]? = some x→PrtAt w cs x
structure PrcAt (w:World) (cs:Array Value) (p:ProcV):Prop where
  ex:∃ A c,cs=zaf p A c∧p.parts.length≤c∧PrtsAt w A p.parts
structure AwysAt (w:World) (A:Option Addr) (l:List AwyV):Prop where
  ex:∃ css:List (Array Value),css.length=l.length∧Items w A 2 css∧∀ (i:Nat) (cs:Array Value) (x:AwyV),css[i]? = some cs→l[i]? = some x→AwyAt w cs x
structure PrcsAt (w:World) (A:Option Addr) (l:List ProcV):Prop where
  ex:∃ css:List (Array Value),css.length=l.length∧Items w A 4 css∧∀ (i:Nat) (cs:Array Value) (x:ProcV),css[i]? = some cs→l[i]? = some x→PrcAt w cs x
theorem AwyAt.below {w w':World} {cs:Array Value} {a:AwyV} (h:AwyAt w cs a) (hb:Below w.heap.size w w'):AwyAt w' cs a:=by
  obtain ⟨A,c,h1,h2,h3⟩:=h.ex
  exact ⟨⟨A,c,h1,h2,h3.below hb⟩⟩
theorem PrtAt.below {w w':World} {cs:Array Value} {a:PartV} (h:PrtAt w cs a) (hb:Below w.heap.size w w'):PrtAt w' cs a:=by
  obtain ⟨A,c,h1,h2,h3⟩:=h.ex
  exact ⟨⟨A,c,h1,h2,h3.below hb⟩⟩
theorem PrtsAt.below {w w':World} {A:Option Addr} {l:List PartV} (h:PrtsAt w A l) (hb:Below w.heap.size w w'):PrtsAt w' A l:=by
  obtain ⟨css,h1,h2,h3⟩:=h.ex
  exact ⟨⟨css,h1,h2.below hb,fun i cs x a b=>(h3 i cs x a b).below hb⟩⟩
theorem PrcAt.below {w w':World} {cs:Array Value} {a:ProcV} (h:PrcAt w cs a) (hb:Below w.heap.size w w'):PrcAt w' cs a:=by
  obtain ⟨A,c,h1,h2,h3⟩:=h.ex
  exact ⟨⟨A,c,h1,h2,h3.below hb⟩⟩
theorem AwysAt.below {w w':World} {A:Option Addr} {l:List AwyV} (h:AwysAt w A l) (hb:Below w.heap.size w w'):AwysAt w' A l:=by
  obtain ⟨css,h1,h2,h3⟩:=h.ex
  exact ⟨⟨css,h1,h2.below hb,fun i cs x a b=>(h3 i cs x a b).below hb⟩⟩
theorem PrcsAt.below {w w':World} {A:Option Addr} {l:List ProcV} (h:PrcsAt w A l) (hb:Below w.heap.size w w'):PrcsAt w' A l:=by
  obtain ⟨css,h1,h2,h3⟩:=h.ex
  exact ⟨⟨css,h1,h2.below hb,fun i cs x a b=>(h3 i cs x a b).below hb⟩⟩
theorem AwysAt.get {w W:World} {A:Option Addr} {l:List AwyV} (h:AwysAt w A l) (hB:Below w.heap.size w W) {k:Nat} (hk:k < l.length):
    ∃ b off cs,A=some ⟨b,off,none⟩∧b < w.heap.size∧zlC W b (off+k * 2) cs∧AwyAt W cs l[k]:=by
  obtain ⟨css,h1,h2,h3⟩:=h.ex
  have hk':k < css.length:=by omega
  obtain ⟨b,off,hA,hb,hc⟩:=h2.get hk'
  have ha:=h3 k _ _ (List.getElem?_eq_getElem hk') (List.getElem?_eq_getElem hk)
  refine ⟨b,off,css[k],hA,hb,⟨?_,fun j hj=>by rw [hB.cell (p:=⟨b,_,none⟩) hb];exact hc j hj⟩,ha.below hB⟩
  obtain ⟨_,_,e,_⟩:=ha.ex
  rw [e];rfl
theorem PrtsAt.get {w W:World} {A:Option Addr} {l:List PartV} (h:PrtsAt w A l) (hB:Below w.heap.size w W) {k:Nat} (hk:k < l.length):
    ∃ b off cs,A=some ⟨b,off,none⟩∧b < w.heap.size∧zgc W b (off+k * 3) cs∧PrtAt W cs l[k]:=by
  obtain ⟨css,h1,h2,h3⟩:=h.ex
  have hk':k < css.length:=by omega
  obtain ⟨b,off,hA,hb,hc⟩:=h2.get hk'
  have ha:=h3 k _ _ (List.getElem?_eq_getElem hk') (List.getElem?_eq_getElem hk)
  refine ⟨b,off,css[k],hA,hb,⟨?_,fun j hj=>by rw [hB.cell (p:=⟨b,_,none⟩) hb];exact hc j hj⟩,ha.below hB⟩
  obtain ⟨_,_,e,_⟩:=ha.ex
  rw [e];rfl
theorem PrcsAt.get {w W:World} {A:Option Addr} {l:List ProcV} (h:PrcsAt w A l) (hB:Below w.heap.size w W) {k:Nat} (hk:k < l.length):
    ∃ b off cs,A=some ⟨b,off,none⟩∧b < w.heap.size∧zj2 W b (off+k * 4) cs∧PrcAt W cs l[k]:=by
  obtain ⟨css,h1,h2,h3⟩:=h.ex
  have hk':k < css.length:=by omega
  obtain ⟨b,off,hA,hb,hc⟩:=h2.get hk'
  have ha:=h3 k _ _ (List.getElem?_eq_getElem hk') (List.getElem?_eq_getElem hk)
  refine ⟨b,off,css[k],hA,hb,⟨?_,fun j hj=>by rw [hB.cell (p:=⟨b,_,none⟩) hb];exact hc j hj⟩,ha.below hB⟩
  obtain ⟨_,_,e,_⟩:=ha.ex
  rw [e];rfl
theorem PrtAt.no (w:World):PrtAt w #[.int .u8 0, .string ⟨#[]⟩, .slice none 0 0] zbn:=⟨⟨none,0,rfl,Nat.le_refl _,Items.nil _ _ _⟩⟩
theorem ze6 {w W:World} {b off:Nat} {l:List APt} (h:Items w (some ⟨b,off,none⟩) 4 (l.map APt.arr)) (hB:Below w.heap.size w W) {k:Nat} (hk:k < l.length):zds W b (off+k * 4) l[k]:=fun j hj=>by
  rw [h.cells hB (k:=k) (by simpa using hk) j hj,List.getElem_map]
structure AwyV.small (a:AwyV):Prop where
  name:a.name.length≤4000000000
  len:a.pts.length≤4000000
  each:∀ p ∈ a.pts,p.ref.length≤4000000000
structure PartV.small (x:PartV):Prop where
  name:x.name.length≤4000000000
  len:x.legs.length≤4000000
  each:∀ l ∈ x.legs,l.small
structure ProcV.small (p:ProcV):Prop where
  airport:p.airport.length≤4000000000
  name:p.name.length≤4000000000
  len:p.parts.length≤4000000
  each:∀ x ∈ p.parts,x.small
end Go.Proofs.YtgoeedohgomodaaGreatDoor
