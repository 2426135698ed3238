/- Lemmas and walks. -/
import Derived.Test.YtgoeedohgomodaaGreatDoorQk01
import Derived.Deep.MidRow
import Derived.Deep.WholeRow
import Derived.Deep.Light
import Derived.Laws.CopyRow
import Derived.Laws.StructEq
set_option linter.unusedSimpArgs false
set_option linter.unusedVariables false
namespace Go.Proofs.YtgoeedohgomodaaGreatDoor
open Go.RowKit
section
variable {P:Program}
theorem ztK {f:FuncId} {args:Array Value} {w W:World} {cs:Array Value} {v:Value} {K:Ending→World→Prop} (hO:Own1 w cs W) (h:Calls P f args W (Ret W v))
    (k:∀ w',Own1 w cs w'→(∀ j,w'.cell? ⟨w.heap.size,j,none⟩=cs[j]?)→w.heap.size < w'.heap.size→K (.returned v) w'):Calls P f args W K:=
  h.mono fun e w' ⟨he,hw⟩=>by subst he;exact k w' (hO.step hw) (hO.step hw).cell (hO.step hw).lt
theorem zwi {f:FuncId} {args:Array Value} {w W:World} {cs:Array Value} {v:Value} {K:Ending→World→Prop} (hO:Own1 w cs W) (h:Calls P f args W (RetQ W v))
    (k:∀ w',Own1 w cs w'→(∀ j,w'.cell? ⟨w.heap.size,j,none⟩=cs[j]?)→w.heap.size < w'.heap.size→K (.returned v) w'):Calls P f args W K:=
  ztK hO (h.mono fun _ _ hh=>hh.ret) k
theorem zcX {ops:Array Oper} {rest:List Oper} {o:Oper} {a:Act} {w:World} {Q:Exit→Act→World→Prop} (hgd:o.guard=none) (t:TypeId) (x y:Operand) (ho:o.op=.store t x y)
    (c c':Array Value) (hx:a.eval x=.pointer (some ⟨w.heap.size,0,none⟩)) (hy:a.eval y=.agg c') (n:Nat) (hi:(P.info? t).map (·.size)=some n) (hn':c'.size=n) (hn:c.size=n) (h1:c'.all (·.oneCell')=true)
    (h:wpList P ops Q rest (a.put o.dst undef) (w.alloc (.cells c' t))):wpList P ops Q (o :: rest) a (w.alloc (.cells c t)):=by
  refine wpList_store_row hgd t x y ho w.heap.size c' hx hy t c (heap_alloc_last w _) (by rw [hn'];exact hi) (by rw [hn,hn']) h1 ?_
  rw [World.setRow_alloc_new]
  exact h
end
section
variable {P:Program}
theorem addr_add (b o j:Nat):(⟨b,o,none⟩:Addr).add j=⟨b,o+j,none⟩:=by unfold Addr.add;split <;> simp_all
theorem zcQ {ops:Array Oper} {rest:List Oper} {op:Oper} {a:Act} {w:World} {Q:Exit→Act→World→Prop} (ty:TypeId) (x:Operand) (ho:op.op=.load ty x) (h:wpList P ops Q (op :: rest) a w):wpList P ops Q (op :: rest) a w:=h
theorem ziE {ops:Array Oper} {rest:List Oper} {op:Oper} {a:Act} {w:World} {Q:Exit→Act→World→Prop} (ty:TypeId) (x y:Operand) (ho:op.op=.store ty x y) (h:wpList P ops Q (op :: rest) a w):wpList P ops Q (op :: rest) a w:=h
theorem zax {ops:Array Oper} {rest:List Oper} {op:Oper} {a:Act} {w:World} {Q:Exit→Act→World→Prop} (hgd:op.guard=none) (ty:TypeId) (x:Operand) (ho:op.op=.load ty x)
    (b o:Nat) (hx:a.eval x=.pointer (some ⟨b,o,none⟩)) (arr:Array Value) (n:Nat) (d:TypeDesc) (hn:arr.size=n) (hc:∀ j,j < n→w.cell? ⟨b,o+j,none⟩=arr[j]?)
    (hu:P.underlying ty=some d) (hd:(match d with | .struct _ | .array _ _=>true | _=>false)=true) (hi:(P.info? ty).map (·.size)=some n)
    (h:wpList P ops Q rest (a.put op.dst (.agg arr)) w):wpList P ops Q (op :: rest) a w:=by
  subst hn
  refine ziG hgd ty x ho ⟨b,o,none⟩ hx arr.toList d ?_ hu hd (by simpa using hi) (by simpa using h)
  intro j v hv
  rw [addr_add,hc j (by have:=(List.getElem?_eq_some_iff.1 hv).1;simpa using this)]
  simpa using hv
end
structure Boxed (w:World) (g:Nat) (cs:Array Value):Prop where
  lt:g < w.heap.size
  cell:∀ j,w.cell? ⟨g,j,none⟩=cs[j]?
theorem Boxed.step {W w1:World} {g:Nat} {cs:Array Value} (h:Boxed W g cs) (hb:Below W.heap.size W w1):Boxed w1 g cs:=
  ⟨Nat.lt_of_lt_of_le h.lt hb.size,fun j=>by rw [hb.cell (p:=⟨g,j,none⟩) h.lt];exact h.cell j⟩
theorem Boxed.new (w:World) (cs:Array Value) (t:TypeId):Boxed (w.alloc (.cells cs t)) w.heap.size cs:=
  ⟨by simp,fun j=>cell_of_row _ _ j cs t (0,0) (heap_alloc_new w _)⟩
theorem Boxed.alloc {W:World} {g:Nat} {cs:Array Value} (h:Boxed W g cs) (o:Obj):Boxed (W.alloc o) g cs:=h.step ((Below.refl _ _).alloc (Nat.le_refl _) _)
theorem Own1.boxed {w W:World} {cs:Array Value} (h:Own1 w cs W):Boxed W w.heap.size cs:=⟨h.lt,h.cell⟩
theorem Boxed.own {w W:World} {cs:Array Value} (h:Boxed W w.heap.size cs) (hB:Below w.heap.size w W):Own1 w cs W:=⟨hB,h.lt,h.cell⟩
theorem Boxed.at {W:World} {g:Nat} {cs:Array Value} (h:Boxed W g cs) (o:Nat) (sub:Array Value) (n:Nat) (hs:∀ j,j < n→cs[o+j]? = sub[j]?):∀ j,j < n→W.cell? ⟨g,o+j,none⟩=sub[j]?:=
  fun j hj=>(h.cell _).trans (hs j hj)
theorem zaa {w W w1:World} (h:Below w.heap.size w W) (hb:Below W.heap.size W w1):Below w.heap.size w w1:=h.trans (hb.mono h.size)
section
variable {P:Program}
theorem zvE {f:FuncId} {args:Array Value} {w W:World} {v:Value} {K:Ending→World→Prop} {g1 g2:Nat} {c1 c2:Array Value} (h1:Boxed W g1 c1) (h2:Boxed W g2 c2) (hB:Below w.heap.size w W) (h:Calls P f args W (Ret W v))
    (k:∀ w',Boxed w' g1 c1→Boxed w' g2 c2→Below w.heap.size w w'→(∀ j,w'.cell? ⟨g1,j,none⟩=c1[j]?)→(∀ j,w'.cell? ⟨g2,j,none⟩=c2[j]?)→K (.returned v) w'):Calls P f args W K:=
  h.mono fun e w' ⟨he,hw⟩=>by subst he;exact k w' (h1.step hw) (h2.step hw) (zaa hB hw) (h1.step hw).cell (h2.step hw).cell
theorem zwY {f:FuncId} {args:Array Value} {w W:World} {v:Value} {K:Ending→World→Prop} {g1 g2 g3:Nat} {c1 c2 c3:Array Value} (h1:Boxed W g1 c1) (h2:Boxed W g2 c2) (h3:Boxed W g3 c3) (hB:Below w.heap.size w W) (h:Calls P f args W (Ret W v))
    (k:∀ w',Boxed w' g1 c1→Boxed w' g2 c2→Boxed w' g3 c3→Below w.heap.size w w'→(∀ j,w'.cell? ⟨g1,j,none⟩=c1[j]?)→(∀ j,w'.cell? ⟨g2,j,none⟩=c2[j]?)→(∀ j,w'.cell? ⟨g3,j,none⟩=c3[j]?)→K (.returned v) w'):Calls P f args W K:=
  h.mono fun e w' ⟨he,hw⟩=>by subst he;exact k w' (h1.step hw) (h2.step hw) (h3.step hw) (zaa hB hw) (h1.step hw).cell (h2.step hw).cell (h3.step hw).cell
end
theorem ztn (c:Prop) [Decidable c] (x:Bool) (w:World):(if c then Result.ok x w else Result.ok false w)=Result.ok (decide c && x) w:=by
  split <;> simp [*]
def zdQ (v:Array Value):Prop:=v.toList.all (·.oneCell')=true
def zdg (v:Array Value) (n:Nat):Prop:=v.size=n
def Fits (o n:Nat) (v:Array Value):Prop:=o+n≤v.size
theorem zvP (l:List Value) (n:Nat):zdg l.toArray n=(l.length=n):=by simp [zdg]
theorem zv1 (l:List Value) (o n:Nat):Fits o n l.toArray=(o+n≤l.length):=by simp [Fits]
attribute [go_sem] zvP zv1
theorem zvV (l:List Value):zdQ l.toArray=(l.all (·.oneCell')=true):=by simp [zdQ]
attribute [go_sem] zvV
theorem zwH (k:IntKind) (n:Int):(Value.int k n).oneCell'=true:=rfl
theorem zu7 (b:Bool):(Value.bool b).oneCell'=true:=rfl
theorem zwG (b:ByteArray):(Value.string b).oneCell'=true:=rfl
theorem zsW (a:Option Addr) (n c:Nat):(Value.slice a n c).oneCell'=true:=rfl
attribute [go_sem] zwH zu7 zwG zsW
def zbN (W:World) (g:Nat):Array Value:=match W.heap[g]? with | some (.cells cs _ _)=>cs | _=>#[]
def Plain (W:World) (g:Nat):Prop:=∃ cs t,W.heap[g]? = some (.cells cs t (0,0))
def splice (cs:Array Value) (o:Nat) (v:Array Value):Array Value:=(cs.toList.take o ++ v.toList ++ cs.toList.drop (o+v.size)).toArray
def Blk (W:World) (g:Nat) (cs:Array Value):Prop:=∃ t,W.heap[g]? = some (.cells cs t (0,0))
theorem Blk.new (w:World) (cs:Array Value) (t:TypeId):Blk (w.alloc (.cells cs t)) w.heap.size cs:=⟨t,heap_alloc_new w _⟩
theorem Blk.lt {W:World} {g:Nat} {cs:Array Value} (h:Blk W g cs):g < W.heap.size:=by
  obtain ⟨t,h⟩:=h
  rcases Nat.lt_or_ge g W.heap.size with hlt | hge
  · exact hlt
  · rw [Array.getElem?_eq_none hge] at h;cases h
theorem Blk.plain {W:World} {g:Nat} {cs:Array Value} (h:Blk W g cs):Plain W g:=by obtain ⟨t,h⟩:=h;exact ⟨cs,t,h⟩
theorem Blk.of {W:World} {g:Nat} {cs:Array Value} (h:Blk W g cs):zbN W g=cs:=by obtain ⟨t,h⟩:=h;simp [zbN,h]
theorem Blk.cell {W:World} {g:Nat} {cs:Array Value} (h:Blk W g cs) (j:Nat):W.cell? ⟨g,j,none⟩=cs[j]?:=by obtain ⟨t,h⟩:=h;exact cell_of_row W g j cs t (0,0) h
theorem Blk.frozen {W:World} {g:Nat} {cs:Array Value} (h:Blk W g cs) (j:Nat):W.frozen? ⟨g,j,none⟩=false:=by obtain ⟨t,h⟩:=h;simp [World.frozen?,h]
theorem Blk.below {W w1:World} {B g:Nat} {cs:Array Value} (h:Blk W g cs) (hb:Below B W w1) (hlt:g < B):Blk w1 g cs:=by obtain ⟨t,h⟩:=h;exact ⟨t,(hb.block g hlt).trans h⟩
theorem Blk.step {W w1:World} {g:Nat} {cs:Array Value} (h:Blk W g cs) (hb:Below W.heap.size W w1):Blk w1 g cs:=h.below hb h.lt
theorem Blk.alloc {W:World} {g:Nat} {cs:Array Value} (h:Blk W g cs) (o:Obj):Blk (W.alloc o) g cs:=h.step ((Below.refl _ _).alloc (Nat.le_refl _) _)
theorem Blk.set {W:World} {g:Nat} {cs:Array Value} (h:Blk W g cs) (cs':Array Value):Blk (W.setRow g cs') g cs':=by obtain ⟨t,h⟩:=h;exact ⟨t,setRow_heap W g cs cs' t _ h⟩
theorem Blk.far {W:World} {g g':Nat} {cs:Array Value} (h:Blk W g cs) (hne:g ≠ g') (cs':Array Value):Blk (W.setRow g' cs') g cs:=by obtain ⟨t,h⟩:=h;exact ⟨t,(setRow_other W g' g cs' hne).trans h⟩
theorem zab {B g:Nat} {w0 w:World} (hb:Below B w0 w) (hBg:B≤g) (cs:Array Value):Below B w0 (w.setRow g cs):=
  hb.trans ⟨rfl,rfl,rfl,by simp [World.setRow],fun k hk=>setRow_other w g k cs (by omega)⟩
theorem zuo (W:World) (g:Nat) (cs:Array Value) (h:Plain W g):Plain (W.setRow g cs) g:=by obtain ⟨c,t,h⟩:=h;exact ⟨cs,t,setRow_heap W g c cs t _ h⟩
theorem zup (W:World) (g g':Nat) (cs:Array Value) (hne:g ≠ g') (h:Plain W g):Plain (W.setRow g' cs) g:=by obtain ⟨c,t,h⟩:=h;exact ⟨c,t,(setRow_other W g' g cs hne).trans h⟩
theorem zt1 (W:World) (g:Nat) (cs:Array Value) (h:Plain W g):zbN (W.setRow g cs) g=cs:=by obtain ⟨c,t,h⟩:=h;exact Blk.of ⟨t,setRow_heap W g c cs t _ h⟩
theorem zt2 (W:World) (g g':Nat) (cs:Array Value) (hne:g ≠ g'):zbN (W.setRow g' cs) g=zbN W g:=by simp [zbN,setRow_other W g' g cs hne]
theorem zmE (W:World) (g j:Nat) (cs:Array Value) (h:Plain W g):(W.setRow g cs).cell? ⟨g,j,none⟩=cs[j]?:=by obtain ⟨c,t,h⟩:=h;exact cell_setRow_same W g j c cs t _ h
theorem zj1 (W:World) (g:Nat) (o:Obj) (hlt:g < W.heap.size) (h:Plain W g):Plain (W.alloc o) g:=by obtain ⟨c,t,h⟩:=h;exact ⟨c,t,(Below.heap_alloc W o g hlt).trans h⟩
theorem zpu (W:World) (g:Nat) (o:Obj) (hlt:g < W.heap.size):zbN (W.alloc o) g=zbN W g:=by simp [zbN,Below.heap_alloc W o g hlt]
attribute [go_sem] zj1 zpu
attribute [go_sem] zuo zup zt1 zt2 zmE setRow_setRow
theorem zaX {P:Program} (W:World) (g o n:Nat) (ty:TypeId) (v:Array Value) (hi:(P.info? ty).map (·.size)=some n) (hv:zdg v n) (h1:zdQ v) (hp:Plain W g) (hn:Fits o n (zbN W g)):
    (Instr.storeAt ty (.pointer (some ⟨g,o,none⟩)) (.agg v)).run P W=.ok () (W.setRow g (splice (zbN W g) o v)):=by
  unfold zdg at hv
  unfold Fits at hn
  obtain ⟨cs,t,h⟩:=hp
  have hb:zbN W g=cs:=Blk.of ⟨t,h⟩
  rw [hb] at hn ⊢
  have hs:=run_storeCells_at (P:=P) g o t v.toList 0 cs W h (by simp [hv];omega) (fun x hx=>(List.all_eq_true.1 (show v.toList.all (·.oneCell')=true from h1)) x hx)
  cases hq:P.info? ty with
  | none=>simp [hq] at hi
  | some i=>
    have hsz:v.size=i.size:=by simp [hq] at hi;omega
    simp only [Instr.storeAt,Instr.sureAddr,Sem.run_bind,Sem.run_pure,Result.andThen_ok]
    simp only [Nat.add_zero] at hs
    simpa [storeVar,sizeOf,typeInfo,hq,Value.cells,hsz,splice] using hs
end Go.Proofs.YtgoeedohgomodaaGreatDoor
