/- Lemmas and walks. -/
import Derived.Test.YtgoeedohgomodaaGreatDoorQk08
import Derived.Great.BuildSlice
import Derived.Laws.OwnMore
set_option linter.unusedSimpArgs false
set_option linter.unusedVariables false
namespace Go.Proofs.YtgoeedohgomodaaGreatDoor
open Go.RowKit
attribute [local go_sem] Win.arr_mk Pt.arr_mk
end Go.Proofs.YtgoeedohgomodaaGreatDoor
namespace Go.Proofs.YtgoeedohgomodaaGreatDoor
open Go.RowKit
theorem zdc:(Tryz.prog.info? 69).map (fun i=>(i.zero,i.size,i.bytes))=some (some zeroE.val,20,176):=by kernel_rfl
def bs1 (parts:Array (Nat × Value)):Sem Value:=Instr.buildSlice 41 1 parts
theorem zqf (parts:Array (Nat × Value)):Instr.buildSlice 41 1 parts=bs1 parts:=rfl
theorem zsj (w:World) (x:Entry):(bs1 #[(0, .agg x.arr)]).run Tryz.prog w=.ok (.slice (some ⟨w.heap.size,0,none⟩) 1 1) (w.alloc (.cells x.arr 69)):=by
  obtain ⟨i0,hi,hz0,hz1,hz2⟩:=info_parts zdc
  refine run_buildSlice w 41 69 1 #[(0, .agg x.arr)] x.arr i0 _ Tryz.underlying41 hi hz0 (by rw [hz1];decide) (by rw [hz1];decide) ?_
  rw [hz1]
  kernel_rfl
attribute [go_sem ↓] zqf
attribute [go_sem] zsj
end Go.Proofs.YtgoeedohgomodaaGreatDoor
namespace Go.Proofs.YtgoeedohgomodaaGreatDoor
open Go.RowKit
def zfg (t:Int):Bool:=t == 1 || t == 2 || t == 4
def zbU (out:List Entry) (pend:Bool) (x:Entry):List Entry × Bool:=
  if (zbq x).2 then ((if out.isEmpty then out else out ++ [gapE]) ++ [(zbq x).1],false) else (out,pend || !out.isEmpty)
def joinStep (out:List Entry) (pend:Bool) (x:Entry):List Entry × Bool:=
  if x.gap then (out,true) else
  match out.getLast? with
  | none=>zbU out pend x
  | some y=>if pend then zbU out pend x else
      if y.leg.arrivedB x.leg && zfg x.leg.ty then (out,pend) else if y.leg.joinsB x.leg then (out ++ [x],pend) else zbU out pend x
def zdG:List Entry→Bool→List Entry→List Entry
  | out,_,[]=>out
  | out,pend,x :: r=>zdG (joinStep out pend x).1 (joinStep out pend x).2 r
def zcO (l:List Entry):List Entry:=zdG [] false l
def cellsOf (es:List Entry):List Value:=es.flatMap fun x=>x.arr.toList
theorem zpp (es:List Entry):(cellsOf es).length=es.length * 20:=by
  induction es with
  | nil=>rfl
  | cons x r ih=>simp only [cellsOf,List.flatMap_cons,List.length_append,List.length_cons] at *;rw [ih];simp [Entry.arr];omega
theorem zpq (a b:List Entry):cellsOf (a ++ b)=cellsOf a ++ cellsOf b:=by simp [cellsOf]
theorem zpo (es:List Entry):∀ u ∈ cellsOf es,u.oneCell'=true:=by
  intro u hu
  obtain ⟨x,_,hx⟩:=List.mem_flatMap.1 hu
  exact (List.all_eq_true.1 (Entry.arr_oneL x)) u hx
def Out (w0 W:World) (v:Value) (es:List Entry):Prop:=W.ownsRow w0.heap.size 69 20 v es.length (cellsOf es)
theorem zln:∀ (es:List Entry) (i:Nat) (x:Entry),es[i]? = some x→∀ j,j < 20→(cellsOf es)[i * 20+j]? = x.arr[j]?
  | [],i,x,h,_,_=>by simp at h
  | y :: r,0,x,h,j,hj=>by
    obtain rfl:y=x:=by simpa using h
    simp only [cellsOf,List.flatMap_cons,Nat.zero_mul,Nat.zero_add]
    rw [List.getElem?_append_left (by simp [Entry.arr];omega)]
    simp
  | y :: r,i+1,x,h,j,hj=>by
    have ih:=zln r i x (by simpa using h) j hj
    simp only [cellsOf,List.flatMap_cons] at ih ⊢
    rw [List.getElem?_append_right (by simp [Entry.arr];omega),← ih]
    congr 1
    simp [Entry.arr]
    omega
end Go.Proofs.YtgoeedohgomodaaGreatDoor
namespace Go.Proofs.YtgoeedohgomodaaGreatDoor
open Go.RowKit
theorem Out.nil (w0 W:World):Out w0 W (.slice none 0 0) []:=⟨rfl, .inl ⟨rfl,rfl⟩⟩
theorem Out.form {w0 W:World} {v:Value} {es:List Entry} (h:Out w0 W v es):∃ A c,v=.slice A es.length c∧es.length≤c∧Ents W A es∧(∀ a,A=some a→w0.heap.size≤a.block):=by
  obtain ⟨hl,h⟩:=h
  rcases h with ⟨rfl,h0⟩ | ⟨g,cap,cur,rfl,hg,hb,hn,_,hsz,hc⟩
  · refine ⟨none,0,by rw [h0],by omega,?_,by simp⟩
    obtain rfl:es=[]:=List.eq_nil_of_length_eq_zero h0
    exact Ents.nil _ _
  · refine ⟨some ⟨g,0,none⟩,cap,rfl,hn,⟨fun _=>⟨g,0,rfl,?_,?_⟩⟩,by rintro a h;injection h with h;subst h;exact hg⟩
    · rcases Nat.lt_or_ge g W.heap.size with hlt | hge
      · exact hlt
      · rw [Array.getElem?_eq_none hge] at hb;cases hb
    · intro i x hx j hj
      have h1:=zln es i x hx j hj
      have hi:i < es.length:=(List.getElem?_eq_some_iff.1 hx).1
      rw [Nat.zero_add,cell_of_row W g _ cur _ _ hb,← h1,← hc,List.getElem?_take]
      rw [if_pos (by omega)]
      simp
theorem Out.below {w0 W W':World} {v:Value} {es:List Entry} (h:Out w0 W v es) (hb:Below W.heap.size W W'):Out w0 W' v es:=by
  obtain ⟨hl,h⟩:=h
  refine ⟨hl,?_⟩
  rcases h with ⟨rfl,h0⟩ | ⟨g,cap,cur,rfl,hg,hbk,hn,hm,hsz,hc⟩
  · exact .inl ⟨rfl,h0⟩
  · have hlt:g < W.heap.size:=by
      rcases Nat.lt_or_ge g W.heap.size with hlt | hge
      · exact hlt
      · rw [Array.getElem?_eq_none hge] at hbk;cases hbk
    exact .inr ⟨g,cap,cur,rfl,hg,(hb.block g hlt).trans hbk,hn,hm,hsz,hc⟩
theorem Out.alloc {w0 W:World} {v:Value} {es:List Entry} (h:Out w0 W v es) (o:Obj):Out w0 (W.alloc o) v es:=h.below ((Below.refl _ _).alloc (Nat.le_refl _) _)
theorem zaW {ops:Array Oper} {rest:List Oper} {op:Oper} {a:Act} {Q:Exit→Act→World→Prop} {w0 W:World} {v:Value} {es:List Entry} (hgd:op.guard=none) (s x:Operand)
    (ho:op.op=.call { callee:=.builtin .append,args:=#[s,x],argTypes:=#[41,41] }) (h:Out w0 W v es) (hs:a.eval s=v) (news:List Entry) (g c n:Nat) (hnn:news.length=n)
    (hx:a.eval x=.slice (some ⟨g,0,none⟩) n c) (hg:Blk W g (cellsOf news).toArray) (hn:es.length+news.length≤1000000) (hb:w0.heap.size≤W.heap.size)
    (k:∀ v' W',Out w0 W' v' (es ++ news)→W.grownBy W' v.ownBlock→wpList Tryz.prog ops Q rest (a.put op.dst v') W'):wpList Tryz.prog ops Q (op :: rest) a W:=by
  obtain ⟨i0,hi,hz0,hz1,hz2⟩:=info_parts zdc
  subst hnn
  refine wpList_append_own W hgd s x 41 ho w0.heap.size 69 i0 _ 20 176 Tryz.underlying41 hi hz0 hz1 hz2 rfl (by omega) v es.length (cellsOf es) hs h ⟨g,0,none⟩ news.length c (cellsOf news) hx (zpp news) ?_ (zpo news) (by unfold maxLen;omega) (by omega) hb ?_
  · intro j u hu
    rw [addr_add,Nat.zero_add,hg.cell]
    simpa using hu
  · intro v' W' h1 h2 _
    refine k v' W' ?_ h2
    unfold Out
    rw [List.length_append,zpq]
    exact h1
theorem Blk.one (w:World) (x:Entry) (t:TypeId):Blk (w.alloc (.cells x.arr t)) w.heap.size (cellsOf [x]).toArray:=by
  have:(cellsOf [x]).toArray=x.arr:=by simp [cellsOf]
  rw [this];exact Blk.new w x.arr t
theorem Out.own_lt {w0 W:World} {v:Value} {es:List Entry} (hO:Out w0 W v es) {g:Nat} (h:v.ownBlock=some g):g < W.heap.size:=by
  rcases hO.2 with ⟨rfl,_⟩ | ⟨g',cap,cur,rfl,_,hb,_⟩
  · simp [Value.ownBlock] at h
  · have:g'=g:=by simpa [Value.ownBlock] using h
    subst this
    rcases Nat.lt_or_ge g' W.heap.size with hlt | hge
    · exact hlt
    · rw [Array.getElem?_eq_none hge] at hb;cases hb
theorem Blk.grown {W W':World} {row:Option Nat} {g:Nat} {cs:Array Value} (h:Blk W g cs) (hg:W.grownBy W' row) (hne:row ≠ some g):Blk W' g cs:=by
  have hlt:=h.lt
  obtain ⟨t,h⟩:=h
  exact ⟨t,(hg.block g hlt (fun e=>hne e.symm)).trans h⟩
theorem below_grown {w0 W W':World} {v:Value} {es:List Entry} (hB:Below w0.heap.size w0 W) (hO:Out w0 W v es) (hg:W.grownBy W' v.ownBlock):Below w0.heap.size w0 W':=by
  refine hB.grown hg hB.size ?_
  intro g he
  rcases hO.2 with ⟨rfl,_⟩ | ⟨g',cap,cur,rfl,hgb,_⟩
  · simp [Value.ownBlock] at he
  · have:g'=g:=by simpa [Value.ownBlock] using he
    omega
end Go.Proofs.YtgoeedohgomodaaGreatDoor
namespace Go.Proofs.YtgoeedohgomodaaGreatDoor
open Go.RowKit
def zlG (s:List UInt8):Value:=.string ⟨s.toArray⟩
def zot (ss:List (List UInt8)):List Value:=ss.map zlG
def SOut (w0 W:World) (v:Value) (ss:List (List UInt8)):Prop:=W.ownsRow w0.heap.size 9 1 v ss.length (zot ss)
structure zxZ (W:World) (A:Option Addr) (ss:List (List UInt8)):Prop where
  at_:ss ≠ []→∃ b o,A=some ⟨b,o,none⟩∧b < W.heap.size∧∀ i s,ss[i]? = some s→W.cell? ⟨b,o+i,none⟩=some (zlG s)
theorem SOut.nil (w0 W:World):SOut w0 W (.slice none 0 0) []:=⟨rfl, .inl ⟨rfl,rfl⟩⟩
theorem SOut.form {w0 W:World} {v:Value} {ss:List (List UInt8)} (h:SOut w0 W v ss):∃ A c,v=.slice A ss.length c∧ss.length≤c∧zxZ W A ss:=by
  obtain ⟨hl,h⟩:=h
  rcases h with ⟨rfl,h0⟩ | ⟨g,cap,cur,rfl,hg,hb,hn,_,hsz,hc⟩
  · refine ⟨none,0,by rw [h0],by omega,⟨?_⟩⟩
    obtain rfl:ss=[]:=List.eq_nil_of_length_eq_zero h0
    intro h;exact absurd rfl h
  · refine ⟨some ⟨g,0,none⟩,cap,rfl,hn,⟨fun _=>⟨g,0,rfl,?_,?_⟩⟩⟩
    · rcases Nat.lt_or_ge g W.heap.size with hlt | hge
      · exact hlt
      · rw [Array.getElem?_eq_none hge] at hb;cases hb
    · intro i s hs
      have hi:i < ss.length:=(List.getElem?_eq_some_iff.1 hs).1
      have h1:(zot ss)[i]? = some (zlG s):=by simp [zot,hs]
      rw [Nat.zero_add,cell_of_row W g _ cur _ _ hb,← h1,← hc,List.getElem?_take,if_pos (by omega)]
      simp
theorem SOut.below {w0 W W':World} {v:Value} {ss:List (List UInt8)} (h:SOut w0 W v ss) (hb:Below W.heap.size W W'):SOut w0 W' v ss:=by
  obtain ⟨hl,h⟩:=h
  refine ⟨hl,?_⟩
  rcases h with ⟨rfl,h0⟩ | ⟨g,cap,cur,rfl,hg,hbk,hn,hm,hsz,hc⟩
  · exact .inl ⟨rfl,h0⟩
  · have hlt:g < W.heap.size:=by
      rcases Nat.lt_or_ge g W.heap.size with hlt | hge
      · exact hlt
      · rw [Array.getElem?_eq_none hge] at hbk;cases hbk
    exact .inr ⟨g,cap,cur,rfl,hg,(hb.block g hlt).trans hbk,hn,hm,hsz,hc⟩
theorem SOut.alloc {w0 W:World} {v:Value} {ss:List (List UInt8)} (h:SOut w0 W v ss) (o:Obj):SOut w0 (W.alloc o) v ss:=h.below ((Below.refl _ _).alloc (Nat.le_refl _) _)
theorem zh9:(Tryz.prog.info? 9).map (fun i=>(i.zero,i.size,i.bytes))=some (some (.string ⟨#[]⟩),1,16):=by kernel_rfl
theorem zaQ {ops:Array Oper} {rest:List Oper} {op:Oper} {a:Act} {Q:Exit→Act→World→Prop} {w0 W:World} {v:Value} {ss:List (List UInt8)} (hgd:op.guard=none) (s x:Operand)
    (ho:op.op=.call { callee:=.builtin .append,args:=#[s,x],argTypes:=#[49,49] }) (h:SOut w0 W v ss) (hs:a.eval s=v) (t:List UInt8) (g c:Nat)
    (hx:a.eval x=.slice (some ⟨g,0,none⟩) 1 c) (hg:W.cell? ⟨g,0,none⟩=some (zlG t)) (hn:ss.length+1≤10000000) (hb:w0.heap.size≤W.heap.size)
    (k:∀ v' W',SOut w0 W' v' (ss ++ [t])→W.grownBy W' v.ownBlock→wpList Tryz.prog ops Q rest (a.put op.dst v') W'):wpList Tryz.prog ops Q (op :: rest) a W:=by
  obtain ⟨i0,hi,hz0,hz1,hz2⟩:=info_parts zh9
  refine wpList_append_own W hgd s x 49 ho w0.heap.size 9 i0 _ 1 16 Tryz.underlying49 hi hz0 hz1 hz2 rfl (by omega) v ss.length (zot ss) hs h ⟨g,0,none⟩ 1 c [zlG t] hx rfl ?_ (by simp [zlG,Value.oneCell']) (by unfold maxLen;omega) (by omega) hb ?_
  · intro j u hu
    match j,hu with
    | 0,hu=>rw [addr_add,Nat.zero_add,hg];simpa using hu
    | j+1,hu=>simp at hu
  · intro v' W' h1 h2 _
    refine k v' W' ?_ h2
    unfold SOut
    rw [List.length_append,zot,List.map_append]
    exact h1
theorem zbz {w0 W W':World} {v:Value} {ss:List (List UInt8)} (hB:Below w0.heap.size w0 W) (hO:SOut w0 W v ss) (hg:W.grownBy W' v.ownBlock):Below w0.heap.size w0 W':=by
  refine hB.grown hg hB.size ?_
  intro g he
  rcases hO.2 with ⟨rfl,_⟩ | ⟨g',cap,cur,rfl,hgb,_⟩
  · simp [Value.ownBlock] at he
  · have:g'=g:=by simpa [Value.ownBlock] using he
    omega
def zuj (w:World) (ss:List (List UInt8)) (e:Ending) (w':World):Prop:=∃ v,e=.returned v∧SOut w w' v ss∧Below w.heap.size w w'
end Go.Proofs.YtgoeedohgomodaaGreatDoor
