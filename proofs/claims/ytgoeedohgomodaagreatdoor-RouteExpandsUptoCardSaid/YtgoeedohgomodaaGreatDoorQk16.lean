/- Lemmas and walks. -/
import Derived.Test.YtgoeedohgomodaaGreatDoorQk14
import Derived.Test.YtgoeedohgomodaaGreatDoorQk13
import Derived.Test.YtgoeedohgomodaaGreatDoorQk15
import Derived.Test.YtgoeedohgomodaaGreatDoorQk02
import Derived.Test.YtgoeedohgomodaaGreatDoorQk03
import Derived.Laws.OwnMore
set_option linter.unusedSimpArgs false
set_option linter.unusedVariables false
namespace Go.Proofs.YtgoeedohgomodaaGreatDoor
open Go.RowKit
def xyB (p:Int × Int):Bool:=zaV p.1 p.2
def ze3 (a b:Int × Int):Int:=if xyB a && xyB b then (zfu ((b.1 - a.1) * (b.1 - a.1)+(b.2 - a.2) * (b.2 - a.2)).toNat:Int) else 0
def zcA (pt:List UInt8→(Int × Int) × Int) (at_:Int × Int) (n:List UInt8):List FixV→List UInt8→Int→List UInt8 × Int
  | [],best,far=>if best=[] then ([],6) else (best,0)
  | f :: r,best,far=>if f.ident=n∧(pt f.ref).2=0∧(best=[]∨ze3 at_ (pt f.ref).1 < far) then zcA pt at_ n r f.ref (ze3 at_ (pt f.ref).1) else zcA pt at_ n r best far
def zjL (l:List Entry):Int × Int:=match l.getLast? with | none=>(0,0) | some x=>(x.ex,x.ey)
def zd7 (G:GDB) (l:List Entry) (n:List UInt8):List UInt8 × Int:=zcA (zcK G.olat G.olon G.fixes) (zjL l) n G.fixes [] 0
def zai (G:GDB):zbS:=⟨zcK G.olat G.olon G.fixes,zbi G.fixes,fun n=>zaU n G.airways,fun a k n=>zas a k n G.procs,zd7 G⟩
end Go.Proofs.YtgoeedohgomodaaGreatDoor
namespace Go.Proofs.YtgoeedohgomodaaGreatDoor
open Go.RowKit
structure Items (w:World) (A:Option Addr) (n:Nat) (l:List (Array Value)):Prop where
  at_:l ≠ []→∃ b off,A=some ⟨b,off,none⟩∧b < w.heap.size∧∀ i x,l[i]? = some x→∀ j,j < n→w.cell? ⟨b,off+i * n+j,none⟩=x[j]?
theorem Items.get {w:World} {A:Option Addr} {n:Nat} {l:List (Array Value)} (h:Items w A n l) {k:Nat} (hk:k < l.length):
    ∃ b off,A=some ⟨b,off,none⟩∧b < w.heap.size∧∀ j,j < n→w.cell? ⟨b,off+k * n+j,none⟩=l[k][j]?:=by
  obtain ⟨b,off,rfl,hb,hc⟩:=h.at_ (by rintro rfl;simp at hk)
  exact ⟨b,off,rfl,hb,hc k _ (List.getElem?_eq_getElem hk)⟩
theorem Items.below {w w':World} {A:Option Addr} {n:Nat} {l:List (Array Value)} (h:Items w A n l) (hb:Below w.heap.size w w'):Items w' A n l where
  at_ hne:=by
    obtain ⟨b,off,rfl,hlt,hc⟩:=h.at_ hne
    exact ⟨b,off,rfl,Nat.lt_of_lt_of_le hlt hb.size,fun i x hx j hj=>by rw [hb.cell (p:=⟨b,_,none⟩) hlt];exact hc i x hx j hj⟩
theorem Items.cells {w W:World} {b off n:Nat} {l:List (Array Value)} (h:Items w (some ⟨b,off,none⟩) n l) (hB:Below w.heap.size w W) {k:Nat} (hk:k < l.length):
    ∀ j,j < n→W.cell? ⟨b,off+k * n+j,none⟩=l[k][j]?:=by
  obtain ⟨b',off',hA,hb,hc⟩:=h.get hk
  obtain ⟨rfl,rfl⟩:b=b'∧off=off':=by simpa using hA
  exact fun j hj=>by rw [hB.cell (p:=⟨b,_,none⟩) hb];exact hc j hj
theorem Items.nil (w:World) (A:Option Addr) (n:Nat):Items w A n []:=⟨fun h=>absurd rfl h⟩
def cellsIn (l:List (Array Value)):List Value:=l.flatMap (·.toList)
theorem zgz (n:Nat):∀ (l:List (Array Value)),(∀ x ∈ l,x.size=n)→(cellsIn l).length=l.length * n
  | [],_=>by simp [cellsIn]
  | x :: r,h=>by
    have ih:=zgz n r (fun y hy=>h y (by simp [hy]))
    have hx:=h x (by simp)
    unfold cellsIn at *
    rw [List.flatMap_cons,List.length_append,ih,Array.length_toList,hx,List.length_cons,Nat.add_mul];omega
theorem zhD (n:Nat):∀ (l:List (Array Value)),(∀ x ∈ l,x.size=n)→∀ i x,l[i]? = some x→∀ j,j < n→(cellsIn l)[i * n+j]? = x[j]?
  | [],_,i,x,hx,j,hj=>by simp at hx
  | y :: r,h,0,x,hx,j,hj=>by
    have e:y=x:=by simpa using hx
    subst e
    have hy:=h y (by simp)
    unfold cellsIn
    rw [List.flatMap_cons,Nat.zero_mul,Nat.zero_add,List.getElem?_append_left (by simp [hy];exact hj)]
    simp
  | y :: r,h,i+1,x,hx,j,hj=>by
    have ih:=zhD n r (fun z hz=>h z (by simp [hz])) i x (by simpa using hx) j hj
    have hy:=h y (by simp)
    unfold cellsIn at *
    rw [List.flatMap_cons,List.getElem?_append_right (by simp [hy,Nat.add_mul];omega),← ih]
    congr 1
    simp [hy,Nat.add_mul];omega
def GOut (B:Nat) (W:World) (t:TypeId) (n:Nat) (v:Value) (l:List (Array Value)):Prop:=W.ownsRow B t n v l.length (cellsIn l)
theorem GOut.nil (B:Nat) (W:World) (t:TypeId) (n:Nat):GOut B W t n (.slice none 0 0) []:=⟨by simp [cellsIn], .inl ⟨rfl,rfl⟩⟩
theorem GOut.below {B:Nat} {W W':World} {t:TypeId} {n:Nat} {v:Value} {l:List (Array Value)} (h:GOut B W t n v l) (hk:∀ k,B≤k→k < W.heap.size→W'.heap[k]? = W.heap[k]?):GOut B W' t n v l:=by
  obtain ⟨hl,h⟩:=h
  refine ⟨hl,?_⟩
  rcases h with ⟨rfl,h0⟩ | ⟨g,cap,cur,rfl,hg,hbk,hn,hm,hsz,hc⟩
  · exact .inl ⟨rfl,h0⟩
  · have hlt:g < W.heap.size:=by
      rcases Nat.lt_or_ge g W.heap.size with hlt | hge
      · exact hlt
      · rw [Array.getElem?_eq_none hge] at hbk;cases hbk
    exact .inr ⟨g,cap,cur,rfl,hg,(hk g hg hlt).trans hbk,hn,hm,hsz,hc⟩
theorem GOut.step {B:Nat} {W W':World} {t:TypeId} {n:Nat} {v:Value} {l:List (Array Value)} (h:GOut B W t n v l) (hb:Below W.heap.size W W'):GOut B W' t n v l:=h.below fun k _ hk=>hb.block k hk
theorem GOut.alloc {B:Nat} {W:World} {t:TypeId} {n:Nat} {v:Value} {l:List (Array Value)} (h:GOut B W t n v l) (o:Obj):GOut B (W.alloc o) t n v l:=h.step ((Below.refl _ _).alloc (Nat.le_refl _) _)
theorem GOut.form {B:Nat} {W:World} {t:TypeId} {n:Nat} {v:Value} {l:List (Array Value)} (h:GOut B W t n v l) (hx:∀ x ∈ l,x.size=n):
    ∃ A c,v=.slice A l.length c∧l.length≤c∧Items W A n l∧(∀ a,A=some a→B≤a.block)∧c≤maxLen:=by
  obtain ⟨hl,h⟩:=h
  rcases h with ⟨rfl,h0⟩ | ⟨g,cap,cur,rfl,hg,hb,hn,hm,hsz,hc⟩
  · refine ⟨none,0,by rw [h0],by omega,?_,by simp,by unfold maxLen;omega⟩
    obtain rfl:l=[]:=List.eq_nil_of_length_eq_zero h0
    exact Items.nil _ _ _
  · refine ⟨some ⟨g,0,none⟩,cap,rfl,hn,⟨fun _=>⟨g,0,rfl,?_,?_⟩⟩,by rintro a h;injection h with h;subst h;exact hg,hm⟩
    · rcases Nat.lt_or_ge g W.heap.size with hlt | hge
      · exact hlt
      · rw [Array.getElem?_eq_none hge] at hb;cases hb
    · intro i x hi j hj
      have h1:=zhD n l hx i x hi j hj
      have hil:i < l.length:=(List.getElem?_eq_some_iff.1 hi).1
      have hlt:i * n+j < l.length * n:=by
        have:(i+1) * n≤l.length * n:=Nat.mul_le_mul_right n (by omega)
        rw [Nat.add_mul,Nat.one_mul] at this
        omega
      rw [Nat.zero_add,cell_of_row W g _ cur _ _ hb,← h1,← hc,List.getElem?_take,if_pos hlt]
      simp
theorem zaK {P:Program} {ops:Array Oper} {rest:List Oper} {op:Oper} {a:Act} {Q:Exit→Act→World→Prop} {B:Nat} {W:World} {v:Value} {l:List (Array Value)} (hgd:op.guard=none) (s x:Operand) (ts te:TypeId) (n bytes:Nat) (z:Value)
    (hinfo:(P.info? te).map (fun i=>(i.zero,i.size,i.bytes))=some (some z,n,bytes)) (hzs:z.cells.size=n) (hn0:0 < n) (hut:P.underlying ts=some (.slice te))
    (ho:op.op=.call { callee:=.builtin .append,args:=#[s,x],argTypes:=#[ts,ts] }) (h:GOut B W te n v l) (hs:a.eval s=v) (y:Array Value) (g c:Nat) (hy:y.size=n) (hy1:y.all (·.oneCell')=true)
    (hx:a.eval x=.slice (some ⟨g,0,none⟩) 1 c) (hg:∀ j,W.cell? ⟨g,j,none⟩=y[j]?) (h63:l.length+1≤maxLen) (hbytes:(l.length+1) * bytes≤140737488355328) (hb:B≤W.heap.size)
    (k:∀ v' W',GOut B W' te n v' (l ++ [y])→W.grownBy W' v.ownBlock→wpList P ops Q rest (a.put op.dst v') W'):wpList P ops Q (op :: rest) a W:=by
  obtain ⟨i0,hi,hz0,hz1,hz2⟩:=info_parts hinfo
  refine wpList_append_own W hgd s x ts ho B te i0 _ n bytes hut hi hz0 hz1 hz2 hzs hn0 v l.length (cellsIn l) hs h ⟨g,0,none⟩ 1 c y.toList hx (by simp [hy]) ?_ (fun u hu=>(Array.all_eq_true_iff_forall_mem.1 hy1) u (by simpa using hu)) h63 hbytes hb ?_
  · intro j u hu
    rw [addr_add,Nat.zero_add,hg]
    simpa using hu
  · intro v' W' h1 h2 _
    refine k v' W' ?_ h2
    unfold GOut
    rw [List.length_append]
    have:cellsIn (l ++ [y])=cellsIn l ++ y.toList:=by simp [cellsIn]
    rw [this]
    exact h1
theorem GOut.own_lt {B:Nat} {W:World} {t:TypeId} {n:Nat} {v:Value} {l:List (Array Value)} (h:GOut B W t n v l):∀ g,v.ownBlock=some g→g < W.heap.size∧B≤g:=by
  intro g he
  obtain ⟨hl,h⟩:=h
  rcases h with ⟨rfl,h1⟩ | ⟨g',cap,cur,rfl,hg,hb,hn,_,hsz,hc⟩
  · simp [Value.ownBlock] at he
  · have:g'=g:=by simpa [Value.ownBlock] using he
    subst this
    refine ⟨?_,hg⟩
    rcases Nat.lt_or_ge g' W.heap.size with h | h
    · exact h
    · rw [Array.getElem?_eq_none h] at hb;cases hb
theorem GOut.grown {B:Nat} {W W':World} {t:TypeId} {n:Nat} {v:Value} {l:List (Array Value)} (h:GOut B W t n v l) (hg:W.grownBy W' v.ownBlock):∀ k,k < B→k < W.heap.size→W'.heap[k]? = W.heap[k]?:=by
  intro k hk hlt
  refine hg.block k hlt fun e=>?_
  have:=h.own_lt k e.symm
  omega
theorem GOut.below_grown {B B0:Nat} {w0 W W':World} {t:TypeId} {n:Nat} {v:Value} {l:List (Array Value)} (h:GOut B W t n v l) (hg:W.grownBy W' v.ownBlock) (hB:Below B0 w0 W) (hle:B0≤B) (hB0:B0≤W.heap.size):Below B0 w0 W':=by
  refine hB.grown hg hB0 ?_
  intro g he
  have:=(h.own_lt g he).2
  omega
theorem zal {P:Program} {fn:Func} {p t:Tmp} {ty:TypeId} (h:fn.results=#[.cell p ty, .tmp t]) (tmps:Array Value) (w:World) (g:Nat) (arr:Array Value) (n:Nat) (d:TypeDesc) (hp:tmps.getD p undef=.pointer (some ⟨g,0,none⟩)) (hn:arr.size=n) (hc:∀ j,w.cell? ⟨g,j,none⟩=arr[j]?)
    (hu:P.underlying ty=some d) (hd:(match d with | .struct _ | .array _ _=>true | _=>false)=true) (hi:(P.info? ty).map (·.size)=some n):
    (results fn tmps).run P w=.ok (.tuple #[.agg arr,tmps.getD t undef]) w:=by
  subst hn
  have hp':tmps[p]?.getD undef=.pointer (some ⟨g,0,none⟩):=by simpa using hp
  have hl:=zaE (P:=P) w ⟨g,0,none⟩ ty arr.toList _ (fun j v hv=>by
    rw [addr_add,Nat.zero_add,hc]
    simpa using hv) hu hd (by simpa using hi)
  simp [results,h,hp',asAddr,hl]
theorem zbM {P:Program} {fn:Func} {p:Tmp} {ty:TypeId} (h:fn.results=#[.cell p ty]) (tmps:Array Value) (w:World) (g:Nat) (arr:Array Value) (n:Nat) (d:TypeDesc) (hp:tmps.getD p undef=.pointer (some ⟨g,0,none⟩)) (hn:arr.size=n) (hc:∀ j,w.cell? ⟨g,j,none⟩=arr[j]?)
    (hu:P.underlying ty=some d) (hd:(match d with | .struct _ | .array _ _=>true | _=>false)=true) (hi:(P.info? ty).map (·.size)=some n):
    (results fn tmps).run P w=.ok (.agg arr) w:=by
  subst hn
  have hp':tmps[p]?.getD undef=.pointer (some ⟨g,0,none⟩):=by simpa using hp
  have hl:=zaE (P:=P) w ⟨g,0,none⟩ ty arr.toList _ (fun j v hv=>by
    rw [addr_add,Nat.zero_add,hc]
    simpa using hv) hu hd (by simpa using hi)
  simp [results,h,hp',asAddr,hl]
end Go.Proofs.YtgoeedohgomodaaGreatDoor
