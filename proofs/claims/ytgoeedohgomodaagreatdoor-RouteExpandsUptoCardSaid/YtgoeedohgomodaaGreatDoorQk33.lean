/- Lemmas and walks. -/
import Derived.Test.YtgoeedohgomodaaGreatDoorQk16
import Derived.Maps.AppendAt
set_option linter.unusedSimpArgs false
set_option linter.unusedVariables false
namespace Go.Proofs.YtgoeedohgomodaaGreatDoor
open Go.RowKit
theorem zps (n:Nat) (hn:0 < n):∀ (l:List (Array Value)),(∀ x ∈ l,x.size=n)→∀ j v,(cellsIn l)[j]? = some v→∃ i x,l[i]? = some x∧i * n+j % n=j∧x[j % n]? = some v:=by
  intro l hx j v hv
  have hlt:j < (cellsIn l).length:=(List.getElem?_eq_some_iff.1 hv).1
  rw [zgz n l hx] at hlt
  have hi:j / n < l.length:=(Nat.div_lt_iff_lt_mul hn).2 hlt
  have e:j / n * n+j % n=j:=by rw [Nat.mul_comm];exact Nat.div_add_mod j n
  refine ⟨j / n,l[j / n],List.getElem?_eq_getElem hi,e,?_⟩
  rw [← zhD n l hx (j / n) _ (List.getElem?_eq_getElem hi) (j % n) (Nat.mod_lt _ hn),e]
  exact hv
theorem zpr:∀ (l:List (Array Value)),(∀ x ∈ l,x.toList.all (·.oneCell')=true)→∀ u ∈ cellsIn l,u.oneCell'=true:=by
  intro l h u hu
  obtain ⟨x,hx,hu⟩:=List.mem_flatMap.1 hu
  exact List.all_eq_true.1 (h x hx) u hu
theorem zi7 {P:Program} (w:World) (base:Nat) (t ty e:TypeId) (i:TypeInfo) (size c:Nat) (ht:P.underlying t=some (.slice e)) (hi:P.info? e=some i) (v:Value) (n:Nat) (xs:List Value) (hown:w.ownsRow base e size v n xs):
    (Builtin.append_ #[t,t] ty #[v, .slice none 0 c]).run P w=.ok v w:=by
  rcases hown.2 with ⟨rfl,rfl⟩ | ⟨g,cap,cur,rfl,_,_,hnc,_⟩
  · simp [Builtin.append_,run_underlying ht,sizeOf,typeInfo,hi,Builtin.lenOf,Builtin.firstCells]
  · simp [Builtin.append_,run_underlying ht,sizeOf,typeInfo,hi,Builtin.lenOf,Builtin.firstCells,hnc,storeCells]
theorem zpt (a b:List (Array Value)):cellsIn (a ++ b)=cellsIn a ++ cellsIn b:=by simp [cellsIn]
theorem zav {P:Program} {ops:Array Oper} {rest:List Oper} {op:Oper} {a:Act} {Q:Exit→Act→World→Prop} {B:Nat} {W:World} {v:Value} {es:List (Array Value)} (hgd:op.guard=none) (s x:Operand) (ts te:TypeId) (n bytes:Nat) (z:Value)
    (hinfo:(P.info? te).map (fun i=>(i.zero,i.size,i.bytes))=some (some z,n,bytes)) (hzs:z.cells.size=n) (hn0:0 < n) (hut:P.underlying ts=some (.slice te))
    (ho:op.op=.call { callee:=.builtin .append,args:=#[s,x],argTypes:=#[ts,ts] }) (h:GOut B W te n v es) (hs:a.eval s=v) (l:List (Array Value)) (A:Option Addr) (m c:Nat) (hm:l.length=m)
    (hx:a.eval x=.slice A m c) (hI:Items W A n l) (hl:∀ y ∈ l,y.size=n) (h1:∀ y ∈ l,y.toList.all (·.oneCell')=true) (h63:es.length+m≤maxLen) (hbytes:(es.length+m) * bytes≤140737488355328) (hb:B≤W.heap.size)
    (k:∀ v' W',GOut B W' te n v' (es ++ l)→W.grownBy W' v.ownBlock→(v'.ownBlock=v.ownBlock∨v'.ownBlock=some W.heap.size)→wpList P ops Q rest (a.put op.dst v') W'):wpList P ops Q (op :: rest) a W:=by
  obtain ⟨i0,hi,hz0,hz1,hz2⟩:=info_parts hinfo
  subst hm
  cases A with
  | none=>
    obtain rfl:l=[]:=by
      rcases l with _ | ⟨y,r⟩
      · rfl
      · obtain ⟨b,o,hh,_⟩:=hI.at_ (by simp)
        cases hh
    refine wpList_plain hgd fun K hK=>?_
    have hrun:=zi7 (P:=P) W B ts op.type te i0 n c hut hi v es.length (cellsIn es) h
    unfold Oper.wp
    simp [execOp,ho,resolve,invoke,builtin,hs,hx,hrun,Result.andThen]
    exact hK _ _ (k v W (by simpa using h) ⟨rfl,rfl,rfl,Nat.le_refl _,fun _ _ _=>rfl⟩ (.inl rfl))
  | some ad=>
    refine wpList_append_own_at (w:=W) hgd s x ts ho B te i0 z n bytes hut hi hz0 hz1 hz2 hzs hn0 v es.length (cellsIn es) hs h ad l.length c (cellsIn l) hx (zgz n l hl) ?_ (zpr l h1) h63 hbytes hb ?_
    · intro j u hu
      obtain ⟨i,y,hy,e,hu2⟩:=zps n hn0 l hl j u hu
      obtain ⟨b,o,hA,hlt,hc⟩:=hI.at_ (by rintro rfl;simp at hy)
      injection hA with hA
      subst hA
      have:=hc i y hy (j % n) (Nat.mod_lt _ hn0)
      rw [addr_add,← hu2,← this]
      congr 2
      omega
    · intro v' W' h1 h2 _ h4
      refine k v' W' ?_ h2 h4
      unfold GOut
      rw [List.length_append,zpt]
      exact h1
def zrM (w:World) (t:TypeId) (n m:Nat) (l:List (Array Value)) (e:Ending) (w':World):Prop:=∃ A c,e=.returned (.slice A m c)∧GOut w.heap.size w' t n (.slice A m c) l∧Below w.heap.size w w'
theorem ze9 {P:Program} {f:FuncId} {args:Array Value} {W:World} {t:TypeId} {n m:Nat} {l:List (Array Value)} {K:Ending→World→Prop} (h:Calls P f args W (zrM W t n m l))
    (k:∀ A c w',GOut W.heap.size w' t n (.slice A m c) l→Below W.heap.size W w'→K (.returned (.slice A m c)) w'):Calls P f args W K:=
  h.mono fun e w' ⟨A,c,he,h1,h2⟩=>by subst he;exact k A c w' h1 h2
theorem GOut.empty (w:World) (t:TypeId) (n:Nat):GOut w.heap.size (w.alloc (.cells #[] t)) t n (.slice (some ⟨w.heap.size,0,none⟩) 0 0) []:=
  ⟨by simp [cellsIn], .inr ⟨w.heap.size,0,#[],rfl,Nat.le_refl _,heap_alloc_new w _,Nat.le_refl _,by unfold maxLen;omega,by simp,by simp [cellsIn]⟩⟩
theorem GOut.len {B:Nat} {W:World} {t:TypeId} {n:Nat} {v:Value} {l:List (Array Value)} (h:GOut B W t n v l):∃ A c,v=.slice A l.length c:=by
  rcases h.2 with ⟨rfl,h0⟩ | ⟨g,cap,cur,rfl,_⟩
  · exact ⟨none,0,by rw [h0]⟩
  · exact ⟨_,_,rfl⟩
end Go.Proofs.YtgoeedohgomodaaGreatDoor
