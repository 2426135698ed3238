/- Lemmas and walks. -/
import Derived.Test.YtgoeedohgomodaaGreatDoorQk09
import Derived.StillTail
import Derived.Lib.QuietBelow
import Derived.Test.YtgoeedohgomodaaGreatDoorQk10
import Derived.Lib.Join
import Derived.Lib.ItoaLen
import Derived.Test.YtgoeedohgomodaaGreatDoorQk01
import Derived.Lib.Split
import Derived.Test.YtgoeedohgomodaaGreatDoorQk05
import Derived.Test.YtgoeedohgomodaaGreatDoorQk03
import Derived.Laws.OwnMore
import Derived.Lib.AppendStr
import Derived.Test.YtgoeedohgomodaaGreatDoorQk07
import Derived.Lib.ParseIntBCases
import Derived.Lib.AtoiErrMem
import Derived.Lib.ConvBytes
import Derived.Test.YtgoeedohgomodaaGreatDoorQk08
set_option linter.unusedSimpArgs false
set_option linter.unusedVariables false
namespace Go.Proofs.YtgoeedohgomodaaGreatDoor
open Go.RowKit Go.Sort
section
variable {P:Program} {ops:Array Oper} {md:Region.Mode} {C:World→Prop}
def zhJ (P:Program) (md:Region.Mode) (ops:Array Oper) (C:World→Prop) (n:Nat) (L:Array Bool→Act→Prop):Nat→Array Bool→Act→Prop
  | 0,listed,a=>L listed a
  | f+1,listed,a=>
    Region.ready md ops listed ≠ []∧∀ i ∈ Region.ready md ops listed,i < n∧qOp P ops C i (zhJ P md ops C n L f (listed.setIfInBounds i true)) a
theorem zep {n g:Nat} {L:Array Bool→Act→Prop} {Q':Exit→Act→World→Prop} (hL:∀ listed a w,C w→L listed a→wpAny P md ops Q' g listed a w):
    ∀ (f:Nat) (listed:Array Bool) (a:Act) (w:World),C w→zhJ P md ops C n L f listed a→wpAny P md ops Q' (f+g) listed a w
  | 0,listed,a,w,hw,h=>by rw [Nat.zero_add];exact hL _ _ _ hw h
  | f+1,listed,a,w,hw,h=>by
    rw [show f+1+g=(f+g)+1 by omega]
    exact ⟨fun h0=>absurd h0 h.1,fun i hi=>wpOp_of_qOp hw (fun a' w' hw' h'=>zep hL f _ a' w' hw' h') (h.2 i hi).2⟩
theorem zmS {n i:Nat} {oi:Oper} {v:Value} {L:Array Bool→Act→Prop} (hi:ops[i]? = some oi) (hsel:∀ (j:Nat) (o:Oper) cs b,ops[j]? = some o→o.op ≠ .select cs b)
    (hs:Region.sinkB md ops n=true) (hc:Region.chainB md ops n=true) (hn:n < ops.size) (hin:i < n)
    (hdone:∀ listed a,L listed a→∀ j ∈ Region.ready md ops listed,n≤j):
    ∀ (f:Nat) (listed:Array Bool) (a:Act),HeadInv md ops n listed →
      (∀ j oj,ops[j]? = some oj→j ≠ i→listed.getD j true=false→(∀ e ∈ oj.after,Region.binds md e=true→e.on ≠ i)→oi.apart ops oj=true) →
      i ∈ Region.ready md ops listed→YieldsIn P ops C oi v a →
      zhJ P md ops C n L f (listed.setIfInBounds i true) (a.put oi.dst v)→zhJ P md ops C n L (f+1) listed a:=by
  intro f
  induction f with
  | zero=>
    intro listed a inv _ hr hy H
    have hun:=(mem_ready.1 hr).1
    refine ⟨fun h=>(by rw [h] at hr;cases hr),fun j hj=>?_⟩
    have hjn:j < n:=by
      rcases Nat.lt_or_ge j n with h | h
      · exact h
      · exact absurd hj (tail_waits hs hc hn inv _ i rfl hin hun j h)
    refine ⟨hjn,?_⟩
    by_cases hji:j=i
    · subst hji;exact hy.qOp hi H
    · have:=hdone _ _ H j (ready_mono hj hji)
      omega
  | succ f ih=>
    intro listed a inv hfree hr hy H
    have hun:=(mem_ready.1 hr).1
    refine ⟨fun h=>(by rw [h] at hr;cases hr),fun j hj=>?_⟩
    have hjn:j < n:=by
      rcases Nat.lt_or_ge j n with h | h
      · exact h
      · exact absurd hj (tail_waits hs hc hn inv _ i rfl hin hun j h)
    refine ⟨hjn,?_⟩
    by_cases hji:j=i
    · subst hji;exact hy.qOp hi H
    · have h1:=(H.2 j (ready_mono hj hji)).2
      obtain ⟨hjun,oj,hoj,hall⟩:=mem_ready.1 hj
      have hnot:∀ e ∈ oj.after,Region.binds md e=true→e.on ≠ i:=fun e he hb heq=>by
        have h1:=hall e he hb
        rw [heq,getD_both hun] at h1
        cases h1
      have h2:=qOp_put hoj (hfree j oj hoj hji hjun hnot) (fun cs b=>hsel i oi cs b hi) (fun cs b=>hsel j oj cs b hoj) hy h1
      have hfree':∀ k ok,ops[k]? = some ok→k ≠ i→(listed.setIfInBounds j true).getD k true=false →
          (∀ e ∈ ok.after,Region.binds md e=true→e.on ≠ i)→oi.apart ops ok=true:=fun k ok hk hki hun hno=>by
        refine hfree k ok hk hki ?_ hno
        by_cases hjk:j=k
        · subst hjk;exact hjun
        · rw [getD_set_ne true hjk] at hun;exact hun
      refine qOp_mono (fun a' h3=>ih (listed.setIfInBounds j true) a' (inv.set hj hjn) hfree' (ready_mono hr (Ne.symm hji)) h3.1 ?_) h2
      rw [Array.setIfInBounds_comm _ _ hji]
      exact h3.2
theorem zkJ {n g:Nat} {Lq:Act→Prop} (hsel:Region.noSelect ops=true) (hs:Region.sinkB md ops n=true) (hc:Region.chainB md ops n=true) (hn:n < ops.size):
    ∀ (l:List Oper) (k:Nat) (listed:Array Bool) (a:Act),(∀ j,j < l.length→l[j]? = ops[k+j]?)→k+l.length=n→HeadInv md ops n listed →
    Region.lexHead md ops g l.length k listed=true→wpQuiet P ops C Lq l a →
    zhJ P md ops C n (fun listed' a'=>Region.seqB md ops g n listed'=true∧Lq a') l.length listed a
  | [],k,listed,a,_,hk,_,hB,h=>by
    have:k=n:=by simpa using hk
    subst this
    exact ⟨by simpa [Region.lexHead] using hB,h⟩
  | o :: l,k,listed,a,hl,hk,inv,hB,h=>by
    have h0:ops[k]? = some o:=by simpa using (hl 0 (by simp)).symm
    simp only [List.length_cons,Region.lexHead,Bool.and_eq_true] at hB
    obtain ⟨⟨hr,hf⟩,hB'⟩:=hB
    have hkn:k < n:=by simp only [List.length_cons] at hk;omega
    have hr':k ∈ Region.ready md ops listed:=by simpa using hr
    have hst:qOp P ops C k (wpQuiet P ops C Lq l) a:=by unfold qOp;simp only [h0];exact h
    obtain ⟨v,hy,hK⟩:=yieldsIn_of_qOp h0 hst
    exact zmS h0 (Region.noSelect_spec hsel) hs hc hn hkn (fun listed' a' hL=>seqB_ready hL.1) l.length listed a inv (Region.free_spec h0 hf) hr' hy
      (zkJ hsel hs hc hn l (k+1) _ _ (fun j hj=>by have:=hl (j+1) (by simp;omega);simpa [Nat.add_assoc,Nat.add_comm 1 j] using this) (by simp only [List.length_cons] at hk;omega) (inv.set hr' hkn) hB' hK)
theorem zfT {id:Nat} {Q:Exit→Act→World→Prop} {a:Act} {w:World} {l:List Oper} (n:Nat) (hm:P.follows .mixedOrders=true) (hB:Region.lexTailB .any l.toArray n=true) (hC:C { w with drawn:=w.drawn+1 })
    (h:wpQuiet P l.toArray C (fun a'=>∀ w',C w'→wpList P l.toArray Q (l.drop n) a' w') (l.take n) a):(Code.region id l.toArray true).wp P Q a w:=by
  simp only [Region.lexTailB,Bool.and_eq_true,decide_eq_true_eq] at hB
  obtain ⟨⟨⟨⟨hsel,hn⟩,hs⟩,hc⟩,hlex⟩:=hB
  have hn':n < l.length:=by simpa using hn
  have htl:(l.take n).length=n:=by simp;omega
  have hdl:(l.drop n).length=l.toArray.size - n:=by simp
  have inv0:HeadInv .any l.toArray n (Array.replicate l.toArray.size false):=
    ⟨by simp,fun j oj _ hl=>(by rw [getD_replicate_false] at hl;cases hl),fun t _ ht=>getD_in (by simpa using ht) (getD_replicate_false _ _)⟩
  have H:=zkJ (md:=.any) (g:=l.toArray.size - n) hsel hs hc hn (l.take n) 0 _ a (fun j hj=>by
    have hj':j < n:=by rw [htl] at hj;exact hj
    simp [hj']) (by simpa using htl) inv0 (by rw [htl];exact hlex) h
  refine wp_region_any hm ?_
  have:=zep (Q':=Q) (g:=l.toArray.size - n) (fun listed a' w' hw' hL=>by
    have:=wpAny_of_seq (l.drop n) n listed a' w' (fun j=>by simp) (by rw [hdl];exact hL.1) (hL.2 w' hw')
    rw [hdl] at this
    exact this) _ _ _ _ hC H
  rw [htl] at this
  rw [show n+(l.toArray.size - n)=l.toArray.size by simp;omega] at this
  exact this
theorem zb4 {id:Nat} {Q:Exit→Act→World→Prop} {a:Act} {w:World} {l:List Oper} (n:Nat) (hm:P.follows .mixedOrders=true) (hB:Region.lexTailB .any l.toArray n=true)
    (h:wpQuiet P l.toArray (fun w'=>∃ p:Regrown,w'=grow (redrawn w p.d) p.os) (fun a'=>∀ w',(∃ p:Regrown,w'=grow (redrawn w p.d) p.os)→wpList P l.toArray Q (l.drop n) a' w') (l.take n) a):(Code.region id l.toArray true).wp P Q a w:=
  zfT n hm hB ⟨⟨w.drawn+1,#[]⟩,by rw [grow_empty];rfl⟩ h
theorem Calls.regrown_ret {f:FuncId} {args:Array Value} {w:World} {d:Nat} {os:Array Obj} {v:Value}
    (h:Calls P f args (grow (redrawn w d) os) (Ret (grow (redrawn w d) os) v)):Calls P f args (grow (redrawn w d) os) fun e w''=>e=.returned v∧∃ p:Regrown,w''=grow (redrawn w p.d) p.os:=Calls.regrown_of h
def zuD (md:Region.Mode) (ops:Array Oper) (m n:Nat):Bool:=
  (List.range n).all fun i=>decide (i < m) || (List.range (n+1)).any fun j=>decide (i < j) && Region.waitsFor md ops j i
theorem ziI {m n:Nat} {listed:Array Bool} (hs:zuD md ops m n=true) (hc:Region.chainB md ops n=true) (hn:n < ops.size) (inv:HeadInv md ops n listed):
    ∀ (d i:Nat),n - i=d→m≤i→i < n→listed.getD i true=false→∀ t,n≤t→t ∉ Region.ready md ops listed:=by
  intro d
  induction d using Nat.strongRecOn with
  | _ d ih=>
    intro i hd hmi hi hun t ht hr
    obtain ⟨_,ot,hot,hall⟩:=mem_ready.1 hr
    have htlt:t < ops.size:=(Array.getElem?_eq_some_iff.1 hot).1
    by_cases htn:t=n
    · subst htn
      have h1:=List.all_eq_true.1 hs i (List.mem_range.2 hi)
      have hnm:¬ i < m:=by omega
      simp only [Bool.or_eq_true,decide_eq_true_eq,hnm,false_or] at h1
      obtain ⟨j,hj,hj2⟩:=List.any_eq_true.1 h1
      simp only [Bool.and_eq_true,decide_eq_true_eq] at hj2
      obtain ⟨oj,hoj,e,he,hb,hon⟩:=Region.waitsFor_spec hj2.2
      have hjle:j≤t:=by have:=List.mem_range.1 hj;omega
      by_cases hjt:j=t
      · subst hjt
        have:oj=ot:=Option.some.inj (hoj.symm.trans hot)
        subst this
        have h2:=hall e he hb
        rw [hon,getD_both hun] at h2
        cases h2
      · cases hl:listed.getD j false with
        | true=>
          have h2:=inv.closed j oj hoj hl e he hb
          rw [hon,getD_both hun] at h2
          cases h2
        | false=>
          have hjs:j < listed.size:=by rw [inv.size];omega
          exact ih (t - j) (by omega) j rfl (by omega) (by omega) (getD_in hjs hl) t (Nat.le_refl _) hr
    · have h1:=List.all_eq_true.1 hc t (List.mem_range.2 htlt)
      simp only [Bool.or_eq_true,decide_eq_true_eq] at h1
      rcases h1 with h1 | h1
      · omega
      · obtain ⟨o',ho',e,he,hb,hon⟩:=Region.waitsFor_spec h1
        have:o'=ot:=Option.some.inj (ho'.symm.trans hot)
        subst this
        have h2:=hall e he hb
        rw [hon,getD_both (inv.tail (t - 1) (by omega) (by omega))] at h2
        cases h2
theorem zmT {m n i:Nat} {oi:Oper} {v:Value} {L:Array Bool→Act→Prop} (hi:ops[i]? = some oi) (hsel:∀ (j:Nat) (o:Oper) cs b,ops[j]? = some o→o.op ≠ .select cs b)
    (hs:zuD md ops m n=true) (hc:Region.chainB md ops n=true) (hn:n < ops.size) (hmi:m≤i) (hin:i < n)
    (hdone:∀ listed a,L listed a→∀ j ∈ Region.ready md ops listed,n≤j):
    ∀ (f:Nat) (listed:Array Bool) (a:Act),HeadInv md ops n listed →
      (∀ j oj,ops[j]? = some oj→j ≠ i→listed.getD j true=false→(∀ e ∈ oj.after,Region.binds md e=true→e.on ≠ i)→oi.apart ops oj=true) →
      i ∈ Region.ready md ops listed→YieldsIn P ops C oi v a →
      zhJ P md ops C n L f (listed.setIfInBounds i true) (a.put oi.dst v)→zhJ P md ops C n L (f+1) listed a:=by
  intro f
  induction f with
  | zero=>
    intro listed a inv _ hr hy H
    have hun:=(mem_ready.1 hr).1
    refine ⟨fun h=>(by rw [h] at hr;cases hr),fun j hj=>?_⟩
    have hjn:j < n:=by
      rcases Nat.lt_or_ge j n with h | h
      · exact h
      · exact absurd hj (ziI hs hc hn inv _ i rfl hmi hin hun j h)
    refine ⟨hjn,?_⟩
    by_cases hji:j=i
    · subst hji;exact hy.qOp hi H
    · have:=hdone _ _ H j (ready_mono hj hji)
      omega
  | succ f ih=>
    intro listed a inv hfree hr hy H
    have hun:=(mem_ready.1 hr).1
    refine ⟨fun h=>(by rw [h] at hr;cases hr),fun j hj=>?_⟩
    have hjn:j < n:=by
      rcases Nat.lt_or_ge j n with h | h
      · exact h
      · exact absurd hj (ziI hs hc hn inv _ i rfl hmi hin hun j h)
    refine ⟨hjn,?_⟩
    by_cases hji:j=i
    · subst hji;exact hy.qOp hi H
    · have h1:=(H.2 j (ready_mono hj hji)).2
      obtain ⟨hjun,oj,hoj,hall⟩:=mem_ready.1 hj
      have hnot:∀ e ∈ oj.after,Region.binds md e=true→e.on ≠ i:=fun e he hb heq=>by
        have h1:=hall e he hb
        rw [heq,getD_both hun] at h1
        cases h1
      have h2:=qOp_put hoj (hfree j oj hoj hji hjun hnot) (fun cs b=>hsel i oi cs b hi) (fun cs b=>hsel j oj cs b hoj) hy h1
      have hfree':∀ k ok,ops[k]? = some ok→k ≠ i→(listed.setIfInBounds j true).getD k true=false →
          (∀ e ∈ ok.after,Region.binds md e=true→e.on ≠ i)→oi.apart ops ok=true:=fun k ok hk hki hun hno=>by
        refine hfree k ok hk hki ?_ hno
        by_cases hjk:j=k
        · subst hjk;exact hjun
        · rw [getD_set_ne true hjk] at hun;exact hun
      refine qOp_mono (fun a' h3=>ih (listed.setIfInBounds j true) a' (inv.set hj hjn) hfree' (ready_mono hr (Ne.symm hji)) h3.1 ?_) h2
      rw [Array.setIfInBounds_comm _ _ hji]
      exact h3.2
theorem zkK {m n g:Nat} {Lq:Act→Prop} (hsel:Region.noSelect ops=true) (hs:zuD md ops m n=true) (hc:Region.chainB md ops n=true) (hn:n < ops.size):
    ∀ (l:List Oper) (k:Nat) (listed:Array Bool) (a:Act),(∀ j,j < l.length→l[j]? = ops[k+j]?)→m≤k→k+l.length=n→HeadInv md ops n listed →
    Region.lexHead md ops g l.length k listed=true→wpQuiet P ops C Lq l a →
    zhJ P md ops C n (fun listed' a'=>Region.seqB md ops g n listed'=true∧Lq a') l.length listed a
  | [],k,listed,a,_,_,hk,_,hB,h=>by
    have:k=n:=by simpa using hk
    subst this
    exact ⟨by simpa [Region.lexHead] using hB,h⟩
  | o :: l,k,listed,a,hl,hmk,hk,inv,hB,h=>by
    have h0:ops[k]? = some o:=by simpa using (hl 0 (by simp)).symm
    simp only [List.length_cons,Region.lexHead,Bool.and_eq_true] at hB
    obtain ⟨⟨hr,hf⟩,hB'⟩:=hB
    have hkn:k < n:=by simp only [List.length_cons] at hk;omega
    have hr':k ∈ Region.ready md ops listed:=by simpa using hr
    have hst:qOp P ops C k (wpQuiet P ops C Lq l) a:=by unfold qOp;simp only [h0];exact h
    obtain ⟨v,hy,hK⟩:=yieldsIn_of_qOp h0 hst
    exact zmT h0 (Region.noSelect_spec hsel) hs hc hn hmk hkn (fun listed' a' hL=>seqB_ready hL.1) l.length listed a inv (Region.free_spec h0 hf) hr' hy
      (zkK hsel hs hc hn l (k+1) _ _ (fun j hj=>by have:=hl (j+1) (by simp;omega);simpa [Nat.add_assoc,Nat.add_comm 1 j] using this) (by omega) (by simp only [List.length_cons] at hk;omega) (inv.set hr' hkn) hB' hK)
def zmt (ops:Array Oper) (n:Nat):Bool:=
  Region.noSelect ops && decide (n < ops.size) && decide (1≤n) && zuD .any ops 1 n && Region.chainB .any ops n && Region.free .any ops (Array.replicate ops.size false) 0 && (Region.ready .any ops (Array.replicate ops.size false)).contains 0 &&
    Region.lexHead .any ops (ops.size - n) (n - 1) 1 ((Array.replicate ops.size false).setIfInBounds 0 true)
theorem zge {id:Nat} {Q:Exit→Act→World→Prop} {a:Act} {w:World} {o0:Oper} {l:List Oper} {v0:Value} (n:Nat) (hm:P.follows .mixedOrders=true) (hB:zmt (o0 :: l).toArray n=true)
    (hQ:∀ c a w,Q (.panic c) (a.put o0.dst v0) w→Q (.panic c) a w) (hy:Yields P (o0 :: l).toArray o0 v0 a) (hC:C { w with drawn:=w.drawn+1 })
    (h:wpQuiet P (o0 :: l).toArray C (fun a'=>∀ w',C w'→wpList P (o0 :: l).toArray Q ((o0 :: l).drop n) a' w') (l.take (n - 1)) (a.put o0.dst v0)):(Code.region id (o0 :: l).toArray true).wp P Q a w:=by
  simp only [zmt,Bool.and_eq_true,decide_eq_true_eq] at hB
  obtain ⟨⟨⟨⟨⟨⟨⟨hsel,hn⟩,hn1⟩,hs⟩,hc⟩,hf0⟩,hr0⟩,hlex⟩:=hB
  have hn':n < l.length+1:=by simpa using hn
  have htl:(l.take (n - 1)).length=n - 1:=by simp;omega
  have hdl:((o0 :: l).drop n).length=(o0 :: l).toArray.size - n:=by simp
  have inv0:HeadInv .any (o0 :: l).toArray n (Array.replicate (o0 :: l).toArray.size false):=
    ⟨by simp,fun j oj _ hl=>(by rw [getD_replicate_false] at hl;cases hl),fun t _ ht=>getD_in (by simpa using ht) (getD_replicate_false _ _)⟩
  have inv1:=inv0.set (i:=0) (by simpa using hr0) (by omega)
  have H:=zkK (md:=.any) (m:=1) (g:=(o0 :: l).toArray.size - n) hsel hs hc hn (l.take (n - 1)) 1 _ (a.put o0.dst v0) (fun j hj=>by
    have hj':j < n - 1:=by rw [htl] at hj;exact hj
    rw [List.getElem?_take,if_pos hj',Nat.add_comm 1 j];simp) (Nat.le_refl _) (by omega) inv1 (by rw [htl];exact hlex) h
  refine wp_region_any hm ?_
  have:=zep (Q':=Q) (g:=(o0 :: l).toArray.size - n) (fun listed a' w' hw' hL=>by
    have:=wpAny_of_seq ((o0 :: l).drop n) n listed a' w' (fun j=>by simp) (by rw [hdl];exact hL.1) (hL.2 w' hw')
    rw [hdl] at this
    exact this) _ _ _ _ hC H
  rw [htl] at this
  have h2:=wpAny_take (Q:=Q) (i:=0) (oi:=o0) (v:=v0) (by simp) hsel hf0 hr0 hQ hy this
  rw [show n - 1+((o0 :: l).toArray.size - n)+1=(o0 :: l).toArray.size by simp;omega] at h2
  exact h2
theorem zbx {id:Nat} {Q:Exit→Act→World→Prop} {a:Act} {w:World} {o0:Oper} {l:List Oper} (v0:Value) (n:Nat) (hm:P.follows .mixedOrders=true) (hB:zmt (o0 :: l).toArray n=true)
    (hQ:∀ c a w,Q (.panic c) (a.put o0.dst v0) w→Q (.panic c) a w) (hy:Yields P (o0 :: l).toArray o0 v0 a)
    (h:wpQuiet P (o0 :: l).toArray (fun w'=>∃ p:Regrown,w'=grow (redrawn w p.d) p.os) (fun a'=>∀ w',(∃ p:Regrown,w'=grow (redrawn w p.d) p.os)→wpList P (o0 :: l).toArray Q ((o0 :: l).drop n) a' w') (l.take (n - 1)) (a.put o0.dst v0)):(Code.region id (o0 :: l).toArray true).wp P Q a w:=
  zge n hm hB hQ hy ⟨⟨w.drawn+1,#[]⟩,by rw [grow_empty];rfl⟩ h
end
end Go.Proofs.YtgoeedohgomodaaGreatDoor
namespace Go.Proofs.YtgoeedohgomodaaGreatDoor
open Go.RowKit Go.Sort
theorem zdp (a b:List UInt8):(ByteArray.mk a.toArray) ++ (ByteArray.mk b.toArray)=⟨(a ++ b).toArray⟩:=by
  apply ByteArray.ext
  simp [ByteArray.data_append]
theorem zt9 (ws:List (List UInt8)):(ws.map fun s=>ByteArray.mk s.toArray).map (·.data.toList)=ws:=by
  induction ws with
  | nil=>rfl
  | cons x r ih=>simp [ih]
theorem zta:∀ (ws:List (List UInt8)) (m:Nat),(∀ s ∈ ws,s.length≤m)→Lib.lens ws≤m * ws.length
  | [],m,_=>by simp [Lib.lens]
  | x :: r,m,h=>by
    have h1:=zta r m fun s hs=>h s (by simp [hs])
    have h2:=h x (by simp)
    have e:Lib.lens (x :: r)=x.length+Lib.lens r:=rfl
    rw [e,List.length_cons,Nat.mul_add];omega
theorem join_len_le (ws:List (List UInt8)) (sep:List UInt8) (m:Nat) (h:∀ s ∈ ws,s.length≤m):(Lib.join ws sep).length≤(m+sep.length) * ws.length:=by
  cases ws with
  | nil=>simp [Lib.join,List.intercalate]
  | cons x r=>
    rw [Lib.join_length,Nat.add_mul]
    have:=zta (x :: r) m h
    have h2:sep.length * r.length≤sep.length * (x :: r).length:=Nat.mul_le_mul_left _ (by simp)
    omega
theorem zr9 (ws:List (List UInt8)) (A:Option Addr) (c:Nat) (sep:List UInt8) (w:World) (hne:ws ≠ []) (hS:zxZ w A ws) (hc:ws.length≤c) (hN:ws.length≤1000) (m:Nat) (hm:∀ s ∈ ws,s.length≤m) (hlen:m+sep.length≤100000000000):
    Calls Tryz.prog 48 #[.slice A ws.length c, .string ⟨sep.toArray⟩] w (Ret w (.string ⟨(Lib.join ws sep).toArray⟩)):=by
  obtain ⟨b,o,rfl,hb,hcell⟩:=hS.at_ hne
  have hl:=join_len_le ws sep m hm
  have hl2:(m+sep.length) * ws.length≤100000000000 * 1000:=Nat.mul_le_mul hlen hN
  have h:=Tryz.strings_Join b o c (ws.map fun s=>ByteArray.mk s.toArray) ⟨sep.toArray⟩ w (by
    intro j x hx
    rw [List.getElem?_map] at hx
    cases hj:ws[j]? with
    | none=>simp [hj] at hx
    | some s=>
      rw [hcell j s hj]
      simp [hj] at hx
      rw [← hx];rfl) hb (by simp;omega) (by simpa using hc) (by rw [zt9];simp;omega)
  rw [List.length_map,zt9] at h
  exact h
attribute [local go_sem] zdp
def i64 (n:Int):Prop:=-9223372036854775808≤n∧n≤9223372036854775807
end Go.Proofs.YtgoeedohgomodaaGreatDoor
namespace Go.Proofs.YtgoeedohgomodaaGreatDoor
open Go.RowKit Go.Sort
attribute [local go_sem] zwm zwl zdp
end Go.Proofs.YtgoeedohgomodaaGreatDoor
namespace Go.Proofs.YtgoeedohgomodaaGreatDoor
def zw7 (lo hi:Int):Prop:=-200000≤lo∧lo≤hi∧hi≤6000000
instance (lo hi:Int):Decidable (zw7 lo hi):=by unfold zw7;infer_instance
end Go.Proofs.YtgoeedohgomodaaGreatDoor
namespace Go.Proofs.YtgoeedohgomodaaGreatDoor
def words:List UInt8→List (List UInt8)
  | []=>[[]]
  | x :: r=>if x=32 then [] :: words r else match words r with | []=>[[x]] | a :: q=>(x :: a) :: q
theorem zrQ:∀ l:List UInt8,words l=if (cutAt 32 l).2.2 then (cutAt 32 l).1 :: words (cutAt 32 l).2.1 else [l]
  | []=>by simp [words,cutAt]
  | x :: r=>by
    have ih:=zrQ r
    by_cases hx:x=32
    · simp [words,cutAt,hx]
    · simp only [words,cutAt,hx,if_false]
      cases hf:(cutAt 32 r).2.2
      · simp [hf] at ih;simp [ih]
      · simp [hf] at ih;simp [ih]
theorem ze4 (c:UInt8):∀ l:List UInt8,l.count c=if (cutAt c l).2.2 then 1+(cutAt c l).2.1.count c else 0
  | []=>by simp [cutAt]
  | x :: r=>by
    have ih:=ze4 c r
    by_cases hx:x=c
    · simp [cutAt,hx];omega
    · rw [List.count_cons_of_ne hx];simp [cutAt,hx];exact ih
theorem zvz (c:UInt8) (l:List UInt8) (h:(cutAt c l).2.2=true):(cutAt c l).2.1.length < l.length:=by
  have h1:=congrArg List.length (zdx c l h)
  simp only [List.length_append,List.length_cons] at h1
  omega
theorem zhC (c:UInt8) (l:List UInt8) (h:(cutAt c l).2.2=true):l.drop ((Lib.index l [c]).toNat+[c].length)=(cutAt c l).2.1∧l.take ((Lib.index l [c]).toNat+0)=(cutAt c l).1:=by
  rw [zc6 c l,h]
  have h1:=zdx c l h
  generalize (cutAt c l).1=a at h1 ⊢
  generalize (cutAt c l).2.1=b at h1 ⊢
  subst h1
  simp
theorem zfx (c:UInt8):∀ (f:Nat) (l:List UInt8),l.length < f→Lib.countFrom [c] f l=l.count c
  | 0,l,h=>by omega
  | f+1,l,h=>by
    rw [Lib.countFrom,ze4 c l]
    cases hf:(cutAt c l).2.2
    · rw [if_pos (by rw [zc6,hf];rfl)];rfl
    · rw [if_neg (by rw [zc6,hf];first | (simp;done) | (simp;omega)),(zhC c l hf).1,zfx c f _ (by have:=zvz c l hf;omega)]
      rfl
end Go.Proofs.YtgoeedohgomodaaGreatDoor
namespace Go.Proofs.YtgoeedohgomodaaGreatDoor
open Go.RowKit Go.Sort
def zyx (s:List UInt8):Bool:=(za8 s).2.2 == 0
end Go.Proofs.YtgoeedohgomodaaGreatDoor
namespace Go.Proofs.YtgoeedohgomodaaGreatDoor
open Go.RowKit
def zap (c:UInt8):List UInt8→List (List UInt8)
  | []=>[[]]
  | x :: r=>if x=c then [] :: zap c r else match zap c r with | []=>[[x]] | a :: q=>(x :: a) :: q
theorem zey (c:UInt8) (l:List UInt8):zap c l ≠ []:=by
  cases l with
  | nil=>simp [zap]
  | cons x r=>
    unfold zap
    split
    · simp
    · split <;> simp
theorem zfF (c:UInt8):∀ l:List UInt8,zap c l=if (cutAt c l).2.2 then (cutAt c l).1 :: zap c (cutAt c l).2.1 else [l]
  | []=>by simp [zap,cutAt]
  | x :: r=>by
    have ih:=zfF c r
    by_cases hx:x=c
    · simp [zap,cutAt,hx]
    · simp only [zap,cutAt,hx,if_false]
      cases hf:(cutAt c r).2.2
      · simp [hf] at ih;simp [ih]
      · simp [hf] at ih;simp [ih]
end Go.Proofs.YtgoeedohgomodaaGreatDoor
namespace Go.Proofs.YtgoeedohgomodaaGreatDoor
open Go.RowKit Go.Sort
set_option maxRecDepth 100000
theorem ztE (l:List UInt8) (c:UInt8) (w:World) (hL:Laid w) (hl:l.length≤4000000000):
    Calls Tryz.prog 60 #[.string ⟨l.toArray⟩, .string ⟨#[c]⟩] w (Ret w (.tuple #[.string ⟨(cutAt c l).1.toArray⟩, .string ⟨(cutAt c l).2.1.toArray⟩, .bool (cutAt c l).2.2])):=
  (zmD l c w hL hl).mono fun e w' ⟨h1,n,h2⟩=>⟨h1,by rw [h2];exact below_drewN (Below.refl _ _) n⟩
end Go.Proofs.YtgoeedohgomodaaGreatDoor
namespace Go.Proofs.YtgoeedohgomodaaGreatDoor
open Go.RowKit
theorem Blk.setCell {W:World} {g:Nat} {cs:Array Value} (h:Blk W g cs) (k:Nat) (v:Value):Blk (W.setCell ⟨g,k,none⟩ v) g (cs.setIfInBounds k v):=by
  obtain ⟨t,h⟩:=h
  have hlt:g < W.heap.size:=by
    rcases Nat.lt_or_ge g W.heap.size with hlt | hge
    · exact hlt
    · rw [Array.getElem?_eq_none hge] at h;cases h
  refine ⟨t,?_⟩
  simp only [World.setCell,Array.getElem?_modify,if_true,h]
  rfl
theorem zat {B g:Nat} {w0 w:World} (hb:Below B w0 w) (hBg:B≤g) (k:Nat) (v:Value):Below B w0 (w.setCell ⟨g,k,none⟩ v):=hb.setCell (by simpa using hBg) v
end Go.Proofs.YtgoeedohgomodaaGreatDoor
namespace Go.Proofs.YtgoeedohgomodaaGreatDoor
open Go.RowKit Go.Sort
set_option maxRecDepth 100000
theorem wmk (a b:Int):Win.arr ⟨a,b⟩=#[.int .i64 a, .int .i64 b]:=rfl
attribute [local go_sem] wmk
theorem zwx (a b c d:Int):splice #[.int .i64 a, .int .i64 b] 0 #[.int .i64 c, .int .i64 d]=#[.int .i64 c, .int .i64 d]:=rfl
attribute [local go_sem] zwx
end Go.Proofs.YtgoeedohgomodaaGreatDoor
namespace Go.Proofs.YtgoeedohgomodaaGreatDoor
open Go.RowKit
def plan0:Plan:=⟨[],[],[],0⟩
end Go.Proofs.YtgoeedohgomodaaGreatDoor
