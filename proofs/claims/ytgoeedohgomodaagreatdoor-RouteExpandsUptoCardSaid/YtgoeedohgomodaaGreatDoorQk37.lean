/- Lemmas and walks. -/
import Derived.Test.YtgoeedohgomodaaGreatDoorQk14
import Derived.Test.YtgoeedohgomodaaGreatDoorQk13
import Derived.Test.YtgoeedohgomodaaGreatDoorQk35
import Derived.Test.YtgoeedohgomodaaGreatDoorQk09
import Derived.Deep.RegionHeld3
import Derived.Test.YtgoeedohgomodaaGreatDoorQk05
import Derived.Lib.BufferMore
import Derived.Test.YtgoeedohgomodaaGreatDoorQk33
import Derived.Maps.OwnOps
import Derived.Maps.Views
set_option linter.unusedSimpArgs false
set_option linter.unusedVariables false
namespace Go.Proofs.YtgoeedohgomodaaGreatDoor
open Go.RowKit
theorem zq9:∀ (a b out:List Entry) (pb:Bool),zdG out pb (a ++ b)=zdG (a.foldl zgb (out,pb)).1 (a.foldl zgb (out,pb)).2 b:=fun a b out pb=>by
  rw [zcD,zcD,List.foldl_append]
theorem zmv {a:List Entry} (b:List Entry) (h:zcO a=a):(zcO (a ++ b)).length≤a.length+2 * b.length:=by
  have h1:(a.foldl zgb ([],false)).1=a:=by rw [← zcD];exact h
  unfold zcO
  rw [zq9]
  have:=zhy b (a.foldl zgb ([],false)).1 (a.foldl zgb ([],false)).2
  rw [h1] at this ⊢
  exact this
theorem zrH (pt:List UInt8→(Int × Int) × Int) (legs:List Leg) (sec:Int) (via:List UInt8):(zbL pt legs sec via).1.length≤legs.length:=by
  by_cases h:(zbL pt legs sec via).2=0
  · unfold zbL at h ⊢
    repeat' split
    all_goals simp_all
  · rw [zod h];simp
theorem zvM (R:zbS) (l:List Entry) (legs:List Leg) (s:Int) (via:List UInt8) (h:zcO l=l):zcO (zcn R l legs s via).1=(zcn R l legs s via).1∧(zcn R l legs s via).1.length≤l.length+2 * legs.length:=by
  unfold zcn
  split
  · exact ⟨h,by simp only;omega⟩
  · refine ⟨zpb _,?_⟩
    have h1:=zmv (zbL R.pt legs s via).1 h
    have h2:=zrH R.pt legs s via
    simp only
    omega
theorem zeq {p:ProcV} (h:∀ x ∈ p.parts,∀ l ∈ x.legs,l.small) (r t:List UInt8):(zau p r t).1.length≤1000∧∀ l ∈ (zau p r t).1,l.small:=by
  unfold zau
  split
  · exact ⟨by simp,fun q hq=>by cases hq⟩
  rename_i h1
  have h1:zay p=0:=by simpa using h1
  have hl:=zg2 h1
  have hP:∀ k n f,(zaY k n p.parts).map PartV.legs=some f→ShL 24 f:=by
    intro k n f hf
    cases hq:zaY k n p.parts with
    | none=>rw [hq] at hf;cases hf
    | some x=>
      rw [hq] at hf
      obtain rfl:x.legs=f:=by simpa using hf
      exact ⟨(hl x (zfp hq)).1,h x (zfp hq)⟩
  have hnil:ShL 24 []:=⟨Nat.zero_le _,fun x hx=>by cases hx⟩
  split
  · exact ⟨by simp,fun q hq=>by cases hq⟩
  rename_i lr hr
  have h2:ShL 24 lr:=by
    unfold zc8 at hr
    split at hr
    · obtain rfl:[]=lr:=by simpa using hr
      exact hnil
    · exact hP _ _ _ hr
  split
  · exact ⟨by simp,fun q hq=>by cases hq⟩
  rename_i lt ht
  have h3:ShL 24 lt:=by
    unfold zdo at ht
    split at ht
    · obtain rfl:[]=lt:=by simpa using ht
      exact hnil
    · exact hP _ _ _ ht
  have h4:ShL 24 (zdy p):=by
    unfold zdy
    cases hq:zaY 2 [] p.parts with
    | none=>exact hnil
    | some x=>exact hP 2 [] _ (by rw [hq];rfl)
  have h5:∀ k,ShL 24 (zbg lr lt (zdy p) k):=by
    intro k
    unfold zbg
    split
    · exact h2
    · split
      · exact h3
      · split
        · exact h4
        · exact hnil
  have h6:=zmA (pk:=p.kind) h5
  split
  · exact ⟨by simp,fun q hq=>by cases hq⟩
  · exact ⟨by have:=h6.1;show (zca _ _).length≤_;omega,h6.2⟩
end Go.Proofs.YtgoeedohgomodaaGreatDoor
namespace Go.Proofs.YtgoeedohgomodaaGreatDoor
open Go.RowKit Go.Sort
set_option maxRecDepth 100000
structure KindsAt (w:World) (A:Option Addr) (ks:List Int):Prop where
  at_:ks ≠ []→∃ b,A=some ⟨b,0,none⟩∧b < w.heap.size∧∀ i x,ks[i]? = some x→w.cell? ⟨b,i,none⟩=some (.int .u8 x)
theorem KindsAt.below {w w':World} {A:Option Addr} {ks:List Int} (h:KindsAt w A ks) (hb:Below w.heap.size w w'):KindsAt w' A ks:=by
  refine ⟨fun hne=>?_⟩
  obtain ⟨b,rfl,hlt,hc⟩:=h.at_ hne
  exact ⟨b,rfl,Nat.lt_of_lt_of_le hlt hb.size,fun i x hx=>by rw [hb.cell (p:=⟨b,_,none⟩) hlt];exact hc i x hx⟩
def zwp (w:World) (ks:List Int) (e:Ending) (w':World):Prop:=∃ A c,e=.returned (.slice A ks.length c)∧KindsAt w' A ks∧(A=none ↔ ks=[])∧Below w.heap.size w w'
theorem zmH {P:Program} {f:FuncId} {args:Array Value} {W:World} {ks:List Int} {K:Ending→World→Prop} (h:Calls P f args W (zwp W ks))
    (k:∀ A c w',KindsAt w' A ks→(A=none ↔ ks=[])→Below W.heap.size W w'→K (.returned (.slice A ks.length c)) w'):Calls P f args W K:=
  h.mono fun e w' ⟨A,c,he,h1,h2,h3⟩=>by subst he;exact k A c w' h1 h2 h3
theorem ztf (w:World) (a b c:Int) (t:TypeId):KindsAt (w.alloc (.cells #[.int .u8 a, .int .u8 b, .int .u8 c] t)) (some ⟨w.heap.size,0,none⟩) [a,b,c]:=
  ⟨fun _=>⟨w.heap.size,rfl,by simp,fun i x hx=>by
    rw [cell_of_row _ _ i _ t (0,0) (heap_alloc_new w _)]
    match i,hx with
    | 0,hx=>simpa using hx
    | 1,hx=>simpa using hx
    | 2,hx=>simpa using hx
    | i+3,hx=>simp at hx⟩⟩
theorem zjm (k:Int) (w:World):Calls Tryz.prog 157 #[.int .u8 k] w (zwp w (zb7 k)):=by
  by_cases h1:k=1
  · subst h1
    go_enter Tryz.func157,Tryz.ntmps157
    go_wp2
    go_ret
    exact ⟨_,3,rfl,ztf w 1 2 3 _,by simp [zb7],zad _ _⟩
  by_cases h2:k=2
  · subst h2
    go_enter Tryz.func157,Tryz.ntmps157
    go_wp2
    go_ret
    exact ⟨_,3,rfl,ztf w 3 2 1 _,by simp [zb7],zad _ _⟩
  by_cases h3:k=3
  · subst h3
    go_enter Tryz.func157,Tryz.ntmps157
    go_wp2
    go_ret
    exact ⟨_,3,rfl,ztf w 3 2 4 _,by simp [zb7],zad _ _⟩
  have e1:(k == 1)=false:=by simpa using h1
  have e2:(k == 2)=false:=by simpa using h2
  have e3:(k == 3)=false:=by simpa using h3
  have HO:zb7 k=[]:=by simp [zb7,h1,h2,h3]
  rw [HO]
  clear HO h1 h2 h3
  go_enter Tryz.func157,Tryz.ntmps157
  go_wp2
  go_ret
  exact ⟨none,0,rfl,⟨fun h=>absurd rfl h⟩,by simp,Below.refl _ _⟩
theorem zkV (k:Int) (l:List Int) {i:Nat} (h:i < l.length):zdk k (l.drop i) i=if l[i] == k then (i:Int) else zdk k (l.drop (i+1)) (i+1):=by
  rw [List.drop_eq_getElem_cons h];rfl
theorem zla (ks:List Int) (A:Option Addr) (m c:Nat) (k:Int) (w:World) (hK:KindsAt w A ks) (hm:ks.length=m) (hn:m≤1000):
    Calls Tryz.prog 201 #[.slice A m c, .int .u8 k] w (RetP w (.int .i64 (zdk k ks 0))):=by
  have HM:=Lib.hid hm
  clear hm
  go_enter Tryz.func201,Tryz.ntmps201
  go_wp2
  go_loopw [8] (fun iv wr=>∃ i:Nat,i≤m∧iv=.int .i64 i∧zdk k ks 0=zdk k (ks.drop i) i∧wr=w) (fun iv _=>m - (intOf iv).toNat)
  case atStart=>exact ⟨0,by omega,rfl,rfl,rfl⟩
  case round=>
    obtain ⟨i,hi,rfl,hf,rfl⟩:=hrel
    have HF:=Lib.hid hf
    clear hf
    by_cases hlt:i < m
    · have hlk:i < ks.length:=by rw [HM.out];exact hlt
      obtain ⟨b,rfl,hb,hc⟩:=hK.at_ (by rintro rfl;simp at hlk)
      have e1:=hc i _ (List.getElem?_eq_getElem hlk)
      have HD:=Lib.hid (HF.out.trans (zkV k ks hlk))
      generalize ks[i]=x at e1 HD
      have hlt':(i:Int) < (m:Int):=by omega
      clear HF hc
      by_cases hx:x=k
      · have h1:(k == x)=true:=by simp [hx]
        have HO:=Lib.hid (HD.out.trans (if_pos (by simp [hx])))
        clear HD hx
        go_wp2
        go_ret
        exact RetP.int HO.out.symm rfl
      · have h1:(k == x)=false:=by simp;omega
        have HO:=Lib.hid (HD.out.trans (if_neg (by simpa using hx)))
        clear HD hx
        go_wp2
        go_roundw
        case rel=>exact ⟨i+1,by omega,by go_num,HO.out,by first | trivial | rfl⟩
        case measure=>simp [intOf];omega
    · have HO:=Lib.hid (show zdk k ks 0=-1 by rw [HF.out,List.drop_of_length_le (by rw [HM.out];omega)];rfl)
      have hlt':¬ (i:Int) < (m:Int):=by omega
      go_wp2
      go_ret
      exact RetP.int HO.out.symm rfl
theorem zc2 (p:ProcV) (A:Option Addr) (c:Nat):zdQ (zaf p A c):=by simp [zdQ,zaf,Value.oneCell']
set_option maxHeartbeats 2000000 in
theorem zsN (p:ProcV) (A:Option Addr) (c:Nat) (k t:Int) (w:World):Calls Tryz.prog 202 #[.agg (zaf p A c), .int .u8 k, .int .u8 t] w (Ret w (.bool (zfr p.kind k t))):=by
  go_enter Tryz.func202,Tryz.ntmps202
  go_upto_region 1 with (fail)
  have X0:=Blk.new w (zaf p A c) 131
  have B0:=zad w (.cells (zaf p A c) 131)
  generalize w.alloc _=W at X0 B0 ⊢
  obtain ⟨g0,hg0⟩:∃ g,g=w.heap.size:=⟨_,rfl⟩
  rw [← hg0] at X0 ⊢
  clear hg0
  have c2:W.cell? ⟨g0,2,none⟩=some (.int .u8 p.kind):=X0.cell 2
  go_wp2
  all_goals
    go_ret
    refine Ret.bool ?_ B0
    grind [zfr]
end Go.Proofs.YtgoeedohgomodaaGreatDoor
namespace Go.Proofs.YtgoeedohgomodaaGreatDoor
open Go.RowKit Go.Sort
set_option maxRecDepth 100000
def zic (w:World) (r:Option PartV) (e:Ending) (w':World):Prop:=∃ cs,e=.returned (.tuple #[.agg cs, .bool r.isSome])∧PrtAt w' cs (r.getD zbn)∧Below w.heap.size w w'
theorem zdz {P:Program} {f:FuncId} {args:Array Value} {W:World} {r:Option PartV} {K:Ending→World→Prop} (h:Calls P f args W (zic W r))
    (k:∀ cs w',PrtAt w' cs (r.getD zbn)→Below W.heap.size W w'→K (.returned (.tuple #[.agg cs, .bool r.isSome])) w'):Calls P f args W K:=
  h.mono fun e w' ⟨cs,he,h1,h2⟩=>by subst he;exact k cs w' h1 h2
theorem zbr (a:PartV) (A:Option Addr) (c:Nat):zdQ (zan a A c):=by simp [zdQ,zan,Value.oneCell']
theorem zcq (a:PartV) (A:Option Addr) (c:Nat):zdg (zan a A c) 3:=rfl
theorem zbO (a:PartV) (A:Option Addr) (c o n:Nat):Fits o n (zan a A c)=(o+n≤3):=propext ⟨fun h=>h,fun h=>h⟩
theorem zbd (a b:PartV) (A B:Option Addr) (c d:Nat):splice (zan a A c) 0 (zan b B d)=zan b B d:=rfl
theorem zdU (l:List Leg):∀ y ∈ l.map Leg.arr,y.toList.all (·.oneCell')=true:=by
  intro y hy
  obtain ⟨p,_,rfl⟩:=List.mem_map.1 hy
  have:=p.arr_one
  exact List.all_eq_true.2 fun v hv=>(Array.all_eq_true_iff_forall_mem.1 this) v (by simpa using hv)
theorem zbZ (l:List Leg):∀ y ∈ l.map Leg.arr,y.size=13:=by
  intro y hy
  obtain ⟨p,_,rfl⟩:=List.mem_map.1 hy
  rfl
def zxH (parts:Array (Nat × Value)):Sem Value:=Instr.build 183 parts
theorem zlq (parts:Array (Nat × Value)):Instr.build 183 parts=zxH parts:=rfl
theorem zne (w:World):(zxH #[]).run Tryz.prog w=.ok (.agg (zan zbn none 0)) w:=run_build w _ _ _ (by kernel_rfl)
attribute [local go_sem ↓] zlq
attribute [local go_sem] zne zbr zcq zbO zbd
set_option maxHeartbeats 4000000 in
theorem zg4 (p:ProcV) (A:Option Addr) (c:Nat) (hlc:p.parts.length≤c) (hn:p.parts.length≤4000000) (kd:Int) (n:List UInt8) (w:World) (hA:PrtsAt w A p.parts) (hs:∀ x ∈ p.parts,x.small):
    Calls Tryz.prog 127 #[.agg (zaf p A c), .int .u8 kd, .string ⟨n.toArray⟩] w (zic w (zaY kd n p.parts)):=by
  go_enter Tryz.func127,Tryz.ntmps127
  go_upto_region 1 with (fail)
  have X0:Blk (w.alloc (.cells (zaf p A c) 131)) w.heap.size (zaf p A c):=Blk.new w _ _
  have B0:=zad w (.cells (zaf p A c) 131)
  have hsz:(w.alloc (.cells (zaf p A c) 131)).heap.size=w.heap.size+1:=World.size_alloc _ _
  generalize w.alloc _=W0 at X0 B0 hsz ⊢
  rw [← hsz]
  have Y1:Blk (W0.alloc (.cells (zan zbn none 0) 183)) W0.heap.size (zan zbn none 0):=Blk.new W0 _ _
  have B1:=zaa B0 (zad W0 (.cells (zan zbn none 0) 183))
  have X1:=X0.alloc (.cells (zan zbn none 0) 183)
  have hgle:w.heap.size≤W0.heap.size:=B0.size
  generalize hW:W0.alloc _=W
  have hE:W0.alloc (.cells (zan zbn none 0) 183)=W:=hW
  rw [hE] at Y1 B1 X1
  clear hW hE
  generalize W0.heap.size=g1 at Y1 hgle ⊢
  generalize w.heap.size=g0 at X1 ⊢
  have k7:W.cell? ⟨g0,3,none⟩=some (.slice A p.parts.length c):=X1.cell 3
  have HA:=Lib.hid (fun (W':World) (B:Below W.heap.size W W')=>hA.below (zaa B1 B))
  generalize p.parts=l at *
  have HY:=Lib.hid Y1
  have HB:=Lib.hid B1
  have HLC:=Lib.hid hlc
  clear X0 hsz X1 B0 hA Y1 B1
  go_wp2
  clear k7
  go_loopw [13] (fun iv wr=>∃ k:Nat,k≤l.length∧iv=.int .i64 k∧zaY kd n l=zaY kd n (l.drop k)∧Below W.heap.size W wr) (fun iv _=>l.length - (intOf iv).toNat)
  case atStart=>exact ⟨0,by omega,rfl,rfl,Below.refl _ _⟩
  case round=>
    obtain ⟨k,hk,rfl,hf,BW⟩:=hrel
    have HG:=Lib.hid hf
    clear hf
    by_cases hlt:k < l.length
    · obtain ⟨b,off,cs',hAe,hb,hIs,hAt⟩:=(HA.out wr BW).get (Below.refl _ _) hlt
      obtain ⟨A2,c2,rfl,hl2,hI2⟩:=hAt.ex
      have hsm:=hs _ (List.getElem_mem hlt)
      have HD:=Lib.hid (show zaY kd n l=if l[k].kind == kd && l[k].name == n then some l[k] else zaY kd n (l.drop (k+1)) by rw [HG.out,List.drop_eq_getElem_cons hlt];rfl)
      clear hAt HG
      generalize l[k]=a at *
      subst hAe
      have i1:zb3 wr b (off+k * 3):=⟨_,hIs⟩
      have i2:zcs wr b (off+k * 3)=zan a A2 c2:=zbD hIs
      have hlt':(k:Int) < (l.length:Int):=by omega
      have hkc:k < c:=by have:=HLC.out;omega
      go_upto_region 4 with (fail)
      have Z:=Blk.new wr (zan a A2 c2) 183
      have D:=zad wr (.cells (zan a A2 c2) 183)
      have hI3:=hI2.below D
      have hgw:g1 < wr.heap.size:=Nat.lt_of_lt_of_le HY.out.lt BW.size
      have hWw:W.heap.size≤wr.heap.size:=BW.size
      clear i1 i2 hIs hI2 hb
      generalize wr.alloc _=W2 at Z D hI3 ⊢
      obtain ⟨g7,hg7⟩:∃ g,g=wr.heap.size:=⟨_,rfl⟩
      rw [← hg7] at Z ⊢
      have hne:g7 ≠ g1:=by omega
      have h7W:W.heap.size≤g7:=by omega
      have h7r:wr.heap.size≤g7:=by omega
      have h71:g1 < g7:=by omega
      clear hg7 hgw hWw
      have z0:W2.cell? ⟨g7,0,none⟩=some (.int .u8 a.kind):=Z.cell 0
      have z1:W2.cell? ⟨g7,1,none⟩=some (.string ⟨a.name.toArray⟩):=Z.cell 1
      have z2:W2.cell? ⟨g7,2,none⟩=some (.slice A2 a.legs.length c2):=Z.cell 2
      by_cases hnm:a.kind=kd∧a.name=n
      · have h0:(a.kind == kd)=true:=by simpa using hnm.1
        have h1:(a.name == n)=true:=by simpa using hnm.2
        have HO:=Lib.hid (show zaY kd n l=some a by rw [HD.out,h0,h1];rfl)
        have kc:=Lib.hid (zhi (a.legs.map Leg.arr) A2 a.legs.length c2 W2 hI3 (by simp) (by have:=hsm.len;omega) (zbZ _) (zdU _))
        clear HD hnm
        go_upto_region 6 with (go_at_call 125;(with_reducible refine ze9 kc.out ?_);intro A3 c3 w3 O3 b3;have Z3:=Z.step b3;have f1:=Z3.frozen 2;have f2:w3.cell? ⟨g7,2,none⟩=some (.slice A2 a.legs.length c2):=Z3.cell 2)
        have Z4:Blk (w3.setCell ⟨g7,2,none⟩ (.slice A3 a.legs.length c3)) g7 (zan a A3 c3):=Z3.setCell 2 _
        have D4:Below wr.heap.size wr (w3.setCell ⟨g7,2,none⟩ (.slice A3 a.legs.length c3)):=zat (zaa D b3) h7r 2 _
        obtain ⟨A4,c4,e4,hl4,hI4,hA4,_⟩:=O3.form (zbZ _)
        injection e4 with e4 _ e5
        subst e4 e5
        rw [List.length_map] at hl4
        have hg7lt:=Z.lt
        have hI5:Items (w3.setCell ⟨g7,2,none⟩ (.slice A3 a.legs.length c3)) A3 13 (a.legs.map Leg.arr):=hI4.keepB (fun q hq=>Below.heap_setCell _ _ _ _ (by have:=hA4 q hq;show q.block ≠ g7;omega)) (by simp [World.setCell])
        have Y4:=(HY.out.step BW).step D4
        have B4:=zaa (zaa HB.out BW) D4
        clear f1 f2 z0 z1 Z3 O3 D Z kc hI3 hI4
        generalize w3.setCell _ _=w4 at *
        have i1:zb3 w4 g7 0:=⟨_,Z4.is_prt rfl⟩
        have i2:zcs w4 g7 0=zan a A3 c3:=zbD (Z4.is_prt rfl)
        have d2:=Y4.plain
        have d3:=Y4.of
        go_wp2
        exact bodyPost_ret (zal Tryz.results127 _ _ g1 (zan a A3 c3) 3 _ rfl rfl (Y4.set _).cell Tryz.underlying183 rfl ze1) rfl ⟨_,by rw [HO.out];rfl,by rw [HO.out];exact ⟨⟨A3,c3,rfl,hl4,hI5.keepB (fun q hq=>setRow_other _ _ _ _ (by have:=hA4 q hq;omega)) (by simp [World.setRow])⟩⟩,zab B4 hgle _⟩
      · have HD:=Lib.hid (show zaY kd n l=zaY kd n (l.drop (k+1)) by
          rw [HD.out,if_neg]
          intro h
          simp only [Bool.and_eq_true,beq_iff_eq] at h
          exact hnm h)
        by_cases h0:a.kind=kd
        · have h0':(a.kind == kd)=true:=by simpa using h0
          have h1:(a.name == n)=false:=by
            have:a.name ≠ n:=fun h=>hnm ⟨h0,h⟩
            simpa using this
          clear hnm h0
          go_wp2
          go_roundw
          case rel=>exact ⟨k+1,by omega,by go_num,HD.out,zaa BW D⟩
          case measure=>simp [intOf];omega
        · have h0':(a.kind == kd)=false:=by simpa using h0
          clear hnm h0
          go_wp2
          go_roundw
          case rel=>exact ⟨k+1,by omega,by go_num,HD.out,zaa BW D⟩
          case measure=>simp [intOf];omega
    · have HO:=Lib.hid (show zaY kd n l=none by rw [HG.out,List.drop_of_length_le (by omega)];rfl)
      have hlt':¬ (k:Int) < (l.length:Int):=by omega
      have Y2:=HY.out.step BW
      have d2:=Y2.plain
      have d3:=Y2.of
      have B2:=zaa HB.out BW
      clear hlt
      go_wp2
      exact bodyPost_ret (zal Tryz.results127 _ _ g1 (zan zbn none 0) 3 _ rfl rfl (Y2.set _).cell Tryz.underlying183 rfl ze1) rfl ⟨_,by rw [HO.out];rfl,by rw [HO.out];exact PrtAt.no _,zab B2 hgle _⟩
end Go.Proofs.YtgoeedohgomodaaGreatDoor
namespace Go.Proofs.YtgoeedohgomodaaGreatDoor
open Go.RowKit Go.Sort
set_option maxRecDepth 100000
attribute [local go_sem] zbr zcq zbO zbd
def zum (w:World) (m:Nat) (e:Ending) (w':World):Prop:=∃ A c,e=.returned (.slice A m c)∧Below w.heap.size w w'
theorem ztL {P:Program} {f:FuncId} {args:Array Value} {W:World} {m:Nat} {K:Ending→World→Prop} (h:Calls P f args W (zum W m))
    (k:∀ A c w',Below W.heap.size W w'→K (.returned (.slice A m c)) w'):Calls P f args W K:=
  h.mono fun e w' ⟨A,c,he,h1⟩=>by subst he;exact k A c w' h1
theorem zk8 (kd:Int) (l:List PartV) {k:Nat} (h:k < l.length):zbP kd (l.take (k+1))=if l[k].kind == kd then zbP kd (l.take k) ++ [l[k].name] else zbP kd (l.take k):=by
  unfold zbP
  rw [List.take_succ_eq_append_getElem h,List.filter_append]
  by_cases hk:(l[k].kind == kd)=true
  · rw [if_pos hk];simp [List.filter_cons,hk]
  · rw [if_neg hk];simp [List.filter_cons,hk]
set_option maxHeartbeats 4000000 in
theorem zs3 (p:ProcV) (A:Option Addr) (c:Nat) (hlc:p.parts.length≤c) (hn:p.parts.length≤4000000) (kd:Int) (w:World) (hA:PrtsAt w A p.parts):
    Calls Tryz.prog 156 #[.agg (zaf p A c), .int .u8 kd] w (zum w (zbP kd p.parts).length):=by
  go_enter Tryz.func156,Tryz.ntmps156
  go_upto_region 1 with (fail)
  have X0:Blk (w.alloc (.cells (zaf p A c) 131)) w.heap.size (zaf p A c):=Blk.new w _ _
  have B0:=zad w (.cells (zaf p A c) 131)
  generalize w.alloc _=W at X0 B0 ⊢
  obtain ⟨g0,hg0⟩:∃ g,g=w.heap.size:=⟨_,rfl⟩
  rw [← hg0] at X0 ⊢
  clear hg0
  have k7:W.cell? ⟨g0,3,none⟩=some (.slice A p.parts.length c):=X0.cell 3
  have HA:=Lib.hid (fun (W':World) (B:Below W.heap.size W W')=>hA.below (zaa B0 B))
  generalize p.parts=l at *
  have HB:=Lib.hid B0
  have HLC:=Lib.hid hlc
  clear X0 hA B0
  go_wp2
  clear k7
  go_loopw [5,11] (fun v iv wr=>∃ (k:Nat) (ss:List (List UInt8)),k≤l.length∧iv=.int .i64 k∧ss.length=(zbP kd (l.take k)).length∧ss.length≤k∧SOut W wr v ss∧Below W.heap.size W wr) (fun _ iv _=>l.length - (intOf iv).toNat)
  case atStart=>exact ⟨0,[],by omega,rfl,rfl,Nat.le_refl _,SOut.nil _ _,Below.refl _ _⟩
  case round=>
    obtain ⟨k,ss,hk,rfl,hsl,hsk,O,BW⟩:=hrel
    have HS:=Lib.hid hsl
    have HSK:=Lib.hid hsk
    clear hsl hsk
    by_cases hlt:k < l.length
    · obtain ⟨b,off,cs',hAe,hb,hIs,hAt⟩:=(HA.out wr BW).get (Below.refl _ _) hlt
      obtain ⟨A2,c2,rfl,hl2,hI2⟩:=hAt.ex
      have HD:=Lib.hid (zk8 kd l hlt)
      clear hAt
      generalize l[k]=a at *
      subst hAe
      have i1:zb3 wr b (off+k * 3):=⟨_,hIs⟩
      have i2:zcs wr b (off+k * 3)=zan a A2 c2:=zbD hIs
      have hlt':(k:Int) < (l.length:Int):=by omega
      have hkc:k < c:=by have:=HLC.out;omega
      go_upto_region 5 with (fail)
      have Z:=Blk.new wr (zan a A2 c2) 183
      have D:=zad wr (.cells (zan a A2 c2) 183)
      have O2:=O.below D
      clear i1 i2 hIs hI2 hb O
      generalize wr.alloc _=W2 at Z D O2 ⊢
      generalize wr.heap.size=g7 at Z ⊢
      have z0:W2.cell? ⟨g7,0,none⟩=some (.int .u8 a.kind):=Z.cell 0
      have z1:W2.cell? ⟨g7,1,none⟩=some (.string ⟨a.name.toArray⟩):=Z.cell 1
      by_cases h0:a.kind=kd
      · have h0':(a.kind == kd)=true:=by simpa using h0
        have HD:=Lib.hid (HD.out.trans (if_pos h0'))
        have O4:=O2.alloc (.cells #[zlG a.name] 9)
        have B4:=zaa (zaa BW D) (zad W2 (.cells #[zlG a.name] 9))
        clear h0 O2 Z
        go_wp2_with (at_builtin;refine zaQ rfl (.tmp 19) (.tmp 22) rfl O4 rfl a.name W2.heap.size 1 rfl (cell_of_row _ _ 0 _ _ _ (heap_alloc_new W2 _)) (by have:=HSK.out;omega) B4.size ?_;intro v5 W5 O5 hg5)
        go_roundw
        case rel=>exact ⟨k+1,ss ++ [a.name],by omega,by go_num,by rw [HD.out];simp [HS.out],by have:=HSK.out;simp;omega,O5,zbz B4 O4 hg5⟩
        case measure=>simp [intOf];omega
      · have h0':(a.kind == kd)=false:=by simpa using h0
        have HD:=Lib.hid (HD.out.trans (if_neg (by simpa using h0)))
        clear h0 Z
        go_wp2
        go_roundw
        case rel=>exact ⟨k+1,ss,by omega,by go_num,by rw [HD.out];exact HS.out,by have:=HSK.out;omega,O2,zaa BW D⟩
        case measure=>simp [intOf];omega
    · have HO:=Lib.hid (show ss.length=(zbP kd l).length by rw [HS.out,List.take_of_length_le (by omega)])
      have hlt':¬ (k:Int) < (l.length:Int):=by omega
      obtain ⟨A3,c3,e3,_,_⟩:=O.form
      subst e3
      have B2:=zaa HB.out BW
      clear hlt O
      go_wp2
      go_ret
      exact ⟨A3,c3,by rw [HO.out];rfl,B2⟩
theorem zqY (x:ProcV) (A:Option Addr) (c:Nat) (a n:List UInt8) (kd:Int) (q1 q2 q3:Nat) (w:World) (h1:w.cell? ⟨q1,0,none⟩=some (.string ⟨a.toArray⟩)) (h2:w.cell? ⟨q2,0,none⟩=some (.int .u8 kd)) (h3:w.cell? ⟨q3,0,none⟩=some (.string ⟨n.toArray⟩)):
    Calls Tryz.prog 168 #[.agg (zaf x A c), .pointer (some ⟨q1,0,none⟩), .pointer (some ⟨q2,0,none⟩), .pointer (some ⟨q3,0,none⟩)] w (Ret w (.bool (x.airport == a && x.kind == kd && x.name == n))):=by
  go_enter Tryz.func168,Tryz.ntmps168
  go_upto_region 1 with (fail)
  have X0:=Blk.new w (zaf x A c) 131
  have B0:=zad w (.cells (zaf x A c) 131)
  have g1:(w.alloc (.cells (zaf x A c) 131)).cell? ⟨q1,0,none⟩=some (.string ⟨a.toArray⟩):=by rw [B0.cell (p:=⟨q1,0,none⟩) (block_lt_of_cell h1)];exact h1
  have g2:(w.alloc (.cells (zaf x A c) 131)).cell? ⟨q2,0,none⟩=some (.int .u8 kd):=by rw [B0.cell (p:=⟨q2,0,none⟩) (block_lt_of_cell h2)];exact h2
  have g3:(w.alloc (.cells (zaf x A c) 131)).cell? ⟨q3,0,none⟩=some (.string ⟨n.toArray⟩):=by rw [B0.cell (p:=⟨q3,0,none⟩) (block_lt_of_cell h3)];exact h3
  generalize w.alloc _=W at X0 B0 g1 g2 g3 ⊢
  obtain ⟨g0,hg0⟩:∃ g,g=w.heap.size:=⟨_,rfl⟩
  rw [← hg0] at X0 ⊢
  clear hg0 h1 h2 h3
  have c0:W.cell? ⟨g0,0,none⟩=some (.string ⟨x.airport.toArray⟩):=X0.cell 0
  have c1:W.cell? ⟨g0,1,none⟩=some (.string ⟨x.name.toArray⟩):=X0.cell 1
  have c2:W.cell? ⟨g0,2,none⟩=some (.int .u8 x.kind):=X0.cell 2
  clear X0
  obtain ⟨t1,ht1⟩:∃ t,(x.airport == a)=t:=⟨_,rfl⟩
  obtain ⟨t2,ht2⟩:∃ t,(x.kind == kd)=t:=⟨_,rfl⟩
  obtain ⟨t3,ht3⟩:∃ t,(x.name == n)=t:=⟨_,rfl⟩
  cases t1 <;> cases t2 <;> cases t3
  all_goals
    go_wp2
    go_ret
    exact Ret.bool (by first | rfl | simp_all) B0
def zik (a:List UInt8) (k:Int) (n:List UInt8):List ProcV→Nat→Int
  | [],_=>-1
  | p :: t,i=>if p.airport == a && p.kind == k && p.name == n then (i:Int) else zik a k n t (i+1)
theorem zjJ (a:List UInt8) (kd:Int) (n:List UInt8):∀ (l:List ProcV) (i:Nat),(zas a kd n l=none∧zik a kd n l i=-1)∨(∃ k f,l[k]? = some f∧zas a kd n l=some f∧zik a kd n l i=((i+k:Nat):Int))
  | [],i=>.inl ⟨rfl,rfl⟩
  | f :: l,i=>by
      by_cases h:(f.airport == a && f.kind == kd && f.name == n)=true
      · exact .inr ⟨0,f,rfl,by simp only [zas,h,if_true],by simp only [zik,h,if_true,Nat.add_zero]⟩
      · have h':(f.airport == a && f.kind == kd && f.name == n)=false:=by simpa using h
        have e1:zas a kd n (f :: l)=zas a kd n l:=by simp only [zas,h',Bool.false_eq_true,if_false]
        have e2:zik a kd n (f :: l) i=zik a kd n l (i+1):=by simp only [zik,h',Bool.false_eq_true,if_false]
        rw [e1,e2]
        rcases zjJ a kd n l (i+1) with ⟨a,b⟩ | ⟨k,g,a,b,c⟩
        · exact .inl ⟨a,b⟩
        · refine .inr ⟨k+1,g,a,b,?_⟩
          rw [c]
          congr 1
          omega
set_option maxHeartbeats 2000000 in
theorem zsF (l:List ProcV) (a n:List UInt8) (kd:Int) (A:Option Addr) (c q1 q2 q3:Nat) (w:World) (hI:PrcsAt w A l) (hlc:l.length≤c) (hn:l.length≤9000000000)
    (h1:w.cell? ⟨q1,0,none⟩=some (.string ⟨a.toArray⟩)) (h2:w.cell? ⟨q2,0,none⟩=some (.int .u8 kd)) (h3:w.cell? ⟨q3,0,none⟩=some (.string ⟨n.toArray⟩)):
    Calls Tryz.prog 167 #[.slice A l.length c, .func (.func 168) #[] #[.pointer (some ⟨q1,0,none⟩), .pointer (some ⟨q2,0,none⟩), .pointer (some ⟨q3,0,none⟩)]] w (Ret w (.int .i64 (zik a kd n l 0))):=by
  have H1:=Lib.hid (fun (W:World) (B:Below w.heap.size w W)=>show W.cell? ⟨q1,0,none⟩=some (.string ⟨a.toArray⟩) by rw [B.cell (p:=⟨q1,0,none⟩) (block_lt_of_cell h1)];exact h1)
  have H2:=Lib.hid (fun (W:World) (B:Below w.heap.size w W)=>show W.cell? ⟨q2,0,none⟩=some (.int .u8 kd) by rw [B.cell (p:=⟨q2,0,none⟩) (block_lt_of_cell h2)];exact h2)
  have H3:=Lib.hid (fun (W:World) (B:Below w.heap.size w W)=>show W.cell? ⟨q3,0,none⟩=some (.string ⟨n.toArray⟩) by rw [B.cell (p:=⟨q3,0,none⟩) (block_lt_of_cell h3)];exact h3)
  clear h1 h2 h3
  have HLC:=Lib.hid hlc
  go_enter Tryz.func167,Tryz.ntmps167
  go_wp2
  go_loopw [5,8] (fun _ i wr=>∃ k:Nat,k≤l.length∧i=.int .i64 k∧zik a kd n l 0=zik a kd n (l.drop k) k∧Below w.heap.size w wr) (fun _ i _=>l.length - (intOf i).toNat)
  case atStart=>exact ⟨0,by omega,rfl,rfl,Below.refl _ _⟩
  case round=>
    obtain ⟨k,hk,rfl,hf,hB⟩:=hrel
    have HF:=Lib.hid hf
    clear hf
    by_cases hlt:k < l.length
    · obtain ⟨b,off,cs',hA,hb,hIs,hAt⟩:=hI.get hB hlt
      obtain ⟨A2,c2,rfl,_,_⟩:=hAt.ex
      have hd:=Lib.hid (List.drop_eq_getElem_cons hlt)
      clear hAt
      generalize l[k]=f at *
      subst hA
      have i1:zaR wr b (off+k * 4):=⟨_,hIs⟩
      have i2:za9 wr b (off+k * 4)=zaf f A2 c2:=zaB hIs
      have hcall:=Lib.hid (zqY f A2 c2 a n kd q1 q2 q3 wr (H1.out wr hB) (H2.out wr hB) (H3.out wr hB))
      have HD:=Lib.hid (show zik a kd n l 0=if f.airport == a && f.kind == kd && f.name == n then (k:Int) else zik a kd n (l.drop (k+1)) (k+1) by rw [HF.out,hd.out];rfl)
      have hkc:k < c:=by have:=HLC.out;omega
      have hlt':(k:Int) < (l.length:Int):=by omega
      clear HF hd hIs hb
      generalize (f.airport == a && f.kind == kd && f.name == n)=t at hcall HD
      cases t with
      | true=>
        go_wp2_with (go_at_call 168;(with_reducible refine zaj hcall.out ?_);intro w1 b1 _ _ _)
        go_ret
        exact Ret.int (HD.out.trans (if_pos trivial)).symm (hB.trans (b1.mono hB.size))
      | false=>
        go_wp2_with (go_at_call 168;(with_reducible refine zaj hcall.out ?_);intro w1 b1 _ _ _)
        go_roundw
        case rel=>exact ⟨k+1,by omega,by go_num,HD.out,hB.trans (b1.mono hB.size)⟩
        case measure=>simp [intOf];omega
    · have hlt':¬ (k:Int) < (l.length:Int):=by omega
      go_wp2
      go_ret
      exact Ret.int (by rw [HF.out,List.drop_of_length_le (by omega)];rfl) hB
end Go.Proofs.YtgoeedohgomodaaGreatDoor
namespace Go.Proofs.YtgoeedohgomodaaGreatDoor
open Go.RowKit Go.Sort
set_option maxRecDepth 100000
theorem Blk.farSet {W:World} {g q:Nat} {cs:Array Value} (h:Blk W g cs) (hne:g ≠ q) (k:Nat) (v:Value):Blk (W.setCell ⟨q,k,none⟩ v) g cs:=by
  obtain ⟨t,h⟩:=h
  exact ⟨t,(Below.heap_setCell _ _ _ _ hne).trans h⟩
theorem zjW (n:Nat):∀ (l:List (Array Value)) (k j:Nat) (u:Value) (x:Array Value),(∀ y ∈ l,y.size=n)→l[k]? = some x→j < n→(cellsIn l).set (k * n+j) u=cellsIn (l.set k (x.setIfInBounds j u))
  | [],k,j,u,x,_,h,_=>by simp at h
  | y :: r,0,j,u,x,hs,h,hj=>by
    obtain rfl:y=x:=by simpa using h
    have hy:y.toList.length=n:=by simpa using hs y (by simp)
    simp only [cellsIn,List.flatMap_cons,List.set_cons_zero,Nat.zero_mul,Nat.zero_add,Array.toList_setIfInBounds]
    rw [List.set_append_left _ _ (by omega)]
  | y :: r,k+1,j,u,x,hs,h,hj=>by
    have ih:=zjW n r k j u x (fun z hz=>hs z (List.mem_cons_of_mem _ hz)) (by simpa using h) hj
    have hy:y.toList.length=n:=by simpa using hs y (by simp)
    simp only [cellsIn,List.flatMap_cons,List.set_cons_succ] at ih ⊢
    have e:(k+1) * n+j - y.toList.length=k * n+j:=by rw [hy,Nat.add_mul,Nat.one_mul];omega
    rw [List.set_append_right _ _ (by rw [hy,Nat.add_mul,Nat.one_mul];omega),e,ih]
theorem GOut.setAt {B:Nat} {W:World} {t:TypeId} {n m q c:Nat} {l:List (Array Value)} (h:GOut B W t n (.slice (some ⟨q,0,none⟩) m c) l) (hm:l.length=m) (hl:∀ y ∈ l,y.size=n) {k j:Nat} {x:Array Value} (hk:l[k]? = some x) (hj:j < n) (u:Value):
    GOut B (W.setCell ⟨q,k * n+j,none⟩ u) t n (.slice (some ⟨q,0,none⟩) m c) (l.set k (x.setIfInBounds j u)):=by
  subst hm
  have:=(World.ownsRow.stored h (k * n+j) u).1
  unfold GOut
  rw [← zjW n l k j u x hl hk hj,List.length_set]
  exact this
structure PrtIn (W:World) (P:Nat→Prop) (cs:Array Value) (x:PartV):Prop where
  ex:∃ A c,cs=zan x A c∧x.legs.length≤c∧Items W A 13 (x.legs.map Leg.arr)∧(x.legs ≠ []→∀ q,A=some q→P q.block∧q.block < W.heap.size)
theorem PrtIn.at_ {W:World} {P:Nat→Prop} {cs:Array Value} {x:PartV} (h:PrtIn W P cs x):PrtAt W cs x:=by
  obtain ⟨A,c,h1,h2,h3,_⟩:=h.ex
  exact ⟨⟨A,c,h1,h2,h3⟩⟩
theorem PrtIn.keep {W W':World} {P Q:Nat→Prop} {cs:Array Value} {x:PartV} (h:PrtIn W P cs x) (hk:∀ b,P b→b < W.heap.size→W'.heap[b]? = W.heap[b]? ∧ Q b) (hs:W.heap.size≤W'.heap.size):PrtIn W' Q cs x:=by
  obtain ⟨A,c,h1,h2,h3,h4⟩:=h.ex
  refine ⟨⟨A,c,h1,h2,h3.keepN (fun hne q hq hb=>(hk _ (h4 (by rintro e;rw [e] at hne;exact hne rfl) q hq).1 hb).1) hs,fun hne q hq=>?_⟩⟩
  have:=h4 hne q hq
  exact ⟨(hk _ this.1 this.2).2,Nat.lt_of_lt_of_le this.2 hs⟩
theorem PrtAt.in_ {W:World} {cs:Array Value} {x:PartV} (h:PrtAt W cs x):PrtIn W (fun b=>b < W.heap.size) cs x:=by
  obtain ⟨A,c,h1,h2,h3⟩:=h.ex
  refine ⟨⟨A,c,h1,h2,h3,fun hne q hq=>?_⟩⟩
  obtain ⟨b,off,e,hb,_⟩:=h3.at_ (by simpa using hne)
  rw [e] at hq
  obtain rfl:(⟨b,off,none⟩:Addr)=q:=by simpa using hq
  exact ⟨hb,hb⟩
structure PrcFar (W:World) (B:Nat) (cs:Array Value) (p:ProcV):Prop where
  ex:∃ A c css,cs=zaf p A c∧p.parts.length≤c∧css.length=p.parts.length∧Items W A 3 css∧(p.parts ≠ []→∀ q,A=some q→B≤q.block)∧∀ (i:Nat) (cs:Array Value) (x:PartV),css[i]? = some cs→p.parts[i]? = some x→PrtIn W (fun b=>B≤b) cs x
theorem PrcFar.at_ {W:World} {B:Nat} {cs:Array Value} {p:ProcV} (h:PrcFar W B cs p):PrcAt W cs p:=by
  obtain ⟨A,c,css,h1,h2,h3,h4,_,h6⟩:=h.ex
  exact ⟨⟨A,c,h1,h2,⟨css,h3,h4,fun i cs x a b=>(h6 i cs x a b).at_⟩⟩⟩
theorem PrcFar.keep {W W':World} {B:Nat} {cs:Array Value} {p:ProcV} (h:PrcFar W B cs p) (hk:∀ b,B≤b→b < W.heap.size→W'.heap[b]? = W.heap[b]?) (hs:W.heap.size≤W'.heap.size):PrcFar W' B cs p:=by
  obtain ⟨A,c,css,h1,h2,h3,h4,h5,h6⟩:=h.ex
  refine ⟨⟨A,c,css,h1,h2,h3,h4.keepN (fun hne q hq hb=>hk _ (h5 (by rintro e;rw [e] at h3;exact hne (List.eq_nil_of_length_eq_zero h3)) q hq) hb) hs,h5,fun i cs x a b=>(h6 i cs x a b).keep (fun b hb hlt=>⟨hk b hb hlt,hb⟩) hs⟩⟩
theorem PrcFar.mono {W:World} {B B':Nat} {cs:Array Value} {p:ProcV} (h:PrcFar W B cs p) (hB:B'≤B):PrcFar W B' cs p:=by
  obtain ⟨A,c,css,h1,h2,h3,h4,h5,h6⟩:=h.ex
  exact ⟨⟨A,c,css,h1,h2,h3,h4,fun a b d=>Nat.le_trans hB (h5 a b d),fun i cs x a b=>(h6 i cs x a b).keep (fun b hb hlt=>⟨rfl,Nat.le_trans hB hb⟩) (Nat.le_refl _)⟩⟩
theorem PrcFar.no (w:World) (B:Nat):PrcFar w B (zaf zaA none 0) zaA:=⟨⟨none,0,[],rfl,Nat.le_refl _,rfl,Items.nil _ _ _,fun h=>absurd rfl h,fun i cs x h=>by simp at h⟩⟩
structure RowAt (B k:Nat) (bad:Nat→Prop) (W:World) (q m c:Nat) (l:List PartV) (b0:Nat):Prop where
  ex:∃ css,css.length=l.length∧GOut B W 183 3 (.slice (some ⟨q,0,none⟩) m c) css∧∀ (i:Nat) (cs:Array Value) (x:PartV),css[i]? = some cs→l[i]? = some x→PrtIn W (fun b=>¬ bad b∧(i < k→b0≤b)) cs x
theorem zfo {W:World} {P:Nat→Nat→Prop} {css:List (Array Value)} {l:List PartV} (h0:css.length=l.length) (h:∀ (i:Nat) (cs:Array Value) (x:PartV),css[i]? = some cs→l[i]? = some x→PrtIn W (P i) cs x):∀ y ∈ css,y.size=3:=by
  intro y hy
  obtain ⟨i,hi,rfl⟩:=List.mem_iff_getElem.1 hy
  obtain ⟨A,c,e,_⟩:=(h i _ _ (List.getElem?_eq_getElem hi) (List.getElem?_eq_getElem (by omega))).ex
  rw [e];rfl
theorem znw {W:World} {P:Nat→Nat→Prop} {css:List (Array Value)} {l:List PartV} (h0:css.length=l.length) (h:∀ (i:Nat) (cs:Array Value) (x:PartV),css[i]? = some cs→l[i]? = some x→PrtIn W (P i) cs x):∀ y ∈ css,y.toList.all (·.oneCell')=true:=by
  intro y hy
  obtain ⟨i,hi,rfl⟩:=List.mem_iff_getElem.1 hy
  obtain ⟨A,c,e,_⟩:=(h i _ _ (List.getElem?_eq_getElem hi) (List.getElem?_eq_getElem (by omega))).ex
  rw [e];exact zbr _ _ _
theorem RowAt.get {B k:Nat} {bad:Nat→Prop} {W:World} {q m c b0:Nat} {l:List PartV} (h:RowAt B k bad W q m c l b0) (hm:l.length=m) {i:Nat} (hi:i < m):
    ∃ A d,B≤q∧q < W.heap.size∧m≤c∧(∀ j,j < 3→W.cell? ⟨q,i * 3+j,none⟩=(zan (l[i]'(by omega)) A d)[j]?)∧W.frozen? ⟨q,i * 3+2,none⟩=false∧(l[i]'(by omega)).legs.length≤d∧Items W A 13 ((l[i]'(by omega)).legs.map Leg.arr):=by
  obtain ⟨css,h1,O,h2⟩:=h.ex
  have hic:i < css.length:=by omega
  obtain ⟨A,d,e,h3,h4,_⟩:=(h2 i _ _ (List.getElem?_eq_getElem hic) (List.getElem?_eq_getElem (by omega))).ex
  have hs:=zfo h1 h2
  obtain ⟨A',c',e',h5,h6,h7,_⟩:=O.form hs
  rw [h1,hm] at e'
  injection e' with e1 _ e3
  subst e1 e3
  obtain ⟨b,off,e2,hb,hc⟩:=h6.get hic
  injection e2 with e2
  injection e2 with e2 e4 _
  subst e2 e4
  refine ⟨A,d,h7 _ rfl,hb,by omega,fun j hj=>?_,?_,h3,h4⟩
  · have:=hc j hj
    rw [Nat.zero_add,e] at this
    exact this
  · have hcm:m=css.length:=by omega
    subst hcm
    exact World.ownsRow.frozenAt O _
theorem RowAt.below {B k:Nat} {bad:Nat→Prop} {W W':World} {q m c b0:Nat} {l:List PartV} (h:RowAt B k bad W q m c l b0) (hb:Below W.heap.size W W'):RowAt B k bad W' q m c l b0:=by
  obtain ⟨css,h1,O,h2⟩:=h.ex
  exact ⟨⟨css,h1,O.step hb,fun i cs x a b=>(h2 i cs x a b).keep (fun b hp hlt=>⟨hb.block b hlt,hp⟩) hb.size⟩⟩
theorem RowAt.start {B:Nat} {bad:Nat→Prop} {W:World} {q m c b0:Nat} {l:List PartV} {css:List (Array Value)} (h1:css.length=l.length) (O:GOut B W 183 3 (.slice (some ⟨q,0,none⟩) m c) css)
    (h2:∀ (i:Nat) (cs:Array Value) (x:PartV),css[i]? = some cs→l[i]? = some x→PrtIn W (fun b=>¬ bad b) cs x):RowAt B 0 bad W q m c l b0:=
  ⟨⟨css,h1,O,fun i cs x a b=>(h2 i cs x a b).keep (fun b hp hlt=>⟨rfl,hp,fun h=>by omega⟩) (Nat.le_refl _)⟩⟩
theorem RowAt.step {B k:Nat} {bad:Nat→Prop} {W:World} {q m c b0:Nat} {l:List PartV} (h:RowAt B k bad W q m c l b0) (hm:l.length=m) (hk:k < m) (hq:bad q) {A5:Option Addr} {c5:Nat} {x:PartV} (hx:l[k]? = some x)
    (h5:x.legs.length≤c5) (hI:Items W A5 13 (x.legs.map Leg.arr)) (hA:x.legs ≠ []→∀ a,A5=some a→¬ bad a.block∧b0≤a.block∧a.block < W.heap.size):
    RowAt B (k+1) bad (W.setCell ⟨q,k * 3+2,none⟩ (.slice A5 x.legs.length c5)) q m c l b0:=by
  obtain ⟨css,h1,O,h2⟩:=h.ex
  have hkc:k < css.length:=by omega
  obtain ⟨A,d,e,_⟩:=(h2 k _ _ (List.getElem?_eq_getElem hkc) hx).ex
  have hs:=zfo h1 h2
  have O2:=O.setAt (by omega) hs (List.getElem?_eq_getElem hkc) (show 2 < 3 by omega) (.slice A5 x.legs.length c5)
  have e2:(css[k]).setIfInBounds 2 (.slice A5 x.legs.length c5)=zan x A5 c5:=by rw [e];rfl
  rw [e2] at O2
  have hkeep:∀ b,b ≠ q→(W.setCell ⟨q,k * 3+2,none⟩ (.slice A5 x.legs.length c5)).heap[b]? = W.heap[b]?:=fun b hb=>Below.heap_setCell _ _ _ _ hb
  have hsz:W.heap.size≤(W.setCell ⟨q,k * 3+2,none⟩ (.slice A5 x.legs.length c5)).heap.size:=by simp [World.setCell]
  refine ⟨⟨_,by rw [List.length_set];exact h1,O2,fun i cs y hi hy=>?_⟩⟩
  rw [List.getElem?_set] at hi
  by_cases hik:k=i
  · subst hik
    rw [if_pos rfl,if_pos hkc] at hi
    obtain rfl:zan x A5 c5=cs:=by simpa using hi
    obtain rfl:x=y:=by rw [hx] at hy;simpa using hy
    refine ⟨⟨A5,c5,rfl,h5,hI.keepN (fun hne a ha _=>hkeep _ (fun h=>((hA (by rintro e;rw [e] at hne;exact hne rfl) a ha).1) (by rw [h];exact hq))) hsz,fun hne a ha=>?_⟩⟩
    have:=hA hne a ha
    exact ⟨⟨this.1,fun _=>this.2.1⟩,Nat.lt_of_lt_of_le this.2.2 hsz⟩
  · rw [if_neg hik] at hi
    exact (h2 i cs y hi hy).keep (fun b hp hlt=>⟨hkeep b (fun h=>hp.1 (by rw [h];exact hq)),hp.1,fun h=>hp.2 (by omega)⟩) hsz
theorem RowAt.done {B:Nat} {bad:Nat→Prop} {W:World} {q m c b0:Nat} {p:ProcV} (h:RowAt B m bad W q m c p.parts b0) (hm:p.parts.length=m) (hB:b0≤B):PrcFar W b0 (zaf p (some ⟨q,0,none⟩) c) p:=by
  obtain ⟨css,h1,O,h2⟩:=h.ex
  have hs:=zfo h1 h2
  obtain ⟨A',c',e',h5,h6,h7,_⟩:=O.form hs
  injection e' with e1 _ e3
  subst e1 e3
  refine ⟨⟨_,_,css,rfl,by omega,h1,h6,fun _ a ha=>Nat.le_trans hB (h7 a ha),fun i cs x a b=>?_⟩⟩
  have hi:i < m:=by have:=(List.getElem?_eq_some_iff.1 b).1;omega
  exact (h2 i cs x a b).keep (fun b hp hlt=>⟨rfl,hp.2 hi⟩) (Nat.le_refl _)
def zul (w:World) (r:Option ProcV) (e:Ending) (w':World):Prop:=∃ cs,e=.returned (.tuple #[.agg cs, .bool r.isSome])∧PrcFar w' w.heap.size cs (r.getD zaA)∧Below w.heap.size w w'
theorem zqe {P:Program} {f:FuncId} {args:Array Value} {W:World} {r:Option ProcV} {K:Ending→World→Prop} (h:Calls P f args W (zul W r))
    (k:∀ cs w',PrcFar w' W.heap.size cs (r.getD zaA)→Below W.heap.size W w'→K (.returned (.tuple #[.agg cs, .bool r.isSome])) w'):Calls P f args W K:=
  h.mono fun e w' ⟨cs,he,h1,h2⟩=>by subst he;exact k cs w' h1 h2
def zuk (w:World) (r:ProcV × Int) (e:Ending) (w':World):Prop:=∃ cs,e=.returned (.tuple #[.agg cs, .int .i64 r.2])∧PrcFar w' w.heap.size cs r.1∧Below w.heap.size w w'
theorem zqd {P:Program} {f:FuncId} {args:Array Value} {W:World} {r:ProcV × Int} {K:Ending→World→Prop} (h:Calls P f args W (zuk W r))
    (k:∀ cs w',PrcFar w' W.heap.size cs r.1→Below W.heap.size W w'→K (.returned (.tuple #[.agg cs, .int .i64 r.2])) w'):Calls P f args W K:=
  h.mono fun e w' ⟨cs,he,h1,h2⟩=>by subst he;exact k cs w' h1 h2
theorem zd5 (a:ProcV) (A:Option Addr) (c:Nat):zdg (zaf a A c) 4:=rfl
theorem zc3 (a:ProcV) (A:Option Addr) (c o n:Nat):Fits o n (zaf a A c)=(o+n≤4):=propext ⟨fun h=>h,fun h=>h⟩
theorem zck (a b:ProcV) (A B:Option Addr) (c d:Nat):splice (zaf a A c) 0 (zaf b B d)=zaf b B d:=rfl
def zxI (parts:Array (Nat × Value)):Sem Value:=Instr.build 131 parts
theorem zdA (parts:Array (Nat × Value)):Instr.build 131 parts=zxI parts:=rfl
theorem zd2 (w:World):(zxI #[]).run Tryz.prog w=.ok (.agg (zaf zaA none 0)) w:=run_build w _ _ _ (by kernel_rfl)
attribute [local go_sem ↓] zdA
attribute [local go_sem] zd2 zc2 zd5 zc3 zck
set_option maxHeartbeats 8000000 in
theorem zsG (l:List ProcV) (a n:List UInt8) (kd:Int) (A:Option Addr) (c:Nat) (w:World) (hI:PrcsAt w A l) (hlc:l.length≤c) (hn:l.length≤9000000000) (hs:∀ p ∈ l,p.small):
    Calls Tryz.prog 123 #[.slice A l.length c, .string ⟨a.toArray⟩, .int .u8 kd, .string ⟨n.toArray⟩] w (zul w (zas a kd n l)):=by
  go_enter Tryz.func123,Tryz.ntmps123
  go_upto_region 1 with (fail)
  generalize hW:(((w.alloc _).alloc _).alloc _).alloc _=W
  have Q1:Blk W w.heap.size #[.string ⟨a.toArray⟩]:=by rw [← hW];exact (((Blk.new w _ _).alloc _).alloc _).alloc _
  have Q2:Blk W (w.heap.size+1) #[.int .u8 kd]:=by rw [← hW,← World.size_alloc w (.cells #[.string ⟨a.toArray⟩] 9)];exact ((Blk.new _ _ _).alloc _).alloc _
  have Q3:Blk W (w.heap.size+1+1) #[.string ⟨n.toArray⟩]:=by rw [← hW,← World.size_alloc w (.cells #[.string ⟨a.toArray⟩] 9),← World.size_alloc (w.alloc (.cells #[.string ⟨a.toArray⟩] 9)) (.cells #[.int .u8 kd] 124)];exact (Blk.new _ _ _).alloc _
  have R0:Blk W (w.heap.size+1+1+1) (zaf zaA none 0):=by rw [← hW,← World.size_alloc w (.cells #[.string ⟨a.toArray⟩] 9),← World.size_alloc (w.alloc (.cells #[.string ⟨a.toArray⟩] 9)) (.cells #[.int .u8 kd] 124),← World.size_alloc ((w.alloc (.cells #[.string ⟨a.toArray⟩] 9)).alloc (.cells #[.int .u8 kd] 124)) (.cells #[.string ⟨n.toArray⟩] 9)];exact Blk.new _ _ _
  have B0:Below w.heap.size w W:=by rw [← hW];go_grown
  clear hW
  obtain ⟨g8,hg8⟩:∃ g,g=w.heap.size+1+1+1:=⟨_,rfl⟩
  rw [← hg8] at R0 ⊢
  have hge:w.heap.size≤g8:=by omega
  clear hg8
  have hcall:=Lib.hid (zsF l a n kd A c _ _ _ W (hI.below B0) hlc hn (Q1.cell 0) (Q2.cell 0) (Q3.cell 0))
  have HR:=Lib.hid R0
  have HLC:=Lib.hid hlc
  generalize w.heap.size+1+1=q3 at *
  generalize w.heap.size+1=q2 at *
  obtain ⟨q1,hq1⟩:∃ g,g=w.heap.size:=⟨_,rfl⟩
  rw [← hq1] at hcall ⊢
  clear hq1 Q1 Q2 Q3 R0
  rcases zjJ a kd n l 0 with ⟨h1,h2⟩ | ⟨k,f,h1,h2,h3⟩
  · rw [h2] at hcall
    have HO:=Lib.hid h1
    clear h1 h2
    go_upto_region 3 with (go_at_call 167;(with_reducible refine zaj hcall.out ?_);intro w2 b2 _ _ _)
    have Y2:=HR.out.step b2
    have B2:=zaa B0 b2
    have d2:=Y2.plain
    have d3:=Y2.of
    go_wp2
    exact bodyPost_ret (zal Tryz.results123 _ _ g8 (zaf zaA none 0) 4 _ rfl rfl (Y2.set _).cell Tryz.underlying131 rfl zdm) rfl ⟨_,by rw [HO.out];rfl,by rw [HO.out];exact PrcFar.no _ _,zab B2 hge _⟩
  · rw [h3,Nat.zero_add] at hcall
    have HO:=Lib.hid h2
    have hk:k < l.length:=by
      rcases Nat.lt_or_ge k l.length with h | h
      · exact h
      · rw [List.getElem?_eq_none h] at h1;cases h1
    have hf:l[k]=f:=by rw [List.getElem?_eq_getElem hk] at h1;exact Option.some.inj h1
    have hsm:=hs _ (List.getElem_mem hk)
    rw [hf] at hsm
    have hkc:k < c:=by omega
    have hlt':(k:Int) < (l.length:Int):=by omega
    obtain ⟨b,off,cs',hA,hb,hIs,hAt⟩:=hI.get (Below.refl _ _) hk
    subst hA
    obtain ⟨A2,c2,rfl,hl2,hP2⟩:=(hf ▸ hAt).ex
    have hgw:g8 < W.heap.size:=HR.out.lt
    have HX:=Lib.hid (fun (W':World) (B:Below W.heap.size W W')=>show zj2 W' b (off+k * 4) (zaf f A2 c2) from ⟨rfl,fun j hj=>by rw [(zaa B0 B).cell (p:=⟨b,_,none⟩) hb];exact hIs.2 j hj⟩)
    clear h1 h2 h3 hf hIs hAt hI
    go_upto_region 4 with (go_at_call 167;(with_reducible refine zaj hcall.out ?_);intro w2 b2 _ _ _)
    have i1:zaR w2 b (off+k * 4):=⟨_,HX.out w2 b2⟩
    have i2:za9 w2 b (off+k * 4)=zaf f A2 c2:=zaB (HX.out w2 b2)
    go_upto_region 5 with (fail)
    have hP3:=Lib.hid (fun (W':World) (B:Below w.heap.size w W')=>hP2.below B)
    obtain ⟨css,hcl,hIt,hPr⟩:=hP2.ex
    have Z:=Blk.new w2 (zaf f A2 c2) 131
    have D:=zaa (zaa B0 b2) (zad w2 (.cells (zaf f A2 c2) 131))
    have R2:=(HR.out.step b2).alloc (.cells (zaf f A2 c2) 131)
    have hg2:W.heap.size≤w2.heap.size:=b2.size
    clear i1 i2 HX
    generalize w2.alloc _=W3 at Z D R2 ⊢
    obtain ⟨g11,hg11⟩:∃ g,g=w2.heap.size:=⟨_,rfl⟩
    rw [← hg11] at Z ⊢
    have h8:g8 < g11:=by omega
    clear hg11 b2 hg2 hgw
    have hg11lt:=Z.lt
    obtain ⟨m,hm⟩:∃ m,m=f.parts.length:=⟨_,rfl⟩
    have z3:W3.cell? ⟨g11,3,none⟩=some (.slice A2 m c2):=by rw [hm];exact Z.cell 3
    have hPr':=fun (i:Nat) (cs:Array Value) (x:PartV) (a:css[i]? = some cs) (b:f.parts[i]? = some x)=>(hPr i cs x a b).in_
    have kc:=Lib.hid (zn4 css A2 m c2 W3 (hIt.below D) (by omega) (by have:=hsm.len;omega) (zfo (P:=fun _ b=>b < w.heap.size) hcl hPr') (znw (P:=fun _ b=>b < w.heap.size) hcl hPr'))
    have HSM:=Lib.hid hsm
    have HM:=Lib.hid hm
    have HCL:=Lib.hid hcl
    clear hsm hl2 hPr hIt hP2 hcl hm
    by_cases hp0:m=0
    · have HP0:=Lib.hid hp0
      have hz:=Lib.hid z3
      clear z3
      rw [hp0] at kc hz
      subst hp0
      have z3:=hz.out
      go_upto_region 6 with (go_at_call 124;(with_reducible refine ze9 kc.out ?_);intro A3 c3 w4 O4 b4;have Z4:=Z.step b4;have f1:=Z4.frozen 3;have f2:w4.cell? ⟨g11,3,none⟩=some (.slice A2 0 c2):=(show w4.cell? ⟨g11,3,none⟩=some (.slice A2 f.parts.length c2) from Z4.cell 3).trans (by rw [HM.out]))
      have hnil:f.parts=[]:=List.eq_nil_of_length_eq_zero HM.out.symm
      have Z5:Blk (w4.setCell ⟨g11,3,none⟩ (.slice A3 0 c3)) g11 (zaf f A3 c3):=by
        have:=Z4.setCell 3 (.slice A3 0 c3)
        have e:(zaf f A2 c2).setIfInBounds 3 (.slice A3 0 c3)=zaf f A3 c3:=by simp [zaf,hnil]
        rwa [e] at this
      have R5:=(R2.step b4).farSet (Nat.ne_of_lt h8) 3 (.slice A3 0 c3)
      have B5:=zat (zaa D b4) (Nat.le_of_lt (Nat.lt_of_le_of_lt hge h8)) 3 (.slice A3 0 c3)
      clear f1 f2 z3 Z4 O4 kc
      generalize w4.setCell _ _=w5 at *
      have z3:w5.cell? ⟨g11,3,none⟩=some (.slice A3 0 c3):=by have:=Z5.cell 3;rw [this];show some (Value.slice A3 f.parts.length c3)=_;rw [← HM.out]
      go_wp2
      go_loopw [30] (fun iv wr=>iv=.int .i64 0∧wr=w5) (fun _ _=>0)
      case atStart=>exact ⟨rfl,rfl⟩
      case round=>
        obtain ⟨rfl,rfl⟩:=hrel
        have i1:zaR wr g11 0:=⟨_,Z5.is_prc rfl⟩
        have i2:za9 wr g11 0=zaf f A3 c3:=zaB (Z5.is_prc rfl)
        have d2:=R5.plain
        have d3:=R5.of
        go_wp2
        exact bodyPost_ret (zal Tryz.results123 _ _ g8 (zaf f A3 c3) 4 _ rfl rfl (R5.set _).cell Tryz.underlying131 rfl zdm) rfl ⟨_,by rw [HO.out];rfl,by rw [HO.out];exact ⟨⟨A3,c3,[],rfl,by show f.parts.length≤c3;rw [hnil];exact Nat.zero_le _,by show 0=f.parts.length;rw [hnil];rfl,Items.nil _ _ _,fun h=>absurd hnil h,fun i cs x h=>by simp at h⟩⟩,zab B5 hge _⟩
    · go_upto_region 6 with (go_at_call 124;(with_reducible refine ze9 kc.out ?_);intro A3 c3 w4 O4 b4;have Z4:=Z.step b4;have f1:=Z4.frozen 3;have f2:w4.cell? ⟨g11,3,none⟩=some (.slice A2 m c2):=(show w4.cell? ⟨g11,3,none⟩=some (.slice A2 f.parts.length c2) from Z4.cell 3).trans (by rw [HM.out]))
      obtain ⟨q,hA3,hq3,hq4⟩:∃ q,A3=some ⟨q,0,none⟩∧W3.heap.size≤q∧q < w4.heap.size:=by
        rcases O4.2 with ⟨e,h0⟩ | ⟨q,cap,cur,e,hq,hbk,_⟩
        · exact absurd (show m=0 by have:=HCL.out;have:=HM.out;omega) hp0
        · injection e with e _ _
          refine ⟨q,e,hq,?_⟩
          rcases Nat.lt_or_ge q w4.heap.size with h | h
          · exact h
          · rw [Array.getElem?_eq_none h] at hbk;cases hbk
      subst hA3
      have hWc:Below W3.heap.size W3 (w4.setCell ⟨g11,3,none⟩ (.slice (some ⟨q,0,none⟩) m c3))∨True:=.inr trivial
      have Z5:Blk (w4.setCell ⟨g11,3,none⟩ (.slice (some ⟨q,0,none⟩) m c3)) g11 (zaf f (some ⟨q,0,none⟩) c3):=by
        have:=Z4.setCell 3 (.slice (some ⟨q,0,none⟩) m c3)
        have e:(zaf f A2 c2).setIfInBounds 3 (.slice (some ⟨q,0,none⟩) m c3)=zaf f (some ⟨q,0,none⟩) c3:=by rw [HM.out];rfl
        rwa [e] at this
      have R5:=(R2.step b4).farSet (Nat.ne_of_lt h8) 3 (.slice (some ⟨q,0,none⟩) m c3)
      have B5:=zat (zaa D b4) (Nat.le_of_lt (Nat.lt_of_le_of_lt hge h8)) 3 (.slice (some ⟨q,0,none⟩) m c3)
      have O5:=O4.below (W':=w4.setCell ⟨g11,3,none⟩ (.slice (some ⟨q,0,none⟩) m c3)) (fun k hk _=>Below.heap_setCell _ _ _ _ (by show k ≠ g11;omega))
      obtain ⟨bad,hbad⟩:∃ bad:Nat→Prop,bad=fun b=>b=g8∨b=g11∨b=q:=⟨_,rfl⟩
      have hbadq:bad q:=by rw [hbad];exact .inr (.inr rfl)
      have Row5:RowAt W3.heap.size 0 bad (w4.setCell ⟨g11,3,none⟩ (.slice (some ⟨q,0,none⟩) m c3)) q m c3 f.parts W3.heap.size:=
        RowAt.start HCL.out O5 fun i cs x a b=>(hPr' i cs x a b).keep (fun b hb _=>⟨B5.block b hb,by rw [hbad];rintro (h | h | h) <;> omega⟩) B5.size
      clear f1 f2 z3 Z4 O4 kc O5 hWc hPr' hP3
      have hB0:w.heap.size≤W3.heap.size:=D.size
      generalize w4.setCell _ _=w5 at *
      have z3:w5.cell? ⟨g11,3,none⟩=some (.slice (some ⟨q,0,none⟩) m c3):=by have:=Z5.cell 3;rw [this];show some (Value.slice _ f.parts.length c3)=_;rw [← HM.out]
      go_wp2
      clear z3
      go_loopw [30] (fun iv wr=>∃ k:Nat,k≤m∧iv=.int .i64 k∧Blk wr g11 (zaf f (some ⟨q,0,none⟩) c3)∧Blk wr g8 (zaf zaA none 0)∧RowAt W3.heap.size k bad wr q m c3 f.parts W3.heap.size∧Below w.heap.size w wr) (fun iv _=>m - (intOf iv).toNat)
      case atStart=>exact ⟨0,by omega,rfl,Z5,R5,Row5,B5⟩
      case round=>
        obtain ⟨k2,hk2,rfl,Z6,R6,Row6,B6⟩:=hrel
        by_cases hlt:k2 < m
        · have hk3:k2 < f.parts.length:=by rw [← HM.out];exact hlt
          obtain ⟨A4,d4,hBq,hqlt,hmc,hc3,hfr,hl4,hI4⟩:=Row6.get HM.out.symm hlt
          have hx:=List.getElem?_eq_getElem hk3
          have hxs:=HSM.out.each _ (List.getElem_mem hk3)
          generalize f.parts[k2]=x at *
          have hm4:m≤4000000:=by have:=HSM.out.len;have:=HM.out;omega
          have hlt':(k2:Int) < (m:Int):=by omega
          have hkc:k2 < c3:=by omega
          have e1:wr.cell? ⟨g11,3,none⟩=some (.slice (some ⟨q,0,none⟩) m c3):=by have:=Z6.cell 3;rw [this];show some (Value.slice _ f.parts.length c3)=_;rw [← HM.out]
          have e2:wr.cell? ⟨q,k2 * 3+2,none⟩=some (.slice A4 x.legs.length d4):=hc3 2 (by omega)
          have kl:=Lib.hid (fun (W':World) (B:Below wr.heap.size wr W')=>zhi (x.legs.map Leg.arr) A4 x.legs.length d4 W' (hI4.below B) (by simp) (by have:=hxs.len;omega) (zbZ _) (zdU _))
          have HE:=Lib.hid (fun (W':World) (B:Below wr.heap.size wr W')=>show W'.cell? ⟨g11,3,none⟩=some (.slice (some ⟨q,0,none⟩) m c3)∧W'.cell? ⟨q,k2 * 3+2,none⟩=some (.slice A4 x.legs.length d4) from ⟨by rw [B.cell (p:=⟨g11,3,none⟩) Z6.lt];exact e1,by rw [B.cell (p:=⟨q,_,none⟩) hqlt];exact e2⟩)
          have HFR:=Lib.hid (fun (W':World) (B:Below wr.heap.size wr W')=>show W'.frozen? ⟨q,k2 * 3+2,none⟩=false from by rw [B.frozen (p:=⟨q,_,none⟩) hqlt];exact hfr)
          have HX:=Lib.hid hx
          have HZ:=Lib.hid Z6
          have HRR:=Lib.hid R6
          have HRO:=Lib.hid Row6
          have e2d:wr.drew.cell? ⟨q,k2 * 3+2,none⟩=some (.slice A4 x.legs.length d4):=e2
          have hgq:g11 ≠ q:=by omega
          have h8q:g8 ≠ q:=by omega
          have hg8l:=R6.lt
          have hg11l:=Z6.lt
          clear hc3 hI4 hx Z6 R6 Row6 hfr e1
          go_upto_region 9 with (fail)
          have e1:=(HE.out wr (Below.refl _ _)).1
          have e1d:wr.drew.cell? ⟨g11,3,none⟩=some (.slice (some ⟨q,0,none⟩) m c3):=e1
          go_region_with (go_at_call 125;(with_reducible refine ze9 (kl.out _ (by first | exact Below.refl _ _ | exact (Below.refl _ _).drew)) ?_);intro A5 c5 w7 O7 b7;have B7:Below wr.heap.size wr w7:=(by first | exact b7 | exact zaa (Below.refl _ _).drew b7);have f1:=HFR.out w7 B7;have f2:=(HE.out w7 B7).2;have f3:=(HE.out w7 B7).1)
          all_goals
            go_wp2
            obtain ⟨A6,c6,e6,hl6,hI6,hA6,_⟩:=O7.form (zbZ _)
            injection e6 with e6 _ e7
            subst e6 e7
            rw [List.length_map] at hl6
            have hbl:wr.heap.size≤(World.heap wr.drew).size:=Nat.le_refl _
            have hAA:x.legs ≠ []→∀ a,A5=some a→¬ bad a.block∧W3.heap.size≤a.block∧a.block < w7.heap.size:=fun hne a ha=>by
              have h1:wr.heap.size≤a.block:=hA6 a ha
              obtain ⟨b9,o9,e9,hb9,_⟩:=hI6.at_ (by simpa using hne)
              rw [e9] at ha
              obtain rfl:(⟨b9,o9,none⟩:Addr)=a:=by simpa using ha
              have h1:wr.heap.size≤b9:=h1
              exact ⟨by rw [hbad];show ¬ (b9=g8∨b9=g11∨b9=q);omega,by show W3.heap.size≤b9;omega,hb9⟩
            go_roundw
            case rel=>exact ⟨k2+1,by omega,by go_num,(HZ.out.step B7).farSet hgq _ _,(HRR.out.step B7).farSet h8q _ _,(HRO.out.below B7).step HM.out.symm hlt hbadq HX.out hl6 hI6 hAA,zat (zaa B6 B7) (by omega) _ _⟩
            case measure=>simp [intOf];omega
        · have hlt':¬ (k2:Int) < (m:Int):=by omega
          obtain rfl:k2=m:=by omega
          have F6:=Row6.done HM.out.symm (Nat.le_refl _)
          have i1:zaR wr g11 0:=⟨_,Z6.is_prc rfl⟩
          have i2:za9 wr g11 0=zaf f (some ⟨q,0,none⟩) c3:=zaB (Z6.is_prc rfl)
          have d2:=R6.plain
          have d3:=R6.of
          have hg8:g8 < W3.heap.size:=by omega
          clear Row6
          go_wp2
          exact bodyPost_ret (zal Tryz.results123 _ _ g8 (zaf f (some ⟨q,0,none⟩) c3) 4 _ rfl rfl (R6.set _).cell Tryz.underlying131 rfl zdm) rfl ⟨_,by rw [HO.out];rfl,by rw [HO.out];exact (F6.keep (fun b hb _=>setRow_other _ _ _ _ (by omega)) (by simp [World.setRow])).mono hB0,zab B6 hge _⟩
end Go.Proofs.YtgoeedohgomodaaGreatDoor
namespace Go.Proofs.YtgoeedohgomodaaGreatDoor
open Go.RowKit Go.Sort
set_option maxRecDepth 100000
def zgp (l:List PartV):Nat→Option PartV
  | 0=>none
  | k+1=>l[k]?
def zkv (pk:Int) (pv:Option PartV) (x:PartV):Int:=match pv with | none=>0 | some y=>zqZ pk y x
theorem zit (pk:Int) (pv:Option PartV) (x:PartV):zg5 pk pv x=if zee pk x.kind < 0 then 17 else orE (zkv pk pv x) (orE (zhN x) (zer pk x.kind none x.legs)):=by cases pv <;> rfl
def zhW (l:List Leg):Nat→Option Leg
  | 0=>none
  | k+1=>l[k]?
theorem zk9 (pk kd:Int) (l:List Leg) {k:Nat} (h:k < l.length) (prev:Option Leg):zer pk kd prev (l.drop k)=if zaN l[k] ≠ 0 then zaN l[k] else if !zp5 pk kd prev l[k] then 9 else zer pk kd (some l[k]) (l.drop (k+1)):=by
  rw [List.drop_eq_getElem_cons h];rfl
theorem zis (k:Int):∀ (l:List Int) (i:Nat), -1≤zdk k l i∧zdk k l i < i+l.length
  | [],i=>⟨by simp [zdk],by simp [zdk];omega⟩
  | x :: t,i=>by
    unfold zdk
    split
    · exact ⟨by omega,by simp;omega⟩
    · have:=zis k t (i+1)
      exact ⟨this.1,by have:=this.2;simp;omega⟩
theorem zkZ (k:Int):(zb7 k).length≤3:=by unfold zb7;split <;> (try split) <;> (try split) <;> simp
attribute [local go_sem] zbr zcq zbO zbd
set_option maxHeartbeats 16000000 in
theorem zpl (p:ProcV) (A:Option Addr) (c i:Nat) (w:World) (hL:Laid w) (hlc:p.parts.length≤c) (hA:PrtsAt w A p.parts) (hs:p.small) (hi:i < p.parts.length):
    Calls Tryz.prog 169 #[.agg (zaf p A c), .int .i64 i] w (Ret w (.int .i64 (zg5 p.kind (zgp p.parts i) p.parts[i]))):=by
  have HLB:=Lib.hid (fun (W:World) (B:Below w.heap.size w W)=>hL.below B)
  have HG:=Lib.hid (fun (k:Nat) (hk:k < p.parts.length)=>hA.get (Below.refl _ _) hk)
  have hns:=hs.len
  have HSM:=Lib.hid hs.each
  clear hL hA hs
  obtain ⟨b,off,cs',hAe,hb,hIs,hAt⟩:=HG.out i hi
  obtain ⟨A2,c2,rfl,hl2,hI2⟩:=hAt.ex
  have HX:=Lib.hid (fun (W':World) (B:Below w.heap.size w W')=>show zgc W' b (off+i * 3) (zan p.parts[i] A2 c2) from ⟨rfl,fun j hj=>by rw [B.cell (p:=⟨b,_,none⟩) hb];exact hIs.2 j hj⟩)
  have hxs:=HSM.out _ (List.getElem_mem hi)
  have HIL:=Lib.hid (fun (W':World) (B:Below w.heap.size w W')=>hI2.below B)
  have HPR:=Lib.hid (fun (k:Nat) (hk:i=k+1)=>show ∃ y A3 c3,zgp p.parts i=some y∧y.small∧(∀ W',Below w.heap.size w W'→zgc W' b (off+k * 3) (zan y A3 c3)) from by
    have hk2:k < p.parts.length:=by omega
    obtain ⟨b',off',cs2,hA',hb',hIs',hAt'⟩:=HG.out k hk2
    rw [hAe] at hA'
    obtain ⟨rfl,rfl⟩:b=b'∧off=off':=by simpa using hA'
    obtain ⟨A3,c3,rfl,_,_⟩:=hAt'.ex
    exact ⟨p.parts[k],A3,c3,by rw [hk];exact List.getElem?_eq_getElem hk2,HSM.out _ (List.getElem_mem hk2),fun W' B=>⟨rfl,fun j hj=>by rw [B.cell (p:=⟨b,_,none⟩) hb'];exact hIs'.2 j hj⟩⟩)
  have HPV:=Lib.hid (show i=0→zgp p.parts i=none from fun h=>by rw [h];rfl)
  generalize zgp p.parts i=pv at *
  generalize p.parts[i]=x at *
  subst hAe
  have HC:=Lib.hid (zit p.kind pv x)
  have hik:i < c:=by omega
  have hilt:(i:Int) < (p.parts.length:Int):=by omega
  clear hAt hIs hI2 hb
  go_enter Tryz.func169,Tryz.ntmps169
  go_upto_region 1 with (fail)
  have X0:=Blk.new w (zaf p (some ⟨b,off,none⟩) c) 131
  have B0:=zad w (.cells (zaf p (some ⟨b,off,none⟩) c) 131)
  generalize w.alloc _=W at X0 B0 ⊢
  obtain ⟨g2,hg2⟩:∃ g,g=w.heap.size:=⟨_,rfl⟩
  rw [← hg2] at X0 ⊢
  clear hg2
  have c2k:W.cell? ⟨g2,2,none⟩=some (.int .u8 p.kind):=X0.cell 2
  have ko:=Lib.hid (zjm p.kind W)
  have hol:=zkZ p.kind
  have HRK:=Lib.hid (fun k=>show zee p.kind k=zdk k (zb7 p.kind) 0 from rfl)
  obtain ⟨ks,hks⟩:∃ ks,zb7 p.kind=ks:=⟨_,rfl⟩
  rw [hks] at ko hol HRK
  clear hks
  go_upto_region 2 with (go_at_call 157;(with_reducible refine zmH ko.out ?_);intro Ak ck w1 K1 _ b1)
  have X1:=X0.step b1
  have B1:=zaa B0 b1
  clear X0 B0 b1 c2k ko
  have c3p:w1.cell? ⟨g2,3,none⟩=some (.slice (some ⟨b,off,none⟩) p.parts.length c):=X1.cell 3
  have i1:zb3 w1 b (off+i * 3):=⟨_,HX.out w1 B1⟩
  have i2:zcs w1 b (off+i * 3)=zan x A2 c2:=zbD (HX.out w1 B1)
  go_upto_region 3 with (fail)
  have P2:=Blk.new w1 (zan x A2 c2) 183
  have D:=zad w1 (.cells (zan x A2 c2) 183)
  have X2:=X1.step D
  have B2:=zaa B1 D
  have K2:=K1.below D
  clear i1 i2 c3p X1 B1 K1 D
  generalize w1.alloc _=W2 at P2 X2 B2 K2 ⊢
  generalize w1.heap.size=g6 at P2 ⊢
  have x0:W2.cell? ⟨g6,0,none⟩=some (.int .u8 x.kind):=P2.cell 0
  have ki:=Lib.hid (zla ks Ak ks.length ck x.kind W2 K2 rfl (by omega))
  obtain ⟨r,hr⟩:∃ r,zdk x.kind ks 0=r:=⟨_,rfl⟩
  have hrk:zee p.kind x.kind=r:=by rw [HRK.out,hr]
  have hrge:-1≤r:=by rw [← hr];exact (zis _ _ _).1
  rw [hr] at ki
  rw [hrk] at HC
  have HRX:=Lib.hid hrk
  clear hr hrk
  by_cases hneg:r < 0
  · have HO:=Lib.hid (HC.out.trans (if_pos hneg))
    clear HC
    go_wp2_with (go_at_call 201;(with_reducible refine zae ki.out ?_))
    go_ret
    exact Ret.int HO.out.symm B2
  have HC:=Lib.hid (HC.out.trans (if_neg hneg))
  go_upto_if 29 with (go_at_call 201;(with_reducible refine zae ki.out ?_))
  clear ki x0
  have hns4:p.parts.length≤4000000:=hns
  go_cut [9] from 8 to 66 (fun v wx=>zkv p.kind pv x=0∧Blk wx g6 (zan x A2 c2)∧Blk wx g2 (zaf p (some ⟨b,off,none⟩) c)∧Below w.heap.size w wx)
  case first=>
    by_cases hi0:i=0
    · have hpv:=HPV.out hi0
      have hi0':¬ (0:Int) < (i:Int):=by omega
      have HPP:=Lib.hid (show zkv p.kind pv x=0 by rw [hpv];rfl)
      have PP:=Lib.hid P2
      have XX:=Lib.hid X2
      clear hpv hi0 P2 X2
      go_wp2
      go_meet
      exact ⟨HPP.out,PP.out,XX.out,B2⟩
    · obtain ⟨k,hk⟩:∃ k,i=k+1:=⟨i - 1,by omega⟩
      have hi0':(0:Int) < (i:Int):=by omega
      have hk':(i:Int) - 1=(k:Int):=by omega
      obtain ⟨y,A3,c3,hpv,hys,hyi⟩:=HPR.out k hk
      have hkl:(k:Int) < (p.parts.length:Int):=by omega
      have hkc:k < c:=by omega
      have HK:=Lib.hid hk
      have HY:=Lib.hid hyi
      have HPV2:=Lib.hid hpv
      clear hpv hi0 hk hyi
      have c3p:W2.cell? ⟨g2,3,none⟩=some (.slice (some ⟨b,off,none⟩) p.parts.length c):=X2.cell 3
      have i1:zb3 W2 b (off+k * 3):=⟨_,HY.out W2 B2⟩
      have i2:zcs W2 b (off+k * 3)=zan y A3 c3:=zbD (HY.out W2 B2)
      go_upto_region 8 with (fail)
      have P8:=Blk.new W2 (zan y A3 c3) 183
      have D:=zad W2 (.cells (zan y A3 c3) 183)
      have X3:=X2.step D
      have P3:=P2.step D
      have B3:=zaa B2 D
      have K3:=K2.below D
      clear i1 i2 c3p X2 P2 B2 K2 D
      generalize W2.alloc _=W3 at P3 P8 X3 B3 K3 ⊢
      generalize W2.heap.size=g8 at P8 ⊢
      have y0:W3.cell? ⟨g8,0,none⟩=some (.int .u8 y.kind):=P8.cell 0
      have ki:=Lib.hid (zla ks Ak ks.length ck y.kind W3 K3 rfl (by omega))
      obtain ⟨s,hs2⟩:∃ s,zdk y.kind ks 0=s:=⟨_,rfl⟩
      have hsk:zee p.kind y.kind=s:=by rw [HRK.out,hs2]
      have hsge:-1≤s:=by rw [← hs2];exact (zis _ _ _).1
      rw [hs2] at ki
      have HP:=Lib.hid (show zkv p.kind pv x=if r < s∨(r=s∧zw0 x.name y.name=true) then 9 else if r=s∧x.name=y.name then 7 else 0 by rw [HPV2.out];show zqZ p.kind y x=_;unfold zqZ;rw [HRX.out,hsk])
      have HFIN:=Lib.hid (fun e (he:e ≠ 0) (h:zkv p.kind pv x=e)=>show zg5 p.kind pv x=e by rw [HC.out,h];unfold orE;rw [if_pos (by simpa using he)])
      clear hs2 hsk
      go_upto_region 9 with (go_at_call 201;(with_reducible refine zae ki.out ?_))
      have x1:W3.cell? ⟨g6,1,none⟩=some (.string ⟨x.name.toArray⟩):=P3.cell 1
      have y1:W3.cell? ⟨g8,1,none⟩=some (.string ⟨y.name.toArray⟩):=P8.cell 1
      have hls:Op.bytesLess x.name y.name=zw0 x.name y.name:=rfl
      have PP:=Lib.hid P3
      have XX:=Lib.hid X3
      clear ki y0 P3 P8 X3 K3
      by_cases h1:r < s
      · have HO:=Lib.hid (HFIN.out 9 (by decide) (HP.out.trans (if_pos (.inl h1))))
        clear hls HP
        go_wp2
        go_ret
        exact Ret.int HO.out.symm B3
      · by_cases h2:r=s
        · subst h2
          have h2':(r == r)=true:=by simp
          cases hb:zw0 x.name y.name with
          | true=>
            rw [hb] at hls HP
            have HO:=Lib.hid (HFIN.out 9 (by decide) (HP.out.trans (if_pos (.inr ⟨rfl,rfl⟩))))
            clear HP hb h1
            go_wp2
            go_ret
            exact Ret.int HO.out.symm B3
          | false=>
            rw [hb] at hls HP
            have HP:=Lib.hid (HP.out.trans (if_neg (by rintro (h | ⟨_,h⟩);exact absurd h (Int.lt_irrefl _);cases h)))
            clear hb h1
            by_cases hn:x.name=y.name
            · have hn':(x.name == y.name)=true:=by simpa using hn
              have HO:=Lib.hid (HFIN.out 7 (by decide) (HP.out.trans (if_pos ⟨rfl,hn⟩)))
              clear HP hn
              go_wp2
              go_ret
              exact Ret.int HO.out.symm B3
            · have hn':(x.name == y.name)=false:=by simpa using hn
              have HO:=Lib.hid (HP.out.trans (if_neg (fun h=>hn h.2)))
              clear HP hn
              go_wp2
              go_meet
              exact ⟨HO.out,PP.out,XX.out,B3⟩
        · have h2':(r == s)=false:=by simpa using h2
          have HO:=Lib.hid ((HP.out.trans (if_neg (by rintro (h | ⟨h,_⟩) <;> omega))).trans (if_neg (fun h=>h2 h.1)))
          clear hls HP h2
          go_wp2
          go_meet
          exact ⟨HO.out,PP.out,XX.out,B3⟩
  case rest=>
    obtain ⟨hpo,P4,X4,B4⟩:=hcut
    have HC:=Lib.hid (show zg5 p.kind pv x=orE (zhN x) (zer p.kind x.kind none x.legs) by rw [HC.out,hpo];rfl)
    clear hpo P2 X2 B2
    clear HPR HG HPV HRK HRX K2 hilt hik
    generalize zg5 p.kind pv x=out at *
    have x0:wc.cell? ⟨g6,0,none⟩=some (.int .u8 x.kind):=P4.cell 0
    have x1:wc.cell? ⟨g6,1,none⟩=some (.string ⟨x.name.toArray⟩):=P4.cell 1
    have x2:wc.cell? ⟨g6,2,none⟩=some (.slice A2 x.legs.length c2):=P4.cell 2
    have HSH:=Lib.hid (show zhN x=if (zeH x.kind && !zbF x.name 8) || (!zeH x.kind && !x.name.isEmpty) then 5 else if x.legs.length=0 then 1 else if 24 < x.legs.length then 3 else 0 from rfl)
    have kn:=Lib.hid (fun w'=>zdl x.name 8 w' (by have:=hxs.name;omega))
    have HOUT:=Lib.hid (fun e (he:e ≠ 0) (h:zhN x=e)=>show out=e by rw [HC.out,h];unfold orE;rw [if_pos (by simpa using he)])
    have N1:=Lib.hid (show zeH x.kind=(x.kind == 1 || x.kind == 3) from rfl)
    generalize zeH x.kind=nk at HSH N1
    go_upto_region 13 with (fail)
    go_cut [10] from 67 to 74 (fun v wx=>v=.bool nk∧wx=wc)
    case first=>
      obtain ⟨k1,hk1⟩:∃ t,(x.kind == 1)=t:=⟨_,rfl⟩
      obtain ⟨k3,hk3⟩:∃ t,(x.kind == 3)=t:=⟨_,rfl⟩
      have NQ:=Lib.hid (show nk=(k1 || k3) by rw [N1.out,hk1,hk3])
      clear HSH N1
      cases k1 <;> cases k3
      all_goals
        go_wp2
        go_meet
        exact ⟨by rw [NQ.out];rfl,by trivial⟩
    case rest=>
    obtain ⟨rfl,rfl⟩:=hcut
    clear N1
    obtain ⟨nb,hnb⟩:∃ t,zbF x.name 8=t:=⟨_,rfl⟩
    obtain ⟨ne,hne⟩:∃ t,x.name.isEmpty=t:=⟨_,rfl⟩
    have hne2:(x.name == [])=ne:=by rw [← hne];cases x.name <;> rfl
    rw [hnb] at kn HSH
    rw [hne] at HSH
    clear hnb hne
    obtain ⟨bad,hbad⟩:∃ t,((nk && !nb) || (!nk && !ne))=t:=⟨_,rfl⟩
    rw [hbad] at HSH
    have HB:=Lib.hid hbad
    clear hbad
    go_upto_region 14 with (fail)
    go_cut [75] from 76 to 91 (fun v wx=>v=.bool bad∧wx=wc)
    case first=>
      clear HSH
      cases nk <;> cases nb <;> cases ne
      all_goals
        go_wp2_with (go_at_call 61;(with_reducible refine zae (kn.out _) ?_))
        go_meet
        exact ⟨by rw [← HB.out];rfl,by trivial⟩
    case rest=>
    obtain ⟨rfl,rfl⟩:=hcut
    clear HB hne2 kn
    cases bad with
    | true=>
      have HO:=Lib.hid (HOUT.out 5 (by decide) (HSH.out.trans (if_pos rfl)))
      clear HSH HOUT
      go_wp2
      go_ret
      exact Ret.int HO.out.symm B4
    | false=>
    have HSH:=Lib.hid (HSH.out.trans (if_neg (by simp)))
    by_cases hl0:x.legs.length=0
    · have HO:=Lib.hid (HOUT.out 1 (by decide) (HSH.out.trans (if_pos hl0)))
      have e0:((x.legs.length:Int) == 0)=true:=by rw [hl0];rfl
      clear HSH HOUT
      clear hl0
      go_wp2
      go_ret
      exact Ret.int HO.out.symm B4
    have HSH:=Lib.hid (HSH.out.trans (if_neg hl0))
    have e0:((x.legs.length:Int) == 0)=false:=by rw [beq_eq_false_iff_ne];omega
    clear hl0
    by_cases hl24:24 < x.legs.length
    · have HO:=Lib.hid (HOUT.out 3 (by decide) (HSH.out.trans (if_pos hl24)))
      have e1:(24:Int) < (x.legs.length:Int):=by omega
      clear HSH HOUT
      go_wp2
      go_ret
      exact Ret.int HO.out.symm B4
    have e1:¬ (24:Int) < (x.legs.length:Int):=by omega
    have hsh:=HSH.out.trans (if_neg hl24)
    have HC:=Lib.hid (show out=zer p.kind x.kind none x.legs by rw [HC.out,hsh];rfl)
    have h24:x.legs.length≤4000000:=hxs.len
    clear hsh HSH HOUT
    go_upto_region 21 with (fail)
    clear x0 x1 e0 e1 hl24
    have XN:=Lib.hid (fun (W':World) (B:Below w.heap.size w W')=>(HIL.out W' B).at_)
    have PP:=Lib.hid P4
    have XX:=Lib.hid X4
    have BB:=Lib.hid B4
    have hLS:=Lib.hid (fun x' (h:x' ∈ x.legs)=>hxs.each x' h)
    clear P4 X4 B4 x2 hxs HX HSM
    have HPL:=Lib.hid (fun (W':World) (h:Blk W' g6 (zan x A2 c2))=>show W'.cell? ⟨g6,2,none⟩=some (.slice A2 x.legs.length c2) from h.cell 2)
    generalize x.legs=ls at *
    go_loopw [105] (fun iv wr=>∃ k:Nat,k≤ls.length∧iv=.int .i64 k∧zer p.kind x.kind none ls=zer p.kind x.kind (zhW ls k) (ls.drop k)∧Below wc.heap.size wc wr) (fun iv _=>ls.length - (intOf iv).toNat)
    case atStart=>exact ⟨0,by omega,rfl,rfl,Below.refl _ _⟩
    case round=>
      obtain ⟨k,hk,rfl,hf,BW⟩:=hrel
      have HF:=Lib.hid hf
      clear hf
      by_cases hlt:k < ls.length
      · have hlt':(k:Int) < (ls.length:Int):=by omega
        have hkc:k < c2:=by omega
        have hne:ls.map Leg.arr ≠ []:=by intro h;have:=congrArg List.length h;simp at this;rw [this] at hlt;simp at hlt
        obtain ⟨b2,o2,hA2,hb2,hc2⟩:=XN.out wr (zaa BB.out BW) hne
        have HD:=Lib.hid (show out=if zaN ls[k] ≠ 0 then zaN ls[k] else if !zp5 p.kind x.kind (zhW ls k) ls[k] then 9 else zer p.kind x.kind (some ls[k]) (ls.drop (k+1)) by rw [HC.out,HF.out,zk9 _ _ _ hlt])
        have HPV3:=Lib.hid (show zhW ls (k+1)=some ls[k] from List.getElem?_eq_getElem hlt)
        have hsm:=hLS.out _ (List.getElem_mem hlt)
        have hIs:Is_leg wr b2 (o2+k * 13) ls[k]:=fun j hj=>hc2 k ls[k].arr (by simp [hlt]) j hj
        have HC2:=Lib.hid (fun (W':World) (B:Below wr.heap.size wr W') (m:Nat) (hm:m < ls.length)=>show Is_leg W' b2 (o2+m * 13) ls[m] from Is_leg.below (fun j hj=>hc2 m ls[m].arr (by simp [hm]) j hj) B hb2)
        clear hne hc2 HF
        subst hA2
        generalize ls[k]=l at *
        have i1:zaJ wr b2 (o2+k * 13):=⟨_,hIs⟩
        have i2:za6 wr b2 (o2+k * 13)=l:=zaz hIs
        go_upto_region 23 with (fail)
        have Z:=Blk.new wr l.arr 64
        have D:=zad wr (.cells l.arr 64)
        have P5:=(PP.out.step BW).step D
        have X5:=(XX.out.step BW).step D
        have B5:=zaa (zaa BB.out BW) D
        have B6:=zaa BW D
        clear i1 i2 hIs
        generalize wr.alloc _=W5 at Z D P5 X5 B5 B6 ⊢
        generalize wr.heap.size=g7 at Z D HC2 ⊢
        have i1:zaJ W5 g7 0:=⟨_,Z.is_leg⟩
        have i2:za6 W5 g7 0=l:=zaz Z.is_leg
        have kc:=Lib.hid (zjT l W5 (HLB.out W5 B5) hsm)
        generalize zaN l=lc at *
        go_upto_region 24 with (go_at_call 98;(with_reducible refine zaj kc.out ?_);intro w6 b6 _ _ _)
        have P7:=P5.step b6
        have X7:=X5.step b6
        have Z7:=Z.step b6
        have B7:=zaa B5 b6
        have B8:=zaa B6 b6
        have HSZ:=Lib.hid (show g7≤w6.heap.size from Nat.le_trans (Nat.le_of_lt Z.lt) b6.size)
        have D7:Below g7 wr w6:=D.trans (b6.mono (Nat.le_of_lt Z.lt))
        clear i1 i2 kc P5 X5 Z B5 B6 D b6
        by_cases hlc:lc=0
        rotate_left
        · have HO:=Lib.hid (HD.out.trans (if_pos hlc))
          have hlc':(lc != 0)=true:=by simpa using hlc
          clear HD hlc
          go_wp2
          go_ret
          exact Ret.int HO.out.symm B7
        have HD:=Lib.hid (HD.out.trans (if_neg (not_not_intro hlc)))
        subst hlc
        go_upto_region 26 with (fail)
        have PH:=Lib.hid P7
        have XH:=Lib.hid X7
        have ZH:=Lib.hid Z7
        clear P7 X7 Z7
        by_cases hk0:k=0
        · have e0:((k:Int) == 0)=true:=by rw [hk0];rfl
          have e1:¬ (0:Int) < (k:Int):=by omega
          have e2:decide ((0:Int) < (k:Int))=false:=by simp [hk0]
          have e3:¬ 0 < k:=by omega
          have HD:=Lib.hid (show out=if !zfr p.kind x.kind l.ty then 9 else zer p.kind x.kind (some l) (ls.drop (k+1)) by rw [HD.out,hk0];rfl)
          clear hk0
          have j1:∀ d os,zaR (grow (redrawn w6 d) os) g2 0:=fun d os=>⟨_,(XH.out.step (below_regrown w6 d os)).is_prc rfl⟩
          have j2:∀ d os,za9 (grow (redrawn w6 d) os) g2 0=zaf p (some ⟨b,off,none⟩) c:=fun d os=>zaB ((XH.out.step (below_regrown w6 d os)).is_prc rfl)
          have j3:∀ d os,(grow (redrawn w6 d) os).cell? ⟨g6,0,none⟩=some (.int .u8 x.kind):=fun d os=>(PH.out.step (below_regrown w6 d os)).cell 0
          have j4:∀ d os,(grow (redrawn w6 d) os).cell? ⟨g7,0,none⟩=some (.int .u8 l.ty):=fun d os=>(ZH.out.step (below_regrown w6 d os)).cell 0
          have k1:∀ d os,Calls Tryz.prog 202 #[.agg (zaf p (some ⟨b,off,none⟩) c), .int .u8 x.kind, .int .u8 l.ty] (grow (redrawn w6 d) os) fun e w''=>e=.returned (.bool (zfr p.kind x.kind l.ty))∧∃ q:Regrown,w''=grow (redrawn w6 q.d) q.os:=fun d os=>Calls.regrown_ret (zsN p _ c x.kind l.ty _)
          generalize zfr p.kind x.kind l.ty=ok at *
          cases ok
          · have HO:=Lib.hid (HD.out.trans (if_pos rfl))
            clear HD
            refine wp_region_quiet_below (by kernel_rfl) (by kernel_rfl) ?_
            repeat (go_big_quiet_step (with_reducible first | exact k1 _ _))
            refine wpQuiet_nil ?_
            intro _ hw'
            obtain ⟨⟨dq,osq⟩,hw''⟩:=hw'
            subst hw''
            clear j1 j2 j3 j4 k1
            go_wp2
            go_ret
            exact Ret.int HO.out.symm (zaa B7 (below_regrown w6 dq osq))
          · have HO:=Lib.hid (HD.out.trans (if_neg (by simp)))
            clear HD
            refine wp_region_quiet_below (by kernel_rfl) (by kernel_rfl) ?_
            repeat (go_big_quiet_step (with_reducible first | exact k1 _ _))
            refine wpQuiet_nil ?_
            intro _ hw'
            obtain ⟨⟨dq,osq⟩,hw''⟩:=hw'
            subst hw''
            clear j1 j2 j3 j4 k1
            go_wp2
            go_roundw
            case rel=>exact ⟨k+1,by omega,by go_num,by rw [← HC.out,HO.out,HPV3.out],zaa B8 (below_regrown w6 dq osq)⟩
            case measure=>simp [intOf];omega
        · obtain ⟨m,hm⟩:∃ m,k=m+1:=⟨k - 1,by omega⟩
          have hml:m < ls.length:=by omega
          have e0:((k:Int) == 0)=false:=by rw [beq_eq_false_iff_ne];omega
          have e1:(0:Int) < (k:Int):=by omega
          have e2:decide ((0:Int) < (k:Int))=true:=by simp;omega
          have e3:0 < k:=by omega
          have hk':(k:Int) - 1=(m:Int):=by omega
          have hmi:(m:Int) < (ls.length:Int):=by omega
          have hmc:m < c2:=by omega
          have hpm:zhW ls k=some ls[m]:=by rw [hm];exact List.getElem?_eq_getElem hml
          have HD:=Lib.hid (show out=if !ls[m].joinsB l then 9 else zer p.kind x.kind (some l) (ls.drop (k+1)) by rw [HD.out,hpm];rfl)
          have j1:∀ d os,zaJ (grow (redrawn w6 d) os) b2 (o2+m * 13):=fun d os=>⟨_,HC2.out _ (D7.trans ((below_regrown w6 d os).mono HSZ.out)) m hml⟩
          have j2:∀ d os,za6 (grow (redrawn w6 d) os) b2 (o2+m * 13)=ls[m]:=fun d os=>zaz (HC2.out _ (D7.trans ((below_regrown w6 d os).mono HSZ.out)) m hml)
          clear hpm hm hk0
          generalize ls[m]=y at *
          have j3:∀ d os,(grow (redrawn w6 d) os).cell? ⟨g6,2,none⟩=some (.slice (some ⟨b2,o2,none⟩) ls.length c2):=fun d os=>HPL.out _ (PH.out.step (below_regrown w6 d os))
          have j4:∀ d os,zaJ (grow (redrawn w6 d) os) g7 0:=fun d os=>⟨_,(ZH.out.step (below_regrown w6 d os)).is_leg⟩
          have j5:∀ d os,za6 (grow (redrawn w6 d) os) g7 0=l:=fun d os=>zaz ((ZH.out.step (below_regrown w6 d os)).is_leg)
          have k1:∀ d os,Calls Tryz.prog 54 #[y.val,l.val] (grow (redrawn w6 d) os) fun e w''=>e=.returned (.bool (y.joinsB l))∧∃ q:Regrown,w''=grow (redrawn w6 q.d) q.os:=fun d os=>Calls.regrown_ret (zhd y l _)
          generalize y.joinsB l=ok at *
          cases ok
          · have HO:=Lib.hid (HD.out.trans (if_pos rfl))
            clear HD
            refine wp_region_quiet_below (by kernel_rfl) (by kernel_rfl) ?_
            repeat (go_big_quiet_step (with_reducible first | exact k1 _ _))
            refine wpQuiet_nil ?_
            intro _ hw'
            obtain ⟨⟨dq,osq⟩,hw''⟩:=hw'
            subst hw''
            clear j1 j2 j3 j4 j5 k1
            go_wp2
            go_ret
            exact Ret.int HO.out.symm (zaa B7 (below_regrown w6 dq osq))
          · have HO:=Lib.hid (HD.out.trans (if_neg (by simp)))
            clear HD
            refine wp_region_quiet_below (by kernel_rfl) (by kernel_rfl) ?_
            repeat (go_big_quiet_step (with_reducible first | exact k1 _ _))
            refine wpQuiet_nil ?_
            intro _ hw'
            obtain ⟨⟨dq,osq⟩,hw''⟩:=hw'
            subst hw''
            clear j1 j2 j3 j4 j5 k1
            go_wp2
            go_roundw
            case rel=>exact ⟨k+1,by omega,by go_num,by rw [← HC.out,HO.out,HPV3.out],zaa B8 (below_regrown w6 dq osq)⟩
            case measure=>simp [intOf];omega
      · have hge:¬ (k:Int) < (ls.length:Int):=by omega
        have HO:=Lib.hid (show out=0 by rw [HC.out,HF.out,List.drop_eq_nil_of_le (by omega)];unfold zer;rfl)
        clear hlt HF
        go_wp2
        go_ret
        exact Ret.int HO.out.symm (zaa BB.out BW)
end Go.Proofs.YtgoeedohgomodaaGreatDoor
namespace Go.Proofs.YtgoeedohgomodaaGreatDoor
open Go.RowKit Go.Sort
set_option maxRecDepth 100000
theorem zjl (pk:Int) (l:List PartV) {k:Nat} (h:k < l.length) (prev:Option PartV):zdO pk prev (l.drop k)=orE (zg5 pk prev l[k]) (zdO pk (some l[k]) (l.drop (k+1))):=by
  rw [List.drop_eq_getElem_cons h];rfl
attribute [local go_sem] zbr zcq zbO zbd
theorem zkz (w:World) (a:Addr) (n c:Nat):(Go.binOp .eql 207 (.slice (some a) n c) (.slice none 0 0)).run Tryz.prog w=.ok (.bool false) w:=Lib.run_eql_slice_some_nil w a n c Tryz.underlying207
theorem zkA (w:World) (n c:Nat):(Go.binOp .eql 207 (.slice none n c) (.slice none 0 0)).run Tryz.prog w=.ok (.bool true) w:=Lib.run_eql_slice_nil_nil w n c Tryz.underlying207
attribute [local go_sem] zkz zkA
set_option maxHeartbeats 4000000 in
theorem zhX (p:ProcV) (cs:Array Value) (w:World) (hL:Laid w) (h:PrcAt w cs p) (hs:p.small):
    Calls Tryz.prog 126 #[.agg cs] w (Ret w (.int .i64 (zay p))):=by
  obtain ⟨A,c,rfl,hlc,hA⟩:=h.ex
  have HLB:=Lib.hid (fun (W:World) (B:Below w.heap.size w W)=>hL.below B)
  have HAB:=Lib.hid (fun (W:World) (B:Below w.heap.size w W)=>hA.below B)
  have HC:=Lib.hid (show zay p=if !zbF p.airport 6 || !zbF p.name 8 then 5 else if (zb7 p.kind).isEmpty then 17 else if 12 < p.parts.length then 3 else orE (zdO p.kind none p.parts) (if p.parts.isEmpty then 6 else if p.kind=3∧(zaY 2 [] p.parts).isNone then 6 else 0) from rfl)
  have hn:=hs.len
  have ha:=hs.airport
  have hm:=hs.name
  have HSM:=Lib.hid hs.each
  have HS:=Lib.hid hs
  have HLC:=Lib.hid hlc
  clear hL h hA hs hlc
  go_enter Tryz.func126,Tryz.ntmps126
  go_upto_region 1 with (fail)
  have X0:=Blk.new w (zaf p A c) 131
  have B0:=zad w (.cells (zaf p A c) 131)
  generalize w.alloc _=W at X0 B0 ⊢
  obtain ⟨g0,hg0⟩:∃ g,g=w.heap.size:=⟨_,rfl⟩
  rw [← hg0] at X0 ⊢
  clear hg0
  have c0:W.cell? ⟨g0,0,none⟩=some (.string ⟨p.airport.toArray⟩):=X0.cell 0
  have c1:W.cell? ⟨g0,1,none⟩=some (.string ⟨p.name.toArray⟩):=X0.cell 1
  have c2:W.cell? ⟨g0,2,none⟩=some (.int .u8 p.kind):=X0.cell 2
  have kn:=Lib.hid (fun w'=>zdl p.airport 6 w' (by omega))
  have km:=Lib.hid (fun w'=>zdl p.name 8 w' (by omega))
  generalize zbF p.airport 6=na at *
  generalize zbF p.name 8=nb at *
  cases na with
  | false=>
    have HO:=Lib.hid (HC.out.trans (if_pos rfl))
    clear HC
    go_wp2_with (first | (go_at_call 61;(with_reducible refine zae (kn.out _) ?_)) | (go_at_call 61;(with_reducible refine zae (km.out _) ?_)))
    go_ret
    exact Ret.int HO.out.symm B0
  | true=>
  cases nb with
  | false=>
    have HO:=Lib.hid (HC.out.trans (if_pos rfl))
    clear HC
    go_wp2_with (first | (go_at_call 61;(with_reducible refine zae (kn.out _) ?_)) | (go_at_call 61;(with_reducible refine zae (km.out _) ?_)))
    go_ret
    exact Ret.int HO.out.symm B0
  | true=>
  have HC:=Lib.hid (HC.out.trans (if_neg (by decide)))
  go_upto_region 3 with (first | (go_at_call 61;(with_reducible refine zae (kn.out _) ?_)) | (go_at_call 61;(with_reducible refine zae (km.out _) ?_)))
  clear kn km c0 c1
  have ko:=Lib.hid (zjm p.kind W)
  by_cases hks:zb7 p.kind=[]
  · rw [hks] at ko HC
    have HO:=Lib.hid (HC.out.trans (if_pos rfl))
    clear HC hks
    go_wp2_with (go_at_call 157;(with_reducible refine zmH ko.out ?_);intro Ak ck w1 K1 hak b1;obtain rfl:=hak.2 rfl)
    go_ret
    exact Ret.int HO.out.symm (zaa B0 b1)
  have HC:=Lib.hid (HC.out.trans (if_neg (by simpa using hks)))
  go_upto_region 5 with (go_at_call 157;(with_reducible refine zmH ko.out ?_);intro Ak ck w1 K1 hak b1;obtain ⟨a0,rfl⟩:∃ a,Ak=some a:=(by cases Ak with | none=>exact absurd (hak.1 rfl) hks | some a=>exact ⟨a,rfl⟩))
  have X1:=X0.step b1
  have B1:=zaa B0 b1
  clear ko X0 B0 b1 c2 K1 hak hks
  have c3:w1.cell? ⟨g0,3,none⟩=some (.slice A p.parts.length c):=X1.cell 3
  by_cases h12:12 < p.parts.length
  · have HO:=Lib.hid (HC.out.trans (if_pos h12))
    have h12':(12:Int) < (p.parts.length:Int):=by omega
    clear HC h12
    go_wp2
    go_ret
    exact Ret.int HO.out.symm B1
  have HC:=Lib.hid (HC.out.trans (if_neg h12))
  have h12':¬ (12:Int) < (p.parts.length:Int):=by omega
  clear h12
  go_upto_region 8 with (fail)
  clear h12' c3
  have HX:=Lib.hid X1
  have HB:=Lib.hid B1
  clear X1 B1
  go_loopw [31] (fun iv wr=>∃ k:Nat,k≤p.parts.length∧iv=.int .i64 k∧zdO p.kind none p.parts=zdO p.kind (zgp p.parts k) (p.parts.drop k)∧Below w1.heap.size w1 wr) (fun iv _=>p.parts.length - (intOf iv).toNat)
  case atStart=>exact ⟨0,by omega,rfl,rfl,Below.refl _ _⟩
  case round=>
    obtain ⟨k,hk,rfl,hf,BW⟩:=hrel
    have HF:=Lib.hid hf
    clear hf
    have BB:=zaa HB.out BW
    have X1:=HX.out.step BW
    by_cases hlt:k < p.parts.length
    · have i1:zaR wr g0 0:=⟨_,X1.is_prc rfl⟩
      have i2:za9 wr g0 0=zaf p A c:=zaB (X1.is_prc rfl)
      have kc:=Lib.hid (zpl p A c k wr (HLB.out wr BB) HLC.out (HAB.out wr BB) HS.out hlt)
      have HD:=Lib.hid (HF.out.trans (zjl p.kind p.parts hlt _))
      have HPV:=Lib.hid (show zgp p.parts (k+1)=some p.parts[k] from List.getElem?_eq_getElem hlt)
      clear HF X1
      generalize zg5 p.kind (zgp p.parts k) p.parts[k]=v at kc HD
      have hlt':(k:Int) < (p.parts.length:Int):=by omega
      by_cases hv:v=0
      · subst hv
        have HD:=Lib.hid (show zdO p.kind none p.parts=zdO p.kind (some p.parts[k]) (p.parts.drop (k+1)) from HD.out)
        go_wp2_with (go_at_call 169;(with_reducible refine zaj kc.out ?_);intro w2 b2 _ _ _)
        go_roundw
        case rel=>exact ⟨k+1,by omega,by go_num,by rw [HPV.out];exact HD.out,zaa BW b2⟩
        case measure=>simp [intOf];omega
      · have hv':(v != 0)=true:=by simpa using hv
        have HO:=Lib.hid (show zay p=v by rw [HC.out,HD.out];unfold orE;rw [if_pos hv',if_pos hv'])
        clear hv HC HD
        go_wp2_with (go_at_call 169;(with_reducible refine zaj kc.out ?_);intro w2 b2 _ _ _)
        go_ret
        exact Ret.int HO.out.symm (zaa BB b2)
    · have hlt':¬ (k:Int) < (p.parts.length:Int):=by omega
      have HC:=Lib.hid (show zay p=if p.parts.isEmpty then 6 else if p.kind=3∧(zaY 2 [] p.parts).isNone then 6 else 0 by rw [HC.out,HF.out,List.drop_of_length_le (by omega)];rfl)
      have c3:wr.cell? ⟨g0,3,none⟩=some (.slice A p.parts.length c):=X1.cell 3
      clear HF
      by_cases h0:p.parts.length=0
      · have HO:=Lib.hid (HC.out.trans (if_pos (by simpa using h0)))
        have e0:((p.parts.length:Int) == 0)=true:=by rw [h0];rfl
        clear HC h0
        go_wp2
        go_ret
        exact Ret.int HO.out.symm BB
      have HC:=Lib.hid (HC.out.trans (if_neg (by simpa using h0)))
      have e0:((p.parts.length:Int) == 0)=false:=by rw [beq_eq_false_iff_ne];omega
      clear h0
      have i1:zaR wr g0 0:=⟨_,X1.is_prc rfl⟩
      have i2:za9 wr g0 0=zaf p A c:=zaB (X1.is_prc rfl)
      have kp:=Lib.hid (show Calls Tryz.prog 127 #[.agg (zaf p A c), .int .u8 2, .string ⟨#[]⟩] wr (zic wr (zaY 2 [] p.parts)) from zg4 p A c HLC.out hn 2 [] wr (HAB.out wr BB) HSM.out)
      generalize zaY 2 [] p.parts=r at *
      go_upto_region 17 with (go_at_call 127;(with_reducible refine zdz kp.out ?_);intro cs2 w2 h2 b2;obtain ⟨A3,c3',rfl,_,_⟩:=h2.ex)
      have X2:=X1.step b2
      have B2:=zaa BB b2
      have D:=zad w2 (.cells (zan (r.getD zbn) A3 c3') 183)
      have X3:=X2.step D
      have B3:=zaa B2 D
      clear X1 X2 B2 b2 i1 i2 kp c3 D
      generalize w2.alloc _=W3 at X3 B3 ⊢
      have k2:W3.cell? ⟨g0,2,none⟩=some (.int .u8 p.kind):=X3.cell 2
      by_cases h3:p.kind=3
      · have e3:(p.kind == 3)=true:=by simpa using h3
        cases hr:r.isSome with
        | true=>
          have HO:=Lib.hid (HC.out.trans (if_neg (by rintro ⟨_,hh⟩;cases r <;> simp at hr hh)))
          clear HC h3
          go_wp2
          go_ret
          exact Ret.int HO.out.symm B3
        | false=>
          have HO:=Lib.hid (HC.out.trans (if_pos ⟨h3,by cases r <;> simp at hr ⊢⟩))
          clear HC h3
          go_wp2
          go_ret
          exact Ret.int HO.out.symm B3
      · have e3:(p.kind == 3)=false:=by simpa using h3
        have HO:=Lib.hid (HC.out.trans (if_neg (fun hh=>h3 hh.1)))
        clear HC h3
        go_wp2
        go_ret
        exact Ret.int HO.out.symm B3
end Go.Proofs.YtgoeedohgomodaaGreatDoor
namespace Go.Proofs.YtgoeedohgomodaaGreatDoor
open Go.RowKit Go.Sort
set_option maxRecDepth 100000
def zdR (a b:List Leg):List Leg:=if zdM a b then b.drop 1 else b
theorem zjF (a b:List Leg):zbo a b=a ++ zdR a b:=rfl
theorem ziJ (a b:List Leg):(zdR a b).length≤b.length:=by unfold zdR;split <;> simp
def zwM (last:Leg):List Leg→Bool
  | []=>true
  | g :: _=>last.joinsB g
theorem zfi (a:List Leg) (last f:Leg) (r:List Leg) (h:a.getLast? = some last):zdM a (f :: r)=(f.ty == 1 && zdq last.ty && last.fix == f.fix && zwM last r):=by
  unfold zdM;rw [h];cases r <;> rfl
theorem zhM (a:List Leg):zdM a []=false:=by unfold zdM;cases a.getLast? <;> rfl
theorem Items.leg {w:World} {A:Option Addr} {l:List Leg} (h:Items w A 13 (l.map Leg.arr)) (hne:l ≠ []):∃ b o,A=some ⟨b,o,none⟩∧b < w.heap.size∧∀ W,Below w.heap.size w W→∀ i (hi:i < l.length),Is_leg W b (o+i * 13) l[i]:=by
  obtain ⟨b,o,hA,hb,hc⟩:=h.at_ (by simpa using hne)
  exact ⟨b,o,hA,hb,fun W B i hi=>Is_leg.below (fun j hj=>hc i l[i].arr (by simp [hi]) j hj) B hb⟩
theorem Items.tail {w:World} {b o:Nat} {x:Array Value} {l:List (Array Value)} {n:Nat} (h:Items w (some ⟨b,o,none⟩) n (x :: l)):Items w (some ⟨b,o+n,none⟩) n l:=by
  refine ⟨fun hne=>?_⟩
  obtain ⟨b',o',hA,hb,hc⟩:=h.at_ (by simp)
  obtain ⟨rfl,rfl⟩:b=b'∧o=o':=by simpa using hA
  exact ⟨b,o+n,rfl,hb,fun i y hy j hj=>by
    have:=hc (i+1) y (by simpa using hy) j hj
    rw [← this];congr 2;rw [Nat.add_mul];omega⟩
set_option maxHeartbeats 4000000 in
theorem zti (a b:List Leg) (A B:Option Addr) (ca cb:Nat) (w:World) (hA:Items w A 13 (a.map Leg.arr)) (hB:Items w B 13 (b.map Leg.arr)) (hca:a.length≤ca) (hcb:b.length≤cb) (hna:a.length≤100000000) (hnb:b.length≤100000000):
    Calls Tryz.prog 158 #[.slice A a.length ca, .slice B b.length cb] w (zrM w 64 13 (zbo a b).length ((zbo a b).map Leg.arr)):=by
  have kc:=Lib.hid (zhi (a.map Leg.arr) A a.length ca w hA (by simp) hna (zbZ _) (zdU _))
  have HA:=Lib.hid (fun (W:World) (D:Below w.heap.size w W)=>hA.below D)
  have HB:=Lib.hid (fun (W:World) (D:Below w.heap.size w W)=>hB.below D)
  have HCA:=Lib.hid hca
  have HCB:=Lib.hid hcb
  clear hA hB hca hcb
  go_enter Tryz.func158,Tryz.ntmps158
  go_upto_region 2 with (go_at_call 125;(with_reducible refine ze9 kc.out ?_);intro A3 c3 w1 O1 D1)
  have OH:=Lib.hid O1
  have DH:=Lib.hid D1
  clear kc O1 D1
  obtain ⟨ea,hea⟩:∃ t,a.isEmpty=t:=⟨_,rfl⟩
  obtain ⟨eb,heb⟩:∃ t,b.isEmpty=t:=⟨_,rfl⟩
  have HEA:=Lib.hid hea
  have HEB:=Lib.hid heb
  clear hea heb
  obtain ⟨fl,hfl⟩:∃ t,(!ea && !eb)=t:=⟨_,rfl⟩
  have HFL:=Lib.hid hfl
  clear hfl
  go_cut [16] from 7 to 16 (fun v wx=>v=.bool fl∧wx=w1)
  case first=>
    cases ea with
    | true=>
      have e1:¬ (0:Int) < (a.length:Int):=by have:=HEA.out;simp at this;simp [this]
      have e2:¬ 0 < a.length:=by omega
      go_wp2
      go_meet
      exact ⟨by rw [← HFL.out];rfl,rfl⟩
    | false=>
      have e1:(0:Int) < (a.length:Int):=by have:=HEA.out;have:0 < a.length:=List.length_pos_iff.2 (by simpa using this);omega
      have e2:0 < a.length:=by omega
      cases eb with
      | true=>
        have e3:¬ (0:Int) < (b.length:Int):=by have:=HEB.out;simp at this;simp [this]
        have e4:¬ 0 < b.length:=by omega
        go_wp2
        go_meet
        exact ⟨by rw [← HFL.out];rfl,rfl⟩
      | false=>
        have e3:(0:Int) < (b.length:Int):=by have:=HEB.out;have:0 < b.length:=List.length_pos_iff.2 (by simpa using this);omega
        have e4:0 < b.length:=by omega
        go_wp2
        go_meet
        exact ⟨by rw [← HFL.out];rfl,rfl⟩
  case rest=>
  obtain ⟨rfl,rfl⟩:=hcut
  go_upto_if 16 with (fail)
  go_cut [1] from 17 to 55 (fun v wx=>∃ B' c',v=.slice B' (zdR a b).length c'∧(zdR a b).length≤c'∧Items wx B' 13 ((zdR a b).map Leg.arr)∧Below wc.heap.size wc wx)
  case first=>
    cases fl
    case false=>
      have hE:=HFL.out
      have HT:=Lib.hid (show zdR a b=b by
        have h1:=HEA.out
        have h2:=HEB.out
        cases ea with
        | true=>have:a=[]:=(by simpa using h1);subst this;rfl
        | false=>
          cases eb with
          | true=>have:b=[]:=(by simpa using h2);subst this;unfold zdR;rw [zhM];rfl
          | false=>exact absurd hE (by decide))
      clear hE HFL
      go_wp2
      go_meet
      exact ⟨B,cb,by rw [HT.out],by rw [HT.out];exact HCB.out,by rw [HT.out];exact HB.out _ DH.out,Below.refl _ _⟩
    case true=>
      have hE:=HFL.out
      clear HFL
      obtain ⟨ha0,hb0⟩:ea=false∧eb=false:=by simpa using hE
      have hane:a ≠ []:=by have:=HEA.out;rw [ha0] at this;simpa using this
      have hbne:b ≠ []:=by have:=HEB.out;rw [hb0] at this;simpa using this
      clear hE ha0 hb0 HEA HEB
      obtain ⟨b1,o1,rfl,hb1,HL1⟩:=(HA.out _ DH.out).leg hane
      obtain ⟨b2,o2,rfl,hb2,HL2⟩:=(HB.out _ DH.out).leg hbne
      obtain ⟨m,hm⟩:∃ m,a.length=m+1:=⟨a.length - 1,by have:=List.length_pos_iff.2 hane;omega⟩
      have hml:m < a.length:=by omega
      have hlast:a.getLast? = some a[m]:=by rw [List.getLast?_eq_getElem?,hm];exact List.getElem?_eq_getElem hml
      have i1:zaJ wc b1 (o1+m * 13):=⟨_,HL1 _ (Below.refl _ _) m hml⟩
      have i2:za6 wc b1 (o1+m * 13)=a[m]:=zaz (HL1 _ (Below.refl _ _) m hml)
      generalize a[m]=last at *
      have hk':(a.length:Int) - 1=(m:Int):=by omega
      have hmi:(m:Int) < (a.length:Int):=by omega
      have hmc:m < ca:=by have:=HCA.out;omega
      have HL1':=Lib.hid HL1
      have HL2':=Lib.hid HL2
      have HLA:=Lib.hid hlast
      clear HL1 HL2 hlast hm hane
      go_upto_region 4 with (fail)
      have P3:=Blk.new wc last.arr 64
      have D3:=zad wc (.cells last.arr 64)
      have HLB2:=Lib.hid (fun W D i hi=>HL2'.out W (zaa D3 D) i hi)
      clear i1 i2 hml hmi hmc hk' HL1' HL2'
      generalize wc.alloc _=w3 at P3 D3 HLB2 ⊢
      generalize wc.heap.size=g6 at P3 ⊢
      obtain ⟨f,r,hbe⟩:=List.exists_cons_of_ne_nil hbne
      have HBE:=Lib.hid hbe
      have hn0:0 < b.length:=List.length_pos_iff.2 hbne
      have hn0':(0:Int) < (b.length:Int):=by omega
      have hcb:b.length≤cb:=HCB.out
      have hc0:0 < cb:=by omega
      have HF:=Lib.hid (fun W (D:Below w3.heap.size w3 W)=>show Is_leg W b2 o2 f by
        have:=HLB2.out W D 0 hn0
        simpa [hbe] using this)
      have HG:=Lib.hid (fun g r' (hr:r=g :: r') W (D:Below w3.heap.size w3 W)=>show Is_leg W b2 (o2+13) g by
        have:=HLB2.out W D 1 (by rw [hbe,hr];simp)
        simpa [hbe,hr] using this)
      have HSH:=Lib.hid (show zdM a b=(f.ty == 1 && zdq last.ty && last.fix == f.fix && zwM last r) by rw [HBE.out];exact zfi a last f r HLA.out)
      clear hbe hbne
      have t0:∀ d os,(grow (redrawn w3 d) os).cell? ⟨g6,0,none⟩=some (.int .u8 last.ty):=fun d os=>(P3.step (below_regrown w3 d os)).cell 0
      have t1:∀ d os,(grow (redrawn w3 d) os).cell? ⟨g6,1,none⟩=some (.string ⟨last.fix.toArray⟩):=fun d os=>(P3.step (below_regrown w3 d os)).cell 1
      have t2:∀ d os,zaJ (grow (redrawn w3 d) os) g6 0:=fun d os=>⟨_,(P3.step (below_regrown w3 d os)).is_leg⟩
      have t3:∀ d os,za6 (grow (redrawn w3 d) os) g6 0=last:=fun d os=>zaz ((P3.step (below_regrown w3 d os)).is_leg)
      have f0:∀ d os,(grow (redrawn w3 d) os).cell? ⟨b2,o2,none⟩=some (.int .u8 f.ty):=fun d os=>HF.out _ (below_regrown w3 d os) 0 (by omega)
      have f1:∀ d os,(grow (redrawn w3 d) os).cell? ⟨b2,o2+1,none⟩=some (.string ⟨f.fix.toArray⟩):=fun d os=>HF.out _ (below_regrown w3 d os) 1 (by omega)
      have k1:∀ d os,Calls Tryz.prog 47 #[.int .u8 last.ty] (grow (redrawn w3 d) os) fun e w''=>e=.returned (.bool (zdq last.ty))∧∃ q:Regrown,w''=grow (redrawn w3 q.d) q.os:=fun d os=>Calls.regrown_ret ((ziy last.ty _).mono fun e w' h=>by obtain ⟨h1,h2⟩:=h;subst h1 h2;exact ⟨rfl,Below.refl _ _⟩)
      have HK2:=Lib.hid (fun g d os=>show Calls Tryz.prog 54 #[last.val,g.val] (grow (redrawn w3 d) os) fun e w''=>e=.returned (.bool (last.joinsB g))∧∃ q:Regrown,w''=grow (redrawn w3 q.d) q.os from Calls.regrown_ret (zhd last g _))
      obtain ⟨q1,h1⟩:∃ t,(f.ty == 1)=t:=⟨_,rfl⟩
      obtain ⟨q3,h3⟩:∃ t,(last.fix == f.fix)=t:=⟨_,rfl⟩
      generalize zdq last.ty=q2 at *
      rw [h1,h3] at HSH
      obtain ⟨sh,hsh⟩:∃ t,zdM a b=t:=⟨_,rfl⟩
      have HS:=Lib.hid hsh
      have HS2:=Lib.hid (hsh.symm.trans HSH.out)
      clear hsh HSH
      go_cut [53] from 23 to 53 (fun v wx=>v=.bool sh∧Below w3.heap.size w3 wx)
      case first=>
        have HS:=HS2
        cases q1 with
        | false=>
          have k2:=k1
          refine wp_region_quiet_below (by kernel_rfl) (by kernel_rfl) ?_
          repeat (go_big_quiet_step (with_reducible first | exact k1 _ _ | exact k2 _ _))
          refine wpQuiet_nil ?_
          intro _ hw'
          obtain ⟨⟨dq,osq⟩,hw''⟩:=hw'
          subst hw''
          go_wp2
          go_meet
          exact ⟨by first | (rw [HS.out];done) | (rw [HS.out];rfl),below_regrown w3 dq osq⟩
        | true=>
        cases q2 with
        | false=>
          have k2:=k1
          refine wp_region_quiet_below (by kernel_rfl) (by kernel_rfl) ?_
          repeat (go_big_quiet_step (with_reducible first | exact k1 _ _ | exact k2 _ _))
          refine wpQuiet_nil ?_
          intro _ hw'
          obtain ⟨⟨dq,osq⟩,hw''⟩:=hw'
          subst hw''
          go_wp2
          go_meet
          exact ⟨by first | (rw [HS.out];done) | (rw [HS.out];rfl),below_regrown w3 dq osq⟩
        | true=>
        cases q3 with
        | false=>
          have k2:=k1
          refine wp_region_quiet_below (by kernel_rfl) (by kernel_rfl) ?_
          repeat (go_big_quiet_step (with_reducible first | exact k1 _ _ | exact k2 _ _))
          refine wpQuiet_nil ?_
          intro _ hw'
          obtain ⟨⟨dq,osq⟩,hw''⟩:=hw'
          subst hw''
          go_wp2
          go_meet
          exact ⟨by first | (rw [HS.out];done) | (rw [HS.out];rfl),below_regrown w3 dq osq⟩
        | true=>
        cases hr:r with
        | nil=>
          have e1:b.length=1:=by rw [HBE.out,hr];rfl
          have HE:=Lib.hid e1
          have e1:((b.length:Int) == 1)=true:=by rw [HE.out];rfl
          have HS:=Lib.hid (show sh=true by rw [HS.out,hr];rfl)
          have k2:=k1
          refine wp_region_quiet_below (by kernel_rfl) (by kernel_rfl) ?_
          repeat (go_big_quiet_step (with_reducible first | exact k1 _ _ | exact k2 _ _))
          refine wpQuiet_nil ?_
          intro _ hw'
          obtain ⟨⟨dq,osq⟩,hw''⟩:=hw'
          subst hw''
          go_wp2
          go_meet
          exact ⟨by first | (rw [HS.out];done) | (rw [HS.out];rfl),below_regrown w3 dq osq⟩
        | cons g r'=>
          have e1:((b.length:Int) == 1)=false:=by rw [beq_eq_false_iff_ne,HBE.out,hr];simp;omega
          have e2:(1:Int) < (b.length:Int):=by rw [HBE.out,hr];simp;omega
          have e3:1 < cb:=by omega
          have HG2:=Lib.hid (HG.out g r' hr)
          have g1:∀ d os,zaJ (grow (redrawn w3 d) os) b2 (o2+13):=fun d os=>⟨_,HG2.out _ (below_regrown w3 d os)⟩
          have g2:∀ d os,za6 (grow (redrawn w3 d) os) b2 (o2+13)=g:=fun d os=>zaz (HG2.out _ (below_regrown w3 d os))
          have HS:=Lib.hid (show sh=last.joinsB g by rw [HS.out,hr];rfl)
          have k2:=HK2.out g
          clear hr HG
          generalize last.joinsB g=q5 at *
          cases q5
          · skip
            refine wp_region_quiet_below (by kernel_rfl) (by kernel_rfl) ?_
            repeat (go_big_quiet_step (with_reducible first | exact k1 _ _ | exact k2 _ _))
            refine wpQuiet_nil ?_
            intro _ hw'
            obtain ⟨⟨dq,osq⟩,hw''⟩:=hw'
            subst hw''
            go_wp2
            go_meet
            exact ⟨by first | (rw [HS.out];done) | (rw [HS.out];rfl),below_regrown w3 dq osq⟩
          · skip
            refine wp_region_quiet_below (by kernel_rfl) (by kernel_rfl) ?_
            repeat (go_big_quiet_step (with_reducible first | exact k1 _ _ | exact k2 _ _))
            refine wpQuiet_nil ?_
            intro _ hw'
            obtain ⟨⟨dq,osq⟩,hw''⟩:=hw'
            subst hw''
            go_wp2
            go_meet
            exact ⟨by first | (rw [HS.out];done) | (rw [HS.out];rfl),below_regrown w3 dq osq⟩
      case rest=>
      obtain ⟨rfl,D4⟩:=hcut
      clear t0 t1 t2 t3 f0 f1 k1 h1 h3 HK2 HS2 HF HG
      cases sh with
      | false=>
        have HT:=Lib.hid (show zdR a b=b by unfold zdR;rw [HS.out];rfl)
        clear HS
        go_wp2
        go_meet
        exact ⟨some ⟨b2,o2,none⟩,cb,by rw [HT.out],by rw [HT.out];exact HCB.out,by rw [HT.out];exact HB.out _ (zaa DH.out (zaa D3 D4)),zaa D3 D4⟩
      | true=>
        have HT:=Lib.hid (show zdR a b=r by unfold zdR;rw [HS.out,if_pos rfl,HBE.out];rfl)
        have hrl:(r.length:Int)=(b.length:Int) - 1:=by rw [HBE.out];simp
        clear HS
        have hbr:b.length=r.length+1:=by rw [HBE.out];rfl
        have HHB:=Lib.hid hbr
        have D5:=zaa D3 D4
        have HI5:=Lib.hid (HB.out _ (zaa DH.out D5))
        clear hbr
        go_wp2
        · rename_i h1
          go_meet
          have hr0:r=[]:=by
            have:=HHB.out
            rcases r with _ | ⟨x,t⟩
            · rfl
            · exfalso;simp at this;omega
          subst hr0
          exact ⟨some ⟨b2,o2,none⟩,0,by rw [HT.out,HHB.out];rfl,by rw [HT.out];simp,by rw [HT.out];exact ⟨fun h=>absurd rfl h⟩,D5⟩
        · go_meet
          exact ⟨some ⟨b2,o2+13,none⟩,cb - 1,by rw [HT.out,HHB.out];rfl,by rw [HT.out];have:=HHB.out;omega,by rw [HT.out];have:=HI5.out;rw [HBE.out] at this;exact Items.tail this,D5⟩
  case rest=>
  obtain ⟨B',c',rfl,hc',hI',D2⟩:=hcut
  have HT:=Lib.hid (ziJ a b)
  have HJ:=Lib.hid (zjF a b)
  generalize zdR a b=tj at *
  generalize zbo a b=jg at *
  have O4:=Lib.hid (OH.out.below (W':=wc) (fun k _ hk=>D2.block k hk))
  have hsz:w.heap.size≤wc.heap.size:=Nat.le_trans DH.out.size D2.size
  have HI:=Lib.hid hI'
  have HZ:=Lib.hid hsz
  have HNA:=Lib.hid hna
  have HNB:=Lib.hid hnb
  have BB:=Lib.hid (zaa DH.out D2)
  clear hI' hc' hsz D2 OH DH HA HB hna hnb
  go_wp2_with (at_builtin;refine zav rfl (.tmp 56) (.tmp 57) _ 64 13 112 _ zeJ rfl (by omega) Tryz.underlying119 rfl O4.out rfl (tj.map Leg.arr) B' tj.length c' (List.length_map _) rfl HI.out (zbZ _) (zdU _) (by rw [List.length_map];have:=HT.out;have:=HNA.out;have:=HNB.out;unfold maxLen;omega) (by rw [List.length_map];have:=HT.out;have:=HNA.out;have:=HNB.out;omega) HZ.out ?_;intro v' W' O' G' N';rw [← List.map_append,← HJ.out] at O';obtain ⟨A4,c4,h4⟩:=O'.len;rw [List.length_map] at h4;subst h4)
  go_ret
  exact ⟨A4,c4,rfl,O',O4.out.below_grown G' BB.out (Nat.le_refl _) HZ.out⟩
end Go.Proofs.YtgoeedohgomodaaGreatDoor
namespace Go.Proofs.YtgoeedohgomodaaGreatDoor
open Go.RowKit Go.Maps
def zwQ (v:Value):Option (DataW Value × List MemPlace):=some (.held v,[])
structure MapF (W:World) (b n:Nat) (f:Int→Value):Prop where
  ex:∃ D,W.ownsMap Tryz.prog 181 zwQ b n D∧IsMap D∧∀ k,(Lit.int .u8 k).wf=true→D.atKey (.int .u8 k) (.held (.slice none 0 0))=.held (f k)
theorem MapF.made (w:World):MapF (w.alloc (.map #[] 0)) w.heap.size 0 (fun _=>.slice none 0 0):=
  ⟨⟨.map [],World.ownsMap_made w _ _ _,⟨[],rfl⟩,fun k _=>rfl⟩⟩
theorem MapF.below {W W':World} {b n:Nat} {f:Int→Value} (h:MapF W b n f) (hb:Below W.heap.size W W'):MapF W' b n f:=by
  obtain ⟨D,ho,hm,hk⟩:=h.ex
  have hlt:=ho.lt
  obtain ⟨es,clock,h1,F,h2,h3⟩:=ho
  exact ⟨⟨D,⟨es,clock,(hb.block b hlt).trans h1,F,h2,h3⟩,hm,hk⟩⟩
theorem zwd:Keyed Tryz.prog 181:=int_keyed Tryz.underlying181
theorem MapF.look {W:World} {b n:Nat} {f:Int→Value} (h:MapF W b n f) {k:Int} (hk:(Lit.int .u8 k).wf=true) (z:(zeroValue 119).run Tryz.prog W=.ok (.slice none 0 0) W):
    (Instr.lookup 205 (.map (some b)) (.int .u8 k) false).run Tryz.prog W=.ok (f k) W:=by
  obtain ⟨D,ho,_,hat⟩:=h.ex
  obtain ⟨v,ps,hrun,hv⟩:=ho.lookup zwd Tryz.underlying205 z (zd:=.held (.slice none 0 0)) (zp:=[]) rfl (keyOf_int_mk Tryz.underlying181 hk)
  rw [hat k hk] at hv
  simp only [zwQ,Option.some.injEq,Prod.mk.injEq,DataW.held.injEq] at hv
  rw [hrun,hv.1]
theorem zrP (W:World):(zeroValue 119).run Tryz.prog W=.ok (.slice none 0 0) W:=by
  have hq:(Tryz.prog.info? 119).map (·.zero)=some (some (.slice none 0 0)):=by kernel_rfl
  cases hi:Tryz.prog.info? 119 with
  | none=>rw [hi] at hq;cases hq
  | some i=>
    rw [hi] at hq
    have hz:i.zero=some (.slice none 0 0):=by simpa using hq
    simp [zeroValue,typeInfo,hi,hz]
theorem zgf {ops:Array Oper} {rest:List Oper} {o:Oper} {a:Act} {W:World} {Q:Exit→Act→World→Prop} (hg:o.guard=none) (m x v:Operand) (hop:o.op=Op.mapUpdate 205 m x v)
    {b n:Nat} {f:Int→Value} (h:MapF W b n f) (hm:a.eval m=.map (some b)) (hn:n < maxLen) {k:Int} {u:Value} (hx:a.eval x=.int .u8 k) (hv:a.eval v=u) (hk:(Lit.int .u8 k).wf=true)
    (hK:∀ W',MapF W' b (n+1) (fun j=>if j=k then u else f j)→W.grownBy W' (some b)→wpList Tryz.prog ops Q rest (a.put o.dst undef) W'):wpList Tryz.prog ops Q (o :: rest) a W:=by
  obtain ⟨D,ho,hmap,hat⟩:=h.ex
  refine wpList_mapUpdate_own (H:=Value) W hg m x v _ hop _ _ zwd Tryz.underlying205 zwQ b n D hm ho hn _ _ (.int .u8 k) hx hv (keyOf_int_mk Tryz.underlying181 hk) (.held u) [] rfl ?_
  intro W' h1 h2
  refine hK W' ⟨⟨_,h1,?_,fun j hj=>?_⟩⟩ h2
  · exact hmap.put _ _
  · split
    · rename_i e
      subst e
      exact atKey_put_same hmap (by first | trivial | exact rfl) _ _
    · rename_i e
      rw [atKey_put_other (by intro h;injection h with _ h;exact e h)]
      exact hat j hj
end Go.Proofs.YtgoeedohgomodaaGreatDoor
namespace Go.Proofs.YtgoeedohgomodaaGreatDoor
open Go.RowKit Go.Sort
set_option maxRecDepth 100000
def RetLgs (w:World) (l:List Leg) (e:Ending) (w':World):Prop:=∃ A c,e=.returned (.slice A l.length c)∧l.length≤c∧Items w' A 13 (l.map Leg.arr)∧Below w.heap.size w w'
theorem ztM {P:Program} {f:FuncId} {args:Array Value} {W:World} {l:List Leg} {K:Ending→World→Prop} (h:Calls P f args W (RetLgs W l))
    (k:∀ A c w',l.length≤c→Items w' A 13 (l.map Leg.arr)→Below W.heap.size W w'→K (.returned (.slice A l.length c)) w'):Calls P f args W K:=
  h.mono fun e w' ⟨A,c,he,h1,h2,h3⟩=>by subst he;exact k A c w' h1 h2 h3
theorem RetLgs.nil {w w':World} {l:List Leg} (h:l=[]) (B:Below w.heap.size w w'):RetLgs w l (.returned (.slice none 0 0)) w':=by
  subst h
  exact ⟨none,0,rfl,Nat.le_refl _,⟨fun h=>absurd rfl h⟩,B⟩
theorem zdw (k:Int) (n:List UInt8):∀ (l:List PartV) (x:PartV),zaY k n l=some x→x.kind=k∧x ∈ l
  | [],_,h=>by cases h
  | y :: t,x,h=>by
    unfold zaY at h
    split at h
    · rename_i hy
      injection h with h
      subst h
      simp at hy
      exact ⟨hy.1,by simp⟩
    · have:=zdw k n t x h
      exact ⟨this.1,List.mem_cons_of_mem _ this.2⟩
attribute [local go_sem] zbr zcq zbO zbd
set_option maxHeartbeats 4000000 in
theorem zq2 (p:ProcV) (cs:Array Value) (w:World) (hL:Laid w) (h:PrcAt w cs p) (hs:p.small):
    Calls Tryz.prog 79 #[.agg cs] w (RetLgs w (zbf p)):=by
  obtain ⟨A,c,rfl,hlc,hA⟩:=h.ex
  have HPA:=Lib.hid (fun (W:World) (B:Below w.heap.size w W)=>h.below B)
  have HLB:=Lib.hid (fun (W:World) (B:Below w.heap.size w W)=>hL.below B)
  have HAB:=Lib.hid (fun (W:World) (B:Below w.heap.size w W)=>hA.below B)
  have HC:=Lib.hid (show zbf p=if zay p ≠ 0 then [] else ((zaY 4 [] p.parts).map PartV.legs).getD [] from rfl)
  have hn:=hs.len
  have HSM:=Lib.hid hs.each
  have HS:=Lib.hid hs
  have HLC:=Lib.hid hlc
  clear hL h hA hs hlc
  go_enter Tryz.func79,Tryz.ntmps79
  go_upto_region 1 with (fail)
  have X0:=Blk.new w (zaf p A c) 131
  have B0:=zad w (.cells (zaf p A c) 131)
  generalize w.alloc _=W at X0 B0 ⊢
  obtain ⟨g0,hg0⟩:∃ g,g=w.heap.size:=⟨_,rfl⟩
  rw [← hg0] at X0 ⊢
  clear hg0
  have i1:zaR W g0 0:=⟨_,X0.is_prc rfl⟩
  have i2:za9 W g0 0=zaf p A c:=zaB (X0.is_prc rfl)
  have kc:=Lib.hid (zhX p (zaf p A c) W (HLB.out W B0) (HPA.out W B0) HS.out)
  generalize zbf p=out at *
  by_cases hv:zay p=0
  rotate_left
  · have HO:=Lib.hid (HC.out.trans (if_pos hv))
    generalize zay p=v at *
    have hv':(v != 0)=true:=by simpa using hv
    clear hv HC
    go_wp2_with (go_at_call 126;(with_reducible refine zaj kc.out ?_);intro w1 b1 _ _ _)
    go_ret
    exact RetLgs.nil HO.out (zaa B0 b1)
  have HC:=Lib.hid (HC.out.trans (if_neg (not_not_intro hv)))
  rw [hv] at kc
  clear hv
  go_upto_region 3 with (go_at_call 126;(with_reducible refine zaj kc.out ?_);intro w1 b1 _ _ _)
  have X1:=X0.step b1
  have B1:=zaa B0 b1
  clear kc X0 B0 b1 i1 i2
  have i1:zaR w1 g0 0:=⟨_,X1.is_prc rfl⟩
  have i2:za9 w1 g0 0=zaf p A c:=zaB (X1.is_prc rfl)
  have kp:=Lib.hid (show Calls Tryz.prog 127 #[.agg (zaf p A c), .int .u8 4, .string ⟨#[]⟩] w1 (zic w1 (zaY 4 [] p.parts)) from zg4 p A c HLC.out hn 4 [] w1 (HAB.out w1 B1) HSM.out)
  generalize zaY 4 [] p.parts=r at *
  have HO:=Lib.hid (show out=(r.getD zbn).legs by rw [HC.out];cases r <;> rfl)
  clear HC
  go_upto_region 4 with (go_at_call 127;(with_reducible refine zdz kp.out ?_);intro cs2 w2 h2 b2;obtain ⟨A3,c3',rfl,hl3,hI3⟩:=h2.ex)
  have B2:=zaa B1 b2
  have P3:=Blk.new w2 (zan (r.getD zbn) A3 c3') 183
  have D:=zad w2 (.cells (zan (r.getD zbn) A3 c3') 183)
  have B3:=zaa B2 D
  have hI4:=hI3.below D
  clear X1 B2 b2 i1 i2 kp D h2 hI3
  generalize w2.alloc _=W3 at P3 B3 hI4 ⊢
  generalize w2.heap.size=g3 at P3 ⊢
  rw [← HO.out] at hl3 hI4
  have k2:W3.cell? ⟨g3,2,none⟩=some (.slice A3 out.length c3'):=by rw [HO.out];exact P3.cell 2
  go_wp2
  go_ret
  exact ⟨A3,c3',rfl,hl3,hI4,B3⟩
def ChosenAt (W:World) (f:Int→Value) (K:Int→List Leg):Prop:=∀ k,∃ A c,f k=.slice A (K k).length c∧(K k).length≤c∧Items W A 13 ((K k).map Leg.arr)
theorem ChosenAt.below {W W':World} {f:Int→Value} {K:Int→List Leg} (h:ChosenAt W f K) (hb:Below W.heap.size W W'):ChosenAt W' f K:=fun k=>by
  obtain ⟨A,c,h1,h2,h3⟩:=h k
  exact ⟨A,c,h1,h2,h3.below hb⟩
theorem ChosenAt.nil (W:World) (K:Int→List Leg) (h:∀ k,K k=[]):ChosenAt W (fun _=>.slice none 0 0) K:=fun k=>⟨none,0,by rw [h k];rfl,by rw [h k];exact Nat.le_refl _,by rw [h k];exact ⟨fun h=>absurd rfl h⟩⟩
theorem ChosenAt.put {W:World} {f:Int→Value} {K K':Int→List Leg} (h:ChosenAt W f K) (j:Int) (A:Option Addr) (l:List Leg) (c:Nat) (hc:l.length≤c) (hI:Items W A 13 (l.map Leg.arr)) (h1:K' j=l) (h2:∀ k,k ≠ j→K' k=K k):
    ChosenAt W (fun k=>if k=j then .slice A l.length c else f k) K':=fun k=>by
  by_cases hk:k=j
  · subst hk
    exact ⟨A,c,by rw [h1];exact if_pos rfl,by rw [h1];exact hc,by rw [h1];exact hI⟩
  · obtain ⟨A',c',e1,e2,e3⟩:=h k
    exact ⟨A',c',by rw [h2 k hk];exact (if_neg hk).trans e1,by rw [h2 k hk];exact e2,by rw [h2 k hk];exact e3⟩
end Go.Proofs.YtgoeedohgomodaaGreatDoor
namespace Go.Proofs.YtgoeedohgomodaaGreatDoor
open Go.RowKit Go.Sort
set_option maxRecDepth 100000
def RetExp (w:World) (r:List Leg × Int) (e:Ending) (w':World):Prop:=∃ A c,e=.returned (.tuple #[.slice A r.1.length c, .int .i64 r.2])∧r.1.length≤c∧Items w' A 13 (r.1.map Leg.arr)∧Below w.heap.size w w'
theorem zmI {P:Program} {f:FuncId} {args:Array Value} {W:World} {r:List Leg × Int} {K:Ending→World→Prop} (h:Calls P f args W (RetExp W r))
    (k:∀ A c w',r.1.length≤c→Items w' A 13 (r.1.map Leg.arr)→Below W.heap.size W w'→K (.returned (.tuple #[.slice A r.1.length c, .int .i64 r.2])) w'):Calls P f args W K:=
  h.mono fun e w' ⟨A,c,he,h1,h2,h3⟩=>by subst he;exact k A c w' h1 h2 h3
theorem RetExp.err {w w':World} {r:List Leg × Int} {n:Int} (h:r=([],n)) (B:Below w.heap.size w w'):RetExp w r (.returned (.tuple #[.slice none 0 0, .int .i64 n])) w':=by
  subst h
  exact ⟨none,0,rfl,Nat.le_refl _,⟨fun h=>absurd rfl h⟩,B⟩
theorem RetExp.ok {w w':World} {r:List Leg × Int} {l:List Leg} {A:Option Addr} {c:Nat} (h:r=(l,0)) (hc:l.length≤c) (hI:Items w' A 13 (l.map Leg.arr)) (B:Below w.heap.size w w'):RetExp w r (.returned (.tuple #[.slice A l.length c, .int .i64 0])) w':=by
  subst h
  exact ⟨A,c,rfl,hc,hI,B⟩
theorem zty (p:ProcV) (s t:List UInt8) (h:zay p ≠ 0):zau p s t=([],zay p):=by unfold zau;rw [if_pos h]
theorem zxA (p:ProcV) (s t:List UInt8) (h:zay p=0) (hr:zc8 p s=none):zau p s t=([],6):=by unfold zau;rw [if_neg (not_not_intro h),hr]
theorem zxz (p:ProcV) (s t:List UInt8) (h:zay p=0) (r:List Leg) (hr:zc8 p s=some r) (ht:zdo p t=none):zau p s t=([],6):=by unfold zau;rw [if_neg (not_not_intro h),hr];simp only [ht]
theorem zwf (p:ProcV) (s t:List UInt8) (h:zay p=0) (r q:List Leg) (hr:zc8 p s=some r) (ht:zdo p t=some q):
    zau p s t=if (zca p.kind (zbg r q (zdy p))).isEmpty then ([],6) else (zca p.kind (zbg r q (zdy p)),0):=by unfold zau;rw [if_neg (not_not_intro h),hr];simp only [ht]
theorem zjR (p:ProcV) (hs:p.small) (s:List UInt8) {r:List Leg} (h:zc8 p s=some r):r.length≤4000000:=by
  unfold zc8 at h
  split at h
  · injection h with h;subst h;simp
  · cases hx:zaY 1 s p.parts with
    | none=>rw [hx] at h;cases h
    | some x=>rw [hx] at h;injection h with h;subst h;exact (hs.each x (zdw _ _ _ _ hx).2).len
theorem zjQ (p:ProcV) (hs:p.small) (s:List UInt8) {r:List Leg} (h:zdo p s=some r):r.length≤4000000:=by
  unfold zdo at h
  split at h
  · injection h with h;subst h;simp
  · cases hx:zaY 3 s p.parts with
    | none=>rw [hx] at h;cases h
    | some x=>rw [hx] at h;injection h with h;subst h;exact (hs.each x (zdw _ _ _ _ hx).2).len
theorem zjS (p:ProcV) (hs:p.small):(zdy p).length≤4000000:=by
  unfold zdy
  cases hx:zaY 2 [] p.parts with
  | none=>simp
  | some x=>exact (hs.each x (zdw _ _ _ _ hx).2).len
theorem zpk (r t c:List Leg) (k:Int) (h1:r.length≤4000000) (h2:t.length≤4000000) (h3:c.length≤4000000):(zbg r t c k).length≤4000000:=by
  unfold zbg;split;· assumption
  split;· assumption
  split;· assumption
  simp
theorem zrp (r x:List Leg) (k:Int) (hk:k ≠ 3):zbg r x [] k=zbg r [] [] k:=by unfold zbg;simp [hk]
theorem zrq (r q x:List Leg) (k:Int) (hk:k ≠ 2):zbg r q x k=zbg r q [] k:=by unfold zbg;simp [hk]
theorem zhx (a b:List Leg):(zbo a b).length≤a.length+b.length:=by
  rw [zjF,List.length_append];have:=ziJ a b;omega
theorem zsK (pk:Int):∀ k ∈ zb7 pk,(Lit.int .u8 k).wf=true:=by
  intro k hk
  unfold zb7 at hk
  split at hk
  · simp at hk;rcases hk with rfl | rfl | rfl <;> decide
  · split at hk
    · simp at hk;rcases hk with rfl | rfl | rfl <;> decide
    · split at hk
      · simp at hk;rcases hk with rfl | rfl | rfl <;> decide
      · simp at hk
def zjE (K:Int→List Leg) (out:List Leg) (ks:List Int):List Leg:=ks.foldl (fun o k=>zbo o (K k)) out
theorem znU (K:Int→List Leg) (out:List Leg) (ks:List Int) {i:Nat} (h:i < ks.length):zjE K out (ks.drop i)=zjE K (zbo out (K ks[i])) (ks.drop (i+1)):=by
  rw [List.drop_eq_getElem_cons h];rfl
theorem MapF.heap {W:World} {b n:Nat} {f:Int→Value} (h:MapF W b n f):∃ es clock,W.heap[b]? = some (.map es clock):=by
  obtain ⟨D,⟨es,clock,h1,_⟩,_⟩:=h.ex
  exact ⟨es,clock,h1⟩
theorem MapF.mono {W:World} {b n m:Nat} {f:Int→Value} (h:MapF W b n f) (hm:n≤m):MapF W b m f:=by
  obtain ⟨D,⟨es,clock,h1,F,h2,h3⟩,h4⟩:=h.ex
  exact ⟨D,⟨es,clock,h1,F,Nat.le_trans h2 hm,h3⟩,h4⟩
theorem Blk.ne_map {W:World} {g b n:Nat} {f:Int→Value} {cs:Array Value} (h:Blk W g cs) (hm:MapF W b n f):g ≠ b:=by
  rintro rfl
  obtain ⟨t,h⟩:=h
  obtain ⟨es,clock,h2⟩:=hm.heap
  rw [h] at h2
  cases h2
theorem Blk.grownM {W W':World} {g b n:Nat} {f:Int→Value} {cs:Array Value} (h:Blk W g cs) (hm:MapF W b n f) (G:W.grownBy W' (some b)):Blk W' g cs:=by
  have hne:=h.ne_map hm
  have hlt:=h.lt
  obtain ⟨t,h⟩:=h
  exact ⟨t,(G.block g hlt (by intro hh;injection hh with hh;exact hne hh)).trans h⟩
theorem Items.grown {W W':World} {A:Option Addr} {l:List Leg} {b n:Nat} {f:Int→Value} (h:Items W A 13 (l.map Leg.arr)) (hm:MapF W b n f) (G:W.grownBy W' (some b)):Items W' A 13 (l.map Leg.arr):=by
  refine h.keepN (fun hne a ha hlt=>G.block _ hlt ?_) G.size
  intro hh
  injection hh with hh
  obtain ⟨b',o',rfl,hb,hc⟩:=h.leg (by simpa using hne)
  injection ha with ha
  subst ha
  have h0:0 < l.length:=List.length_pos_iff.2 (by simpa using hne)
  have:=hc W (Below.refl _ _) 0 h0 0 (by omega)
  obtain ⟨es,clock,h2⟩:=hm.heap
  rw [← hh] at h2
  simp [World.cell?,h2] at this
  cases hq:l[0] with
  | mk=>rw [hq] at this;simp [Leg.arr] at this
theorem ChosenAt.grown {W W':World} {f f0:Int→Value} {K:Int→List Leg} {b n:Nat} (h:ChosenAt W f K) (hm:MapF W b n f0) (G:W.grownBy W' (some b)):ChosenAt W' f K:=fun k=>by
  obtain ⟨A,c,h1,h2,h3⟩:=h k
  exact ⟨A,c,h1,h2,h3.grown hm G⟩
theorem zoo {ops:Array Oper} {rest:List Oper} {o:Oper} {a:Act} {W:World} {Q:Exit→Act→World→Prop} (hg:o.guard=none) (m x v:Operand) (hop:o.op=Op.mapUpdate 205 m x v) (hd:o.dst=none)
    {b n:Nat} {f:Int→Value} (h:MapF W b n f) (hm:a.eval m=.map (some b)) (hn:n < maxLen) {k:Int} {u:Value} (hx:a.eval x=.int .u8 k) (hv:a.eval v=u) (hk:(Lit.int .u8 k).wf=true)
    (hK:∀ W',MapF W' b (n+1) (fun j=>if j=k then u else f j)→W.grownBy W' (some b)→wpList Tryz.prog ops Q rest a W'):wpList Tryz.prog ops Q (o :: rest) a W:=
  zgf hg m x v hop h hm hn hx hv hk (fun W' h1 h2=>by rw [hd];exact hK W' h1 h2)
attribute [local go_sem] zbr zcq zbO zbd
set_option maxHeartbeats 8000000 in
theorem zrh (p:ProcV) (cs:Array Value) (s t:List UInt8) (w:World) (hL:Laid w) (h:PrcAt w cs p) (hs:p.small) (hls:s.length≤4000000000) (hlt:t.length≤4000000000):
    Calls Tryz.prog 115 #[.agg cs, .string ⟨s.toArray⟩, .string ⟨t.toArray⟩] w (RetExp w (zau p s t)):=by
  obtain ⟨A,c,rfl,hlc,hA⟩:=h.ex
  have HPA:=Lib.hid (fun (W:World) (B:Below w.heap.size w W)=>h.below B)
  have HLB:=Lib.hid (fun (W:World) (B:Below w.heap.size w W)=>hL.below B)
  have HAB:=Lib.hid (fun (W:World) (B:Below w.heap.size w W)=>hA.below B)
  have hn:=hs.len
  have HSM:=Lib.hid hs.each
  have HS:=Lib.hid hs
  have HLC:=Lib.hid hlc
  have HE0:=Lib.hid (zty p s t)
  have HER:=Lib.hid (zxA p s t)
  have HET:=Lib.hid (zxz p s t)
  have HEO:=Lib.hid (zwf p s t)
  clear hL h hA hs hlc
  generalize zau p s t=out at *
  have hmm:=@run_makeMap Tryz.prog
  go_enter Tryz.func115,Tryz.ntmps115
  go_upto_region 1 with (fail)
  have X0:=Blk.new w (zaf p A c) 131
  have B0:=zad w (.cells (zaf p A c) 131)
  have hg0:w.heap.size≤w.heap.size:=Nat.le_refl _
  generalize w.alloc _=W at X0 B0 ⊢
  obtain ⟨g0,hg0⟩:∃ g,g=w.heap.size:=⟨_,rfl⟩
  rw [← hg0] at X0 ⊢
  clear hg0
  have i1:zaR W g0 0:=⟨_,X0.is_prc rfl⟩
  have i2:za9 W g0 0=zaf p A c:=zaB (X0.is_prc rfl)
  have kc:=Lib.hid (zhX p (zaf p A c) W (HLB.out W B0) (HPA.out W B0) HS.out)
  by_cases hv:zay p=0
  rotate_left
  · have HO:=Lib.hid (HE0.out hv)
    generalize zay p=v at *
    have hv':(v != 0)=true:=by simpa using hv
    clear hv HE0 HER HET HEO
    go_wp2_with (go_at_call 126;(with_reducible refine zaj kc.out ?_);intro w1 b1 _ _ _)
    go_ret2
    exact RetExp.err HO.out (zaa B0 b1)
  have HER:=Lib.hid (HER.out hv)
  have HET:=Lib.hid (HET.out hv)
  have HEO:=Lib.hid (HEO.out hv)
  rw [hv] at kc
  clear hv HE0
  go_upto_region 5 with (go_at_call 126;(with_reducible refine zaj kc.out ?_);intro w1 b1 _ _ _)
  have B1:=zaa B0 b1
  have M2:=MapF.made w1
  have X2:=(X0.step b1).alloc (.map #[] 0)
  have B2:=zaa B1 (zad w1 (.map #[] 0))
  have HGM:=Lib.hid B1.size
  clear kc X0 B0 b1 B1 i1 i2 hmm
  generalize w1.alloc _=W2 at M2 X2 B2 ⊢
  generalize w1.heap.size=gm at M2 HGM ⊢
  have C2:=ChosenAt.nil W2 (zbg [] [] []) (fun k=>by unfold zbg;split;· rfl
                                                     split;· rfl
                                                     split <;> rfl)
  have i1:zaR W2 g0 0:=⟨_,X2.is_prc rfl⟩
  have i2:za9 W2 g0 0=zaf p A c:=zaB (X2.is_prc rfl)
  have kn:=Lib.hid (zs3 p A c HLC.out hn 1 W2 (HAB.out W2 B2))
  have HRR:=Lib.hid (show zc8 p s=if (zbP 1 p.parts).isEmpty then some [] else (zaY 1 s p.parts).map PartV.legs from rfl)
  generalize zbP 1 p.parts=nms at *
  go_upto_if 28 with (go_at_call 156;(with_reducible refine ztL kn.out ?_);intro A4 c4 w3 b3)
  have M3:=M2.below b3
  have X3:=X2.step b3
  have C3:=C2.below b3
  have B3:=zaa B2 b3
  clear kn M2 X2 C2 B2 b3 i1 i2
  go_cut [10,11] from 28 to 41 (fun _ _ wx=>∃ r f,zc8 p s=some r∧MapF wx gm 1 f∧ChosenAt wx f (zbg r [] [])∧Blk wx g0 (zaf p A c)∧Below w.heap.size w wx)
  case first=>
    have HX3:=Lib.hid X3
    have HM3:=Lib.hid M3
    have HC3:=Lib.hid C3
    have HB3:=Lib.hid B3
    clear X3 M3 C3 B3
    by_cases hnm:nms=[]
    · have e1:¬ (0:Int) < (nms.length:Int):=by simp [hnm]
      have e2:¬ 0 < nms.length:=by simp [hnm]
      have HR:=Lib.hid (show zc8 p s=some [] by rw [HRR.out,hnm];rfl)
      clear hnm
      go_wp2
      go_meet
      exact ⟨[],_,HR.out,HM3.out.mono (by omega),HC3.out,HX3.out,HB3.out⟩
    · have e2:0 < nms.length:=List.length_pos_iff.2 hnm
      have e1:(0:Int) < (nms.length:Int):=by omega
      have HR:=Lib.hid (show zc8 p s=(zaY 1 s p.parts).map PartV.legs by rw [HRR.out,if_neg (by simpa using hnm)])
      clear hnm HRR
      have i1:zaR w3 g0 0:=⟨_,HX3.out.is_prc rfl⟩
      have i2:za9 w3 g0 0=zaf p A c:=zaB (HX3.out.is_prc rfl)
      have kp:=Lib.hid (zg4 p A c HLC.out hn 1 s w3 (HAB.out w3 HB3.out) HSM.out)
      cases hx:zaY 1 s p.parts with
      | none=>
        rw [hx] at kp HR
        have HO:=Lib.hid (HER.out HR.out)
        clear hx HR
        go_wp2_with (go_at_call 127;(with_reducible refine zdz kp.out ?_);intro cs2 w4 h4 b4;obtain ⟨A5,c5,rfl,hl5,hI5⟩:=h4.ex)
        go_ret2
        exact RetExp.err HO.out (zaa (zaa HB3.out b4) (zad _ _))
      | some x=>
        rw [hx] at kp HR
        have hk:=(zdw _ _ _ _ hx).1
        clear hx
        go_upto_region 9 with (go_at_call 127;(with_reducible refine zdz kp.out ?_);intro cs2 w4 h4 b4;obtain ⟨A5,c5,rfl,hl5,hI5⟩:=h4.ex)
        have P5:=Blk.new w4 (zan x A5 c5) 183
        have D5:=zad w4 (.cells (zan x A5 c5) 183)
        have b5:=b4.trans (D5.mono b4.size)
        have M5:=HM3.out.below b5
        have C5:=HC3.out.below b5
        have X5:=HX3.out.step b5
        have B5:=zaa HB3.out b5
        have hI6:=Lib.hid (show Items (w4.alloc (.cells (zan x A5 c5) 183)) A5 13 (x.legs.map Leg.arr) from Items.below hI5 D5)
        have hl6:x.legs.length≤c5:=hl5
        clear h4 hI5 hl5 b4 b5 D5 i1 i2 kp
        generalize w4.alloc _=W5 at P5 M5 C5 X5 B5 hI6 ⊢
        generalize w4.heap.size=g5 at P5 ⊢
        have u0:W5.cell? ⟨g5,0,none⟩=some (.int .u8 1):=by rw [← hk];exact P5.cell 0
        have u2:W5.cell? ⟨g5,2,none⟩=some (.slice A5 x.legs.length c5):=P5.cell 2
        clear hk P5
        go_wp2_with (at_mapUpdate;refine zgf rfl (.tmp 37) (.tmp 39) (.tmp 41) rfl M5 rfl (by unfold maxLen;omega) (k:=1) (u:=.slice A5 x.legs.length c5) rfl rfl (by decide) ?_;intro W7 M7 G7)
        have X7:=X5.grownM M5 G7
        have C7:=(C5.grown M5 G7).put (K':=zbg x.legs [] []) 1 A5 x.legs c5 hl6 (hI6.out.grown M5 G7) rfl (fun k hk=>by unfold zbg;rw [if_neg hk,if_neg hk])
        have B7:=B5.grown G7 B5.size (fun g hg=>by injection hg with hg;subst hg;exact HGM.out)
        go_meet
        exact ⟨x.legs,_,HR.out,M7,C7,X7,B7⟩
  case rest=>
  obtain ⟨r,f1,HR,M3,C3,X3,B3⟩:=hcut
  have HRH:=Lib.hid HR
  have hrl:=zjR p HS.out s HR
  clear HR HRR HER
  obtain ⟨et,het⟩:∃ b,t.isEmpty=b:=⟨_,rfl⟩
  have het2:(t == [])=et:=by rw [← het];cases t <;> rfl
  have HTT:=Lib.hid (show zdo p t=if et then some [] else (zaY 3 t p.parts).map PartV.legs by rw [← het];rfl)
  clear het
  go_upto_if 43 with (fail)
  go_cut [12,13] from 43 to 56 (fun _ _ wx=>∃ q f,zdo p t=some q∧MapF wx gm 2 f∧ChosenAt wx f (zbg r q [])∧Blk wx g0 (zaf p A c)∧Below w.heap.size w wx)
  case first=>
    have HX3:=Lib.hid X3
    have HM3:=Lib.hid M3
    have HC3:=Lib.hid C3
    have HB3:=Lib.hid B3
    clear X3 M3 C3 B3
    cases et with
    | true=>
      have HR:=Lib.hid (show zdo p t=some [] by rw [HTT.out];rfl)
      go_wp2
      go_meet
      exact ⟨[],_,HR.out,HM3.out.mono (by omega),HC3.out,HX3.out,HB3.out⟩
    | false=>
      have HR:=Lib.hid (show zdo p t=(zaY 3 t p.parts).map PartV.legs by rw [HTT.out];rfl)
      clear HTT
      have i1:zaR wc g0 0:=⟨_,HX3.out.is_prc rfl⟩
      have i2:za9 wc g0 0=zaf p A c:=zaB (HX3.out.is_prc rfl)
      have kp:=Lib.hid (zg4 p A c HLC.out hn 3 t wc (HAB.out wc HB3.out) HSM.out)
      cases hx:zaY 3 t p.parts with
      | none=>
        rw [hx] at kp HR
        have HO:=Lib.hid (HET.out r HRH.out HR.out)
        clear hx HR
        go_wp2_with (go_at_call 127;(with_reducible refine zdz kp.out ?_);intro cs2 w4 h4 b4;obtain ⟨A5,c5,rfl,hl5,hI5⟩:=h4.ex)
        go_ret2
        exact RetExp.err HO.out (zaa (zaa HB3.out b4) (zad _ _))
      | some x=>
        rw [hx] at kp HR
        have hk:=(zdw _ _ _ _ hx).1
        clear hx
        go_upto_region 14 with (go_at_call 127;(with_reducible refine zdz kp.out ?_);intro cs2 w4 h4 b4;obtain ⟨A5,c5,rfl,hl5,hI5⟩:=h4.ex)
        have P5:=Blk.new w4 (zan x A5 c5) 183
        have D5:=zad w4 (.cells (zan x A5 c5) 183)
        have b5:=b4.trans (D5.mono b4.size)
        have M5:=HM3.out.below b5
        have C5:=HC3.out.below b5
        have X5:=HX3.out.step b5
        have B5:=zaa HB3.out b5
        have hI6:=Lib.hid (show Items (w4.alloc (.cells (zan x A5 c5) 183)) A5 13 (x.legs.map Leg.arr) from Items.below hI5 D5)
        have hl6:x.legs.length≤c5:=hl5
        clear h4 hI5 hl5 b4 b5 D5 i1 i2 kp
        generalize w4.alloc _=W5 at P5 M5 C5 X5 B5 hI6 ⊢
        generalize w4.heap.size=g5 at P5 ⊢
        have u0:W5.cell? ⟨g5,0,none⟩=some (.int .u8 3):=by rw [← hk];exact P5.cell 0
        have u2:W5.cell? ⟨g5,2,none⟩=some (.slice A5 x.legs.length c5):=P5.cell 2
        clear hk P5
        go_wp2_with (at_mapUpdate;refine zgf rfl (.tmp 52) (.tmp 54) (.tmp 56) rfl M5 rfl (by unfold maxLen;omega) (k:=3) (u:=.slice A5 x.legs.length c5) rfl rfl (by decide) ?_;intro W7 M7 G7)
        have X7:=X5.grownM M5 G7
        have C7:=(C5.grown M5 G7).put (K':=zbg r x.legs []) 3 A5 x.legs c5 hl6 (hI6.out.grown M5 G7) rfl (fun k hk=>zrp r x.legs k hk)
        have B7:=B5.grown G7 B5.size (fun g hg=>by injection hg with hg;subst hg;exact HGM.out)
        go_meet
        exact ⟨x.legs,_,HR.out,M7,C7,X7,B7⟩
  case rest=>
  obtain ⟨q,f2,HT,M3,C3,X3,B3⟩:=hcut
  have HTH:=Lib.hid HT
  have hql:=zjQ p HS.out t HT
  clear HT HTT HET het2
  have HCC:=Lib.hid (show zdy p=((zaY 2 [] p.parts).map PartV.legs).getD [] from rfl)
  have hcl:=zjS p HS.out
  have HEO:=Lib.hid (HEO.out r q HRH.out HTH.out)
  generalize zdy p=cc at *
  have i1:zaR wc g0 0:=⟨_,X3.is_prc rfl⟩
  have i2:za9 wc g0 0=zaf p A c:=zaB (X3.is_prc rfl)
  have kp:=Lib.hid (show Calls Tryz.prog 127 #[.agg (zaf p A c), .int .u8 2, .string ⟨#[]⟩] wc (zic wc (zaY 2 [] p.parts)) from zg4 p A c HLC.out hn 2 [] wc (HAB.out wc B3) HSM.out)
  have HPK:=Lib.hid (fun x=>zdw 2 [] p.parts x)
  obtain ⟨z,hz⟩:∃ z,zaY 2 [] p.parts=z:=⟨_,rfl⟩
  rw [hz] at kp HCC HPK
  clear hz
  go_upto_if 62 with (go_at_call 127;(with_reducible refine zdz kp.out ?_);intro cs2 w4 h4 b4;obtain ⟨A5,c5,rfl,hl5,hI5⟩:=h4.ex)
  have P5:=Blk.new w4 (zan (z.getD zbn) A5 c5) 183
  have D5:=zad w4 (.cells (zan (z.getD zbn) A5 c5) 183)
  have b5:=b4.trans (D5.mono b4.size)
  have M5:=M3.below b5
  have C5:=C3.below b5
  have X5:=X3.step b5
  have B5:=zaa B3 b5
  have hI6:=Lib.hid (show Items (w4.alloc (.cells (zan (z.getD zbn) A5 c5) 183)) A5 13 ((z.getD zbn).legs.map Leg.arr) from Items.below hI5 D5)
  have hl6:(z.getD zbn).legs.length≤c5:=hl5
  clear h4 hI5 hl5 b4 b5 D5 i1 i2 kp M3 C3 X3 B3
  generalize w4.alloc _=W5 at P5 M5 C5 X5 B5 hI6 ⊢
  generalize w4.heap.size=g5 at P5 ⊢
  go_cut [15] from 62 to 67 (fun _ wx=>∃ f,MapF wx gm 3 f∧ChosenAt wx f (zbg r q cc)∧Blk wx g0 (zaf p A c)∧Below w.heap.size w wx)
  case first=>
    cases z with
    | none=>
      have hcc:cc=[]:=HCC.out
      have HM:=Lib.hid M5
      have HC:=Lib.hid (show ChosenAt W5 f2 (zbg r q cc) by rw [hcc];exact C5)
      clear hcc M5 C5
      go_wp2
      go_meet
      exact ⟨_,HM.out.mono (by omega),HC.out,X5,B5⟩
    | some x=>
      have hcc:cc=x.legs:=HCC.out
      have HCX:=Lib.hid hcc
      have hk:=(HPK.out x rfl).1
      have u0:W5.cell? ⟨g5,0,none⟩=some (.int .u8 2):=by rw [← hk];exact P5.cell 0
      have u2:W5.cell? ⟨g5,2,none⟩=some (.slice A5 x.legs.length c5):=P5.cell 2
      have hl7:x.legs.length≤c5:=hl6
      have hI7:=Lib.hid (show Items W5 A5 13 (x.legs.map Leg.arr) from hI6.out)
      clear hk P5 hcc hl6 hI6
      go_wp2_with (at_mapUpdate;refine zoo rfl (.tmp 63) (.tmp 65) (.tmp 67) rfl rfl M5 rfl (by unfold maxLen;omega) (k:=2) (u:=.slice A5 x.legs.length c5) rfl rfl (by decide) ?_;intro W7 M7 G7)
      have X7:=X5.grownM M5 G7
      have C7:=(C5.grown M5 G7).put (K':=zbg r q x.legs) 2 A5 x.legs c5 hl7 (hI7.out.grown M5 G7) rfl (fun k hk=>zrq r q x.legs k hk)
      have B7:=B5.grown G7 B5.size (fun g hg=>by injection hg with hg;subst hg;exact HGM.out)
      go_meet
      exact ⟨_,M7,by rw [HCX.out];exact C7,X7,B7⟩
  case rest=>
  clear M5 C5 X5 B5 hI6 hl6 P5 HPK HCC
  obtain ⟨f3,M3,C3,X3,B3⟩:=hcut
  have k2:wc.cell? ⟨g0,2,none⟩=some (.int .u8 p.kind):=X3.cell 2
  have ko:=Lib.hid (zjm p.kind wc)
  have HWF:=Lib.hid (zsK p.kind)
  have HL3:=zkZ p.kind
  have HEL:=Lib.hid (show zca p.kind (zbg r q cc)=zjE (zbg r q cc) [] (zb7 p.kind) from rfl)
  have HKL:=Lib.hid (fun k=>zpk r q cc k hrl hql hcl)
  generalize zbg r q cc=KK at *
  generalize zb7 p.kind=ks at *
  go_upto_region 20 with (go_at_call 157;(with_reducible refine zmH ko.out ?_);intro Ak ck w6 K6 hak b6)
  have M6:=M3.below b6
  have C6:=C3.below b6
  have B6:=Lib.hid (zaa B3 b6)
  have MH:=Lib.hid (fun W (B:Below w6.heap.size w6 W)=>M6.below B)
  have CH:=Lib.hid (fun W (B:Below w6.heap.size w6 W)=>C6.below B)
  have KH:=Lib.hid (fun W (B:Below w6.heap.size w6 W)=>K6.below B)
  clear ko k2 M3 C3 X3 B3 b6 M6 C6 K6 hak
  go_loopw [16,72] (fun v iv wr=>∃ (k:Nat) (o:List Leg) (Ao:Option Addr) (co:Nat),k≤ks.length∧iv=.int .i64 k∧v=.slice Ao o.length co∧o.length≤co∧o.length≤k * 4000000∧Items wr Ao 13 (o.map Leg.arr)∧zjE KK [] ks=zjE KK o (ks.drop k)∧Below w6.heap.size w6 wr) (fun _ iv _=>ks.length - (intOf iv).toNat)
  case atStart=>exact ⟨0,[],none,0,by omega,rfl,rfl,by simp,by simp,⟨fun h=>absurd rfl h⟩,rfl,Below.refl _ _⟩
  case round=>
    obtain ⟨k,o,Ao,co,hk,rfl,rfl,hoc,hol,hIo,hf,BW⟩:=hrel
    have HF:=Lib.hid hf
    clear hf
    by_cases hlt2:k < ks.length
    · have hlt':(k:Int) < (ks.length:Int):=by omega
      obtain ⟨b,rfl,hb,hc⟩:=(KH.out wr BW).at_ (by rintro rfl;simp at hlt2)
      have y1:wr.cell? ⟨b,k,none⟩=some (.int .u8 ks[k]):=hc k _ (List.getElem?_eq_getElem hlt2)
      have hwf:=HWF.out _ (List.getElem_mem hlt2)
      have HD:=Lib.hid (HF.out.trans (znU KK o ks hlt2))
      clear hc HF
      generalize ks[k]=kd at *
      obtain ⟨A2,c2,e1,e2,e3⟩:=CH.out wr BW kd
      have hlook:=(MH.out wr BW).look hwf (zrP wr)
      rw [e1] at hlook
      have hkk:=HKL.out kd
      have kj:=Lib.hid (zti o (KK kd) Ao A2 co c2 wr hIo e3 hoc e2 (by omega) (by omega))
      have HJL:=Lib.hid (zhx o (KK kd))
      generalize zbo o (KK kd)=o2 at *
      clear e1 e2 e3 hwf hIo
      go_wp2_with (go_at_call 158;(with_reducible refine ze9 kj.out ?_);intro A7 c7 w7 O7 b7)
      obtain ⟨A8,c8,e4,hl8,hI8,_,_⟩:=O7.form (zbZ _)
      injection e4 with e4 _ e5
      subst e4 e5
      rw [List.length_map] at hl8
      go_roundw
      case rel=>exact ⟨k+1,o2,A7,c7,by omega,by go_num,rfl,hl8,by have:=HJL.out;omega,hI8,HD.out,zaa BW b7⟩
      case measure=>simp [intOf];omega
    · have hlt':¬ (k:Int) < (ks.length:Int):=by omega
      have he:zca p.kind KK=o:=by rw [HEL.out,HF.out,List.drop_eq_nil_of_le (by omega)];rfl
      have HO:=Lib.hid (show out=if o.isEmpty then ([],6) else (o,0) by rw [HEO.out,he])
      have BB:=zaa B6.out BW
      clear HF he
      by_cases ho:o=[]
      · have HO:=Lib.hid (HO.out.trans (if_pos (by rw [ho];rfl)))
        have e0:((o.length:Int) == 0)=true:=by rw [ho];rfl
        clear ho
        go_wp2
        go_ret2
        exact RetExp.err HO.out BB
      · have HO:=Lib.hid (HO.out.trans (if_neg (by simpa using ho)))
        have e0:((o.length:Int) == 0)=false:=by rw [beq_eq_false_iff_ne];have:=List.length_pos_iff.2 ho;omega
        clear ho
        go_wp2
        go_ret2
        exact RetExp.ok HO.out hoc hIo BB
end Go.Proofs.YtgoeedohgomodaaGreatDoor
