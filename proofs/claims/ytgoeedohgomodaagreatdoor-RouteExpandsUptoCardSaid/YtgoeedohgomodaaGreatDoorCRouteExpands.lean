/- PROVED: Expand returns the plan of the reference, or the index and the error of the first word that does not fit, and each argument reads behind the call as before: the card of the second form (what is read is of bulk at most 1048576). Its conditions: none of mine. -/
import Derived.Test.YtgoeedohgomodaaGreatDoorQk01
import Derived.Test.YtgoeedohgomodaaGreatDoorQk02
import Derived.Test.YtgoeedohgomodaaGreatDoorQk03
import Derived.Test.YtgoeedohgomodaaGreatDoorQk05
import Derived.Test.YtgoeedohgomodaaGreatDoorQk06
import Derived.Test.YtgoeedohgomodaaGreatDoorQk16
import Derived.Test.YtgoeedohgomodaaGreatDoorQk18
import Derived.Test.YtgoeedohgomodaaGreatDoorQk04
import Derived.Test.YtgoeedohgomodaaGreatDoorQk07
import Derived.Test.YtgoeedohgomodaaGreatDoorQk08
import Derived.Test.YtgoeedohgomodaaGreatDoorQk09
import Derived.Test.YtgoeedohgomodaaGreatDoorQk10
import Derived.Test.YtgoeedohgomodaaGreatDoorQk11
import Derived.Test.YtgoeedohgomodaaGreatDoorQx04
import Derived.Test.YtgoeedohgomodaaGreatDoorQk12
import Derived.Test.YtgoeedohgomodaaGreatDoorQk22
import Derived.Test.YtgoeedohgomodaaGreatDoorQk23
import Derived.Test.YtgoeedohgomodaaGreatDoorQk13
import Derived.Test.YtgoeedohgomodaaGreatDoorQk24
import Derived.Test.YtgoeedohgomodaaGreatDoorQk35
import Derived.Test.YtgoeedohgomodaaGreatDoorQk14
import Derived.Test.YtgoeedohgomodaaGreatDoorQk30
import Derived.Test.YtgoeedohgomodaaGreatDoorQk25
import Derived.Test.YtgoeedohgomodaaGreatDoorQk26
import Derived.Test.YtgoeedohgomodaaGreatDoorQk27
import Derived.Test.YtgoeedohgomodaaGreatDoorQk28
import Derived.Test.YtgoeedohgomodaaGreatDoorQx02
import Derived.Test.YtgoeedohgomodaaGreatDoorQk20
import Derived.Test.YtgoeedohgomodaaGreatDoorQk15
import Derived.Test.YtgoeedohgomodaaGreatDoorQk17
import Derived.Test.YtgoeedohgomodaaGreatDoorQk19
import Derived.Test.YtgoeedohgomodaaGreatDoorQx03
import Derived.Test.YtgoeedohgomodaaGreatDoorQk21
import Derived.Test.YtgoeedohgomodaaGreatDoorQk29
import Derived.Test.YtgoeedohgomodaaGreatDoorQk31
import Derived.Test.YtgoeedohgomodaaGreatDoorQk32
import Derived.Test.YtgoeedohgomodaaGreatDoorQk33
import Derived.Test.YtgoeedohgomodaaGreatDoorQk34
import Derived.Test.YtgoeedohgomodaaGreatDoorQk36
import Derived.Test.YtgoeedohgomodaaGreatDoorQk37
import Derived.Test.YtgoeedohgomodaaGreatDoorQk38
import Derived.Test.YtgoeedohgomodaaGreatDoorQk39
import Derived.Test.YtgoeedohgomodaaGreatDoorQk41
import Derived.Test.YtgoeedohgomodaaGreatDoorQk42
import Derived.Test.YtgoeedohgomodaaGreatDoorQk43
import Derived.Test.YtgoeedohgomodaaGreatDoorQk44
import Derived.Test.YtgoeedohgomodaaGreatDoorQk45
import Derived.Test.YtgoeedohgomodaaGreatDoorQk46
import Derived.Test.YtgoeedohgomodaaGreatDoorQk48
import Derived.Test.YtgoeedohgomodaaGreatDoorQk49
import Derived.Test.YtgoeedohgomodaaGreatDoorQx05
import Derived.Test.YtgoeedohgomodaaGreatDoorCards
import Derived.Test.YtgoeedohgomodaaGreatDoorTie
import Derived.Deep.DeepWitnessRowRef
import Derived.Lay
import Derived.WalkKit
import Derived.ProofKit
set_option linter.unusedSimpArgs false
set_option linter.unusedVariables false
namespace Go.Proofs.YtgoeedohgomodaaGreatDoor
open Go.RowKit Go.Sort
set_option maxRecDepth 100000
theorem zhv (pt:List UInt8→(Int × Int) × Int) (at_:Int × Int) (n:List UInt8):∀ (l:List FixV) (best:List UInt8) (far:Int),(zcA pt at_ n l best far).2=0∨(zcA pt at_ n l best far).2=6
  | [],best,far=>by
    unfold zcA
    split
    · exact .inr rfl
    · exact .inl rfl
  | f :: r,best,far=>by
    unfold zcA
    split
    · exact zhv pt at_ n r _ _
    · exact zhv pt at_ n r _ _
theorem zs1 (G:GDB) (l:List Entry) (n:List UInt8):(zd7 G l n).2=0∨(zd7 G l n).2=6:=zhv _ _ _ _ _ _
theorem zeN {x:ItemV} (h:x.short):(zbc x).length≤4000000000:=by
  have h1:=zfC x.name 47 x.trans
  have h2:=zfC x.name 46 x.trans
  have h3:=h.1
  have h4:=h.2
  unfold zbc
  repeat' split
  all_goals (try simp only [List.length_append,List.length_cons,List.length_nil])
  all_goals omega
theorem zrj (R:zbS) (l:List Entry) (x y:ItemV) (word:List UInt8) (h:(zdH R l x y word 0).2.2=0):(zdH R l x y word 0).2.1=0:=by
  unfold zdH at h ⊢
  split at h
  · rename_i h1;exact absurd h h1
  · rename_i h1
    rw [if_neg h1]
    split at h
    · rename_i h2;exact absurd h h2
    · rename_i h2
      rw [if_neg h2]
      split at h
      · rename_i h3
        rw [if_pos h3]
        split at h
        · rename_i h4;exact absurd h h4
        · rename_i h4;rw [if_neg h4];rfl
      · rename_i h3;rw [if_neg h3];rfl
theorem RetIt.ke {w W W':World} {g:Nat} {cs:Array Value} {iv:Value} {i:Nat} {r r0:List Entry × (Int × Int)} {k:Int} (hr:r=(r0.1,((i:Int)+r0.2.1,r0.2.2))) (o:OnlyB g W W') (h1:r0.2.2=0→∃ L c,Bu w W' g cs iv L c r0.1) (h2:r0.2.2 ≠ 0→k=r0.2.1)
    (lo:-1≤r0.2.1∧r0.2.1≤1) (hz:r0.2.2=0→r0.2.1=0):RetIt w W g cs iv i r (.returned (.tuple #[.int .i64 1, .int .i64 k, .int .i64 r0.2.2])) W':=by
  subst hr
  refine ⟨1,k,rfl,o,fun h=>⟨⟨by omega,by omega,?_⟩,h1 h⟩,fun h=>?_⟩
  · show (i:Int)+1=(i:Int)+r0.2.1+1
    rw [hz h];omega
  · have:=h2 h
    show _∧_∧(i:Int)+k=(i:Int)+r0.2.1
    rw [this]
    exact ⟨lo.1,lo.2,rfl⟩
theorem RetIt.two {w W W':World} {g:Nat} {cs:Array Value} {iv:Value} {i:Nat} {r r0:List Entry × (Int × Int)} {k:Int} (hr:r=(r0.1,((if r0.2.2=0 then (i:Int)+1 else (i:Int)+r0.2.1),r0.2.2))) (o:OnlyB g W W') (h1:r0.2.2=0→∃ L c,Bu w W' g cs iv L c r0.1) (h2:r0.2.2 ≠ 0→k=r0.2.1)
    (lo:0≤r0.2.1∧r0.2.1≤1):RetIt w W g cs iv i r (.returned (.tuple #[.int .i64 2, .int .i64 k, .int .i64 r0.2.2])) W':=by
  subst hr
  refine ⟨2,k,rfl,o,fun h=>⟨⟨by omega,by omega,?_⟩,h1 h⟩,fun h=>?_⟩
  · show (i:Int)+2=(if r0.2.2=0 then (i:Int)+1 else (i:Int)+r0.2.1)+1
    rw [if_pos h];omega
  · have:=h2 h
    show _∧_∧(i:Int)+k=(if r0.2.2=0 then (i:Int)+1 else (i:Int)+r0.2.1)
    rw [if_neg h,this]
    exact ⟨by omega,lo.2,rfl⟩
attribute [local go_sem] zbY zbv zbu zdh zdd zdb zc9 zda zbV zaO zaT zba zbs
attribute [local go_sem ↓] zde
attribute [local go_sem] zd4 zcG zdJ zcH zb0
set_option maxHeartbeats 16000000 in
theorem znp {w:World} {d:DBs} {G:GDB} {iA:Option Addr} {ic:Nat} {xs:List ItemV} (hS:RS w d G iA ic xs) (es:List Entry) (L:Option Addr) (c g:Nat) (W:World) (h:Bu w W g d.cells (.slice iA xs.length ic) L c es) (hE:LOk 247000 es) (i:Nat) (hi:i < xs.length) (hn:xs.length≤124)
    (hk:zut xs i) (hk0:(xs.getD i noItem).kind=1→i=0) (hne:(xs.getD i noItem).kind ≠ 1→es ≠ []) (hk1:(xs.getD i noItem).kind ≠ 1→1≤i) (hnm:∀ x ∈ xs,x.kind=3→x.name ≠ []):
    Calls Tryz.prog 42 #[.pointer (some ⟨g,0,none⟩), .int .i64 i] W (RetIt w W g d.cells (.slice iA xs.length ic) i (zah (zai G) xs (zbc (xs.getD i noItem)) i es)):=by
  have he:es.length≤250000:=Nat.le_trans hE.len (by omega)
  have HKO:=Lib.hid hk
  have HK0:=Lib.hid hk0
  have HNE:=Lib.hid hne
  have HK1:=Lib.hid hk1
  have HNM:=Lib.hid (show (xs.getD (i+1) noItem).kind=3→(xs.getD (i+1) noItem).name ≠ [] from fun h3=>by
    rw [List.getD_eq_getElem?_getD] at h3 ⊢
    cases hq:xs[i+1]? with
    | none=>rw [hq] at h3;simp [noItem] at h3
    | some x=>rw [hq] at h3;exact hnm x (List.mem_of_getElem? hq) h3)
  have HHI:=Lib.hid hi
  have HHN:=Lib.hid hn
  have HEL:=Lib.hid hE
  have HRI:=Lib.hid h
  have HS:=Lib.hid hS
  have HB:=Lib.hid h
  have HXS:=Lib.hid (zaM hS.xsS)
  obtain ⟨m,hm⟩:∃ m,xs.length=m+1:=⟨xs.length - 1,by omega⟩
  obtain ⟨b,off,hiA,hic,hcl⟩:=hS.itm hi
  obtain ⟨b',off',hiA',hmc,hcl'⟩:=hS.itm (i:=m) (by omega)
  obtain ⟨rfl,rfl⟩:b'=b∧off'=off:=by
    rw [hiA] at hiA'
    injection hiA' with e1
    injection e1 with e2 e3
    exact ⟨e2.symm,e3.symm⟩
  have IS:=Lib.hid (fun W' (D:Below W.heap.size W W')=>show W'.cell? ⟨g,9,none⟩=some (.slice (some ⟨b',off',none⟩) (m+1) ic)∧zak W' b' (off'+i * 3)∧zar W' b' (off'+i * 3)=xs.getD i noItem∧zak W' b' (off'+m * 3)∧zar W' b' (off'+m * 3)=xs.getD m noItem from
    ⟨by have:=(HB.out.step D).c9;rw [hiA,hm] at this;exact this,⟨_,hcl W' (HB.out.step D).bel⟩,zam (hcl W' (HB.out.step D).bel),⟨_,hcl' W' (HB.out.step D).bel⟩,zam (hcl' W' (HB.out.step D).bel)⟩)
  have HM:=Lib.hid hm
  have HIA:=Lib.hid hiA
  generalize hx:xs.getD i noItem=x at *
  generalize hz:xs.getD m noItem=z at *
  have HX:=Lib.hid hx
  have HZ:=Lib.hid hz
  have him:i < m+1:=by omega
  have hm124:m≤124:=by omega
  have hlt1:(i:Int) < ((m:Int)+1):=by omega
  have hwr:IntKind.i64.wrap (m:Int)=(m:Int):=by rw [IntKind.wrap_i64];omega
  have hlt2:(m:Int) < ((m:Int)+1):=by omega
  clear hS h hiA hiA' hcl hcl' hx hz hm
  go_enter Tryz.func42,Tryz.ntmps42
  go_upto_region 1 with (fail)
  go_cut [7,8] (fun u v wx=>∃ q8 q9,u=.pointer (some ⟨q8,0,none⟩)∧v=.pointer (some ⟨q9,0,none⟩)∧Blk wx q8 x.arr∧Blk wx q9 z.arr∧g < q8∧Below W.heap.size W wx)
  case first=>
    have D2:Below W.heap.size W W.drew:=(Below.refl _ _).drew
    go_region_held3 (fun w'=>w'.cell? ⟨g,9,none⟩=some (.slice (some ⟨b',off',none⟩) (m+1) ic)∧zak w' b' (off'+i * 3)∧zar w' b' (off'+i * 3)=x∧zak w' b' (off'+m * 3)∧zar w' b' (off'+m * 3)=z)
      ((refine IS.out _ ?_;repeat' (first | assumption | omega | (refine zab ?_ ?_ _) | (refine Below.alloc ?_ ?_ _) | (refine Below.drew ?_) | exact Below.refl _ _ | (simp;done) | (simp;omega))))
      (fail)
    all_goals
      go_wp2
      go_meet
      first
        | (obtain ⟨a1,a2,a3⟩:=za5 W noItem.arr x.arr noItem.arr z.arr 57 57;exact ⟨_,_,rfl,rfl,a1.step (Below.refl _ _).drew,a2.step (Below.refl _ _).drew,(by have:=HB.out.lt;omega),a3.drew⟩)
        | (obtain ⟨a1,a2,a3⟩:=zaP W noItem.arr noItem.arr x.arr z.arr 57 57;exact ⟨_,_,rfl,rfl,a1.step (Below.refl _ _).drew,a2.step (Below.refl _ _).drew,(by have:=HB.out.lt;omega),a3.drew⟩)
        | (obtain ⟨a1,a2,a3⟩:=za5 W noItem.arr z.arr noItem.arr x.arr 57 57;exact ⟨_,_,rfl,rfl,a2.step (Below.refl _ _).drew,a1.step (Below.refl _ _).drew,(by have:=HB.out.lt;omega),a3.drew⟩)
        | (obtain ⟨a1,a2,a3⟩:=zaP W noItem.arr noItem.arr z.arr x.arr 57 57;exact ⟨_,_,rfl,rfl,a2.step (Below.refl _ _).drew,a1.step (Below.refl _ _).drew,(by have:=HB.out.lt;omega),a3.drew⟩)
  case rest=>
  obtain ⟨q8,q9,rfl,rfl,X8,X9,hgq,BC⟩:=hcut
  have B1:=Lib.hid (HB.out.step BC)
  have O1:=Lib.hid (OnlyB.of (g:=g) BC)
  have HX8:=Lib.hid X8
  have HX9:=Lib.hid X9
  obtain ⟨xk,xn,xt⟩:=x
  have c0:wc.cell? ⟨q8,0,none⟩=some (.int .u8 xk):=X8.cell 0
  have hxs:ItemV.short ⟨xk,xn,xt⟩:=by have:=HXS.out i;rw [HX.out] at this;exact this
  have hzs:z.short:=by have:=HXS.out m;rw [HZ.out] at this;exact this
  have hxn:=hxs.small.1
  dsimp only at hxn
  have hlo:=HKO.out.lo
  have hhi:=HKO.out.hi
  rw [HX.out] at hlo hhi
  dsimp only at hlo hhi
  have hc:xk=1∨xk=2∨xk=3∨xk=4∨xk=5∨xk=6∨xk=7∨xk=8:=by omega
  have EX:=Lib.hid (show (xs.getD i noItem).kind=xk by rw [HX.out])
  clear BC X8 X9 hlo hhi
  rcases hc with rfl | rfl | rfl | rfl | rfl | rfl | rfl | rfl
  · have hi0:i=0:=HK0.out rfl
    have ko:=Lib.hid (zlX HS.out es L c g wc B1.out he (HKO.out.k1 EX.out) (zeN (HXS.out 0)))
    have HC:=Lib.hid (show zah (zai G) xs (zbc ⟨1,xn,xt⟩) i es=atI i (zcM (zai G) es (xs.getD 1 noItem) (zbc (xs.getD 0 noItem))) by
      unfold zah;rw [HX.out,show xs.getD 0 noItem=⟨1,xn,xt⟩ by rw [← hi0];exact HX.out];rfl)
    generalize zah (zai G) xs (zbc ⟨1,xn,xt⟩) i es=out at *
    clear hi0
    go_wp2_with (go_at_call 80;(with_reducible refine zch ko.out ?_);intro L4 c4 w4 B4 O4)
    go_ret3
    exact RetIt.one HC.out B4 (O1.out.trans O4)
  · have HC:=Lib.hid (show zah (zai G) xs (zbc ⟨2,xn,xt⟩) i es=atI i (zeY (zai G) es ⟨2,xn,xt⟩ (xs.getD 0 noItem) 1 1) by unfold zah;rw [HX.out];rfl)
    obtain ⟨b3,off3,hiA3,hic3,hcl3⟩:=HS.out.itm (i:=0) (by have:=HHI.out;omega)
    obtain ⟨rfl,rfl⟩:b3=b'∧off3=off':=by
      have h0:=HIA.out
      rw [hiA3] at h0
      injection h0 with e1
      injection e1 with e2 e3
      exact ⟨e2,e3⟩
    have hy0:=HXS.out 0
    have hm1:=HM.out
    have I2:=Lib.hid (fun W' L' c' es' (X:Bu w W' g d.cells (.slice iA xs.length ic) L' c' es') (Y:Blk W' q8 (ItemV.arr ⟨2,xn,xt⟩))=>show (zak W' q8 0∧zar W' q8 0=⟨2,xn,xt⟩)∧W'.cell? ⟨g,9,none⟩=some (.slice (some ⟨b3,off3,none⟩) (m+1) ic)∧zak W' b3 off3∧zar W' b3 off3=xs.getD 0 noItem from by
      have e:=hcl3 W' X.bel
      rw [Nat.zero_mul,Nat.add_zero] at e
      exact ⟨⟨⟨_,Y.is_itm⟩,zam Y.is_itm⟩,by have:=X.c9;rw [HIA.out,hm1] at this;exact this,⟨_,e⟩,zam e⟩)
    generalize xs.getD 0 noItem=y at *
    have kp:=Lib.hid (fun W' (D:Below wc.heap.size wc W')=>zgl HS.out es L c g _ W' (B1.out.step D) (by omega) ⟨2,xn,xt⟩ y hxs hy0 1 1)
    generalize zah (zai G) xs (zbc ⟨2,xn,xt⟩) i es=out at *
    have hm0:(0:Int) < (m:Int)+1:=by omega
    have hic0:0 < ic:=by omega
    clear hcl3 hiA3 hm1
    go_upto_region 6 with (fail)
    go_region_held3 (fun W'=>(zak W' q8 0∧zar W' q8 0=⟨2,xn,xt⟩)∧W'.cell? ⟨g,9,none⟩=some (.slice (some ⟨b3,off3,none⟩) (m+1) ic)∧zak W' b3 off3∧zar W' b3 off3=y)
      (first | exact I2.out _ _ _ _ B4 (HX8.out.only (by first | exact (OnlyB.of (Below.refl _ _).drew).trans O4 | exact O4) (by omega)) | exact I2.out _ _ _ _ (B1.out.step (by repeat' (first | assumption | (refine Below.drew ?_) | exact Below.refl _ _))) (HX8.out.step (by repeat' (first | assumption | (refine Below.drew ?_) | exact Below.refl _ _))))
      (first | (go_at_call 81;(with_reducible refine zch (kp.out _ (by repeat' (first | assumption | (refine Below.drew ?_) | exact Below.refl _ _))) ?_);intro L4 c4 w4 B4 O4))
    all_goals
      go_wp2
      go_ret3
      exact RetIt.one HC.out B4 (O1.out.trans ((OnlyB.of (Below.refl _ _).drew).trans O4))
  · -- a name: an airway or the nearest fix
    have HC:=Lib.hid (show zah (zai G) xs (zbc ⟨3,xn,xt⟩) i es=zfV (zai G) es ⟨3,xn,xt⟩ (xs.getD (i+1) noItem) i by unfold zah;rw [HX.out];rfl)
    have hes:=HNE.out (show (3:Int) ≠ 1 by decide)
    have hi1:=HKO.out.k3 EX.out
    obtain ⟨A7,c7,h7,hl7,hA7⟩:=HS.out.gd.air
    have kb:=Lib.hid (fun W' (D:Below w.heap.size w W')=>zje d.cells G.airways A7 c7 h7 hl7 HS.out.gd.airN xn W' (hA7.below D))
    have HAL:=Lib.hid (show zcc G.airways xn=match zaU xn G.airways with | none=>(zcg,6) | some a=>(a,0) from rfl)
    have HNS:=Lib.hid (show zfV (zai G) es ⟨3,xn,xt⟩ (xs.getD (i+1) noItem) i=match zaU xn G.airways with
      | some a=>((zbb (zai G) es a (xs.getD (i+1) noItem) i).1,(if (zbb (zai G) es a (xs.getD (i+1) noItem) i).2.2=0 then (i:Int)+1 else (zbb (zai G) es a (xs.getD (i+1) noItem) i).2.1,(zbb (zai G) es a (xs.getD (i+1) noItem) i).2.2))
      | none=>atI i (if (zd7 G es xn).2 ≠ 0 then (es,(zd7 G es xn).2) else zcn (zai G) es [zaI 2 (zd7 G es xn).1] 2 []) from rfl)
    generalize zah (zai G) xs (zbc ⟨3,xn,xt⟩) i es=out at *
    obtain ⟨r,hr⟩:∃ r,zcc G.airways xn=r:=⟨_,rfl⟩
    rw [hr] at kb HAL
    generalize wc=w2 at *
    have c1:w2.cell? ⟨q8,1,none⟩=some (.string ⟨xn.toArray⟩):=HX8.out.cell 1
    have k1:za7 w2 g 0:=⟨_,B1.out.db⟩
    have k2:zbQ w2 g 0=d.cells:=zaL B1.out.db
    have hgl:=B1.out.lt
    have hq8:=HX8.out.lt
    have HBL:=Lib.hid B1.out.bel
    clear hr h7 hl7 hA7
    go_upto_region 17 with (fail)
    go_cut [11,12] (fun u v wx=>∃ q cs,u=.pointer (some ⟨q,0,none⟩)∧v=.int .i64 r.2∧Blk wx q cs∧AwyAt wx cs r.1∧Below w2.heap.size w2 wx)
    case first=>
      generalize d.cells=cs at *
      clear HAL HNS HC
      go_region_with (go_at_call 84;(with_reducible refine zmJ (kb.out _ (by first | exact HBL.out.trans (((Below.refl _ _).drew).mono HBL.out.size) | exact zaa HBL.out (zaa (Below.refl _ _).drew (zac _ _)) | exact zaa HBL.out (Below.refl _ _).drew)) ?_);intro cs3 w3 h3 b3;obtain ⟨A6,c6,hcs,_,_⟩:=h3.ex;subst hcs;first | (have Y3:Blk w3 w2.heap.size (zao zcg none 0):=(((Blk.new w2 #[.string ⟨#[]⟩, .slice none 0 0] 81).step (Below.refl _ _).drew)).step b3;have e3:Below w2.heap.size w2 w3:=zaa (zac w2 (.cells #[.string ⟨#[]⟩, .slice none 0 0] 81)).drew b3;have d2:=Y3.plain;have d3:=Y3.of) | (have e3:Below w2.heap.size w2 w3:=zaa (Below.refl _ _).drew b3))
      all_goals
        go_wp2
        go_meet
        first
          | exact ⟨_,_,rfl,rfl,Blk.new _ _ _,h3.below (zac _ _),zaa e3 (zac _ _)⟩
          | exact ⟨_,_,rfl,rfl,(zcl _ _ _ _).1,h3.below (zcl _ _ _ _).2,zaa e3 (zcl _ _ _ _).2⟩
          | exact ⟨_,_,rfl,rfl,Y3.set _,h3.set2 Y3,zab e3 (Nat.le_refl _) _⟩
    case rest=>
    obtain ⟨q,cs,rfl,rfl,Q,HFar,BD⟩:=hcut
    have B2:=Lib.hid (B1.out.step BD)
    have O2:=Lib.hid (O1.out.trans (OnlyB.of BD))
    have c2:wc.cell? ⟨q8,1,none⟩=some (.string ⟨xn.toArray⟩):=(HX8.out.step BD).cell 1
    obtain ⟨A5,c5,hcs,_,_⟩:=HFar.ex
    subst hcs
    clear kb k1 k2 hgl hq8 HBL c1 BD
    cases hf:zaU xn G.airways with
    | some a=>
      rw [hf] at HNS HAL
      have hr:r=(a,0):=HAL.out
      subst hr
      have hmem:=ze5 hf
      have hsm:=HS.out.gd.airS a hmem
      have HO:=Lib.hid (show out=((zbb (zai G) es a (xs.getD (i+1) noItem) 0).1,((if (zbb (zai G) es a (xs.getD (i+1) noItem) 0).2.2=0 then (i:Int)+1 else (i:Int)+(zbb (zai G) es a (xs.getD (i+1) noItem) 0).2.1),(zbb (zai G) es a (xs.getD (i+1) noItem) 0).2.2)) by
        rw [HC.out,HNS.out]
        simp only
        rw [zpA (zai G) es a (xs.getD (i+1) noItem) i])
      have HLO:=Lib.hid (zub (zai G) es a (xs.getD (i+1) noItem))
      have kl:=Lib.hid (zoP HS.out es L c g wc B2.out (by omega) a (zao a A5 c5) HFar hsm i hi1 (by have:=HHN.out;omega) hes HNM.out)
      have j1:zce wc q 0:=⟨_,Q.is_awy rfl⟩
      have j2:zcz wc q 0=zao a A5 c5:=zby (Q.is_awy rfl)
      generalize zbb (zai G) es a (xs.getD (i+1) noItem) 0=r0 at *
      clear hf HNS HAL HC HFar Q hmem hsm
      go_wp2_with (go_at_call 85;(with_reducible refine zwj kl.out ?_);intro k4 w4 O4 g1 g2;have G1:=Lib.hid g1;have G2:=Lib.hid g2;clear g1 g2)
      go_ret3
      exact RetIt.two HO.out (O2.out.trans O4) G1.out G2.out HLO.out
    | none=>
      rw [hf] at HNS HAL
      have hr:r=(zcg,6):=HAL.out
      subst hr
      have HO:=Lib.hid (show out=atI i (if (zd7 G es xn).2 ≠ 0 then (es,(zd7 G es xn).2) else zcn (zai G) es [zaI 2 (zd7 G es xn).1] 2 []) by rw [HC.out,HNS.out])
      have HE6:=Lib.hid (zs1 G es xn)
      have hnl:=zjx HS.out.sh es xn
      have kn:=Lib.hid (zoI HS.out es L c g _ wc B2.out (by omega) hes xn hxn)
      generalize zd7 G es xn=nr at *
      obtain ⟨nf,ne⟩:=nr
      dsimp only at HO hnl kn HE6
      clear hf HNS HAL HC HFar Q
      by_cases hz:ne=0
      · subst hz
        have HO2:=Lib.hid (show out=atI i (zcn (zai G) es [zaI 2 nf] 2 []) by rw [HO.out,if_neg (not_not_intro rfl)])
        have kn2:=Lib.hid (show Calls Tryz.prog 86 #[.pointer (some ⟨g,0,none⟩), .string ⟨xn.toArray⟩] wc (Ret wc (.tuple #[.string ⟨nf.toArray⟩, .bool true])) from kn.out)
        clear HO kn
        go_wp2_with (first
          | (go_at_call 86;(with_reducible refine zaj kn2.out ?_);intro w5 b5 _ _ _)
          | (go_at_call 82;(with_reducible refine zch (zlY HS.out es L c g _ w5 (B2.out.step b5) (by omega) nf hnl 2) ?_);intro L8 c8 w8 B8 O8))
        go_ret3
        exact RetIt.one HO2.out B8 (O2.out.trans ((OnlyB.of b5).trans O8))
      · have h6:ne=6:=HE6.out.resolve_left hz
        subst h6
        have HO2:=Lib.hid (show out=atI i (es,6) by rw [HO.out,if_pos hz])
        have kn2:=Lib.hid (show Calls Tryz.prog 86 #[.pointer (some ⟨g,0,none⟩), .string ⟨xn.toArray⟩] wc (Ret wc (.tuple #[.string ⟨nf.toArray⟩, .bool false])) from kn.out)
        clear HO kn hz
        go_wp2_with (go_at_call 86;(with_reducible refine zaj kn2.out ?_);intro w5 b5 _ _ _)
        go_ret3
        exact RetIt.one (q:=(es,6)) HO2.out (B2.out.step b5) (O2.out.trans (OnlyB.of b5))
  · have HC:=Lib.hid (show zah (zai G) xs (zbc ⟨4,xn,xt⟩) i es=atI i (zcn (zai G) es [zaI 2 xn] 2 []) by unfold zah;rw [HX.out];rfl)
    have kf:=Lib.hid (zlY HS.out es L c g _ wc B1.out (by omega) xn hxn 2)
    have c1:wc.cell? ⟨q8,1,none⟩=some (.string ⟨xn.toArray⟩):=HX8.out.cell 1
    generalize zah (zai G) xs (zbc ⟨4,xn,xt⟩) i es=out at *
    go_wp2_with (go_at_call 82;(with_reducible refine zch kf.out ?_);intro L4 c4 w4 B4 O4)
    go_ret3
    exact RetIt.one HC.out B4 (O1.out.trans O4)
  · have HC:=Lib.hid (show zah (zai G) xs (zbc ⟨5,xn,xt⟩) i es=atI i (es,0) by unfold zah;rw [HX.out];rfl)
    generalize zah (zai G) xs (zbc ⟨5,xn,xt⟩) i es=out at *
    go_wp2
    go_ret3
    exact RetIt.one (q:=(es,0)) HC.out B1.out O1.out
  · have HC:=Lib.hid (show zah (zai G) xs (zbc ⟨6,xn,xt⟩) i es=atI i (zeY (zai G) es ⟨6,xn,xt⟩ z 2 3) by
      have e:xs.getD (xs.length - 1) noItem=z:=by rw [HM.out];exact HZ.out
      unfold zah;rw [HX.out,e];rfl)
    have kp:=Lib.hid (zgl HS.out es L c g _ wc B1.out (by omega) ⟨6,xn,xt⟩ z hxs hzs 2 3)
    have i1:zak wc q8 0:=⟨_,HX8.out.is_itm⟩
    have i2:zar wc q8 0=⟨6,xn,xt⟩:=zam HX8.out.is_itm
    have i3:zak wc q9 0:=⟨_,HX9.out.is_itm⟩
    have i4:zar wc q9 0=z:=zam HX9.out.is_itm
    generalize zah (zai G) xs (zbc ⟨6,xn,xt⟩) i es=out at *
    go_wp2_with (go_at_call 81;(with_reducible refine zch kp.out ?_);intro L4 c4 w4 B4 O4)
    go_ret3
    exact RetIt.one HC.out B4 (O1.out.trans O4)
  · have HC:=Lib.hid (show zah (zai G) xs (zbc ⟨7,xn,xt⟩) i es=atI i (zeY (zai G) es ⟨7,xn,xt⟩ z 3 4) by
      have e:xs.getD (xs.length - 1) noItem=z:=by rw [HM.out];exact HZ.out
      unfold zah;rw [HX.out,e];rfl)
    have kp:=Lib.hid (zgl HS.out es L c g _ wc B1.out (by omega) ⟨7,xn,xt⟩ z hxs hzs 3 4)
    have i1:zak wc q8 0:=⟨_,HX8.out.is_itm⟩
    have i2:zar wc q8 0=⟨7,xn,xt⟩:=zam HX8.out.is_itm
    have i3:zak wc q9 0:=⟨_,HX9.out.is_itm⟩
    have i4:zar wc q9 0=z:=zam HX9.out.is_itm
    generalize zah (zai G) xs (zbc ⟨7,xn,xt⟩) i es=out at *
    go_wp2_with (go_at_call 81;(with_reducible refine zch kp.out ?_);intro L4 c4 w4 B4 O4)
    go_ret3
    exact RetIt.one HC.out B4 (O1.out.trans O4)
  · have HC:=Lib.hid (show zah (zai G) xs (zbc ⟨8,xn,xt⟩) i es=zdH (zai G) es ⟨8,xn,xt⟩ (xs.getD (i - 1) noItem) (zbc ⟨8,xn,xt⟩) i by unfold zah;rw [HX.out];rfl)
    have hes:=HNE.out (show (8:Int) ≠ 1 by decide)
    have h1:=HKO.out.k8 EX.out
    have kd:=Lib.hid (zoM HS.out es L c g wc B1.out HEL.out hes i HHI.out HHN.out h1 (zeN (HXS.out i)))
    rw [HX.out] at kd
    have HDF:=Lib.hid (HC.out.trans (zrk (zai G) es ⟨8,xn,xt⟩ (xs.getD (i - 1) noItem) (zbc ⟨8,xn,xt⟩) i))
    have HDL:=Lib.hid (zvv (zai G) es ⟨8,xn,xt⟩ (xs.getD (i - 1) noItem) (zbc ⟨8,xn,xt⟩))
    have HDZ:=Lib.hid (zrj (zai G) es ⟨8,xn,xt⟩ (xs.getD (i - 1) noItem) (zbc ⟨8,xn,xt⟩))
    generalize zah (zai G) xs (zbc ⟨8,xn,xt⟩) i es=out at *
    generalize zdH (zai G) es ⟨8,xn,xt⟩ (xs.getD (i - 1) noItem) (zbc ⟨8,xn,xt⟩) 0=r0 at *
    clear h1 hes HC
    go_wp2_with (go_at_call 83;(with_reducible refine zwj kd.out ?_);intro k4 w4 O4 g1 g2;have G1:=Lib.hid g1;have G2:=Lib.hid g2;clear g1 g2)
    go_ret3
    exact RetIt.ke HDF.out (O1.out.trans O4) G1.out G2.out (by have:=HDL.out;omega) HDZ.out
end Go.Proofs.YtgoeedohgomodaaGreatDoor
namespace Go.Proofs.YtgoeedohgomodaaGreatDoor
open Go.RowKit Go.Sort
set_option maxRecDepth 100000
theorem zrR {n i:Nat} {s:List UInt8} {x:ItemV} (h:zd0 n i s=some x) (hk:x.kind=1):i=0:=by
  unfold zd0 at h
  split at h
  · split at h
    · injection h with h
      subst h
      dsimp only at hk
      by_cases h0:i=0
      · exact h0
      · rw [if_neg h0] at hk;omega
    · cases h
  · have:=zjH h;omega
theorem zpd {s:List UInt8} {x:ItemV} (h:zc5 s=some x) (hk:x.kind=3):x.name ≠ []:=by
  unfold zc5 at h
  split at h
  · split at h
    · cases h
    · rename_i h2
      injection h with h
      subst h
      dsimp only at hk
      exfalso
      revert hk
      unfold zbk
      split
      · intro h;omega
      · split
        · intro h;omega
        · split
          · intro h;omega
          · intro h;omega
  · split at h
    · injection h with h;subst h;dsimp only at hk;omega
    split at h
    · injection h with h;subst h;dsimp only at hk;omega
    split at h
    · rename_i hn
      injection h with h
      subst h
      rintro e
      dsimp only at e
      rw [e] at hn
      simp [zbF] at hn
    · cases h
theorem zoq {n i:Nat} {s:List UInt8} {x:ItemV} (h:zd0 n i s=some x) (hk:x.kind=3):x.name ≠ []:=by
  unfold zd0 at h
  split at h
  · split at h
    · injection h with h
      subst h
      dsimp only at hk
      split at hk <;> omega
    · cases h
  · exact zpd h hk
theorem ztl {ws:List (List UInt8)} {xs:List ItemV} (h:zhI ws xs) {i:Nat} (hi:i < xs.length) (hk:(xs.getD i noItem).kind=1):i=0:=by
  rw [List.getD_eq_getElem?_getD,List.getElem?_eq_getElem hi] at hk
  exact zrR (h.2 i (h.1 ▸ hi) hi).1 hk
theorem zpc {ws:List (List UInt8)} {xs:List ItemV} (h:zhI ws xs):∀ x ∈ xs,x.kind=3→x.name ≠ []:=fun x hx hk=>by
  obtain ⟨i,hi,rfl⟩:=List.mem_iff_getElem.1 hx
  exact zoq (h.2 i (h.1 ▸ hi) hi).1 hk
def zyv (parts:Array (Nat × Value)):Sem Value:=Instr.build 94 parts
theorem zt8 (parts:Array (Nat × Value)):Instr.build 94 parts=zyv parts:=rfl
theorem zuR (w:World) (cs:Array Value) (h:cs.size=9) (A:Option Addr) (n c:Nat):(zyv #[(0, .agg cs),(1, .slice A n c)]).run Tryz.prog w=.ok (.agg (zef cs (.slice A n c) (.slice none 0 0))) w:=by
  obtain ⟨l⟩:=cs
  obtain ⟨x0,x1,x2,x3,x4,x5,x6,x7,x8,rfl⟩:=zwa (l:=l) h
  exact run_build w _ _ _ (by kernel_rfl)
theorem zvi:(Tryz.prog.info? 94).map (·.size)=some 11:=by kernel_rfl
theorem ztP (d:DBs) (h9:zdg d.cells 9) {a b:Value}:(zef d.cells a b).size=11:=by unfold zef;rw [Array.size_append,show d.cells.size=9 from h9];rfl
theorem zwZ (d:DBs) (h1:zdQ d.cells) (a b:Value) (ha:a.oneCell'=true) (hb:b.oneCell'=true):(zef d.cells a b).all (·.oneCell')=true:=by
  rw [← Array.all_toList]
  unfold zef
  rw [Array.toList_append,List.all_append]
  simp only [List.all_cons,List.all_nil,ha,hb,Bool.and_true]
  exact h1
def zyc (p v:Value):Sem Unit:=Instr.storeAt 94 p v
theorem zr3 (p v:Value):Instr.storeAt 94 p v=zyc p v:=rfl
theorem zuI (w:World) (d:DBs) (h9:zdg d.cells 9) (h1:zdQ d.cells) (A B:Option Addr) (n c m e:Nat):(zyc (.pointer (some ⟨w.heap.size,0,none⟩)) (.agg (zef d.cells (.slice A n c) (.slice B m e)))).run Tryz.prog
    (w.alloc (.cells #[.string ⟨#[]⟩, .int .i64 0, .int .i64 0, .int .i64 0, .int .i64 0, .int .i64 0, .slice none 0 0, .slice none 0 0, .slice none 0 0, .slice none 0 0, .slice none 0 0] 94)) =
    .ok () (w.alloc (.cells (zef d.cells (.slice A n c) (.slice B m e)) 94)):=
  run_storeAt_new (P:=Tryz.prog) w 94 _ (zef d.cells (.slice A n c) (.slice B m e)) (by rw [ztP d h9];exact zvi) (by rw [ztP d h9];rfl) (zwZ d h1 _ _ rfl rfl)
attribute [local go_sem ↓] zjX zt8 zr3
attribute [local go_sem] zi4 zi3 zuR zuI ze8 zhL zlD zbv zbu zfS zfR zbV zbY
set_option maxHeartbeats 16000000 in
theorem zl0 (d:DBs) (G:GDB) (s:List UInt8) (hs:s.length≤4000000) (w:World) (hL:Laid w) (hD:GdAt w d G) (hG:G.short) (h1c:zdQ d.cells):
    Calls Tryz.prog 18 #[.agg d.cells, .string ⟨s.toArray⟩] w (RetEx w (zbR (zai G) s)):=by
  have HO:=Lib.hid (znX (zai G) s)
  have kp:=Lib.hid (fun W'=>znm s (by omega) W')
  have HSH:=Lib.hid (zgm hs)
  have HPO:=Lib.hid (fun h=>@zg6 s h)
  have HOKK:=Lib.hid (fun h=>@zsI s h)
  have HWL:=Lib.hid (fun x hx=>Nat.le_trans (zcZ 32 s x hx) hs)
  have HWN:=Lib.hid (List.length_pos_iff.2 (zey 32 s))
  have HD:=Lib.hid hD
  have HGS:=Lib.hid hG
  have HLW:=Lib.hid (fun W' (b:Below w.heap.size w W')=>hL.below b)
  have h9:=hD.db.ok.size
  have hz9:zdg d.cells 9:=h9
  generalize zbR (zai G) s=OUT at *
  generalize zap 32 s=ws at *
  generalize zag s=pr at *
  obtain ⟨⟨xs,pi⟩,pe⟩:=pr
  dsimp only at HO HSH HPO HOKK
  clear hL hD hG
  go_enter Tryz.func18,Tryz.ntmps18
  go_upto_region 1 with (fail)
  obtain ⟨D0,R0,B0⟩:=zvI w d.cells (plan0.arr none 0) 37 43
  generalize hW:World.alloc (World.alloc w _) _=W
  have hW':(w.alloc (.cells d.cells 37)).alloc (.cells (plan0.arr none 0) 43)=W:=hW
  rw [hW'] at D0 R0 B0
  clear hW hW'
  obtain ⟨gr,hgr⟩:∃ g,g=w.heap.size+1:=⟨_,rfl⟩
  rw [← hgr] at R0 ⊢
  have hge:w.heap.size≤gr:=by omega
  clear hgr
  obtain ⟨gd,hgd⟩:∃ g,g=w.heap.size:=⟨_,rfl⟩
  rw [← hgd] at D0 ⊢
  clear hgd
  by_cases hz:pe=0
  rotate_left
  · have hz':(pe != 0)=true:=by simpa using hz
    have HE:=Lib.hid (HO.out.trans (if_pos hz))
    have HR:=Lib.hid R0
    have HB:=Lib.hid B0
    clear HO hz R0 D0 B0
    go_wp2_with (go_at_call 12;(with_reducible refine zen (kp.out _) ?_);intro A1 c1 w1 hc1 I1 g1 b1;have R1:=HR.out.step b1;have d2:=R1.plain;have d3:=R1.of)
    exact bodyPost_ret (zbW Tryz.results18 _ _ gr (plan0.arr none 0) 4 _ rfl rfl (R1.set _).cell Tryz.underlying43 rfl zcE) rfl (RetEx.err HE.out (zab (zaa HB.out b1) hge _))
  subst hz
  have HO2:=Lib.hid (HO.out.trans (if_neg (not_not_intro rfl)))
  clear HO
  obtain ⟨ok,h124,hw1,hwt⟩:=HPO.out rfl
  have hokk:=HOKK.out rfl
  have hlen:=ok.1
  have HOK:=Lib.hid ok
  have HW1:=Lib.hid hw1
  have hx124:xs.length≤124:=by omega
  have HX2:=Lib.hid (show 2≤xs.length by have:=HWN.out;omega)
  have HLN:=Lib.hid hlen
  have HWU:=Lib.hid (fun i (hi:i < xs.length)=>show ws.getD i []=zbc (xs.getD i noItem) by
    rw [hwt,List.getD_eq_getElem?_getD,List.getElem?_map,List.getD_eq_getElem?_getD,List.getElem?_eq_getElem hi]
    exact (zuv (hokk _ (List.getElem_mem hi))).symm)
  clear ok hwt hw1 HPO hlen hokk HOKK
  go_upto_region 4 with (go_at_call 12;(with_reducible refine zen (kp.out _) ?_);intro A1 c1 w2 hc1 I2 g1 b1)
  have D2:=D0.step b1
  have R2:=R0.step b1
  have B2:=Lib.hid (zaa B0 b1)
  clear D0 R0 B0 kp b1 g1
  have k1:za7 w2 gd 0:=⟨_,D2.is_db h9⟩
  have k2:zbQ w2 gd 0=d.cells:=zaL (D2.is_db h9)
  have HRS:=Lib.hid (show RS w2 d G A1 c1 xs from ⟨HLW.out w2 B2.out,HD.out.below B2.out,HGS.out,I2,hc1,HSH.out⟩)
  go_upto_region 5 with (fail)
  have X3:Bu w2 (w2.alloc (.cells (zef d.cells (.slice A1 xs.length c1) (.slice none 0 0)) 94)) w2.heap.size d.cells (.slice A1 xs.length c1) none 0 []:=
    ⟨Blk.new _ _ _,h9,Ents.nil _ _,(fun _ h=>by cases h),Nat.le_refl _,zac _ _,Nat.le_refl _⟩
  have D3:=zac w2 (.cells (zef d.cells (.slice A1 xs.length c1) (.slice none 0 0)) 94)
  have HR2:=Lib.hid (fun W' (b:Below w2.heap.size w2 W')=>R2.step b)
  have hgr2:=R2.lt
  clear k1 k2 D2 I2 hc1 R2
  generalize hw3:World.alloc w2 _=w3
  have hw3':w2.alloc (.cells (zef d.cells (.slice A1 xs.length c1) (.slice none 0 0)) 94)=w3:=hw3
  rw [hw3'] at X3 D3
  clear hw3 hw3'
  obtain ⟨g,hg⟩:∃ g,g=w2.heap.size:=⟨_,rfl⟩
  rw [← hg] at X3 ⊢
  have HG:=Lib.hid hg
  clear hg
  have HX3:=Lib.hid X3
  have HD3:=Lib.hid D3
  clear X3 D3
  go_upto_region 6 with (fail)
  go_loopw [11] (fun iv wr=>∃ (i:Nat) (es:List Entry) (L:Option Addr) (c f:Nat),iv=.int .i64 i∧i≤xs.length∧xs.length≤i+f∧za2 (zai G) xs ws xs.length 0 []=za2 (zai G) xs ws f i es∧LOk (2000 * i) es∧(1≤i→es ≠ [])∧(i=0→es=[])∧Bu w2 wr g d.cells (.slice A1 xs.length c1) L c es∧OnlyB g w3 wr) (fun iv _=>xs.length - (intOf iv).toNat)
  case atStart=>exact ⟨0,[],none,0,xs.length,rfl,Nat.zero_le _,by omega,rfl,LOk.nil,(fun h=>absurd h (by omega)),(fun _=>rfl),HX3.out,OnlyB.refl _ _⟩
  case round=>
    obtain ⟨i,es,L,c,f,rfl,hi,hf,hgo,hE,hne,h0,X,O⟩:=hrel
    have HGO:=Lib.hid hgo
    have HE:=Lib.hid hE
    have HNE:=Lib.hid hne
    have HZ0:=Lib.hid h0
    have HX:=Lib.hid X
    have HO:=Lib.hid O
    clear hgo hE hne h0 X O
    by_cases hlt:i < xs.length
    · have hlt':(i:Int) < (xs.length:Int):=by omega
      have H1:=Lib.hid (show (xs.getD i noItem).kind ≠ 1→1≤i from fun hk=>by
        rcases Nat.eq_zero_or_pos i with e | e
        · subst e;exact absurd (zpW HOK.out hlt) hk
        · exact e)
      have kst:=Lib.hid (znp HRS.out es L c g wr HX.out (HE.out.mono (by omega)) i hlt hx124 (zth HOK.out HW1.out hlt) (ztl HOK.out hlt) (fun hk=>HNE.out (H1.out hk)) H1.out (zpc HOK.out))
      obtain ⟨f',rfl⟩:∃ f',f=f'+1:=⟨f - 1,by omega⟩
      have HER:=Lib.hid (fun he=>HGO.out.trans (ztr (R:=zai G) (ws:=ws) (f:=f') (l:=es) hlt he))
      have HOKS:=Lib.hid (fun he=>HGO.out.trans (zwe (R:=zai G) (ws:=ws) (f:=f') (l:=es) hlt he))
      rw [HWU.out i hlt] at HER HOKS
      have HON:=Lib.hid (fun he=>zrZ HGS.out HD.out.airS HOK.out HW1.out HSH.out hlt HE.out HNE.out (zbc (xs.getD i noItem)) he HZ0.out)
      generalize zah (zai G) xs (zbc (xs.getD i noItem)) i es=r at *
      obtain ⟨rl,rj,re⟩:=r
      dsimp only at HER HOKS HON kst
      by_cases hz:re=0
      · subst hz
        obtain ⟨j,hj1,rfl,hj2,hj3,hj4⟩:=HON.out rfl
        have HGN:=Lib.hid (HOKS.out rfl)
        have HJ3:=Lib.hid hj3
        have HJ4:=Lib.hid hj4
        have hj5:j≤124:=by omega
        clear HER HOKS HON hj3 hj4 H1
        have ks:=Lib.hid (Calls.mono (R':=fun e W'=>∃ (n k:Int) (L5:Option Addr) (c5:Nat),e=.returned (.tuple #[.int .i64 n, .int .i64 k, .int .i64 0])∧1≤n∧n≤2∧(i:Int)+n=(j:Int)+1∧OnlyB g wr W'∧Bu w2 W' g d.cells (.slice A1 xs.length c1) L5 c5 rl) kst.out (fun e W' ⟨n,k,h1,h2,h3,h4⟩=>by
          obtain ⟨⟨a1,a2,a3⟩,L5,c5,h5⟩:=h3 rfl
          exact ⟨n,k,L5,c5,h1,a1,a2,a3,h2,h5⟩))
        go_wp2_with (go_at_call 42;(refine ks.out.mono ?_);rintro e w5 ⟨n,k,L5,c5,rfl,hn1,hn2,hn3,O5,B5⟩)
        go_roundw
        case rel=>exact ⟨j+1,rl,L5,c5,f',by first | go_num | (rw [hn3];go_num) | (congr 1;omega),by omega,by omega,by rw [HGN.out,Int.toNat_natCast],HJ3.out,(fun _=>HJ4.out),(fun h=>absurd h (by omega)),B5,HO.out.trans O5⟩
        case measure=>simp [intOf];omega
      · have hz':(re != 0)=true:=by simpa using hz
        have HGE:=Lib.hid (HER.out hz)
        have HOE:=Lib.hid (show OUT=((plan0,rj),re) by rw [HO2.out,HGE.out,if_pos hz])
        have ks:=Lib.hid (Calls.mono (R':=fun e W'=>∃ (n k:Int),e=.returned (.tuple #[.int .i64 n, .int .i64 k, .int .i64 re])∧-1≤k∧k≤1∧RowKit.Hid ((i:Int)+k=rj)∧OnlyB g wr W') kst.out (fun e W' ⟨n,k,h1,h2,h3,h4⟩=>by
          obtain ⟨a1,a2,a3⟩:=h4 hz
          exact ⟨n,k,h1,a1,a2,Lib.hid a3,h2⟩))
        clear HER HOKS HON hz H1 kst
        go_wp2_with (go_at_call 42;(refine ks.out.mono ?_);rintro e w5 ⟨n,k,rfl,hn1,hn2,hn3,O5⟩;have b5:=(HO.out.trans O5).below HD3.out (by have:=HG.out;omega);have R5:=HR2.out _ b5;have d2:=R5.plain;have d3:=R5.of)
        exact bodyPost_ret (zbW Tryz.results18 _ _ gr (plan0.arr none 0) 4 _ rfl rfl (R5.set _).cell Tryz.underlying43 rfl zcE) rfl (RetEx.err (by rw [hn3.out];exact HOE.out) (zab (zaa B2.out b5) hge _))
    · obtain rfl:i=xs.length:=by omega
      have hlt':¬ (xs.length:Int) < (xs.length:Int):=by omega
      have HGN:=Lib.hid (show za2 (zai G) xs ws xs.length 0 []=(es,(0,0)) from HGO.out.trans (zts (Nat.le_refl _)))
      have HO3:=Lib.hid (show OUT=if zaq (zdE ws es) ≠ 0 then ((plan0,(ws.length:Int)),zaq (zdE ws es)) else ((zdE ws es,0),0) by rw [HO2.out,HGN.out];exact if_neg (not_not_intro rfl))
      have b4:Below w2.heap.size w2 wr:=HX.out.bel
      have HX2':=HX2.out
      obtain ⟨n,hn⟩:∃ n,xs.length=n+1:=⟨xs.length - 1,by omega⟩
      have hwh:ws.headD []=zbc (xs.getD 0 noItem):=by rw [← HWU.out 0 (by omega),zmx,List.getD_eq_getElem?_getD]
      have hwl:ws.getLastD []=zbc (xs.getD n noItem):=by rw [← HWU.out n (by omega),zgw,List.getD_eq_getElem?_getD,← HLN.out,hn];rfl
      have hx0:=zaM HSH.out 0
      have hxl:=zaM HSH.out n
      obtain ⟨bA,oA,hA0,hc0,hcl0⟩:=HRS.out.itm (i:=0) (by omega)
      obtain ⟨bB,oB,hA1,hcn,hcln⟩:=HRS.out.itm (i:=n) (by omega)
      obtain ⟨rfl,rfl⟩:bB=bA∧oB=oA:=by
        rw [hA0] at hA1
        injection hA1 with e1
        injection e1 with e2 e3
        exact ⟨e2.symm,e3.symm⟩
      have IS:=Lib.hid (fun W' (D:Below wr.heap.size wr W')=>show (zak W' bB oB∧zar W' bB oB=xs.getD 0 noItem)∧(zak W' bB (oB+n * 3)∧zar W' bB (oB+n * 3)=xs.getD n noItem)∧W'.cell? ⟨g,10,none⟩=some (.slice L es.length c) from by
        have q0:=hcl0 W' (zaa b4 D)
        rw [Nat.zero_mul,Nat.add_zero] at q0
        exact ⟨⟨⟨_,q0⟩,zam q0⟩,⟨⟨_,hcln W' (zaa b4 D)⟩,zam (hcln W' (zaa b4 D))⟩,(HX.out.step D).c10⟩)
      have hsm:(zdE ws es).small:=by
        refine ⟨?_,?_,Nat.le_trans HE.out.len (by omega),HE.out.small⟩
        · show (ws.headD []).length≤_
          rw [hwh];exact zeN hx0
        · show (ws.getLastD []).length≤_
          rw [hwl];exact zeN hxl
      have HP:=Lib.hid (show zdE ws es=⟨zbc (xs.getD 0 noItem),zbc (xs.getD n noItem),es, -1⟩ by rw [← hwh,← hwl];rfl)
      have HO4:=Lib.hid (show OUT=if zaq (zdE ws es) ≠ 0 then ((plan0,(n:Int)+1),zaq (zdE ws es)) else ((zdE ws es,0),0) by rw [HO3.out,← HLN.out,hn];rfl)
      have hcap:(zdE ws es).es.length≤c:=HX.out.cap
      have hents:Ents wr L (zdE ws es).es:=HX.out.ents
      have kw0:=Lib.hid (fun W'=>zeS (xs.getD 0 noItem) hx0.small W')
      have kwl:=Lib.hid (fun W'=>zeS (xs.getD n noItem) hxl.small W')
      have hnn':n+1≤124:=by omega
      rw [hn]
      rw [hA0]
      generalize zbc (xs.getD 0 noItem)=hd at *
      generalize zbc (xs.getD n noItem)=lt at *
      generalize xs.getD 0 noItem=x0 at *
      generalize xs.getD n noItem=xl at *
      generalize zdE ws es=p at *
      have HR4:=Lib.hid (HR2.out wr b4)
      have HB4:=Lib.hid (zaa B2.out b4)
      have HC:=Lib.hid hcap
      have HEn:=Lib.hid hents
      have HSM:=Lib.hid hsm
      have hwn:IntKind.i64.wrap (n:Int)=(n:Int):=by rw [IntKind.wrap_i64];omega
      have hnn:(n:Int) < (n:Int)+1:=by omega
      have hn0:(0:Int) < (n:Int)+1:=by omega
      have hnl:n < n+1:=by omega
      have hnz:0 < n+1:=by omega
      have HNN:=Lib.hid hn
      clear hwh hwl hsm hcap hents HO2 HO3 hn hlt HX3 h124 hcl0 hcln hA0 hA1 hx0 hxl hx124 hi hf HX2' b4
      go_upto_region 11 with (fail)
      go_cut [15] (fun v wx=>∃ gq,v=.pointer (some ⟨gq,0,none⟩)∧Blk wx gq (p.arr L c)∧Below wr.heap.size wr wx)
      case first=>
        go_region_held3 (fun w'=>(zak w' bB oB∧zar w' bB oB=x0)∧(zak w' bB (oB+n * 3)∧zar w' bB (oB+n * 3)=xl)∧w'.cell? ⟨g,10,none⟩=some (.slice L es.length c))
          ((refine IS.out _ ?_;repeat' (first | assumption | omega | (refine zab ?_ ?_ _) | (refine Below.alloc ?_ ?_ _) | (refine Below.drew ?_) | exact Below.refl _ _ | (simp;done) | (simp;omega))))
          (first
            | (go_at_call 43;(with_reducible refine zaj (kw0.out _) ?_);intro w6 b6 _ _ _;have f6:Below wr.heap.size wr w6:=zaa (by repeat' (first | assumption | omega | (refine Below.alloc ?_ ?_ _) | (refine Below.drew ?_) | exact Below.refl _ _ | (simp;done) | (simp;omega))) b6;have s6:=f6.size
               first
               | (have Yb:Blk w6 w7.heap.size (plan0.arr none 0):=(Blk.new w7 (plan0.arr none 0) 43).step b6;have d2:=Yb.plain;have d3:=Yb.of)
               | (have Yb:Blk w6 wr.heap.size (plan0.arr none 0):=Ya.step b6;have d2:=Yb.plain;have d3:=Yb.of)
               | (have Ya:Blk w6 wr.heap.size (plan0.arr none 0):=((Blk.new wr (plan0.arr none 0) 43).step (Below.refl _ _).drew).step b6;have d2:=Ya.plain;have d3:=Ya.of)
               | skip)
            | (go_at_call 43;(with_reducible refine zaj (kwl.out _) ?_);intro w7 b7 _ _ _;have f7:Below wr.heap.size wr w7:=zaa (by repeat' (first | assumption | omega | (refine Below.alloc ?_ ?_ _) | (refine Below.drew ?_) | exact Below.refl _ _ | (simp;done) | (simp;omega))) b7;have s7:=f7.size
               first
               | (have Yb:Blk w7 w6.heap.size (plan0.arr none 0):=(Blk.new w6 (plan0.arr none 0) 43).step b7;have d2:=Yb.plain;have d3:=Yb.of)
               | (have Yb:Blk w7 wr.heap.size (plan0.arr none 0):=Ya.step b7;have d2:=Yb.plain;have d3:=Yb.of)
               | (have Ya:Blk w7 wr.heap.size (plan0.arr none 0):=((Blk.new wr (plan0.arr none 0) 43).step (Below.refl _ _).drew).step b7;have d2:=Ya.plain;have d3:=Ya.of)
               | skip))
        all_goals
          go_wp2
          go_meet
          rw [HP.out]
          first
            | exact ⟨_,rfl,Blk.new _ _ _,zaa f7 (zac _ _)⟩
            | exact ⟨_,rfl,Blk.new _ _ _,zaa f6 (zac _ _)⟩
            | exact ⟨_,rfl,Yb.set _,zab f7 (by first | exact Nat.le_refl _ | exact s6 | exact s7) _⟩
            | exact ⟨_,rfl,Yb.set _,zab f6 (by first | exact Nat.le_refl _ | exact s6 | exact s7) _⟩
            | exact ⟨_,rfl,(zcl _ _ _ _).1,zaa f7 (zcl _ _ _ _).2⟩
            | exact ⟨_,rfl,(zcl _ _ _ _).1,zaa f6 (zcl _ _ _ _).2⟩
      case rest=>
      obtain ⟨gq,rfl,Q,BC⟩:=hcut
      have R5:=Lib.hid (HR4.out.step BC)
      have B5:=Lib.hid (zaa HB4.out BC)
      have i1:zcB wc gq 0:=⟨_,Q.is_plan rfl⟩
      have i2:zcN wc gq 0=p.arr L c:=zb9 (Q.is_plan rfl)
      have k0:=Lib.hid (show Calls Tryz.prog 44 #[.agg (p.arr L c)] wc (Ret wc (.int .i64 (zaq p))) from zks p L c wc HSM.out HC.out (HEn.out.below (B:=0) BC))
      have HEc:=Lib.hid (HEn.out.below (B:=0) BC)
      have HQ:=Lib.hid Q
      clear Q BC HR4 HB4 IS HX HR2 HRS kw0 kwl
      by_cases h1:zaq p=0
      rotate_left
      · have HS:=Lib.hid (show OUT=((plan0,(n:Int)+1),zaq p) from HO4.out.trans (if_pos h1))
        generalize zaq p=z at k0 HS h1
        have h1':(z != 0)=true:=by simpa using h1
        clear HO4 h1
        go_wp2_with (go_at_call 44;(with_reducible refine zaj k0.out ?_);intro w6 b6 _ _ _;have R6:=R5.out.step b6;have d2:=R6.plain;have d3:=R6.of)
        exact bodyPost_ret (zbW Tryz.results18 _ _ gr (plan0.arr none 0) 4 _ rfl rfl (R6.set _).cell Tryz.underlying43 rfl zcE) rfl (RetEx.err HS.out (zab (zaa B5.out b6) hge _))
      · have HS:=Lib.hid (show OUT=((p,0),0) from HO4.out.trans (if_neg (not_not_intro h1)))
        rw [h1] at k0
        clear HO4 h1
        go_wp2_with (go_at_call 44;(with_reducible refine zaj k0.out ?_);intro w6 b6 _ _ _;have R6:=R5.out.step b6;have d2:=R6.plain;have d3:=R6.of;have j1:zcB w6 gq 0:=⟨_,(HQ.out.step b6).is_plan rfl⟩;have j2:zcN w6 gq 0=p.arr L c:=zb9 ((HQ.out.step b6).is_plan rfl))
        exact bodyPost_ret (zbW Tryz.results18 _ _ gr (p.arr L c) 4 _ rfl rfl (R6.set _).cell Tryz.underlying43 rfl zcE) rfl ⟨L,c,by rw [HS.out];rfl,by rw [HS.out];exact HC.out,by rw [HS.out];exact (HEc.out.below (B:=0) b6).setRow4R R6 rfl _,zab (zaa B5.out b6) hge _⟩
end Go.Proofs.YtgoeedohgomodaaGreatDoor
namespace Go.Proofs.YtgoeedohgomodaaGreatDoor
open Go.RowKit Go.Sort
set_option maxRecDepth 100000
theorem zoA (p:Plan):zmZ p p=true:=by simp [zmZ,(zp7 p.es p.es).2 rfl]
set_option maxHeartbeats 16000000 in
theorem zij (d:DBs) (G:GDB) (s:List UInt8) (w:World) (hL:Laid w) (hD:GdAt w d G) (hS:G.short) (h1c:d.cells.toList.all (·.oneCell')=true) (hs:s.length≤4000000):
    Calls Tryz.prog 5 #[.agg d.cells, .string ⟨s.toArray⟩] w (Ret w (.bool true)):=by
  have hsz:=hD.db.ok.size
  have KA:=Lib.hid (fun W (b:Below w.heap.size w W)=>zpx W (hL.below b))
  have KF:=Lib.hid (fun W (b:Below w.heap.size w W)=>ztx d G s hs W (hD.below b))
  have KE:=Lib.hid (fun W (b:Below w.heap.size w W)=>zjg d G s hs W (hL.below b) (hD.below b) hS)
  have KX:=Lib.hid (fun W (b:Below w.heap.size w W)=>zl0 d G s hs W (hL.below b) (hD.below b) hS h1c)
  have hlen:(zbR (zai G) s).1.1.es.length≤4000000000:=by
    by_cases h:(zbR (zai G) s).2=0
    · exact (zmy hS hD.airS hs h).len
    · rw [zqL h];simp [plan0]
  generalize zbR (zai G) s=R at *
  obtain ⟨⟨p,pj⟩,pe⟩:=R
  dsimp only at hlen
  generalize d.cells=cs at *
  clear hL hD
  go_enter Tryz.func5,Tryz.ntmps5
  go_upto_region 1 with (fail)
  have D0:=Blk.new w cs 37
  have B0:=zac w (.cells cs 37)
  generalize w.alloc _=W at D0 B0 ⊢
  obtain ⟨gd,hgd⟩:∃ g,g=w.heap.size:=⟨_,rfl⟩
  rw [← hgd] at D0 ⊢
  clear hgd
  go_upto_region 3 with (go_at_call 10;(with_reducible refine zaj (KA.out _ B0) ?_);intro w1 b1 _ _ _)
  have D1:=D0.step b1
  have B1:=zaa B0 b1
  have k1:za7 w1 gd 0:=⟨_,D1.is_db hsz⟩
  have k2:zbQ w1 gd 0=cs:=zaL (D1.is_db hsz)
  clear D0 B0 b1 KA
  go_upto_if 16 with (go_at_call 14;(with_reducible refine zwW (KF.out _ B1) ?_);intro bf w2 b2)
  have D2:=D1.step b2
  have B2:=Lib.hid (zaa B1 b2)
  clear D1 B1 b2 k1 k2 KF
  cases bf with
  | false=>
    go_wp2
    go_ret
    exact Ret.bool rfl B2.out
  | true=>
  have k1:za7 w2 gd 0:=⟨_,D2.is_db hsz⟩
  have k2:zbQ w2 gd 0=cs:=zaL (D2.is_db hsz)
  have HD2:=Lib.hid D2
  have ke:=Lib.hid (KE.out w2 B2.out)
  clear D2 KE
  go_upto_region 6 with (go_at_call 17;(with_reducible refine ztN ke.out ?_);intro A3 c3 w3 hc3 E3 b3)
  have bA:=zac w3 (.cells (p.arr A3 c3) 43)
  have Q:=Blk.new w3 (p.arr A3 c3) 43
  have D4:=HD2.out.step (zaa b3 bA)
  have E4:=E3.below (B:=0) bA
  have B4:=Lib.hid (zaa B2.out (zaa b3 bA))
  clear k1 k2 ke HD2 B2 b3 bA E3
  generalize w3.alloc _=w4 at Q D4 E4 B4 ⊢
  generalize w3.heap.size=gq at Q ⊢
  have k1:za7 w4 gd 0:=⟨_,D4.is_db hsz⟩
  have k2:zbQ w4 gd 0=cs:=zaL (D4.is_db hsz)
  have kx:=Lib.hid (KX.out w4 B4.out)
  have HQ:=Lib.hid Q
  have HE:=Lib.hid E4
  clear KX Q E4 D4
  go_upto_region 7 with (go_at_call 18;(with_reducible refine ztN kx.out ?_);intro A5 c5 w5 hc5 E5 b5)
  have bB:=zac w5 (.cells (p.arr A5 c5) 43)
  have Z:=Blk.new w5 (p.arr A5 c5) 43
  have Q6:=HQ.out.step (zaa b5 bB)
  have E6:=HE.out.below (B:=0) (zaa b5 bB)
  have F6:=E5.below (B:=0) bB
  have B6:=Lib.hid (zaa B4.out (zaa b5 bB))
  clear k1 k2 kx HQ HE B4 b5 bB E5
  generalize w5.alloc _=w6 at Z Q6 E6 F6 B6 ⊢
  generalize w5.heap.size=gz at Z ⊢
  have i1:zcB w6 gq 0:=⟨_,Q6.is_plan rfl⟩
  have i2:zcN w6 gq 0=p.arr A3 c3:=zb9 (Q6.is_plan rfl)
  have i3:zcB w6 gz 0:=⟨_,Z.is_plan rfl⟩
  have i4:zcN w6 gz 0=p.arr A5 c5:=zb9 (Z.is_plan rfl)
  have ks:=Lib.hid (show Calls Tryz.prog 19 #[.agg (p.arr A3 c3), .agg (p.arr A5 c5)] w6 (Ret w6 (.bool true)) from zoA p ▸ zsu p p A3 A5 c3 c5 w6 hlen hlen hc3 hc5 E6 F6)
  clear Q6 Z E6 F6
  go_wp2_with (go_at_call 19;(with_reducible refine zaj ks.out ?_);intro w7 b7 _ _ _)
  go_ret
  exact Ret.bool (by simp) (zaa B6.out b7)
end Go.Proofs.YtgoeedohgomodaaGreatDoor
namespace Go.Proofs.YtgoeedohgomodaaGreatDoor.routeExpands
open Go.ChangeShapes Go.WideShapes Go.ChangeAt Go.RowKit
theorem own:ownKnob Tryz.prog.godebug=none:=by kernel_rfl
theorem laidOut:laidOutB Tryz.prog=true:=by kernel_rfl
theorem opens {W:World} (h:laidMetH Tryz.prog Rows.routeExpandsUptoRow.laid W) (hsh:W.ShapedOpen Tryz.prog):Laid W:=
  zte (l:=Rows.routeExpandsUptoRow.laid) h hsh (by first | exact List.mem_of_getElem? (i:=0) rfl | exact List.mem_of_getElem? (i:=1) rfl | exact List.mem_of_getElem? (i:=2) rfl | exact List.mem_of_getElem? (i:=3) rfl | exact List.mem_of_getElem? (i:=4) rfl | exact List.mem_of_getElem? (i:=5) rfl | exact List.mem_of_getElem? (i:=6) rfl | exact List.mem_of_getElem? (i:=7) rfl | exact List.mem_of_getElem? (i:=8) rfl | exact List.mem_of_getElem? (i:=9) rfl | exact List.mem_of_getElem? (i:=10) rfl | exact List.mem_of_getElem? (i:=11) rfl | exact List.mem_of_getElem? (i:=12) rfl | exact List.mem_of_getElem? (i:=13) rfl)
set_option maxRecDepth 100000 in
theorem contract (H:Type) (enc:TypeId × Value→H) (W:World) (base:Nat) (args:Array Value) (ds gs:List (DataW H)) (before:List MemPlace)
    (hval:∀ (j:Nat) t v,Tryz.f5.params[j]? = some t→args[j]? = some v→Value.okWide Tryz.prog W .any base t v)
    (hW:DataW.Whole enc Tryz.prog Tryz.f5.params.toList Rows.routeExpandsSpec.vars false W args.toList ds gs before) (hL:laidMetH Tryz.prog Rows.routeExpandsUptoRow.laid W) (hsh:W.ShapedOpen Tryz.prog) (hk:Rows.uptoSmall H (ds ++ gs)=true):
    Calls Tryz.prog 5 args W fun e W'=>∃ v,e=.returned v∧Rows.routeExpandsSpec.post enc Tryz.prog Tryz.f5 false true false false W args v W':=by
  have OP:=opens hL hsh
  have hW':=hW
  obtain ⟨p,q,hA0,hV,rfl,hfz,hnd⟩:=hW
  have hA:DataW.TrodAll enc Tryz.prog W 0 (fun _=>true) true Tryz.f5.params.toList args.toList ds p:=hA0
  rw [Tryz.params5] at hA hval
  obtain ⟨v0,vs0,d0,ds0,pl0,ql0,hargs,rfl,rfl,h0,r0⟩:=trodAll_cons hA
  obtain ⟨v1,vs1,d1,ds1,pl1,ql1,rfl,rfl,rfl,h1,r1⟩:=trodAll_cons r0
  obtain ⟨rfl,rfl,rfl⟩:=trodAll_nil r1
  obtain rfl:args=#[v0,v1]:=by cases args;simp_all
  obtain ⟨rfl,rfl⟩:=trodVars_none hV
  have hb:=of_decide_eq_true hk
  simp only [List.append_nil,Rows.uptoBulkAll] at hb
  have hk0:=h0
  obtain ⟨d0,G0,rfl,D0,S0,one0⟩:=zsS (hval 0 37 v0 rfl rfl) h0 (by omega)
  have hk1:=h1
  obtain ⟨s1,rfl,sl1⟩:=zsO (hval 1 9 v1 rfl rfl) h1
  have walk:=zij d0 G0 s1 W OP D0 S0 one0 (by omega)
  refine walk.mono fun e W' ⟨he,hg⟩=>?_
  subst he
  have hl0:∀ x ∈ pl0,x.block < W.heap.size:=fun x hx=>by simpa using hW'.lt x (by simp [hx])
  have hl1:∀ x ∈ pl1,x.block < W.heap.size:=fun x hx=>by simpa using hW'.lt x (by simp [hx])
  refine ⟨_,rfl,_,_,_,[],(pl0 ++ (pl1 ++ [])),[],hW',?_,?_,rfl,?_,fun h=>by cases h⟩
  · exact trodAll_cons_mk (shut_bool Tryz.underlying4 _) trodAll_mk0
  · exact (trodAll_cons_mk (Below.trod laidOut (by kernel_rfl) (of_decide_eq_true (by kernel_rfl)) hk0 hg hl0) (trodAll_cons_mk (Below.trod laidOut (by kernel_rfl) (of_decide_eq_true (by kernel_rfl)) hk1 hg hl1) trodAll_mk0))
  · exact hg.frame _
theorem reads (os:Os) {H:Type} (enc:TypeId × Value→H):∃ places,DataW.whole enc Tryz.prog ((World.laidAll Tryz.prog os Rows.routeExpandsUptoRow.laid).forCall (fun _ _=>0) ⟨#[],#[.agg #[.string ⟨#[]⟩, .int .i64 0, .int .i64 0, .int .i64 0, .int .i64 0, .int .i64 0, .slice none 0 0, .slice none 0 0, .slice none 0 0], .string ⟨#[]⟩],[]⟩).memory Tryz.f5.params.toList Rows.routeExpandsSpec.vars false (#[.agg #[.string ⟨#[]⟩, .int .i64 0, .int .i64 0, .int .i64 0, .int .i64 0, .int .i64 0, .slice none 0 0, .slice none 0 0, .slice none 0 0], .string ⟨#[]⟩]:Array Value).toList 8=some ([.agg [.agg [.lit (.string []), .lit (.int .i64 0), .lit (.int .i64 0), .lit (.int .i64 0), .agg [.lit (.int .i64 0), .lit (.int .i64 0)]], .nil, .nil, .nil], .lit (.string [])],[],places):=
  ⟨[],by kernel_rfl⟩
set_option maxRecDepth 100000 in
theorem zq6 (os:Os) (started:os.Started) (H:Type) (enc:TypeId × Value→H) (F:Stop.Interp):
    ReturnsInHanded {} Tryz.checked os 5 .any ((Rows.OpenSpec.upto Rows.routeExpandsSpec).preRow enc Tryz.prog Tryz.f5 Rows.routeExpandsUptoRow.domain false Rows.routeExpandsUptoRow.laid) (((Rows.OpenSpec.upto Rows.routeExpandsSpec).at F).post enc Tryz.prog Tryz.f5 false true false false):=by
  obtain ⟨places,hx⟩:=reads os enc
  refine returnsInHanded_of_row (C:=Tryz.checked) (s:=Rows.OpenSpec.upto Rows.routeExpandsSpec) own started (by kernel_rfl) Tryz.func5
    (witness_row_atRef (enc:=enc) (C:=Tryz.checked) false (World.laidAll Tryz.prog os Rows.routeExpandsUptoRow.laid) #[.agg #[.string ⟨#[]⟩, .int .i64 0, .int .i64 0, .int .i64 0, .int .i64 0, .int .i64 0, .slice none 0 0, .slice none 0 0, .slice none 0 0], .string ⟨#[]⟩] (World.laidAll_os _ _ _) (by kernel_rfl) (by kernel_rfl) (by kernel_rfl)
      (OpenSpec.preRow_of_cond 8 hx (by kernel_rfl) (fun k hk=>by cases hk;kernel_rfl) (by kernel_rfl) (laidMet_laidAll _ (by kernel_rfl) (by kernel_rfl)))) ?_
  intro W base args ds gs before hval hW _ hcond _ hL hsh _
  exact contract H enc W base args ds gs before hval hW hL hsh (hcond _ rfl)
set_option maxHeartbeats 40000000 in
theorem saidUpto:Rows.RouteExpandsUptoSaid:=
  OpenClaim.holds_of_cond 5 Tryz.f5 rfl rfl rfl rfl rfl rfl rfl ⟨rfl,rfl,rfl,rfl,rfl⟩ rfl rfl rfl rfl rfl (by as_aux_lemma=>kernel_rfl) Tryz.func5 (by
      unfold joinedFacts
      simp only [Bool.and_eq_true]
      repeat' apply And.intro
      all_goals (as_aux_lemma=>kernel_rfl))
    (of_decide_eq_true (by as_aux_lemma=>kernel_rfl)) (by unfold Func.isWrapper;first | (rw [if_pos (by decide +kernel)];kernel_rfl) | (rw [if_neg (by decide +kernel)];exact ⟨rfl,rfl⟩))
    (fun os started H enc _ F=>by rw [OpenClaim.pre_eq_preRow];exact zq6 os started H enc F)
theorem plain (f:FuncId) (fn:Func) (hf:Tryz.pinned.checked.prog.funcNamed "flightdeck/flightdecklaw22.RouteExpands" = some f) (hfn:Tryz.pinned.checked.prog.funcs[f]? = some fn):
    false=Tryz.pinned.checked.prog.looks []∧∀ (j:Nat) t,fn.params[j]? = some t→Tryz.pinned.checked.prog.wantsStandIn t=false:=by
  obtain rfl:f=5:=Option.some.inj ((show Tryz.prog.funcNamed "flightdeck/flightdecklaw22.RouteExpands" = some 5 by kernel_rfl).symm.trans hf) |>.symm
  obtain rfl:fn=Tryz.f5:=(Option.some.inj (Tryz.func5.symm.trans hfn)).symm
  refine ⟨by kernel_rfl,fun j t ht=>?_⟩
  rw [Tryz.params5] at ht
  have hm:=Array.mem_of_getElem? ht
  have h:t=37∨t=9:=by simpa using hm
  rcases h with rfl | rfl
  · exact (show Tryz.prog.wantsStandIn 37=false by kernel_rfl)
  · exact (show Tryz.prog.wantsStandIn 9=false by kernel_rfl)
end Go.Proofs.YtgoeedohgomodaaGreatDoor.routeExpands
namespace Go.Proofs.YtgoeedohgomodaaGreatDoor
set_option maxHeartbeats 40000000 in
theorem routeExpands_card:Rows.RouteExpandsUptoCardSaid:=
  Claim7.holds_tied_plain_at .later [] _ _ _ _ routeExpands.saidUpto (fun _ h=>by cases h) (by as_aux_lemma=>kernel_rfl) (fun _ h=>by cases h) routeExpandsUpto_row_tie rfl ⟨rfl,rfl⟩ (by as_aux_lemma=>kernel_rfl) rfl routeExpands.plain (by as_aux_lemma=>kernel_rfl)
end Go.Proofs.YtgoeedohgomodaaGreatDoor
