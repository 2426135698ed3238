/- Lemmas and walks. -/
import Derived.Test.YtgoeedohgomodaaGreatDoorQk38
import Derived.Test.YtgoeedohgomodaaGreatDoorQk41
import Derived.Test.YtgoeedohgomodaaGreatDoorQk44
import Derived.Test.YtgoeedohgomodaaGreatDoorQk46
set_option linter.unusedSimpArgs false
set_option linter.unusedVariables false
namespace Go.Proofs.YtgoeedohgomodaaGreatDoor
open Go.RowKit Go.Sort
set_option maxRecDepth 100000
attribute [local go_sem] zbY zbv zbu zdh zdd zdb zc9 zda zbV zaO zaT zba zbs
attribute [local go_sem ↓] zde
attribute [local go_sem] zd4 zcG zdJ zcH zb0
set_option maxHeartbeats 16000000 in
theorem zrB {w:World} {d:DBs} {G:GDB} {iA:Option Addr} {ic:Nat} {xs:List ItemV} (hS:RS w d G iA ic xs) (es:List Entry) (L:Option Addr) (c g:Nat) (W:World) (h:Bu w W g d.cells (.slice iA xs.length ic) L c es) (he:es.length≤250000) (i:Nat) (hi:i < xs.length) (hn:xs.length≤124) (word:List UInt8) (hw:word.length≤4000000000)
    (hk:(xs.getD i noItem).kind=3) (hi1:i+1 < xs.length):
    Calls Tryz.prog 41 #[.pointer (some ⟨g,0,none⟩), .int .i64 i, .string ⟨word.toArray⟩] W (RetSt w W g d.cells (.slice iA xs.length ic) (zah (zai G) xs word i es)):=by
  have HS:=Lib.hid hS
  have HB:=Lib.hid h
  have HXS:=Lib.hid (zaM hS.xsS)
  obtain ⟨m,hm⟩:∃ m,xs.length=m+1:=⟨xs.length - 1,by omega⟩
  obtain ⟨b,off,hiA,hic,hcl⟩:=hS.itm hi
  obtain ⟨b',off',hiA',hmc,hcl'⟩:=hS.itm (i:=m) (by omega)
  obtain ⟨rfl,rfl⟩:b'=b∧off'=off:=by
    rw [hiA] at hiA'
    injection hiA' with e1
    injection e1 with e2 e3
    exact ⟨e2.symm,e3.symm⟩
  have IS:=Lib.hid (fun W' (D:Below W.heap.size W W')=>show W'.cell? ⟨g,9,none⟩=some (.slice (some ⟨b',off',none⟩) (m+1) ic)∧zak W' b' (off'+i * 3)∧zar W' b' (off'+i * 3)=xs.getD i noItem∧zak W' b' (off'+m * 3)∧zar W' b' (off'+m * 3)=xs.getD m noItem from
    ⟨by have:=(HB.out.step D).c9;rw [hiA,hm] at this;exact this,⟨_,hcl W' (HB.out.step D).bel⟩,zam (hcl W' (HB.out.step D).bel),⟨_,hcl' W' (HB.out.step D).bel⟩,zam (hcl' W' (HB.out.step D).bel)⟩)
  have HM:=Lib.hid hm
  have HIA:=Lib.hid hiA
  have HK:=Lib.hid hk
  generalize hx:xs.getD i noItem=x at *
  generalize hz:xs.getD m noItem=z at *
  have HX:=Lib.hid hx
  have HZ:=Lib.hid hz
  have him:i < m+1:=by omega
  have hm124:m≤124:=by omega
  have hlt1:(i:Int) < ((m:Int)+1):=by omega
  have hwr:IntKind.i64.wrap (m:Int)=(m:Int):=by rw [IntKind.wrap_i64];omega
  have hlt2:(m:Int) < ((m:Int)+1):=by omega
  clear hS h hiA hiA' hcl hcl' hx hz hk hm hi hn
  go_enter Tryz.func41,Tryz.ntmps41
  go_upto_region 1 with (fail)
  go_cut [8,9] from 24 to 42 (fun u v wx=>∃ q8 q9,u=.pointer (some ⟨q8,0,none⟩)∧v=.pointer (some ⟨q9,0,none⟩)∧Blk wx q8 x.arr∧Blk wx q9 z.arr∧g < q8∧Below W.heap.size W wx)
  case first=>
    have D2:Below W.heap.size W W.drew:=(Below.refl _ _).drew
    go_region_held3 (fun w'=>w'.cell? ⟨g,9,none⟩=some (.slice (some ⟨b',off',none⟩) (m+1) ic)∧zak w' b' (off'+i * 3)∧zar w' b' (off'+i * 3)=x∧zak w' b' (off'+m * 3)∧zar w' b' (off'+m * 3)=z)
      ((refine IS.out _ ?_;repeat' (first | assumption | omega | (refine zab ?_ ?_ _) | (refine Below.alloc ?_ ?_ _) | (refine Below.drew ?_) | exact Below.refl _ _ | (simp;done) | (simp;omega))))
      (fail)
    all_goals
      go_wp2
      go_meet
      first
        | (obtain ⟨a1,a2,a3⟩:=za5 W noItem.arr x.arr noItem.arr z.arr 57 57;exact ⟨_,_,rfl,rfl,a1.step (Below.refl _ _).drew,a2.step (Below.refl _ _).drew,(by have:=HB.out.lt;omega),a3.drew⟩)
        | (obtain ⟨a1,a2,a3⟩:=zaP W noItem.arr noItem.arr x.arr z.arr 57 57;exact ⟨_,_,rfl,rfl,a1.step (Below.refl _ _).drew,a2.step (Below.refl _ _).drew,(by have:=HB.out.lt;omega),a3.drew⟩)
        | (obtain ⟨a1,a2,a3⟩:=za5 W noItem.arr z.arr noItem.arr x.arr 57 57;exact ⟨_,_,rfl,rfl,a2.step (Below.refl _ _).drew,a1.step (Below.refl _ _).drew,(by have:=HB.out.lt;omega),a3.drew⟩)
        | (obtain ⟨a1,a2,a3⟩:=zaP W noItem.arr noItem.arr z.arr x.arr 57 57;exact ⟨_,_,rfl,rfl,a2.step (Below.refl _ _).drew,a1.step (Below.refl _ _).drew,(by have:=HB.out.lt;omega),a3.drew⟩)
  case rest=>
  obtain ⟨q8,q9,rfl,rfl,X8,X9,hgq,BC⟩:=hcut
  have B1:=HB.out.step BC
  have O1:=Lib.hid (OnlyB.of (g:=g) BC)
  obtain ⟨xk,xn,xt⟩:=x
  obtain rfl:xk=3:=HK.out
  have c0:wc.cell? ⟨q8,0,none⟩=some (.int .u8 3):=X8.cell 0
  have HC:=Lib.hid (show zah (zai G) xs word i es=zfV (zai G) es ⟨3,xn,xt⟩ (xs.getD (i+1) noItem) i by
    unfold zah;rw [HX.out];rfl)
  have hxn:xn.length≤4000000000:=by have:=(HXS.out i).small.1;rw [HX.out] at this;exact this
  have c1:wc.cell? ⟨q8,1,none⟩=some (.string ⟨xn.toArray⟩):=X8.cell 1
  have HAL:=Lib.hid (show zcc G.airways xn=match zaU xn G.airways with | none=>(zcg,6) | some a=>(a,0) from rfl)
  have kb:=Lib.hid (zjZ d G es L c g _ w wc xn B1 (HS.out.gd.below B1.bel))
  have HNA:=Lib.hid (show zfV (zai G) es ⟨3,xn,xt⟩ (xs.getD (i+1) noItem) i=match zaU xn G.airways with
    | some a=>((zbb (zai G) es a (xs.getD (i+1) noItem) i).1,(if (zbb (zai G) es a (xs.getD (i+1) noItem) i).2.2=0 then (i:Int)+1 else (zbb (zai G) es a (xs.getD (i+1) noItem) i).2.1,(zbb (zai G) es a (xs.getD (i+1) noItem) i).2.2))
    | none=>atI i (if (zd7 G es xn).2 ≠ 0 then (es,(zd7 G es xn).2) else zcn (zai G) es [zaI 2 (zd7 G es xn).1] 2 []) from rfl)
  have HO:=Lib.hid (HC.out.trans HNA.out)
  generalize zah (zai G) xs word i es=out at *
  have HB1:=Lib.hid B1
  have HX8:=Lib.hid X8
  clear HX HZ IS HXS X9 B1 X8 HC HNA
  cases hf:zaU xn G.airways with
  | some a=>
    rw [hf] at HO HAL
    have hr:zcc G.airways xn=(a,0):=HAL.out
    rw [hr] at kb
    have has:=HS.out.gd.airS a (ze5 hf)
    clear HAL hf hr
    dsimp only at HO
    go_upto_region 18 with (go_at_call 75;(with_reducible refine zmK (kb.out) ?_);intro cs3 w3 h3 b3;obtain ⟨A6,c6,hcs,h6a,h6b⟩:=h3.ex;subst hcs)
    obtain ⟨Y4,d4⟩:=zcl w3 (zao zcg none 0) (zao a A6 c6) 81
    have D4:=zaa b3 d4
    have h4:=h3.below d4
    have B4:=HB1.out.step D4
    have O4:=Lib.hid (O1.out.trans (OnlyB.of D4))
    clear h3 b3 h6a h6b kb D4 d4
    generalize hw4:World.setRow (World.alloc w3 _) _ _=w4
    have hw4':(w3.alloc (.cells (zao zcg none 0) 81)).setRow w3.heap.size (zao a A6 c6)=w4:=hw4
    rw [hw4'] at h4 Y4 B4 O4
    clear hw4 hw4'
    generalize w3.heap.size=q13 at Y4 ⊢
    have kl:=Lib.hid (zrJ HS.out es L c g w4 B4 (by omega) a (zao a A6 c6) h4 has i hi1 (by have:=HM.out;omega))
    have j1:zce w4 q13 0:=⟨_,Y4.is_awy rfl⟩
    have j2:zcz w4 q13 0=zao a A6 c6:=zby (Y4.is_awy rfl)
    generalize zbb (zai G) es a (xs.getD (i+1) noItem) i=r at *
    obtain ⟨rl,rj,re⟩:=r
    dsimp only at HO
    clear h4 Y4 B4
    by_cases hz:re=0
    · subst hz
      have HO2:=Lib.hid (show out=(rl,((i:Int)+1,0)) by rw [HO.out,if_pos rfl])
      clear HO
      go_wp2_with (go_at_call 76;(with_reducible refine zwk kl.out ?_);intro L5 c5 w5 B5 O5)
      go_ret2
      exact RetSt.of (q:=(rl,0)) HO2.out B5 (O4.out.trans O5)
    · have hz':(re == 0)=false:=by simpa using hz
      have HO2:=Lib.hid (show out=(rl,(rj,re)) by rw [HO.out,if_neg hz])
      have HZ2:=Lib.hid hz
      clear HO hz
      go_wp2_with (go_at_call 76;(with_reducible refine zwk kl.out ?_);intro L5 c5 w5 B5 O5)
      go_ret2
      exact RetSt.err (by rw [HO2.out]) HZ2.out (O4.out.trans O5)
  | none=>
    rw [hf] at HO HAL
    have hr:zcc G.airways xn=(zcg,6):=HAL.out
    rw [hr] at kb
    clear HAL hf hr
    dsimp only at HO
    have hnl:=zjx HS.out.sh es xn
    have kn:=Lib.hid (fun W' (D:Below wc.heap.size wc W')=>ztY HS.out es L c g _ W' (HB1.out.step D) (by omega) xn hxn)
    go_upto_region 22 with (go_at_call 75;(with_reducible refine zmK (kb.out) ?_);intro cs3 w3 h3 b3;obtain ⟨A6,c6,hcs,h6a,h6b⟩:=h3.ex;subst hcs)
    obtain ⟨_,d4⟩:=zcl w3 (zao zcg none 0) (zao zcg A6 c6) 81
    have D4:=zaa b3 d4
    have B4:=Lib.hid (HB1.out.step D4)
    have O4:=Lib.hid (O1.out.trans (OnlyB.of D4))
    have X4:=HX8.out.step D4
    have kn4:=Lib.hid (kn.out _ D4)
    clear h3 b3 h6a h6b kb D4 kn d4
    generalize hw4:World.setRow (World.alloc w3 _) _ _=w4
    have hw4':(w3.alloc (.cells (zao zcg none 0) 81)).setRow w3.heap.size (zao zcg A6 c6)=w4:=hw4
    rw [hw4'] at B4 O4 X4 kn4
    clear hw4 hw4'
    have c14:w4.cell? ⟨q8,1,none⟩=some (.string ⟨xn.toArray⟩):=X4.cell 1
    generalize zd7 G es xn=nr at *
    obtain ⟨nf,ne⟩:=nr
    dsimp only at HO hnl
    by_cases hz:ne=0
    rotate_left
    · have hz':(ne != 0)=true:=by simpa using hz
      have HO2:=Lib.hid (show out=atI i (es,ne) by rw [HO.out,if_pos hz])
      clear HO hz
      go_wp2_with (go_at_call 77;(with_reducible refine zaj kn4.out ?_);intro w5 b5 _ _ _)
      go_ret2
      exact RetSt.of (q:=(es,ne)) HO2.out (B4.out.step b5) (O4.out.trans (OnlyB.of b5))
    · subst hz
      have HO2:=Lib.hid (show out=atI i (zcn (zai G) es [zaI 2 nf] 2 []) by rw [HO.out,if_neg (not_not_intro rfl)])
      clear HO
      go_wp2_with (first
        | (go_at_call 77;(with_reducible refine zaj kn4.out ?_);intro w5 b5 _ _ _)
        | (go_at_call 72;(with_reducible refine zaj (zfk _) ?_);intro w6 b6 _ _ _)
        | (go_at_call 71;(with_reducible refine zlo (zhn 2 nf (-200000) 6000000 _) ?_);intro A7 w7 I7 b7;have f7:=zaa (zaa b5 b6) b7)
        | (go_at_call 70;(with_reducible refine zch (HS.out.add1e (B4.out.step f7) 2 nf A7 2 I7 hnl (by omega)) ?_);intro L8 c8 w8 B8 O8))
      go_ret2
      exact RetSt.of HO2.out B8 (O4.out.trans ((OnlyB.of f7).trans O8))
end Go.Proofs.YtgoeedohgomodaaGreatDoor
namespace Go.Proofs.YtgoeedohgomodaaGreatDoor
open Go.RowKit Go.Sort
set_option maxRecDepth 100000
attribute [local go_sem] zbY zbv zbu zdh zdd zdb zc9 zda zbV zaO zaT zba zbs
set_option maxHeartbeats 16000000 in
theorem zrD {w:World} {d:DBs} {G:GDB} {iA:Option Addr} {ic:Nat} {xs:List ItemV} (hS:RS w d G iA ic xs) (es:List Entry) (L:Option Addr) (c g:Nat) (W:World) (h:Bu w W g d.cells (.slice iA xs.length ic) L c es) (he:es.length≤250000) (i:Nat) (hi:i < xs.length) (hn:xs.length≤124) (word:List UInt8) (hw:word.length≤4000000000)
    (hk:(xs.getD i noItem).kind=1) (h1:1 < xs.length):
    Calls Tryz.prog 41 #[.pointer (some ⟨g,0,none⟩), .int .i64 i, .string ⟨word.toArray⟩] W (RetSt w W g d.cells (.slice iA xs.length ic) (zah (zai G) xs word i es)):=by
  have HS:=Lib.hid hS
  have HB:=Lib.hid h
  have HXS:=Lib.hid (zaM hS.xsS)
  obtain ⟨b0,off0,hiA0,_,hcl1⟩:=hS.itm (i:=1) (by omega)
  have HC1:=Lib.hid hcl1
  have HIA0:=Lib.hid hiA0
  clear hcl1 hiA0
  obtain ⟨m,hm⟩:∃ m,xs.length=m+1:=⟨xs.length - 1,by omega⟩
  obtain ⟨b,off,hiA,hic,hcl⟩:=hS.itm hi
  obtain ⟨b',off',hiA',hmc,hcl'⟩:=hS.itm (i:=m) (by omega)
  obtain ⟨rfl,rfl⟩:b'=b∧off'=off:=by
    rw [hiA] at hiA'
    injection hiA' with e1
    injection e1 with e2 e3
    exact ⟨e2.symm,e3.symm⟩
  obtain ⟨rfl,rfl⟩:b'=b0∧off'=off0:=by
    have h0:=HIA0.out
    rw [hiA'] at h0
    injection h0 with e1
    injection e1 with e2 e3
    exact ⟨e2,e3⟩
  obtain ⟨y1,hy1⟩:∃ y,xs.getD 1 noItem=y:=⟨_,rfl⟩
  rw [hy1] at HC1
  have HY1:=Lib.hid hy1
  clear hy1 HIA0
  have HC1:=Lib.hid (fun W' (D:Below w.heap.size w W')=>show zfA W' b' (off'+3) y1 by have:=HC1.out W' D;rwa [Nat.one_mul] at this)
  have IS:=Lib.hid (fun W' (D:Below W.heap.size W W')=>show W'.cell? ⟨g,9,none⟩=some (.slice (some ⟨b',off',none⟩) (m+1) ic)∧zak W' b' (off'+i * 3)∧zar W' b' (off'+i * 3)=xs.getD i noItem∧zak W' b' (off'+m * 3)∧zar W' b' (off'+m * 3)=xs.getD m noItem from
    ⟨by have:=(HB.out.step D).c9;rw [hiA,hm] at this;exact this,⟨_,hcl W' (HB.out.step D).bel⟩,zam (hcl W' (HB.out.step D).bel),⟨_,hcl' W' (HB.out.step D).bel⟩,zam (hcl' W' (HB.out.step D).bel)⟩)
  have HM:=Lib.hid hm
  have HIA:=Lib.hid hiA
  have HK:=Lib.hid hk
  generalize hx:xs.getD i noItem=x at *
  generalize hz:xs.getD m noItem=z at *
  have HX:=Lib.hid hx
  have HZ:=Lib.hid hz
  have him:i < m+1:=by omega
  have hm124:m≤124:=by omega
  have hlt1:(i:Int) < ((m:Int)+1):=by omega
  have hwr:IntKind.i64.wrap (m:Int)=(m:Int):=by rw [IntKind.wrap_i64];omega
  have hlt2:(m:Int) < ((m:Int)+1):=by omega
  clear hS h hiA hiA' hcl hcl' hx hz hk hm hi hn
  go_enter Tryz.func41,Tryz.ntmps41
  go_upto_region 1 with (fail)
  go_cut [8,9] from 24 to 42 (fun u v wx=>∃ q8 q9,u=.pointer (some ⟨q8,0,none⟩)∧v=.pointer (some ⟨q9,0,none⟩)∧Blk wx q8 x.arr∧Blk wx q9 z.arr∧g < q8∧Below W.heap.size W wx)
  case first=>
    have D2:Below W.heap.size W W.drew:=(Below.refl _ _).drew
    go_region_held3 (fun w'=>w'.cell? ⟨g,9,none⟩=some (.slice (some ⟨b',off',none⟩) (m+1) ic)∧zak w' b' (off'+i * 3)∧zar w' b' (off'+i * 3)=x∧zak w' b' (off'+m * 3)∧zar w' b' (off'+m * 3)=z)
      ((refine IS.out _ ?_;repeat' (first | assumption | omega | (refine zab ?_ ?_ _) | (refine Below.alloc ?_ ?_ _) | (refine Below.drew ?_) | exact Below.refl _ _ | (simp;done) | (simp;omega))))
      (fail)
    all_goals
      go_wp2
      go_meet
      first
        | (obtain ⟨a1,a2,a3⟩:=za5 W noItem.arr x.arr noItem.arr z.arr 57 57;exact ⟨_,_,rfl,rfl,a1.step (Below.refl _ _).drew,a2.step (Below.refl _ _).drew,(by have:=HB.out.lt;omega),a3.drew⟩)
        | (obtain ⟨a1,a2,a3⟩:=zaP W noItem.arr noItem.arr x.arr z.arr 57 57;exact ⟨_,_,rfl,rfl,a1.step (Below.refl _ _).drew,a2.step (Below.refl _ _).drew,(by have:=HB.out.lt;omega),a3.drew⟩)
        | (obtain ⟨a1,a2,a3⟩:=za5 W noItem.arr z.arr noItem.arr x.arr 57 57;exact ⟨_,_,rfl,rfl,a2.step (Below.refl _ _).drew,a1.step (Below.refl _ _).drew,(by have:=HB.out.lt;omega),a3.drew⟩)
        | (obtain ⟨a1,a2,a3⟩:=zaP W noItem.arr noItem.arr z.arr x.arr 57 57;exact ⟨_,_,rfl,rfl,a2.step (Below.refl _ _).drew,a1.step (Below.refl _ _).drew,(by have:=HB.out.lt;omega),a3.drew⟩)
  case rest=>
  obtain ⟨q8,q9,rfl,rfl,X8,X9,hgq,BC⟩:=hcut
  have B1:=HB.out.step BC
  have O1:=Lib.hid (OnlyB.of (g:=g) BC)
  obtain ⟨xk,xn,xt⟩:=x
  obtain rfl:xk=1:=HK.out
  have c0:wc.cell? ⟨q8,0,none⟩=some (.int .u8 1):=X8.cell 0
  have HC:=Lib.hid (show zah (zai G) xs word i es=atI i (zcM (zai G) es y1 word) by
    unfold zah;rw [HX.out,HY1.out];rfl)
  have HOS:=Lib.hid (show zcM (zai G) es y1 word=if (zbi G.fixes word).2 ≠ 0 then (es,(zbi G.fixes word).2) else if y1.kind=2 then zcn (zai G) es [zaI 1 (zbi G.fixes word).1] 1 (zbC y1.name 46 y1.trans) else zcn (zai G) es [zaI 1 (zbi G.fixes word).1] 2 [] from rfl)
  have hys:y1.short:=by have:=HXS.out 1;rw [HY1.out] at this;exact this
  have hpl:=zdW HS.out.sh word
  have kp:=Lib.hid (zkX d G.fixes word wc (HS.out.laid.below B1.bel) hw (HS.out.gd.db.below B1.bel))
  generalize zah (zai G) xs word i es=out at *
  generalize zcM (zai G) es y1 word=os at *
  generalize zbi G.fixes word=pl at *
  obtain ⟨pr,pe⟩:=pl
  obtain ⟨yk,yn,yt⟩:=y1
  dsimp only at HOS hpl kp
  have hy1:=hys.small.1
  have hy2:=hys.small.2
  have hvl:=zci hys 46
  dsimp only at hy1 hy2 hvl
  have k1:za7 wc g 0:=⟨_,B1.db⟩
  have k2:zbQ wc g 0=d.cells:=zaL B1.db
  have HB1:=Lib.hid B1
  have HBC:=Lib.hid BC
  clear HX HZ HXS X9 B1 X8 BC HY1 hys
  by_cases hz:pe=0
  rotate_left
  · have hz':(pe != 0)=true:=by simpa using hz
    have HO2:=Lib.hid (show out=atI i (es,pe) by rw [HC.out,HOS.out,if_pos hz])
    clear HC HOS hz
    go_wp2_with (go_at_call 15;(with_reducible refine zaj kp.out ?_);intro w3 b3 _ _ _)
    go_ret2
    exact RetSt.of (q:=(es,pe)) HO2.out (HB1.out.step b3) (O1.out.trans (OnlyB.of b3))
  subst hz
  have HOS2:=Lib.hid (HOS.out.trans (if_neg (not_not_intro rfl)))
  clear HOS
  go_upto_region 7 with (go_at_call 15;(with_reducible refine zaj kp.out ?_);intro w3 b3 _ _ _)
  have e9:=(IS.out w3 (HBC.out.trans (b3.mono HBC.out.size))).1
  have B3:=HB1.out.step b3
  have O3:=O1.out.trans (OnlyB.of b3)
  have j1:zak w3 b' (off'+3):=⟨_,HC1.out w3 B3.bel⟩
  have j2:zar w3 b' (off'+3)=⟨yk,yn,yt⟩:=zam (HC1.out w3 B3.bel)
  have hm1:1 < m+1:=by have:=HM.out;omega
  have hic1:1 < ic:=by omega
  have hm1':(1:Int) < (m:Int)+1:=by omega
  go_upto_region 8 with (fail)
  obtain ⟨Y,D⟩:=zcl w3 noItem.arr (ItemV.arr ⟨yk,yn,yt⟩) 57
  have B4:=Lib.hid (B3.step D)
  have O4:=Lib.hid (O3.trans (OnlyB.of D))
  have hgq2:=B3.lt
  clear b3 B3 O3 e9 j1 j2 HC1 IS k1 k2 kp D HB1 HBC
  generalize hw4:World.setRow (World.alloc w3 _) _ _=w4
  have hw4':(w3.alloc (.cells noItem.arr 57)).setRow w3.heap.size (ItemV.arr ⟨yk,yn,yt⟩)=w4:=hw4
  rw [hw4'] at Y B4 O4
  clear hw4 hw4'
  generalize w3.heap.size=q12 at Y hgq2 ⊢
  have y0:w4.cell? ⟨q12,0,none⟩=some (.int .u8 yk):=Y.cell 0
  by_cases h2:yk=2
  · subst h2
    have HO2:=Lib.hid (show out=atI i (zcn (zai G) es [zaI 1 pr] 1 (zbC yn 46 yt)) by rw [HC.out,HOS2.out];exact congrArg (atI i) (if_pos rfl))
    have kw:=Lib.hid (fun W'=>ziV yn yt 46 hy1 hy2 W')
    have IS2:=Lib.hid (fun W' (D:Below w4.heap.size w4 W')=>show W'.cell? ⟨q12,1,none⟩=some (.string ⟨yn.toArray⟩)∧W'.cell? ⟨q12,2,none⟩=some (.string ⟨yt.toArray⟩) from ⟨(Y.step D).cell 1,(Y.step D).cell 2⟩)
    have IS3:=Lib.hid (fun W6 W8 (f6:Below w4.heap.size w4 W6) (O8:OnlyB g W6 W8)=>show W8.cell? ⟨q12,1,none⟩=some (.string ⟨yn.toArray⟩)∧W8.cell? ⟨q12,2,none⟩=some (.string ⟨yt.toArray⟩) from ⟨((Y.step f6).only O8 (by omega)).cell 1,((Y.step f6).only O8 (by omega)).cell 2⟩)
    clear HC HOS2 Y
    go_upto_region 9 with (fail)
    go_region_held3 (fun w'=>w'.cell? ⟨q12,1,none⟩=some (.string ⟨yn.toArray⟩)∧w'.cell? ⟨q12,2,none⟩=some (.string ⟨yt.toArray⟩))
      (first | exact IS3.out _ _ f6 O8 | ((refine IS2.out _ ?_;repeat' (first | assumption | omega | (refine zab ?_ ?_ _) | (refine Below.alloc ?_ ?_ _) | (refine Below.drew ?_) | exact Below.refl _ _ | (simp;done) | (simp;omega)))))
      (first
        | (go_at_call 72;(with_reducible refine zaj (zfk _) ?_);intro w5 b5 _ _ _;have f5:Below w4.heap.size w4 w5:=zaa (by repeat' (first | assumption | omega | (refine Below.alloc ?_ ?_ _) | (refine Below.drew ?_) | exact Below.refl _ _ | (simp;done) | (simp;omega))) b5)
        | (go_at_call 71;(with_reducible refine zlo (zhn 1 pr (-200000) 6000000 _) ?_);intro A6 w6 I6 b6;have f6:Below w4.heap.size w4 w6:=zaa f5 b6)
        | (go_at_call 73;(with_reducible refine zae (kw.out _) ?_))
        | (go_at_call 70;(with_reducible refine zch (HS.out.add1 (B4.out.step f6) 1 pr A6 1 (zbC yn 46 yt) I6 hpl hvl (by omega)) ?_);intro L8 c8 w8 B8 O8))
    all_goals
      go_wp2
      go_ret2
      exact RetSt.of HO2.out B8 (O4.out.trans ((OnlyB.of f6).trans O8))
  · have h2':(yk == 2)=false:=by simpa using h2
    have HO2:=Lib.hid (show out=atI i (zcn (zai G) es [zaI 1 pr] 2 []) by rw [HC.out,HOS2.out];exact congrArg (atI i) (if_neg h2))
    clear HC HOS2 h2
    go_wp2_with (first
      | (go_at_call 72;(with_reducible refine zaj (zfk _) ?_);intro w6 b6 _ _ _)
      | (go_at_call 71;(with_reducible refine zlo (zhn 1 pr (-200000) 6000000 _) ?_);intro A7 w7 I7 b7;have f7:=zaa b6 b7)
      | (go_at_call 70;(with_reducible refine zch (HS.out.add1e (B4.out.step f7) 1 pr A7 2 I7 hpl (by omega)) ?_);intro L8 c8 w8 B8 O8))
    go_ret2
    exact RetSt.of HO2.out B8 (O4.out.trans ((OnlyB.of f7).trans O8))
end Go.Proofs.YtgoeedohgomodaaGreatDoor
