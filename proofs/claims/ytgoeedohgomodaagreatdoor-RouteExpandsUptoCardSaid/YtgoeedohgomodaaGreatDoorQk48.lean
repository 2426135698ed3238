/- Lemmas and walks. -/
import Derived.Test.YtgoeedohgomodaaGreatDoorQk38
import Derived.Test.YtgoeedohgomodaaGreatDoorQk39
import Derived.Test.YtgoeedohgomodaaGreatDoorQk37
import Derived.Test.YtgoeedohgomodaaGreatDoorQk46
set_option linter.unusedSimpArgs false
set_option linter.unusedVariables false
namespace Go.Proofs.YtgoeedohgomodaaGreatDoor
open Go.RowKit Go.Sort
set_option maxRecDepth 100000
attribute [local go_sem] zbY zbv zbu zdh zdd zdb zc9 zda zbV zaO zaT zba zbs
attribute [local go_sem ↓] zdA
attribute [local go_sem] zei zd2 zc2 zd5 zc3 zck
set_option maxHeartbeats 16000000 in
theorem zrw {w:World} {d:DBs} {G:GDB} {iA:Option Addr} {ic:Nat} {xs:List ItemV} (hS:RS w d G iA ic xs) (es:List Entry) (L:Option Addr) (c g:Nat) (W:World) (h:Bu w W g d.cells (.slice iA xs.length ic) L c es) (he:es.length≤250000) (i:Nat) (hi:i < xs.length) (hn:xs.length≤124) (word:List UInt8) (hw:word.length≤4000000000)
    (hk:(xs.getD i noItem).kind=8) (hE:LOk 247000 es) (hne:es ≠ []) (h1:1≤i):
    Calls Tryz.prog 41 #[.pointer (some ⟨g,0,none⟩), .int .i64 i, .string ⟨word.toArray⟩] W (RetSt w W g d.cells (.slice iA xs.length ic) (zah (zai G) xs word i es)):=by
  have HS:=Lib.hid hS
  have HB:=Lib.hid h
  have HXS:=Lib.hid (zaM hS.xsS)
  obtain ⟨b0,off0,hiA0,_,hclb⟩:=hS.itm (i:=i - 1) (by omega)
  have HCB:=Lib.hid hclb
  have HIA0:=Lib.hid hiA0
  clear hclb hiA0
  obtain ⟨m,hm⟩:∃ m,xs.length=m+1:=⟨xs.length - 1,by omega⟩
  obtain ⟨b,off,hiA,hic,hcl⟩:=hS.itm hi
  obtain ⟨b',off',hiA',hmc,hcl'⟩:=hS.itm (i:=m) (by omega)
  obtain ⟨rfl,rfl⟩:b'=b∧off'=off:=by
    rw [hiA] at hiA'
    injection hiA' with e1
    injection e1 with e2 e3
    exact ⟨e2.symm,e3.symm⟩
  obtain ⟨rfl,rfl⟩:b'=b0∧off'=off0:=by
    have h0:=HIA0.out
    rw [hiA'] at h0
    injection h0 with e1
    injection e1 with e2 e3
    exact ⟨e2,e3⟩
  obtain ⟨yb,hyb⟩:∃ y,xs.getD (i - 1) noItem=y:=⟨_,rfl⟩
  rw [hyb] at HCB
  have HYB:=Lib.hid hyb
  clear hyb HIA0
  have IS:=Lib.hid (fun W' (D:Below W.heap.size W W')=>show W'.cell? ⟨g,9,none⟩=some (.slice (some ⟨b',off',none⟩) (m+1) ic)∧zak W' b' (off'+i * 3)∧zar W' b' (off'+i * 3)=xs.getD i noItem∧zak W' b' (off'+m * 3)∧zar W' b' (off'+m * 3)=xs.getD m noItem from
    ⟨by have:=(HB.out.step D).c9;rw [hiA,hm] at this;exact this,⟨_,hcl W' (HB.out.step D).bel⟩,zam (hcl W' (HB.out.step D).bel),⟨_,hcl' W' (HB.out.step D).bel⟩,zam (hcl' W' (HB.out.step D).bel)⟩)
  have HM:=Lib.hid hm
  have HIA:=Lib.hid hiA
  have HK:=Lib.hid hk
  generalize hx:xs.getD i noItem=x at *
  generalize hz:xs.getD m noItem=z at *
  have HX:=Lib.hid hx
  have HZ:=Lib.hid hz
  have him:i < m+1:=by omega
  have hm124:m≤124:=by omega
  have hlt1:(i:Int) < ((m:Int)+1):=by omega
  have hwr:IntKind.i64.wrap (m:Int)=(m:Int):=by rw [IntKind.wrap_i64];omega
  have hlt2:(m:Int) < ((m:Int)+1):=by omega
  clear hS h hiA hiA' hcl hcl' hx hz hk hm hi hn
  go_enter Tryz.func41,Tryz.ntmps41
  go_upto_region 1 with (fail)
  go_cut [8,9] from 24 to 42 (fun u v wx=>∃ q8 q9,u=.pointer (some ⟨q8,0,none⟩)∧v=.pointer (some ⟨q9,0,none⟩)∧Blk wx q8 x.arr∧Blk wx q9 z.arr∧g < q8∧Below W.heap.size W wx)
  case first=>
    have D2:Below W.heap.size W W.drew:=(Below.refl _ _).drew
    go_region_held3 (fun w'=>w'.cell? ⟨g,9,none⟩=some (.slice (some ⟨b',off',none⟩) (m+1) ic)∧zak w' b' (off'+i * 3)∧zar w' b' (off'+i * 3)=x∧zak w' b' (off'+m * 3)∧zar w' b' (off'+m * 3)=z)
      ((refine IS.out _ ?_;repeat' (first | assumption | omega | (refine zab ?_ ?_ _) | (refine Below.alloc ?_ ?_ _) | (refine Below.drew ?_) | exact Below.refl _ _ | (simp;done) | (simp;omega))))
      (fail)
    all_goals
      go_wp2
      go_meet
      first
        | (obtain ⟨a1,a2,a3⟩:=za5 W noItem.arr x.arr noItem.arr z.arr 57 57;exact ⟨_,_,rfl,rfl,a1.step (Below.refl _ _).drew,a2.step (Below.refl _ _).drew,(by have:=HB.out.lt;omega),a3.drew⟩)
        | (obtain ⟨a1,a2,a3⟩:=zaP W noItem.arr noItem.arr x.arr z.arr 57 57;exact ⟨_,_,rfl,rfl,a1.step (Below.refl _ _).drew,a2.step (Below.refl _ _).drew,(by have:=HB.out.lt;omega),a3.drew⟩)
        | (obtain ⟨a1,a2,a3⟩:=za5 W noItem.arr z.arr noItem.arr x.arr 57 57;exact ⟨_,_,rfl,rfl,a2.step (Below.refl _ _).drew,a1.step (Below.refl _ _).drew,(by have:=HB.out.lt;omega),a3.drew⟩)
        | (obtain ⟨a1,a2,a3⟩:=zaP W noItem.arr noItem.arr z.arr x.arr 57 57;exact ⟨_,_,rfl,rfl,a2.step (Below.refl _ _).drew,a1.step (Below.refl _ _).drew,(by have:=HB.out.lt;omega),a3.drew⟩)
  case rest=>
  obtain ⟨q8,q9,rfl,rfl,X8,X9,hgq,BC⟩:=hcut
  have B1:=HB.out.step BC
  have O1:=Lib.hid (OnlyB.of (g:=g) BC)
  obtain ⟨xk,xn,xt⟩:=x
  obtain rfl:xk=8:=HK.out
  have c0:wc.cell? ⟨q8,0,none⟩=some (.int .u8 8):=X8.cell 0
  have HC:=Lib.hid (show zah (zai G) xs word i es=zdH (zai G) es ⟨8,xn,xt⟩ yb word i by
    unfold zah;rw [HX.out,HYB.out];rfl)
  have hxs:ItemV.short ⟨8,xn,xt⟩:=by have:=HXS.out i;rw [HX.out] at this;exact this
  have hys:yb.short:=by have:=HXS.out (i - 1);rw [HYB.out] at this;exact this
  have HDS:=Lib.hid (HC.out.trans (show zdH (zai G) es ⟨8,xn,xt⟩ yb word i=if (zbi G.fixes word).2 ≠ 0 then (es,((i:Int),(zbi G.fixes word).2)) else
      if (zcn (zai G) es [zaI 2 (zbi G.fixes word).1] (es.getLast?.getD gapE).sec []).2 ≠ 0 then (es,((i:Int),(zcn (zai G) es [zaI 2 (zbi G.fixes word).1] (es.getLast?.getD gapE).sec []).2)) else
      if yb.kind=7 then
        (if (zcn (zai G) (zcn (zai G) es [zaI 2 (zbi G.fixes word).1] (es.getLast?.getD gapE).sec []).1 (zbf ((zas xn 3 yb.name G.procs).getD zaA)) 5 (zbC yb.name 46 yb.trans)).2 ≠ 0
         then (es,((i:Int) - 1,(zcn (zai G) (zcn (zai G) es [zaI 2 (zbi G.fixes word).1] (es.getLast?.getD gapE).sec []).1 (zbf ((zas xn 3 yb.name G.procs).getD zaA)) 5 (zbC yb.name 46 yb.trans)).2))
         else ((zcn (zai G) (zcn (zai G) es [zaI 2 (zbi G.fixes word).1] (es.getLast?.getD gapE).sec []).1 (zbf ((zas xn 3 yb.name G.procs).getD zaA)) 5 (zbC yb.name 46 yb.trans)).1,((i:Int),0)))
      else ((zcn (zai G) es [zaI 2 (zbi G.fixes word).1] (es.getLast?.getD gapE).sec []).1,((i:Int),0)) from rfl))
  have hpl:=zdW HS.out.sh word
  have kp:=Lib.hid (zkX d G.fixes word wc (HS.out.laid.below B1.bel) hw (HS.out.gd.db.below B1.bel))
  generalize zah (zai G) xs word i es=out at *
  generalize zbi G.fixes word=pl at *
  obtain ⟨pr,pe⟩:=pl
  obtain ⟨yk,yn,yt⟩:=yb
  dsimp only at hpl kp
  have hxn:=hxs.small.1
  have hy1:=hys.small.1
  have hy2:=hys.small.2
  have hvl:=zci hys 46
  dsimp only at hxn hy1 hy2 hvl
  have k1:za7 wc g 0:=⟨_,B1.db⟩
  have k2:zbQ wc g 0=d.cells:=zaL B1.db
  have HB1:=Lib.hid B1
  have HX8:=Lib.hid X8
  clear HX HZ HXS X9 B1 X8 BC HYB hys hxs HC
  by_cases hz:pe=0
  rotate_left
  · have hz':(pe != 0)=true:=by simpa using hz
    have HO2:=Lib.hid (HDS.out.trans (if_pos hz))
    clear HDS hz
    go_wp2_with (go_at_call 15;(with_reducible refine zaj kp.out ?_);intro w3 b3 _ _ _)
    go_ret2
    exact RetSt.of (q:=(es,pe)) HO2.out (HB1.out.step b3) (O1.out.trans (OnlyB.of b3))
  subst hz
  have HDS2:=Lib.hid (HDS.out.trans (if_neg (not_not_intro rfl)))
  clear HDS
  dsimp only at HDS2
  go_upto_region 34 with (go_at_call 15;(with_reducible refine zaj kp.out ?_);intro w3 b3 _ _ _)
  have B3:=HB1.out.step b3
  have O3:=Lib.hid (O1.out.trans (OnlyB.of b3))
  have X3:=Lib.hid (HX8.out.step b3)
  clear k1 k2 kp b3 HB1 HX8 O1
  obtain ⟨n,hn⟩:∃ n,es.length=n+1:=⟨es.length - 1,by have:=List.length_pos_iff.2 hne;omega⟩
  obtain ⟨bl,ol,hL,hbl,hcl9⟩:=B3.ents.get (k:=n) (by omega)
  have hlast:es.getLast? = some (es[n]'(by omega)):=by rw [List.getLast?_eq_getElem?,List.getElem?_eq_getElem (by omega)];congr 1;congr 1;omega
  have hsec:(es.getLast?.getD gapE).sec=(es[n]'(by omega)).sec:=by rw [hlast];rfl
  rw [hsec] at HDS2
  have hcap:=B3.cap
  rw [hn] at hcap
  have IS4:=Lib.hid (fun W' (D:Below w3.heap.size w3 W')=>show W'.cell? ⟨g,10,none⟩=some (.slice (some ⟨bl,ol,none⟩) (n+1) c)∧W'.cell? ⟨bl,ol+n * 20+18,none⟩=some (.int .u8 (es[n]'(by omega)).sec) from
    ⟨by have:=(B3.step D).c10;rw [hL,hn] at this;exact this,by rw [D.cell (p:=⟨bl,_,none⟩) hbl,hcl9 18 (by omega)];rfl⟩)
  generalize (es[n]'(by omega)).sec=sec at *
  have hnle:n+1≤247000:=by have:=hE.len;omega
  have HE1:=Lib.hid (zev (R:=zai G) hE (k:=1) (legs:=[zaI 2 pr]) (via:=[]) sec (by simp) (zcJ hpl) (by simp))
  have HB3:=Lib.hid B3
  have kad:=Lib.hid (fun W' (D:Below w3.heap.size w3 W') A' (I':Items W' A' 13 ([zol 2 pr (-200000) 6000000].map Leg.arr))=>HS.out.add1e (HB3.out.step D) 2 pr A' sec I' hpl (by omega))
  generalize zcn (zai G) es [zaI 2 pr] sec []=r1 at *
  obtain ⟨l1,e1⟩:=r1
  dsimp only at HDS2 HE1
  have hwn:IntKind.i64.wrap (n:Int)=(n:Int):=by rw [IntKind.wrap_i64];omega
  have hnn:(n:Int) < (n:Int)+1:=by omega
  have hnc:n < c:=by omega
  have HNE:=Lib.hid hne
  have HEO:=Lib.hid hE
  have HN:=Lib.hid hn
  clear hne hE hn hL hbl hcl9 hlast hsec B3 hcap
  obtain ⟨q1,q2⟩:=IS4.out _ (Below.refl _ _).drew
  clear q1 q2
  have q0:=IS4.out w3 (Below.refl _ _)
  obtain ⟨q1,q2⟩:=q0
  go_cut [20] from 176 to 193 (fun v wx=>∃ L4 c4,v=.int .i64 e1∧Bu w wx g d.cells (.slice iA xs.length ic) L4 c4 l1∧OnlyB g w3 wx)
  case first=>
    go_region_with (first
      | (go_at_call 72;(with_reducible refine zaj (zfk _) ?_);intro w5 b5 _ _ _;have f5:Below w3.heap.size w3 w5:=zcm b5;obtain ⟨p1,p2⟩:=IS4.out w5 f5)
      | (go_at_call 71;(with_reducible refine zlo (zhn 2 pr (-200000) 6000000 _) ?_);intro A6 w6 I6 b6;have f6:Below w3.heap.size w3 w6:=zaa f5 b6;obtain ⟨p3,p4⟩:=IS4.out w6 f6)
      | (go_at_call 70;(with_reducible refine zch (kad.out _ f6 A6 I6) ?_);intro L8 c8 w8 B8 O8))
    all_goals
      go_wp2
      go_meet
      exact ⟨_,_,rfl,B8,(OnlyB.of f6).trans O8⟩
  case rest=>
  obtain ⟨L4,c4,rfl,B4,OC⟩:=hcut
  generalize wc=w4 at *
  have O4:=Lib.hid (O3.out.trans OC)
  have X4:=Lib.hid (X3.out.only OC (by omega))
  clear q1 q2 IS4 kad HB3 O3 X3 OC
  by_cases hz:e1=0
  rotate_left
  · have hz':(e1 != 0)=true:=by simpa using hz
    have HO2:=Lib.hid (HDS2.out.trans (if_pos hz))
    have HZ2:=Lib.hid hz
    clear HDS2 hz
    go_wp2
    go_ret2
    exact RetSt.err (by rw [HO2.out]) HZ2.out O4.out
  subst hz
  have HDS3:=Lib.hid (HDS2.out.trans (if_neg (not_not_intro rfl)))
  clear HDS2
  have HB4:=Lib.hid B4
  have e9:w4.cell? ⟨g,9,none⟩=some (.slice (some ⟨b',off',none⟩) (m+1) ic):=by have:=HB4.out.c9;rw [HIA.out,HM.out] at this;exact this
  have j1:zak w4 b' (off'+(i - 1) * 3):=⟨_,HCB.out w4 HB4.out.bel⟩
  have j2:zar w4 b' (off'+(i - 1) * 3)=⟨yk,yn,yt⟩:=zam (HCB.out w4 HB4.out.bel)
  have t1:(0:Int)≤(i:Int) - 1:=by omega
  have t2:((i:Int) - 1).toNat=i - 1:=by omega
  have t3:(i:Int) - 1 < (m:Int)+1:=by omega
  have t4:i - 1 < ic:=by omega
  have t5:i - 1 < m+1:=by omega
  have t6:(1:Int)≤(i:Int):=by omega
  clear B4
  go_upto_region 38 with (fail)
  obtain ⟨Y,D⟩:=zcl w4 noItem.arr (ItemV.arr ⟨yk,yn,yt⟩) 57
  have B5:=Lib.hid (HB4.out.step D)
  have O5:=Lib.hid (O4.out.trans (OnlyB.of D))
  have X5:=Lib.hid (X4.out.step D)
  have hgq2:=HB4.out.lt
  clear e9 j1 j2 t1 t2 t3 t4 t5 D HB4 O4 X4 HCB
  generalize hw5:World.setRow (World.alloc w4 _) _ _=w5
  have hw5':(w4.alloc (.cells noItem.arr 57)).setRow w4.heap.size (ItemV.arr ⟨yk,yn,yt⟩)=w5:=hw5
  rw [hw5'] at Y B5 O5 X5
  clear hw5 hw5'
  generalize w4.heap.size=q21 at Y hgq2 ⊢
  have y0:w5.cell? ⟨q21,0,none⟩=some (.int .u8 yk):=Y.cell 0
  have HY:=Lib.hid Y
  clear Y
  by_cases h7:yk=7
  rotate_left
  · have h7':(yk == 7)=false:=by simpa using h7
    have HO2:=Lib.hid (show out=(l1,((i:Int),0)) from HDS3.out.trans (if_neg h7))
    clear HDS3 h7
    go_wp2
    go_ret2
    exact RetSt.of (q:=(l1,0)) HO2.out B5.out O5.out
  subst h7
  have HDS4:=Lib.hid (HDS3.out.trans (if_pos rfl))
  clear HDS3
  obtain ⟨A8,c8,h8,hl8,hI8⟩:=HS.out.gd.prc
  have kq:=Lib.hid (fun (w':World) (D:Below w.heap.size w w')=>zk6 d.cells G.procs A8 c8 h8 xn yn 3 w' (hI8.below D) hl8 HS.out.gd.prcN HS.out.gd.prcS)
  have hpf:(zcv xn 3 yn G.procs).1=(zas xn 3 yn G.procs).getD zaA:=by unfold zcv;cases zas xn 3 yn G.procs <;> rfl
  have hps:((zas xn 3 yn G.procs).getD zaA).small∧∀ x ∈ ((zas xn 3 yn G.procs).getD zaA).parts,∀ l ∈ x.legs,l.small:=by
    cases hq:zas xn 3 yn G.procs with
    | none=>exact ⟨⟨by simp [zaA],by simp [zaA],by simp [zaA],fun x hx=>by cases hx⟩,fun x hx=>by cases hx⟩
    | some p=>exact ⟨HS.out.gd.prcS p (zbh hq),HS.out.sh.prc p (zbh hq)⟩
  generalize zcv xn 3 yn G.procs=r at *
  generalize (zas xn 3 yn G.procs).getD zaA=p at *
  obtain ⟨rp,re⟩:=r
  dsimp only at hpf kq
  subst hpf
  have hml:=zej hps.2
  have k1:za7 w5 g 0:=⟨_,B5.out.db⟩
  have k2:zbQ w5 g 0=d.cells:=zaL B5.out.db
  have z1:w5.cell? ⟨q21,1,none⟩=some (.string ⟨yn.toArray⟩):=HY.out.cell 1
  have z2:w5.cell? ⟨q8,1,none⟩=some (.string ⟨xn.toArray⟩):=X5.out.cell 1
  have hl1:=B5.out.lt
  have hl2:=HY.out.lt
  have hl3:=X5.out.lt
  clear h8 hl8 hI8
  go_upto_region 39 with (fail)
  go_cut [22,23] from 210 to 220 (fun v e wx=>∃ q cs,v=.pointer (some ⟨q,0,none⟩)∧Blk wx q cs∧w5.heap.size≤q∧PrcFar wx w5.heap.size cs rp∧Below w5.heap.size w5 wx)
  case first=>
    have HBE:=Lib.hid B5.out.bel
    generalize d.cells=cs at *
    clear hps hml
    go_region_with (go_at_call 78;(with_reducible refine zqd (kq.out _ (by first | exact HBE.out.trans (((Below.refl _ _).drew).mono HBE.out.size) | exact zaa HBE.out (zaa (Below.refl _ _).drew (zac _ _)) | exact zaa HBE.out (Below.refl _ _).drew)) ?_);intro cs2 w6 h6 b6;obtain ⟨A5,c5,hcs,_,_⟩:=h6.at_.ex;subst hcs;first | (have Y6:Blk w6 w5.heap.size (zaf zaA none 0):=(((Blk.new w5 #[.string ⟨#[]⟩, .string ⟨#[]⟩, .int .u8 0, .slice none 0 0] 131).step (Below.refl _ _).drew)).step b6;have e6:=zaa (zac w5 (.cells #[.string ⟨#[]⟩, .string ⟨#[]⟩, .int .u8 0, .slice none 0 0] 131)).drew b6;have d2:=Y6.plain;have d3:=Y6.of) | skip)
    all_goals
      go_wp2
      go_meet
      first
        | exact ⟨_,_,rfl,Blk.new _ _ _,Nat.le_trans b6.size (by simp),(h6.mono (by simp)).keep (fun b _ hb=>by rw [heap_alloc_old _ _ hb]) (by simp),zaa (Below.refl _ _).drew (zaa b6 (zac _ _))⟩
        | exact ⟨_,_,rfl,(zcl _ _ _ _).1,Nat.le_trans b6.size (by simp),(h6.mono (by simp)).keep (fun b _ hb=>by rw [setRow_other _ _ _ _ (by omega),heap_alloc_old _ _ hb]) (by simp [World.setRow]),zaa (Below.refl _ _).drew (zaa b6 (zcl _ _ _ _).2)⟩
        | exact ⟨_,_,rfl,Y6.set _,Nat.le_refl _,(h6.keep (fun b hb _=>setRow_other _ _ _ _ (by simp at hb;omega)) (by simp [World.setRow])).mono (by simp),zab e6 (Nat.le_refl _) _⟩
  case rest=>
  obtain ⟨q,cs,rfl,Q,hq,HFar,BC⟩:=hcut
  have B6:=Lib.hid (B5.out.step BC)
  have O6:=Lib.hid (O5.out.trans (OnlyB.of BC))
  have Y6:=HY.out.step BC
  obtain ⟨A5,c5,hcs,_,_⟩:=HFar.at_.ex
  subst hcs
  have hlq:g < q:=by omega
  have km:=Lib.hid (fun (W':World) (D:Below wc.heap.size wc W')=>zq2 rp (zaf rp A5 c5) W' (HS.out.laid.below (zaa B6.out.bel D)) (HFar.at_.below D) hps.1)
  have kw:=Lib.hid (fun W'=>ziV yn yt 46 hy1 hy2 W')
  have IS2:=Lib.hid (fun W' (D:Below wc.heap.size wc W')=>show (zaR W' q 0∧za9 W' q 0=zaf rp A5 c5)∧W'.cell? ⟨q21,1,none⟩=some (.string ⟨yn.toArray⟩)∧W'.cell? ⟨q21,2,none⟩=some (.string ⟨yt.toArray⟩) from
    ⟨⟨⟨_,(Q.step D).is_prc rfl⟩,zaB ((Q.step D).is_prc rfl)⟩,(Y6.step D).cell 1,(Y6.step D).cell 2⟩)
  have IS3:=Lib.hid (fun W7 W8 (f7:Below wc.heap.size wc W7) (O8:OnlyB g W7 W8)=>show (zaR W8 q 0∧za9 W8 q 0=zaf rp A5 c5)∧W8.cell? ⟨q21,1,none⟩=some (.string ⟨yn.toArray⟩)∧W8.cell? ⟨q21,2,none⟩=some (.string ⟨yt.toArray⟩) from
    ⟨⟨⟨_,((Q.step f7).only O8 (by omega)).is_prc rfl⟩,zaB (((Q.step f7).only O8 (by omega)).is_prc rfl)⟩,((Y6.step f7).only O8 (by omega)).cell 1,((Y6.step f7).only O8 (by omega)).cell 2⟩)
  have ka:=Lib.hid (fun W' (D:Below wc.heap.size wc W') A' c' (I':Items W' A' 13 ((zbf rp).map Leg.arr)) (hc':(zbf rp).length≤c')=>HS.out.add (B6.out.step D) (zbf rp) A' c' 5 (zbC yn 46 yt) I' hc' (Nat.le_trans hml.1 (by omega)) hml.2 hvl (by have:=HE1.out.len;omega))
  generalize zcn (zai G) l1 (zbf rp) 5 (zbC yn 46 yt)=r2 at *
  obtain ⟨l2,e2⟩:=r2
  dsimp only at HDS4
  clear k1 k2 z1 z2 hl1 hl2 hl3 kq B5 O5 X5 HY BC Y6 Q hq HFar hps hml
  go_upto_region 40 with (fail)
  go_cut [20] from 221 to 229 (fun v wx=>∃ L4 c4,v=.int .i64 e2∧Bu w wx g d.cells (.slice iA xs.length ic) L4 c4 l2∧OnlyB g wc wx)
  case first=>
    go_region_held3 (fun W'=>(zaR W' q 0∧za9 W' q 0=zaf rp A5 c5)∧W'.cell? ⟨q21,1,none⟩=some (.string ⟨yn.toArray⟩)∧W'.cell? ⟨q21,2,none⟩=some (.string ⟨yt.toArray⟩))
      (first | exact IS3.out _ _ f7 O8 | ((refine IS2.out _ ?_;repeat' (first | assumption | omega | (refine zab ?_ ?_ _) | (refine Below.alloc ?_ ?_ _) | (refine Below.drew ?_) | exact Below.refl _ _ | (simp;done) | (simp;omega)))))
      (first
        | (go_at_call 79;(with_reducible refine ztM (km.out _ (by repeat' (first | assumption | omega | (refine Below.alloc ?_ ?_ _) | (refine Below.drew ?_) | exact Below.refl _ _ | (simp;done) | (simp;omega)))) ?_);intro A7 c7 w7 hc7 I7 b7;have f7:Below wc.heap.size wc w7:=zaa (by repeat' (first | assumption | omega | (refine Below.alloc ?_ ?_ _) | (refine Below.drew ?_) | exact Below.refl _ _ | (simp;done) | (simp;omega))) b7)
        | (go_at_call 73;(with_reducible refine zae (kw.out _) ?_))
        | (go_at_call 70;(with_reducible refine zch (ka.out _ f7 A7 c7 I7 hc7) ?_);intro L8 c8 w8 B8 O8))
    all_goals
      go_wp2
      go_meet
      exact ⟨_,_,rfl,B8,(OnlyB.of f7).trans O8⟩
  case rest=>
  obtain ⟨L9,c9,rfl,B9,OC⟩:=hcut
  have O9:=Lib.hid (O6.out.trans OC)
  clear IS2 IS3 ka km kw B6 O6 OC
  by_cases hz:e2=0
  rotate_left
  · have hz':(e2 != 0)=true:=by simpa using hz
    have HO2:=Lib.hid (HDS4.out.trans (if_pos hz))
    have HZ2:=Lib.hid hz
    clear HDS4 hz
    go_wp2
    go_ret2
    exact RetSt.err (by rw [HO2.out]) HZ2.out O9.out
  subst hz
  have HO2:=Lib.hid (HDS4.out.trans (if_neg (not_not_intro rfl)))
  clear HDS4
  go_wp2
  go_ret2
  exact RetSt.of (q:=(l2,0)) HO2.out B9 O9.out
end Go.Proofs.YtgoeedohgomodaaGreatDoor
