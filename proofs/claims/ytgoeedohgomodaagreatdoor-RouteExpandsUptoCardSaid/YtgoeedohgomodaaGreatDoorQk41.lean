/- Lemmas and walks. -/
import Derived.Test.YtgoeedohgomodaaGreatDoorQk38
import Derived.Test.YtgoeedohgomodaaGreatDoorQk39
import Derived.Test.YtgoeedohgomodaaGreatDoorQk33
import Derived.Deep.CutBlock
set_option linter.unusedSimpArgs false
set_option linter.unusedVariables false
namespace Go.Proofs.YtgoeedohgomodaaGreatDoor
open Go.RowKit Go.Sort
set_option maxRecDepth 100000
attribute [local go_sem ↓] zdA
attribute [local go_sem] zei zaO zaT zba zbs zd2 zc2 zd5 zc3 zck
set_option maxHeartbeats 8000000 in
theorem zjY {w:World} {d:DBs} {G:GDB} {iA:Option Addr} {ic:Nat} {xs:List ItemV} (hS:RS w d G iA ic xs) (es:List Entry) (L:Option Addr) (c g:Nat) (iv:Value) (W:World) (h:Bu w W g d.cells iv L c es) (he:es.length≤300000)
    (x y:ItemV) (hx:x.short) (hy:y.short) (k s:Int):
    Calls Tryz.prog 74 #[.pointer (some ⟨g,0,none⟩), .agg x.arr, .agg y.arr, .int .u8 k, .int .u8 s] W (RetBu w W g d.cells iv (zeY (zai G) es x y k s)):=by
  have HS:=Lib.hid hS
  obtain ⟨A8,c8,h8,hl8,hI8⟩:=hS.gd.prc
  have kp:=Lib.hid (fun (w':World) (D:Below w.heap.size w w')=>zk6 d.cells G.procs A8 c8 h8 y.name x.name k w' (hI8.below D) hl8 hS.gd.prcN hS.gd.prcS)
  have HP:=Lib.hid (show zcv y.name k x.name G.procs=match zas y.name k x.name G.procs with | none=>(zaA,6) | some p=>(p,0) from rfl)
  have HPS:=Lib.hid (fun p (hp:zas y.name k x.name G.procs=some p)=>show p.small∧∀ x ∈ p.parts,∀ l ∈ x.legs,l.small from ⟨hS.gd.prcS p (zbh hp),hS.sh.prc p (zbh hp)⟩)
  have HC:=Lib.hid (show zeY (zai G) es x y k s=match zas y.name k x.name G.procs with | none=>(es,6) | some p=>if (zau p y.trans x.trans).2 ≠ 0 then (es,(zau p y.trans x.trans).2) else zcn (zai G) es (zau p y.trans x.trans).1 s (zbC x.name 46 x.trans) from rfl)
  generalize zeY (zai G) es x y k s=out at *
  have HB:=Lib.hid h
  have hvl:=zci hx 46
  clear hS h8 hl8 hI8
  obtain ⟨xk,xn,xt⟩:=x
  obtain ⟨yk,yn,yt⟩:=y
  have hx1:=hx.small.1
  have hx2:=hx.small.2
  have hy2:=hy.small.2
  dsimp only at *
  go_enter Tryz.func74,Tryz.ntmps74
  go_upto_region 1 with (fail)
  obtain ⟨X0,Y0,D0⟩:=zvI W (ItemV.arr ⟨xk,xn,xt⟩) (ItemV.arr ⟨yk,yn,yt⟩) 57 57
  generalize hW:World.alloc (World.alloc W _) _=W1
  have hW':(W.alloc (.cells (ItemV.arr ⟨xk,xn,xt⟩) 57)).alloc (.cells (ItemV.arr ⟨yk,yn,yt⟩) 57)=W1:=hW
  rw [hW'] at X0 Y0 D0
  clear hW hW'
  generalize W.heap.size+1=gy at Y0 ⊢
  obtain ⟨gx,hgx⟩:∃ q,q=W.heap.size:=⟨_,rfl⟩
  rw [← hgx] at X0 ⊢
  clear hgx
  have O1:=Lib.hid (OnlyB.of (g:=g) D0)
  have B1:=Lib.hid (HB.out.step D0)
  have HX:=Lib.hid (fun W' (b:Below W1.heap.size W1 W')=>X0.step b)
  have HY:=Lib.hid (fun W' (b:Below W1.heap.size W1 W')=>Y0.step b)
  have k1:za7 W1 g 0:=⟨_,B1.out.db⟩
  have k2:zbQ W1 g 0=d.cells:=zaL B1.out.db
  have z1:W1.cell? ⟨gy,1,none⟩=some (.string ⟨yn.toArray⟩):=Y0.cell 1
  have z2:W1.cell? ⟨gx,1,none⟩=some (.string ⟨xn.toArray⟩):=X0.cell 1
  have hgl:=B1.out.lt
  have hgx:=X0.lt
  have hgy:=Y0.lt
  clear D0 HB X0 Y0
  obtain ⟨r,hr⟩:∃ r,zcv yn k xn G.procs=r:=⟨_,rfl⟩
  rw [hr] at kp HP
  clear hr
  go_cut [11,12] (fun v e wx=>∃ q cs,v=.pointer (some ⟨q,0,none⟩)∧e=.int .i64 r.2∧Blk wx q cs∧W1.heap.size≤q∧PrcFar wx W1.heap.size cs r.1∧Below W1.heap.size W1 wx)
  case first=>
    have HBE:=Lib.hid B1.out.bel
    generalize d.cells=cs at *
    clear HP HPS HC HX HY
    go_region_with (go_at_call 78;(with_reducible refine zqd (kp.out _ (by first | exact HBE.out.trans (((Below.refl _ _).drew).mono HBE.out.size) | exact zaa HBE.out (zaa (Below.refl _ _).drew (zac _ _)) | exact zaa HBE.out (Below.refl _ _).drew)) ?_);intro cs2 w2 h2 b2;obtain ⟨A5,c5,hcs,_,_⟩:=h2.at_.ex;subst hcs;first | (have Y2:Blk w2 W1.heap.size (zaf zaA none 0):=(((Blk.new W1 #[.string ⟨#[]⟩, .string ⟨#[]⟩, .int .u8 0, .slice none 0 0] 131).step (Below.refl _ _).drew)).step b2;have e2:=zaa (zac W1 (.cells #[.string ⟨#[]⟩, .string ⟨#[]⟩, .int .u8 0, .slice none 0 0] 131)).drew b2;have d2:=Y2.plain;have d3:=Y2.of) | skip)
    all_goals
      go_wp2
      go_meet
      first
        | exact ⟨_,_,rfl,rfl,Blk.new _ _ _,Nat.le_trans b2.size (by simp),(h2.mono (by simp)).keep (fun b _ hb=>by rw [heap_alloc_old _ _ hb]) (by simp),zaa (Below.refl _ _).drew (zaa b2 (zac _ _))⟩
        | exact ⟨_,_,rfl,rfl,Y2.set _,Nat.le_refl _,(h2.keep (fun b hb _=>setRow_other _ _ _ _ (by simp at hb;omega)) (by simp [World.setRow])).mono (by simp),zab e2 (Nat.le_refl _) _⟩
  case rest=>
  obtain ⟨q,cs,rfl,rfl,Q,hq,HFar,BC⟩:=hcut
  have B2:=Lib.hid (B1.out.step BC)
  have O2:=Lib.hid (O1.out.trans (OnlyB.of BC))
  have X2:=HX.out _ BC
  have Y2:=HY.out _ BC
  obtain ⟨A5,c5,hcs,_,_⟩:=HFar.at_.ex
  subst hcs
  clear k1 k2 z1 z2 hgl hgx hgy kp B1 O1 HX HY BC
  cases hf2:zas yn k xn G.procs with
  | none=>
    rw [hf2] at HC HP
    have HO:=Lib.hid (show out=(es,6) from HC.out)
    have hr:r=(zaA,6):=HP.out
    subst hr
    clear hf2 HC HP HPS
    go_wp2
    go_ret
    exact RetBu.same HO.out B2.out O2.out
  | some p=>
    rw [hf2] at HC HP
    have HO:=Lib.hid (show out=if (zau p yt xt).2 ≠ 0 then (es,(zau p yt xt).2) else zcn (zai G) es (zau p yt xt).1 s (zbC xn 46 xt) from HC.out)
    have hr:r=(p,0):=HP.out
    subst hr
    have hps:=HPS.out p hf2
    have hex:=zeq hps.2 yt xt
    clear hf2 HC HP HPS
    have ke:=Lib.hid (fun (W':World) (D:Below wc.heap.size wc W')=>zrh p (zaf p A5 c5) yt xt W' (HS.out.laid.below (zaa B2.out.bel D)) (HFar.at_.below D) hps.1 hy2 hx2)
    have i1:zaR wc q 0:=⟨_,Q.is_prc rfl⟩
    have i2:za9 wc q 0=zaf p A5 c5:=zaB (Q.is_prc rfl)
    have z1:wc.cell? ⟨gy,2,none⟩=some (.string ⟨yt.toArray⟩):=Y2.cell 2
    have z2:wc.cell? ⟨gx,2,none⟩=some (.string ⟨xt.toArray⟩):=X2.cell 2
    generalize zau p yt xt=ex at *
    obtain ⟨lg,er⟩:=ex
    dsimp only at hex HO
    have HEX:=Lib.hid hex
    have HX2:=Lib.hid X2
    clear hex hps HFar hq Q X2 Y2
    by_cases hz:er=0
    case neg=>
      have hz':(er != 0)=true:=by simpa using hz
      have HO:=Lib.hid (HO.out.trans (if_pos hz))
      clear hz
      go_wp2_with (go_at_call 115;(with_reducible refine zmI (ke.out _ (Below.refl _ _)) ?_);intro A6 c6 w6 hl6 hI6 b6)
      go_ret
      exact RetBu.same HO.out (B2.out.step b6) (O2.out.trans (OnlyB.of b6))
    subst hz
    have HO:=Lib.hid (HO.out.trans (if_neg (not_not_intro rfl)))
    go_upto_region 7 with (go_at_call 115;(with_reducible refine zmI (ke.out _ (Below.refl _ _)) ?_);intro A6 c6 w6 hl6 hI6 b6)
    have B6:=B2.out.step b6
    have O6:=Lib.hid (O2.out.trans (OnlyB.of b6))
    have X6:=HX2.out.step b6
    clear i1 i2 z1 z2 ke
    have z1:w6.cell? ⟨gx,1,none⟩=some (.string ⟨xn.toArray⟩):=X6.cell 1
    have z2:w6.cell? ⟨gx,2,none⟩=some (.string ⟨xt.toArray⟩):=X6.cell 2
    have kw:=Lib.hid (ziV xn xt 46 hx1 hx2 w6)
    have ka:=Lib.hid (HS.out.add B6 lg A6 c6 s (zbC xn 46 xt) hI6 hl6 (Nat.le_trans HEX.out.1 (by omega)) HEX.out.2 hvl he)
    clear hl6 hI6 B6 X6 HX2 B2 O2 b6
    go_wp2_with (first
      | (go_at_call 73;(with_reducible refine zae kw.out ?_))
      | (go_at_call 70;(with_reducible refine zch ka.out ?_);intro L7 c7 W7 B7 O7))
    go_ret
    rw [HO.out]
    exact ⟨L7,c7,rfl,B7,O6.out.trans O7⟩
end Go.Proofs.YtgoeedohgomodaaGreatDoor
namespace Go.Proofs.YtgoeedohgomodaaGreatDoor
open Go.RowKit Go.Sort
set_option maxRecDepth 100000
attribute [local go_sem] zbY zbv zbu zdh zdd zdb zc9 zda zbV zaO zaT zba zbs
set_option maxHeartbeats 16000000 in
theorem zry {w:World} {d:DBs} {G:GDB} {iA:Option Addr} {ic:Nat} {xs:List ItemV} (hS:RS w d G iA ic xs) (es:List Entry) (L:Option Addr) (c g:Nat) (W:World) (h:Bu w W g d.cells (.slice iA xs.length ic) L c es) (he:es.length≤250000) (i:Nat) (hi:i < xs.length) (hn:xs.length≤124) (word:List UInt8) (hw:word.length≤4000000000)
    (hk:(xs.getD i noItem).kind=6):
    Calls Tryz.prog 41 #[.pointer (some ⟨g,0,none⟩), .int .i64 i, .string ⟨word.toArray⟩] W (RetSt w W g d.cells (.slice iA xs.length ic) (zah (zai G) xs word i es)):=by
  have HS:=Lib.hid hS
  have HB:=Lib.hid h
  have HXS:=Lib.hid (zaM hS.xsS)
  obtain ⟨m,hm⟩:∃ m,xs.length=m+1:=⟨xs.length - 1,by omega⟩
  obtain ⟨b,off,hiA,hic,hcl⟩:=hS.itm hi
  obtain ⟨b',off',hiA',hmc,hcl'⟩:=hS.itm (i:=m) (by omega)
  obtain ⟨rfl,rfl⟩:b'=b∧off'=off:=by
    rw [hiA] at hiA'
    injection hiA' with e1
    injection e1 with e2 e3
    exact ⟨e2.symm,e3.symm⟩
  have IS:=Lib.hid (fun W' (D:Below W.heap.size W W')=>show W'.cell? ⟨g,9,none⟩=some (.slice (some ⟨b',off',none⟩) (m+1) ic)∧zak W' b' (off'+i * 3)∧zar W' b' (off'+i * 3)=xs.getD i noItem∧zak W' b' (off'+m * 3)∧zar W' b' (off'+m * 3)=xs.getD m noItem from
    ⟨by have:=(HB.out.step D).c9;rw [hiA,hm] at this;exact this,⟨_,hcl W' (HB.out.step D).bel⟩,zam (hcl W' (HB.out.step D).bel),⟨_,hcl' W' (HB.out.step D).bel⟩,zam (hcl' W' (HB.out.step D).bel)⟩)
  have HM:=Lib.hid hm
  have HIA:=Lib.hid hiA
  have HK:=Lib.hid hk
  generalize hx:xs.getD i noItem=x at *
  generalize hz:xs.getD m noItem=z at *
  have HX:=Lib.hid hx
  have HZ:=Lib.hid hz
  have him:i < m+1:=by omega
  have hm124:m≤124:=by omega
  have hlt1:(i:Int) < ((m:Int)+1):=by omega
  have hwr:IntKind.i64.wrap (m:Int)=(m:Int):=by rw [IntKind.wrap_i64];omega
  have hlt2:(m:Int) < ((m:Int)+1):=by omega
  clear hS h hiA hiA' hcl hcl' hx hz hk hm hi hn
  go_enter Tryz.func41,Tryz.ntmps41
  go_upto_region 1 with (fail)
  go_cut [8,9] from 24 to 42 (fun u v wx=>∃ q8 q9,u=.pointer (some ⟨q8,0,none⟩)∧v=.pointer (some ⟨q9,0,none⟩)∧Blk wx q8 x.arr∧Blk wx q9 z.arr∧g < q8∧Below W.heap.size W wx)
  case first=>
    have D2:Below W.heap.size W W.drew:=(Below.refl _ _).drew
    go_region_held3 (fun w'=>w'.cell? ⟨g,9,none⟩=some (.slice (some ⟨b',off',none⟩) (m+1) ic)∧zak w' b' (off'+i * 3)∧zar w' b' (off'+i * 3)=x∧zak w' b' (off'+m * 3)∧zar w' b' (off'+m * 3)=z)
      ((refine IS.out _ ?_;repeat' (first | assumption | omega | (refine zab ?_ ?_ _) | (refine Below.alloc ?_ ?_ _) | (refine Below.drew ?_) | exact Below.refl _ _ | (simp;done) | (simp;omega))))
      (fail)
    all_goals
      go_wp2
      go_meet
      first
        | (obtain ⟨a1,a2,a3⟩:=za5 W noItem.arr x.arr noItem.arr z.arr 57 57;exact ⟨_,_,rfl,rfl,a1.step (Below.refl _ _).drew,a2.step (Below.refl _ _).drew,(by have:=HB.out.lt;omega),a3.drew⟩)
        | (obtain ⟨a1,a2,a3⟩:=zaP W noItem.arr noItem.arr x.arr z.arr 57 57;exact ⟨_,_,rfl,rfl,a1.step (Below.refl _ _).drew,a2.step (Below.refl _ _).drew,(by have:=HB.out.lt;omega),a3.drew⟩)
        | (obtain ⟨a1,a2,a3⟩:=za5 W noItem.arr z.arr noItem.arr x.arr 57 57;exact ⟨_,_,rfl,rfl,a2.step (Below.refl _ _).drew,a1.step (Below.refl _ _).drew,(by have:=HB.out.lt;omega),a3.drew⟩)
        | (obtain ⟨a1,a2,a3⟩:=zaP W noItem.arr noItem.arr z.arr x.arr 57 57;exact ⟨_,_,rfl,rfl,a2.step (Below.refl _ _).drew,a1.step (Below.refl _ _).drew,(by have:=HB.out.lt;omega),a3.drew⟩)
  case rest=>
  obtain ⟨q8,q9,rfl,rfl,X8,X9,hgq,BC⟩:=hcut
  have B1:=HB.out.step BC
  have O1:=Lib.hid (OnlyB.of (g:=g) BC)
  obtain ⟨xk,xn,xt⟩:=x
  obtain rfl:xk=6:=HK.out
  have c0:wc.cell? ⟨q8,0,none⟩=some (.int .u8 6):=X8.cell 0
  have HC:=Lib.hid (show zah (zai G) xs word i es=atI i (zeY (zai G) es ⟨6,xn,xt⟩ z 2 3) by
    have e:xs.getD (xs.length - 1) noItem=z:=by rw [HM.out];exact HZ.out
    unfold zah;rw [HX.out,e];rfl)
  have hxs:ItemV.short ⟨6,xn,xt⟩:=by have:=HXS.out i;rw [HX.out] at this;exact this
  have hzs:z.short:=by have:=HXS.out m;rw [HZ.out] at this;exact this
  have kl:=Lib.hid (zjY HS.out es L c g _ wc B1 (by omega) ⟨6,xn,xt⟩ z hxs hzs 2 3)
  have i1:zak wc q8 0:=⟨_,X8.is_itm⟩
  have i2:zar wc q8 0=⟨6,xn,xt⟩:=zam X8.is_itm
  have i3:zak wc q9 0:=⟨_,X9.is_itm⟩
  have i4:zar wc q9 0=z:=zam X9.is_itm
  generalize zah (zai G) xs word i es=out at *
  clear HX HZ IS HXS X9 B1 X8 hxs hzs
  go_wp2_with (go_at_call 74;(with_reducible refine zch kl.out ?_);intro L4 c4 w4 B4 O4)
  go_ret2
  exact RetSt.of HC.out B4 (O1.out.trans O4)
set_option maxHeartbeats 16000000 in
theorem zrx {w:World} {d:DBs} {G:GDB} {iA:Option Addr} {ic:Nat} {xs:List ItemV} (hS:RS w d G iA ic xs) (es:List Entry) (L:Option Addr) (c g:Nat) (W:World) (h:Bu w W g d.cells (.slice iA xs.length ic) L c es) (he:es.length≤250000) (i:Nat) (hi:i < xs.length) (hn:xs.length≤124) (word:List UInt8) (hw:word.length≤4000000000)
    (hk:(xs.getD i noItem).kind=7):
    Calls Tryz.prog 41 #[.pointer (some ⟨g,0,none⟩), .int .i64 i, .string ⟨word.toArray⟩] W (RetSt w W g d.cells (.slice iA xs.length ic) (zah (zai G) xs word i es)):=by
  have HS:=Lib.hid hS
  have HB:=Lib.hid h
  have HXS:=Lib.hid (zaM hS.xsS)
  obtain ⟨m,hm⟩:∃ m,xs.length=m+1:=⟨xs.length - 1,by omega⟩
  obtain ⟨b,off,hiA,hic,hcl⟩:=hS.itm hi
  obtain ⟨b',off',hiA',hmc,hcl'⟩:=hS.itm (i:=m) (by omega)
  obtain ⟨rfl,rfl⟩:b'=b∧off'=off:=by
    rw [hiA] at hiA'
    injection hiA' with e1
    injection e1 with e2 e3
    exact ⟨e2.symm,e3.symm⟩
  have IS:=Lib.hid (fun W' (D:Below W.heap.size W W')=>show W'.cell? ⟨g,9,none⟩=some (.slice (some ⟨b',off',none⟩) (m+1) ic)∧zak W' b' (off'+i * 3)∧zar W' b' (off'+i * 3)=xs.getD i noItem∧zak W' b' (off'+m * 3)∧zar W' b' (off'+m * 3)=xs.getD m noItem from
    ⟨by have:=(HB.out.step D).c9;rw [hiA,hm] at this;exact this,⟨_,hcl W' (HB.out.step D).bel⟩,zam (hcl W' (HB.out.step D).bel),⟨_,hcl' W' (HB.out.step D).bel⟩,zam (hcl' W' (HB.out.step D).bel)⟩)
  have HM:=Lib.hid hm
  have HIA:=Lib.hid hiA
  have HK:=Lib.hid hk
  generalize hx:xs.getD i noItem=x at *
  generalize hz:xs.getD m noItem=z at *
  have HX:=Lib.hid hx
  have HZ:=Lib.hid hz
  have him:i < m+1:=by omega
  have hm124:m≤124:=by omega
  have hlt1:(i:Int) < ((m:Int)+1):=by omega
  have hwr:IntKind.i64.wrap (m:Int)=(m:Int):=by rw [IntKind.wrap_i64];omega
  have hlt2:(m:Int) < ((m:Int)+1):=by omega
  clear hS h hiA hiA' hcl hcl' hx hz hk hm hi hn
  go_enter Tryz.func41,Tryz.ntmps41
  go_upto_region 1 with (fail)
  go_cut [8,9] from 24 to 42 (fun u v wx=>∃ q8 q9,u=.pointer (some ⟨q8,0,none⟩)∧v=.pointer (some ⟨q9,0,none⟩)∧Blk wx q8 x.arr∧Blk wx q9 z.arr∧g < q8∧Below W.heap.size W wx)
  case first=>
    have D2:Below W.heap.size W W.drew:=(Below.refl _ _).drew
    go_region_held3 (fun w'=>w'.cell? ⟨g,9,none⟩=some (.slice (some ⟨b',off',none⟩) (m+1) ic)∧zak w' b' (off'+i * 3)∧zar w' b' (off'+i * 3)=x∧zak w' b' (off'+m * 3)∧zar w' b' (off'+m * 3)=z)
      ((refine IS.out _ ?_;repeat' (first | assumption | omega | (refine zab ?_ ?_ _) | (refine Below.alloc ?_ ?_ _) | (refine Below.drew ?_) | exact Below.refl _ _ | (simp;done) | (simp;omega))))
      (fail)
    all_goals
      go_wp2
      go_meet
      first
        | (obtain ⟨a1,a2,a3⟩:=za5 W noItem.arr x.arr noItem.arr z.arr 57 57;exact ⟨_,_,rfl,rfl,a1.step (Below.refl _ _).drew,a2.step (Below.refl _ _).drew,(by have:=HB.out.lt;omega),a3.drew⟩)
        | (obtain ⟨a1,a2,a3⟩:=zaP W noItem.arr noItem.arr x.arr z.arr 57 57;exact ⟨_,_,rfl,rfl,a1.step (Below.refl _ _).drew,a2.step (Below.refl _ _).drew,(by have:=HB.out.lt;omega),a3.drew⟩)
        | (obtain ⟨a1,a2,a3⟩:=za5 W noItem.arr z.arr noItem.arr x.arr 57 57;exact ⟨_,_,rfl,rfl,a2.step (Below.refl _ _).drew,a1.step (Below.refl _ _).drew,(by have:=HB.out.lt;omega),a3.drew⟩)
        | (obtain ⟨a1,a2,a3⟩:=zaP W noItem.arr noItem.arr z.arr x.arr 57 57;exact ⟨_,_,rfl,rfl,a2.step (Below.refl _ _).drew,a1.step (Below.refl _ _).drew,(by have:=HB.out.lt;omega),a3.drew⟩)
  case rest=>
  obtain ⟨q8,q9,rfl,rfl,X8,X9,hgq,BC⟩:=hcut
  have B1:=HB.out.step BC
  have O1:=Lib.hid (OnlyB.of (g:=g) BC)
  obtain ⟨xk,xn,xt⟩:=x
  obtain rfl:xk=7:=HK.out
  have c0:wc.cell? ⟨q8,0,none⟩=some (.int .u8 7):=X8.cell 0
  have HC:=Lib.hid (show zah (zai G) xs word i es=atI i (zeY (zai G) es ⟨7,xn,xt⟩ z 3 4) by
    have e:xs.getD (xs.length - 1) noItem=z:=by rw [HM.out];exact HZ.out
    unfold zah;rw [HX.out,e];rfl)
  have hxs:ItemV.short ⟨7,xn,xt⟩:=by have:=HXS.out i;rw [HX.out] at this;exact this
  have hzs:z.short:=by have:=HXS.out m;rw [HZ.out] at this;exact this
  have kl:=Lib.hid (zjY HS.out es L c g _ wc B1 (by omega) ⟨7,xn,xt⟩ z hxs hzs 3 4)
  have i1:zak wc q8 0:=⟨_,X8.is_itm⟩
  have i2:zar wc q8 0=⟨7,xn,xt⟩:=zam X8.is_itm
  have i3:zak wc q9 0:=⟨_,X9.is_itm⟩
  have i4:zar wc q9 0=z:=zam X9.is_itm
  generalize zah (zai G) xs word i es=out at *
  clear HX HZ IS HXS X9 B1 X8 hxs hzs
  go_wp2_with (go_at_call 74;(with_reducible refine zch kl.out ?_);intro L4 c4 w4 B4 O4)
  go_ret2
  exact RetSt.of HC.out B4 (O1.out.trans O4)
set_option maxHeartbeats 16000000 in
theorem zrC {w:World} {d:DBs} {G:GDB} {iA:Option Addr} {ic:Nat} {xs:List ItemV} (hS:RS w d G iA ic xs) (es:List Entry) (L:Option Addr) (c g:Nat) (W:World) (h:Bu w W g d.cells (.slice iA xs.length ic) L c es) (he:es.length≤250000) (i:Nat) (hi:i < xs.length) (hn:xs.length≤124) (word:List UInt8) (hw:word.length≤4000000000)
    (hk:(xs.getD i noItem).kind=2):
    Calls Tryz.prog 41 #[.pointer (some ⟨g,0,none⟩), .int .i64 i, .string ⟨word.toArray⟩] W (RetSt w W g d.cells (.slice iA xs.length ic) (zah (zai G) xs word i es)):=by
  have HS:=Lib.hid hS
  have HB:=Lib.hid h
  have HXS:=Lib.hid (zaM hS.xsS)
  obtain ⟨b0,off0,hiA0,_,hcl0⟩:=hS.itm (i:=0) (by omega)
  have HC0:=Lib.hid hcl0
  have HIA0:=Lib.hid hiA0
  clear hcl0 hiA0
  obtain ⟨m,hm⟩:∃ m,xs.length=m+1:=⟨xs.length - 1,by omega⟩
  obtain ⟨b,off,hiA,hic,hcl⟩:=hS.itm hi
  obtain ⟨b',off',hiA',hmc,hcl'⟩:=hS.itm (i:=m) (by omega)
  obtain ⟨rfl,rfl⟩:b'=b∧off'=off:=by
    rw [hiA] at hiA'
    injection hiA' with e1
    injection e1 with e2 e3
    exact ⟨e2.symm,e3.symm⟩
  obtain ⟨rfl,rfl⟩:b'=b0∧off'=off0:=by
    have h0:=HIA0.out
    rw [hiA'] at h0
    injection h0 with e1
    injection e1 with e2 e3
    exact ⟨e2,e3⟩
  obtain ⟨y0,hy0⟩:∃ y,xs.getD 0 noItem=y:=⟨_,rfl⟩
  rw [hy0] at HC0
  have HY0:=Lib.hid hy0
  clear hy0 HIA0
  have HC0:=Lib.hid (fun W' (D:Below w.heap.size w W')=>show zfA W' b' off' y0 by have:=HC0.out W' D;rwa [Nat.zero_mul,Nat.add_zero] at this)
  have IS:=Lib.hid (fun W' (D:Below W.heap.size W W')=>show W'.cell? ⟨g,9,none⟩=some (.slice (some ⟨b',off',none⟩) (m+1) ic)∧zak W' b' (off'+i * 3)∧zar W' b' (off'+i * 3)=xs.getD i noItem∧zak W' b' (off'+m * 3)∧zar W' b' (off'+m * 3)=xs.getD m noItem from
    ⟨by have:=(HB.out.step D).c9;rw [hiA,hm] at this;exact this,⟨_,hcl W' (HB.out.step D).bel⟩,zam (hcl W' (HB.out.step D).bel),⟨_,hcl' W' (HB.out.step D).bel⟩,zam (hcl' W' (HB.out.step D).bel)⟩)
  have HM:=Lib.hid hm
  have HIA:=Lib.hid hiA
  have HK:=Lib.hid hk
  generalize hx:xs.getD i noItem=x at *
  generalize hz:xs.getD m noItem=z at *
  have HX:=Lib.hid hx
  have HZ:=Lib.hid hz
  have him:i < m+1:=by omega
  have hm124:m≤124:=by omega
  have hlt1:(i:Int) < ((m:Int)+1):=by omega
  have hwr:IntKind.i64.wrap (m:Int)=(m:Int):=by rw [IntKind.wrap_i64];omega
  have hlt2:(m:Int) < ((m:Int)+1):=by omega
  clear hS h hiA hiA' hcl hcl' hx hz hk hm hi hn
  go_enter Tryz.func41,Tryz.ntmps41
  go_upto_region 1 with (fail)
  go_cut [8,9] from 24 to 42 (fun u v wx=>∃ q8 q9,u=.pointer (some ⟨q8,0,none⟩)∧v=.pointer (some ⟨q9,0,none⟩)∧Blk wx q8 x.arr∧Blk wx q9 z.arr∧g < q8∧Below W.heap.size W wx)
  case first=>
    have D2:Below W.heap.size W W.drew:=(Below.refl _ _).drew
    go_region_held3 (fun w'=>w'.cell? ⟨g,9,none⟩=some (.slice (some ⟨b',off',none⟩) (m+1) ic)∧zak w' b' (off'+i * 3)∧zar w' b' (off'+i * 3)=x∧zak w' b' (off'+m * 3)∧zar w' b' (off'+m * 3)=z)
      ((refine IS.out _ ?_;repeat' (first | assumption | omega | (refine zab ?_ ?_ _) | (refine Below.alloc ?_ ?_ _) | (refine Below.drew ?_) | exact Below.refl _ _ | (simp;done) | (simp;omega))))
      (fail)
    all_goals
      go_wp2
      go_meet
      first
        | (obtain ⟨a1,a2,a3⟩:=za5 W noItem.arr x.arr noItem.arr z.arr 57 57;exact ⟨_,_,rfl,rfl,a1.step (Below.refl _ _).drew,a2.step (Below.refl _ _).drew,(by have:=HB.out.lt;omega),a3.drew⟩)
        | (obtain ⟨a1,a2,a3⟩:=zaP W noItem.arr noItem.arr x.arr z.arr 57 57;exact ⟨_,_,rfl,rfl,a1.step (Below.refl _ _).drew,a2.step (Below.refl _ _).drew,(by have:=HB.out.lt;omega),a3.drew⟩)
        | (obtain ⟨a1,a2,a3⟩:=za5 W noItem.arr z.arr noItem.arr x.arr 57 57;exact ⟨_,_,rfl,rfl,a2.step (Below.refl _ _).drew,a1.step (Below.refl _ _).drew,(by have:=HB.out.lt;omega),a3.drew⟩)
        | (obtain ⟨a1,a2,a3⟩:=zaP W noItem.arr noItem.arr z.arr x.arr 57 57;exact ⟨_,_,rfl,rfl,a2.step (Below.refl _ _).drew,a1.step (Below.refl _ _).drew,(by have:=HB.out.lt;omega),a3.drew⟩)
  case rest=>
  obtain ⟨q8,q9,rfl,rfl,X8,X9,hgq,BC⟩:=hcut
  have B1:=HB.out.step BC
  have O1:=Lib.hid (OnlyB.of (g:=g) BC)
  obtain ⟨xk,xn,xt⟩:=x
  obtain rfl:xk=2:=HK.out
  have c0:wc.cell? ⟨q8,0,none⟩=some (.int .u8 2):=X8.cell 0
  have HC:=Lib.hid (show zah (zai G) xs word i es=atI i (zeY (zai G) es ⟨2,xn,xt⟩ y0 1 1) by
    unfold zah;rw [HX.out,HY0.out];rfl)
  have hxs:ItemV.short ⟨2,xn,xt⟩:=by have:=HXS.out i;rw [HX.out] at this;exact this
  have hys:y0.short:=by have:=HXS.out 0;rw [HY0.out] at this;exact this
  have kl:=Lib.hid (fun W' (D:Below wc.heap.size wc W')=>zjY HS.out es L c g _ W' (B1.step D) (by omega) ⟨2,xn,xt⟩ y0 hxs hys 1 1)
  have IS2:=Lib.hid (fun W' (D:Below wc.heap.size wc W')=>show (zak W' q8 0∧zar W' q8 0=⟨2,xn,xt⟩)∧W'.cell? ⟨g,9,none⟩=some (.slice (some ⟨b',off',none⟩) (m+1) ic)∧zak W' b' off'∧zar W' b' off'=y0 from
    ⟨⟨⟨_,(X8.step D).is_itm⟩,zam (X8.step D).is_itm⟩,(IS.out W' (BC.trans (D.mono BC.size))).1,⟨_,HC0.out W' (B1.step D).bel⟩,zam (HC0.out W' (B1.step D).bel)⟩)
  have IS3:=Lib.hid (fun W' L' c' es' (B':Bu w W' g d.cells (.slice iA xs.length ic) L' c' es') (O':OnlyB g wc.drew W')=>show (zak W' q8 0∧zar W' q8 0=⟨2,xn,xt⟩)∧W'.cell? ⟨g,9,none⟩=some (.slice (some ⟨b',off',none⟩) (m+1) ic)∧zak W' b' off'∧zar W' b' off'=y0 from
    ⟨⟨⟨_,((X8.step (Below.refl _ _).drew).only O' (by omega)).is_itm⟩,zam ((X8.step (Below.refl _ _).drew).only O' (by omega)).is_itm⟩,(by have:=B'.c9;rw [HIA.out,HM.out] at this;exact this),⟨_,HC0.out W' B'.bel⟩,zam (HC0.out W' B'.bel)⟩)
  have hic0:0 < ic:=by omega
  generalize zah (zai G) xs word i es=out at *
  clear HX HZ IS HXS X9 B1 X8 hxs hys HY0 HC0 BC
  go_upto_region 12 with (fail)
  go_region_held3 (fun w'=>(zak w' q8 0∧zar w' q8 0=⟨2,xn,xt⟩)∧w'.cell? ⟨g,9,none⟩=some (.slice (some ⟨b',off',none⟩) (m+1) ic)∧zak w' b' off'∧zar w' b' off'=y0)
    (first | exact IS3.out _ _ _ _ B4 O4 | ((refine IS2.out _ ?_;repeat' (first | assumption | omega | (refine zab ?_ ?_ _) | (refine Below.alloc ?_ ?_ _) | (refine Below.drew ?_) | exact Below.refl _ _ | (simp;done) | (simp;omega)))))
    ((go_at_call 74;(with_reducible refine zch (kl.out _ (by repeat' (first | assumption | omega | (refine Below.alloc ?_ ?_ _) | (refine Below.drew ?_) | exact Below.refl _ _ | (simp;done) | (simp;omega)))) ?_);intro L4 c4 w4 B4 O4))
  all_goals
    go_wp2
    go_ret2
    exact RetSt.of HC.out B4 (O1.out.trans ((OnlyB.of (Below.refl _ _).drew).trans O4))
set_option maxHeartbeats 16000000 in
theorem zrz {w:World} {d:DBs} {G:GDB} {iA:Option Addr} {ic:Nat} {xs:List ItemV} (hS:RS w d G iA ic xs) (es:List Entry) (L:Option Addr) (c g:Nat) (W:World) (h:Bu w W g d.cells (.slice iA xs.length ic) L c es) (he:es.length≤250000) (i:Nat) (hi:i < xs.length) (hn:xs.length≤124) (word:List UInt8) (hw:word.length≤4000000000)
    (hk:(xs.getD i noItem).kind=5):
    Calls Tryz.prog 41 #[.pointer (some ⟨g,0,none⟩), .int .i64 i, .string ⟨word.toArray⟩] W (RetSt w W g d.cells (.slice iA xs.length ic) (zah (zai G) xs word i es)):=by
  have HS:=Lib.hid hS
  have HB:=Lib.hid h
  have HXS:=Lib.hid (zaM hS.xsS)
  obtain ⟨m,hm⟩:∃ m,xs.length=m+1:=⟨xs.length - 1,by omega⟩
  obtain ⟨b,off,hiA,hic,hcl⟩:=hS.itm hi
  obtain ⟨b',off',hiA',hmc,hcl'⟩:=hS.itm (i:=m) (by omega)
  obtain ⟨rfl,rfl⟩:b'=b∧off'=off:=by
    rw [hiA] at hiA'
    injection hiA' with e1
    injection e1 with e2 e3
    exact ⟨e2.symm,e3.symm⟩
  have IS:=Lib.hid (fun W' (D:Below W.heap.size W W')=>show W'.cell? ⟨g,9,none⟩=some (.slice (some ⟨b',off',none⟩) (m+1) ic)∧zak W' b' (off'+i * 3)∧zar W' b' (off'+i * 3)=xs.getD i noItem∧zak W' b' (off'+m * 3)∧zar W' b' (off'+m * 3)=xs.getD m noItem from
    ⟨by have:=(HB.out.step D).c9;rw [hiA,hm] at this;exact this,⟨_,hcl W' (HB.out.step D).bel⟩,zam (hcl W' (HB.out.step D).bel),⟨_,hcl' W' (HB.out.step D).bel⟩,zam (hcl' W' (HB.out.step D).bel)⟩)
  have HM:=Lib.hid hm
  have HIA:=Lib.hid hiA
  have HK:=Lib.hid hk
  generalize hx:xs.getD i noItem=x at *
  generalize hz:xs.getD m noItem=z at *
  have HX:=Lib.hid hx
  have HZ:=Lib.hid hz
  have him:i < m+1:=by omega
  have hm124:m≤124:=by omega
  have hlt1:(i:Int) < ((m:Int)+1):=by omega
  have hwr:IntKind.i64.wrap (m:Int)=(m:Int):=by rw [IntKind.wrap_i64];omega
  have hlt2:(m:Int) < ((m:Int)+1):=by omega
  clear hS h hiA hiA' hcl hcl' hx hz hk hm hi hn
  go_enter Tryz.func41,Tryz.ntmps41
  go_upto_region 1 with (fail)
  go_cut [8,9] from 24 to 42 (fun u v wx=>∃ q8 q9,u=.pointer (some ⟨q8,0,none⟩)∧v=.pointer (some ⟨q9,0,none⟩)∧Blk wx q8 x.arr∧Blk wx q9 z.arr∧g < q8∧Below W.heap.size W wx)
  case first=>
    have D2:Below W.heap.size W W.drew:=(Below.refl _ _).drew
    go_region_held3 (fun w'=>w'.cell? ⟨g,9,none⟩=some (.slice (some ⟨b',off',none⟩) (m+1) ic)∧zak w' b' (off'+i * 3)∧zar w' b' (off'+i * 3)=x∧zak w' b' (off'+m * 3)∧zar w' b' (off'+m * 3)=z)
      ((refine IS.out _ ?_;repeat' (first | assumption | omega | (refine zab ?_ ?_ _) | (refine Below.alloc ?_ ?_ _) | (refine Below.drew ?_) | exact Below.refl _ _ | (simp;done) | (simp;omega))))
      (fail)
    all_goals
      go_wp2
      go_meet
      first
        | (obtain ⟨a1,a2,a3⟩:=za5 W noItem.arr x.arr noItem.arr z.arr 57 57;exact ⟨_,_,rfl,rfl,a1.step (Below.refl _ _).drew,a2.step (Below.refl _ _).drew,(by have:=HB.out.lt;omega),a3.drew⟩)
        | (obtain ⟨a1,a2,a3⟩:=zaP W noItem.arr noItem.arr x.arr z.arr 57 57;exact ⟨_,_,rfl,rfl,a1.step (Below.refl _ _).drew,a2.step (Below.refl _ _).drew,(by have:=HB.out.lt;omega),a3.drew⟩)
        | (obtain ⟨a1,a2,a3⟩:=za5 W noItem.arr z.arr noItem.arr x.arr 57 57;exact ⟨_,_,rfl,rfl,a2.step (Below.refl _ _).drew,a1.step (Below.refl _ _).drew,(by have:=HB.out.lt;omega),a3.drew⟩)
        | (obtain ⟨a1,a2,a3⟩:=zaP W noItem.arr noItem.arr z.arr x.arr 57 57;exact ⟨_,_,rfl,rfl,a2.step (Below.refl _ _).drew,a1.step (Below.refl _ _).drew,(by have:=HB.out.lt;omega),a3.drew⟩)
  case rest=>
  obtain ⟨q8,q9,rfl,rfl,X8,X9,hgq,BC⟩:=hcut
  have B1:=HB.out.step BC
  have O1:=Lib.hid (OnlyB.of (g:=g) BC)
  obtain ⟨xk,xn,xt⟩:=x
  obtain rfl:xk=5:=HK.out
  have c0:wc.cell? ⟨q8,0,none⟩=some (.int .u8 5):=X8.cell 0
  have HC:=Lib.hid (show zah (zai G) xs word i es=(es,((i:Int),0)) by
    unfold zah;rw [HX.out];rfl)
  generalize zah (zai G) xs word i es=out at *
  have HB1:=Lib.hid B1
  clear HX HZ IS HXS X9 B1 X8
  go_wp2
  go_ret2
  exact RetSt.of (q:=(es,0)) HC.out HB1.out O1.out
end Go.Proofs.YtgoeedohgomodaaGreatDoor
namespace Go.Proofs.YtgoeedohgomodaaGreatDoor
open Go.RowKit Go.Sort
set_option maxRecDepth 100000
theorem zlw {R:zbS} {l:List Entry} {a:AwyV} {y:ItemV} {i:Nat} {e:List UInt8} {q:Int × Int} (h:zfW R a y i=(some e,q)):
    zbb R l a y i=if (zec l).2=false then (l,((i:Int),9)) else if (zaG a (zec l).1 e).2 ≠ 0 then (l,((i:Int)+1,(zaG a (zec l).1 e).2)) else
      ((zcn R l ((zaG a (zec l).1 e).1.map zfb) 2 a.name).1,((i:Int),(zcn R l ((zaG a (zec l).1 e).1.map zfb) 2 a.name).2)):=by
  unfold zbb zec
  rw [h]
  dsimp only
  cases l.getLast? with
  | none=>rfl
  | some z=>
    dsimp only
    by_cases hq:zdq z.leg.ty=true
    · simp only [hq,Bool.not_true,Bool.false_eq_true,if_false]
      rfl
    · rw [if_pos (by simpa using hq),if_pos (by simpa using hq)]
theorem zlx {R:zbS} {l:List Entry} {a:AwyV} {y:ItemV} {i:Nat} {q:Int × Int} (h:zfW R a y i=(none,q)):zbb R l a y i=(l,q):=by
  unfold zbb
  rw [h]
attribute [local go_sem ↓] zde
attribute [local go_sem] zd4 zcG zdJ zcH zb0
set_option maxHeartbeats 16000000 in
theorem zrJ {w:World} {d:DBs} {G:GDB} {iA:Option Addr} {ic:Nat} {xs:List ItemV} (hS:RS w d G iA ic xs) (es:List Entry) (L:Option Addr) (c g:Nat) (W:World) (h:Bu w W g d.cells (.slice iA xs.length ic) L c es) (he:es.length≤250000)
    (a:AwyV) (cs:Array Value) (hA:AwyAt W cs a) (ha:a.small) (i:Nat) (hi:i+1 < xs.length) (hn:xs.length≤1000):
    Calls Tryz.prog 76 #[.pointer (some ⟨g,0,none⟩), .agg cs, .int .i64 i] W (RetBI w W g d.cells (.slice iA xs.length ic) (zbb (zai G) es a (xs.getD (i+1) noItem) i)):=by
  obtain ⟨A5,c5,rfl,hl5,hI5⟩:=hA.ex
  obtain ⟨b,off,hiA,hic,hcl⟩:=hS.itm hi
  have hsh:=zaM hS.xsS (i+1)
  have HS:=Lib.hid hS
  have HB:=Lib.hid h
  have HI5:=Lib.hid (fun W' (D:Below W.heap.size W W')=>hI5.below D)
  generalize xs.getD (i+1) noItem=y at *
  obtain ⟨yk,yn,yt⟩:=y
  have hyn:=hsh.small.1
  dsimp only at hyn
  have HOs:=Lib.hid (fun e q (hh:zfW (zai G) a ⟨yk,yn,yt⟩ i=(some e,q))=>zlw (l:=es) hh)
  have HOn:=Lib.hid (fun q (hh:zfW (zai G) a ⟨yk,yn,yt⟩ i=(none,q))=>zlx (l:=es) hh)
  have HEA:=Lib.hid (show zfW (zai G) a ⟨yk,yn,yt⟩ i=if yk=4 then (some yn,((0:Int),(0:Int))) else if yk=3 then (if (zaU yn G.airways).isSome then (none,((i:Int),9)) else match zbJ yn a.pts with | none=>(none,((i:Int)+1,(6:Int))) | some r=>(some r,((0:Int),(0:Int)))) else (none,((i:Int),9)) from rfl)
  generalize zbb (zai G) es a ⟨yk,yn,yt⟩ i=out at *
  obtain ⟨iv,hiv⟩:∃ v,v=Value.slice iA xs.length ic:=⟨_,rfl⟩
  have E9:=Lib.hid (fun W' (D:Below W.heap.size W W')=>show W'.cell? ⟨g,9,none⟩=some (.slice (some ⟨b,off,none⟩) xs.length ic) by rw [← hiA];exact (HB.out.step D).c9)
  rw [← hiv] at HB h ⊢
  have HCL:=Lib.hid hcl
  clear hS hI5 hA hiv hcl
  go_enter Tryz.func76,Tryz.ntmps76
  go_upto_region 1 with (fail)
  have A0:=Blk.new W (zao a A5 c5) 81
  have D0:=zac W (.cells (zao a A5 c5) 81)
  have h1:=HB.out.step D0
  generalize W.alloc _=W1 at A0 D0 h1 ⊢
  generalize W.heap.size=g4 at A0 ⊢
  have hlt:(i:Int)+1 < (xs.length:Int):=by omega
  have e9:=E9.out W1 D0
  have i1:zak W1 b (off+(i+1) * 3):=⟨_,HCL.out W1 h1.bel⟩
  have i2:zar W1 b (off+(i+1) * 3)=⟨yk,yn,yt⟩:=zam (HCL.out W1 h1.bel)
  have hi1:((i:Int)+1).toNat=i+1:=by omega
  go_upto_region 2 with (fail)
  have Y8:=Blk.new W1 (ItemV.arr ⟨yk,yn,yt⟩) 57
  have D1:=zaa D0 (zac W1 (.cells (ItemV.arr ⟨yk,yn,yt⟩) 57))
  have h2:=HB.out.step D1
  have A1:=A0.alloc (.cells (ItemV.arr ⟨yk,yn,yt⟩) 57)
  generalize W1.alloc _=W2 at Y8 D1 h2 A1 ⊢
  generalize W1.heap.size=q8 at Y8 ⊢
  have y0:W2.cell? ⟨q8,0,none⟩=some (.int .u8 yk):=Y8.cell 0
  have y1:W2.cell? ⟨q8,1,none⟩=some (.string ⟨yn.toArray⟩):=Y8.cell 1
  clear h1 A0 D0 e9 i1 i2 hi1 hlt
  have kb:=Lib.hid (fun W' (D:Below W2.heap.size W2 W')=>zjZ d G es L c g iv w W' yn (h2.step D) (HS.out.gd.below (h2.step D).bel))
  have HAL:=Lib.hid (show zcc G.airways yn=match zaU yn G.airways with | none=>(zcg,6) | some a=>(a,0) from rfl)
  have HB2:=Lib.hid h2
  have HD1:=Lib.hid D1
  have HA1:=Lib.hid A1
  have HY8:=Lib.hid Y8
  clear h2 D1 A1 h
  go_upto_block 0 with (fail)
  go_cut [9] (fun v wx=>∃ e q,zfW (zai G) a ⟨yk,yn,yt⟩ i=(some e,q)∧v=.string ⟨e.toArray⟩∧Below W2.heap.size W2 wx)
  case first=>
    by_cases k4:yk=4
    · subst k4
      have HE:=Lib.hid (show zfW (zai G) a ⟨4,yn,yt⟩ i=(some yn,(0,0)) from HEA.out.trans (if_pos rfl))
      clear HEA HAL kb HOs HOn
      go_wp2
      go_meet
      exact ⟨yn,_,HE.out,rfl,Below.refl _ _⟩
    have e4:(yk == 4)=false:=by simpa using k4
    have HEA:=Lib.hid (HEA.out.trans (if_neg k4))
    clear k4
    by_cases k3:yk=3
    rotate_left
    · have e3:(yk == 3)=false:=by simpa using k3
      have HO:=Lib.hid (HOn.out _ (HEA.out.trans (if_neg k3)))
      clear HEA HAL kb HOs HOn k3
      go_wp2
      go_ret2
      exact RetBI.same HO.out HB2.out (OnlyB.of HD1.out)
    subst k3
    have HE3:=Lib.hid (show zfW (zai G) a ⟨3,yn,yt⟩ i=(if (zaU yn G.airways).isSome then (none,((i:Int),(9:Int))) else match zbJ yn a.pts with | none=>(none,((i:Int)+1,(6:Int))) | some r=>(some r,((0:Int),(0:Int)))) from rfl)
    cases hf:zaU yn G.airways with
    | some z=>
      have HO:=Lib.hid (HOn.out ((i:Int),(9:Int)) (by rw [HE3.out,hf];rfl))
      rw [hf] at HAL
      have hr:zcc G.airways yn=(z,0):=HAL.out
      rw [hr] at kb
      clear HEA HE3 HAL HOs HOn hf hr e4
      go_wp2_with (go_at_call 75;(with_reducible refine zmK (kb.out _ (Below.refl _ _)) ?_);intro cs3 w3 h3 b3;obtain ⟨A6,c6,hcs,_,_⟩:=h3.ex;subst hcs)
      go_ret2
      exact RetBI.same HO.out (HB2.out.step (zaa b3 (zac _ _))) (OnlyB.of (zaa HD1.out (zaa b3 (zac _ _))))
    | none=>
      rw [hf] at HAL
      have hr:zcc G.airways yn=(zcg,6):=HAL.out
      rw [hr] at kb
      have HE3:=Lib.hid (show zfW (zai G) a ⟨3,yn,yt⟩ i=(match zbJ yn a.pts with | none=>(none,((i:Int)+1,(6:Int))) | some r=>(some r,((0:Int),(0:Int)))) by rw [HE3.out,hf];rfl)
      clear HAL hf hr e4 HEA
      have kx:=Lib.hid (fun W' (D:Below W2.heap.size W2 W')=>zt4 a.pts yn A5 c5 q8 W' (HI5.out _ (zaa HD1.out D)) (by have:=ha.len;omega) (HS.out.laid.below (HB2.out.step D).bel) (fun p hp=>ha.each p hp) (HY8.out.step D).lt ((HY8.out.step D).cell 1))
      have hnm:=zld yn a.pts 0
      go_upto_region 10 with (go_at_call 75;(with_reducible refine zmK (kb.out _ (Below.refl _ _)) ?_);intro cs3 w3 h3 b3;obtain ⟨A6,c6,hcs,_,_⟩:=h3.ex;subst hcs)
      have b4:=zaa b3 (zac w3 (.cells (zao zcg A6 c6) 81))
      clear h3 b3 kb
      generalize hw4:World.alloc w3 _=w4
      have hw4':w3.alloc (.cells (zao zcg A6 c6) 81)=w4:=hw4
      rw [hw4'] at b4
      clear hw4 hw4'
      have z4:w4.cell? ⟨g4,1,none⟩=some (.slice A5 a.pts.length c5):=(HA1.out.step b4).cell 1
      have k4:=Lib.hid (kx.out w4 b4)
      cases hp:zbJ yn a.pts with
      | none=>
        rw [hp] at hnm
        have HO:=Lib.hid (HOn.out ((i:Int)+1,(6:Int)) (by rw [HE3.out,hp]))
        have hix:ztp yn a.pts 0=-1:=hnm
        rw [hix] at k4
        clear HE3 HOs HOn hp hnm hix kx
        go_wp2_with (go_at_call 117;(with_reducible refine zaj k4.out ?_);intro w5 b5 _ _ _)
        go_ret2
        exact RetBI.same HO.out (HB2.out.step (zaa b4 b5)) (OnlyB.of (zaa HD1.out (zaa b4 b5)))
      | some r=>
        rw [hp] at hnm
        obtain ⟨j,hj1,hj2,hj3⟩:=hnm
        rw [Nat.zero_add] at hj1
        rw [hj1] at k4
        have HE:=Lib.hid (show zfW (zai G) a ⟨3,yn,yt⟩ i=(some r,((0:Int),(0:Int))) by rw [HE3.out,hp])
        obtain ⟨b5,o5,hA5,hbb,hcc⟩:=(HI5.out W2 HD1.out).get (k:=j) (by simpa using hj2)
        have HIJ:=Lib.hid (fun W' (D:Below W2.heap.size W2 W')=>(ze6 (by have:=HI5.out W' (zaa HD1.out D);rw [hA5] at this;exact this) (Below.refl _ _) hj2:zds W' b5 (o5+j * 4) a.pts[j]))
        have hgj:a.pts[j].ref=r:=by rw [← hj3,List.getD_eq_getElem?_getD,List.getElem?_eq_getElem hj2];rfl
        have HR:=Lib.hid (fun W' (D:Below W2.heap.size W2 W')=>show W'.cell? ⟨b5,o5+j * 4,none⟩=some (.string ⟨r.toArray⟩) by have:=HIJ.out W' D 0 (by omega);rw [← hgj];exact this)
        subst hA5
        have hjc:j < c5:=by omega
        have hjl:j < a.pts.length:=hj2
        clear hcc hbb HE3 HOs HOn hp hj1 hj3 hgj HIJ kx hj2
        go_wp2_with (go_at_call 117;(with_reducible refine zaj k4.out ?_);intro w5 b5' _ _ _;have z5:w5.cell? ⟨g4,1,none⟩=some (.slice (some ⟨b5,o5,none⟩) a.pts.length c5):=(HA1.out.step (zaa b4 b5')).cell 1;have z6:=HR.out _ (zaa b4 b5'))
        go_meet
        exact ⟨r,_,HE.out,rfl,zaa b4 b5'⟩
  case rest=>
  obtain ⟨e,q,hea,rfl,BC⟩:=hcut
  have HO:=Lib.hid (HOs.out e q hea)
  have B3:=HB2.out.step BC
  have D3:=Lib.hid (zaa HD1.out BC)
  have A3:=HA1.out.step BC
  have ka:=Lib.hid (zrK es L c g d.cells iv w wc B3 (by omega))
  have HB3:=Lib.hid B3
  have HA3:=Lib.hid A3
  clear HEA HAL kb HOs HOn hea HY8 HB2 HD1 HA1 y0 y1 BC B3 A3
  generalize zec es=fr at *
  obtain ⟨fx,ok⟩:=fr
  dsimp only at HO ka
  cases ok with
  | false=>
    have HO:=Lib.hid (HO.out.trans (if_pos rfl))
    go_wp2_with (go_at_call 119;(with_reducible refine zaj ka.out ?_);intro w4 b4 _ _ _)
    go_ret2
    exact RetBI.same HO.out (HB3.out.step b4) (OnlyB.of (zaa D3.out b4))
  | true=>
  have HO2:=Lib.hid (HO.out.trans (if_neg (by decide)))
  clear HO
  have HWL:=Lib.hid (zet a fx e ha.each)
  have HWN:=Lib.hid (zfz ha.each fx e).2
  have ke:=Lib.hid (fun W' (D:Below wc.heap.size wc W')=>zpB a (zao a A5 c5) fx e W' (HS.out.laid.below (HB3.out.step D).bel) ⟨⟨A5,c5,rfl,hl5,HI5.out _ (zaa D3.out D)⟩⟩ ha)
  generalize zaG a fx e=ex at *
  obtain ⟨pts,pe⟩:=ex
  dsimp only at HO2 HWL HWN
  go_upto_region 17 with (go_at_call 119;(with_reducible refine zaj ka.out ?_);intro w4 b4 _ _ _)
  have D4:=Lib.hid (zaa D3.out b4)
  have A4:=HA3.out.step b4
  have HA4:=Lib.hid A4
  have HB4:=Lib.hid (HB3.out.step b4)
  have ke:=Lib.hid (ke.out w4 b4)
  have j1:zce w4 g4 0:=⟨_,A4.is_awy rfl⟩
  have j2:zcz w4 g4 0=zao a A5 c5:=zby (A4.is_awy rfl)
  clear ka D3 HB3 HA3 b4 A4
  by_cases hz:pe=0
  rotate_left
  · have hz':(pe != 0)=true:=by simpa using hz
    have HO:=Lib.hid (HO2.out.trans (if_pos hz))
    clear hz
    go_wp2_with (go_at_call 120;(with_reducible refine zmF ke.out ?_);intro A9 c9 w9 hl9 hI9 b9)
    go_ret2
    exact RetBI.same HO.out (HB4.out.step b9) (OnlyB.of (zaa D4.out b9))
  subst hz
  have HO3:=Lib.hid (HO2.out.trans (if_neg (not_not_intro rfl)))
  clear HO2
  go_upto_region 22 with (go_at_call 120;(with_reducible refine zmF ke.out ?_);intro A9 c9 w9 hl9 hI9 b9)
  have D9:=Lib.hid (zaa D4.out b9)
  have HA9:=Lib.hid (HA4.out.step b9)
  have HB9:=Lib.hid (HB4.out.step b9)
  have HI9:=Lib.hid (fun W' (D:Below w9.heap.size w9 W')=>hI9.below D)
  have HL9:=Lib.hid hl9
  clear ke D4 HA4 HB4 j1 j2 hI9 hl9 b9
  go_loopw [17,82] (fun v iv wr=>∃ k:Nat,k≤pts.length∧iv=.int .i64 k∧GOut w9.heap.size wr 64 13 v (((pts.take k).map zfb).map Leg.arr)∧Below w9.heap.size w9 wr) (fun _ iv _=>pts.length - (intOf iv).toNat)
  case atStart=>exact ⟨0,Nat.zero_le _,rfl,GOut.nil _ _ _ _,Below.refl _ _⟩
  case round=>
    obtain ⟨k,hk,rfl,O,BW⟩:=hrel
    by_cases hlt:k < pts.length
    · obtain ⟨b9,o9,hA9,hb9,hcl9⟩:=(HI9.out wr BW).get (k:=k) (by simpa using hlt)
      subst hA9
      have hq:zds wr b9 (o9+k * 4) (wpt pts[k]):=fun j hj=>by
        have:=hcl9 j hj
        rw [List.getElem_map] at this
        exact this
      have HT:=Lib.hid (show (pts.take (k+1)).map zfb=(pts.take k).map zfb ++ [zfb pts[k]] by rw [List.take_succ_eq_append_getElem hlt,List.map_append];rfl)
      generalize pts[k]=q at hq HT
      obtain ⟨qr,qa,qb⟩:=q
      have i1:zed wr b9 (o9+k * 4):=⟨_,hq⟩
      have i2:zd6 wr b9 (o9+k * 4)=wpt (qr,qa,qb):=zdF hq
      have hlt':(k:Int) < (pts.length:Int):=by omega
      have hic:k < c9:=by have:=HL9.out;omega
      have HOO:=Lib.hid O
      have HB:=Lib.hid BW
      clear O BW hcl9 hb9 hq
      go_upto_region 24 with (fail)
      have Y9:=Blk.new wr (wpt (qr,qa,qb)).arr 107
      have O1:=HOO.out.alloc (.cells (wpt (qr,qa,qb)).arr 107)
      have B1:=zaa HB.out (zac wr (.cells (wpt (qr,qa,qb)).arr 107))
      clear i1 i2 HOO HB
      generalize wr.alloc _=w1 at Y9 O1 B1 ⊢
      generalize wr.heap.size=gp at Y9 ⊢
      have y0:w1.cell? ⟨gp,0,none⟩=some (.string ⟨qr.toArray⟩):=Y9.cell 0
      have y1:zcR w1 gp 1:=⟨_,APt.win_at Y9.is_apt⟩
      have y2:zcL w1 gp 1=⟨qa,qb⟩:=zb8 (APt.win_at Y9.is_apt)
      have kt:=Lib.hid (zhn 2 qr qa qb w1)
      have h5:pts.length≤40:=HWL.out
      have HK:=Lib.hid hk
      clear hk
      go_wp2_with (first
        | (go_at_call 71;(with_reducible refine zlo kt.out ?_);intro A3 w3 I3 b3;have O3:=O1.step b3;have B3:=zaa B1 b3)
        | (at_builtin;refine zav rfl (.tmp 86) (.tmp 91) _ 64 13 112 _ zeJ rfl (by omega) Tryz.underlying119 rfl O3 rfl ([zol 2 qr qa qb].map Leg.arr) A3 1 1 rfl rfl I3 (zbZ _) (zdU _) (by rw [List.length_map,List.length_map,List.length_take];unfold maxLen;omega) (by rw [List.length_map,List.length_map,List.length_take];omega) B3.size ?_;intro v5 W5 O5 g5 _))
      go_roundw
      case rel=>exact ⟨k+1,by omega,by go_num,by rw [HT.out,List.map_append];exact O5,O3.below_grown g5 B3 (Nat.le_refl _) B3.size⟩
      case measure=>simp [intOf];omega
    · obtain rfl:k=pts.length:=by omega
      have hlt':¬ (pts.length:Int) < (pts.length:Int):=by omega
      rw [List.take_length] at O
      obtain ⟨A3,c3,e3,hl3,hI3,_,_⟩:=O.form (by intro y hy;obtain ⟨q,_,rfl⟩:=List.mem_map.1 hy;exact Leg.arr_size _)
      rw [List.length_map] at e3 hl3
      subst e3
      have HBr:=Lib.hid (HB9.out.step BW)
      have Dr:=Lib.hid (zaa D9.out BW)
      have Ar:=HA9.out.step BW
      have z0:wr.cell? ⟨g4,0,none⟩=some (.string ⟨a.name.toArray⟩):=Ar.cell 0
      have kadd:=Lib.hid (HS.out.add HBr.out (pts.map zfb) A3 c3 2 a.name hI3 hl3 (by rw [List.length_map];have:pts.length≤40:=HWL.out;omega) (fun l hl=>by obtain ⟨q,hq,rfl⟩:=List.mem_map.1 hl;exact zgo (HWN.out q hq)) (Nat.le_trans ha.name (by omega)) (by omega))
      rw [List.length_map] at kadd
      generalize zcn (zai G) es (pts.map zfb) 2 a.name=ad at *
      clear O hI3 hl3 Ar
      go_wp2_with (go_at_call 70;(with_reducible refine zch kadd.out ?_);intro L7 c7 W7 B7 O7)
      go_ret2
      rw [HO3.out]
      exact ⟨L7,c7,rfl,B7,(OnlyB.of Dr.out).trans O7⟩
end Go.Proofs.YtgoeedohgomodaaGreatDoor
