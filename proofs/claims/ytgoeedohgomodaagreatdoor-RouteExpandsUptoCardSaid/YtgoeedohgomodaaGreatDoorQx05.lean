/- Lemmas and walks. -/
import Derived.Test.YtgoeedohgomodaaGreatDoorQk01
import Derived.Test.YtgoeedohgomodaaGreatDoorQk02
import Derived.Test.YtgoeedohgomodaaGreatDoorQk03
import Derived.Test.YtgoeedohgomodaaGreatDoorQk05
import Derived.Test.YtgoeedohgomodaaGreatDoorQk06
import Derived.Test.YtgoeedohgomodaaGreatDoorQk16
import Derived.Test.YtgoeedohgomodaaGreatDoorQk18
import Derived.Test.YtgoeedohgomodaaGreatDoorQk04
import Derived.Test.YtgoeedohgomodaaGreatDoorQk07
import Derived.Test.YtgoeedohgomodaaGreatDoorQk08
import Derived.Test.YtgoeedohgomodaaGreatDoorQx02
import Derived.Test.YtgoeedohgomodaaGreatDoorQk09
import Derived.Test.YtgoeedohgomodaaGreatDoorQk10
import Derived.Test.YtgoeedohgomodaaGreatDoorQk11
import Derived.Test.YtgoeedohgomodaaGreatDoorQk12
import Derived.Test.YtgoeedohgomodaaGreatDoorQk22
import Derived.Test.YtgoeedohgomodaaGreatDoorQk23
import Derived.Test.YtgoeedohgomodaaGreatDoorQk13
import Derived.Test.YtgoeedohgomodaaGreatDoorQk24
import Derived.Test.YtgoeedohgomodaaGreatDoorQk35
import Derived.Test.YtgoeedohgomodaaGreatDoorQk14
import Derived.Test.YtgoeedohgomodaaGreatDoorQk30
import Derived.Test.YtgoeedohgomodaaGreatDoorQk25
import Derived.Test.YtgoeedohgomodaaGreatDoorQk26
import Derived.Test.YtgoeedohgomodaaGreatDoorQk27
import Derived.Test.YtgoeedohgomodaaGreatDoorQk28
import Derived.Test.YtgoeedohgomodaaGreatDoorQk20
import Derived.Test.YtgoeedohgomodaaGreatDoorQk15
import Derived.Test.YtgoeedohgomodaaGreatDoorQk17
import Derived.Test.YtgoeedohgomodaaGreatDoorQk19
import Derived.Test.YtgoeedohgomodaaGreatDoorQk21
import Derived.Test.YtgoeedohgomodaaGreatDoorQk29
import Derived.Test.YtgoeedohgomodaaGreatDoorQk31
import Derived.Test.YtgoeedohgomodaaGreatDoorQk32
import Derived.Test.YtgoeedohgomodaaGreatDoorQk33
import Derived.Test.YtgoeedohgomodaaGreatDoorQk34
import Derived.Test.YtgoeedohgomodaaGreatDoorQk36
import Derived.Test.YtgoeedohgomodaaGreatDoorQk37
import Derived.Test.YtgoeedohgomodaaGreatDoorQk38
import Derived.Test.YtgoeedohgomodaaGreatDoorQk39
import Derived.Test.YtgoeedohgomodaaGreatDoorQk41
import Derived.Test.YtgoeedohgomodaaGreatDoorQk42
import Derived.Test.YtgoeedohgomodaaGreatDoorQk43
import Derived.Test.YtgoeedohgomodaaGreatDoorQk44
import Derived.Test.YtgoeedohgomodaaGreatDoorQx03
import Derived.Test.YtgoeedohgomodaaGreatDoorQk49
set_option linter.unusedSimpArgs false
set_option linter.unusedVariables false
namespace Go.Proofs.YtgoeedohgomodaaGreatDoor
open Go.RowKit Go.Sort
set_option maxRecDepth 100000
theorem zoR (x:Leg) (w:World):Calls Tryz.prog 50 #[.agg x.arr] w (Ret w (.bool (zdq x.ty))):=by
  obtain ⟨t,ht⟩:∃ t,x.ty=t:=⟨_,rfl⟩
  have HT:=Lib.hid ht
  rw [ht]
  clear ht
  go_enter Tryz.func50,Tryz.ntmps50
  go_upto_region 1 with (fail)
  have X0:=Blk.new w x.arr 64
  have B0:=zac w (.cells x.arr 64)
  generalize w.alloc _=W at X0 B0 ⊢
  generalize w.heap.size=g0 at X0 ⊢
  have c0:W.cell? ⟨g0,0,none⟩=some (.int .u8 t):=by rw [X0.cell 0,← HT.out];rfl
  clear X0
  go_wp2
  all_goals
    go_ret
    refine Ret.bool ?_ B0
    grind [zdq]
end Go.Proofs.YtgoeedohgomodaaGreatDoor
namespace Go.Proofs.YtgoeedohgomodaaGreatDoor
open Go.RowKit Go.Sort
set_option maxRecDepth 100000
theorem zlV (y:Entry) (w:World):(Instr.field 69 (.agg y.arr) 1).run Tryz.prog w=.ok (.agg y.leg.arr) w:=by
  obtain ⟨a,⟨b1,b2,b3,b4,b5,b6,b7,b8,b9,b10,b11,b12,b13⟩,c,d,e,f,g,h⟩:=y
  kernel_rfl
theorem zqO (l:List UInt8) (w:World) (hl:l.length≤4000000000):
    Calls Tryz.prog 64 #[.string ⟨l.toArray⟩, .int .u8 47] w (RetQ w (.tuple #[.string ⟨(cutAt 47 l).1.toArray⟩, .string ⟨(cutAt 47 l).2.1.toArray⟩, .bool (cutAt 47 l).2.2])):=zlZ l 47 w hl
attribute [local go_sem ↓] zde zfy
attribute [local go_sem] zd4 zcG zdJ zcH zb0 zlV zgS zaO zaT zba zbs
set_option maxHeartbeats 16000000 in
theorem zoP {w:World} {d:DBs} {G:GDB} {iA:Option Addr} {ic:Nat} {xs:List ItemV} (hS:RS w d G iA ic xs) (es:List Entry) (L:Option Addr) (c g:Nat) (W:World) (h:Bu w W g d.cells (.slice iA xs.length ic) L c es) (he:es.length≤250000)
    (a:AwyV) (cs:Array Value) (hA:AwyAt W cs a) (ha:a.small) (i:Nat) (hi:i+1 < xs.length) (hn:xs.length≤1000) (hne:es ≠ []) (hnm:(xs.getD (i+1) noItem).kind=3→(xs.getD (i+1) noItem).name ≠ []):
    Calls Tryz.prog 85 #[.pointer (some ⟨g,0,none⟩), .agg cs, .int .i64 i] W (RetKE w W g d.cells (.slice iA xs.length ic) (zbb (zai G) es a (xs.getD (i+1) noItem) 0)):=by
  obtain ⟨A5,c5,rfl,hl5,hI5⟩:=hA.ex
  obtain ⟨b,off,hiA,hic,hcl⟩:=hS.itm hi
  have hsh:=zaM hS.xsS (i+1)
  obtain ⟨z,hz⟩:∃ z,es.getLast? = some z:=by
    cases hq:es.getLast? with
    | none=>exact absurd (List.getLast?_eq_none_iff.1 hq) hne
    | some z=>exact ⟨z,rfl⟩
  have HAH:=Lib.hid (show zec es=(z.leg.fix,zdq z.leg.ty) by unfold zec;rw [hz])
  have HZ:=Lib.hid hz
  have HS:=Lib.hid hS
  have HB:=Lib.hid h
  have HI5:=Lib.hid (fun W' (D:Below W.heap.size W W')=>hI5.below D)
  generalize xs.getD (i+1) noItem=y at *
  obtain ⟨yk,yn,yt⟩:=y
  have hyn:=hsh.small.1
  dsimp only at hyn hnm
  have HNM:=Lib.hid hnm
  have HOs:=Lib.hid (fun e q (hh:zfW (zai G) a ⟨yk,yn,yt⟩ 0=(some e,q))=>zlw (l:=es) hh)
  have HOn:=Lib.hid (fun q (hh:zfW (zai G) a ⟨yk,yn,yt⟩ 0=(none,q))=>zlx (l:=es) hh)
  have HEA:=Lib.hid (show zfW (zai G) a ⟨yk,yn,yt⟩ 0=if yk=4 then (some yn,((0:Int),(0:Int))) else if yk=3 then (if (zaU yn G.airways).isSome then (none,((0:Int),9)) else match zbJ yn a.pts with | none=>(none,((1:Int),(6:Int))) | some r=>(some r,((0:Int),(0:Int)))) else (none,((0:Int),9)) from rfl)
  generalize zbb (zai G) es a ⟨yk,yn,yt⟩ 0=out at *
  obtain ⟨iv,hiv⟩:∃ v,v=Value.slice iA xs.length ic:=⟨_,rfl⟩
  have E9:=Lib.hid (fun W' (D:Below W.heap.size W W')=>show W'.cell? ⟨g,9,none⟩=some (.slice (some ⟨b,off,none⟩) xs.length ic) by rw [← hiA];exact (HB.out.step D).c9)
  rw [← hiv] at HB h ⊢
  have HCL:=Lib.hid hcl
  clear hS hI5 hA hiv hcl hnm hz hne
  go_enter Tryz.func85,Tryz.ntmps85
  go_upto_region 1 with (fail)
  have A0:=Blk.new W (zao a A5 c5) 81
  have D0:=zac W (.cells (zao a A5 c5) 81)
  have h1:=HB.out.step D0
  generalize W.alloc _=W1 at A0 D0 h1 ⊢
  generalize W.heap.size=g4 at A0 ⊢
  have hlt:(i:Int)+1 < (xs.length:Int):=by omega
  have e9:=E9.out W1 D0
  have i1:zak W1 b (off+(i+1) * 3):=⟨_,HCL.out W1 h1.bel⟩
  have i2:zar W1 b (off+(i+1) * 3)=⟨yk,yn,yt⟩:=zam (HCL.out W1 h1.bel)
  have hi1:((i:Int)+1).toNat=i+1:=by omega
  go_upto_region 2 with (fail)
  have Y8:=Blk.new W1 (ItemV.arr ⟨yk,yn,yt⟩) 57
  have D1:=zaa D0 (zac W1 (.cells (ItemV.arr ⟨yk,yn,yt⟩) 57))
  have h2:=HB.out.step D1
  have A1:=A0.alloc (.cells (ItemV.arr ⟨yk,yn,yt⟩) 57)
  generalize W1.alloc _=W2 at Y8 D1 h2 A1 ⊢
  generalize W1.heap.size=q8 at Y8 ⊢
  have y0:W2.cell? ⟨q8,0,none⟩=some (.int .u8 yk):=Y8.cell 0
  have y1:W2.cell? ⟨q8,1,none⟩=some (.string ⟨yn.toArray⟩):=Y8.cell 1
  clear h1 A0 D0 e9 i1 i2 hi1 hlt
  have HAL:=Lib.hid (show zcc G.airways yn=match zaU yn G.airways with | none=>(zcg,6) | some a=>(a,0) from rfl)
  have HB2:=Lib.hid h2
  have HD1:=Lib.hid D1
  have HA1:=Lib.hid A1
  have HY8:=Lib.hid Y8
  clear h2 D1 A1 h
  go_upto_if 34 with (fail)
  go_cut [] (fun wx=>(yk=4∨(yk=3∧zaU yn G.airways=none))∧Below W2.heap.size W2 wx)
  case first=>
    by_cases k4:yk=4
    · subst k4
      clear HEA HAL HOs HOn
      go_wp2
      go_meet
      exact ⟨.inl (by first | rfl | trivial),Below.refl _ _⟩
    have e4:(yk == 4)=false:=by simpa using k4
    have e4':(yk != 4)=true:=by simpa using k4
    have HEA:=Lib.hid (HEA.out.trans (if_neg k4))
    clear k4
    by_cases k3:yk=3
    rotate_left
    · have e3:(yk == 3)=false:=by simpa using k3
      have HO:=Lib.hid (HOn.out _ (HEA.out.trans (if_neg k3)))
      clear HEA HAL HOs HOn k3
      go_wp2
      go_ret2
      exact RetKE.err (by rw [HO.out] <;> rfl) (by decide) (OnlyB.of HD1.out)
    subst k3
    have HE3:=Lib.hid (show zfW (zai G) a ⟨3,yn,yt⟩ 0=(if (zaU yn G.airways).isSome then (none,((0:Int),(9:Int))) else match zbJ yn a.pts with | none=>(none,((1:Int),(6:Int))) | some r=>(some r,((0:Int),(0:Int)))) from rfl)
    obtain ⟨A7,c7,h7,hl7,hA7⟩:=HS.out.gd.air
    have kb:=Lib.hid (fun W' (D:Below w.heap.size w W')=>zje d.cells G.airways A7 c7 h7 hl7 HS.out.gd.airN yn W' (hA7.below D))
    obtain ⟨r,hr⟩:∃ r,zcc G.airways yn=r:=⟨_,rfl⟩
    rw [hr] at kb HAL
    have HBL:=Lib.hid HB2.out.bel
    have k1:za7 W2 g 0:=⟨_,HB2.out.db⟩
    have k2:zbQ W2 g 0=d.cells:=zaL HB2.out.db
    have hq8:=HY8.out.lt
    have hgl:=HB2.out.lt
    clear hr h7 hl7 hA7 HEA
    cases hf:zaU yn G.airways with
    | some z2=>
      have HO:=Lib.hid (HOn.out ((0:Int),(9:Int)) (by rw [HE3.out,hf];rfl))
      rw [hf] at HAL
      have hr:r=(z2,0):=HAL.out
      subst hr
      clear HE3 HAL HOs HOn hf
      generalize d.cells=cs at *
      go_upto_region 3 with (fail)
      go_region_with (go_at_call 84;(with_reducible refine zmJ (kb.out _ (by first | exact HBL.out.trans (((Below.refl _ _).drew).mono HBL.out.size) | exact zaa HBL.out (zaa (Below.refl _ _).drew (zac _ _)) | exact zaa HBL.out (Below.refl _ _).drew)) ?_);intro cs3 w3 h3 b3;obtain ⟨A6,c6,hcs,_,_⟩:=h3.ex;subst hcs;first | (have Y3:Blk w3 W2.heap.size (zao zcg none 0):=(((Blk.new W2 #[.string ⟨#[]⟩, .slice none 0 0] 81).step (Below.refl _ _).drew)).step b3;have e3:=zaa (zac W2 (.cells #[.string ⟨#[]⟩, .slice none 0 0] 81)).drew b3;have d2:=Y3.plain;have d3:=Y3.of) | skip)
      all_goals
        go_wp2
        go_ret2
        first
          | exact RetKE.err (by rw [HO.out] <;> rfl) (by decide) (OnlyB.of (zaa HD1.out (zaa (Below.refl _ _).drew (zaa b3 (zac _ _)))))
          | exact RetKE.err (by rw [HO.out] <;> rfl) (by decide) (OnlyB.of (zaa HD1.out (zab e3 (Nat.le_refl _) _)))
    | none=>
      rw [hf] at HAL
      have hr:r=(zcg,6):=HAL.out
      subst hr
      have HF:=Lib.hid hf
      clear HE3 HAL HOs HOn hf
      generalize d.cells=cs at *
      go_upto_region 3 with (fail)
      go_region_with (go_at_call 84;(with_reducible refine zmJ (kb.out _ (by first | exact HBL.out.trans (((Below.refl _ _).drew).mono HBL.out.size) | exact zaa HBL.out (zaa (Below.refl _ _).drew (zac _ _)) | exact zaa HBL.out (Below.refl _ _).drew)) ?_);intro cs3 w3 h3 b3;obtain ⟨A6,c6,hcs,_,_⟩:=h3.ex;subst hcs;first | (have Y3:Blk w3 W2.heap.size (zao zcg none 0):=(((Blk.new W2 #[.string ⟨#[]⟩, .slice none 0 0] 81).step (Below.refl _ _).drew)).step b3;have e3:=zaa (zac W2 (.cells #[.string ⟨#[]⟩, .slice none 0 0] 81)).drew b3;have d2:=Y3.plain;have d3:=Y3.of) | skip)
      all_goals
        go_wp2
        go_meet
        first
          | exact ⟨.inr ⟨(by first | rfl | trivial),HF.out⟩,zaa (Below.refl _ _).drew (zaa b3 (zac _ _))⟩
          | exact ⟨.inr ⟨(by first | rfl | trivial),HF.out⟩,zab e3 (Nat.le_refl _) _⟩
  case rest=>
  obtain ⟨hkind,BC3⟩:=hcut
  generalize wc=w4 at *
  have y0:w4.cell? ⟨q8,0,none⟩=some (.int .u8 yk):=(HY8.out.step BC3).cell 0
  have y1:w4.cell? ⟨q8,1,none⟩=some (.string ⟨yn.toArray⟩):=(HY8.out.step BC3).cell 1
  have HC3:=Lib.hid BC3
  go_upto_if 54 with (fail)
  go_cut [11] (fun v wx=>∃ e q,zfW (zai G) a ⟨yk,yn,yt⟩ 0=(some e,q)∧v=.string ⟨e.toArray⟩∧Below W2.heap.size W2 wx)
  case first=>
    rcases hkind with rfl | ⟨rfl,hf⟩
    · have HE:=Lib.hid (show zfW (zai G) a ⟨4,yn,yt⟩ 0=(some yn,(0,0)) from HEA.out.trans (if_pos rfl))
      clear HEA HAL HOs HOn
      go_wp2
      go_meet
      exact ⟨yn,_,HE.out,rfl,HC3.out⟩
    · have hyne:=HNM.out rfl
      have HE3:=Lib.hid (show zfW (zai G) a ⟨3,yn,yt⟩ 0=(match zbJ yn a.pts with | none=>(none,((1:Int),(6:Int))) | some r=>(some r,((0:Int),(0:Int)))) by rw [HEA.out,if_neg (by decide),if_pos rfl,hf];rfl)
      clear HEA HAL hf
      have z4:w4.cell? ⟨g4,1,none⟩=some (.slice A5 a.pts.length c5):=(HA1.out.step BC3).cell 1
      have HI6:=Lib.hid (fun W' (D:Below w4.heap.size w4 W')=>HI5.out W' (zaa HD1.out (zaa BC3 D)))
      have HY9:=Lib.hid (fun W' (D:Below w4.heap.size w4 W')=>show W'.cell? ⟨q8,1,none⟩=some (.string ⟨yn.toArray⟩) from ((HY8.out.step BC3).step D).cell 1)
      have HEACH:=Lib.hid ha.each
      have hplen:=ha.len
      generalize a.pts=pts at *
      clear BC3
      go_upto_region 12 with (fail)
      go_loopw [11,58] (fun ev iv wr=>∃ (k:Nat) (st:List UInt8),k≤pts.length∧iv=.int .i64 k∧ev=.string ⟨st.toArray⟩∧(st=[]→zbJ yn pts=zbJ yn (pts.drop k))∧(st ≠ []→zbJ yn pts=some st)∧Below w4.heap.size w4 wr) (fun _ iv _=>pts.length - (intOf iv).toNat)
      case atStart=>exact ⟨0,[],Nat.zero_le _,rfl,rfl,fun _=>rfl,fun h=>absurd rfl h,Below.refl _ _⟩
      case round=>
        obtain ⟨k,st,hk,rfl,rfl,g1,g2,BW⟩:=hrel
        have G1:=Lib.hid g1
        have G2:=Lib.hid g2
        have HBW:=Lib.hid BW
        clear g1 g2
        by_cases hlt:k < pts.length
        · obtain ⟨b5,o5,hA5,_,_⟩:=(HI6.out wr BW).get (k:=k) (by simpa using hlt)
          have hq:zds wr b5 (o5+k * 4) pts[k]:=ze6 (by have:=HI6.out wr BW;rw [hA5] at this;exact this) (Below.refl _ _) hlt
          have hpr:=HEACH.out _ (List.getElem_mem hlt)
          have HD:=Lib.hid (fun (h:st=[])=>(G1.out h).trans (show zbJ yn (pts.drop k)=if (cutAt 47 pts[k].ref).1 == yn then some pts[k].ref else zbJ yn (pts.drop (k+1)) by rw [List.drop_eq_getElem_cons hlt];rfl))
          generalize pts[k]=p at *
          have i1:zed wr b5 (o5+k * 4):=⟨_,hq⟩
          have i2:zd6 wr b5 (o5+k * 4)=p:=zdF hq
          have hlt':(k:Int) < (pts.length:Int):=by omega
          have hkc:k < c5:=by omega
          have kc:=Lib.hid (fun W'=>zqO p.ref W' hpr)
          have HCN:=Lib.hid (fun (h:(cutAt 47 p.ref).1=yn)=>show p.ref ≠ [] from fun e=>hyne (by rw [← h,e];rfl))
          subst hA5
          clear hq BW G1
          generalize cutAt 47 p.ref=ct at *
          obtain ⟨ct1,ct2,ct3⟩:=ct
          dsimp only at kc HD HCN
          go_upto_region 14 with (fail)
          have Y5:=Blk.new wr p.arr 107
          have B5:=zaa HBW.out (zac wr (.cells p.arr 107))
          clear i1 i2
          generalize wr.alloc _=w5 at Y5 B5 ⊢
          generalize wr.heap.size=gp at Y5 ⊢
          have p0:w5.cell? ⟨gp,0,none⟩=some (.string ⟨p.ref.toArray⟩):=Y5.cell 0
          have y1':=HY9.out w5 B5
          have HB5:=Lib.hid B5
          clear y1 y0 z4 B5 Y5
          by_cases hs:st=[]
          · have HD2:=Lib.hid (HD.out hs)
            subst hs
            by_cases hc:ct1=yn
            · have hc':(ct1 == yn)=true:=by simpa using hc
              have HR:=Lib.hid (show zbJ yn pts=some p.ref by rw [HD2.out,if_pos hc'])
              have HN:=Lib.hid (HCN.out hc)
              clear hc HD HD2 HCN
              go_wp2_with (go_at_call 64;(with_reducible refine zes (kc.out _) ?_);intro n6)
              go_roundw
              case rel=>exact ⟨k+1,p.ref,by omega,by go_num,rfl,fun h=>absurd h HN.out,fun _=>HR.out,below_drewN HB5.out n6⟩
              case measure=>simp [intOf];omega
            · have hc':(ct1 == yn)=false:=by simpa using hc
              have HR:=Lib.hid (show zbJ yn pts=zbJ yn (pts.drop (k+1)) by rw [HD2.out,if_neg (by rw [hc'];decide)])
              clear hc HD HD2 HCN
              go_wp2_with (go_at_call 64;(with_reducible refine zes (kc.out _) ?_);intro n6)
              go_roundw
              case rel=>exact ⟨k+1,[],by omega,by go_num,rfl,fun _=>HR.out,fun h=>absurd rfl h,below_drewN HB5.out n6⟩
              case measure=>simp [intOf];omega
          · have hs':(st == [])=false:=by simpa using hs
            have HS2:=Lib.hid hs
            have HR:=Lib.hid (G2.out hs)
            clear hs HD HCN
            go_wp2_with (go_at_call 64;(with_reducible refine zes (kc.out _) ?_);intro n6)
            go_roundw
            case rel=>exact ⟨k+1,st,by omega,by go_num,rfl,fun h=>absurd h HS2.out,fun _=>HR.out,below_drewN HB5.out n6⟩
            case measure=>simp [intOf];omega
        · have hlt':¬ (k:Int) < (pts.length:Int):=by omega
          by_cases hs:st=[]
          · have hp:zbJ yn pts=none:=by rw [G1.out hs,List.drop_of_length_le (by omega)];rfl
            have HO:=Lib.hid (HOn.out ((1:Int),(6:Int)) (by rw [HE3.out,hp]))
            subst hs
            clear hp HE3 HOs HOn G1 G2
            go_wp2
            go_ret2
            exact RetKE.err (by rw [HO.out] <;> rfl) (by decide) (OnlyB.of (zaa HD1.out (zaa HC3.out HBW.out)))
          · have hs':(st == [])=false:=by simpa using hs
            have hp:=G2.out hs
            have HE:=Lib.hid (show zfW (zai G) a ⟨3,yn,yt⟩ 0=(some st,((0:Int),(0:Int))) by rw [HE3.out,hp])
            clear hp HE3 HOs HOn G1 G2 hs
            go_wp2
            go_meet
            exact ⟨st,_,HE.out,rfl,zaa HC3.out HBW.out⟩
  case rest=>
  obtain ⟨e,q,hea,rfl,BC⟩:=hcut
  have HO:=Lib.hid (HOs.out e q hea)
  have B3:=HB2.out.step BC
  have D3:=Lib.hid (zaa HD1.out BC)
  have HDC:=Lib.hid (zaa HD1.out BC)
  have A3:=HA1.out.step BC
  have ka:=Lib.hid (zjf es L c g d.cells iv w wc B3 (by omega) HZ.out)
  have HB3:=Lib.hid B3
  have HA3:=Lib.hid A3
  clear HEA HAL HOs HOn hea HY8 HB2 HD1 HA1 y0 y1 BC B3 A3
  rw [HAH.out] at HO
  dsimp only at HO
  go_upto_region 21 with (go_at_call 132;(with_reducible refine zaj ka.out ?_);intro w4 b4 _ _ _)
  have Z4:=Blk.new w4 z.leg.arr 64
  have b5:=zaa b4 (zac w4 (.cells z.leg.arr 64))
  have D4:=Lib.hid (zaa D3.out b5)
  have A4:=HA3.out.step b5
  have HB4:=Lib.hid (HB3.out.step b5)
  have HW4:=Lib.hid b5
  clear ka D3 HB3 HA3 b4 b5
  generalize hw5:World.alloc w4 _=w5
  have hw5':w4.alloc (.cells z.leg.arr 64)=w5:=hw5
  rw [hw5'] at Z4 D4 A4 HB4 HW4
  clear hw5 hw5'
  generalize w4.heap.size=g17 at Z4 ⊢
  have HZ4:=Lib.hid Z4
  have HA4:=Lib.hid A4
  have m1:zaJ w5 g17 0:=⟨_,Z4.is_leg⟩
  have m2:za6 w5 g17 0=z.leg:=zaz Z4.is_leg
  have kE:=Lib.hid (fun W'=>zoR z.leg W')
  generalize zdq z.leg.ty=ok at *
  clear Z4 A4
  cases ok with
  | false=>
    have HO:=Lib.hid (HO.out.trans (if_pos rfl))
    go_wp2_with (go_at_call 50;(with_reducible refine zaj (kE.out _) ?_);intro w6 b6 _ _ _)
    go_ret2
    exact RetKE.err (by rw [HO.out] <;> rfl) (by decide) (OnlyB.of (zaa D4.out b6))
  | true=>
  have HO2:=Lib.hid (HO.out.trans (if_neg (by decide)))
  clear HO
  have HWL:=Lib.hid (zet a z.leg.fix e ha.each)
  have HWN:=Lib.hid (zfz ha.each z.leg.fix e).2
  have ke:=Lib.hid (fun W' (D:Below wc.heap.size wc W')=>znt a (zao a A5 c5) z.leg.fix e W' ⟨⟨A5,c5,rfl,hl5,HI5.out _ (zaa HDC.out D)⟩⟩ ha)
  generalize zaG a z.leg.fix e=ex at *
  obtain ⟨pts,pe⟩:=ex
  dsimp only at HO2 HWL HWN
  go_upto_region 23 with (go_at_call 50;(with_reducible refine zaj (kE.out _) ?_);intro w6 b6 _ _ _)
  have D6:=Lib.hid (zaa D4.out b6)
  have HA6:=Lib.hid (HA4.out.step b6)
  have HB6:=Lib.hid (HB4.out.step b6)
  have ke:=Lib.hid (ke.out w6 (zaa HW4.out b6))
  have j0:w6.cell? ⟨g17,1,none⟩=some (.string ⟨z.leg.fix.toArray⟩):=(HZ4.out.step b6).cell 1
  have j1:zce w6 g4 0:=⟨_,HA6.out.is_awy rfl⟩
  have j2:zcz w6 g4 0=zao a A5 c5:=zby (HA6.out.is_awy rfl)
  clear kE m1 m2 D4 HA4 HB4 HZ4 HW4 b6
  by_cases hz:pe=0
  rotate_left
  · have hz':(pe != 0)=true:=by simpa using hz
    have HO:=Lib.hid (HO2.out.trans (if_pos hz))
    have HZN:=Lib.hid hz
    clear hz
    go_wp2_with (go_at_call 134;(with_reducible refine zmF ke.out ?_);intro A9 c9 w9 hl9 hI9 b9)
    go_ret2
    exact RetKE.err (by rw [HO.out] <;> rfl) HZN.out (OnlyB.of (zaa D6.out b9))
  subst hz
  have HO3:=Lib.hid (HO2.out.trans (if_neg (not_not_intro rfl)))
  clear HO2
  go_upto_region 28 with (go_at_call 134;(with_reducible refine zmF ke.out ?_);intro A9 c9 w9 hl9 hI9 b9)
  have D9:=Lib.hid (zaa D6.out b9)
  have HA9:=Lib.hid (HA6.out.step b9)
  have HB9:=Lib.hid (HB6.out.step b9)
  have HI9:=Lib.hid (fun W' (D:Below w9.heap.size w9 W')=>hI9.below D)
  have HL9:=Lib.hid hl9
  clear ke D6 HA6 HB6 j0 j1 j2 hI9 hl9 b9
  go_loopw [20,101] (fun v iv wr=>∃ k:Nat,k≤pts.length∧iv=.int .i64 k∧GOut w9.heap.size wr 64 13 v (((pts.take k).map zfb).map Leg.arr)∧Below w9.heap.size w9 wr) (fun _ iv _=>pts.length - (intOf iv).toNat)
  case atStart=>exact ⟨0,Nat.zero_le _,rfl,GOut.nil _ _ _ _,Below.refl _ _⟩
  case round=>
    obtain ⟨k,hk,rfl,O,BW⟩:=hrel
    by_cases hlt:k < pts.length
    · obtain ⟨b9,o9,hA9,hb9,hcl9⟩:=(HI9.out wr BW).get (k:=k) (by simpa using hlt)
      subst hA9
      have hq:zds wr b9 (o9+k * 4) (wpt pts[k]):=fun j hj=>by
        have:=hcl9 j hj
        rw [List.getElem_map] at this
        exact this
      have HT:=Lib.hid (show (pts.take (k+1)).map zfb=(pts.take k).map zfb ++ [zfb pts[k]] by rw [List.take_succ_eq_append_getElem hlt,List.map_append];rfl)
      generalize pts[k]=q at hq HT
      obtain ⟨qr,qa,qb⟩:=q
      have i1:zed wr b9 (o9+k * 4):=⟨_,hq⟩
      have i2:zd6 wr b9 (o9+k * 4)=wpt (qr,qa,qb):=zdF hq
      have hlt':(k:Int) < (pts.length:Int):=by omega
      have hic:k < c9:=by have:=HL9.out;omega
      have HOO:=Lib.hid O
      have HB:=Lib.hid BW
      clear O BW hcl9 hb9 hq
      go_upto_region 30 with (fail)
      have Y9:=Blk.new wr (wpt (qr,qa,qb)).arr 107
      have B1:=zac wr (.cells (wpt (qr,qa,qb)).arr 107)
      clear i1 i2
      generalize wr.alloc _=w1 at Y9 B1 ⊢
      generalize wr.heap.size=gp at Y9 ⊢
      have y0:w1.cell? ⟨gp,0,none⟩=some (.string ⟨qr.toArray⟩):=Y9.cell 0
      go_upto_region 31 with (go_at_call 129;(with_reducible refine zaj (zfJ 2 qr _) ?_);intro w2 b2 _ _ _)
      have Y23:=Blk.new w2 (zaI 2 qr).arr 64
      have d2':=zac w2 (.cells (zaI 2 qr).arr 64)
      have B3:=zaa B1 (zaa b2 d2')
      have Y3:=Y9.step (zaa b2 d2')
      have hge:wr.heap.size≤w2.heap.size:=(zaa B1 b2).size
      clear y0 Y9 B1 b2 d2'
      generalize w2.alloc _=w3 at Y23 B3 Y3 ⊢
      generalize w2.heap.size=g23 at Y23 hge ⊢
      have y1:zcR w3 gp 1:=⟨_,APt.win_at Y3.is_apt⟩
      have y2:zcL w3 gp 1=⟨qa,qb⟩:=zb8 (APt.win_at Y3.is_apt)
      have d2:=Y23.plain
      have d3:=Y23.of
      have f3:splice (zaI 2 qr).arr 9 (Win.arr ⟨qa,qb⟩)=(zol 2 qr qa qb).arr:=rfl
      have f4:Fits 9 2 (zaI 2 qr).arr:=by show 9+2≤13;omega
      go_upto_region 32 with (fail)
      have Z:=Y23.set (zol 2 qr qa qb).arr
      have B4:=zab B3 hge (zol 2 qr qa qb).arr
      clear y1 y2 d2 d3 f3 f4 Y3 Y23 B3
      generalize w3.setRow g23 _=w4 at Z B4 ⊢
      have m1:zaJ w4 g23 0:=⟨_,Z.is_leg⟩
      have m2:za6 w4 g23 0=zol 2 qr qa qb:=zaz Z.is_leg
      have O4:=Lib.hid ((HOO.out.step B4).alloc (.cells (zol 2 qr qa qb).arr 64))
      have D4:=Lib.hid (zaa (zaa HB.out B4) (zac w4 (.cells (zol 2 qr qa qb).arr 64)))
      have I4:=Lib.hid (Blk.legItems (x:=zol 2 qr qa qb) (Blk.new w4 (zol 2 qr qa qb).arr 64))
      have h5:pts.length≤40:=HWL.out
      have HK:=Lib.hid hk
      clear hk Z B4 HOO HB
      go_wp2_with (at_builtin;refine zav rfl (.tmp 111) (.tmp 113) _ 64 13 112 _ zeJ rfl (by omega) Tryz.underlying119 rfl O4.out rfl ([zol 2 qr qa qb].map Leg.arr) _ 1 1 rfl rfl I4.out (zbZ _) (zdU _) (by rw [List.length_map,List.length_map,List.length_take];unfold maxLen;omega) (by rw [List.length_map,List.length_map,List.length_take];omega) D4.out.size ?_;intro v5 W5 O5 g5 _)
      go_roundw
      case rel=>exact ⟨k+1,by omega,by go_num,by rw [HT.out,List.map_append];exact O5,O4.out.below_grown g5 D4.out (Nat.le_refl _) D4.out.size⟩
      case measure=>simp [intOf];omega
    · obtain rfl:k=pts.length:=by omega
      have hlt':¬ (pts.length:Int) < (pts.length:Int):=by omega
      rw [List.take_length] at O
      obtain ⟨A3,c3,e3,hl3,hI3,_,_⟩:=O.form (by intro y hy;obtain ⟨q,_,rfl⟩:=List.mem_map.1 hy;exact Leg.arr_size _)
      rw [List.length_map] at e3 hl3
      subst e3
      have HBr:=Lib.hid (HB9.out.step BW)
      have Dr:=Lib.hid (zaa D9.out BW)
      have Ar:=HA9.out.step BW
      have z0:wr.cell? ⟨g4,0,none⟩=some (.string ⟨a.name.toArray⟩):=Ar.cell 0
      have kadd:=Lib.hid (HS.out.radd HBr.out (pts.map zfb) A3 c3 2 a.name hI3 hl3 (by rw [List.length_map];have:pts.length≤40:=HWL.out;omega) (fun l hl=>by obtain ⟨q,hq,rfl⟩:=List.mem_map.1 hl;exact zgo (HWN.out q hq)) (Nat.le_trans ha.name (by omega)) (by omega))
      rw [List.length_map] at kadd
      generalize zcn (zai G) es (pts.map zfb) 2 a.name=ad at *
      clear O hI3 hl3 Ar
      go_wp2_with (go_at_call 128;(with_reducible refine zch kadd.out ?_);intro L7 c7 W7 B7 O7)
      go_ret2
      exact RetKE.of (by rw [HO3.out] <;> rfl) (fun _=>rfl) B7 ((OnlyB.of Dr.out).trans O7)
end Go.Proofs.YtgoeedohgomodaaGreatDoor
namespace Go.Proofs.YtgoeedohgomodaaGreatDoor
open Go.RowKit Go.Sort
set_option maxRecDepth 100000
theorem zlW (y:Entry) (w:World):(Instr.field 69 (.agg y.arr) 2).run Tryz.prog w=.ok (.agg (Pt.arr ⟨y.ex,y.ey⟩)) w:=by
  obtain ⟨a,⟨b1,b2,b3,b4,b5,b6,b7,b8,b9,b10,b11,b12,b13⟩,c,d,e,f,g,h⟩:=y
  kernel_rfl
theorem zxo (f:FixV):f.ref ≠ []:=by unfold FixV.ref;simp
theorem zx1 {w w':World} {r:List UInt8 × Int} {s:List UInt8} {t:Bool} (h1:r.1=s) (h2:(r.2 == 0)=t) (b:Below w.heap.size w w'):Ret w (.tuple #[.string ⟨r.1.toArray⟩, .bool (r.2 == 0)]) (.returned (.tuple #[.string ⟨s.toArray⟩, .bool t])) w':=by
  subst h1 h2
  exact ⟨rfl,b⟩
attribute [local go_sem] zbv zbu zba zbs zgd zg8 zie zjp zaO zaT zlW
set_option maxHeartbeats 8000000 in
theorem zoI {w:World} {d:DBs} {G:GDB} {iA:Option Addr} {ic:Nat} {xs:List ItemV} (hS:RS w d G iA ic xs) (es:List Entry) (L:Option Addr) (c g:Nat) (iv:Value) (W:World) (h:Bu w W g d.cells iv L c es) (he:es.length≤1000000) (hne:es ≠ []) (n:List UInt8) (hn:n.length≤4000000000):
    Calls Tryz.prog 86 #[.pointer (some ⟨g,0,none⟩), .string ⟨n.toArray⟩] W (Ret W (.tuple #[.string ⟨(zd7 G es n).1.toArray⟩, .bool ((zd7 G es n).2 == 0)])):=by
  obtain ⟨z,hz⟩:∃ z,es.getLast? = some z:=by
    cases hq:es.getLast? with
    | none=>exact absurd (List.getLast?_eq_none_iff.1 hq) hne
    | some z=>exact ⟨z,rfl⟩
  have HEP:=Lib.hid (show zjL es=(z.ex,z.ey) by unfold zjL;rw [hz])
  have HN:=Lib.hid (show zd7 G es n=zcA (zcK G.olat G.olon G.fixes) (zjL es) n G.fixes [] 0 from rfl)
  rw [HEP.out] at HN
  have KP:=Lib.hid (fun (r:List UInt8) W' (D:Below w.heap.size w W')=>zgW d G.fixes r W' (hS.gd.db.below D))
  rw [hS.gd.lat,hS.gd.lon] at KP
  generalize zd7 G es n=out at *
  generalize zcK G.olat G.olon G.fixes=pt at *
  have hD:=hS.gd.db
  have HI:=Lib.hid (fun (W':World) (b:Below w.heap.size w W')=>hD.items.below b)
  have c6:=hD.ok.c6
  rw [hD.fn] at c6
  have HCAP:=Lib.hid hD.cap
  have hln:=hD.len
  have HSM:=Lib.hid hD.small
  generalize G.fixes=l at *
  generalize d.fa=fA at *
  generalize d.fc=fc at *
  generalize d.cells=cs at *
  have KL:=Lib.hid (fun W' (D:Below W.heap.size W W')=>zjf es L c g cs iv w W' (h.step D) he hz)
  have HB:=Lib.hid h
  have HBB:=Lib.hid h.bel
  have k6:W.cell? ⟨g,6,none⟩=some (.slice fA l.length fc):=by
    have:=h.db.2 6 (by omega)
    rw [Nat.zero_add] at this
    exact this.trans c6
  clear hD hS h hz hne c6
  go_enter Tryz.func86,Tryz.ntmps86
  go_upto_region 3 with (fail)
  go_loopw [6,7,8,20] (fun dv bv kv iv wr=>∃ (k:Nat) (best:List UInt8) (far:Int) (tb:Bool),k≤l.length∧iv=.int .i64 k∧bv=.string ⟨best.toArray⟩∧dv=.int .i64 far∧kv=.bool tb∧(tb=true ↔ best ≠ [])∧zcA pt (z.ex,z.ey) n l [] 0=zcA pt (z.ex,z.ey) n (l.drop k) best far∧Below W.heap.size W wr) (fun _ _ _ iv _=>l.length - (intOf iv).toNat)
  case atStart=>exact ⟨0,[],0,false,by omega,rfl,rfl,rfl,rfl,by simp,rfl,Below.refl _ _⟩
  case round=>
    obtain ⟨k,best,far,tb,hk,rfl,rfl,rfl,rfl,htb,hf,BW⟩:=hrel
    have HTB:=Lib.hid htb
    clear htb
    have HF:=Lib.hid hf
    clear hf
    have BB:=Lib.hid (HBB.out.trans (BW.mono HBB.out.size))
    by_cases hlt:k < l.length
    · have hlt':(k:Int) < (l.length:Int):=by omega
      have hkc:k < fc:=by have:=HCAP.out;omega
      obtain ⟨b2,o2,hA,hb2,_⟩:=(HI.out wr BB.out).get (k:=k) (by simpa using hlt)
      have hx:=zgx (by have:=HI.out wr BB.out;rw [hA] at this;exact this) (Below.refl _ _) hlt
      have hsm:=HSM.out _ (List.getElem_mem hlt)
      have HD:=Lib.hid (show zcA pt (z.ex,z.ey) n l [] 0=zcA pt (z.ex,z.ey) n (l[k] :: l.drop (k+1)) best far by rw [HF.out,List.drop_eq_getElem_cons hlt])
      generalize l[k]=y at *
      have i1:za1 wr b2 (o2+k * 7):=⟨_,hx⟩
      have i2:zbe wr b2 (o2+k * 7)=y:=za0 hx
      subst hA
      clear hx HF
      go_upto_region 5 with (fail)
      have Z:=Blk.new wr y.arr 84
      have D:=zac wr (.cells y.arr 84)
      have B5:=zaa BW D
      have X5:=HB.out.step B5
      clear i1 i2 hb2 D BW
      generalize wr.alloc _=W5 at Z B5 X5 ⊢
      generalize wr.heap.size=g7 at Z ⊢
      have z0:W5.cell? ⟨g7,0,none⟩=some (.string ⟨y.ident.toArray⟩):=Z.cell 0
      by_cases hid:y.ident=n
      rotate_left
      · have e1:(y.ident == n)=false:=by simpa using hid
        have HD:=Lib.hid (HD.out.trans (zht (fun q=>hid q.1)))
        have HB5:=Lib.hid B5
        clear hid B5 X5
        go_wp2
        go_roundw
        case rel=>exact ⟨k+1,best,far,tb,by omega,by go_num,rfl,rfl,rfl,HTB.out,HD.out,HB5.out⟩
        case measure=>simp [intOf];omega
      · have e1:(y.ident == n)=true:=by simpa using hid
        have HID:=Lib.hid hid
        clear hid
        have kr:=Lib.hid (fun W'=>zgn y hsm W')
        have kp:=Lib.hid (fun W' (D:Below W5.heap.size W5 W')=>KP.out y.ref W' (zaa X5.bel D))
        have j1:za1 W5 g7 0:=⟨_,Z.is_fixv⟩
        have j2:zbe W5 g7 0=y:=za0 Z.is_fixv
        have k1:za7 W5 g 0:=⟨_,X5.db⟩
        have k2:zbQ W5 g 0=cs:=zaL X5.db
        have hgl:=X5.lt
        have hzl:=Z.lt
        have HX5:=Lib.hid X5
        have HZ:=Lib.hid Z
        have HB5:=Lib.hid B5
        obtain ⟨p,hp⟩:∃ p,pt y.ref=p:=⟨_,rfl⟩
        rw [hp] at kp
        have HPT:=Lib.hid hp
        have HRN:=Lib.hid (zxo y)
        obtain ⟨r,hr⟩:∃ r,y.ref=r:=⟨_,rfl⟩
        rw [hr] at kp kr HRN
        have HR:=Lib.hid hr
        clear X5 Z B5 hp hr
        go_upto_region 6 with (fail)
        go_cut [11,12] (fun v e wx=>∃ q,v=.pointer (some ⟨q,0,none⟩)∧e=.int .i64 p.2∧Blk wx q (ptP p.1).arr∧Below W5.heap.size W5 wx)
        case first=>
          go_region_with (first
            | (go_at_call 40;(with_reducible refine zaj (kr.out _) ?_);intro w2 b2 _ _ _;(first | (have Y2:Blk w2 W5.heap.size (Pt.arr ⟨0,0⟩):=(((Blk.new W5 (Pt.arr ⟨0,0⟩) 66).step (Below.refl _ _).drew)).step b2;have f2:Below W5.heap.size W5 w2:=zaa (zac W5 (.cells (Pt.arr ⟨0,0⟩) 66)).drew b2) | (have f2:Below W5.heap.size W5 w2:=zcm b2));have m1:za7 w2 g 0:=⟨_,(HX5.out.step f2).db⟩;have m2:zbQ w2 g 0=cs:=zaL (HX5.out.step f2).db;have m3:g < w2.heap.size:=(HX5.out.step f2).lt)
            | (go_at_call 135;(with_reducible refine zaj (kp.out _ (by first | exact f2 | exact zaa f2 (zac _ _))) ?_);intro w3 b3 _ _ _;first | (have Y3:=Y2.step b3;have f3:Below W5.heap.size W5 w3:=zaa f2 b3;have d2:=Y3.plain;have d3:=Y3.of) | (have Y3:Blk w3 w2.heap.size (Pt.arr ⟨0,0⟩):=(Blk.new w2 (Pt.arr ⟨0,0⟩) 66).step b3;have f3:Below W5.heap.size W5 w3:=zaa (zaa f2 (zac w2 (.cells (Pt.arr ⟨0,0⟩) 66))) b3;have d2:=Y3.plain;have d3:=Y3.of) | (have f3:Below W5.heap.size W5 w3:=zaa f2 b3)))
          all_goals
            go_wp2
            go_meet
            first
              | exact ⟨_,rfl,rfl,Blk.new _ _ _,zaa f3 (zac _ _)⟩
              | exact ⟨_,rfl,rfl,Y3.set _,zab f3 (by first | exact Nat.le_refl _ | exact f2.size) _⟩
        case rest=>
        obtain ⟨q,rfl,rfl,Q,BC⟩:=hcut
        have Z6:=HZ.out.step BC
        have B6:=Lib.hid (zaa HB5.out BC)
        clear k1 k2 j1 j2 z0 kp HX5 HZ HB5 hgl hzl BC
        by_cases hp2:p.2=0
        rotate_left
        · have e2:(p.2 != 0)=true:=by simpa using hp2
          have HD:=Lib.hid (HD.out.trans (zht (fun q=>hp2 (by rw [← HPT.out];exact q.2.1))))
          clear hp2 Z6 Q
          go_wp2
          go_roundw
          case rel=>exact ⟨k+1,best,far,tb,by omega,by go_num,rfl,rfl,rfl,HTB.out,HD.out,B6.out⟩
          case measure=>simp [intOf];omega
        · have e2:(p.2 != 0)=false:=by simpa using hp2
          have HY:=Lib.hid (fun (h3:best=[]∨ze3 (z.ex,z.ey) p.1 < far)=>HD.out.trans (zpT HID.out (by rw [HPT.out];exact hp2) (by rw [HPT.out];exact h3)))
          have HNO:=Lib.hid (fun (h3:¬ (best=[]∨ze3 (z.ex,z.ey) p.1 < far))=>HD.out.trans (zht (fun q=>h3 (by rw [← HPT.out];exact q.2.2))))
          obtain ⟨⟨px,py⟩,pe⟩:=p
          dsimp only at hp2 e2
          subst hp2
          rw [HPT.out] at HY
          have kd:=Lib.hid (fun W'=>show Calls Tryz.prog 136 #[.agg (Pt.arr ⟨z.ex,z.ey⟩), .agg (Pt.arr ⟨px,py⟩)] W' (Ret W' (.int .i64 (ze3 (z.ex,z.ey) (px,py)))) from zoS ⟨z.ex,z.ey⟩ ⟨px,py⟩ W')
          obtain ⟨dv,hdv⟩:∃ v,ze3 (z.ex,z.ey) (px,py)=v:=⟨_,rfl⟩
          dsimp only at HY HNO
          rw [hdv] at kd HY HNO
          have kl:=Lib.hid (fun W' (D:Below wc.heap.size wc W')=>KL.out W' (zaa B6.out D))
          have IQ:=Lib.hid (fun W' (D:Below wc.heap.size wc W')=>show zbw W' q 0∧zcr W' q 0=⟨px,py⟩ from ⟨⟨_,(Q.step D).is_pt⟩,zaZ (Q.step D).is_pt⟩)
          clear HPT hdv
          go_upto_region 8 with (fail)
          go_cut [13] (fun v wx=>v=.int .i64 dv∧Below wc.heap.size wc wx)
          case first=>
            go_region_held3 (fun w'=>zbw w' q 0∧zcr w' q 0=⟨px,py⟩)
              ((refine IQ.out _ ?_;repeat' (first | assumption | omega | (refine Below.alloc ?_ ?_ _) | (refine Below.drew ?_) | exact Below.refl _ _ | (simp;done) | (simp;omega))))
              (first
                | (go_at_call 132;(with_reducible refine zaj (kl.out _ (by repeat' (first | assumption | (refine Below.drew ?_) | exact Below.refl _ _))) ?_);intro w5 b5 _ _ _;have f5:Below wc.heap.size wc w5:=by first | exact b5 | exact zcm b5)
                | (go_at_call 136;(with_reducible refine zaj (kd.out _) ?_);intro w7 b7 _ _ _;have f7:Below wc.heap.size wc w7:=zaa f5 b7))
            all_goals
              go_wp2
              go_meet
              exact ⟨rfl,f7⟩
          case rest=>
          obtain ⟨rfl,BD⟩:=hcut
          have Z7:=Z6.step BD
          have B7:=Lib.hid (zaa B6.out BD)
          have HRR:=Lib.hid HR.out
          clear kl IQ Q Z6 B6 BD kd
          have krw:=Lib.hid (kr.out wc)
          have j1:za1 wc g7 0:=⟨_,Z7.is_fixv⟩
          have j2:zbe wc g7 0=y:=za0 Z7.is_fixv
          by_cases hb:best=[]
          · have et:tb=false:=by cases htt:tb with
              | false=>rfl
              | true=>exact absurd hb (HTB.out.1 htt)
            subst et
            have HD:=Lib.hid (HY.out (.inl hb))
            clear hb HNO HY
            go_wp2_with (go_at_call 40;(with_reducible refine zaj krw.out ?_);intro w8 b8 _ _ _)
            go_roundw
            case rel=>exact ⟨k+1,r,dv,true,by omega,by go_num,rfl,rfl,rfl,by simpa using HRN.out,by rw [HD.out,HR.out],zaa B7.out b8⟩
            case measure=>simp [intOf];omega
          · have et:tb=true:=HTB.out.2 hb
            subst et
            by_cases hd:dv < far
            · have hd':decide (dv < far)=true:=decide_eq_true hd
              have HD:=Lib.hid (HY.out (.inr hd))
              clear hb HNO HY hd
              go_wp2_with (go_at_call 40;(with_reducible refine zaj krw.out ?_);intro w8 b8 _ _ _)
              go_roundw
              case rel=>exact ⟨k+1,r,dv,true,by omega,by go_num,rfl,rfl,rfl,by simpa using HRN.out,by rw [HD.out,HR.out],zaa B7.out b8⟩
              case measure=>simp [intOf];omega
            · have hd':decide (dv < far)=false:=decide_eq_false hd
              have HD:=Lib.hid (HNO.out (fun q=>q.elim hb hd))
              have HBN:=Lib.hid hb
              clear hb HNO HY hd
              go_wp2
              go_roundw
              case rel=>exact ⟨k+1,best,far,true,by omega,by go_num,rfl,rfl,rfl,by simpa using HBN.out,HD.out,B7.out⟩
              case measure=>simp [intOf];omega
    · have hlt':¬ (k:Int) < (l.length:Int):=by omega
      have HE:=Lib.hid (show out=if best=[] then ([],6) else (best,0) by rw [HN.out,HF.out,List.drop_of_length_le (by omega)];rfl)
      have HBW:=Lib.hid BW
      clear HF BW
      by_cases hb:best=[]
      · have et:tb=false:=by cases htt:tb with
          | false=>rfl
          | true=>exact absurd hb (HTB.out.1 htt)
        subst et
        have HE2:=Lib.hid (HE.out.trans (if_pos hb))
        have HBE:=Lib.hid hb
        clear hb HE
        go_wp2
        go_ret2
        exact zx1 (by rw [HE2.out,HBE.out]) (by rw [HE2.out] <;> rfl) HBW.out
      · have et:tb=true:=HTB.out.2 hb
        subst et
        have HE2:=Lib.hid (HE.out.trans (if_neg hb))
        clear hb HE
        go_wp2
        go_ret2
        exact zx1 (by rw [HE2.out]) (by rw [HE2.out];rfl) HBW.out
end Go.Proofs.YtgoeedohgomodaaGreatDoor
