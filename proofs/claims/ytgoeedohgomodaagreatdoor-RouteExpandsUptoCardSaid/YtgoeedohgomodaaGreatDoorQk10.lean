/- Lemmas and walks. -/
import Derived.Test.YtgoeedohgomodaaGreatDoorQk07
import Derived.Test.YtgoeedohgomodaaGreatDoorQk06
set_option linter.unusedSimpArgs false
set_option linter.unusedVariables false
namespace Go.Proofs.YtgoeedohgomodaaGreatDoor
open Go.RowKit
theorem zj0 (a b:Leg) (w:World):Calls Tryz.prog 55 #[a.val,b.val] w (Ret w (.bool (a.arrivedB b))):=by
  go_enter Tryz.func55,Tryz.ntmps55
  go_wp2_with (go_at_call 47;refine zae (ziy _ _) ?_)
  all_goals (go_ret;exact Ret.bool (by grind [Leg.arrivedB]) (by go_grown))
set_option maxHeartbeats 4000000 in
set_option maxRecDepth 100000 in
theorem zg3 (p:Plan) (A:Option Addr) (c:Nat) (w:World) (hL:Laid w) (hs:p.small) (hc:p.es.length≤c) (hE:Ents w A p.es):
   Calls Tryz.prog 23 #[p.val A c] w (Ret w (.int .i64 (zaq p))):=by
  have hn:=hs.len
  have hf:=hs.from_
  have ht:=hs.to_
  have hO0:=Own1.mk0 w (p.arr A c) 43
  go_enter Tryz.func23,Tryz.ntmps23
  go_upto_region 1 with (fail)
  generalize w.alloc _=W at hO0 ⊢
  have hc0:=hO0.cell
  have hlt0:=hO0.lt
  go_upto_region 6 with (go_at_call 51;refine zwi (by assumption) (zsE _ _ (hL.below (Own1.below (by assumption))) (by assumption)) ?_;intro w2 hO2 hc2 hlt2)
  all_goals try (go_ret;refine Ret.int ?_ (Own1.below (by assumption));go_light;first | (simp [zaq, *];done) | grind [zaq])
  rename zf9 p.from_=true=>ha
  rename (!zf9 p.to_)=false=>hb0
  rename (p.es.length:Int)≤60=>hlen
  have hp0:=Lib.hid (show zaq p=orE (zbt none 0 p.es) (zcd p) by go_light;grind [zaq])
  have hO1:=hO2
  clear hO0 hc0 hlt0 ha hb0 hlen
  go_wp2
  go_loopw [3,25] (fun t i wr=>∃ (k:Nat) (s:Int),k≤p.es.length∧i=.int .i64 k∧t=.int .u8 s∧zaq p=orE (zbt (zpL p.es k) s (p.es.drop k)) (zcd p)∧Own1 w (p.arr A c) wr) (fun _ i _=>p.es.length - (intOf i).toNat)
  case atStart=>exact ⟨0,0,by omega,rfl,rfl,hp0.out,hO2⟩
  case round=>
    obtain ⟨k,s,hk,rfl,rfl,hq,hO⟩:=hrel
    have HQ:=Lib.hid hq;clear hq hp0 hO1 hO2 hc2 hlt2
    by_cases hlt:k < p.es.length
    · obtain ⟨b,off,hA,hb,he⟩:=hE.get hlt
      subst hA
      have hd:=Lib.hid (List.drop_eq_getElem_cons hlt)
      have hx:=hs.each p.es[k] (List.getElem_mem _)
      generalize p.es[k]=x at he hd hx
      have e1:∀ j,j < 20→wr.cell? ⟨b,off+k * 20+j,none⟩=x.arr[j]?:=fun j hj=>by rw [hO.below.cell (p:=⟨b,_,none⟩) hb];exact he j hj
      have P0:=hO.boxed.alloc (.cells x.arr 69)
      have X0:=Boxed.new wr x.arr 69
      have B0:=(hO.alloc (.cells x.arr 69)).below
      clear he
      go_upto_region 9 with (first
        | ((with_reducible refine zcQ 69 (.tmp 28) rfl ?_);refine zax rfl 69 (.tmp 28) rfl b (off+k * 20) rfl x.arr _ _ rfl e1 Tryz.underlying69 rfl zct ?_)
        | ((with_reducible refine ziE 69 (.tmp 5) (.tmp 29) rfl ?_);refine zcX rfl 69 (.tmp 5) (.tmp 29) rfl _ x.arr rfl rfl 20 zct (x).arr_size rfl (x).arr_one ?_))
      go_frame
      generalize wr.alloc _=W0 at P0 X0 B0 ⊢
      generalize wr.heap.size=g at X0 ⊢
      clear e1
      have hcp:=P0.cell
      have hcx:=X0.cell
      have hne:=zsf x
      have hxs:∀ j,j < 20→W0.cell? ⟨g,0+j,none⟩=x.arr[j]?:=fun j _=>by rw [Nat.zero_add];exact hcx j
      have hlast:=Lib.hid (zn1 p.es k hlt)
      have hxk:=Lib.hid (show p.es[k]? = some x from by rw [← List.head?_drop,hd.out];rfl)
      obtain ⟨r,hr⟩:∃ r,r=p.es.drop (k+1):=⟨_,rfl⟩
      rw [← hr] at hlast hd
      have HR:=Lib.hid hr;clear hr
      have hlt0:=P0.lt
      rcases k with _ | m
      · have HQ2:=Lib.hid (show zaq p=orE (orE (zeR none s r.isEmpty x) (zbt (some x) (if x.gap then s else x.sec) r)) (zcd p) by rw [HQ.out,hd.out];rfl)
        clear HQ
        by_cases hg:x.gap=true
        · go_wp2_with ((with_reducible refine zcQ 69 (.tmp 5) rfl ?_);refine zax rfl 69 (.tmp 5) rfl g 0 rfl x.arr _ _ rfl hxs Tryz.underlying69 rfl zct ?_)
          · go_ret;refine Ret.int ?_ B0;rw [HQ2.out];exact zlM hg (by assumption)
          · go_ret;refine Ret.int ?_ B0;rw [HQ2.out];exact zhm hg (by assumption) rfl
        · have hg:x.gap=false:=by simpa using hg
          go_wp2_with ((with_reducible refine zcQ 69 (.tmp 5) rfl ?_);refine zax rfl 69 (.tmp 5) rfl g 0 rfl x.arr _ _ rfl hxs Tryz.underlying69 rfl zct ?_)
          refine zvE P0 X0 B0 (zog x _ (hL.below B0) hx) ?_
          intro w1 P1 X1 B1 hcp1 hcx1
          go_wp2_with (go_at_call 53;refine zae (zdu _ _) ?_)
          · go_ret;refine Ret.int ?_ B1;rw [HQ2.out];exact zkP hg (by assumption)
          · go_ret;refine Ret.int ?_ B1;rw [HQ2.out];exact zhK hg (by assumption) (zpO (by assumption)) (by decide)
          · go_ret;refine Ret.int ?_ B1;rw [HQ2.out];exact zkO hg (by assumption) (zeD (by assumption)) (by assumption)
          · go_roundw
            case rel=>first | exact ⟨1,x.sec,by omega,rfl,rfl,by rw [HQ2.out,zig hg (by assumption) (zeD (by assumption)) (by omega),hg,HR.out];show _=orE (zbt (p.es[0]?) _ _) _;rw [hxk.out];rfl,P1.own B1⟩ | ((repeat apply Exists.intro);exact ⟨⟨1,x.sec,by omega,rfl,rfl,by rw [HQ2.out,zig hg (by assumption) (zeD (by assumption)) (by omega),hg,HR.out];show _=orE (zbt (p.es[0]?) _ _) _;rw [hxk.out];rfl,P1.own B1⟩,rfl⟩)
            case measure=>simp [intOf];omega
      · have hm:m < p.es.length:=by omega
        have hym:=List.getElem?_eq_getElem hm
        have hcy:∀ W,Below w.heap.size w W→∀ j,j < 20→W.cell? ⟨b,off+m * 20+j,none⟩=p.es[m].arr[j]?:=fun W hW=>hE.cells hW hm
        generalize p.es[m]=y at hym hcy
        have hc0:=hcy W0 B0
        have HCY:=Lib.hid hcy;clear hcy
        have f0:W0.cell? ⟨b,off+m * 20,none⟩=some (.bool y.gap):=hc0 0 (by omega)
        have HQ2:=Lib.hid (show zaq p=orE (orE (zeR (some y) s r.isEmpty x) (zbt (some x) (if x.gap then s else x.sec) r)) (zcd p) by rw [HQ.out,hd.out];simp only [zpL,hym];rfl)
        clear HQ hym
        by_cases hg:x.gap=true
        · go_wp2_with ((with_reducible refine zcQ 69 (.tmp 5) rfl ?_);refine zax rfl 69 (.tmp 5) rfl g 0 rfl x.arr _ _ rfl hxs Tryz.underlying69 rfl zct ?_)
          · go_ret;refine Ret.int ?_ B0;rw [HQ2.out];exact zlM hg (by assumption)
          · go_ret;refine Ret.int ?_ B0;rw [HQ2.out];exact zhm hg (by assumption) (by rw [hlast.out];simp [zea];omega)
          · go_ret;refine Ret.int ?_ B0;rw [HQ2.out];exact zhm hg (by assumption) (by rename_i h;rcases h with (h | h) | h <;> first | (simp [zea,h];done) | (simp at h;omega))
          · go_roundw
            case rel=>first | exact ⟨m+1+1,s,by omega,by go_num,rfl,by rw [HQ2.out,zlN hg (by assumption) (by rw [hlast.out];rename_i h;obtain ⟨⟨_,h1⟩,h2⟩:=h;simp [zea,h2];simp at h1;omega),hg,HR.out];show _=orE (zbt (p.es[m+1]?) _ _) _;rw [hxk.out];rfl,P0.own B0⟩ | ((repeat apply Exists.intro);exact ⟨⟨m+1+1,s,by omega,by go_num,rfl,by rw [HQ2.out,zlN hg (by assumption) (by rw [hlast.out];rename_i h;obtain ⟨⟨_,h1⟩,h2⟩:=h;simp [zea,h2];simp at h1;omega),hg,HR.out];show _=orE (zbt (p.es[m+1]?) _ _) _;rw [hxk.out];rfl,P0.own B0⟩,rfl⟩)
            case measure=>simp [intOf];omega
        · have hg:x.gap=false:=by simpa using hg
          go_wp2_with ((with_reducible refine zcQ 69 (.tmp 5) rfl ?_);refine zax rfl 69 (.tmp 5) rfl g 0 rfl x.arr _ _ rfl hxs Tryz.underlying69 rfl zct ?_)
          refine zvE P0 X0 B0 (zog x _ (hL.below B0) hx) ?_
          intro w1 P1 X1 B1 hcp1 hcx1
          have hc1:=HCY.out w1 B1
          have f1:w1.cell? ⟨b,off+m * 20,none⟩=some (.bool y.gap):=hc1 0 (by omega)
          have hy1:∀ j,j < 13→w1.cell? ⟨b,off+m * 20+1+j,none⟩=y.leg.arr[j]?:=fun j hj=>by rw [Nat.add_assoc,hc1 _ (by omega)];exact y.leg_sub j hj
          clear hc1 hc0 f0
          by_cases hyg:y.gap=true
          · go_wp2_with (go_at_call 53;refine zae (zdu _ _) ?_)
            · go_ret;refine Ret.int ?_ B1;rw [HQ2.out];exact zkP hg (by assumption)
            · go_ret;refine Ret.int ?_ B1;rw [HQ2.out];exact zhK hg (by assumption) (znB hyg (by assumption)) (by decide)
            · go_ret;refine Ret.int ?_ B1;rw [HQ2.out];exact zkO hg (by assumption) (zdX hyg (by assumption)) (by assumption)
            · go_roundw
              case rel=>first | exact ⟨m+1+1,x.sec,by omega,by go_num,rfl,by rw [HQ2.out,zig hg (by assumption) (zdX hyg (by assumption)) (by omega),hg,HR.out];show _=orE (zbt (p.es[m+1]?) _ _) _;rw [hxk.out];rfl,P1.own B1⟩ | ((repeat apply Exists.intro);exact ⟨⟨m+1+1,x.sec,by omega,by go_num,rfl,by rw [HQ2.out,zig hg (by assumption) (zdX hyg (by assumption)) (by omega),hg,HR.out];show _=orE (zbt (p.es[m+1]?) _ _) _;rw [hxk.out];rfl,P1.own B1⟩,rfl⟩)
              case measure=>simp [intOf];omega
          · have hyg:y.gap=false:=by simpa using hyg
            have P2:=P1.alloc (.cells y.leg.arr 64)
            have X2:=X1.alloc (.cells y.leg.arr 64)
            have Y2:=Boxed.new w1 y.leg.arr 64
            have B2:=zaa B1 ((Below.refl w1.heap.size w1).alloc (Nat.le_refl _) (.cells y.leg.arr 64))
            go_upto_region 21 with (first
              | ((with_reducible refine zcQ 64 (.tmp 82) rfl ?_);refine zax rfl 64 (.tmp 82) rfl b (off+m * 20+1) rfl y.leg.arr _ _ rfl hy1 Tryz.underlying64 rfl zfv ?_)
              | ((with_reducible refine ziE 64 (.tmp 7) (.tmp 83) rfl ?_);refine zcX rfl 64 (.tmp 7) (.tmp 83) rfl _ y.leg.arr rfl rfl 13 zfv (y.leg).arr_size rfl (y.leg).arr_one ?_))
            · go_ret;refine Ret.int ?_ B1;rw [HQ2.out];exact zkP hg (by assumption)
            go_frame
            generalize w1.alloc _=W2 at P2 X2 Y2 B2 ⊢
            generalize w1.heap.size=g2 at Y2 ⊢
            have hxl:∀ j,j < 13→W2.cell? ⟨g,1+j,none⟩=x.leg.arr[j]?:=X2.at 1 x.leg.arr 13 x.leg_sub
            have hyl:∀ j,j < 13→W2.cell? ⟨g2,0+j,none⟩=y.leg.arr[j]?:=fun j _=>by rw [Nat.zero_add];exact Y2.cell j
            have hcp2:=P2.cell
            have hcx2:=X2.cell
            have hcy2:=Y2.cell
            clear hcp1 hcx1 f1 hy1
            go_wp2_with (first
              | ((with_reducible refine zcQ 64 (.tmp 7) rfl ?_);refine zax rfl 64 (.tmp 7) rfl g2 0 rfl y.leg.arr _ _ rfl hyl Tryz.underlying64 rfl zfv ?_)
              | ((with_reducible refine zcQ 64 (.tmp 85) rfl ?_);refine zax rfl 64 (.tmp 85) rfl g 1 rfl x.leg.arr _ _ rfl hxl Tryz.underlying64 rfl zfv ?_))
            refine zwY P2 X2 Y2 B2 (zhd y.leg x.leg _) ?_
            intro w3 P3 X3 Y3 B3 hcp3 hcx3 hcy3
            have hxl3:∀ j,j < 13→w3.cell? ⟨g,1+j,none⟩=x.leg.arr[j]?:=X3.at 1 x.leg.arr 13 x.leg_sub
            have hyl3:∀ j,j < 13→w3.cell? ⟨g2,0+j,none⟩=y.leg.arr[j]?:=fun j _=>by rw [Nat.zero_add];exact Y3.cell j
            go_upto_region 23 with (fail)
            · go_ret;refine Ret.int ?_ B3;rw [HQ2.out];exact zhK hg (by assumption) (zpP hyg (by assumption)) (by decide)
            go_cut [104] (fun sv wx=>sv=.bool (y.leg.dupB x.leg)∧Boxed wx w.heap.size (p.arr (some ⟨b,off,none⟩) c)∧Boxed wx g x.arr∧Below w.heap.size w wx)
            case first=>
              have h24:∃ a b,(x.leg.ty == 2)=a∧(x.leg.ty == 4)=b:=⟨_,_,rfl,rfl⟩
              obtain ⟨a2,a4,h2,h4⟩:=h24
              have htd:=Lib.hid (show tdB x.leg.ty=(a2 || a4) by rw [tdB,h2,h4])
              clear hcp2 hcx2 hcy2 hxl hyl hne hxs hcp hcx hcp3
              cases a2 <;> cases a4
              all_goals
                go_wp2_with (go_at_call 55;refine zwY P3 X3 Y3 B3 (zj0 y.leg x.leg _) ?_;intro w4 P4 X4 Y4 B4 hcp4 hcx4 hcy4)
                all_goals (go_meet;first | exact ⟨by rw [Leg.dupB,htd.out];rfl,P3,X3,B3⟩ | exact ⟨by rw [Leg.dupB,htd.out];rfl,P4,X4,B4⟩)
            case rest=>
              obtain ⟨rfl,P5,X5,B5⟩:=hcut
              have hcx5:=X5.cell
              clear hcp2 hcx2 hcy2 hcp3 hcx3 hcy3 hxl hyl hxl3 hyl3 hne hxs hcp hcx
              go_wp2
              · go_ret;refine Ret.int ?_ B5;rw [HQ2.out];exact zhK hg (by assumption) (zsL hyg (by assumption) (by assumption)) (by decide)
              · go_ret;refine Ret.int ?_ B5;rw [HQ2.out];exact zkO hg (by assumption) (zk0 hyg (by assumption) (by assumption)) (by assumption)
              · go_roundw
                case rel=>first | exact ⟨m+1+1,x.sec,by omega,by go_num,rfl,by rw [HQ2.out,zig hg (by assumption) (zk0 hyg (by assumption) (by assumption)) (by omega),hg,HR.out];show _=orE (zbt (p.es[m+1]?) _ _) _;rw [hxk.out];rfl,P5.own B5⟩ | ((repeat apply Exists.intro);exact ⟨⟨m+1+1,x.sec,by omega,by go_num,rfl,by rw [HQ2.out,zig hg (by assumption) (zk0 hyg (by assumption) (by assumption)) (by omega),hg,HR.out];show _=orE (zbt (p.es[m+1]?) _ _) _;rw [hxk.out];rfl,P5.own B5⟩,rfl⟩)
                case measure=>simp [intOf];omega
    · have HQ2:=Lib.hid (show zaq p=zcd p by rw [HQ.out,List.drop_of_length_le (by omega)];rfl)
      have hc1:=hO.cell
      by_cases ha:p.active=-1
      · have h1:(p.active != -1)=false:=by simp [ha]
        have HA:=Lib.hid ha;clear ha
        go_wp2
        go_ret;refine Ret.int ?_ hO.below;rw [HQ2.out];simp [zcd,HA.out]
      · have h1:(p.active != -1)=true:=by simp [ha]
        have HA:=Lib.hid ha;clear ha
        by_cases hr:p.active < 0∨(p.es.length:Int)≤p.active
        · go_wp2
          all_goals (go_ret;refine Ret.int ?_ hO.below;rw [HQ2.out];simp [zcd,HA.out,hr])
        · obtain ⟨n,hpn⟩:∃ n:Nat,p.active=n:=⟨p.active.toNat,by omega⟩
          have hnl:n < p.es.length:=by omega
          have HR:=Lib.hid hr;clear hr
          obtain ⟨b,off,hA,hb,he⟩:=hE.get hnl
          subst hA
          have e0:wr.cell? ⟨b,off+n * 20,none⟩=some (.bool p.es[n].gap):=by rw [hO.below.cell (p:=⟨b,_,none⟩) hb];exact he 0 (by omega)
          clear he
          have hb1:¬ ((n:Int) < 0):=by omega
          have hb2:¬ ((p.es.length:Int)≤(n:Int)):=by omega
          have hv:=Lib.hid (show zcd p=if p.es[n].gap then 2 else 0 by unfold zcd;rw [if_neg HA.out,if_neg HR.out,hpn];simp [hnl])
          go_wp2
          all_goals (go_ret;refine Ret.int ?_ hO.below;rw [HQ2.out,hv.out];go_light;simp_all)
end Go.Proofs.YtgoeedohgomodaaGreatDoor
