/- Lemmas and walks. -/
import Derived.Test.YtgoeedohgomodaaGreatDoorQk42
import Derived.Test.YtgoeedohgomodaaGreatDoorQk16
import Derived.Test.YtgoeedohgomodaaGreatDoorQk08
import Derived.Test.YtgoeedohgomodaaGreatDoorQk02
import Derived.Test.YtgoeedohgomodaaGreatDoorQk11
set_option linter.unusedSimpArgs false
set_option linter.unusedVariables false
namespace Go.Proofs.YtgoeedohgomodaaGreatDoor
open Go.RowKit
set_option maxRecDepth 100000
theorem zvj:(Tryz.prog.info? 66).map (fun i=>(i.zero,i.size,i.bytes))=some (some (.agg (Pt.arr ⟨0,0⟩)),2,16):=by kernel_rfl
def zyk (parts:Array (Nat × Value)):Sem Value:=Instr.buildSlice 239 2 parts
theorem ztR (parts:Array (Nat × Value)):Instr.buildSlice 239 2 parts=zyk parts:=rfl
theorem zuJ (w:World) (a b:Pt):(zyk #[(0, .agg a.arr),(1, .agg b.arr)]).run Tryz.prog w=.ok (.slice (some ⟨w.heap.size,0,none⟩) 2 2) (w.alloc (.cells (a.arr ++ b.arr) 66)):=by
  obtain ⟨i0,hi,hz0,hz1,hz2⟩:=info_parts zvj
  refine run_buildSlice w 239 66 2 #[(0, .agg a.arr),(1, .agg b.arr)] (a.arr ++ b.arr) i0 _ Tryz.underlying239 hi hz0 (by rw [hz1];decide) (by rw [hz1];decide) ?_
  rw [hz1]
  kernel_rfl
theorem Items.pt {w:World} {A:Option Addr} {l:List Pt} (h:Items w A 2 (l.map Pt.arr)) {i:Nat} (hi:i < l.length):∃ b off,A=some ⟨b,off,none⟩∧∀ W,Below w.heap.size w W→zmL W b (off+i * 2) l[i]:=by
  obtain ⟨b,off,e,hb,hc⟩:=h.get (k:=i) (by simpa using hi)
  refine ⟨b,off,e,fun W hB j hj=>?_⟩
  rw [hB.cell (p:=⟨b,_,none⟩) hb,hc j hj,List.getElem_map]
theorem zux (p:Pt) (w:World):Calls Tryz.prog 101 #[.agg p.arr] w (Ret w (.bool (zaV p.x p.y))):=zmU p.x p.y w
theorem zuc {α:Type _} (f:α→Bool) (l:List α) {i:Nat} (h:i < l.length):(l.drop i).all f=(f l[i] && (l.drop (i+1)).all f):=by
  rw [List.drop_eq_getElem_cons h];rfl
set_option maxHeartbeats 4000000 in
theorem zq3 (l:List Pt) (A:Option Addr) (c:Nat) (w:World) (hI:Items w A 2 (l.map Pt.arr)) (hc:l.length≤c) (hn:l.length≤1000000):
    Calls Tryz.prog 163 #[.slice A l.length c] w (Ret w (.bool (l.all fun p=>zaV p.x p.y))):=by
  have HI:=Lib.hid hI
  clear hI
  go_enter Tryz.func163,Tryz.ntmps163
  go_wp2
  go_loopw [7] (fun iv wr=>∃ i:Nat,i≤l.length∧iv=.int .i64 i∧(l.all fun p=>zaV p.x p.y)=((l.drop i).all fun p=>zaV p.x p.y)∧Below w.heap.size w wr) (fun iv _=>l.length - (intOf iv).toNat)
  case atStart=>exact ⟨0,Nat.zero_le _,rfl,rfl,Below.refl _ _⟩
  case round=>
    obtain ⟨i,hi,rfl,hv,B⟩:=hrel
    have HV:=Lib.hid hv
    clear hv
    by_cases hlt:i < l.length
    · obtain ⟨b,off,rfl,hp⟩:=HI.out.pt hlt
      have i1:zbw wr b (off+i * 2):=⟨_,hp wr B⟩
      have i2:zcr wr b (off+i * 2)=l[i]:=zaZ (hp wr B)
      have HD:=Lib.hid (zuc (fun p=>zaV p.x p.y) l hlt)
      generalize l[i]=p at *
      have hlt':(i:Int) < (l.length:Int):=by omega
      have hic:i < c:=by omega
      clear hp
      go_upto_region 4 with (fail)
      have Y:=Blk.new wr p.arr 66
      have D:=zaa B ((Below.refl wr.heap.size wr).alloc (Nat.le_refl _) (.cells p.arr 66))
      clear i1 i2
      generalize wr.alloc _=W2 at Y D ⊢
      generalize wr.heap.size=g at Y ⊢
      have i1:zbw W2 g 0:=⟨_,Y.is_pt⟩
      have i2:zcr W2 g 0=p:=zaZ Y.is_pt
      have kv:=Lib.hid (zux p W2)
      generalize hq:zaV p.x p.y=t at kv
      have HQ:=Lib.hid hq
      clear hq
      cases t with
      | true=>
        go_wp2_with (go_at_call 101;(with_reducible refine zaj kv.out ?_);intro w3 b3 _ _ _)
        go_roundw
        case rel=>exact ⟨i+1,by omega,by go_num,by rw [HV.out,HD.out,HQ.out];rfl,zaa D b3⟩
        case measure=>simp [intOf];omega
      | false=>
        go_wp2_with (go_at_call 101;(with_reducible refine zaj kv.out ?_);intro w3 b3 _ _ _)
        go_ret
        exact Ret.bool (by rw [HV.out,HD.out,HQ.out];rfl) (zaa D b3)
    · have hlt':¬ (i:Int) < (l.length:Int):=by omega
      go_wp2
      go_ret
      exact Ret.bool (by rw [HV.out,List.drop_of_length_le (by omega)];rfl) B
def zyq (parts:Array (Nat × Value)):Sem Value:=Instr.build 66 parts
theorem ztV (parts:Array (Nat × Value)):Instr.build 66 parts=zyq parts:=rfl
theorem zuN (w:World) (a b:Int):(zyq #[(0, .int .i64 a),(1, .int .i64 b)]).run Tryz.prog w=.ok (.agg (Pt.arr ⟨a,b⟩)) w:=run_build w _ _ _ (by kernel_rfl)
theorem zv6 (x:Pt) (o n:Nat):Fits o n x.arr=(o+n≤2):=propext ⟨fun h=>h,fun h=>h⟩
theorem zqx (a b:Pt):splice a.arr 0 b.arr=b.arr:=rfl
attribute [local go_sem ↓] ztR ztV
attribute [local go_sem] zuJ zuN zv6 zqx
set_option maxHeartbeats 4000000 in
theorem zo4 (a b:Pt) (ha:zaV a.x a.y=true) (hb:zaV b.x b.y=true) (w:World):Calls Tryz.prog 164 #[.agg a.arr, .agg b.arr] w (Ret w (.agg (Pt.arr ⟨b.x - a.x,b.y - a.y⟩))):=by
  simp only [zaV,Bool.and_eq_true,decide_eq_true_eq] at ha hb
  obtain ⟨ax,ay⟩:=a
  obtain ⟨bx,byy⟩:=b
  dsimp only at ha hb ⊢
  obtain ⟨⟨⟨a1,a2⟩,a3⟩,a4⟩:=ha
  obtain ⟨⟨⟨b1,b2⟩,b3⟩,b4⟩:=hb
  go_enter Tryz.func164,Tryz.ntmps164
  go_upto_region 1 with (fail)
  have A0:Blk (((w.alloc (.cells (Pt.arr ⟨ax,ay⟩) 66)).alloc (.cells (Pt.arr ⟨bx,byy⟩) 66)).alloc (.cells (Pt.arr ⟨0,0⟩) 66)) w.heap.size (Pt.arr ⟨ax,ay⟩):=((Blk.new w _ _).alloc _).alloc _
  have B0:Blk (((w.alloc (.cells (Pt.arr ⟨ax,ay⟩) 66)).alloc (.cells (Pt.arr ⟨bx,byy⟩) 66)).alloc (.cells (Pt.arr ⟨0,0⟩) 66)) (w.heap.size+1) (Pt.arr ⟨bx,byy⟩):=by
    have:=(Blk.new (w.alloc (.cells (Pt.arr ⟨ax,ay⟩) 66)) (Pt.arr ⟨bx,byy⟩) 66).alloc (.cells (Pt.arr ⟨0,0⟩) 66)
    rwa [World.size_alloc] at this
  have R0:Blk (((w.alloc (.cells (Pt.arr ⟨ax,ay⟩) 66)).alloc (.cells (Pt.arr ⟨bx,byy⟩) 66)).alloc (.cells (Pt.arr ⟨0,0⟩) 66)) (w.heap.size+1+1) (Pt.arr ⟨0,0⟩):=by
    have:=Blk.new ((w.alloc (.cells (Pt.arr ⟨ax,ay⟩) 66)).alloc (.cells (Pt.arr ⟨bx,byy⟩) 66)) (Pt.arr ⟨0,0⟩) 66
    rwa [World.size_alloc,World.size_alloc] at this
  have D0:Below w.heap.size w (((w.alloc (.cells (Pt.arr ⟨ax,ay⟩) 66)).alloc (.cells (Pt.arr ⟨bx,byy⟩) 66)).alloc (.cells (Pt.arr ⟨0,0⟩) 66)):=by go_grown
  generalize hW0:World.alloc (World.alloc (World.alloc w _) _) _=W0
  have hW0':((w.alloc (.cells (Pt.arr ⟨ax,ay⟩) 66)).alloc (.cells (Pt.arr ⟨bx,byy⟩) 66)).alloc (.cells (Pt.arr ⟨0,0⟩) 66)=W0:=hW0
  rw [hW0'] at A0 B0 R0 D0
  clear hW0 hW0'
  have hge:w.heap.size≤w.heap.size+1+1:=by omega
  generalize w.heap.size+1+1=gr at R0 hge ⊢
  generalize w.heap.size+1=gb at B0 ⊢
  obtain ⟨ga,hga⟩:∃ g,g=w.heap.size:=⟨_,rfl⟩
  rw [← hga] at A0 ⊢
  clear hga
  have c1:W0.cell? ⟨ga,0,none⟩=some (.int .i64 ax):=A0.cell 0
  have c2:W0.cell? ⟨ga,1,none⟩=some (.int .i64 ay):=A0.cell 1
  have c3:W0.cell? ⟨gb,0,none⟩=some (.int .i64 bx):=B0.cell 0
  have c4:W0.cell? ⟨gb,1,none⟩=some (.int .i64 byy):=B0.cell 1
  have d2:=R0.plain
  have d3:=R0.of
  clear A0 B0
  go_wp2
  exact bodyPost_ret (zbM Tryz.results164 _ _ gr (Pt.arr ⟨bx - ax,byy - ay⟩) 2 _ rfl rfl (R0.set _).cell Tryz.underlying66 rfl zcx) rfl ⟨rfl,zab D0 hge _⟩
theorem zeg {x:Int} (h1:-4000000≤x) (h2:x≤4000000):0≤x * x∧x * x≤16000000000000:=by
  have hn:x.natAbs * x.natAbs≤4000000 * 4000000:=Nat.mul_le_mul (by omega) (by omega)
  have e:x * x=((x.natAbs * x.natAbs:Nat):Int):=by
    rw [Int.natCast_mul]
    exact (Int.natAbs_mul_self (a:=x)).symm ▸ (by simp)
  omega
set_option maxHeartbeats 4000000 in
theorem zvb (d:Pt) (hx:-4000000≤d.x∧d.x≤4000000) (hy:-4000000≤d.y∧d.y≤4000000) (w:World):Calls Tryz.prog 166 #[.agg d.arr, .agg d.arr] w (Ret w (.int .i64 (d.x * d.x+d.y * d.y))):=by
  obtain ⟨dx,dy⟩:=d
  dsimp only at hx hy ⊢
  obtain ⟨s1,s2⟩:=zeg hx.1 hx.2
  obtain ⟨s3,s4⟩:=zeg hy.1 hy.2
  obtain ⟨p,hp⟩:∃ p,p=dx * dx:=⟨_,rfl⟩
  obtain ⟨q,hq⟩:∃ q,q=dy * dy:=⟨_,rfl⟩
  rw [← hp] at s1 s2
  rw [← hq] at s3 s4
  rw [← hp,← hq]
  have e1:wrap64 (dx * dx)=p:=by rw [← hp];exact IntWalk.wrap64_in _ (by omega)
  have e2:wrap64 (dy * dy)=q:=by rw [← hq];exact IntWalk.wrap64_in _ (by omega)
  clear hp hq hx hy
  go_enter Tryz.func166,Tryz.ntmps166
  go_upto_region 1 with (fail)
  have A0:Blk ((w.alloc (.cells (Pt.arr ⟨dx,dy⟩) 66)).alloc (.cells (Pt.arr ⟨dx,dy⟩) 66)) w.heap.size (Pt.arr ⟨dx,dy⟩):=(Blk.new w _ _).alloc _
  have B0:Blk ((w.alloc (.cells (Pt.arr ⟨dx,dy⟩) 66)).alloc (.cells (Pt.arr ⟨dx,dy⟩) 66)) (w.heap.size+1) (Pt.arr ⟨dx,dy⟩):=by
    have:=Blk.new (w.alloc (.cells (Pt.arr ⟨dx,dy⟩) 66)) (Pt.arr ⟨dx,dy⟩) 66
    rwa [World.size_alloc] at this
  have D0:Below w.heap.size w ((w.alloc (.cells (Pt.arr ⟨dx,dy⟩) 66)).alloc (.cells (Pt.arr ⟨dx,dy⟩) 66)):=by go_grown
  generalize World.alloc (World.alloc w _) _=W0 at A0 B0 D0 ⊢
  generalize w.heap.size+1=gb at B0 ⊢
  obtain ⟨ga,hga⟩:∃ g,g=w.heap.size:=⟨_,rfl⟩
  rw [← hga] at A0 ⊢
  clear hga
  have c1:W0.cell? ⟨ga,0,none⟩=some (.int .i64 dx):=A0.cell 0
  have c2:W0.cell? ⟨ga,1,none⟩=some (.int .i64 dy):=A0.cell 1
  have c3:W0.cell? ⟨gb,0,none⟩=some (.int .i64 dx):=B0.cell 0
  have c4:W0.cell? ⟨gb,1,none⟩=some (.int .i64 dy):=B0.cell 1
  clear A0 B0
  go_wp2
  go_ret
  exact Ret.int rfl D0
theorem zrX {W:World} {g:Nat} {a b:Pt} (h:Blk W g (a.arr ++ b.arr)):Items W (some ⟨g,0,none⟩) 2 ([a,b].map Pt.arr) where
  at_ _:=⟨g,0,rfl,h.lt,fun i x hx j hj=>by
    rw [Nat.zero_add,h.cell]
    match i,hx with
    | 0,hx=>
      obtain rfl:a.arr=x:=by simpa using hx
      match j,hj with
      | 0,_ | 1,_=>rfl
    | 1,hx=>
      obtain rfl:b.arr=x:=by simpa using hx
      match j,hj with
      | 0,_ | 1,_=>rfl⟩
set_option maxHeartbeats 4000000 in
theorem ztd (a b:Pt) (w:World):Calls Tryz.prog 122 #[.agg a.arr, .agg b.arr] w (Ret w (.int .i64 (ze3 (a.x,a.y) (b.x,b.y)))):=by
  have HV:=Lib.hid (show ze3 (a.x,a.y) (b.x,b.y)=if zaV a.x a.y && zaV b.x b.y then (zfu ((b.x - a.x) * (b.x - a.x)+(b.y - a.y) * (b.y - a.y)).toNat:Int) else 0 from rfl)
  generalize ze3 (a.x,a.y) (b.x,b.y)=v at *
  go_enter Tryz.func122,Tryz.ntmps122
  go_upto_region 1 with (fail)
  have A0:Blk ((w.alloc (.cells a.arr 66)).alloc (.cells b.arr 66)) w.heap.size a.arr:=(Blk.new w _ _).alloc _
  have B0:Blk ((w.alloc (.cells a.arr 66)).alloc (.cells b.arr 66)) (w.heap.size+1) b.arr:=by
    have:=Blk.new (w.alloc (.cells a.arr 66)) b.arr 66
    rwa [World.size_alloc] at this
  have D0:Below w.heap.size w ((w.alloc (.cells a.arr 66)).alloc (.cells b.arr 66)):=by go_grown
  generalize World.alloc (World.alloc w _) _=W0 at A0 B0 D0 ⊢
  generalize w.heap.size+1=gb at B0 ⊢
  obtain ⟨ga,hga⟩:∃ g,g=w.heap.size:=⟨_,rfl⟩
  rw [← hga] at A0 ⊢
  clear hga
  have i1:zbw W0 ga 0:=⟨_,A0.is_pt⟩
  have i2:zcr W0 ga 0=a:=zaZ A0.is_pt
  have i3:zbw W0 gb 0:=⟨_,B0.is_pt⟩
  have i4:zcr W0 gb 0=b:=zaZ B0.is_pt
  have kv:=Lib.hid (fun W q (Y:Blk W q (a.arr ++ b.arr))=>zq3 [a,b] (some ⟨q,0,none⟩) 2 W (zrX Y) (Nat.le_refl _) (by simp))
  have e2:([a,b].all fun p=>zaV p.x p.y)=(zaV a.x a.y && zaV b.x b.y):=by simp
  rw [e2] at kv
  clear e2
  cases ha:zaV a.x a.y && zaV b.x b.y with
  | false=>
    rw [ha] at kv HV
    have HV2:=Lib.hid (show v=0 by rw [HV.out];rfl)
    clear ha HV
    go_wp2_with (go_at_call 163;(with_reducible refine zaj (kv.out _ _ (Blk.new _ _ _)) ?_);intro w1 b1 _ _ _)
    go_ret
    exact Ret.int (by rw [HV2.out]) (zaa D0 (zaa ((Below.refl _ _).alloc (Nat.le_refl _) _) b1))
  | true=>
    rw [ha] at kv HV
    have HV2:=Lib.hid (show v=(zfu ((b.x - a.x) * (b.x - a.x)+(b.y - a.y) * (b.y - a.y)).toNat:Int) by rw [HV.out];rfl)
    clear HV
    obtain ⟨ha1,hb1⟩:=Bool.and_eq_true_iff.1 ha
    have kw:=Lib.hid (fun W=>zo4 a b ha1 hb1 W)
    simp only [zaV,Bool.and_eq_true,decide_eq_true_eq] at ha1 hb1
    have hx:-4000000≤b.x - a.x∧b.x - a.x≤4000000:=by omega
    have hy:-4000000≤b.y - a.y∧b.y - a.y≤4000000:=by omega
    have kd:=Lib.hid (fun W=>zvb ⟨b.x - a.x,b.y - a.y⟩ hx hy W)
    obtain ⟨s1,s2⟩:=zeg hx.1 hx.2
    obtain ⟨s3,s4⟩:=zeg hy.1 hy.2
    dsimp only at kd
    clear ha ha1 hb1
    generalize hdx:b.x - a.x=dx at *
    generalize hdy:b.y - a.y=dy at *
    obtain ⟨n,hn⟩:∃ n:Nat,dx * dx+dy * dy=(n:Int):=⟨(dx * dx+dy * dy).toNat,by omega⟩
    rw [hn,Int.toNat_natCast] at HV2
    rw [hn] at kd
    have kq:=Lib.hid (fun W=>ztt n (by omega) W)
    clear hdx hdy hx hy s1 s2 s3 s4 hn
    go_upto_region 4 with (first
      | (go_at_call 163;(with_reducible refine zaj (kv.out _ _ (Blk.new _ _ _)) ?_);intro w1 b1 _ _ _
         have b2:=zaa ((Below.refl _ _).alloc (Nat.le_refl _) (.cells (a.arr ++ b.arr) 66)) b1
         have j1:zbw w1 ga 0:=⟨_,(A0.step b2).is_pt⟩
         have j2:zcr w1 ga 0=a:=zaZ (A0.step b2).is_pt
         have j3:zbw w1 gb 0:=⟨_,(B0.step b2).is_pt⟩
         have j4:zcr w1 gb 0=b:=zaZ (B0.step b2).is_pt)
      | (go_at_call 164;(with_reducible refine zaj (kw.out _) ?_);intro w3 b3 _ _ _))
    have Y:=Blk.new w3 (Pt.arr ⟨dx,dy⟩) 66
    have D3:=zaa (zaa D0 (zaa b2 b3)) ((Below.refl w3.heap.size w3).alloc (Nat.le_refl _) (.cells (Pt.arr ⟨dx,dy⟩) 66))
    clear i1 i2 i3 i4 j1 j2 j3 j4
    generalize w3.alloc _=W4 at Y D3 ⊢
    generalize w3.heap.size=g5 at Y ⊢
    have i1:zbw W4 g5 0:=⟨_,Y.is_pt⟩
    have i2:zcr W4 g5 0=⟨dx,dy⟩:=zaZ Y.is_pt
    go_wp2_with (first
      | (go_at_call 166;(with_reducible refine zaj (kd.out _) ?_);intro w5 b5 _ _ _)
      | (go_at_call 165;(with_reducible refine zae (kq.out _) ?_)))
    go_ret
    exact Ret.int (by rw [HV2.out]) (zaa D3 b5)
end Go.Proofs.YtgoeedohgomodaaGreatDoor
