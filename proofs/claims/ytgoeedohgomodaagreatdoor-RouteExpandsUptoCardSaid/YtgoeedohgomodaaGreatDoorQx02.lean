/- Lemmas and walks. -/
import Derived.Test.YtgoeedohgomodaaGreatDoorQk01
import Derived.Test.YtgoeedohgomodaaGreatDoorQk02
import Derived.Test.YtgoeedohgomodaaGreatDoorQx01
import Derived.Test.YtgoeedohgomodaaGreatDoorQk03
import Derived.Test.YtgoeedohgomodaaGreatDoorQk05
import Derived.Test.YtgoeedohgomodaaGreatDoorQk06
import Derived.Test.YtgoeedohgomodaaGreatDoorQk16
import Derived.Test.YtgoeedohgomodaaGreatDoorQk04
import Derived.Test.YtgoeedohgomodaaGreatDoorQk07
import Derived.Test.YtgoeedohgomodaaGreatDoorQk08
import Derived.Test.YtgoeedohgomodaaGreatDoorQk09
import Derived.Test.YtgoeedohgomodaaGreatDoorQk10
import Derived.Test.YtgoeedohgomodaaGreatDoorQk11
import Derived.Test.YtgoeedohgomodaaGreatDoorQk12
import Derived.Test.YtgoeedohgomodaaGreatDoorQk22
import Derived.Test.YtgoeedohgomodaaGreatDoorQk23
import Derived.Test.YtgoeedohgomodaaGreatDoorQk13
import Derived.Test.YtgoeedohgomodaaGreatDoorQk24
import Derived.Test.YtgoeedohgomodaaGreatDoorQk14
import Derived.Test.YtgoeedohgomodaaGreatDoorQk30
import Derived.Test.YtgoeedohgomodaaGreatDoorQk25
import Derived.Test.YtgoeedohgomodaaGreatDoorQk26
import Derived.Test.YtgoeedohgomodaaGreatDoorQk27
import Derived.Test.YtgoeedohgomodaaGreatDoorQk28
import Derived.Test.YtgoeedohgomodaaGreatDoorQk20
import Derived.Test.YtgoeedohgomodaaGreatDoorQk35
import Derived.Test.YtgoeedohgomodaaGreatDoorQk33
import Derived.Test.YtgoeedohgomodaaGreatDoorQk37
import Derived.Test.YtgoeedohgomodaaGreatDoorQk39
import Derived.Laws.CopyRow
import Derived.Great.BuildSlice
import Derived.Laws.OwnMore
import Derived.Laws.Tables
set_option linter.unusedSimpArgs false
set_option linter.unusedVariables false
namespace Go.Proofs.YtgoeedohgomodaaGreatDoor
open Go.RowKit
theorem zoj (w:World) (x:Pt) (t:TypeId):zmL (w.alloc (.cells x.arr t)) w.heap.size 0 x:=fun j _=>by rw [Nat.zero_add];exact cell_of_row _ _ j x.arr t (0,0) (heap_alloc_new w _)
theorem zrO (w:World) (x:Pt) (t:TypeId):zbw (w.alloc (.cells x.arr t)) w.heap.size 0=True:=eq_true ⟨x,zoj w x t⟩
theorem zsX (w:World) (x:Pt) (t:TypeId):zcr (w.alloc (.cells x.arr t)) w.heap.size 0=x:=zaZ (zoj w x t)
theorem zok (w:World) (b o:Nat) (ob:Obj) (h:b < w.heap.size):zbw (w.alloc ob) b o=zbw w b o:=by
  have e:∀ j,(w.alloc ob).cell? ⟨b,o+j,none⟩=w.cell? ⟨b,o+j,none⟩:=fun j=>World.cell?_alloc_lt w ob ⟨b,o+j,none⟩ h
  simp only [zbw,zmL,e]
theorem zoZ (w:World) (b o:Nat) (ob:Obj) (h:b < w.heap.size) (hh:zbw w b o):zcr (w.alloc ob) b o=zcr w b o:=
  zaZ fun j hj=>by rw [World.cell?_alloc_lt w ob ⟨b,o+j,none⟩ h];exact zhs hh j hj
attribute [go_sem ↓] zh4 zgH
attribute [go_sem] zi2 zfj zjq zrO zsX zok zoZ
attribute [go_sem ↓] zha zfY
attribute [go_sem] zhO zeT zhY zj3 zk2
theorem zlB (w:World) (x:Leg) (t:TypeId):Is_leg (w.alloc (.cells x.arr t)) w.heap.size 0 x:=fun j _=>by rw [Nat.zero_add];exact cell_of_row _ _ j x.arr t (0,0) (heap_alloc_new w _)
attribute [go_sem ↓] zhb zfZ
attribute [go_sem] zhP zeU zh0 zhk zh1
theorem zmP (w:World) (b o n:Nat):za4 (w.drewN n) b o=za4 w b o:=propext ⟨fun h=>h,fun h=>h⟩
theorem zmR (w:World) (b o:Nat) (ob:Obj) (h:b < w.heap.size):za4 (w.alloc ob) b o=za4 w b o:=by
  have e:∀ j,(w.alloc ob).cell? ⟨b,o+j,none⟩=w.cell? ⟨b,o+j,none⟩:=fun j=>World.cell?_alloc_lt w ob ⟨b,o+j,none⟩ h
  simp only [za4,zfB,e]
theorem znN (w:World) (b o:Nat) (ob:Obj) (h:b < w.heap.size) (hh:za4 w b o):zbE (w.alloc ob) b o=zbE w b o:=
  zaS fun j hj=>by rw [World.cell?_alloc_lt w ob ⟨b,o+j,none⟩ h];exact zgt hh j hj
attribute [go_sem ↓] zhc zf0
attribute [go_sem] zhQ zeV zmP zh2 zmR znN
end Go.Proofs.YtgoeedohgomodaaGreatDoor
namespace Go.Proofs.YtgoeedohgomodaaGreatDoor
open Go.RowKit
theorem zv2 (x:Leg) (o n:Nat):Fits o n x.arr=(o+n≤13):=propext ⟨fun h=>h,fun h=>h⟩
attribute [go_sem] zqi zqj zug zqh zv2 zqn
attribute [go_sem] zql zqm zuq zqk
attribute [go_sem] zgR
theorem zkl (W:World) (g o:Nat) (v:Array Value) (hv:zdg v 2) (h1:zdQ v) (hp:Plain W g) (hn:Fits o 2 (zbN W g)):
    (zgF (.pointer (some ⟨g,o,none⟩)) (.agg v)).run Tryz.prog W=.ok () (W.setRow g (splice (zbN W g) o v)):=zaX W g o 2 _ v zfL hv h1 hp hn
attribute [go_sem] zkl
attribute [go_sem] zf6
attribute [go_sem] zf7 zj4 zk3
attribute [go_sem] zgQ
attribute [go_sem] zf3
attribute [go_sem] zf4
attribute [go_sem] zf5
end Go.Proofs.YtgoeedohgomodaaGreatDoor
namespace Go.Proofs.YtgoeedohgomodaaGreatDoor
open Go.RowKit
def bs2 (parts:Array (Nat × Value)):Sem Value:=Instr.buildSlice 41 2 parts
theorem zvH (parts:Array (Nat × Value)):Instr.buildSlice 41 2 parts=bs2 parts:=rfl
theorem zwz (w:World) (x y:Entry):(bs2 #[(0, .agg x.arr),(1, .agg y.arr)]).run Tryz.prog w=.ok (.slice (some ⟨w.heap.size,0,none⟩) 2 2) (w.alloc (.cells (x.arr ++ y.arr) 69)):=by
  obtain ⟨i0,hi,hz0,hz1,hz2⟩:=info_parts zdc
  refine run_buildSlice w 41 69 2 #[(0, .agg x.arr),(1, .agg y.arr)] (x.arr ++ y.arr) i0 _ Tryz.underlying41 hi hz0 (by rw [hz1];decide) (by rw [hz1];decide) ?_
  rw [hz1]
  kernel_rfl
attribute [go_sem ↓] zqf zvH
attribute [go_sem] zsj
end Go.Proofs.YtgoeedohgomodaaGreatDoor
namespace Go.Proofs.YtgoeedohgomodaaGreatDoor
open Go.RowKit
theorem Blk.two (w:World) (x y:Entry) (t:TypeId):Blk (w.alloc (.cells (x.arr ++ y.arr) t)) w.heap.size (cellsOf [x,y]).toArray:=by
  have:(cellsOf [x,y]).toArray=x.arr ++ y.arr:=by simp [cellsOf]
  rw [this];exact Blk.new w _ t
end Go.Proofs.YtgoeedohgomodaaGreatDoor
namespace Go.Proofs.YtgoeedohgomodaaGreatDoor
open Go.RowKit
theorem SOut.drewN {w0 W:World} {v:Value} {ss:List (List UInt8)} (h:SOut w0 W v ss) (n:Nat):SOut w0 (W.drewN n) v ss:=h.below (below_drewN (Below.refl _ _) n)
end Go.Proofs.YtgoeedohgomodaaGreatDoor
namespace Go.Proofs.YtgoeedohgomodaaGreatDoor
open Go.RowKit Go.Sort
def leg0:Leg:=⟨0,[],[],0,false,0,0,0,0,0,0,0,0⟩
end Go.Proofs.YtgoeedohgomodaaGreatDoor
namespace Go.Proofs.YtgoeedohgomodaaGreatDoor
open Go.RowKit
theorem zvs (lon:Int) (v:V3):zwT lon v=zaw (zb6 lon * v.2.1 - zbH lon * v.1):=by
  unfold zwT
  congr 1
  rw [Int.zero_mul,Int.neg_mul];omega
theorem zsY (lat lon:Int) (v:V3):zsZ lat lon v=zaw (zb6 lat * v.2.2 - zaw (zbH lat * zb6 lon) * v.1 - zaw (zbH lat * zbH lon) * v.2.1):=by
  unfold zsZ
  congr 1
  rw [Int.neg_mul,Int.neg_mul];omega
end Go.Proofs.YtgoeedohgomodaaGreatDoor
namespace Go.Proofs.YtgoeedohgomodaaGreatDoor
open Go.RowKit
theorem zc1 {x:Int} (h0:-9000000000000000000≤x) (h1:x≤9000000000000000000) (w:World):Calls Tryz.prog 218 #[.int .i64 x] w (RetP w (.int .i64 (zaw x))):=by
  go_enter Tryz.func218,Tryz.ntmps218
  go_wp2
  all_goals (go_ret;exact RetP.int rfl rfl)
end Go.Proofs.YtgoeedohgomodaaGreatDoor
namespace Go.Proofs.YtgoeedohgomodaaGreatDoor
open Go.RowKit
set_option maxRecDepth 100000
theorem zsq (a b:Int) (h0:-9223372036854775808≤a) (h1:a≤9223372036854775807) (h2:-9223372036854775808≤b) (h3:b≤9223372036854775807) (w:World):Calls Tryz.prog 230 #[.int .i64 a, .int .i64 b] w (RetP w (.int .i64 (zfd a b))):=by
  have e1:=zdD a
  have e2:=zdD b
  have ca:=Lib.hid (zfI a h0 h1)
  have cb:=Lib.hid (zfI b h2 h3)
  have cc:=Lib.hid (zfI (zcw a+zcw b) (by omega) (by omega))
  have ce:=Lib.hid (show zfd a b=zcw (zcw a+zcw b) from rfl)
  generalize zfd a b=tab at *
  generalize zcw (zcw a+zcw b)=nab at *
  generalize zcw a=na at *
  generalize zcw b=nb at *
  clear h0 h1 h2 h3
  go_enter Tryz.func230,Tryz.ntmps230
  go_wp2_with (go_at_call 231;first | (with_reducible refine zae (ca.out _) ?_) | (with_reducible refine zae (cb.out _) ?_) | (with_reducible refine zae (cc.out _) ?_))
  go_ret
  exact RetP.int ce.out.symm rfl
end Go.Proofs.YtgoeedohgomodaaGreatDoor
namespace Go.Proofs.YtgoeedohgomodaaGreatDoor
open Go.RowKit
set_option maxRecDepth 100000
attribute [local go_sem ↓] zpX
attribute [local go_sem] znc znb zna zm9 zm8
set_option maxHeartbeats 2000000 in
theorem zoN (a:Int) (h0:0≤a) (h1:a≤16200000) (w:World):Calls Tryz.prog 241 #[.int .i64 a] w (RetP w (.int .i64 (zcP a))):=by
  obtain ⟨t0,t1⟩:=zgC h0 h1
  obtain ⟨u0,u1⟩:=zhG h0 h1
  obtain ⟨d0,v1,d1,v2,d2,v3,d3,v4,d4,C,hC⟩:=ziB (n0:=90) (n1:=56) (n2:=30) (n3:=12) (n4:=2) u0 (by omega) (by decide) (by decide) (by decide) (by decide) (by decide)
  have tt:0≤zbp a * zbp a∧zbp a * zbp a≤9000000000000000000:=by have:=zjy t0 t1 t0 t1;omega
  have HA:=Lib.hid (show (a * 6746518852+32400000) / 64800000=zbp a from rfl)
  have HS:=Lib.hid (show zcP a=(2147483648 - d4+1) / 2 by unfold zcP zjO;rw [hC])
  have ku:=Lib.hid (zcp (x:=zbp a) (y:=zbp a) tt.1 tt.2)
  have kd0:=Lib.hid (zcS (x:=zdN (zbp a) (zbp a)) (n:=90) u0 (by omega) (by decide) (by decide))
  rw [← C.h0] at kd0
  have k1:=Lib.hid (zcp (x:=zdN (zbp a) (zbp a)) (y:=2147483648 - d0) C.s1.p0 C.s1.p1)
  rw [← C.s1.hv] at k1
  have kd1:=Lib.hid (zcS (x:=v1) (n:=56) C.s1.v0 (by have:=C.s1.v1;omega) (by decide) (by decide))
  rw [← C.s1.hd] at kd1
  have k2:=Lib.hid (zcp (x:=zdN (zbp a) (zbp a)) (y:=2147483648 - d1) C.s2.p0 C.s2.p1)
  rw [← C.s2.hv] at k2
  have kd2:=Lib.hid (zcS (x:=v2) (n:=30) C.s2.v0 (by have:=C.s2.v1;omega) (by decide) (by decide))
  rw [← C.s2.hd] at kd2
  have k3:=Lib.hid (zcp (x:=zdN (zbp a) (zbp a)) (y:=2147483648 - d2) C.s3.p0 C.s3.p1)
  rw [← C.s3.hv] at k3
  have kd3:=Lib.hid (zcS (x:=v3) (n:=12) C.s3.v0 (by have:=C.s3.v1;omega) (by decide) (by decide))
  rw [← C.s3.hd] at kd3
  have k4:=Lib.hid (zcp (x:=zdN (zbp a) (zbp a)) (y:=2147483648 - d3) C.s4.p0 C.s4.p1)
  rw [← C.s4.hv] at k4
  have kd4:=Lib.hid (zcS (x:=v4) (n:=2) C.s4.v0 (by have:=C.s4.v1;omega) (by decide) (by decide))
  rw [← C.s4.hd] at kd4
  have b0:=C.a0
  have b0':=C.b0
  have b1:=C.s1.d0
  have b1':=C.s1.d1
  have b2:=C.s2.d0
  have b2':=C.s2.d1
  have b3:=C.s3.d0
  have b3':=C.s3.d1
  have b4:=C.s4.d0
  have b4':=C.s4.d1
  have ka:=Lib.hid (zg0 a h0 h1)
  clear C hC tt
  generalize zdN (zbp a) (zbp a)=u at *
  generalize zcP a=out at HS ⊢
  go_enter Tryz.func241,Tryz.ntmps241
  go_wp2_with (first
      | (go_at_call 245;(with_reducible refine zae (ka.out _) ?_))
      | (go_at_call 247;first | (with_reducible refine zae (ku.out _) ?_) | (with_reducible refine zae (k1.out _) ?_) | (with_reducible refine zae (k2.out _) ?_) | (with_reducible refine zae (k3.out _) ?_) | (with_reducible refine zae (k4.out _) ?_))
      | (go_at_call 246;first | (with_reducible refine zae (kd0.out _) ?_) | (with_reducible refine zae (kd1.out _) ?_) | (with_reducible refine zae (kd2.out _) ?_) | (with_reducible refine zae (kd3.out _) ?_) | (with_reducible refine zae (kd4.out _) ?_)))
  go_ret
  exact RetP.int HS.out.symm rfl
end Go.Proofs.YtgoeedohgomodaaGreatDoor
namespace Go.Proofs.YtgoeedohgomodaaGreatDoor
open Go.RowKit
set_option maxRecDepth 100000
theorem zeh (a:Int) (h0:0≤a) (h1:a≤32400000) (w:World):Calls Tryz.prog 232 #[.int .i64 a] w (RetP w (.int .i64 (zaD a))):=by
  by_cases h:a≤16200000
  · have HQ:=Lib.hid (show zaD a=zfU a by unfold zaD;rw [if_pos h])
    have k:=Lib.hid (zss a h0 h)
    generalize zaD a=out at HQ ⊢
    generalize zfU a=v at HQ k
    go_enter Tryz.func232,Tryz.ntmps232
    go_wp2_with (go_at_call 240;(with_reducible refine zae (k.out _) ?_))
    go_ret
    exact RetP.int HQ.out.symm rfl
  · have HQ:=Lib.hid (show zaD a=zcP (32400000 - a) by unfold zaD;rw [if_neg h])
    have k:=Lib.hid (zoN (32400000 - a) (by omega) (by omega))
    generalize zaD a=out at HQ ⊢
    generalize zcP (32400000 - a)=v at HQ k
    go_enter Tryz.func232,Tryz.ntmps232
    go_wp2_with (go_at_call 241;(with_reducible refine zae (k.out _) ?_))
    go_ret
    exact RetP.int HQ.out.symm rfl
theorem zfG (a:Int) (h0:-9223372036854775808≤a) (h1:a≤9223372036854775807) (w:World):Calls Tryz.prog 220 #[.int .i64 a] w (RetP w (.int .i64 (zbH a))):=by
  have nb:=zdD a
  have cn:=Lib.hid (zfI a h0 h1)
  have HS:=Lib.hid (show zbH a=zj5 (zcw a) from rfl)
  generalize zcw a=b at *
  generalize zbH a=out at *
  clear h0 h1
  obtain ⟨n0,n1⟩:=nb
  by_cases c0:b≤32400000
  · have HQ:=Lib.hid (show zj5 b=zaD (b) by unfold zj5;rw [if_pos c0])
    have k:=Lib.hid (zeh (b) (by omega) (by omega))
    have qi:=zbA (a:=b) (by omega) (by omega)
    generalize zaD (b)=v at *
    go_enter Tryz.func220,Tryz.ntmps220
    go_wp2_with (first | (go_at_call 231;(with_reducible refine zae (cn.out _) ?_)) | (go_at_call 232;(with_reducible refine zae (k.out _) ?_)))
    go_ret
    exact RetP.int (by rw [HS.out,HQ.out]) rfl
  by_cases c1:b≤64800000
  · have HQ:=Lib.hid (show zj5 b=zaD (64800000 - b) by unfold zj5;rw [if_neg c0,if_pos c1])
    have k:=Lib.hid (zeh (64800000 - b) (by omega) (by omega))
    have qi:=zbA (a:=64800000 - b) (by omega) (by omega)
    generalize zaD (64800000 - b)=v at *
    go_enter Tryz.func220,Tryz.ntmps220
    go_wp2_with (first | (go_at_call 231;(with_reducible refine zae (cn.out _) ?_)) | (go_at_call 232;(with_reducible refine zae (k.out _) ?_)))
    go_ret
    exact RetP.int (by rw [HS.out,HQ.out]) rfl
  by_cases c2:b≤97200000
  · have HQ:=Lib.hid (show zj5 b=-zaD (b - 64800000) by unfold zj5;rw [if_neg c0,if_neg c1,if_pos c2])
    have k:=Lib.hid (zeh (b - 64800000) (by omega) (by omega))
    have qi:=zbA (a:=b - 64800000) (by omega) (by omega)
    generalize zaD (b - 64800000)=v at *
    go_enter Tryz.func220,Tryz.ntmps220
    go_wp2_with (first | (go_at_call 231;(with_reducible refine zae (cn.out _) ?_)) | (go_at_call 232;(with_reducible refine zae (k.out _) ?_)))
    go_ret
    exact RetP.int (by rw [HS.out,HQ.out]) rfl
  have HQ:=Lib.hid (show zj5 b=-zaD (129600000 - b) by unfold zj5;rw [if_neg c0,if_neg c1,if_neg c2])
  have k:=Lib.hid (zeh (129600000 - b) (by omega) (by omega))
  have qi:=zbA (a:=129600000 - b) (by omega) (by omega)
  generalize zaD (129600000 - b)=v at *
  go_enter Tryz.func220,Tryz.ntmps220
  go_wp2_with (first | (go_at_call 231;(with_reducible refine zae (cn.out _) ?_)) | (go_at_call 232;(with_reducible refine zae (k.out _) ?_)))
  go_ret
  exact RetP.int (by rw [HS.out,HQ.out]) rfl
theorem zgZ (a:Int) (h0:-9223372036854775808≤a) (h1:a≤9223372036854775807) (w:World):Calls Tryz.prog 219 #[.int .i64 a] w (RetP w (.int .i64 (zb6 a))):=by
  have kt:=Lib.hid (zsq a 32400000 h0 h1 (by decide) (by decide))
  have nb:0≤zfd a 32400000∧zfd a 32400000 < 129600000:=zdD _
  have ks:=Lib.hid (zfG (zfd a 32400000) (by omega) (by omega))
  have HS:=Lib.hid (show zb6 a=zbH (zfd a 32400000) from rfl)
  generalize zfd a 32400000=t at *
  generalize zb6 a=out at *
  generalize zbH t=v at *
  clear h0 h1
  go_enter Tryz.func219,Tryz.ntmps219
  go_wp2_with (first | (go_at_call 230;(with_reducible refine zae (kt.out _) ?_)) | (go_at_call 220;(with_reducible refine zae (ks.out _) ?_)))
  go_ret
  exact RetP.int HS.out.symm rfl
end Go.Proofs.YtgoeedohgomodaaGreatDoor
namespace Go.Proofs.YtgoeedohgomodaaGreatDoor
open Go.RowKit Go.Sort
set_option maxRecDepth 100000
theorem zgk (lat lon:Int) (w:World):Calls Tryz.prog 207 #[.agg (Pos.arr ⟨lat,lon⟩)] w (Ret w (.bool (zih lat lon))):=by
  go_enter Tryz.func207,Tryz.ntmps207
  go_wp2
  all_goals (go_ret;exact Ret.bool (by grind [zih]) (by go_grown))
attribute [local go_sem ↓] zeb
attribute [local go_sem] zd1
end Go.Proofs.YtgoeedohgomodaaGreatDoor
namespace Go.Proofs.YtgoeedohgomodaaGreatDoor
open Go.RowKit Go.Sort
set_option maxRecDepth 100000
theorem znk (x y:Int) (w:World):Calls Tryz.prog 141 #[.agg (Pt.arr ⟨x,y⟩)] w (Ret w (.bool (zdT x y))):=by
  go_enter Tryz.func141,Tryz.ntmps141
  go_wp2
  all_goals (go_ret;exact Ret.bool (by grind [zdT]) (by go_grown))
theorem zoH (lat lon:Int) (w:World):Calls Tryz.prog 206 #[.agg (Pos.arr ⟨lat,lon⟩)] w (Ret w (.bool (zc4 lat lon))):=by
  have kv:=Lib.hid (zgk lat lon)
  have HO:=Lib.hid (show zc4 lat lon=(zih lat lon && (decide (-25200000≤lat) && decide (lat≤25200000))) from rfl)
  generalize zc4 lat lon=out at *
  generalize zih lat lon=b at *
  go_enter Tryz.func206,Tryz.ntmps206
  go_upto_region 1 with (fail)
  have X0:Blk (w.alloc (.cells (Pos.arr ⟨lat,lon⟩) 30)) w.heap.size (Pos.arr ⟨lat,lon⟩):=Blk.new w _ _
  have B0:=(Below.refl w.heap.size w).alloc (Nat.le_refl _) (.cells (Pos.arr ⟨lat,lon⟩) 30)
  generalize w.alloc _=W at X0 B0 ⊢
  obtain ⟨g0,hg0⟩:∃ g,g=w.heap.size:=⟨_,rfl⟩
  rw [← hg0] at X0 ⊢
  clear hg0
  have i1:za3 W g0 0:=⟨_,X0.is_pos⟩
  have i2:zbm W g0 0=⟨lat,lon⟩:=zaH X0.is_pos
  have k0:W.cell? ⟨g0,0,none⟩=some (.int .i64 lat):=X0.cell 0
  have k1:g0 < W.heap.size:=X0.lt
  go_wp2_with (go_at_call 207;(with_reducible refine zaj (kv.out _) ?_);intro w1 b1 _ _ _)
  all_goals first | (go_ret;exact Ret.bool (by rw [HO.out];simp [*] <;> omega) (zaa B0 b1))
end Go.Proofs.YtgoeedohgomodaaGreatDoor
namespace Go.Proofs.YtgoeedohgomodaaGreatDoor
structure DS where
  hi:Nat
  lo:Nat
  qhi:Nat
  qlo:Nat
  r:Nat
def zkF (c:Nat) (s:DS):DS:=
  if s.r / 9223372036854775808=1∨c≤s.r * 2 % 18446744073709551616+s.hi / 9223372036854775808 then
    ⟨s.hi * 2 % 18446744073709551616+s.lo / 9223372036854775808,s.lo * 2 % 18446744073709551616,s.qhi * 2 % 18446744073709551616+s.qlo / 9223372036854775808,s.qlo * 2 % 18446744073709551616+1,(s.r * 2 % 18446744073709551616+s.hi / 9223372036854775808+18446744073709551616 - c) % 18446744073709551616⟩
  else
    ⟨s.hi * 2 % 18446744073709551616+s.lo / 9223372036854775808,s.lo * 2 % 18446744073709551616,s.qhi * 2 % 18446744073709551616+s.qlo / 9223372036854775808,s.qlo * 2 % 18446744073709551616,s.r * 2 % 18446744073709551616+s.hi / 9223372036854775808⟩
def zfX (c:Nat):Nat→DS→DS
  | 0,s=>s
  | n+1,s=>zfX c n (zkF c s)
structure Dn (c m q r:Nat) (s:DS):Prop where
  hi:s.hi < 18446744073709551616
  lo:s.lo < 18446744073709551616
  num:s.hi * 18446744073709551616+s.lo=m
  qlo:s.qlo < 18446744073709551616
  quo:s.qhi * 18446744073709551616+s.qlo=q
  rest:s.r=r
theorem zqa {hi lo:Nat} (h1:hi < 18446744073709551616) (h2:lo < 18446744073709551616):
    hi * 2 % 18446744073709551616+lo / 9223372036854775808 < 18446744073709551616:=by omega
theorem zvu {hi lo W H:Nat} (hH:0 < H) (hW:W=2 * H) (h1:hi < W) (h2:lo < W):
    (hi * 2 % W+lo / H) * W+lo * 2 % W=(hi * W+lo) * 2 % (W * W):=by
  have el:lo * 2=lo / H * W+lo * 2 % W:=by
    have e:=Nat.div_add_mod (lo * 2) W
    have:lo * 2 / W=lo / H:=by
      rw [hW,Nat.mul_comm 2 H,Nat.mul_div_mul_right _ _ (by decide)]
    rw [this,Nat.mul_comm] at e;exact e.symm
  have eh:=Nat.div_add_mod (hi * 2) W
  have:(hi * W+lo) * 2=W * W * (hi * 2 / W)+((hi * 2 % W+lo / H) * W+lo * 2 % W):=by
    have e1:(hi * W+lo) * 2=(hi * 2) * W+lo * 2:=by
      rw [Nat.add_mul,Nat.mul_right_comm]
    rw [e1,Nat.add_mul]
    have e2:hi * 2 * W=W * W * (hi * 2 / W)+hi * 2 % W * W:=by
      have e3:hi * 2 * W=(W * (hi * 2 / W)+hi * 2 % W) * W:=by rw [eh]
      rw [e3,Nat.add_mul]
      congr 1
      rw [Nat.mul_right_comm]
    omega
  rw [this,Nat.mul_add_mod]
  refine (Nat.mod_eq_of_lt ?_).symm
  have hb:hi * 2 % W+lo / H < W:=by
    have h3:hi * 2 % W % 2=0:=by
      rw [hW,Nat.mod_mod_of_dvd _ ⟨H,rfl⟩];omega
    have h4:=Nat.mod_lt (hi * 2) (show 0 < W by omega)
    have h5:lo / H < 2:=by
      rw [Nat.div_lt_iff_lt_mul hH];omega
    omega
  have h6:=Nat.mod_lt (lo * 2) (show 0 < W by omega)
  calc (hi * 2 % W+lo / H) * W+lo * 2 % W < (hi * 2 % W+lo / H) * W+W:=by omega
    _=(hi * 2 % W+lo / H+1) * W:=by rw [Nat.add_mul (hi * 2 % W+lo / H) 1 W,Nat.one_mul]
    _≤W * W:=Nat.mul_le_mul_right _ hb
theorem zjN {hi lo m:Nat} (h1:hi < 18446744073709551616) (h2:lo < 18446744073709551616) (h:hi * 18446744073709551616+lo=m):
    (hi * 2 % 18446744073709551616+lo / 9223372036854775808) * 18446744073709551616+lo * 2 % 18446744073709551616=m * 2 % 340282366920938463463374607431768211456:=by
  subst h
  exact zvu (W:=18446744073709551616) (H:=9223372036854775808) (by decide) (by decide) h1 h2
theorem zn2 {hi lo m:Nat} (h2:lo < 18446744073709551616) (h:hi * 18446744073709551616+lo=m) (hm:m < 170141183460469231731687303715884105728):
    (hi * 2 % 18446744073709551616+lo / 9223372036854775808) * 18446744073709551616+lo * 2 % 18446744073709551616=m * 2:=by
  have h1:hi < 9223372036854775808:=by omega
  rw [zjN (by omega) h2 h]
  exact Nat.mod_eq_of_lt (by omega)
set_option maxRecDepth 100000 in
theorem ztA {c m q r:Nat} {s:DS} (h:Dn c m q r s) (hc:0 < c) (hc63:c≤9223372036854775808) (hr:r < c) (hq:q < 170141183460469231731687303715884105728):
    Dn c (m * 2 % 340282366920938463463374607431768211456) (q * 2+(r * 2+m / 170141183460469231731687303715884105728) / c) ((r * 2+m / 170141183460469231731687303715884105728) % c) (zkF c s):=by
  obtain ⟨h1,h2,h3,h4,h5,h6⟩:=h
  obtain ⟨hi,lo,qhi,qlo,r'⟩:=s
  simp only at h1 h2 h3 h4 h5 h6
  subst h6
  have hb:m / 170141183460469231731687303715884105728=hi / 9223372036854775808:=by omega
  rw [hb]
  have hb2:hi / 9223372036854775808≤1:=by omega
  generalize hbb:hi / 9223372036854775808=b at *
  have ht:r' / 9223372036854775808=0:=by omega
  have hr2:r' * 2 % 18446744073709551616=r' * 2:=by omega
  unfold zkF
  simp only [ht,hr2,hbb]
  by_cases hge:c≤r' * 2+b
  · rw [if_pos (.inr hge)]
    have hd:(r' * 2+b) / c=1:=by
      apply Nat.div_eq_of_lt_le <;> omega
    have hm:(r' * 2+b) % c=r' * 2+b - c:=by
      rw [Nat.mod_eq_sub_mod hge,Nat.mod_eq_of_lt (by omega)]
    rw [hd,hm]
    have mq:=zn2 h4 h5 hq
    have mn:=zjN h1 h2 h3
    have mh:=zqa h1 h2
    refine ⟨mh,Nat.mod_lt _ (by decide),mn,?_,?_,?_⟩
    · show qlo * 2 % 18446744073709551616+1 < 18446744073709551616
      clear mq mn mh;omega
    · show (qhi * 2 % 18446744073709551616+qlo / 9223372036854775808) * 18446744073709551616+(qlo * 2 % 18446744073709551616+1)=q * 2+1
      rw [← Nat.add_assoc,mq]
    · show (r' * 2+b+18446744073709551616 - c) % 18446744073709551616=r' * 2+b - c
      clear mq mn mh h1 h2 h3 h4 h5 hq;omega
  · rw [if_neg (by omega)]
    have hd:(r' * 2+b) / c=0:=Nat.div_eq_of_lt (by omega)
    have hm:(r' * 2+b) % c=r' * 2+b:=Nat.mod_eq_of_lt (by omega)
    rw [hd,hm]
    have mq:=zn2 h4 h5 hq
    have mn:=zjN h1 h2 h3
    have mh:=zqa h1 h2
    exact ⟨mh,Nat.mod_lt _ (by decide),mn,Nat.mod_lt _ (by decide),mq,rfl⟩
structure Di (N c i:Nat) (s:DS):Prop where
  dn:Dn c (N * 2 ^ i % 2 ^ 128) (N / 2 ^ (128 - i) / c) (N / 2 ^ (128 - i) % c) s
theorem zxN {N i k:Nat} (h:i+k=127):(N * 2 ^ i % 2 ^ 128) / 2 ^ 127=N / 2 ^ k % 2:=by
  have e1:(2:Nat) ^ 128=2 ^ 127 * 2:=by decide
  rw [e1,Nat.mod_mul_right_div_self]
  congr 1
  rw [← h,Nat.pow_add,Nat.mul_comm N,Nat.mul_div_mul_left _ _ (Nat.pow_pos (by decide))]
theorem zwV {N c i:Nat} {s:DS} (hN:N < 2 ^ 128) (hc:0 < c) (hc63:c≤9223372036854775808) (hi:i < 128) (h:Di N c i s):Di N c (i+1) (zkF c s):=by
  have hr:N / 2 ^ (128 - i) % c < c:=Nat.mod_lt _ hc
  have hP:N / 2 ^ (128 - i) < 2 ^ i:=by
    rw [Nat.div_lt_iff_lt_mul (Nat.pow_pos (by decide)),← Nat.pow_add,show i+(128 - i)=128 by omega];exact hN
  have hq:N / 2 ^ (128 - i) / c < 170141183460469231731687303715884105728:=by
    have h1:N / 2 ^ (128 - i) / c≤N / 2 ^ (128 - i):=Nat.div_le_self _ _
    have h2:(2:Nat) ^ i≤2 ^ 127:=Nat.pow_le_pow_right (by decide) (by omega)
    have h3:(2:Nat) ^ 127=170141183460469231731687303715884105728:=by decide
    omega
  have:=ztA h.dn hc hc63 hr hq
  have e127:(170141183460469231731687303715884105728:Nat)=2 ^ 127:=by decide
  have e128:(340282366920938463463374607431768211456:Nat)=2 ^ 128:=by decide
  rw [e127,e128,zxN (show i+(127 - i)=127 by omega)] at this
  have hPP:N / 2 ^ (127 - i)=2 * (N / 2 ^ (128 - i))+N / 2 ^ (127 - i) % 2:=by
    have:N / 2 ^ (128 - i)=N / 2 ^ (127 - i) / 2:=by
      rw [show 128 - i=(127 - i)+1 by omega,Nat.pow_succ,Nat.div_div_eq_div_mul]
    rw [this];omega
  refine ⟨?_⟩
  have e1:N * 2 ^ (i+1) % 2 ^ 128=N * 2 ^ i % 2 ^ 128 * 2 % 2 ^ 128:=by
    rw [Nat.pow_succ,← Nat.mul_assoc,Nat.mod_mul_mod]
  have e2:128 - (i+1)=127 - i:=by omega
  rw [e1,e2]
  generalize N / 2 ^ (127 - i) % 2=b at *
  generalize N / 2 ^ (128 - i)=P at *
  rw [hPP]
  have hd:=Nat.div_add_mod P c
  have f1:(2 * P+b) / c=P / c * 2+(P % c * 2+b) / c:=by
    have:2 * P+b=c * (P / c * 2)+(P % c * 2+b):=by
      have e:c * (P / c * 2)=2 * (c * (P / c)):=by rw [← Nat.mul_assoc,Nat.mul_comm _ 2]
      rw [e];omega
    rw [this,Nat.mul_add_div hc]
  have f2:(2 * P+b) % c=(P % c * 2+b) % c:=by
    have:2 * P+b=c * (P / c * 2)+(P % c * 2+b):=by
      have e:c * (P / c * 2)=2 * (c * (P / c)):=by rw [← Nat.mul_assoc,Nat.mul_comm _ 2]
      rw [e];omega
    rw [this,Nat.mul_add_mod]
  rw [f1,f2]
  exact this
theorem zwU {hi lo c:Nat} (h1:hi < 18446744073709551616) (h2:lo < 18446744073709551616) (hc:0 < c):Di (hi * 18446744073709551616+lo) c 0 ⟨hi,lo,0,0,0⟩:=by
  have hN:hi * 18446744073709551616+lo < 2 ^ 128:=by
    have:(2:Nat) ^ 128=340282366920938463463374607431768211456:=by decide
    omega
  refine ⟨?_⟩
  rw [Nat.pow_zero,Nat.mul_one,Nat.mod_eq_of_lt hN,Nat.sub_zero,Nat.div_eq_of_lt hN]
  exact ⟨h1,h2,rfl,by simp,by simp,by simp⟩
theorem ztC {N c:Nat} (hN:N < 2 ^ 128) (hc:0 < c) (hc63:c≤9223372036854775808):∀ (n i:Nat) (s:DS),i+n=128→Di N c i s→Di N c 128 (zfX c n s)
  | 0,i,s,h,hd=>by obtain rfl:i=128:=by omega
                   exact hd
  | n+1,i,s,h,hd=>ztC hN hc hc63 n (i+1) (zkF c s) (by omega) (zwV hN hc hc63 (by omega) hd)
theorem ztB {hi lo c:Nat} (h1:hi < 18446744073709551616) (h2:lo < 18446744073709551616) (hc:0 < c) (hc63:c≤9223372036854775808):
    (zfX c 128 ⟨hi,lo,0,0,0⟩).qhi * 18446744073709551616+(zfX c 128 ⟨hi,lo,0,0,0⟩).qlo=(hi * 18446744073709551616+lo) / c∧(zfX c 128 ⟨hi,lo,0,0,0⟩).qlo < 18446744073709551616∧(zfX c 128 ⟨hi,lo,0,0,0⟩).r=(hi * 18446744073709551616+lo) % c:=by
  have hN:hi * 18446744073709551616+lo < 2 ^ 128:=by
    have:(2:Nat) ^ 128=340282366920938463463374607431768211456:=by decide
    omega
  have h:=(ztC hN hc hc63 128 0 _ rfl (zwU h1 h2 hc)).dn
  rw [Nat.sub_self,Nat.pow_zero,Nat.div_one] at h
  exact ⟨h.quo,h.qlo,h.rest⟩
theorem or_bit {x b W H:Nat} (hW:W=2 * H) (hb:b < 2):(x * 2 % W) ||| b=x * 2 % W+b:=by
  have e:x * 2 % W=2 ^ 1 * (x % H):=by
    rw [hW,Nat.mul_comm x 2,Nat.mul_mod_mul_left,Nat.pow_one]
  rw [e]
  exact (Nat.two_pow_add_eq_or_of_lt (i:=1) hb _).symm
theorem or_one {x W H:Nat} (hW:W=2 * H):(x * 2 % W) ||| 1=x * 2 % W+1:=or_bit hW (by decide)
theorem zwF {x y:Nat} (hy:y < 4294967296):(x * 4294967296) ||| y=x * 4294967296+y:=by
  have:=Nat.two_pow_add_eq_or_of_lt (i:=32) (b:=y) (by omega) x
  rw [show (2:Nat) ^ 32=4294967296 by decide,Nat.mul_comm] at this
  exact this.symm
theorem zpi {N c:Nat} (hN:N < 18446744073709551616) (hc:0 < c) (hc63:c≤9223372036854775808):
    (zfX c 128 ⟨0,N,0,0,0⟩).qhi=0∧(zfX c 128 ⟨0,N,0,0,0⟩).qlo=N / c∧(zfX c 128 ⟨0,N,0,0,0⟩).r=N % c:=by
  obtain ⟨h1,h2,h3⟩:=ztB (hi:=0) (lo:=N) (by decide) hN hc hc63
  rw [Nat.zero_mul,Nat.zero_add] at h1 h3
  have:N / c≤N:=Nat.div_le_self _ _
  refine ⟨by omega,by omega,h3⟩
end Go.Proofs.YtgoeedohgomodaaGreatDoor
namespace Go.Proofs.YtgoeedohgomodaaGreatDoor
open Go.RowKit
def zkE:List Entry→List Entry→Bool
  | [],[]=>true
  | x :: a,y :: b=>x.eqB y && zkE a b
  | _,_=>false
theorem zmB:∀ {a b:List Entry},¬ a.length=b.length→zkE a b=false
  | [],[],h=>by simp at h
  | [],_ :: _,_=>rfl
  | _ :: _,[],_=>rfl
  | x :: a,y :: b,h=>by simp [zkE];intro _;exact zmB (by simpa using h)
theorem zp7:∀ (a b:List Entry),zkE a b=true ↔ a=b
  | [],[]=>by simp [zkE]
  | [],_ :: _=>by simp [zkE]
  | _ :: _,[]=>by simp [zkE]
  | x :: a,y :: b=>by simp [zkE,Entry.eqB_iff,zp7 a b]
set_option maxHeartbeats 2000000 in
set_option maxRecDepth 100000 in
theorem ztz (a b:List Entry) (A B:Option Addr) (ca cb:Nat) (w:World) (hla:a.length≤4000000000) (hlb:b.length≤4000000000) (hca:a.length≤ca) (hcb:b.length≤cb) (ha:Ents w A a) (hb:Ents w B b):
    Calls Tryz.prog 45 #[.slice A a.length ca, .slice B b.length cb] w (RetQ w (.bool (zkE a b))):=by
  by_cases hl:a.length=b.length
  · have h1:((a.length:Int) != (b.length:Int))=false:=by simp [hl]
    have HL:=Lib.hid hl;clear hl
    go_enter Tryz.func45,Tryz.ntmps45
    go_wp2
    go_loopw [13] (fun i wr=>∃ k:Nat,k≤a.length∧i=.int .i64 k∧zkE a b=zkE (a.drop k) (b.drop k)∧∃ n,wr=w.drewN n) (fun i _=>a.length - (intOf i).toNat)
    case atStart=>exact ⟨0,by omega,rfl,rfl,0,rfl⟩
    case round=>
      obtain ⟨k,hk,rfl,hq,n,rfl⟩:=hrel
      have HQ:=Lib.hid hq;clear hq
      by_cases hlt:k < a.length
      · have hlt2:k < b.length:=by have:=HL.out;omega
        obtain ⟨b1,o1,hA,hb1,he1⟩:=ha.get hlt
        obtain ⟨b2,o2,hB,hb2,he2⟩:=hb.get hlt2
        subst hA hB
        have hda:=Lib.hid (List.drop_eq_getElem_cons hlt)
        have hdb:=Lib.hid (List.drop_eq_getElem_cons hlt2)
        generalize a[k]=x at he1 hda
        generalize b[k]=y at he2 hdb
        have i1:za4 w b1 (o1+k * 20):=⟨x,he1⟩
        have i2:za4 w b2 (o2+k * 20):=⟨y,he2⟩
        have j1:zbE w b1 (o1+k * 20)=x:=zaS he1
        have j2:zbE w b2 (o2+k * 20)=y:=zaS he2
        have hne:=zgj x y
        clear he1 he2 ha hb
        go_wp2
        go_quiet (fail)
        go_wp2
        · go_ret
          exact RetQ.bool (by rw [HQ.out,hda.out,hdb.out];go_light;simp_all [zkE]) ⟨n+nq,World.drewN_drewN _ _ _⟩
        · go_roundw
          case rel=>exact ⟨k+1,by omega,by go_num,by rw [HQ.out,hda.out,hdb.out];go_light;simp_all [zkE],_,rfl⟩
          case measure=>simp [intOf];omega
      · go_wp2
        go_ret
        exact RetQ.bool (by rw [HQ.out,List.drop_of_length_le (by omega),List.drop_of_length_le (by have:=HL.out;omega)];rfl) ⟨_,rfl⟩
  · have h1:((a.length:Int) != (b.length:Int))=true:=by simp;omega
    have HL:=Lib.hid hl;clear hl
    go_enter Tryz.func45,Tryz.ntmps45
    go_wp2
    go_ret
    exact RetQ.bool (zmB HL.out).symm ⟨0,rfl⟩
set_option maxHeartbeats 2000000 in
set_option maxRecDepth 100000 in
theorem zqz (a b:List Entry) (A B:Option Addr) (ca cb:Nat) (w:World) (hla:a.length≤4000000000) (hlb:b.length≤4000000000) (hca:a.length≤ca) (hcb:b.length≤cb) (ha:Ents w A a) (hb:Ents w B b):
    Calls Tryz.prog 58 #[.slice A a.length ca, .slice B b.length cb] w (RetQ w (.bool (zkE a b))):=by
  by_cases hl:a.length=b.length
  · have h1:((a.length:Int) != (b.length:Int))=false:=by simp [hl]
    have HL:=Lib.hid hl;clear hl
    go_enter Tryz.func58,Tryz.ntmps58
    go_wp2
    go_loopw [13] (fun i wr=>∃ k:Nat,k≤a.length∧i=.int .i64 k∧zkE a b=zkE (a.drop k) (b.drop k)∧∃ n,wr=w.drewN n) (fun i _=>a.length - (intOf i).toNat)
    case atStart=>exact ⟨0,by omega,rfl,rfl,0,rfl⟩
    case round=>
      obtain ⟨k,hk,rfl,hq,n,rfl⟩:=hrel
      have HQ:=Lib.hid hq;clear hq
      by_cases hlt:k < a.length
      · have hlt2:k < b.length:=by have:=HL.out;omega
        obtain ⟨b1,o1,hA,hb1,he1⟩:=ha.get hlt
        obtain ⟨b2,o2,hB,hb2,he2⟩:=hb.get hlt2
        subst hA hB
        have hda:=Lib.hid (List.drop_eq_getElem_cons hlt)
        have hdb:=Lib.hid (List.drop_eq_getElem_cons hlt2)
        generalize a[k]=x at he1 hda
        generalize b[k]=y at he2 hdb
        have i1:za4 w b1 (o1+k * 20):=⟨x,he1⟩
        have i2:za4 w b2 (o2+k * 20):=⟨y,he2⟩
        have j1:zbE w b1 (o1+k * 20)=x:=zaS he1
        have j2:zbE w b2 (o2+k * 20)=y:=zaS he2
        have hne:=zgj x y
        clear he1 he2 ha hb
        go_wp2
        go_quiet (fail)
        go_wp2
        · go_ret
          exact RetQ.bool (by rw [HQ.out,hda.out,hdb.out];go_light;simp_all [zkE]) ⟨n+nq,World.drewN_drewN _ _ _⟩
        · go_roundw
          case rel=>exact ⟨k+1,by omega,by go_num,by rw [HQ.out,hda.out,hdb.out];go_light;simp_all [zkE],_,rfl⟩
          case measure=>simp [intOf];omega
      · go_wp2
        go_ret
        exact RetQ.bool (by rw [HQ.out,List.drop_of_length_le (by omega),List.drop_of_length_le (by have:=HL.out;omega)];rfl) ⟨_,rfl⟩
  · have h1:((a.length:Int) != (b.length:Int))=true:=by simp;omega
    have HL:=Lib.hid hl;clear hl
    go_enter Tryz.func58,Tryz.ntmps58
    go_wp2
    go_ret
    exact RetQ.bool (zmB HL.out).symm ⟨0,rfl⟩
end Go.Proofs.YtgoeedohgomodaaGreatDoor
namespace Go.Proofs.YtgoeedohgomodaaGreatDoor
open Go.RowKit Go.Sort
set_option maxRecDepth 100000
set_option maxHeartbeats 2000000 in
theorem zhp (a:AwyV) (cs:Array Value) (r:List UInt8) (w:World) (h:AwyAt w cs a) (hn:a.pts.length≤4000000000):
    Calls Tryz.prog 178 #[.agg cs, .string ⟨r.toArray⟩] w (Ret w (.int .i64 (zbT r a.pts 0))):=by
  obtain ⟨A,c,rfl,hlc,hI⟩:=h.ex
  go_enter Tryz.func178,Tryz.ntmps178
  go_upto_region 1 with (fail)
  have X0:=Blk.new w (zao a A c) 81
  have B0:=zad w (.cells (zao a A c) 81)
  generalize w.alloc _=W at X0 B0 ⊢
  generalize w.heap.size=g0 at X0 ⊢
  have c1:W.cell? ⟨g0,1,none⟩=some (.slice A a.pts.length c):=X0.cell 1
  have HI:=Lib.hid (fun (W':World) (B:Below W.heap.size W W')=>hI.below (zaa B0 B))
  have HB:=Lib.hid B0
  have HLC:=Lib.hid hlc
  clear X0 B0 hI h hlc
  go_wp2
  clear c1
  go_loopw [10] (fun iv wr=>∃ k:Nat,k≤a.pts.length∧iv=.int .i64 k∧zbT r a.pts 0=zbT r (a.pts.drop k) k∧Below W.heap.size W wr) (fun iv _=>a.pts.length - (intOf iv).toNat)
  case atStart=>exact ⟨0,by omega,rfl,rfl,Below.refl _ _⟩
  case round=>
    obtain ⟨k,hk,rfl,hf,BW⟩:=hrel
    have HF:=Lib.hid hf
    clear hf
    by_cases hlt:k < a.pts.length
    · obtain ⟨b,off,hA,hb,_⟩:=(HI.out wr BW).get (k:=k) (by simpa using hlt)
      have hx:=ze6 (by have:=HI.out wr BW;rw [hA] at this;exact this) (Below.refl _ _) hlt
      have HD:=Lib.hid (show zbT r a.pts 0=if a.pts[k].ref == r then (k:Int) else zbT r (a.pts.drop (k+1)) (k+1) by rw [HF.out,List.drop_eq_getElem_cons hlt];rfl)
      generalize a.pts[k]=f at HD hx
      subst hA
      have i1:zed wr b (off+k * 4):=⟨_,hx⟩
      have i2:zd6 wr b (off+k * 4)=f:=zdF hx
      have hlt':(k:Int) < (a.pts.length:Int):=by omega
      have hkc:k < c:=by have:=HLC.out;omega
      clear hx HF
      go_upto_region 4 with (fail)
      have Z:=Blk.new wr f.arr 107
      have D:=zaa BW (zad wr (.cells f.arr 107))
      clear i1 i2
      generalize wr.alloc _=W5 at Z D ⊢
      generalize wr.heap.size=g7 at Z ⊢
      have z0:W5.cell? ⟨g7,0,none⟩=some (.string ⟨f.ref.toArray⟩):=Z.cell 0
      by_cases hm:f.ref=r
      · have e1:(f.ref == r)=true:=by simpa using hm
        have HO:=Lib.hid (show zbT r a.pts 0=(k:Int) from HD.out.trans (if_pos e1))
        clear hm HD
        go_wp2
        go_ret
        exact Ret.int HO.out.symm (zaa HB.out D)
      · have e1:(f.ref == r)=false:=by simpa using hm
        have HD:=Lib.hid (show zbT r a.pts 0=zbT r (a.pts.drop (k+1)) (k+1) from HD.out.trans (if_neg (by rw [e1];decide)))
        clear hm
        go_wp2
        go_roundw
        case rel=>exact ⟨k+1,by omega,by go_num,HD.out,D⟩
        case measure=>simp [intOf];omega
    · have hlt':¬ (k:Int) < (a.pts.length:Int):=by omega
      have HO:=Lib.hid (show zbT r a.pts 0=-1 by rw [HF.out,List.drop_of_length_le (by omega)];rfl)
      clear HF
      go_wp2
      go_ret
      exact Ret.int HO.out.symm (zaa HB.out BW)
def zun (w:World) (r:AwyV × Int) (e:Ending) (w':World):Prop:=∃ cs,e=.returned (.tuple #[.agg cs, .int .i64 r.2])∧AwyAt w' cs r.1∧Below w.heap.size w w'
theorem zmJ {P:Program} {f:FuncId} {args:Array Value} {W:World} {r:AwyV × Int} {K:Ending→World→Prop} (h:Calls P f args W (zun W r))
    (k:∀ cs w',AwyAt w' cs r.1→Below W.heap.size W w'→K (.returned (.tuple #[.agg cs, .int .i64 r.2])) w'):Calls P f args W K:=
  h.mono fun e w' ⟨cs,he,h1,h2⟩=>by subst he;exact k cs w' h1 h2
attribute [local go_sem ↓] zde
attribute [local go_sem] zd4 zcG zdJ zcH zb0
set_option maxHeartbeats 4000000 in
theorem zje (cs:Array Value) (l:List AwyV) (A:Option Addr) (c:Nat) (h7:cs[7]? = some (.slice A l.length c)) (hlc:l.length≤c) (hn:l.length≤9000000000) (n:List UInt8) (w:World) (hA:AwysAt w A l):
    Calls Tryz.prog 84 #[.agg cs, .string ⟨n.toArray⟩] w (zun w (zcc l n)):=by
  go_enter Tryz.func84,Tryz.ntmps84
  go_upto_region 1 with (fail)
  have X0:Blk (w.alloc (.cells cs 37)) w.heap.size cs:=Blk.new w _ _
  have B0:=zad w (.cells cs 37)
  have hsz:(w.alloc (.cells cs 37)).heap.size=w.heap.size+1:=World.size_alloc _ _
  generalize w.alloc _=W0 at X0 B0 hsz ⊢
  rw [← hsz]
  have Y1:Blk (W0.alloc (.cells (zao zcg none 0) 81)) W0.heap.size (zao zcg none 0):=Blk.new W0 _ _
  have B1:=zaa B0 (zad W0 (.cells (zao zcg none 0) 81))
  have X1:=X0.alloc (.cells (zao zcg none 0) 81)
  have hgle:w.heap.size≤W0.heap.size:=B0.size
  generalize hW:W0.alloc _=W
  have hE:W0.alloc (.cells (zao zcg none 0) 81)=W:=hW
  rw [hE] at Y1 B1 X1
  clear hW hE
  generalize W0.heap.size=g1 at Y1 hgle ⊢
  generalize w.heap.size=g0 at X1 ⊢
  have k7:W.cell? ⟨g0,7,none⟩=some (.slice A l.length c):=(X1.cell 7).trans h7
  have HA:=Lib.hid hA
  have HF:=Lib.hid (show zcc l n=(match zaU n l with | none=>(zcg,6) | some a=>(a,0)) from rfl)
  have HY:=Lib.hid Y1
  have HB:=Lib.hid B1
  have B1s:=Lib.hid B1.size
  have HLC:=Lib.hid hlc
  clear X0 hsz h7 X1 B0 hA Y1 B1
  go_wp2
  clear k7
  go_loopw [11] (fun iv wr=>∃ k:Nat,k≤l.length∧iv=.int .i64 k∧zaU n l=zaU n (l.drop k)∧Below W.heap.size W wr) (fun iv _=>l.length - (intOf iv).toNat)
  case atStart=>exact ⟨0,by omega,rfl,rfl,Below.refl _ _⟩
  case round=>
    obtain ⟨k,hk,rfl,hf,BW⟩:=hrel
    have HG:=Lib.hid hf
    clear hf
    by_cases hlt:k < l.length
    · obtain ⟨b,off,cs',hAe,hb,hIs0,hAt0⟩:=HA.out.get (Below.refl _ _) hlt
      have hIs:zlC wr b (off+k * 2) cs':=⟨hIs0.1,fun j hj=>by rw [(zaa HB.out BW).cell (p:=⟨b,_,none⟩) hb];exact hIs0.2 j hj⟩
      obtain ⟨A2,c2,rfl,hl2,_⟩:=id hAt0.ex
      have HD:=Lib.hid (show zaU n l=if l[k].name == n then some l[k] else zaU n (l.drop (k+1)) by rw [HG.out,List.drop_eq_getElem_cons hlt];rfl)
      clear HG hIs0
      generalize l[k]=a at *
      subst hAe
      have i1:zce wr b (off+k * 2):=⟨_,hIs⟩
      have i2:zcz wr b (off+k * 2)=zao a A2 c2:=zby hIs
      have hlt':(k:Int) < (l.length:Int):=by omega
      have hkc:k < c:=by have:=HLC.out;omega
      go_upto_region 4 with (fail)
      have Z:=Blk.new wr (zao a A2 c2) 81
      have D:=zad wr (.cells (zao a A2 c2) 81)
      have hgw:g1 < wr.heap.size:=Nat.lt_of_lt_of_le HY.out.lt BW.size
      have hWw:W.heap.size≤wr.heap.size:=BW.size
      clear i1 i2 hIs hb
      generalize wr.alloc _=W2 at Z D ⊢
      obtain ⟨g7,hg7⟩:∃ g,g=wr.heap.size:=⟨_,rfl⟩
      rw [← hg7] at Z ⊢
      have hne:g7 ≠ g1:=by omega
      have h7W:W.heap.size≤g7:=by omega
      have h7r:wr.heap.size≤g7:=by omega
      have h71:g1 < g7:=by omega
      clear hg7 hgw hWw
      have z0:W2.cell? ⟨g7,0,none⟩=some (.string ⟨a.name.toArray⟩):=Z.cell 0
      have z1:W2.cell? ⟨g7,1,none⟩=some (.slice A2 a.pts.length c2):=Z.cell 1
      by_cases hnm:a.name=n
      · have h1:(a.name == n)=true:=by simpa using hnm
        have HO:=Lib.hid (show zcc l n=(a,0) by rw [HF.out,HD.out,if_pos h1])
        clear HD hnm
        have i1:zce W2 g7 0:=⟨_,Z.is_awy rfl⟩
        have i2:zcz W2 g7 0=zao a A2 c2:=zby (Z.is_awy rfl)
        have Y4:=(HY.out.step BW).step D
        have B4:=zaa (zaa HB.out BW) D
        have d2:=Y4.plain
        have d3:=Y4.of
        clear z1 Z D
        go_wp2
        exact bodyPost_ret (zal Tryz.results84 _ _ g1 (zao a A2 c2) 2 _ rfl rfl (Y4.set _).cell Tryz.underlying81 rfl zel) rfl ⟨_,by rw [HO.out];rfl,by rw [HO.out];exact hAt0.below (zab B4 hgle _),zab B4 hgle _⟩
      · have h1:(a.name == n)=false:=by simpa using hnm
        have HD:=Lib.hid (show zaU n l=zaU n (l.drop (k+1)) by rw [HD.out,h1];rfl)
        clear hnm
        go_wp2
        go_roundw
        case rel=>exact ⟨k+1,by omega,by go_num,HD.out,zaa BW D⟩
        case measure=>simp [intOf];omega
    · have HO:=Lib.hid (show zcc l n=(zcg,6) by rw [HF.out,HG.out,List.drop_of_length_le (by omega)];rfl)
      have hlt':¬ (k:Int) < (l.length:Int):=by omega
      have Y2:=HY.out.step BW
      have d2:=Y2.plain
      have d3:=Y2.of
      have B2:=zaa HB.out BW
      clear hlt
      go_wp2
      exact bodyPost_ret (zal Tryz.results84 _ _ g1 (zao zcg none 0) 2 _ rfl rfl (Y2.set _).cell Tryz.underlying81 rfl zel) rfl ⟨_,by rw [HO.out];rfl,by rw [HO.out];exact (AwyFar.no _ 0).at_,zab B2 hgle _⟩
end Go.Proofs.YtgoeedohgomodaaGreatDoor
namespace Go.Proofs.YtgoeedohgomodaaGreatDoor
open Go.RowKit Go.Sort
set_option maxRecDepth 100000
def zga (k:Int):List Int:=if k=2 then [3,2,1] else if k=3 then [3,2,4] else [1,2,3]
def zku (pk k:Int):Int:=zdk k (zga pk) 0+1
theorem zuW {pk:Int} (h:pk=1∨pk=2∨pk=3) (k:Int):zku pk k=zee pk k+1:=by
  rcases h with rfl | rfl | rfl <;> rfl
theorem zqP (pk k:Int):zku pk k=if (zga pk).getD 0 0=k then 1 else if (zga pk).getD 1 0=k then 2 else if (zga pk).getD 2 0=k then 3 else 0:=by
  unfold zku zga
  split
  · simp only [zdk,List.getD_cons_zero,List.getD_cons_succ,beq_iff_eq];split <;> (try rfl) <;> (split <;> (try rfl) <;> (split <;> rfl))
  · split
    · simp only [zdk,List.getD_cons_zero,List.getD_cons_succ,beq_iff_eq];split <;> (try rfl) <;> (split <;> (try rfl) <;> (split <;> rfl))
    · simp only [zdk,List.getD_cons_zero,List.getD_cons_succ,beq_iff_eq];split <;> (try rfl) <;> (split <;> (try rfl) <;> (split <;> rfl))
theorem zoO (pk k t:Int) (w:World):Calls Tryz.prog 215 #[.int .u8 pk, .int .u8 k, .int .u8 t] w (RetP w (.bool (zfr pk k t))):=by
  have HO:=Lib.hid (show zfr pk k t=(((k == 4 || (k == 1 && pk == 1)) && (t == 3 || t == 4 || t == 7 || t == 8 || t == 10)) || t == 1) from rfl)
  generalize zfr pk k t=out at HO ⊢
  obtain ⟨a1,h1⟩:∃ a,(t == 1)=a:=⟨_,rfl⟩
  obtain ⟨a2,h2⟩:∃ a,(pk == 1)=a:=⟨_,rfl⟩
  obtain ⟨a3,h3⟩:∃ a,(k == 1)=a:=⟨_,rfl⟩
  obtain ⟨a4,h4⟩:∃ a,(k == 4)=a:=⟨_,rfl⟩
  have HO:=Lib.hid (show out=(((a4 || (a3 && a2)) && (t == 3 || t == 4 || t == 7 || t == 8 || t == 10)) || a1) by rw [HO.out,h1,h2,h3,h4])
  go_enter Tryz.func215,Tryz.ntmps215
  cases a1 with
  | true=>
    clear h2 h3 h4
    go_wp2
    go_ret
    exact ⟨by rw [HO.out];simp,rfl⟩
  | false=>
    obtain ⟨b1,g1⟩:∃ a,(t == 3)=a:=⟨_,rfl⟩
    obtain ⟨b2,g2⟩:∃ a,(t == 4)=a:=⟨_,rfl⟩
    obtain ⟨b3,g3⟩:∃ a,(t == 7)=a:=⟨_,rfl⟩
    obtain ⟨b4,g4⟩:∃ a,(t == 8)=a:=⟨_,rfl⟩
    obtain ⟨b5,g5⟩:∃ a,(t == 10)=a:=⟨_,rfl⟩
    have HO:=Lib.hid (show out=((a4 || (a3 && a2)) && (b1 || b2 || b3 || b4 || b5)) by rw [HO.out,g1,g2,g3,g4,g5];simp)
    cases a4 with
    | true=>
      cases a3 with
      | true=>
        cases a2 with
        | true=>
          have HO:=Lib.hid (show out=(b1 || b2 || b3 || b4 || b5) by rw [HO.out];rfl)
          cases b1 with
          | true=>
            have HO:=Lib.hid (show out=true by rw [HO.out];simp)
            clear g2 g3 g4 g5
            go_wp2
            go_ret
            exact ⟨by rw [HO.out];rfl,rfl⟩
          | false=>
            cases b2 with
            | true=>
              have HO:=Lib.hid (show out=true by rw [HO.out];simp)
              clear g3 g4 g5
              go_wp2
              go_ret
              exact ⟨by rw [HO.out];rfl,rfl⟩
            | false=>
              cases b3 with
              | true=>
                have HO:=Lib.hid (show out=true by rw [HO.out];simp)
                clear g4 g5
                go_wp2
                go_ret
                exact ⟨by rw [HO.out];rfl,rfl⟩
              | false=>
                cases b4 with
                | true=>
                  have HO:=Lib.hid (show out=true by rw [HO.out];simp)
                  clear g5
                  go_wp2
                  go_ret
                  exact ⟨by rw [HO.out];rfl,rfl⟩
                | false=>
                  cases b5 with
                  | true=>
                    have HO:=Lib.hid (show out=true by rw [HO.out];simp)
                    go_wp2
                    go_ret
                    exact ⟨by rw [HO.out];rfl,rfl⟩
                  | false=>
                    go_wp2
                    go_ret
                    exact ⟨by rw [HO.out];rfl,rfl⟩
        | false=>
          have HO:=Lib.hid (show out=(b1 || b2 || b3 || b4 || b5) by rw [HO.out];rfl)
          cases b1 with
          | true=>
            have HO:=Lib.hid (show out=true by rw [HO.out];simp)
            clear g2 g3 g4 g5
            go_wp2
            go_ret
            exact ⟨by rw [HO.out];rfl,rfl⟩
          | false=>
            cases b2 with
            | true=>
              have HO:=Lib.hid (show out=true by rw [HO.out];simp)
              clear g3 g4 g5
              go_wp2
              go_ret
              exact ⟨by rw [HO.out];rfl,rfl⟩
            | false=>
              cases b3 with
              | true=>
                have HO:=Lib.hid (show out=true by rw [HO.out];simp)
                clear g4 g5
                go_wp2
                go_ret
                exact ⟨by rw [HO.out];rfl,rfl⟩
              | false=>
                cases b4 with
                | true=>
                  have HO:=Lib.hid (show out=true by rw [HO.out];simp)
                  clear g5
                  go_wp2
                  go_ret
                  exact ⟨by rw [HO.out];rfl,rfl⟩
                | false=>
                  cases b5 with
                  | true=>
                    have HO:=Lib.hid (show out=true by rw [HO.out];simp)
                    go_wp2
                    go_ret
                    exact ⟨by rw [HO.out];rfl,rfl⟩
                  | false=>
                    go_wp2
                    go_ret
                    exact ⟨by rw [HO.out];rfl,rfl⟩
      | false=>
        cases a2 with
        | true=>
          have HO:=Lib.hid (show out=(b1 || b2 || b3 || b4 || b5) by rw [HO.out];rfl)
          cases b1 with
          | true=>
            have HO:=Lib.hid (show out=true by rw [HO.out];simp)
            clear g2 g3 g4 g5
            go_wp2
            go_ret
            exact ⟨by rw [HO.out];rfl,rfl⟩
          | false=>
            cases b2 with
            | true=>
              have HO:=Lib.hid (show out=true by rw [HO.out];simp)
              clear g3 g4 g5
              go_wp2
              go_ret
              exact ⟨by rw [HO.out];rfl,rfl⟩
            | false=>
              cases b3 with
              | true=>
                have HO:=Lib.hid (show out=true by rw [HO.out];simp)
                clear g4 g5
                go_wp2
                go_ret
                exact ⟨by rw [HO.out];rfl,rfl⟩
              | false=>
                cases b4 with
                | true=>
                  have HO:=Lib.hid (show out=true by rw [HO.out];simp)
                  clear g5
                  go_wp2
                  go_ret
                  exact ⟨by rw [HO.out];rfl,rfl⟩
                | false=>
                  cases b5 with
                  | true=>
                    have HO:=Lib.hid (show out=true by rw [HO.out];simp)
                    go_wp2
                    go_ret
                    exact ⟨by rw [HO.out];rfl,rfl⟩
                  | false=>
                    go_wp2
                    go_ret
                    exact ⟨by rw [HO.out];rfl,rfl⟩
        | false=>
          have HO:=Lib.hid (show out=(b1 || b2 || b3 || b4 || b5) by rw [HO.out];rfl)
          cases b1 with
          | true=>
            have HO:=Lib.hid (show out=true by rw [HO.out];simp)
            clear g2 g3 g4 g5
            go_wp2
            go_ret
            exact ⟨by rw [HO.out];rfl,rfl⟩
          | false=>
            cases b2 with
            | true=>
              have HO:=Lib.hid (show out=true by rw [HO.out];simp)
              clear g3 g4 g5
              go_wp2
              go_ret
              exact ⟨by rw [HO.out];rfl,rfl⟩
            | false=>
              cases b3 with
              | true=>
                have HO:=Lib.hid (show out=true by rw [HO.out];simp)
                clear g4 g5
                go_wp2
                go_ret
                exact ⟨by rw [HO.out];rfl,rfl⟩
              | false=>
                cases b4 with
                | true=>
                  have HO:=Lib.hid (show out=true by rw [HO.out];simp)
                  clear g5
                  go_wp2
                  go_ret
                  exact ⟨by rw [HO.out];rfl,rfl⟩
                | false=>
                  cases b5 with
                  | true=>
                    have HO:=Lib.hid (show out=true by rw [HO.out];simp)
                    go_wp2
                    go_ret
                    exact ⟨by rw [HO.out];rfl,rfl⟩
                  | false=>
                    go_wp2
                    go_ret
                    exact ⟨by rw [HO.out];rfl,rfl⟩
    | false=>
      cases a3 with
      | true=>
        cases a2 with
        | true=>
          have HO:=Lib.hid (show out=(b1 || b2 || b3 || b4 || b5) by rw [HO.out];rfl)
          cases b1 with
          | true=>
            have HO:=Lib.hid (show out=true by rw [HO.out];simp)
            clear g2 g3 g4 g5
            go_wp2
            go_ret
            exact ⟨by rw [HO.out];rfl,rfl⟩
          | false=>
            cases b2 with
            | true=>
              have HO:=Lib.hid (show out=true by rw [HO.out];simp)
              clear g3 g4 g5
              go_wp2
              go_ret
              exact ⟨by rw [HO.out];rfl,rfl⟩
            | false=>
              cases b3 with
              | true=>
                have HO:=Lib.hid (show out=true by rw [HO.out];simp)
                clear g4 g5
                go_wp2
                go_ret
                exact ⟨by rw [HO.out];rfl,rfl⟩
              | false=>
                cases b4 with
                | true=>
                  have HO:=Lib.hid (show out=true by rw [HO.out];simp)
                  clear g5
                  go_wp2
                  go_ret
                  exact ⟨by rw [HO.out];rfl,rfl⟩
                | false=>
                  cases b5 with
                  | true=>
                    have HO:=Lib.hid (show out=true by rw [HO.out];simp)
                    go_wp2
                    go_ret
                    exact ⟨by rw [HO.out];rfl,rfl⟩
                  | false=>
                    go_wp2
                    go_ret
                    exact ⟨by rw [HO.out];rfl,rfl⟩
        | false=>
          have HO:=Lib.hid (show out=false by rw [HO.out];rfl)
          clear g1 g2 g3 g4 g5
          go_wp2
          go_ret
          exact ⟨by rw [HO.out];rfl,rfl⟩
      | false=>
        cases a2 with
        | true=>
          have HO:=Lib.hid (show out=false by rw [HO.out];rfl)
          clear g1 g2 g3 g4 g5
          go_wp2
          go_ret
          exact ⟨by rw [HO.out];rfl,rfl⟩
        | false=>
          have HO:=Lib.hid (show out=false by rw [HO.out];rfl)
          clear g1 g2 g3 g4 g5
          go_wp2
          go_ret
          exact ⟨by rw [HO.out];rfl,rfl⟩
end Go.Proofs.YtgoeedohgomodaaGreatDoor
namespace Go.Proofs.YtgoeedohgomodaaGreatDoor
open Go.RowKit Go.Sort
set_option maxRecDepth 100000
def zpC (w:World) (r:ProcV × Int) (e:Ending) (w':World):Prop:=∃ cs,e=.returned (.tuple #[.agg cs, .int .i64 r.2])∧PrcAt w' cs r.1∧Below w.heap.size w w'
theorem zvD {P:Program} {f:FuncId} {args:Array Value} {W:World} {r:ProcV × Int} {K:Ending→World→Prop} (h:Calls P f args W (zpC W r))
    (k:∀ cs w',PrcAt w' cs r.1→Below W.heap.size W w'→K (.returned (.tuple #[.agg cs, .int .i64 r.2])) w'):Calls P f args W K:=
  h.mono fun e w' ⟨cs,he,h1,h2⟩=>by subst he;exact k cs w' h1 h2
theorem PrcAt.noR (w:World):PrcAt w (zaf zaA none 0) zaA:=(PrcFar.no w 0).at_
attribute [local go_sem ↓] zlq zdA
attribute [local go_sem] zne zbr zcq zbO zbd zd2 zc2 zd5 zc3 zck
set_option maxHeartbeats 4000000 in
theorem zgV (p:ProcV) (A:Option Addr) (c:Nat) (hlc:p.parts.length≤c) (hn:p.parts.length≤4000000) (kd:Int) (n:List UInt8) (w:World) (hA:PrtsAt w A p.parts):
    Calls Tryz.prog 174 #[.agg (zaf p A c), .int .u8 kd, .string ⟨n.toArray⟩] w (zic w (zaY kd n p.parts)):=by
  go_enter Tryz.func174,Tryz.ntmps174
  go_upto_region 1 with (fail)
  have X0:Blk (w.alloc (.cells (zaf p A c) 131)) w.heap.size (zaf p A c):=Blk.new w _ _
  have B0:=zad w (.cells (zaf p A c) 131)
  have hsz:(w.alloc (.cells (zaf p A c) 131)).heap.size=w.heap.size+1:=World.size_alloc _ _
  generalize w.alloc _=W0 at X0 B0 hsz ⊢
  rw [← hsz]
  have Y1:Blk (W0.alloc (.cells (zan zbn none 0) 183)) W0.heap.size (zan zbn none 0):=Blk.new W0 _ _
  have B1:=zaa B0 (zad W0 (.cells (zan zbn none 0) 183))
  have X1:=X0.alloc (.cells (zan zbn none 0) 183)
  have hgle:w.heap.size≤W0.heap.size:=B0.size
  generalize hW:W0.alloc _=W
  have hE:W0.alloc (.cells (zan zbn none 0) 183)=W:=hW
  rw [hE] at Y1 B1 X1
  clear hW hE
  generalize W0.heap.size=g1 at Y1 hgle ⊢
  generalize w.heap.size=g0 at X1 ⊢
  have k7:W.cell? ⟨g0,3,none⟩=some (.slice A p.parts.length c):=X1.cell 3
  have HA:=Lib.hid hA
  generalize p.parts=l at *
  have HY:=Lib.hid Y1
  have HB:=Lib.hid B1
  have HLC:=Lib.hid hlc
  clear X0 hsz X1 B0 hA Y1 B1
  go_wp2
  clear k7
  go_loopw [13] (fun iv wr=>∃ k:Nat,k≤l.length∧iv=.int .i64 k∧zaY kd n l=zaY kd n (l.drop k)∧Below W.heap.size W wr) (fun iv _=>l.length - (intOf iv).toNat)
  case atStart=>exact ⟨0,by omega,rfl,rfl,Below.refl _ _⟩
  case round=>
    obtain ⟨k,hk,rfl,hf,BW⟩:=hrel
    have HG:=Lib.hid hf
    clear hf
    by_cases hlt:k < l.length
    · obtain ⟨b,off,cs',hAe,hb,hIs0,hAt0⟩:=HA.out.get (Below.refl _ _) hlt
      have hIs:zgc wr b (off+k * 3) cs':=⟨hIs0.1,fun j hj=>by rw [(zaa HB.out BW).cell (p:=⟨b,_,none⟩) hb];exact hIs0.2 j hj⟩
      obtain ⟨A2,c2,rfl,hl2,_⟩:=id hAt0.ex
      have HD:=Lib.hid (show zaY kd n l=if l[k].kind == kd && l[k].name == n then some l[k] else zaY kd n (l.drop (k+1)) by rw [HG.out,List.drop_eq_getElem_cons hlt];rfl)
      clear HG hIs0
      generalize l[k]=a at *
      subst hAe
      have i1:zb3 wr b (off+k * 3):=⟨_,hIs⟩
      have i2:zcs wr b (off+k * 3)=zan a A2 c2:=zbD hIs
      have hlt':(k:Int) < (l.length:Int):=by omega
      have hkc:k < c:=by have:=HLC.out;omega
      go_upto_region 4 with (fail)
      have Z:=Blk.new wr (zan a A2 c2) 183
      have D:=zad wr (.cells (zan a A2 c2) 183)
      have hgw:g1 < wr.heap.size:=Nat.lt_of_lt_of_le HY.out.lt BW.size
      have hWw:W.heap.size≤wr.heap.size:=BW.size
      clear i1 i2 hIs hb
      generalize wr.alloc _=W2 at Z D ⊢
      obtain ⟨g7,hg7⟩:∃ g,g=wr.heap.size:=⟨_,rfl⟩
      rw [← hg7] at Z ⊢
      have hne:g7 ≠ g1:=by omega
      have h7W:W.heap.size≤g7:=by omega
      have h7r:wr.heap.size≤g7:=by omega
      have h71:g1 < g7:=by omega
      clear hg7 hgw hWw
      have z0:W2.cell? ⟨g7,0,none⟩=some (.int .u8 a.kind):=Z.cell 0
      have z1:W2.cell? ⟨g7,1,none⟩=some (.string ⟨a.name.toArray⟩):=Z.cell 1
      have z2:W2.cell? ⟨g7,2,none⟩=some (.slice A2 a.legs.length c2):=Z.cell 2
      by_cases hnm:a.kind=kd∧a.name=n
      · have h0:(a.kind == kd)=true:=by simpa using hnm.1
        have h1:(a.name == n)=true:=by simpa using hnm.2
        have HO:=Lib.hid (show zaY kd n l=some a by rw [HD.out,h0,h1];rfl)
        clear HD hnm
        have i1:zb3 W2 g7 0:=⟨_,Z.is_prt rfl⟩
        have i2:zcs W2 g7 0=zan a A2 c2:=zbD (Z.is_prt rfl)
        have Y4:=(HY.out.step BW).step D
        have B4:=zaa (zaa HB.out BW) D
        have d2:=Y4.plain
        have d3:=Y4.of
        clear z2 Z D
        go_wp2
        exact bodyPost_ret (zal Tryz.results174 _ _ g1 (zan a A2 c2) 3 _ rfl rfl (Y4.set _).cell Tryz.underlying183 rfl ze1) rfl ⟨_,by rw [HO.out];rfl,by rw [HO.out];exact hAt0.below (zab B4 hgle _),zab B4 hgle _⟩
      · have HD:=Lib.hid (show zaY kd n l=zaY kd n (l.drop (k+1)) by
          rw [HD.out,if_neg]
          intro h
          simp only [Bool.and_eq_true,beq_iff_eq] at h
          exact hnm h)
        by_cases h0:a.kind=kd
        · have h0':(a.kind == kd)=true:=by simpa using h0
          have h1:(a.name == n)=false:=by
            have:a.name ≠ n:=fun h=>hnm ⟨h0,h⟩
            simpa using this
          clear hnm h0
          go_wp2
          go_roundw
          case rel=>exact ⟨k+1,by omega,by go_num,HD.out,zaa BW D⟩
          case measure=>simp [intOf];omega
        · have h0':(a.kind == kd)=false:=by simpa using h0
          clear hnm h0
          go_wp2
          go_roundw
          case rel=>exact ⟨k+1,by omega,by go_num,HD.out,zaa BW D⟩
          case measure=>simp [intOf];omega
    · have HO:=Lib.hid (show zaY kd n l=none by rw [HG.out,List.drop_of_length_le (by omega)];rfl)
      have hlt':¬ (k:Int) < (l.length:Int):=by omega
      have Y2:=HY.out.step BW
      have d2:=Y2.plain
      have d3:=Y2.of
      have B2:=zaa HB.out BW
      clear hlt
      go_wp2
      exact bodyPost_ret (zal Tryz.results174 _ _ g1 (zan zbn none 0) 3 _ rfl rfl (Y2.set _).cell Tryz.underlying183 rfl ze1) rfl ⟨_,by rw [HO.out];rfl,by rw [HO.out];exact PrtAt.no _,zab B2 hgle _⟩
set_option maxHeartbeats 4000000 in
theorem zjc (cs:Array Value) (l:List ProcV) (A:Option Addr) (c:Nat) (h7:cs[8]? = some (.slice A l.length c)) (hlc:l.length≤c) (hn:l.length≤9000000000) (a0 n:List UInt8) (kd:Int) (w:World) (hA:PrcsAt w A l):
    Calls Tryz.prog 130 #[.agg cs, .string ⟨a0.toArray⟩, .int .u8 kd, .string ⟨n.toArray⟩] w (zpC w (zcv a0 kd n l)):=by
  go_enter Tryz.func130,Tryz.ntmps130
  go_upto_region 1 with (fail)
  have X0:Blk (w.alloc (.cells cs 37)) w.heap.size cs:=Blk.new w _ _
  have B0:=zad w (.cells cs 37)
  have hsz:(w.alloc (.cells cs 37)).heap.size=w.heap.size+1:=World.size_alloc _ _
  generalize w.alloc _=W0 at X0 B0 hsz ⊢
  rw [← hsz]
  have Y1:Blk (W0.alloc (.cells (zaf zaA none 0) 131)) W0.heap.size (zaf zaA none 0):=Blk.new W0 _ _
  have B1:=zaa B0 (zad W0 (.cells (zaf zaA none 0) 131))
  have X1:=X0.alloc (.cells (zaf zaA none 0) 131)
  have hgle:w.heap.size≤W0.heap.size:=B0.size
  generalize hW:W0.alloc _=W
  have hE:W0.alloc (.cells (zaf zaA none 0) 131)=W:=hW
  rw [hE] at Y1 B1 X1
  clear hW hE
  generalize W0.heap.size=g1 at Y1 hgle ⊢
  generalize w.heap.size=g0 at X1 ⊢
  have k7:W.cell? ⟨g0,8,none⟩=some (.slice A l.length c):=(X1.cell 8).trans h7
  have HA:=Lib.hid hA
  have HF:=Lib.hid (show zcv a0 kd n l=(match zas a0 kd n l with | none=>(zaA,6) | some p=>(p,0)) from rfl)
  have HY:=Lib.hid Y1
  have HB:=Lib.hid B1
  have B1s:=Lib.hid B1.size
  have HLC:=Lib.hid hlc
  clear X0 hsz h7 X1 B0 hA Y1 B1
  go_wp2
  clear k7
  go_loopw [15] (fun iv wr=>∃ k:Nat,k≤l.length∧iv=.int .i64 k∧zas a0 kd n l=zas a0 kd n (l.drop k)∧Below W.heap.size W wr) (fun iv _=>l.length - (intOf iv).toNat)
  case atStart=>exact ⟨0,by omega,rfl,rfl,Below.refl _ _⟩
  case round=>
    obtain ⟨k,hk,rfl,hf,BW⟩:=hrel
    have HG:=Lib.hid hf
    clear hf
    by_cases hlt:k < l.length
    · obtain ⟨b,off,cs',hAe,hb,hIs0,hAt0⟩:=HA.out.get (Below.refl _ _) hlt
      have hIs:zj2 wr b (off+k * 4) cs':=⟨hIs0.1,fun j hj=>by rw [(zaa HB.out BW).cell (p:=⟨b,_,none⟩) hb];exact hIs0.2 j hj⟩
      obtain ⟨A2,c2,rfl,hl2,_⟩:=id hAt0.ex
      have HD:=Lib.hid (show zas a0 kd n l=if l[k].airport == a0 && l[k].kind == kd && l[k].name == n then some l[k] else zas a0 kd n (l.drop (k+1)) by rw [HG.out,List.drop_eq_getElem_cons hlt];rfl)
      clear HG hIs0
      generalize l[k]=a at *
      subst hAe
      have i1:zaR wr b (off+k * 4):=⟨_,hIs⟩
      have i2:za9 wr b (off+k * 4)=zaf a A2 c2:=zaB hIs
      have hlt':(k:Int) < (l.length:Int):=by omega
      have hkc:k < c:=by have:=HLC.out;omega
      go_upto_region 4 with (fail)
      have Z:=Blk.new wr (zaf a A2 c2) 131
      have D:=zad wr (.cells (zaf a A2 c2) 131)
      have hgw:g1 < wr.heap.size:=Nat.lt_of_lt_of_le HY.out.lt BW.size
      have hWw:W.heap.size≤wr.heap.size:=BW.size
      clear i1 i2 hIs hb
      generalize wr.alloc _=W2 at Z D ⊢
      obtain ⟨g7,hg7⟩:∃ g,g=wr.heap.size:=⟨_,rfl⟩
      rw [← hg7] at Z ⊢
      have hne:g7 ≠ g1:=by omega
      have h7W:W.heap.size≤g7:=by omega
      have h7r:wr.heap.size≤g7:=by omega
      have h71:g1 < g7:=by omega
      clear hg7 hgw hWw
      have z0:W2.cell? ⟨g7,0,none⟩=some (.string ⟨a.airport.toArray⟩):=Z.cell 0
      have z1:W2.cell? ⟨g7,1,none⟩=some (.string ⟨a.name.toArray⟩):=Z.cell 1
      have z2:W2.cell? ⟨g7,2,none⟩=some (.int .u8 a.kind):=Z.cell 2
      by_cases hnm:a.airport=a0∧a.kind=kd∧a.name=n
      · have h0:(a.airport == a0)=true:=by simpa using hnm.1
        have h1:(a.kind == kd)=true:=by simpa using hnm.2.1
        have h2:(a.name == n)=true:=by simpa using hnm.2.2
        have HO:=Lib.hid (show zcv a0 kd n l=(a,0) by rw [HF.out,HD.out,h0,h1,h2];rfl)
        clear HD hnm
        have i1:zaR W2 g7 0:=⟨_,Z.is_prc rfl⟩
        have i2:za9 W2 g7 0=zaf a A2 c2:=zaB (Z.is_prc rfl)
        have Y4:=(HY.out.step BW).step D
        have B4:=zaa (zaa HB.out BW) D
        have d2:=Y4.plain
        have d3:=Y4.of
        clear Z D
        go_wp2
        exact bodyPost_ret (zal Tryz.results130 _ _ g1 (zaf a A2 c2) 4 _ rfl rfl (Y4.set _).cell Tryz.underlying131 rfl zdm) rfl ⟨_,by rw [HO.out];rfl,by rw [HO.out];exact hAt0.below (zab B4 hgle _),zab B4 hgle _⟩
      · have HD:=Lib.hid (show zas a0 kd n l=zas a0 kd n (l.drop (k+1)) by
          rw [HD.out,if_neg]
          intro h
          simp only [Bool.and_eq_true,beq_iff_eq] at h
          exact hnm ⟨h.1.1,h.1.2,h.2⟩)
        by_cases g0':a.airport=a0
        case neg=>
          have h0:(a.airport == a0)=false:=by simpa using g0'
          clear hnm g0'
          go_wp2
          go_roundw
          case rel=>exact ⟨k+1,by omega,by go_num,HD.out,zaa BW D⟩
          case measure=>simp [intOf];omega
        have h0:(a.airport == a0)=true:=by simpa using g0'
        by_cases g1':a.kind=kd
        case neg=>
          have h1:(a.kind == kd)=false:=by simpa using g1'
          clear hnm g0' g1'
          go_wp2
          go_roundw
          case rel=>exact ⟨k+1,by omega,by go_num,HD.out,zaa BW D⟩
          case measure=>simp [intOf];omega
        have h1:(a.kind == kd)=true:=by simpa using g1'
        have h2:(a.name == n)=false:=by
          have:a.name ≠ n:=fun h=>hnm ⟨g0',g1',h⟩
          simpa using this
        clear hnm g0' g1'
        go_wp2
        go_roundw
        case rel=>exact ⟨k+1,by omega,by go_num,HD.out,zaa BW D⟩
        case measure=>simp [intOf];omega
    · have HO:=Lib.hid (show zcv a0 kd n l=(zaA,6) by rw [HF.out,HG.out,List.drop_of_length_le (by omega)];rfl)
      have hlt':¬ (k:Int) < (l.length:Int):=by omega
      have Y2:=HY.out.step BW
      have d2:=Y2.plain
      have d3:=Y2.of
      have B2:=zaa HB.out BW
      clear hlt
      go_wp2
      exact bodyPost_ret (zal Tryz.results130 _ _ g1 (zaf zaA none 0) 4 _ rfl rfl (Y2.set _).cell Tryz.underlying131 rfl zdm) rfl ⟨_,by rw [HO.out];rfl,by rw [HO.out];exact PrcAt.noR _,zab B2 hgle _⟩
end Go.Proofs.YtgoeedohgomodaaGreatDoor
namespace Go.Proofs.YtgoeedohgomodaaGreatDoor
open Go.RowKit Go.Sort
set_option maxRecDepth 100000
attribute [local go_sem] zbr zcq zbO zbd
set_option maxHeartbeats 4000000 in
theorem znu (p:ProcV) (A:Option Addr) (c:Nat) (hlc:p.parts.length≤c) (hn:p.parts.length≤4000000) (kd:Int) (w:World) (hA:PrtsAt w A p.parts):
    Calls Tryz.prog 173 #[.agg (zaf p A c), .int .u8 kd] w (zum w (zbP kd p.parts).length):=by
  go_enter Tryz.func173,Tryz.ntmps173
  go_upto_region 1 with (fail)
  have X0:Blk (w.alloc (.cells (zaf p A c) 131)) w.heap.size (zaf p A c):=Blk.new w _ _
  have B0:=zad w (.cells (zaf p A c) 131)
  generalize w.alloc _=W at X0 B0 ⊢
  obtain ⟨g0,hg0⟩:∃ g,g=w.heap.size:=⟨_,rfl⟩
  rw [← hg0] at X0 ⊢
  clear hg0
  have k7:W.cell? ⟨g0,3,none⟩=some (.slice A p.parts.length c):=X0.cell 3
  have HA:=Lib.hid (fun (W':World) (B:Below W.heap.size W W')=>hA.below (zaa B0 B))
  generalize p.parts=l at *
  have HB:=Lib.hid B0
  have HLC:=Lib.hid hlc
  clear X0 hA B0
  go_wp2
  clear k7
  go_loopw [5,11] (fun v iv wr=>∃ (k:Nat) (ss:List (List UInt8)),k≤l.length∧iv=.int .i64 k∧ss.length=(zbP kd (l.take k)).length∧ss.length≤k∧SOut W wr v ss∧Below W.heap.size W wr) (fun _ iv _=>l.length - (intOf iv).toNat)
  case atStart=>exact ⟨0,[],by omega,rfl,rfl,Nat.le_refl _,SOut.nil _ _,Below.refl _ _⟩
  case round=>
    obtain ⟨k,ss,hk,rfl,hsl,hsk,O,BW⟩:=hrel
    have HS:=Lib.hid hsl
    have HSK:=Lib.hid hsk
    clear hsl hsk
    by_cases hlt:k < l.length
    · obtain ⟨b,off,cs',hAe,hb,hIs,hAt⟩:=(HA.out wr BW).get (Below.refl _ _) hlt
      obtain ⟨A2,c2,rfl,hl2,hI2⟩:=hAt.ex
      have HD:=Lib.hid (zk8 kd l hlt)
      clear hAt
      generalize l[k]=a at *
      subst hAe
      have i1:zb3 wr b (off+k * 3):=⟨_,hIs⟩
      have i2:zcs wr b (off+k * 3)=zan a A2 c2:=zbD hIs
      have hlt':(k:Int) < (l.length:Int):=by omega
      have hkc:k < c:=by have:=HLC.out;omega
      go_upto_region 5 with (fail)
      have Z:=Blk.new wr (zan a A2 c2) 183
      have D:=zad wr (.cells (zan a A2 c2) 183)
      have O2:=O.below D
      clear i1 i2 hIs hI2 hb O
      generalize wr.alloc _=W2 at Z D O2 ⊢
      generalize wr.heap.size=g7 at Z ⊢
      have z0:W2.cell? ⟨g7,0,none⟩=some (.int .u8 a.kind):=Z.cell 0
      have z1:W2.cell? ⟨g7,1,none⟩=some (.string ⟨a.name.toArray⟩):=Z.cell 1
      by_cases h0:a.kind=kd
      · have h0':(a.kind == kd)=true:=by simpa using h0
        have HD:=Lib.hid (HD.out.trans (if_pos h0'))
        have O4:=O2.alloc (.cells #[zlG a.name] 9)
        have B4:=zaa (zaa BW D) (zad W2 (.cells #[zlG a.name] 9))
        clear h0 O2 Z
        go_wp2_with (at_builtin;refine zaQ rfl (.tmp 19) (.tmp 22) rfl O4 rfl a.name W2.heap.size 1 rfl (cell_of_row _ _ 0 _ _ _ (heap_alloc_new W2 _)) (by have:=HSK.out;omega) B4.size ?_;intro v5 W5 O5 hg5)
        go_roundw
        case rel=>exact ⟨k+1,ss ++ [a.name],by omega,by go_num,by rw [HD.out];simp [HS.out],by have:=HSK.out;simp;omega,O5,zbz B4 O4 hg5⟩
        case measure=>simp [intOf];omega
      · have h0':(a.kind == kd)=false:=by simpa using h0
        have HD:=Lib.hid (HD.out.trans (if_neg (by simpa using h0)))
        clear h0 Z
        go_wp2
        go_roundw
        case rel=>exact ⟨k+1,ss,by omega,by go_num,by rw [HD.out];exact HS.out,by have:=HSK.out;omega,O2,zaa BW D⟩
        case measure=>simp [intOf];omega
    · have HO:=Lib.hid (show ss.length=(zbP kd l).length by rw [HS.out,List.take_of_length_le (by omega)])
      have hlt':¬ (k:Int) < (l.length:Int):=by omega
      obtain ⟨A3,c3,e3,_,_⟩:=O.form
      subst e3
      have B2:=zaa HB.out BW
      clear hlt O
      go_wp2
      go_ret
      exact ⟨A3,c3,by rw [HO.out];rfl,B2⟩
end Go.Proofs.YtgoeedohgomodaaGreatDoor
namespace Go.Proofs.YtgoeedohgomodaaGreatDoor
open Go.RowKit Go.Sort
set_option maxRecDepth 100000
theorem zpY:(Tryz.prog.info? 245).map (·.size)=some 3:=by kernel_rfl
def pk3 (a b c:Int):Array Value:=#[.int .u8 a, .int .u8 b, .int .u8 c]
def zyr (parts:Array (Nat × Value)):Sem Value:=Instr.build 245 parts
theorem ztX (parts:Array (Nat × Value)):Instr.build 245 parts=zyr parts:=rfl
theorem zuO (w:World) (a b c:Int):(zyr #[(0, .int .u8 a),(1, .int .u8 b),(2, .int .u8 c)]).run Tryz.prog w=.ok (.agg (pk3 a b c)) w:=run_build w _ _ _ (by kernel_rfl)
def zve (x i:Value):Sem Value:=Instr.index 245 x i
theorem zra (x i:Value):Instr.index 245 x i=zve x i:=rfl
theorem zoF (w:World) (a b c:Int):(zve (.agg (pk3 a b c)) (.int .i64 0)).run Tryz.prog w=.ok (.int .u8 a) w:=by kernel_rfl
theorem zoE (w:World) (a b c:Int):(zve (.agg (pk3 a b c)) (.int .i64 1)).run Tryz.prog w=.ok (.int .u8 b) w:=by kernel_rfl
theorem zoD (w:World) (a b c:Int):(zve (.agg (pk3 a b c)) (.int .i64 2)).run Tryz.prog w=.ok (.int .u8 c) w:=by kernel_rfl
def zwL (v:Value):Sem Value:=Instr.loadAt 245 v
theorem zq8 (v:Value):Instr.loadAt 245 v=zwL v:=rfl
theorem zsd (w:World) (a b c:Int) (t:TypeId):(zwL (.pointer (some ⟨w.heap.size,0,none⟩))).run Tryz.prog (w.alloc (.cells (pk3 a b c) t))=.ok (.agg (pk3 a b c)) (w.alloc (.cells (pk3 a b c) t)):=by
  have hb:=Blk.new w (pk3 a b c) t
  have hl:=zaE (P:=Tryz.prog) (w.alloc (.cells (pk3 a b c) t)) ⟨w.heap.size,0,none⟩ 245 (pk3 a b c).toList _ (fun j v hv=>by
    rw [addr_add,Nat.zero_add,hb.cell j]
    simpa using hv) Tryz.underlying245 rfl (by rw [zpY];rfl)
  simp only [zwL,Instr.loadAt,Instr.sureAddr,Sem.run_bind,Sem.run_pure,Result.andThen_ok]
  simpa using hl
def zxi (p v:Value):Sem Unit:=Instr.storeAt 245 p v
theorem zqo (p v:Value):Instr.storeAt 245 p v=zxi p v:=rfl
theorem zsc (w:World) (c:Array Value) (x y z:Int) (hc:zdg c 3):(zxi (.pointer (some ⟨w.heap.size,0,none⟩)) (.agg (pk3 x y z))).run Tryz.prog (w.alloc (.cells c 245))=.ok () (w.alloc (.cells (pk3 x y z) 245)):=
  run_storeAt_new (P:=Tryz.prog) w 245 c (pk3 x y z) zpY (by rw [show c.size=3 from hc];rfl) (by simp [pk3,Value.oneCell'])
theorem zvO (a b c:Int) (n:Nat):zdg (pk3 a b c) n=(3=n):=propext ⟨fun h=>h,fun h=>h⟩
attribute [local go_sem ↓] ztX zra zq8 zqo
attribute [local go_sem] zuO zoF zoE zoD zsd zsc zvO
set_option maxHeartbeats 4000000 in
theorem zgU (pk k:Int) (w:World):Calls Tryz.prog 175 #[.int .u8 pk, .int .u8 k] w (Ret w (.int .i64 (zku pk k))):=by
  have HR:=Lib.hid (zqP pk k)
  generalize zku pk k=out at HR ⊢
  have HO:=Lib.hid (show (pk=2∧zga pk=[3,2,1])∨(pk ≠ 2∧pk=3∧zga pk=[3,2,4])∨(pk ≠ 2∧pk ≠ 3∧zga pk=[1,2,3]) by
    unfold zga
    by_cases h2:pk=2
    · exact .inl ⟨h2,if_pos h2⟩
    · by_cases h3:pk=3
      · exact .inr (.inl ⟨h2,h3,by rw [if_neg h2,if_pos h3]⟩)
      · exact .inr (.inr ⟨h2,h3,by rw [if_neg h2,if_neg h3]⟩))
  obtain ⟨x,y,z,hc,HX⟩:∃ x y z:Int,zga pk=[x,y,z]∧((pk=2∧x=3∧y=2∧z=1)∨(pk ≠ 2∧pk=3∧x=3∧y=2∧z=4)∨(pk ≠ 2∧pk ≠ 3∧x=1∧y=2∧z=3)):=by
    rcases HO.out with ⟨a,b⟩ | ⟨a,b,c⟩ | ⟨a,b,c⟩
    · exact ⟨3,2,1,b, .inl ⟨a,rfl,rfl,rfl⟩⟩
    · exact ⟨3,2,4,c, .inr (.inl ⟨a,b,rfl,rfl,rfl⟩)⟩
    · exact ⟨1,2,3,c, .inr (.inr ⟨a,b,rfl,rfl,rfl⟩)⟩
  have HR:=Lib.hid (show out=if x=k then 1 else if y=k then 2 else if z=k then 3 else 0 by
    have:=HR.out
    rw [hc] at this
    exact this)
  clear hc HO
  have HB:∀ a b c:Int,RowKit.Hid (Below w.heap.size w (w.alloc (.cells (pk3 a b c) 245))):=fun a b c=>Lib.hid (zad w (.cells (pk3 a b c) 245))
  have HB2:=Lib.hid (HB x y z)
  clear HB
  rcases HX with ⟨h2,rfl,rfl,rfl⟩ | ⟨h2,h3,rfl,rfl,rfl⟩ | ⟨h2,h3,rfl,rfl,rfl⟩
  · go_enter Tryz.func175,Tryz.ntmps175
    go_upto_region 6 with (fail)
    go_upto_region 7 with (fail)
    obtain ⟨W,hW⟩:∃ W,W=w.alloc (.cells (pk3 3 2 1) 245):=⟨_,rfl⟩
    rw [← hW] at HB2 ⊢
    clear hW h2
    go_loopw [16] (fun iv wr=>∃ j:Nat,j≤3∧iv=.int .i64 j∧wr=W∧(1≤j→(3:Int) ≠ k)∧(2≤j→(2:Int) ≠ k)∧(3≤j→(1:Int) ≠ k)) (fun iv _=>3 - (intOf iv).toNat)
    case atStart=>exact ⟨0,by omega,rfl,rfl,by omega,by omega,by omega⟩
    case round=>
      obtain ⟨j,hj,rfl,rfl,n1,n2,n3⟩:=hrel
      have hjj:j=0∨j=1∨j=2∨j=3:=by omega
      rcases hjj with rfl | rfl | rfl | rfl
      · by_cases hv:(3:Int)=k
        · have HO:=Lib.hid (show out=1 by have:=HR.out;have m1:=n1;have m2:=n2;clear n3;rw [this];exact if_pos hv)
          clear n1 n2 n3 HR
          go_wp2
          go_ret
          exact Ret.int (by have:=HO.out;omega) HB2.out.out
        · have N:=Lib.hid (And.intro n1 (And.intro n2 (And.intro n3 hv)))
          clear n1 n2 n3
          go_wp2
          go_roundw
          case rel=>exact ⟨1,by omega,by go_num,by trivial,fun _=>N.out.2.2.2,fun h=>absurd h (by omega),fun h=>absurd h (by omega)⟩
          case measure=>simp [intOf]
      · by_cases hv:(2:Int)=k
        · have HO:=Lib.hid (show out=2 by have:=HR.out;have m1:=n1;have m2:=n2;clear n3;rw [this];rw [if_neg (m1 (by omega))];exact if_pos hv)
          clear n1 n2 n3 HR
          go_wp2
          go_ret
          exact Ret.int (by have:=HO.out;omega) HB2.out.out
        · have N:=Lib.hid (And.intro n1 (And.intro n2 (And.intro n3 hv)))
          clear n1 n2 n3
          go_wp2
          go_roundw
          case rel=>exact ⟨2,by omega,by go_num,by trivial,fun _=>N.out.1 (by omega),fun _=>N.out.2.2.2,fun h=>absurd h (by omega)⟩
          case measure=>simp [intOf]
      · by_cases hv:(1:Int)=k
        · have HO:=Lib.hid (show out=3 by have:=HR.out;have m1:=n1;have m2:=n2;clear n3;rw [this];rw [if_neg (m1 (by omega))];rw [if_neg (m2 (by omega))];exact if_pos hv)
          clear n1 n2 n3 HR
          go_wp2
          go_ret
          exact Ret.int (by have:=HO.out;omega) HB2.out.out
        · have N:=Lib.hid (And.intro n1 (And.intro n2 (And.intro n3 hv)))
          clear n1 n2 n3
          go_wp2
          go_roundw
          case rel=>exact ⟨3,by omega,by go_num,by trivial,fun _=>N.out.1 (by omega),fun _=>N.out.2.1 (by omega),fun _=>N.out.2.2.2⟩
          case measure=>simp [intOf]
      · have HO:=Lib.hid (show out=0 by have:=HR.out;rw [this,if_neg (n1 (by omega)),if_neg (n2 (by omega)),if_neg (n3 (by omega))])
        clear n1 n2 n3 HR
        go_wp2
        go_ret
        exact Ret.int (by have:=HO.out;omega) HB2.out.out
  · go_enter Tryz.func175,Tryz.ntmps175
    go_upto_region 6 with (fail)
    go_upto_region 7 with (fail)
    obtain ⟨W,hW⟩:∃ W,W=w.alloc (.cells (pk3 3 2 4) 245):=⟨_,rfl⟩
    rw [← hW] at HB2 ⊢
    clear hW h2
    go_loopw [16] (fun iv wr=>∃ j:Nat,j≤3∧iv=.int .i64 j∧wr=W∧(1≤j→(3:Int) ≠ k)∧(2≤j→(2:Int) ≠ k)∧(3≤j→(4:Int) ≠ k)) (fun iv _=>3 - (intOf iv).toNat)
    case atStart=>exact ⟨0,by omega,rfl,rfl,by omega,by omega,by omega⟩
    case round=>
      obtain ⟨j,hj,rfl,rfl,n1,n2,n3⟩:=hrel
      have hjj:j=0∨j=1∨j=2∨j=3:=by omega
      rcases hjj with rfl | rfl | rfl | rfl
      · by_cases hv:(3:Int)=k
        · have HO:=Lib.hid (show out=1 by have:=HR.out;have m1:=n1;have m2:=n2;clear n3;rw [this];exact if_pos hv)
          clear n1 n2 n3 HR
          go_wp2
          go_ret
          exact Ret.int (by have:=HO.out;omega) HB2.out.out
        · have N:=Lib.hid (And.intro n1 (And.intro n2 (And.intro n3 hv)))
          clear n1 n2 n3
          go_wp2
          go_roundw
          case rel=>exact ⟨1,by omega,by go_num,by trivial,fun _=>N.out.2.2.2,fun h=>absurd h (by omega),fun h=>absurd h (by omega)⟩
          case measure=>simp [intOf]
      · by_cases hv:(2:Int)=k
        · have HO:=Lib.hid (show out=2 by have:=HR.out;have m1:=n1;have m2:=n2;clear n3;rw [this];rw [if_neg (m1 (by omega))];exact if_pos hv)
          clear n1 n2 n3 HR
          go_wp2
          go_ret
          exact Ret.int (by have:=HO.out;omega) HB2.out.out
        · have N:=Lib.hid (And.intro n1 (And.intro n2 (And.intro n3 hv)))
          clear n1 n2 n3
          go_wp2
          go_roundw
          case rel=>exact ⟨2,by omega,by go_num,by trivial,fun _=>N.out.1 (by omega),fun _=>N.out.2.2.2,fun h=>absurd h (by omega)⟩
          case measure=>simp [intOf]
      · by_cases hv:(4:Int)=k
        · have HO:=Lib.hid (show out=3 by have:=HR.out;have m1:=n1;have m2:=n2;clear n3;rw [this];rw [if_neg (m1 (by omega))];rw [if_neg (m2 (by omega))];exact if_pos hv)
          clear n1 n2 n3 HR
          go_wp2
          go_ret
          exact Ret.int (by have:=HO.out;omega) HB2.out.out
        · have N:=Lib.hid (And.intro n1 (And.intro n2 (And.intro n3 hv)))
          clear n1 n2 n3
          go_wp2
          go_roundw
          case rel=>exact ⟨3,by omega,by go_num,by trivial,fun _=>N.out.1 (by omega),fun _=>N.out.2.1 (by omega),fun _=>N.out.2.2.2⟩
          case measure=>simp [intOf]
      · have HO:=Lib.hid (show out=0 by have:=HR.out;rw [this,if_neg (n1 (by omega)),if_neg (n2 (by omega)),if_neg (n3 (by omega))])
        clear n1 n2 n3 HR
        go_wp2
        go_ret
        exact Ret.int (by have:=HO.out;omega) HB2.out.out
  · go_enter Tryz.func175,Tryz.ntmps175
    go_upto_region 6 with (fail)
    go_upto_region 7 with (fail)
    obtain ⟨W,hW⟩:∃ W,W=w.alloc (.cells (pk3 1 2 3) 245):=⟨_,rfl⟩
    rw [← hW] at HB2 ⊢
    clear hW h2
    go_loopw [16] (fun iv wr=>∃ j:Nat,j≤3∧iv=.int .i64 j∧wr=W∧(1≤j→(1:Int) ≠ k)∧(2≤j→(2:Int) ≠ k)∧(3≤j→(3:Int) ≠ k)) (fun iv _=>3 - (intOf iv).toNat)
    case atStart=>exact ⟨0,by omega,rfl,rfl,by omega,by omega,by omega⟩
    case round=>
      obtain ⟨j,hj,rfl,rfl,n1,n2,n3⟩:=hrel
      have hjj:j=0∨j=1∨j=2∨j=3:=by omega
      rcases hjj with rfl | rfl | rfl | rfl
      · by_cases hv:(1:Int)=k
        · have HO:=Lib.hid (show out=1 by have:=HR.out;have m1:=n1;have m2:=n2;clear n3;rw [this];exact if_pos hv)
          clear n1 n2 n3 HR
          go_wp2
          go_ret
          exact Ret.int (by have:=HO.out;omega) HB2.out.out
        · have N:=Lib.hid (And.intro n1 (And.intro n2 (And.intro n3 hv)))
          clear n1 n2 n3
          go_wp2
          go_roundw
          case rel=>exact ⟨1,by omega,by go_num,by trivial,fun _=>N.out.2.2.2,fun h=>absurd h (by omega),fun h=>absurd h (by omega)⟩
          case measure=>simp [intOf]
      · by_cases hv:(2:Int)=k
        · have HO:=Lib.hid (show out=2 by have:=HR.out;have m1:=n1;have m2:=n2;clear n3;rw [this];rw [if_neg (m1 (by omega))];exact if_pos hv)
          clear n1 n2 n3 HR
          go_wp2
          go_ret
          exact Ret.int (by have:=HO.out;omega) HB2.out.out
        · have N:=Lib.hid (And.intro n1 (And.intro n2 (And.intro n3 hv)))
          clear n1 n2 n3
          go_wp2
          go_roundw
          case rel=>exact ⟨2,by omega,by go_num,by trivial,fun _=>N.out.1 (by omega),fun _=>N.out.2.2.2,fun h=>absurd h (by omega)⟩
          case measure=>simp [intOf]
      · by_cases hv:(3:Int)=k
        · have HO:=Lib.hid (show out=3 by have:=HR.out;have m1:=n1;have m2:=n2;clear n3;rw [this];rw [if_neg (m1 (by omega))];rw [if_neg (m2 (by omega))];exact if_pos hv)
          clear n1 n2 n3 HR
          go_wp2
          go_ret
          exact Ret.int (by have:=HO.out;omega) HB2.out.out
        · have N:=Lib.hid (And.intro n1 (And.intro n2 (And.intro n3 hv)))
          clear n1 n2 n3
          go_wp2
          go_roundw
          case rel=>exact ⟨3,by omega,by go_num,by trivial,fun _=>N.out.1 (by omega),fun _=>N.out.2.1 (by omega),fun _=>N.out.2.2.2⟩
          case measure=>simp [intOf]
      · have HO:=Lib.hid (show out=0 by have:=HR.out;rw [this,if_neg (n1 (by omega)),if_neg (n2 (by omega)),if_neg (n3 (by omega))])
        clear n1 n2 n3 HR
        go_wp2
        go_ret
        exact Ret.int (by have:=HO.out;omega) HB2.out.out
end Go.Proofs.YtgoeedohgomodaaGreatDoor
namespace Go.Proofs.YtgoeedohgomodaaGreatDoor
open Go.RowKit Go.Sort
set_option maxRecDepth 100000
def zq7 (pk k:Int) (ls:List Leg):Int:=if ls.length=0 then 1 else if 24 < ls.length then 3 else zer pk k none ls
attribute [local go_sem] zbr zcq zbO zbd
set_option maxHeartbeats 16000000 in
theorem zsw (pk:Int) (x:PartV) (A2:Option Addr) (c2:Nat) (w:World) (hl2:x.legs.length≤c2) (hI2:Items w A2 13 (x.legs.map Leg.arr)) (hxs:x.small):
    Calls Tryz.prog 204 #[.int .u8 pk, .agg (zan x A2 c2)] w (Ret w (.int .i64 (zq7 pk x.kind x.legs))):=by
  have HC:=Lib.hid (show zq7 pk x.kind x.legs=if x.legs.length=0 then 1 else if 24 < x.legs.length then 3 else zer pk x.kind none x.legs from rfl)
  generalize zq7 pk x.kind x.legs=out at HC ⊢
  have HIL:=Lib.hid (fun (W':World) (B:Below w.heap.size w W')=>hI2.below B)
  clear hI2
  go_enter Tryz.func204,Tryz.ntmps204
  go_upto_region 1 with (fail)
  have P4:=Blk.new w (zan x A2 c2) 183
  have B4:=zad w (.cells (zan x A2 c2) 183)
  generalize w.alloc _=wc at P4 B4 ⊢
  generalize w.heap.size=g6 at P4 ⊢
  have x2:wc.cell? ⟨g6,2,none⟩=some (.slice A2 x.legs.length c2):=P4.cell 2
  have HB4:=Lib.hid B4
  by_cases hl0:x.legs.length=0
  · have HO:=Lib.hid (HC.out.trans (if_pos hl0))
    have e0:((x.legs.length:Int) == 0)=true:=by rw [hl0];rfl
    clear HC hl0
    go_wp2
    go_ret
    exact Ret.int HO.out.symm HB4.out
  have HC:=Lib.hid (HC.out.trans (if_neg hl0))
  have e0:((x.legs.length:Int) == 0)=false:=by rw [beq_eq_false_iff_ne];omega
  by_cases hl24:24 < x.legs.length
  · have HO:=Lib.hid (HC.out.trans (if_pos hl24))
    have e1:(24:Int) < (x.legs.length:Int):=by omega
    clear HC hl0
    go_wp2
    go_ret
    exact Ret.int HO.out.symm HB4.out
  have e1:¬ (24:Int) < (x.legs.length:Int):=by omega
  have HC:=Lib.hid (HC.out.trans (if_neg hl24))
  have h24:x.legs.length≤4000000:=hxs.len
  go_upto_region 5 with (fail)
  clear e0 e1 hl24 hl0
  have XN:=Lib.hid (fun (W':World) (B:Below w.heap.size w W')=>(HIL.out W' B).at_)
  have PP:=Lib.hid P4
  have BB:=HB4
  have hLS:=Lib.hid (fun x' (h:x' ∈ x.legs)=>hxs.each x' h)
  go_upto_region 6 with (fail)
  clear P4 B4 x2 hxs
  have HPL:=Lib.hid (fun (W':World) (h:Blk W' g6 (zan x A2 c2))=>show W'.cell? ⟨g6,2,none⟩=some (.slice A2 x.legs.length c2) from h.cell 2)
  generalize x.legs=ls at *
  go_loopw [19] (fun iv wr=>∃ k:Nat,k≤ls.length∧iv=.int .i64 k∧zer pk x.kind none ls=zer pk x.kind (zhW ls k) (ls.drop k)∧Below wc.heap.size wc wr) (fun iv _=>ls.length - (intOf iv).toNat)
  case atStart=>exact ⟨0,by omega,rfl,rfl,Below.refl _ _⟩
  case round=>
    obtain ⟨k,hk,rfl,hf,BW⟩:=hrel
    have HF:=Lib.hid hf
    clear hf
    by_cases hlt:k < ls.length
    · have hlt':(k:Int) < (ls.length:Int):=by omega
      have hkc:k < c2:=by omega
      have hne:ls.map Leg.arr ≠ []:=by intro h;have:=congrArg List.length h;simp at this;rw [this] at hlt;simp at hlt
      obtain ⟨b2,o2,hA2,hb2,hc2⟩:=XN.out wr (zaa BB.out BW) hne
      have HD:=Lib.hid (show out=if zaN ls[k] ≠ 0 then zaN ls[k] else if !zp5 pk x.kind (zhW ls k) ls[k] then 9 else zer pk x.kind (some ls[k]) (ls.drop (k+1)) by rw [HC.out,HF.out,zk9 _ _ _ hlt])
      have HPV3:=Lib.hid (show zhW ls (k+1)=some ls[k] from List.getElem?_eq_getElem hlt)
      have hsm:=hLS.out _ (List.getElem_mem hlt)
      have hIs:Is_leg wr b2 (o2+k * 13) ls[k]:=fun j hj=>hc2 k ls[k].arr (by simp [hlt]) j hj
      have HC2:=Lib.hid (fun (W':World) (B:Below wr.heap.size wr W') (m:Nat) (hm:m < ls.length)=>show Is_leg W' b2 (o2+m * 13) ls[m] from Is_leg.below (fun j hj=>hc2 m ls[m].arr (by simp [hm]) j hj) B hb2)
      clear hne hc2 HF
      subst hA2
      generalize ls[k]=l at *
      have i1:zaJ wr b2 (o2+k * 13):=⟨_,hIs⟩
      have i2:za6 wr b2 (o2+k * 13)=l:=zaz hIs
      go_upto_region 8 with (fail)
      have Z:=Blk.new wr l.arr 64
      have D:=zad wr (.cells l.arr 64)
      have P5:=(PP.out.step BW).step D
      have B5:=zaa (zaa BB.out BW) D
      have B6:=zaa BW D
      clear i1 i2 hIs
      generalize wr.alloc _=W5 at Z D P5 B5 B6 ⊢
      generalize wr.heap.size=g7 at Z D HC2 ⊢
      have i1:zaJ W5 g7 0:=⟨_,Z.is_leg⟩
      have i2:za6 W5 g7 0=l:=zaz Z.is_leg
      have kc:=Lib.hid (zhq l W5 hsm)
      generalize zaN l=lc at *
      go_upto_region 9 with (go_at_call 138;(with_reducible refine zaj kc.out ?_);intro w6 b6 _ _ _)
      have P7:=P5.step b6
      have Z7:=Z.step b6
      have B7:=zaa B5 b6
      have B8:=zaa B6 b6
      have HSZ:=Lib.hid (show g7≤w6.heap.size from Nat.le_trans (Nat.le_of_lt Z.lt) b6.size)
      have D7:Below g7 wr w6:=D.trans (b6.mono (Nat.le_of_lt Z.lt))
      clear i1 i2 kc P5 Z B5 B6 D b6
      by_cases hlc:lc=0
      rotate_left
      · have HO:=Lib.hid (HD.out.trans (if_pos hlc))
        have hlc':(lc != 0)=true:=by simpa using hlc
        clear HD hlc
        go_wp2
        go_ret
        exact Ret.int HO.out.symm B7
      have HD:=Lib.hid (HD.out.trans (if_neg (not_not_intro hlc)))
      subst hlc
      go_upto_region 11 with (fail)
      have PH:=Lib.hid P7
      have ZH:=Lib.hid Z7
      clear P7 Z7
      by_cases hk0:k=0
      · have e0:((k:Int) == 0)=true:=by rw [hk0];rfl
        have e1:¬ (0:Int) < (k:Int):=by omega
        have e2:decide ((0:Int) < (k:Int))=false:=by simp [hk0]
        have e3:¬ 0 < k:=by omega
        have HD:=Lib.hid (show out=if !zfr pk x.kind l.ty then 9 else zer pk x.kind (some l) (ls.drop (k+1)) by rw [HD.out,hk0];rfl)
        clear hk0
        have j3:w6.cell? ⟨g6,0,none⟩=some (.int .u8 x.kind):=PH.out.cell 0
        have j4:w6.cell? ⟨g7,0,none⟩=some (.int .u8 l.ty):=ZH.out.cell 0
        have kb:=Lib.hid (zoO pk x.kind l.ty w6)
        generalize zfr pk x.kind l.ty=ok at *
        cases ok
        · have HO:=Lib.hid (HD.out.trans (if_pos rfl))
          clear HD
          go_wp2_with (go_at_call 215;(with_reducible refine zae kb.out ?_))
          go_ret
          exact Ret.int HO.out.symm B7
        · have HO:=Lib.hid (HD.out.trans (if_neg (by simp)))
          clear HD
          go_upto_region 13 with (go_at_call 215;(with_reducible refine zae kb.out ?_))
          clear j3 j4 kb
          refine wp_region_quiet_below (by kernel_rfl) (by kernel_rfl) ?_
          repeat (go_big_quiet_step (fail))
          refine wpQuiet_nil ?_
          intro _ hw'
          obtain ⟨⟨DQ,OSQ⟩,hw''⟩:=hw'
          subst hw''
          go_wp2
          go_roundw
          case rel=>exact ⟨k+1,by omega,by go_num,by rw [← HC.out,HO.out,HPV3.out],zaa B8 (below_regrown w6 DQ OSQ)⟩
          case measure=>simp [intOf];omega
      · obtain ⟨m,hm⟩:∃ m,k=m+1:=⟨k - 1,by omega⟩
        have hml:m < ls.length:=by omega
        have e0:((k:Int) == 0)=false:=by rw [beq_eq_false_iff_ne];omega
        have e1:(0:Int) < (k:Int):=by omega
        have e2:decide ((0:Int) < (k:Int))=true:=by simp;omega
        have e3:0 < k:=by omega
        have hk':(k:Int) - 1=(m:Int):=by omega
        have hmi:(m:Int) < (ls.length:Int):=by omega
        have hmc:m < c2:=by omega
        have hpm:zhW ls k=some ls[m]:=by rw [hm];exact List.getElem?_eq_getElem hml
        have HD:=Lib.hid (show out=if !ls[m].joinsB l then 9 else zer pk x.kind (some l) (ls.drop (k+1)) by rw [HD.out,hpm];rfl)
        have HC3:=Lib.hid (fun (d:Nat) (os:Array Obj)=>HC2.out _ (D7.trans ((below_regrown w6 d os).mono HSZ.out)) m hml)
        clear D7 HSZ
        go_upto_region 13 with (fail)
        have j1:∀ d os,zaJ (grow (redrawn w6 d) os) b2 (o2+m * 13):=fun d os=>⟨_,HC3.out d os⟩
        have j2:∀ d os,za6 (grow (redrawn w6 d) os) b2 (o2+m * 13)=ls[m]:=fun d os=>zaz (HC3.out d os)
        clear hpm hm hk0 HC3
        generalize ls[m]=y at *
        have j3:∀ d os,(grow (redrawn w6 d) os).cell? ⟨g6,2,none⟩=some (.slice (some ⟨b2,o2,none⟩) ls.length c2):=fun d os=>HPL.out _ (PH.out.step (below_regrown w6 d os))
        have j4:∀ d os,zaJ (grow (redrawn w6 d) os) g7 0:=fun d os=>⟨_,(ZH.out.step (below_regrown w6 d os)).is_leg⟩
        have j5:∀ d os,za6 (grow (redrawn w6 d) os) g7 0=l:=fun d os=>zaz ((ZH.out.step (below_regrown w6 d os)).is_leg)
        have k1:∀ d os,Calls Tryz.prog 91 #[y.val,l.val] (grow (redrawn w6 d) os) fun e w''=>e=.returned (.bool (y.joinsB l))∧∃ q:Regrown,w''=grow (redrawn w6 q.d) q.os:=fun d os=>Calls.regrown_ret (zfH y l _)
        generalize y.joinsB l=ok at *
        cases ok
        · have HO:=Lib.hid (HD.out.trans (if_pos rfl))
          clear HD
          refine wp_region_quiet_below (by kernel_rfl) (by kernel_rfl) ?_
          repeat (go_big_quiet_step (with_reducible first | exact k1 _ _))
          refine wpQuiet_nil ?_
          intro _ hw'
          obtain ⟨⟨dq,osq⟩,hw''⟩:=hw'
          subst hw''
          clear j1 j2 j3 j4 j5 k1
          go_wp2
          go_ret
          exact Ret.int HO.out.symm (zaa B7 (below_regrown w6 dq osq))
        · have HO:=Lib.hid (HD.out.trans (if_neg (by simp)))
          clear HD
          refine wp_region_quiet_below (by kernel_rfl) (by kernel_rfl) ?_
          repeat (go_big_quiet_step (with_reducible first | exact k1 _ _))
          refine wpQuiet_nil ?_
          intro _ hw'
          obtain ⟨⟨dq,osq⟩,hw''⟩:=hw'
          subst hw''
          clear j1 j2 j3 j4 j5 k1
          go_wp2
          go_roundw
          case rel=>exact ⟨k+1,by omega,by go_num,by rw [← HC.out,HO.out,HPV3.out],zaa B8 (below_regrown w6 dq osq)⟩
          case measure=>simp [intOf];omega
    · have hge:¬ (k:Int) < (ls.length:Int):=by omega
      have HO:=Lib.hid (show out=0 by rw [HC.out,HF.out,List.drop_eq_nil_of_le (by omega)];unfold zer;rfl)
      clear hlt HF
      go_wp2
      go_ret
      exact Ret.int HO.out.symm (zaa BB.out BW)
end Go.Proofs.YtgoeedohgomodaaGreatDoor
namespace Go.Proofs.YtgoeedohgomodaaGreatDoor
open Go.RowKit Go.Sort
set_option maxRecDepth 100000
def zvB (l:List PartV):Bool:=l.any fun x=>x.kind == 2
theorem ztG {l:List PartV} (h:∀ x ∈ l,x.kind=2→x.name=[]):(zaY 2 [] l).isSome=zvB l:=by
  induction l with
  | nil=>rfl
  | cons x r ih=>
    have ih:=ih fun y hy=>h y (List.mem_cons_of_mem _ hy)
    unfold zaY zvB
    by_cases hk:x.kind=2
    · have hn:=h x (by simp) hk
      simp [hk,hn]
    · have:(x.kind == 2)=false:=by simpa using hk
      simp only [this,Bool.false_and,Bool.false_eq_true,if_false,List.any_cons,Bool.false_or]
      exact ih
theorem zfq (k:Int):(zb7 k).isEmpty=true ↔ (k < 1∨3 < k):=by
  unfold zb7
  constructor
  · intro h
    split at h
    · cases h
    · split at h
      · cases h
      · split at h
        · cases h
        · omega
  · intro h
    rw [if_neg (by omega),if_neg (by omega),if_neg (by omega)]
    rfl
theorem zuY {pk:Int} {pv:Option PartV} {x:PartV} (hr:¬ zee pk x.kind < 0) (hp:zkv pk pv x=0):
    zg5 pk pv x=if (zeH x.kind && !zbF x.name 8) || (!zeH x.kind && !x.name.isEmpty) then 5 else zq7 pk x.kind x.legs:=by
  rw [zit,if_neg hr,hp]
  show orE (zhN x) _=_
  unfold zhN zq7
  by_cases h1:((zeH x.kind && !zbF x.name 8) || (!zeH x.kind && !x.name.isEmpty))=true
  · rw [if_pos h1,if_pos h1];rfl
  · rw [if_neg h1,if_neg h1]
    by_cases h2:x.legs.length=0
    · rw [if_pos h2,if_pos h2];rfl
    · rw [if_neg h2,if_neg h2]
      by_cases h3:24 < x.legs.length
      · rw [if_pos h3,if_pos h3];rfl
      · rw [if_neg h3,if_neg h3];rfl
attribute [local go_sem] zbr zcq zbO zbd
set_option maxHeartbeats 16000000 in
theorem zi9 (p:ProcV) (cs:Array Value) (w:World) (h:PrcAt w cs p) (hs:p.small):
    Calls Tryz.prog 172 #[.agg cs] w (Ret w (.int .i64 (zay p))):=by
  obtain ⟨A,c,rfl,hlc,hA⟩:=h.ex
  have HAB:=Lib.hid (fun (W:World) (B:Below w.heap.size w W)=>hA.below B)
  have HC:=Lib.hid (show zay p=if !zbF p.airport 6 || !zbF p.name 8 then 5 else if (zb7 p.kind).isEmpty then 17 else if 12 < p.parts.length then 3 else orE (zdO p.kind none p.parts) (if p.parts.isEmpty then 6 else if p.kind=3∧(zaY 2 [] p.parts).isNone then 6 else 0) from rfl)
  have hn:=hs.len
  have ha:=hs.airport
  have hm:=hs.name
  have HSM:=Lib.hid hs.each
  have HLC:=Lib.hid hlc
  clear h hA hs hlc
  go_enter Tryz.func172,Tryz.ntmps172
  go_upto_region 1 with (fail)
  have X0:=Blk.new w (zaf p A c) 131
  have B0:=zad w (.cells (zaf p A c) 131)
  generalize w.alloc _=W at X0 B0 ⊢
  obtain ⟨g0,hg0⟩:∃ g,g=w.heap.size:=⟨_,rfl⟩
  rw [← hg0] at X0 ⊢
  clear hg0
  have c0:W.cell? ⟨g0,0,none⟩=some (.string ⟨p.airport.toArray⟩):=X0.cell 0
  have c1:W.cell? ⟨g0,1,none⟩=some (.string ⟨p.name.toArray⟩):=X0.cell 1
  have c2:W.cell? ⟨g0,2,none⟩=some (.int .u8 p.kind):=X0.cell 2
  have c3:W.cell? ⟨g0,3,none⟩=some (.slice A p.parts.length c):=X0.cell 3
  have kn:=Lib.hid (fun w'=>zcU p.airport 6 w' (by omega))
  have km:=Lib.hid (fun w'=>zcU p.name 8 w' (by omega))
  generalize zbF p.airport 6=na at *
  generalize zbF p.name 8=nb at *
  cases na with
  | false=>
    have HO:=Lib.hid (HC.out.trans (if_pos rfl))
    clear HC
    go_wp2_with (first | (go_at_call 65;(with_reducible refine zae (kn.out _) ?_)) | (go_at_call 65;(with_reducible refine zae (km.out _) ?_)))
    go_ret
    exact Ret.int HO.out.symm B0
  | true=>
  cases nb with
  | false=>
    have HO:=Lib.hid (HC.out.trans (if_pos rfl))
    clear HC
    go_wp2_with (first | (go_at_call 65;(with_reducible refine zae (kn.out _) ?_)) | (go_at_call 65;(with_reducible refine zae (km.out _) ?_)))
    go_ret
    exact Ret.int HO.out.symm B0
  | true=>
  have HC:=Lib.hid (HC.out.trans (if_neg (by decide)))
  go_upto_region 3 with (first | (go_at_call 65;(with_reducible refine zae (kn.out _) ?_)) | (go_at_call 65;(with_reducible refine zae (km.out _) ?_)))
  clear kn km c0 c1
  by_cases hk1:p.kind < 1
  · have HO:=Lib.hid (HC.out.trans (if_pos ((zfq _).2 (.inl hk1))))
    clear HC
    go_wp2
    go_ret
    exact Ret.int HO.out.symm B0
  by_cases hk3:3 < p.kind
  · have HO:=Lib.hid (HC.out.trans (if_pos ((zfq _).2 (.inr hk3))))
    clear HC
    go_wp2
    go_ret
    exact Ret.int HO.out.symm B0
  have HC:=Lib.hid (HC.out.trans (if_neg (fun h=>by rcases (zfq _).1 h with h | h <;> contradiction)))
  have HRK:=Lib.hid (show ∀ k,zku p.kind k=zee p.kind k+1 from zuW (by omega))
  by_cases h12:12 < p.parts.length
  · have HO:=Lib.hid (HC.out.trans (if_pos h12))
    have h12':(12:Int) < (p.parts.length:Int):=by omega
    clear HC h12 HRK
    go_wp2
    go_ret
    exact Ret.int HO.out.symm B0
  have HC:=Lib.hid (HC.out.trans (if_neg h12))
  have h12':¬ (12:Int) < (p.parts.length:Int):=by omega
  clear h12
  go_upto_region 9 with (fail)
  clear h12' c3 c2 hk1 hk3
  have HX:=Lib.hid X0
  have HB:=Lib.hid B0
  clear X0 B0
  go_loopw [3,36] (fun cv iv wr=>∃ k:Nat,k≤p.parts.length∧iv=.int .i64 k∧cv=.bool (zvB (p.parts.take k))∧(∀ x ∈ p.parts.take k,x.kind=2→x.name=[])∧zdO p.kind none p.parts=zdO p.kind (zgp p.parts k) (p.parts.drop k)∧Below W.heap.size W wr) (fun _ iv _=>p.parts.length - (intOf iv).toNat)
  case atStart=>exact ⟨0,by omega,rfl,rfl,by simp,rfl,Below.refl _ _⟩
  case round=>
    obtain ⟨k,hk,rfl,rfl,hcn,hf,BW⟩:=hrel
    have HF:=Lib.hid hf
    have HCN:=Lib.hid hcn
    clear hf hcn
    have BB:=zaa HB.out BW
    have X1:=HX.out.step BW
    by_cases hlt:k < p.parts.length
    · obtain ⟨b,off,cs',hAe,hb,hIs,hAt⟩:=(HAB.out wr BB).get (Below.refl _ _) hlt
      obtain ⟨A2,c2,rfl,hl2,hI2⟩:=hAt.ex
      have HX2:=Lib.hid (fun (W':World) (B:Below wr.heap.size wr W')=>show zgc W' b (off+k * 3) (zan p.parts[k] A2 c2) from ⟨rfl,fun j hj=>by rw [B.cell (p:=⟨b,_,none⟩) hb];exact hIs.2 j hj⟩)
      have hxs:=HSM.out _ (List.getElem_mem hlt)
      have HIL:=Lib.hid (fun (W':World) (B:Below wr.heap.size wr W')=>hI2.below B)
      have HPR:=Lib.hid (fun (j:Nat) (hkj:k=j+1)=>show ∃ y A3 c3,zgp p.parts k=some y∧y.small∧(∀ W',Below wr.heap.size wr W'→zgc W' b (off+j * 3) (zan y A3 c3)) from by
        have hk2:j < p.parts.length:=by omega
        obtain ⟨b',off',cs2,hA',hb',hIs',hAt'⟩:=(HAB.out wr BB).get (Below.refl _ _) hk2
        rw [hAe] at hA'
        obtain ⟨rfl,rfl⟩:b=b'∧off=off':=by simpa using hA'
        obtain ⟨A3,c3,rfl,_,_⟩:=hAt'.ex
        exact ⟨p.parts[j],A3,c3,by rw [hkj];exact List.getElem?_eq_getElem hk2,HSM.out _ (List.getElem_mem hk2),fun W' B=>⟨rfl,fun j' hj=>by rw [B.cell (p:=⟨b,_,none⟩) hb'];exact hIs'.2 j' hj⟩⟩)
      have HPV:=Lib.hid (show k=0→zgp p.parts k=none from fun h=>by rw [h];rfl)
      have HPV1:=Lib.hid (show zgp p.parts (k+1)=some p.parts[k] from List.getElem?_eq_getElem hlt)
      have HD:=Lib.hid (HF.out.trans (zjl p.kind p.parts hlt (zgp p.parts k)))
      have HCB:=Lib.hid (show zvB (p.parts.take (k+1))=(zvB (p.parts.take k) || p.parts[k].kind == 2) by
        unfold zvB
        rw [List.take_succ_eq_append_getElem hlt,List.any_append]
        simp)
      have HCN2:=Lib.hid (fun (hx:p.parts[k].kind=2→p.parts[k].name=[])=>show ∀ x ∈ p.parts.take (k+1),x.kind=2→x.name=[] by
        intro x hx'
        rw [List.take_succ_eq_append_getElem hlt,List.mem_append] at hx'
        rcases hx' with h | h
        · exact HCN.out x h
        · simp only [List.mem_singleton] at h
          subst h
          exact hx)
      have HFIN:=Lib.hid (fun e (he:e ≠ 0) (h:zg5 p.kind (zgp p.parts k) p.parts[k]=e)=>show zay p=e by
        have he':(e != 0)=true:=by simpa using he
        rw [HC.out,HD.out,h];unfold orE;rw [if_pos he',if_pos he'])
      have HNXT:=Lib.hid (fun (h:zg5 p.kind (zgp p.parts k) p.parts[k]=0)=>show zdO p.kind none p.parts=zdO p.kind (some p.parts[k]) (p.parts.drop (k+1)) by
        rw [HD.out,h];rfl)
      clear HF HD HCN
      generalize zvB (p.parts.take k)=cm at *
      generalize zgp p.parts k=pv at *
      generalize p.parts[k]=x at *
      subst hAe
      have hkc:k < c:=by have:=HLC.out;omega
      have hlt':(k:Int) < (p.parts.length:Int):=by omega
      have hns4:p.parts.length≤4000000:=hn
      have i1:zb3 wr b (off+k * 3):=⟨_,HX2.out wr (Below.refl _ _)⟩
      have i2:zcs wr b (off+k * 3)=zan x A2 c2:=zbD (HX2.out wr (Below.refl _ _))
      clear hAt hIs hI2 hb
      go_upto_region 11 with (fail)
      have P2:=Blk.new wr (zan x A2 c2) 183
      have D:=zad wr (.cells (zan x A2 c2) 183)
      have X2:=X1.step D
      have B2:=D
      clear i1 i2 X1 D
      generalize wr.alloc _=W2 at P2 X2 B2 ⊢
      obtain ⟨g6,hg6⟩:∃ g,g=wr.heap.size:=⟨_,rfl⟩
      rw [← hg6] at P2 ⊢
      clear hg6
      have x0:W2.cell? ⟨g6,0,none⟩=some (.int .u8 x.kind):=P2.cell 0
      have p2:W2.cell? ⟨g0,2,none⟩=some (.int .u8 p.kind):=X2.cell 2
      have kr:=Lib.hid (zgU p.kind x.kind W2)
      obtain ⟨q,hq⟩:∃ q,zku p.kind x.kind=q:=⟨_,rfl⟩
      have HQ:=Lib.hid (show q=zee p.kind x.kind+1 by rw [← hq];exact HRK.out _)
      have HQ0:=Lib.hid (show 0≤q by have:=HQ.out;have h1:=(zis x.kind (zb7 p.kind) 0).1;have h2:zee p.kind x.kind=zdk x.kind (zb7 p.kind) 0:=rfl;omega)
      rw [hq] at kr
      clear hq
      go_upto_region 12 with (go_at_call 175;(with_reducible refine zaj kr.out ?_);intro w3 b3 _ _ _)
      have X3:=X2.step b3
      have P3:=P2.step b3
      have B3:=zaa B2 b3
      clear kr x0 p2 X2 P2 B2 b3
      by_cases hq0:q=0
      · have HO:=Lib.hid (HFIN.out 17 (by decide) (by rw [zit];exact if_pos (by have:=HQ.out;omega)))
        have e0:(q == 0)=true:=by simpa using hq0
        clear HC HFIN HNXT hq0
        go_wp2
        go_ret
        exact Ret.int HO.out.symm (zaa BB B3)
      have e0:(q == 0)=false:=by simpa using hq0
      have HRN:=Lib.hid (show ¬ zee p.kind x.kind < 0 by have:=HQ.out;have:=HQ0.out;omega)
      go_upto_if 49 with (fail)
      clear e0 hq0
      go_cut [7,8] from 49 to 85 (fun _ _ wx=>zkv p.kind pv x=0∧Blk wx g6 (zan x A2 c2)∧Blk wx g0 (zaf p (some ⟨b,off,none⟩) c)∧Below wr.heap.size wr wx)
      case first=>
        by_cases hi0:k=0
        · have hpv:=HPV.out hi0
          have hi0':¬ (0:Int) < (k:Int):=by omega
          have HPP:=Lib.hid (show zkv p.kind pv x=0 by rw [hpv];rfl)
          have PP:=Lib.hid P3
          have XX:=Lib.hid X3
          clear hpv hi0 P3 X3
          go_wp2
          go_meet
          exact ⟨HPP.out,PP.out,XX.out,B3⟩
        · obtain ⟨j,hkj⟩:∃ j,k=j+1:=⟨k - 1,by omega⟩
          have hi0':(0:Int) < (k:Int):=by omega
          have hk':(k:Int) - 1=(j:Int):=by omega
          obtain ⟨y,A3,c3,hpv,hys,hyi⟩:=HPR.out j hkj
          have hjl:(j:Int) < (p.parts.length:Int):=by omega
          have hjc:j < c:=by omega
          have HY:=Lib.hid hyi
          have HPV2:=Lib.hid hpv
          clear hpv hi0 hkj hyi
          have c3p:w3.cell? ⟨g0,3,none⟩=some (.slice (some ⟨b,off,none⟩) p.parts.length c):=X3.cell 3
          have i1:zb3 w3 b (off+j * 3):=⟨_,HY.out w3 B3⟩
          have i2:zcs w3 b (off+j * 3)=zan y A3 c3:=zbD (HY.out w3 B3)
          go_upto_region 16 with (fail)
          have P8:=Blk.new w3 (zan y A3 c3) 183
          have D:=zad w3 (.cells (zan y A3 c3) 183)
          have X4:=X3.step D
          have P4:=P3.step D
          have B4:=zaa B3 D
          clear i1 i2 c3p X3 P3 B3 D
          generalize w3.alloc _=W4 at P4 P8 X4 B4 ⊢
          generalize w3.heap.size=g8 at P8 ⊢
          have y0:W4.cell? ⟨g8,0,none⟩=some (.int .u8 y.kind):=P8.cell 0
          have p2:W4.cell? ⟨g0,2,none⟩=some (.int .u8 p.kind):=X4.cell 2
          have kr:=Lib.hid (zgU p.kind y.kind W4)
          obtain ⟨s,hs2⟩:∃ s,zku p.kind y.kind=s:=⟨_,rfl⟩
          have HS:=Lib.hid (show s=zee p.kind y.kind+1 by rw [← hs2];exact HRK.out _)
          rw [hs2] at kr
          clear hs2
          have HP:=Lib.hid (show zkv p.kind pv x=if q < s∨(q=s∧zw0 x.name y.name=true) then 9 else if q=s∧x.name=y.name then 7 else 0 by
            rw [HPV2.out]
            show zqZ p.kind y x=_
            unfold zqZ
            have h1:=HQ.out
            have h2:=HS.out
            have a1:(zee p.kind x.kind < zee p.kind y.kind) ↔ q < s:=by omega
            have a2:(zee p.kind x.kind=zee p.kind y.kind) ↔ q=s:=by omega
            simp only [a1,a2])
          have HFIN2:=Lib.hid (fun e (he:e ≠ 0) (h:zkv p.kind pv x=e)=>show zay p=e from HFIN.out e he (by rw [zit,if_neg HRN.out,h];unfold orE;rw [if_pos (by simpa using he)]))
          go_upto_region 17 with (go_at_call 175;(with_reducible refine zaj kr.out ?_);intro w5 b5 _ _ _)
          have P5:=P4.step b5
          have Q5:=P8.step b5
          have XX:=Lib.hid (X4.step b5)
          have B5:=zaa B4 b5
          have x1:w5.cell? ⟨g6,1,none⟩=some (.string ⟨x.name.toArray⟩):=P5.cell 1
          have y1:w5.cell? ⟨g8,1,none⟩=some (.string ⟨y.name.toArray⟩):=Q5.cell 1
          have hls:Op.bytesLess x.name y.name=zw0 x.name y.name:=rfl
          have PP:=Lib.hid P5
          clear kr y0 p2 P4 P5 P8 Q5 X4 B4 b5 HC
          by_cases h1:q < s
          · have HO:=Lib.hid (HFIN2.out 9 (by decide) (HP.out.trans (if_pos (.inl h1))))
            clear hls HP
            go_wp2
            go_ret
            exact Ret.int HO.out.symm (zaa BB B5)
          · by_cases h2:q=s
            · subst h2
              have h2':(q == q)=true:=by simp
              cases hb:zw0 x.name y.name with
              | true=>
                rw [hb] at hls HP
                have HO:=Lib.hid (HFIN2.out 9 (by decide) (HP.out.trans (if_pos (.inr ⟨rfl,rfl⟩))))
                clear HP hb h1
                go_wp2
                go_ret
                exact Ret.int HO.out.symm (zaa BB B5)
              | false=>
                rw [hb] at hls HP
                have HP:=Lib.hid (HP.out.trans (if_neg (by rintro (h | ⟨_,h⟩);exact absurd h (Int.lt_irrefl _);cases h)))
                clear hb h1
                by_cases hn:x.name=y.name
                · have hn':(x.name == y.name)=true:=by simpa using hn
                  have HO:=Lib.hid (HFIN2.out 7 (by decide) (HP.out.trans (if_pos ⟨rfl,hn⟩)))
                  clear HP hn
                  go_wp2
                  go_ret
                  exact Ret.int HO.out.symm (zaa BB B5)
                · have hn':(x.name == y.name)=false:=by simpa using hn
                  have HO:=Lib.hid (HP.out.trans (if_neg (fun h=>hn h.2)))
                  clear HP hn
                  go_wp2
                  go_meet
                  exact ⟨HO.out,PP.out,XX.out,B5⟩
            · have h2':(q == s)=false:=by simpa using h2
              have HO:=Lib.hid ((HP.out.trans (if_neg (by rintro (h | ⟨h,_⟩) <;> omega))).trans (if_neg (fun h=>h2 h.1)))
              clear hls HP h2
              go_wp2
              go_meet
              exact ⟨HO.out,PP.out,XX.out,B5⟩
      case rest=>
        obtain ⟨hpo,P4,X4,B4⟩:=hcut
        have HPE:=Lib.hid (zuY HRN.out hpo)
        clear hpo P3 X3 B3 HPR HPV HQ HQ0 HRN HX2
        generalize zg5 p.kind pv x=pe at *
        have x0:wc.cell? ⟨g6,0,none⟩=some (.int .u8 x.kind):=P4.cell 0
        have x1:wc.cell? ⟨g6,1,none⟩=some (.string ⟨x.name.toArray⟩):=P4.cell 1
        have hnm:=hxs.name
        have kn:=Lib.hid (fun w'=>zcU x.name 8 w' (by omega))
        have N1:=Lib.hid (show zeH x.kind=(x.kind == 1 || x.kind == 3) from rfl)
        have N2:=Lib.hid (show x.kind=2→zeH x.kind=false from fun h=>by rw [h];rfl)
        generalize zeH x.kind=nk at HPE N1 N2
        go_upto_region 21 with (fail)
        go_cut [9] from 86 to 93 (fun v wx=>v=.bool nk∧wx=wc)
        case first=>
          obtain ⟨k1,hk1⟩:∃ t,(x.kind == 1)=t:=⟨_,rfl⟩
          obtain ⟨k3,hk3⟩:∃ t,(x.kind == 3)=t:=⟨_,rfl⟩
          have NQ:=Lib.hid (show nk=(k1 || k3) by rw [N1.out,hk1,hk3])
          clear HPE N1
          cases k1 <;> cases k3
          all_goals
            go_wp2
            go_meet
            exact ⟨by rw [NQ.out];rfl,by trivial⟩
        case rest=>
        obtain ⟨rfl,rfl⟩:=hcut
        clear N1
        obtain ⟨nb,hnb⟩:∃ t,zbF x.name 8=t:=⟨_,rfl⟩
        obtain ⟨ne,hne⟩:∃ t,x.name.isEmpty=t:=⟨_,rfl⟩
        have hne2:(x.name == [])=ne:=by rw [← hne];cases x.name <;> rfl
        have HNE:=Lib.hid hne
        rw [hnb] at kn HPE
        rw [hne] at HPE
        clear hnb hne
        obtain ⟨bad,hbad⟩:∃ t,((nk && !nb) || (!nk && !ne))=t:=⟨_,rfl⟩
        rw [hbad] at HPE
        have HBD:=Lib.hid hbad
        clear hbad
        go_upto_region 22 with (fail)
        go_cut [109] from 94 to 108 (fun v wx=>v=.bool bad∧wx=wc)
        case first=>
          clear HPE HNE N2
          cases nk <;> cases nb <;> cases ne
          all_goals
            go_wp2_with (go_at_call 65;(with_reducible refine zae (kn.out _) ?_))
            go_meet
            exact ⟨by rw [← HBD.out];rfl,by trivial⟩
        case rest=>
        obtain ⟨rfl,rfl⟩:=hcut
        clear hne2 kn
        cases bad with
        | true=>
          have HO:=Lib.hid (HFIN.out 5 (by decide) (HPE.out.trans (if_pos rfl)))
          clear HC HFIN HNXT HPE
          go_wp2
          go_ret
          exact Ret.int HO.out.symm (zaa BB B4)
        | false=>
        have HPE:=Lib.hid (HPE.out.trans (if_neg (by simp)))
        have HNM:=Lib.hid (show x.kind=2→x.name=[] from fun h=>by
          have h1:=N2.out h
          have h2:=HBD.out
          rw [h1] at h2
          have h3:=HNE.out
          cases ne with
          | true=>exact List.isEmpty_iff.1 h3
          | false=>simp at h2)
        clear HBD HNE N2 x1
        go_upto_region 24 with (fail)
        have i1:zb3 wc g6 0:=⟨_,P4.is_prt rfl⟩
        have i2:zcs wc g6 0=zan x A2 c2:=zbD (P4.is_prt rfl)
        have p2:wc.cell? ⟨g0,2,none⟩=some (.int .u8 p.kind):=X4.cell 2
        have kl:=Lib.hid (zsw p.kind x A2 c2 wc hl2 (HIL.out wc B4) hxs)
        generalize zq7 p.kind x.kind x.legs=le at *
        go_upto_region 25 with (go_at_call 204;(with_reducible refine zaj kl.out ?_);intro w6 b6 _ _ _)
        have P6:=P4.step b6
        have B6:=zaa B4 b6
        clear i1 i2 p2 kl X4 P4 B4 b6 x0
        by_cases hle:le=0
        rotate_left
        · have HO:=Lib.hid (HFIN.out le hle HPE.out)
          have hle':(le != 0)=true:=by simpa using hle
          clear HC HFIN HNXT HPE hle
          go_wp2
          go_ret
          exact Ret.int HO.out.symm (zaa BB B6)
        have HN:=Lib.hid (HNXT.out (HPE.out.trans hle))
        subst hle
        have x0:w6.cell? ⟨g6,0,none⟩=some (.int .u8 x.kind):=P6.cell 0
        obtain ⟨t2,ht2⟩:∃ t,(x.kind == 2)=t:=⟨_,rfl⟩
        have HT2:=Lib.hid ht2
        clear P6 HFIN HNXT HPE HC
        cases cm <;> cases t2
        all_goals
          go_wp2
          go_roundw
          case rel=>exact ⟨k+1,by omega,by go_num,by rw [HCB.out,HT2.out];rfl,HCN2.out HNM.out,by rw [HPV1.out];exact HN.out,zaa BW B6⟩
          case measure=>simp [intOf];omega
    · have hlt':¬ (k:Int) < (p.parts.length:Int):=by omega
      have HPT:=Lib.hid (show (zaY 2 [] p.parts).isSome=zvB (p.parts.take k) by
        rw [List.take_of_length_le (by omega)]
        exact ztG (by have:=HCN.out;rwa [List.take_of_length_le (by omega)] at this))
      have HC:=Lib.hid (show zay p=if p.parts.isEmpty then 6 else if p.kind=3∧(zaY 2 [] p.parts).isNone then 6 else 0 by rw [HC.out,HF.out,List.drop_of_length_le (by omega)];rfl)
      have c3:wr.cell? ⟨g0,3,none⟩=some (.slice A p.parts.length c):=X1.cell 3
      have c2:wr.cell? ⟨g0,2,none⟩=some (.int .u8 p.kind):=X1.cell 2
      clear HF
      generalize zvB (p.parts.take k)=cm at *
      generalize zaY 2 [] p.parts=r at *
      by_cases h0:p.parts.length=0
      · have HO:=Lib.hid (HC.out.trans (if_pos (by simpa using h0)))
        have e0:((p.parts.length:Int) == 0)=true:=by rw [h0];rfl
        clear HC h0
        go_wp2
        go_ret
        exact Ret.int HO.out.symm BB
      have HC:=Lib.hid (HC.out.trans (if_neg (by simpa using h0)))
      have e0:((p.parts.length:Int) == 0)=false:=by rw [beq_eq_false_iff_ne];omega
      clear h0
      by_cases h3:p.kind=3
      · have e3:(p.kind == 3)=true:=by simpa using h3
        cases cm with
        | true=>
          have HO:=Lib.hid (HC.out.trans (if_neg (by rintro ⟨_,hh⟩;have:=HPT.out;cases r <;> simp at this hh)))
          clear HC h3
          go_wp2
          go_ret
          exact Ret.int HO.out.symm BB
        | false=>
          have HO:=Lib.hid (HC.out.trans (if_pos ⟨h3,by have:=HPT.out;cases r <;> simp at this ⊢⟩))
          clear HC h3
          go_wp2
          go_ret
          exact Ret.int HO.out.symm BB
      · have e3:(p.kind == 3)=false:=by simpa using h3
        have HO:=Lib.hid (HC.out.trans (if_neg (fun hh=>h3 hh.1)))
        clear HC h3
        go_wp2
        go_ret
        exact Ret.int HO.out.symm BB
end Go.Proofs.YtgoeedohgomodaaGreatDoor
namespace Go.Proofs.YtgoeedohgomodaaGreatDoor
open Go.RowKit Go.Sort
set_option maxRecDepth 100000
def zvl:List Leg→Bool
  | []=>false
  | f :: _=>f.ty == 1
theorem zuz {a b:List Leg} (h:(!a.isEmpty && zvl b)=false):zdR a b=b:=by
  unfold zdR
  rw [if_neg]
  intro hs
  cases b with
  | nil=>rw [zhM] at hs;cases hs
  | cons f r=>
    cases ha:a.getLast? with
    | none=>unfold zdM at hs;rw [ha] at hs;cases hs
    | some last=>
      rw [zfi a last f r ha] at hs
      have hne:a.isEmpty=false:=by cases a with
        | nil=>cases ha
        | cons x y=>rfl
      have h1:(f.ty == 1)=false:=by simpa [hne,zvl] using h
      rw [h1] at hs
      cases hs
set_option maxHeartbeats 4000000 in
theorem zkU (a b:List Leg) (A B:Option Addr) (ca cb:Nat) (w:World) (hA:Items w A 13 (a.map Leg.arr)) (hB:Items w B 13 (b.map Leg.arr)) (hca:a.length≤ca) (hcb:b.length≤cb) (hna:a.length≤100000000) (hnb:b.length≤100000000):
    Calls Tryz.prog 176 #[.slice A a.length ca, .slice B b.length cb] w (zrM w 64 13 (zbo a b).length ((zbo a b).map Leg.arr)):=by
  have HA:=Lib.hid (fun (W:World) (D:Below w.heap.size w W)=>hA.below D)
  have HB:=Lib.hid (fun (W:World) (D:Below w.heap.size w W)=>hB.below D)
  have HCA:=Lib.hid hca
  have HCB:=Lib.hid hcb
  clear hB hca hcb
  go_enter Tryz.func176,Tryz.ntmps176
  go_upto_region 3 with (at_builtin;refine zav rfl (.tmp 7) (.tmp 8) _ 64 13 112 _ zeJ rfl (by omega) Tryz.underlying119 rfl (GOut.nil w.heap.size w 64 13) rfl (a.map Leg.arr) A a.length ca (List.length_map _) rfl hA (zbZ _) (zdU _) (by rw [List.length_nil];unfold maxLen;omega) (by rw [List.length_nil];omega) (Nat.le_refl _) ?_;intro v1 w1 O1 G1 N1;rw [List.nil_append] at O1;obtain ⟨A3,c3,h3⟩:=O1.len;rw [List.length_map] at h3;subst h3)
  have D1:Below w.heap.size w w1:=(GOut.nil w.heap.size w 64 13).below_grown G1 (Below.refl _ _) (Nat.le_refl _) (Nat.le_refl _)
  clear G1 N1 hA
  have OH:=Lib.hid O1
  have DH:=Lib.hid D1
  clear O1 D1
  obtain ⟨ea,hea⟩:∃ t,a.isEmpty=t:=⟨_,rfl⟩
  have HEA:=Lib.hid hea
  clear hea
  obtain ⟨fl,hfl⟩:∃ t,(!ea && zvl b)=t:=⟨_,rfl⟩
  have HFL:=Lib.hid hfl
  clear hfl
  go_cut [24] from 7 to 23 (fun v wx=>v=.bool fl∧wx=w1)
  case first=>
    cases ea with
    | true=>
      have e1:¬ (0:Int) < (a.length:Int):=by have:=HEA.out;simp at this;simp [this]
      have e2:¬ 0 < a.length:=by omega
      go_wp2
      go_meet
      exact ⟨by rw [← HFL.out];rfl,rfl⟩
    | false=>
      have e1:(0:Int) < (a.length:Int):=by have:=HEA.out;have:0 < a.length:=List.length_pos_iff.2 (by simpa using this);omega
      have e2:0 < a.length:=by omega
      by_cases hb0:b=[]
      · have e3:¬ (0:Int) < (b.length:Int):=by simp [hb0]
        have e4:¬ 0 < b.length:=by omega
        have HO:=Lib.hid (show fl=false by rw [← HFL.out,hb0];rfl)
        clear hb0
        go_wp2
        go_meet
        exact ⟨by rw [HO.out],rfl⟩
      · have e3:(0:Int) < (b.length:Int):=by have:0 < b.length:=List.length_pos_iff.2 hb0;omega
        have e4:0 < b.length:=by omega
        have hc0:0 < cb:=by have:=HCB.out;omega
        obtain ⟨b2,o2,rfl,hb2,HL2⟩:=(HB.out _ DH.out).leg hb0
        have HY:=Lib.hid (show fl=(b[0].ty == 1) by
          rw [← HFL.out]
          cases b with
          | nil=>exact absurd rfl hb0
          | cons f r=>rfl)
        have f0:w1.cell? ⟨b2,o2,none⟩=some (.int .u8 b[0].ty):=by
          have:=HL2 _ (Below.refl _ _) 0 e4 0 (by omega)
          have q:w1.cell? ⟨b2,o2,none⟩=b[0].arr[0]?:=by simpa using this
          exact q
        clear hb0 HL2
        generalize b[0].ty=ty at *
        obtain ⟨q1,h1⟩:∃ t,(ty == 1)=t:=⟨_,rfl⟩
        have HQ:=Lib.hid (show fl=q1 by rw [HY.out,h1])
        cases q1
        all_goals
          go_wp2
          go_meet
          exact ⟨by rw [HQ.out],rfl⟩
  case rest=>
  obtain ⟨rfl,rfl⟩:=hcut
  go_upto_if 24 with (fail)
  go_cut [1] from 25 to 56 (fun v wx=>∃ B' c',v=.slice B' (zdR a b).length c'∧(zdR a b).length≤c'∧Items wx B' 13 ((zdR a b).map Leg.arr)∧Below wc.heap.size wc wx)
  case first=>
    cases fl
    case false=>
      have hE:=HFL.out
      have HT:=Lib.hid (show zdR a b=b from zuz (by rw [HEA.out];exact hE))
      clear hE HFL
      go_wp2
      go_meet
      exact ⟨B,cb,by rw [HT.out],by rw [HT.out];exact HCB.out,by rw [HT.out];exact HB.out _ DH.out,Below.refl _ _⟩
    case true=>
      have hE:=HFL.out
      clear HFL
      obtain ⟨ha0,hb0⟩:ea=false∧zvl b=true:=by simpa using hE
      have hane:a ≠ []:=by have:=HEA.out;rw [ha0] at this;simpa using this
      have hbne:b ≠ []:=by rintro rfl;cases hb0
      have HH:=Lib.hid hb0
      clear hE ha0 hb0 HEA
      obtain ⟨b1,o1,rfl,hb1,HL1⟩:=(HA.out _ DH.out).leg hane
      obtain ⟨b2,o2,rfl,hb2,HL2⟩:=(HB.out _ DH.out).leg hbne
      obtain ⟨m,hm⟩:∃ m,a.length=m+1:=⟨a.length - 1,by have:=List.length_pos_iff.2 hane;omega⟩
      have hml:m < a.length:=by omega
      have hlast:a.getLast? = some a[m]:=by rw [List.getLast?_eq_getElem?,hm];exact List.getElem?_eq_getElem hml
      have i1:zaJ wc b1 (o1+m * 13):=⟨_,HL1 _ (Below.refl _ _) m hml⟩
      have i2:za6 wc b1 (o1+m * 13)=a[m]:=zaz (HL1 _ (Below.refl _ _) m hml)
      generalize a[m]=last at *
      have hk':(a.length:Int) - 1=(m:Int):=by omega
      have hmi:(m:Int) < (a.length:Int):=by omega
      have hmc:m < ca:=by have:=HCA.out;omega
      have HL1':=Lib.hid HL1
      have HL2':=Lib.hid HL2
      have HLA:=Lib.hid hlast
      clear HL1 HL2 hlast hm hane
      go_upto_region 5 with (fail)
      have P3:=Blk.new wc last.arr 64
      have D3:=zad wc (.cells last.arr 64)
      have HLB2:=Lib.hid (fun W D i hi=>HL2'.out W (zaa D3 D) i hi)
      clear i1 i2 hml hmi hmc hk' HL1' HL2'
      generalize wc.alloc _=w3 at P3 D3 HLB2 ⊢
      generalize wc.heap.size=g6 at P3 ⊢
      obtain ⟨f,r,hbe⟩:=List.exists_cons_of_ne_nil hbne
      have HBE:=Lib.hid hbe
      have hn0:0 < b.length:=List.length_pos_iff.2 hbne
      have hn0':(0:Int) < (b.length:Int):=by omega
      have hcb:b.length≤cb:=HCB.out
      have hc0:0 < cb:=by omega
      have HF:=Lib.hid (fun W (D:Below w3.heap.size w3 W)=>show Is_leg W b2 o2 f by
        have:=HLB2.out W D 0 hn0
        simpa [hbe] using this)
      have HG:=Lib.hid (fun g r' (hr:r=g :: r') W (D:Below w3.heap.size w3 W)=>show Is_leg W b2 (o2+13) g by
        have:=HLB2.out W D 1 (by rw [hbe,hr];simp)
        simpa [hbe,hr] using this)
      have HSH:=Lib.hid (show zdM a b=(f.ty == 1 && zdq last.ty && last.fix == f.fix && zwM last r) by rw [HBE.out];exact zfi a last f r HLA.out)
      clear hbe hbne
      have t0:∀ d os,(grow (redrawn w3 d) os).cell? ⟨g6,0,none⟩=some (.int .u8 last.ty):=fun d os=>(P3.step (below_regrown w3 d os)).cell 0
      have t1:∀ d os,(grow (redrawn w3 d) os).cell? ⟨g6,1,none⟩=some (.string ⟨last.fix.toArray⟩):=fun d os=>(P3.step (below_regrown w3 d os)).cell 1
      have t2:∀ d os,zaJ (grow (redrawn w3 d) os) g6 0:=fun d os=>⟨_,(P3.step (below_regrown w3 d os)).is_leg⟩
      have t3:∀ d os,za6 (grow (redrawn w3 d) os) g6 0=last:=fun d os=>zaz ((P3.step (below_regrown w3 d os)).is_leg)
      have f1:∀ d os,(grow (redrawn w3 d) os).cell? ⟨b2,o2+1,none⟩=some (.string ⟨f.fix.toArray⟩):=fun d os=>HF.out _ (below_regrown w3 d os) 1 (by omega)
      have k1:∀ d os,Calls Tryz.prog 92 #[.int .u8 last.ty] (grow (redrawn w3 d) os) fun e w''=>e=.returned (.bool (zdq last.ty))∧∃ q:Regrown,w''=grow (redrawn w3 q.d) q.os:=fun d os=>Calls.regrown_ret ((zjh last.ty _).mono fun e w' h=>by obtain ⟨h1,h2⟩:=h;subst h1 h2;exact ⟨rfl,Below.refl _ _⟩)
      have HK2:=Lib.hid (fun g d os=>show Calls Tryz.prog 91 #[last.val,g.val] (grow (redrawn w3 d) os) fun e w''=>e=.returned (.bool (last.joinsB g))∧∃ q:Regrown,w''=grow (redrawn w3 q.d) q.os from Calls.regrown_ret (zfH last g _))
      have h1:(f.ty == 1)=true:=by have:=HH.out;rw [HBE.out] at this;exact this
      obtain ⟨q3,h3⟩:∃ t,(last.fix == f.fix)=t:=⟨_,rfl⟩
      generalize zdq last.ty=q2 at *
      rw [h1,h3] at HSH
      obtain ⟨sh,hsh⟩:∃ t,zdM a b=t:=⟨_,rfl⟩
      have HS:=Lib.hid hsh
      have HS2:=Lib.hid (hsh.symm.trans HSH.out)
      clear hsh HSH HH h1
      go_cut [54] from 31 to 54 (fun v wx=>v=.bool sh∧Below w3.heap.size w3 wx)
      case first=>
        have HS:=HS2
        cases q2 with
        | false=>
          have k2:=k1
          refine wp_region_quiet_below (by kernel_rfl) (by kernel_rfl) ?_
          repeat (go_big_quiet_step (with_reducible first | exact k1 _ _ | exact k2 _ _))
          refine wpQuiet_nil ?_
          intro _ hw'
          obtain ⟨⟨dq,osq⟩,hw''⟩:=hw'
          subst hw''
          go_wp2
          go_meet
          exact ⟨by first | (rw [HS.out];done) | (rw [HS.out];rfl),below_regrown w3 dq osq⟩
        | true=>
        cases q3 with
        | false=>
          have k2:=k1
          refine wp_region_quiet_below (by kernel_rfl) (by kernel_rfl) ?_
          repeat (go_big_quiet_step (with_reducible first | exact k1 _ _ | exact k2 _ _))
          refine wpQuiet_nil ?_
          intro _ hw'
          obtain ⟨⟨dq,osq⟩,hw''⟩:=hw'
          subst hw''
          go_wp2
          go_meet
          exact ⟨by first | (rw [HS.out];done) | (rw [HS.out];rfl),below_regrown w3 dq osq⟩
        | true=>
        cases hr:r with
        | nil=>
          have e1:b.length=1:=by rw [HBE.out,hr];rfl
          have HE:=Lib.hid e1
          have e1:((b.length:Int) == 1)=true:=by rw [HE.out];rfl
          have HS:=Lib.hid (show sh=true by rw [HS.out,hr];rfl)
          have k2:=k1
          refine wp_region_quiet_below (by kernel_rfl) (by kernel_rfl) ?_
          repeat (go_big_quiet_step (with_reducible first | exact k1 _ _ | exact k2 _ _))
          refine wpQuiet_nil ?_
          intro _ hw'
          obtain ⟨⟨dq,osq⟩,hw''⟩:=hw'
          subst hw''
          go_wp2
          go_meet
          exact ⟨by first | (rw [HS.out];done) | (rw [HS.out];rfl),below_regrown w3 dq osq⟩
        | cons g r'=>
          have e1:((b.length:Int) == 1)=false:=by rw [beq_eq_false_iff_ne,HBE.out,hr];simp;omega
          have e2:(1:Int) < (b.length:Int):=by rw [HBE.out,hr];simp;omega
          have e3:1 < cb:=by omega
          have HG2:=Lib.hid (HG.out g r' hr)
          have g1:∀ d os,zaJ (grow (redrawn w3 d) os) b2 (o2+13):=fun d os=>⟨_,HG2.out _ (below_regrown w3 d os)⟩
          have g2:∀ d os,za6 (grow (redrawn w3 d) os) b2 (o2+13)=g:=fun d os=>zaz (HG2.out _ (below_regrown w3 d os))
          have HS:=Lib.hid (show sh=last.joinsB g by rw [HS.out,hr];rfl)
          have k2:=HK2.out g
          clear hr HG
          generalize last.joinsB g=q5 at *
          cases q5
          · skip
            refine wp_region_quiet_below (by kernel_rfl) (by kernel_rfl) ?_
            repeat (go_big_quiet_step (with_reducible first | exact k1 _ _ | exact k2 _ _))
            refine wpQuiet_nil ?_
            intro _ hw'
            obtain ⟨⟨dq,osq⟩,hw''⟩:=hw'
            subst hw''
            go_wp2
            go_meet
            exact ⟨by first | (rw [HS.out];done) | (rw [HS.out];rfl),below_regrown w3 dq osq⟩
          · skip
            refine wp_region_quiet_below (by kernel_rfl) (by kernel_rfl) ?_
            repeat (go_big_quiet_step (with_reducible first | exact k1 _ _ | exact k2 _ _))
            refine wpQuiet_nil ?_
            intro _ hw'
            obtain ⟨⟨dq,osq⟩,hw''⟩:=hw'
            subst hw''
            go_wp2
            go_meet
            exact ⟨by first | (rw [HS.out];done) | (rw [HS.out];rfl),below_regrown w3 dq osq⟩
      case rest=>
      obtain ⟨rfl,D4⟩:=hcut
      clear t0 t1 t2 t3 f1 k1 h3 HK2 HS2 HF HG
      cases sh with
      | false=>
        have HT:=Lib.hid (show zdR a b=b by unfold zdR;rw [HS.out];rfl)
        clear HS
        go_wp2
        go_meet
        exact ⟨some ⟨b2,o2,none⟩,cb,by rw [HT.out],by rw [HT.out];exact HCB.out,by rw [HT.out];exact HB.out _ (zaa DH.out (zaa D3 D4)),zaa D3 D4⟩
      | true=>
        have HT:=Lib.hid (show zdR a b=r by unfold zdR;rw [HS.out,if_pos rfl,HBE.out];rfl)
        have hrl:(r.length:Int)=(b.length:Int) - 1:=by rw [HBE.out];simp
        clear HS
        have hbr:b.length=r.length+1:=by rw [HBE.out];rfl
        have HHB:=Lib.hid hbr
        have D5:=zaa D3 D4
        have HI5:=Lib.hid (HB.out _ (zaa DH.out D5))
        clear hbr
        go_wp2
        · rename_i h1
          go_meet
          have hr0:r=[]:=by
            have:=HHB.out
            rcases r with _ | ⟨x,t⟩
            · rfl
            · exfalso;simp at this;omega
          subst hr0
          exact ⟨some ⟨b2,o2,none⟩,0,by rw [HT.out,HHB.out];rfl,by rw [HT.out];simp,by rw [HT.out];exact ⟨fun h=>absurd rfl h⟩,D5⟩
        · go_meet
          exact ⟨some ⟨b2,o2+13,none⟩,cb - 1,by rw [HT.out,HHB.out];rfl,by rw [HT.out];have:=HHB.out;omega,by rw [HT.out];have:=HI5.out;rw [HBE.out] at this;exact Items.tail this,D5⟩
  case rest=>
  obtain ⟨B',c',rfl,hc',hI',D2⟩:=hcut
  have HT:=Lib.hid (ziJ a b)
  have HJ:=Lib.hid (zjF a b)
  generalize zdR a b=tj at *
  generalize zbo a b=jg at *
  have O4:=Lib.hid (OH.out.below (W':=wc) (fun k _ hk=>D2.block k hk))
  have hsz:w.heap.size≤wc.heap.size:=Nat.le_trans DH.out.size D2.size
  have HI:=Lib.hid hI'
  have HZ:=Lib.hid hsz
  have HNA:=Lib.hid hna
  have HNB:=Lib.hid hnb
  have BB:=Lib.hid (zaa DH.out D2)
  clear hI' hc' hsz D2 OH DH HA HB hna hnb
  go_wp2_with (at_builtin;refine zav rfl (.tmp 57) (.tmp 58) _ 64 13 112 _ zeJ rfl (by omega) Tryz.underlying119 rfl O4.out rfl (tj.map Leg.arr) B' tj.length c' (List.length_map _) rfl HI.out (zbZ _) (zdU _) (by rw [List.length_map];have:=HT.out;have:=HNA.out;have:=HNB.out;unfold maxLen;omega) (by rw [List.length_map];have:=HT.out;have:=HNA.out;have:=HNB.out;omega) HZ.out ?_;intro v' W' O' G' N';rw [← List.map_append,← HJ.out] at O';obtain ⟨A4,c4,h4⟩:=O'.len;rw [List.length_map] at h4;subst h4)
  go_ret
  exact ⟨A4,c4,rfl,O',O4.out.below_grown G' BB.out (Nat.le_refl _) HZ.out⟩
end Go.Proofs.YtgoeedohgomodaaGreatDoor
namespace Go.Proofs.YtgoeedohgomodaaGreatDoor
open Go.RowKit Go.Sort
set_option maxRecDepth 100000
attribute [local go_sem] zbr zcq zbO zbd
set_option maxHeartbeats 4000000 in
theorem zoJ (p:ProcV) (cs:Array Value) (w:World) (h:PrcAt w cs p) (hs:p.small):
    Calls Tryz.prog 133 #[.agg cs] w (RetLgs w (zbf p)):=by
  obtain ⟨A,c,rfl,hlc,hA⟩:=h.ex
  have HPA:=Lib.hid (fun (W:World) (B:Below w.heap.size w W)=>h.below B)
  have HAB:=Lib.hid (fun (W:World) (B:Below w.heap.size w W)=>hA.below B)
  have HC:=Lib.hid (show zbf p=if zay p ≠ 0 then [] else ((zaY 4 [] p.parts).map PartV.legs).getD [] from rfl)
  have hn:=hs.len
  have HSM:=Lib.hid hs.each
  have HS:=Lib.hid hs
  have HLC:=Lib.hid hlc
  clear h hA hs hlc
  go_enter Tryz.func133,Tryz.ntmps133
  go_upto_region 1 with (fail)
  have X0:=Blk.new w (zaf p A c) 131
  have B0:=zad w (.cells (zaf p A c) 131)
  generalize w.alloc _=W at X0 B0 ⊢
  obtain ⟨g0,hg0⟩:∃ g,g=w.heap.size:=⟨_,rfl⟩
  rw [← hg0] at X0 ⊢
  clear hg0
  have i1:zaR W g0 0:=⟨_,X0.is_prc rfl⟩
  have i2:za9 W g0 0=zaf p A c:=zaB (X0.is_prc rfl)
  have kc:=Lib.hid (zi9 p (zaf p A c) W (HPA.out W B0) HS.out)
  generalize zbf p=out at *
  by_cases hv:zay p=0
  rotate_left
  · have HO:=Lib.hid (HC.out.trans (if_pos hv))
    generalize zay p=v at *
    have hv':(v != 0)=true:=by simpa using hv
    clear hv HC
    go_wp2_with (go_at_call 172;(with_reducible refine zaj kc.out ?_);intro w1 b1 _ _ _)
    go_ret
    exact RetLgs.nil HO.out (zaa B0 b1)
  have HC:=Lib.hid (HC.out.trans (if_neg (not_not_intro hv)))
  rw [hv] at kc
  clear hv
  go_upto_region 3 with (go_at_call 172;(with_reducible refine zaj kc.out ?_);intro w1 b1 _ _ _)
  have X1:=X0.step b1
  have B1:=zaa B0 b1
  clear kc X0 B0 b1 i1 i2
  have i1:zaR w1 g0 0:=⟨_,X1.is_prc rfl⟩
  have i2:za9 w1 g0 0=zaf p A c:=zaB (X1.is_prc rfl)
  have kp:=Lib.hid (show Calls Tryz.prog 174 #[.agg (zaf p A c), .int .u8 4, .string ⟨#[]⟩] w1 (zic w1 (zaY 4 [] p.parts)) from zgV p A c HLC.out hn 4 [] w1 (HAB.out w1 B1))
  generalize zaY 4 [] p.parts=r at *
  have HO:=Lib.hid (show out=(r.getD zbn).legs by rw [HC.out];cases r <;> rfl)
  clear HC
  go_upto_region 4 with (go_at_call 174;(with_reducible refine zdz kp.out ?_);intro cs2 w2 h2 b2;obtain ⟨A3,c3',rfl,hl3,hI3⟩:=h2.ex)
  have B2:=zaa B1 b2
  have P3:=Blk.new w2 (zan (r.getD zbn) A3 c3') 183
  have D:=zad w2 (.cells (zan (r.getD zbn) A3 c3') 183)
  have B3:=zaa B2 D
  have hI4:=hI3.below D
  clear X1 B2 b2 i1 i2 kp D h2 hI3
  generalize w2.alloc _=W3 at P3 B3 hI4 ⊢
  generalize w2.heap.size=g3 at P3 ⊢
  rw [← HO.out] at hl3 hI4
  have k2:W3.cell? ⟨g3,2,none⟩=some (.slice A3 out.length c3'):=by rw [HO.out];exact P3.cell 2
  go_wp2
  go_ret
  exact ⟨A3,c3',rfl,hl3,hI4,B3⟩
end Go.Proofs.YtgoeedohgomodaaGreatDoor
namespace Go.Proofs.YtgoeedohgomodaaGreatDoor
open Go.RowKit Go.Sort
set_option maxRecDepth 100000
structure Four (W:World) (cs:Array Value) (f:Nat→List Leg):Prop where
  sz:cs.size=12
  at_:∀ i,1≤i→i≤3→∃ A c,cs[i * 3+2]? = some (.slice A (f i).length c)∧(f i).length≤c∧Items W A 13 ((f i).map Leg.arr)
theorem Four.below {W W':World} {cs:Array Value} {f:Nat→List Leg} (h:Four W cs f) (b:Below W.heap.size W W'):Four W' cs f:=
  ⟨h.sz,fun i h1 h2=>by obtain ⟨A,c,a,d,e⟩:=h.at_ i h1 h2;exact ⟨A,c,a,d,e.below b⟩⟩
theorem Four.congr {W:World} {cs:Array Value} {f k:Nat→List Leg} (h:Four W cs f) (e:∀ i,1≤i→i≤3→k i=f i):Four W cs k:=
  ⟨h.sz,fun i h1 h2=>by rw [e i h1 h2];exact h.at_ i h1 h2⟩
def ztv:Array Value:=zan zbn none 0 ++ zan zbn none 0 ++ zan zbn none 0 ++ zan zbn none 0
theorem Four.zero (W:World):Four W ztv (fun _=>[]):=⟨rfl,fun i h1 h2=>by
  have:i=1∨i=2∨i=3:=by omega
  rcases this with rfl | rfl | rfl <;> exact ⟨none,0,rfl,Nat.le_refl _,⟨fun h=>absurd rfl h⟩⟩⟩
theorem Blk.items_ne {W:World} {g:Nat} {cs:Array Value} {A:Option Addr} {l:List Leg} (hB:Blk W g cs) (hs:cs.size≤12) (h:Items W A 13 (l.map Leg.arr)) (hne:l ≠ []):∀ a,A=some a→a.block ≠ g:=by
  intro a ha hg
  obtain ⟨b,o,hA,hb,hc⟩:=h.leg hne
  rw [hA] at ha
  injection ha with ha
  subst ha
  dsimp only at hg
  subst hg
  have h0:0 < l.length:=List.length_pos_iff.2 hne
  have:=hc W (Below.refl _ _) 0 h0 12 (by omega)
  rw [hB.cell,Array.getElem?_eq_none (by omega)] at this
  cases hq:l[0] with
  | mk=>rw [hq] at this;simp [Leg.arr] at this
theorem Items.set12 {W:World} {g:Nat} {cs cs':Array Value} {A:Option Addr} {l:List Leg} (h:Items W A 13 (l.map Leg.arr)) (hB:Blk W g cs) (hs:cs.size≤12):Items (W.setRow g cs') A 13 (l.map Leg.arr):=by
  refine h.keepN (fun hne a ha hlt=>?_) (by simp [World.setRow])
  have:=hB.items_ne hs h (by simpa using hne) a ha
  exact setRow_other _ _ _ _ (by omega)
theorem zqt (cs:Array Value) (o:Nat) (v:Array Value) (h:o+v.size≤cs.size) (j:Nat):(splice cs o v)[j]? = if j < o then cs[j]? else if j < o+v.size then v[j - o]? else cs[j]?:=by
  obtain ⟨l⟩:=cs
  obtain ⟨u⟩:=v
  simp only [splice,List.getElem?_toArray,List.size_toArray,List.getElem?_append,List.length_append,List.length_take,List.getElem?_take,List.getElem?_drop] at *
  by_cases h1:j < o
  · have e1:j < min o l.length:=by omega
    have e2:j < min o l.length+u.length:=by omega
    simp [h1,e1,e2]
  · by_cases h2:j < o+u.length
    · have e1:¬ j < min o l.length:=by omega
      have e2:j < min o l.length+u.length:=by omega
      have e3:min o l.length=o:=by omega
      simp [h1,h2,e1,e2,e3]
    · have e2:¬ j < min o l.length+u.length:=by omega
      have e3:min o l.length=o:=by omega
      simp only [h1,h2,e2,if_false]
      congr 1
      omega
theorem zov (cs:Array Value) (o:Nat) (v:Array Value) (h:o+v.size≤cs.size):(splice cs o v).size=cs.size:=by
  obtain ⟨l⟩:=cs
  obtain ⟨u⟩:=v
  simp only [splice,List.size_toArray,List.length_append,List.length_take,List.length_drop] at *
  omega
theorem Four.store {W:World} {g:Nat} {cs:Array Value} {f:Nat→List Leg} (h:Four W cs f) (hB:Blk W g cs) (x:PartV) {A:Option Addr} {c:Nat} (hc:x.legs.length≤c) (hI:Items W A 13 (x.legs.map Leg.arr)) {r:Nat} (hr:r < 4):
    Four (W.setRow g (splice cs (r * 3) (zan x A c))) (splice cs (r * 3) (zan x A c)) (fun i=>if i=r then x.legs else f i):=by
  have hf:r * 3+(zan x A c).size≤cs.size:=by rw [h.sz];show r * 3+3≤12;omega
  refine ⟨by rw [zov _ _ _ hf];exact h.sz,fun i h1 h2=>?_⟩
  rw [zqt _ _ _ hf]
  by_cases e:i=r
  · subst e
    rw [if_pos rfl,if_neg (by omega),if_pos (by show i * 3+2 < i * 3+3;omega)]
    exact ⟨A,c,by rw [show i * 3+2 - i * 3=2 by omega];rfl,hc,hI.set12 hB (Nat.le_of_eq h.sz)⟩
  · obtain ⟨A2,c2,a,d,q⟩:=h.at_ i h1 h2
    rw [if_neg e]
    refine ⟨A2,c2,?_,d,q.set12 hB (Nat.le_of_eq h.sz)⟩
    rw [show (zan x A c).size=3 from rfl]
    by_cases k1:i * 3+2 < r * 3
    · rw [if_pos k1];exact a
    · rw [if_neg k1,if_neg (by omega)];exact a
theorem PrcAt.set4 {W:World} {g:Nat} {v cs:Array Value} {p:ProcV} (h:PrcAt W cs p) (hB:Blk W g (zaf zaA none 0)):PrcAt (W.setRow g v) cs p:=by
  obtain ⟨A,c,rfl,hl,hP⟩:=h.ex
  refine ⟨⟨A,c,rfl,hl,?_⟩⟩
  obtain ⟨css,h1,h2,h3⟩:=hP.ex
  refine ⟨⟨css,h1,h2.keepN (fun hne a ha hlt=>?_) (by simp [World.setRow]),fun i cs x hi hx=>?_⟩⟩
  · have hng:a.block ≠ g:=by
      intro hg
      obtain ⟨b,off,hA,hb,hc⟩:=h2.at_ hne
      rw [hA] at ha
      injection ha with ha
      subst ha
      dsimp only at hg
      subst hg
      have h0:0 < css.length:=List.length_pos_iff.2 hne
      have h0':0 < p.parts.length:=by omega
      obtain ⟨A',c',e,_⟩:=(h3 0 css[0] p.parts[0] (List.getElem?_eq_getElem h0) (List.getElem?_eq_getElem h0')).ex
      have c0:=hc 0 css[0] (List.getElem?_eq_getElem h0) 0 (by omega)
      have c2:=hc 0 css[0] (List.getElem?_eq_getElem h0) 2 (by omega)
      rw [hB.cell,e] at c0 c2
      rcases off with _ | _ | _ | _ | off <;> simp [zaf,zan,zaA] at c0 c2
    exact setRow_other _ _ _ _ (by omega)
  · obtain ⟨A',c',e,hl',hI⟩:=(h3 i cs x hi hx).ex
    exact ⟨⟨A',c',e,hl',hI.set12 hB (by decide)⟩⟩
theorem AwyAt.set2 {W:World} {g:Nat} {v cs:Array Value} {a:AwyV} (h:AwyAt W cs a) (hB:Blk W g (zao zcg none 0)):AwyAt (W.setRow g v) cs a:=by
  obtain ⟨A,c,rfl,hl,hP⟩:=h.ex
  refine ⟨⟨A,c,rfl,hl,hP.keepN (fun hne q hq hlt=>?_) (by simp [World.setRow])⟩⟩
  have hng:q.block ≠ g:=by
    intro hg
    obtain ⟨b,off,hA,hb,hc⟩:=hP.at_ hne
    rw [hA] at hq
    injection hq with hq
    subst hq
    dsimp only at hg
    subst hg
    have h0:0 < (a.pts.map APt.arr).length:=List.length_pos_iff.2 hne
    have c3:=hc 0 _ (List.getElem?_eq_getElem h0) 3 (by omega)
    rw [hB.cell,Array.getElem?_eq_none (by show 2≤_;omega),List.getElem_map] at c3
    simp [APt.arr] at c3
  exact setRow_other _ _ _ _ (by omega)
def zeC (r1 r3:Nat) (r t c:List Leg) (i:Nat):List Leg:=if i=2 then c else if i=r3 then t else if i=r1 then r else []
theorem zhw (a:List Leg):zbo [] a=a:=by
  unfold zbo zdM
  simp
theorem zwB {k:Int} (h:k=1∨k=2∨k=3):∃ r1 r3:Nat,zku k 1=(r1:Int)∧zku k 3=(r3:Int)∧r1 < 4∧r3 < 4∧r1 ≠ r3∧r1 ≠ 2∧r3 ≠ 2 ∧
    ∀ r t c,zca k (zbg r t c)=zbo (zbo (zeC r1 r3 r t c 1) (zeC r1 r3 r t c 2)) (zeC r1 r3 r t c 3):=by
  rcases h with rfl | rfl | rfl
  · refine ⟨1,3,rfl,rfl,by omega,by omega,by omega,by omega,by omega,fun r t c=>?_⟩
    show zbo (zbo (zbo [] r) c) t=zbo (zbo r c) t
    rw [zhw]
  · refine ⟨3,1,rfl,rfl,by omega,by omega,by omega,by omega,by omega,fun r t c=>?_⟩
    show zbo (zbo (zbo [] t) c) r=zbo (zbo t c) r
    rw [zhw]
  · refine ⟨0,1,rfl,rfl,by omega,by omega,by omega,by omega,by omega,fun r t c=>?_⟩
    show zbo (zbo (zbo [] t) c) []=zbo (zbo t c) []
    rw [zhw]
theorem zsC {p:ProcV} (h:zay p=0):p.kind=1∨p.kind=2∨p.kind=3:=by
  by_cases h1:p.kind=1
  · exact .inl h1
  by_cases h2:p.kind=2
  · exact .inr (.inl h2)
  by_cases h3:p.kind=3
  · exact .inr (.inr h3)
  exfalso
  unfold zay at h
  have e:zb7 p.kind=[]:=by unfold zb7;rw [if_neg h1,if_neg h2,if_neg h3]
  rw [e] at h
  split at h
  · omega
  · simp at h
theorem zl3 {r1 r3:Nat} {r t c:List Leg} {n:Nat} (h1:r.length≤n) (h2:t.length≤n) (h3:c.length≤n) (i:Nat):(zeC r1 r3 r t c i).length≤n:=by
  unfold zeC
  repeat' split
  all_goals first | assumption | simp
end Go.Proofs.YtgoeedohgomodaaGreatDoor
namespace Go.Proofs.YtgoeedohgomodaaGreatDoor
open Go.RowKit Go.Sort
set_option maxRecDepth 100000
theorem zmN (W:World) (b o:Nat):zb3 W.drew b o=zb3 W b o:=propext ⟨fun h=>h,fun h=>h⟩
theorem znH (W:World) (b o:Nat):zcs W.drew b o=zcs W b o:=rfl
theorem zgB {n:Nat} {W W':World} (b:Below n W.drew W'):Below n W W':=(Below.refl _ _).drew.trans b
theorem zpM (r1 r3:Nat) (r q:List Leg) (h13:r1 ≠ r3) (h12:r1 ≠ 2) (h32:r3 ≠ 2) (i:Nat):zeC r1 r3 r q [] i=if i=r3 then q else if i=r1 then r else []:=by
  unfold zeC
  by_cases h2:i=2
  · rw [if_pos h2,if_neg (by omega),if_neg (by omega)]
  · rw [if_neg h2]
theorem zqX (r1 r3:Nat) (r q c:List Leg) (i:Nat):(if i=2 then c else zeC r1 r3 r q [] i)=zeC r1 r3 r q c i:=by
  unfold zeC
  by_cases h2:i=2
  · rw [if_pos h2,if_pos h2]
  · rw [if_neg h2,if_neg h2,if_neg h2]
theorem GOut.legs {B:Nat} {W:World} {t:TypeId} {A:Option Addr} {c:Nat} {l:List Leg} (h:GOut B W t 13 (.slice A l.length c) (l.map Leg.arr)):l.length≤c∧Items W A 13 (l.map Leg.arr):=by
  obtain ⟨A8,c8,e4,hl8,hI8,_,_⟩:=h.form (zbZ _)
  injection e4 with e4 _ e5
  subst e4 e5
  rw [List.length_map] at hl8
  exact ⟨hl8,hI8⟩
attribute [local go_sem] zmN znH zbr zcq
set_option maxHeartbeats 8000000 in
theorem zl1 (p:ProcV) (cs:Array Value) (s t:List UInt8) (w:World) (h:PrcAt w cs p) (hs:p.small) (hls:s.length≤4000000000) (hlt:t.length≤4000000000):
    Calls Tryz.prog 131 #[.agg cs, .string ⟨s.toArray⟩, .string ⟨t.toArray⟩] w (RetExp w (zau p s t)):=by
  obtain ⟨A,c,rfl,hlc,hA⟩:=h.ex
  have HPA:=Lib.hid (fun (W:World) (B:Below w.heap.size w W)=>h.below B)
  have HAB:=Lib.hid (fun (W:World) (B:Below w.heap.size w W)=>hA.below B)
  have hn:=hs.len
  have HS:=Lib.hid hs
  have HLC:=Lib.hid hlc
  have HE0:=Lib.hid (zty p s t)
  have HER:=Lib.hid (zxA p s t)
  have HET:=Lib.hid (zxz p s t)
  have HEO:=Lib.hid (zwf p s t)
  clear h hA hs hlc
  generalize zau p s t=out at *
  go_enter Tryz.func131,Tryz.ntmps131
  go_upto_region 1 with (fail)
  have X0:=Blk.new w (zaf p A c) 131
  have B0:=zad w (.cells (zaf p A c) 131)
  generalize w.alloc _=W at X0 B0 ⊢
  obtain ⟨g0,hg0⟩:∃ g,g=w.heap.size:=⟨_,rfl⟩
  rw [← hg0] at X0 ⊢
  clear hg0
  have i1:zaR W g0 0:=⟨_,X0.is_prc rfl⟩
  have i2:za9 W g0 0=zaf p A c:=zaB (X0.is_prc rfl)
  have kc:=Lib.hid (zi9 p (zaf p A c) W (HPA.out W B0) HS.out)
  by_cases hv:zay p=0
  rotate_left
  · have HO:=Lib.hid (HE0.out hv)
    generalize zay p=v at *
    have hv':(v != 0)=true:=by simpa using hv
    clear hv HE0 HER HET HEO
    go_wp2_with (go_at_call 172;(with_reducible refine zaj kc.out ?_);intro w1 b1 _ _ _)
    go_ret2
    exact RetExp.err HO.out (zaa B0 b1)
  have HER:=Lib.hid (HER.out hv)
  have HET:=Lib.hid (HET.out hv)
  have HEO:=Lib.hid (HEO.out hv)
  obtain ⟨r1,r3,hr1,hr3,l1,l3,n13,n12,n32,hF⟩:=zwB (zsC hv)
  have HF:=Lib.hid hF
  have HN:=Lib.hid (And.intro n13 (And.intro n12 n32))
  rw [hv] at kc
  clear hv HE0 hF n13 n12 n32
  have kr1:=Lib.hid (fun W=>hr1 ▸ zgU p.kind 1 W)
  have kr3:=Lib.hid (fun W=>hr3 ▸ zgU p.kind 3 W)
  clear hr1 hr3
  go_upto_region 5 with (go_at_call 172;(with_reducible refine zaj kc.out ?_);intro w1 b1 _ _ _)
  have C2:=Blk.new w1 ztv 220
  have D2:=zad w1 (.cells ztv 220)
  have X2:=(X0.step b1).step D2
  have B2:=zaa (zaa B0 b1) D2
  have hgc:w.heap.size≤w1.heap.size:=(zaa B0 b1).size
  have hne:g0 < w1.heap.size:=(X0.step b1).lt
  clear kc X0 B0 b1 i1 i2 D2
  generalize hW2:w1.alloc _=W2
  have hE2:w1.alloc (.cells ztv 220)=W2:=hW2
  rw [hE2] at C2 X2 B2
  clear hW2 hE2
  generalize w1.heap.size=gc at C2 hgc hne ⊢
  have F2:=Four.zero W2
  have i1:zaR W2 g0 0:=⟨_,X2.is_prc rfl⟩
  have i2:za9 W2 g0 0=zaf p A c:=zaB (X2.is_prc rfl)
  have kn:=Lib.hid (znu p A c HLC.out hn 1 W2 (HAB.out W2 B2))
  have HRR:=Lib.hid (show zc8 p s=if (zbP 1 p.parts).isEmpty then some [] else (zaY 1 s p.parts).map PartV.legs from rfl)
  generalize zbP 1 p.parts=nms at *
  go_upto_if 25 with (go_at_call 173;(with_reducible refine ztL kn.out ?_);intro A4 c4 w3 b3)
  have X3:=X2.step b3
  have C3:=C2.step b3
  have F3:=F2.below b3
  have B3:=zaa B2 b3
  clear kn X2 C2 B2 F2 b3 i1 i2
  go_cut [10,11] from 25 to 38 (fun _ _ wx=>∃ r cs,zc8 p s=some r∧Blk wx gc cs∧Four wx cs (fun i=>if i=r1 then r else [])∧Blk wx g0 (zaf p A c)∧Below w.heap.size w wx)
  case first=>
    have HX3:=Lib.hid X3
    have HC3:=Lib.hid C3
    have HF3:=Lib.hid F3
    have HB3:=Lib.hid B3
    clear X3 C3 F3 B3
    by_cases hnm:nms=[]
    · have e1:¬ (0:Int) < (nms.length:Int):=by simp [hnm]
      have e2:¬ 0 < nms.length:=by simp [hnm]
      have HR:=Lib.hid (show zc8 p s=some [] by rw [HRR.out,hnm];rfl)
      clear hnm
      go_wp2
      go_meet
      exact ⟨[],_,HR.out,HC3.out,HF3.out.congr (fun i _ _=>by simp),HX3.out,HB3.out⟩
    · have e2:0 < nms.length:=List.length_pos_iff.2 hnm
      have e1:(0:Int) < (nms.length:Int):=by omega
      have HR:=Lib.hid (show zc8 p s=(zaY 1 s p.parts).map PartV.legs by rw [HRR.out,if_neg (by simpa using hnm)])
      clear hnm HRR
      have i1:zaR w3 g0 0:=⟨_,HX3.out.is_prc rfl⟩
      have i2:za9 w3 g0 0=zaf p A c:=zaB (HX3.out.is_prc rfl)
      have kp:=Lib.hid (zgV p A c HLC.out hn 1 s w3 (HAB.out w3 HB3.out))
      cases hx:zaY 1 s p.parts with
      | none=>
        rw [hx] at kp HR
        have HO:=Lib.hid (HER.out HR.out)
        clear hx HR
        go_wp2_with (go_at_call 174;(with_reducible refine zdz kp.out ?_);intro cs2 w4 h4 b4;obtain ⟨A5,c5,rfl,hl5,hI5⟩:=h4.ex)
        go_ret2
        exact RetExp.err HO.out (zaa (zaa HB3.out b4) (zad _ _))
      | some x=>
        rw [hx] at kp HR
        clear hx
        go_upto_region 9 with (go_at_call 174;(with_reducible refine zdz kp.out ?_);intro cs2 w4 h4 b4;obtain ⟨A5,c5,rfl,hl5,hI5⟩:=h4.ex)
        have P5:=Blk.new w4 (zan x A5 c5) 183
        have D5:=zad w4 (.cells (zan x A5 c5) 183)
        have b5:=b4.trans (D5.mono b4.size)
        have C5:=HC3.out.step b5
        have F5:=Lib.hid (HF3.out.below b5)
        have X5:=HX3.out.step b5
        have B5:=Lib.hid (zaa HB3.out b5)
        have hI6:=Lib.hid (show Items (w4.alloc (.cells (zan x A5 c5) 183)) A5 13 (x.legs.map Leg.arr) from Items.below hI5 D5)
        have HL6:=Lib.hid (show x.legs.length≤c5 from hl5)
        clear h4 hI5 hl5 b4 b5 D5 i1 i2 kp
        generalize w4.alloc _=W5 at P5 C5 F5 X5 B5 hI6 ⊢
        generalize w4.heap.size=g5 at P5 ⊢
        have HC5:=Lib.hid C5
        have HX5:=Lib.hid X5
        have HP5:=Lib.hid P5
        have hfit:Fits (r1 * 3) 3 ztv:=by show r1 * 3+3≤12;omega
        have j0:W5.cell? ⟨g0,2,none⟩=some (.int .u8 p.kind):=X5.cell 2
        have j1:zb3 W5 g5 0:=⟨_,P5.is_prt rfl⟩
        have j2:zcs W5 g5 0=zan x A5 c5:=zbD (P5.is_prt rfl)
        have lr:(r1:Int) < 4:=by omega
        clear C5 X5 P5 HX3 HC3 HF3 HB3
        go_region_with (go_at_call 175;(with_reducible refine zaj (kr1.out _) ?_);intro w6 b6 _ _ _;have f6:Below W5.heap.size W5 w6:=zgB b6;have m1:zb3 w6 g5 0:=⟨_,(HP5.out.step f6).is_prt rfl⟩;have m2:zcs w6 g5 0=zan x A5 c5:=zbD ((HP5.out.step f6).is_prt rfl);have d2:=(HC5.out.step f6).plain;have d3:=(HC5.out.step f6).of)
        all_goals
          go_wp2
          go_meet
          exact ⟨x.legs,_,HR.out,(HC5.out.step f6).set _,((F5.out.below f6).store (HC5.out.step f6) x HL6.out (hI6.out.below f6) l1).congr (fun i _ _=>rfl),(HX5.out.step f6).far (by omega) _,zab (zaa B5.out f6) hgc _⟩
  case rest=>
  obtain ⟨r,cs3,HR,C3,F3,X3,B3⟩:=hcut
  have HRH:=Lib.hid HR
  have hrl:=zjR p HS.out s HR
  clear HR HRR HER
  obtain ⟨et,het⟩:∃ b,t.isEmpty=b:=⟨_,rfl⟩
  have het2:(t == [])=et:=by rw [← het];cases t <;> rfl
  have HTT:=Lib.hid (show zdo p t=if et then some [] else (zaY 3 t p.parts).map PartV.legs by rw [← het];rfl)
  clear het
  go_upto_if 40 with (fail)
  go_cut [12,13] from 40 to 53 (fun _ _ wx=>∃ q cs,zdo p t=some q∧Blk wx gc cs∧Four wx cs (zeC r1 r3 r q [])∧Blk wx g0 (zaf p A c)∧Below w.heap.size w wx)
  case first=>
    have HX3:=Lib.hid X3
    have HC3:=Lib.hid C3
    have HF3:=Lib.hid F3
    have HB3:=Lib.hid B3
    clear X3 C3 F3 B3
    cases et with
    | true=>
      have HR:=Lib.hid (show zdo p t=some [] by rw [HTT.out];rfl)
      go_wp2
      go_meet
      exact ⟨[],_,HR.out,HC3.out,HF3.out.congr (fun i _ _=>by
        rw [zpM r1 r3 r [] HN.out.1 HN.out.2.1 HN.out.2.2]
        have:=HN.out.1
        by_cases e:i=r3
        · rw [if_pos e,if_neg (by omega)]
        · rw [if_neg e]),HX3.out,HB3.out⟩
    | false=>
      have HR:=Lib.hid (show zdo p t=(zaY 3 t p.parts).map PartV.legs by rw [HTT.out];rfl)
      clear HTT
      have i1:zaR wc g0 0:=⟨_,HX3.out.is_prc rfl⟩
      have i2:za9 wc g0 0=zaf p A c:=zaB (HX3.out.is_prc rfl)
      have kp:=Lib.hid (zgV p A c HLC.out hn 3 t wc (HAB.out wc HB3.out))
      cases hx:zaY 3 t p.parts with
      | none=>
        rw [hx] at kp HR
        have HO:=Lib.hid (HET.out r HRH.out HR.out)
        clear hx HR
        go_wp2_with (go_at_call 174;(with_reducible refine zdz kp.out ?_);intro cs2 w4 h4 b4;obtain ⟨A5,c5,rfl,hl5,hI5⟩:=h4.ex)
        go_ret2
        exact RetExp.err HO.out (zaa (zaa HB3.out b4) (zad _ _))
      | some x=>
        rw [hx] at kp HR
        clear hx
        go_upto_region 14 with (go_at_call 174;(with_reducible refine zdz kp.out ?_);intro cs2 w4 h4 b4;obtain ⟨A5,c5,rfl,hl5,hI5⟩:=h4.ex)
        have P5:=Blk.new w4 (zan x A5 c5) 183
        have D5:=zad w4 (.cells (zan x A5 c5) 183)
        have b5:=b4.trans (D5.mono b4.size)
        have C5:=HC3.out.step b5
        have F5:=Lib.hid (HF3.out.below b5)
        have X5:=HX3.out.step b5
        have B5:=Lib.hid (zaa HB3.out b5)
        have hI6:=Lib.hid (show Items (w4.alloc (.cells (zan x A5 c5) 183)) A5 13 (x.legs.map Leg.arr) from Items.below hI5 D5)
        have HL6:=Lib.hid (show x.legs.length≤c5 from hl5)
        clear h4 hI5 hl5 b4 b5 D5 i1 i2 kp
        generalize w4.alloc _=W5 at P5 C5 F5 X5 B5 hI6 ⊢
        generalize w4.heap.size=g5 at P5 ⊢
        have HC5:=Lib.hid C5
        have HX5:=Lib.hid X5
        have HP5:=Lib.hid P5
        have hfit:Fits (r3 * 3) 3 cs3:=by show r3 * 3+3≤cs3.size;rw [HF3.out.sz];omega
        have j0:W5.cell? ⟨g0,2,none⟩=some (.int .u8 p.kind):=X5.cell 2
        have j1:zb3 W5 g5 0:=⟨_,P5.is_prt rfl⟩
        have j2:zcs W5 g5 0=zan x A5 c5:=zbD (P5.is_prt rfl)
        have lr:(r3:Int) < 4:=by omega
        clear C5 X5 P5 HX3 HC3 HF3 HB3
        go_region_with (go_at_call 175;(with_reducible refine zaj (kr3.out _) ?_);intro w6 b6 _ _ _;have f6:Below W5.heap.size W5 w6:=zgB b6;have m1:zb3 w6 g5 0:=⟨_,(HP5.out.step f6).is_prt rfl⟩;have m2:zcs w6 g5 0=zan x A5 c5:=zbD ((HP5.out.step f6).is_prt rfl);have d2:=(HC5.out.step f6).plain;have d3:=(HC5.out.step f6).of)
        all_goals
          go_wp2
          go_meet
          exact ⟨x.legs,_,HR.out,(HC5.out.step f6).set _,((F5.out.below f6).store (HC5.out.step f6) x HL6.out (hI6.out.below f6) l3).congr (fun i _ _=>zpM r1 r3 r x.legs HN.out.1 HN.out.2.1 HN.out.2.2 i),(HX5.out.step f6).far (by omega) _,zab (zaa B5.out f6) hgc _⟩
  case rest=>
  obtain ⟨q,cs4,HT,C3,F3,X3,B3⟩:=hcut
  have HTH:=Lib.hid HT
  have hql:=zjQ p HS.out t HT
  clear HT HTT HET het2 kr1 kr3
  have HCC:=Lib.hid (show zdy p=((zaY 2 [] p.parts).map PartV.legs).getD [] from rfl)
  have hcl:=zjS p HS.out
  have HEO:=Lib.hid (HEO.out r q HRH.out HTH.out)
  generalize zdy p=cc at *
  have i1:zaR wc g0 0:=⟨_,X3.is_prc rfl⟩
  have i2:za9 wc g0 0=zaf p A c:=zaB (X3.is_prc rfl)
  have kp:=Lib.hid (show Calls Tryz.prog 174 #[.agg (zaf p A c), .int .u8 2, .string ⟨#[]⟩] wc (zic wc (zaY 2 [] p.parts)) from zgV p A c HLC.out hn 2 [] wc (HAB.out wc B3))
  obtain ⟨z,hz⟩:∃ z,zaY 2 [] p.parts=z:=⟨_,rfl⟩
  rw [hz] at kp HCC
  clear hz
  go_upto_if 59 with (go_at_call 174;(with_reducible refine zdz kp.out ?_);intro cs2 w4 h4 b4;obtain ⟨A5,c5,rfl,hl5,hI5⟩:=h4.ex)
  have P5:=Blk.new w4 (zan (z.getD zbn) A5 c5) 183
  have D5:=zad w4 (.cells (zan (z.getD zbn) A5 c5) 183)
  have b5:=b4.trans (D5.mono b4.size)
  have C5:=C3.step b5
  have F5:=Lib.hid (F3.below b5)
  have B5:=Lib.hid (zaa B3 b5)
  have hI6:=Lib.hid (show Items (w4.alloc (.cells (zan (z.getD zbn) A5 c5) 183)) A5 13 ((z.getD zbn).legs.map Leg.arr) from Items.below hI5 D5)
  have HL6:=Lib.hid (show (z.getD zbn).legs.length≤c5 from hl5)
  have HSZ:=Lib.hid F3.sz
  clear h4 hI5 hl5 b4 b5 D5 i1 i2 kp C3 F3 X3 B3
  generalize w4.alloc _=W5 at P5 C5 F5 B5 hI6 ⊢
  generalize w4.heap.size=g5 at P5 ⊢
  go_cut [15] from 59 to 61 (fun _ wx=>∃ cs,Blk wx gc cs∧Four wx cs (zeC r1 r3 r q cc)∧Below w.heap.size w wx)
  case first=>
    cases z with
    | none=>
      have hcc:cc=[]:=HCC.out
      have HC:=Lib.hid C5
      have HF5:=Lib.hid (show Four W5 cs4 (zeC r1 r3 r q cc) by rw [hcc];exact F5.out)
      clear hcc C5
      go_wp2
      go_meet
      exact ⟨_,HC.out,HF5.out,B5.out⟩
    | some x=>
      have hcc:cc=x.legs:=HCC.out
      have HC:=Lib.hid C5
      have hfit:Fits 6 3 cs4:=by show 6+3≤cs4.size;rw [HSZ.out];omega
      have j1:zb3 W5 g5 0:=⟨_,P5.is_prt rfl⟩
      have j2:zcs W5 g5 0=zan x A5 c5:=zbD (P5.is_prt rfl)
      have d2:=C5.plain
      have d3:=C5.of
      have HF5:=Lib.hid (((F5.out.store C5 x HL6.out hI6.out (r:=2) (by omega))).congr (k:=zeC r1 r3 r q cc) (fun i _ _=>by rw [hcc];exact (zqX r1 r3 r q x.legs i).symm))
      clear hcc C5 P5
      go_wp2
      go_meet
      exact ⟨_,HC.out.set _,HF5.out,zab B5.out hgc _⟩
  case rest=>
  obtain ⟨cs5,C6,F6,B6⟩:=hcut
  have HEL:=Lib.hid (show zca p.kind (zbg r q cc)=zbo (zbo (zeC r1 r3 r q cc 1) (zeC r1 r3 r q cc 2)) (zeC r1 r3 r q cc 3) from HF.out r q cc)
  have hp1:=zl3 (r1:=r1) (r3:=r3) hrl hql hcl 1
  have hp2:=zl3 (r1:=r1) (r3:=r3) hrl hql hcl 2
  have hp3:=zl3 (r1:=r1) (r3:=r3) hrl hql hcl 3
  obtain ⟨A1,c1,e1,k1,I1⟩:=F6.at_ 1 (by omega) (by omega)
  obtain ⟨A2,c2,e2,k2,I2⟩:=F6.at_ 2 (by omega) (by omega)
  obtain ⟨A3,c3,e3,k3,I3⟩:=F6.at_ 3 (by omega) (by omega)
  generalize zeC r1 r3 r q cc 1=a1 at *
  generalize zeC r1 r3 r q cc 2=a2 at *
  generalize zeC r1 r3 r q cc 3=a3 at *
  have hj:=zhx a1 a2
  have IS:=Lib.hid (fun W' (D:Below wc.heap.size wc W')=>show W'.cell? ⟨gc,5,none⟩=some (.slice A1 a1.length c1)∧W'.cell? ⟨gc,8,none⟩=some (.slice A2 a2.length c2)∧W'.cell? ⟨gc,11,none⟩=some (.slice A3 a3.length c3) from
    ⟨((C6.step D).cell 5).trans e1,((C6.step D).cell 8).trans e2,((C6.step D).cell 11).trans e3⟩)
  have K1:=Lib.hid (fun W' (D:Below wc.heap.size wc W')=>zkU a1 a2 A1 A2 c1 c2 W' (I1.below D) (I2.below D) k1 k2 (by omega) (by omega))
  obtain ⟨j1,hj1⟩:∃ j,zbo a1 a2=j:=⟨_,rfl⟩
  rw [hj1] at K1 HEL hj
  have K2:=Lib.hid (fun W' (D:Below wc.heap.size wc W') A7 c7 (h7:j1.length≤c7) (I7:Items W' A7 13 (j1.map Leg.arr))=>zkU j1 a3 A7 A3 c7 c3 W' I7 (I3.below D) h7 k3 (by omega) (by omega))
  rw [HEL.out] at HEO
  have hj3:=zhx j1 a3
  obtain ⟨j2,hj2⟩:∃ j,zbo j1 a3=j:=⟨_,rfl⟩
  rw [hj2] at K2 HEO hj3
  have HB6:=Lib.hid B6
  clear F6 C6 e1 e2 e3 I1 I2 I3 k1 k2 k3 hj1 hj2 HEL HF HCC B6
  go_upto_region 18 with (fail)
  go_cut [16] (fun v wx=>∃ A c,v=.slice A j2.length c∧j2.length≤c∧Items wx A 13 (j2.map Leg.arr)∧Below wc.heap.size wc wx)
  case first=>
    go_region_held3 (fun W'=>W'.cell? ⟨gc,5,none⟩=some (.slice A1 a1.length c1)∧W'.cell? ⟨gc,8,none⟩=some (.slice A2 a2.length c2)∧W'.cell? ⟨gc,11,none⟩=some (.slice A3 a3.length c3))
      ((refine IS.out _ ?_;repeat' (first | assumption | omega | (refine Below.alloc ?_ ?_ _) | (refine Below.drew ?_) | exact Below.refl _ _ | (simp;done) | (simp;omega))))
      (first
        | (go_at_call 176;(with_reducible refine ze9 (K1.out _ (by repeat' (first | assumption | (refine Below.drew ?_) | exact Below.refl _ _))) ?_);intro A7 c7 w7 O7 b7
           have f7:Below wc.heap.size wc w7:=by first | exact b7 | exact zgB b7
           have q7:=GOut.legs O7)
        | (go_at_call 176;(with_reducible refine ze9 (K2.out _ f7 _ _ q7.1 q7.2) ?_);intro A9 c9 w9 O9 b9
           have f9:Below wc.heap.size wc w9:=zaa f7 b9
           have q9:=GOut.legs O9))
    all_goals
      go_wp2
      go_meet
      exact ⟨_,_,rfl,q9.1,q9.2,f9⟩
  case rest=>
  obtain ⟨A9,c9,rfl,hl9,hI9,D9⟩:=hcut
  have BB:=Lib.hid (zaa HB6.out D9)
  have HI9:=Lib.hid hI9
  clear K1 K2 IS hI9 D9
  by_cases ho:j2=[]
  · have HO:=Lib.hid (HEO.out.trans (if_pos (by rw [ho];rfl)))
    have e0:((j2.length:Int) == 0)=true:=by rw [ho];rfl
    clear ho
    go_wp2
    go_ret2
    exact RetExp.err HO.out BB.out
  · have HO:=Lib.hid (HEO.out.trans (if_neg (by simpa using ho)))
    have e0:((j2.length:Int) == 0)=false:=by rw [beq_eq_false_iff_ne];have:=List.length_pos_iff.2 ho;omega
    clear ho
    go_wp2
    go_ret2
    exact RetExp.ok HO.out hl9 HI9.out BB.out
end Go.Proofs.YtgoeedohgomodaaGreatDoor
namespace Go.Proofs.YtgoeedohgomodaaGreatDoor
open Go.RowKit Go.Sort
set_option maxRecDepth 100000
theorem zp1 (r:List UInt8):∀ (l:List APt) (k:Nat), -1≤zbT r l k
  | [],k=>by simp [zbT]
  | x :: t,k=>by
    unfold zbT
    split
    · omega
    · exact zp1 r t (k+1)
attribute [local go_sem ↓] zlp
attribute [local go_sem] znd
theorem zqQ (w:World):Calls Tryz.prog 205 #[] w (Ret w (.agg (Win.arr ⟨-200000,6000000⟩))):=by
  go_enter Tryz.func205,Tryz.ntmps205
  go_wp2
  exact bodyPost_ret (zbM Tryz.results205 _ _ w.heap.size (Win.arr ⟨-200000,6000000⟩) 2 _ rfl rfl (Blk.new _ _ _).cell Tryz.underlying62 rfl zfL) rfl ⟨rfl,zad _ _⟩
set_option maxHeartbeats 8000000 in
theorem zoQ (a:AwyV) (cs:Array Value) (w:World) (h:AwyAt w cs a) (hs:a.small):
    Calls Tryz.prog 177 #[.agg cs] w (Ret w (.int .i64 (zbl a))):=by
  obtain ⟨A,c,rfl,hlc,hI⟩:=h.ex
  have HAB:=Lib.hid (fun (W:World) (B:Below w.heap.size w W)=>h.below B)
  have HC:=Lib.hid (show zbl a=if !zbF a.name 8 then 5 else if a.pts.length < 2 then 1 else if 40 < a.pts.length then 3 else zcy a.pts a.pts 0 from rfl)
  have hlen:=hs.len
  have hnm:=hs.name
  have HEACH:=Lib.hid hs.each
  have HIT:=Lib.hid hI
  have HLC:=Lib.hid hlc
  clear h hI hlc
  go_enter Tryz.func177,Tryz.ntmps177
  go_upto_region 1 with (fail)
  have X0:=Blk.new w (zao a A c) 81
  have B0:=zad w (.cells (zao a A c) 81)
  generalize w.alloc _=W at X0 B0 ⊢
  obtain ⟨g0,hg0⟩:∃ g,g=w.heap.size:=⟨_,rfl⟩
  rw [← hg0] at X0 ⊢
  clear hg0
  have c0:W.cell? ⟨g0,0,none⟩=some (.string ⟨a.name.toArray⟩):=X0.cell 0
  have c1:W.cell? ⟨g0,1,none⟩=some (.slice A a.pts.length c):=X0.cell 1
  have kn:=Lib.hid (fun w'=>zcU a.name 8 w' (by omega))
  cases hn:zbF a.name 8 with
  | false=>
    rw [hn] at kn
    have HO:=Lib.hid (HC.out.trans (if_pos (by rw [hn];rfl)))
    go_wp2_with (go_at_call 65;(with_reducible refine zae (kn.out _) ?_))
    go_ret
    exact Ret.int HO.out.symm B0
  | true=>
    rw [hn] at kn
    have HC:=Lib.hid (HC.out.trans (if_neg (by rw [hn];decide)))
    clear hn
    by_cases h2:a.pts.length < 2
    · have HO:=Lib.hid (HC.out.trans (if_pos h2))
      have h2':(a.pts.length:Int) < 2:=by omega
      clear HC h2
      go_wp2_with (go_at_call 65;(with_reducible refine zae (kn.out _) ?_))
      go_ret
      exact Ret.int HO.out.symm B0
    · have HC:=Lib.hid (HC.out.trans (if_neg h2))
      have h2':¬ (a.pts.length:Int) < 2:=by omega
      clear h2
      by_cases h3:40 < a.pts.length
      · have HO:=Lib.hid (HC.out.trans (if_pos h3))
        have h3':40 < (a.pts.length:Int):=by omega
        clear HC h3
        go_wp2_with (go_at_call 65;(with_reducible refine zae (kn.out _) ?_))
        go_ret
        exact Ret.int HO.out.symm B0
      · have HC:=Lib.hid (HC.out.trans (if_neg h3))
        have h3':¬ 40 < (a.pts.length:Int):=by omega
        have h40:a.pts.length≤40:=by omega
        clear h3
        go_wp2_with (go_at_call 65;(with_reducible refine zae (kn.out _) ?_))
        clear h2' h3' c0 c1 kn
        have HX:=Lib.hid X0
        have HB:=Lib.hid B0
        clear X0 B0
        go_loopw [26] (fun iv wr=>∃ k:Nat,k≤a.pts.length∧iv=.int .i64 k∧zcy a.pts a.pts 0=zcy a.pts (a.pts.drop k) k∧Below W.heap.size W wr) (fun iv _=>a.pts.length - (intOf iv).toNat)
        case atStart=>exact ⟨0,by omega,rfl,rfl,Below.refl _ _⟩
        case round=>
          obtain ⟨k,hk,rfl,hf,BW⟩:=hrel
          have HF:=Lib.hid hf
          clear hf
          have BB:=Lib.hid (zaa HB.out BW)
          by_cases hlt:k < a.pts.length
          · obtain ⟨b,off,hA,hb,_⟩:=HIT.out.get (k:=k) (by simpa using hlt)
            subst hA
            have hx:=ze6 HIT.out BB.out hlt
            have hrl:=HEACH.out _ (List.getElem_mem hlt)
            have HD:=Lib.hid (HF.out.trans (zg1 a.pts hlt))
            generalize a.pts[k]=p at hx hrl HD
            have HQ:=Lib.hid (show zfn a.pts k p=if (za8 p.ref).2.2 ≠ 0 then 5 else if zbT p.ref a.pts 0 < k then 7 else if k+1=a.pts.length then (if p.lo=-200000∧p.hi=6000000∧p.dir=0 then 0 else 1) else if p.lo < -200000∨p.hi < p.lo∨6000000 < p.hi then 2 else if 2 < p.dir then 17 else 0 from rfl)
            have HE:=Lib.hid (fun (n:Int) (hn:n ≠ 0) (h:zfn a.pts k p=n)=>show zbl a=n by rw [HC.out,HD.out,h];unfold orE;rw [if_pos (by simpa using hn)])
            have HG:=Lib.hid (fun (h:zfn a.pts k p=0)=>show zcy a.pts a.pts 0=zcy a.pts (a.pts.drop (k+1)) (k+1) by rw [HD.out,h];rfl)
            have i1:zed wr b (off+k * 4):=⟨_,hx⟩
            have i2:zd6 wr b (off+k * 4)=p:=zdF hx
            have hlt':(k:Int) < (a.pts.length:Int):=by omega
            have hkc:k < c:=by have:=HLC.out;omega
            have X1:=HX.out.step BW
            clear hx HF HD
            go_upto_region 10 with (fail)
            have P1:=Blk.new wr p.arr 107
            have X2:=X1.alloc (.cells p.arr 107)
            have D1:=zad wr (.cells p.arr 107)
            clear i1 i2 X1
            generalize wr.alloc _=W1 at P1 X2 D1 ⊢
            generalize wr.heap.size=gp at P1 ⊢
            have r0:W1.cell? ⟨gp,0,none⟩=some (.string ⟨p.ref.toArray⟩):=P1.cell 0
            have ks:=Lib.hid (zeW p.ref W1 hrl)
            by_cases h1:(za8 p.ref).2.2=0
            case neg=>
              have HO:=Lib.hid (HE.out 5 (by decide) (HQ.out.trans (if_pos h1)))
              have h1':((za8 p.ref).2.2 != 0)=true:=by simpa using h1
              clear h1 HE HG HQ X2 P1
              generalize za8 p.ref=q at ks h1'
              go_wp2_with (go_at_call 66;(with_reducible refine zes ks.out ?_);intro n)
              go_ret
              exact Ret.int HO.out.symm (below_drewN (zaa BB.out D1) n)
            have HQ:=Lib.hid (HQ.out.trans (if_neg (not_not_intro h1)))
            generalize za8 p.ref=q at ks h1
            obtain ⟨q1,q2,q3⟩:=q
            obtain rfl:q3=0:=h1
            go_upto_region 13 with (go_at_call 66;(with_reducible refine zes ks.out ?_);intro n)
            have P2:=P1.step (below_drewN (Below.refl _ _) n)
            have X3:=X2.step (below_drewN (Below.refl _ _) n)
            have D2:=below_drewN D1 n
            clear r0 ks P1 X2 D1
            generalize W1.drewN n=W2 at P2 X3 D2 ⊢
            have r0:W2.cell? ⟨gp,0,none⟩=some (.string ⟨p.ref.toArray⟩):=P2.cell 0
            have i1:zce W2 g0 0:=⟨_,X3.is_awy rfl⟩
            have i2:zcz W2 g0 0=zao a (some ⟨b,off,none⟩) c:=zby (X3.is_awy rfl)
            have kx:=Lib.hid (zhp a _ p.ref W2 (HAB.out W2 (zaa BB.out D2)) (by omega))
            have hxb:-1≤zbT p.ref a.pts 0:=zp1 p.ref a.pts 0
            generalize zbT p.ref a.pts 0=x at kx HQ hxb
            by_cases h2:x < (k:Int)
            case pos=>
              have HO:=Lib.hid (HE.out 7 (by decide) (HQ.out.trans (if_pos h2)))
              clear HE HG HQ X3 P2
              go_wp2_with (go_at_call 178;(with_reducible refine zaj kx.out ?_);intro w3 b3 _ _ _)
              go_ret
              exact Ret.int HO.out.symm (zaa (zaa BB.out D2) b3)
            have HQ:=Lib.hid (HQ.out.trans (if_neg h2))
            go_upto_region 15 with (go_at_call 178;(with_reducible refine zaj kx.out ?_);intro w3 b3 _ _ _)
            have P3:=P2.step b3
            have X4:=X3.step b3
            have D3:=Lib.hid (zaa D2 b3)
            clear r0 kx P2 X3 D2 b3 i1 i2 h2 hxb
            have c1:w3.cell? ⟨g0,1,none⟩=some (.slice (some ⟨b,off,none⟩) a.pts.length c):=X4.cell 1
            have d3:w3.cell? ⟨gp,3,none⟩=some (.int .u8 p.dir):=P3.cell 3
            have l1:w3.cell? ⟨gp,1,none⟩=some (.int .i64 p.lo):=P3.cell 1
            have l2:w3.cell? ⟨gp,2,none⟩=some (.int .i64 p.hi):=P3.cell 2
            by_cases h3:k+1=a.pts.length
            case pos=>
              have HQ:=Lib.hid (HQ.out.trans (if_pos h3))
              have e3:((k:Int) == (a.pts.length:Int) - 1)=true:=by simp;omega
              clear h3
              have HP:=Lib.hid P3
              clear X4 P3 l1 l2
              have w1:∀ d os,zcR (grow (redrawn w3 d) os) gp 1:=fun d os=>⟨_,APt.is_win (HP.out.step (below_regrown w3 d os))⟩
              have w2:∀ d os,zcL (grow (redrawn w3 d) os) gp 1=⟨p.lo,p.hi⟩:=fun d os=>zb8 (APt.is_win (HP.out.step (below_regrown w3 d os)))
              have w3':∀ d os,(grow (redrawn w3 d) os).cell? ⟨gp,3,none⟩=some (.int .u8 p.dir):=fun d os=>(HP.out.step (below_regrown w3 d os)).cell 3
              have kf:∀ d os,Calls Tryz.prog 205 #[] (grow (redrawn w3 d) os) fun e w''=>e=.returned (.agg (Win.arr ⟨-200000,6000000⟩))∧∃ q:Regrown,w''=grow (redrawn w3 q.d) q.os:=fun d os=>Calls.regrown_ret (zqQ _)
              go_upto_region 16 with (fail)
              by_cases hwn:p.lo=-200000∧p.hi=6000000
              · have hE:Win.eqB ⟨p.lo,p.hi⟩ ⟨-200000,6000000⟩=true:=by simp [Win.eqB,hwn]
                have N1:=zdv ⟨p.lo,p.hi⟩ ⟨-200000,6000000⟩
                rw [hE] at N1
                by_cases hd:p.dir=0
                · have HO:=Lib.hid (HG.out (HQ.out.trans (if_pos ⟨hwn.1,hwn.2,hd⟩)))
                  have hd':(p.dir != 0)=false:=by simpa using hd
                  clear HQ HE HG hwn hd
                  refine wp_region_quiet_below (by kernel_rfl) (by kernel_rfl) ?_
                  repeat (go_big_quiet_step (with_reducible first | exact kf _ _))
                  refine wpQuiet_nil ?_
                  intro _ hw'
                  obtain ⟨⟨dq,osq⟩,hw''⟩:=hw'
                  subst hw''
                  clear w1 w2 w3' kf
                  go_wp2
                  go_roundw
                  case rel=>exact ⟨k+1,by omega,by go_num,HO.out,zaa BW (zaa D3.out (below_regrown w3 dq osq))⟩
                  case measure=>simp [intOf];omega
                · have HO:=Lib.hid (HE.out 1 (by decide) (HQ.out.trans (if_neg (fun h=>hd h.2.2))))
                  have hd':(p.dir != 0)=true:=by simpa using hd
                  clear HQ HE HG hwn hd
                  refine wp_region_quiet_below (by kernel_rfl) (by kernel_rfl) ?_
                  repeat (go_big_quiet_step (with_reducible first | exact kf _ _))
                  refine wpQuiet_nil ?_
                  intro _ hw'
                  obtain ⟨⟨dq,osq⟩,hw''⟩:=hw'
                  subst hw''
                  clear w1 w2 w3' kf
                  go_wp2
                  go_ret
                  exact Ret.int HO.out.symm (zaa BB.out (zaa D3.out (below_regrown w3 dq osq)))
              · have hE:Win.eqB ⟨p.lo,p.hi⟩ ⟨-200000,6000000⟩=false:=by
                  cases hq:Win.eqB ⟨p.lo,p.hi⟩ ⟨-200000,6000000⟩ with
                  | false=>rfl
                  | true=>exact absurd (by have:=(Win.eqB_iff _ _).1 hq;simpa using this) hwn
                have HO:=Lib.hid (HE.out 1 (by decide) (HQ.out.trans (if_neg (fun h=>hwn ⟨h.1,h.2.1⟩))))
                have N1:=zdv ⟨p.lo,p.hi⟩ ⟨-200000,6000000⟩
                rw [hE] at N1
                clear HQ HE HG hwn
                refine wp_region_quiet_below (by kernel_rfl) (by kernel_rfl) ?_
                repeat (go_big_quiet_step (with_reducible first | exact kf _ _))
                refine wpQuiet_nil ?_
                intro _ hw'
                obtain ⟨⟨dq,osq⟩,hw''⟩:=hw'
                subst hw''
                clear w1 w2 w3' kf
                go_wp2
                go_ret
                exact Ret.int HO.out.symm (zaa BB.out (zaa D3.out (below_regrown w3 dq osq)))
            have HQ:=Lib.hid (HQ.out.trans (if_neg h3))
            have e3:((k:Int) == (a.pts.length:Int) - 1)=false:=by simp;omega
            clear h3 X4 P3
            by_cases hr:p.lo < -200000∨p.hi < p.lo∨6000000 < p.hi
            · have HO:=Lib.hid (HE.out 2 (by decide) (HQ.out.trans (if_pos hr)))
              clear HQ HE HG
              by_cases r1:p.lo < -200000
              · clear hr
                go_wp2
                go_ret
                exact Ret.int HO.out.symm (zaa BB.out D3.out)
              · by_cases r2:6000000 < p.hi
                · clear hr
                  go_wp2
                  go_ret
                  exact Ret.int HO.out.symm (zaa BB.out D3.out)
                · have r3:p.hi < p.lo:=by omega
                  clear hr
                  go_wp2
                  go_ret
                  exact Ret.int HO.out.symm (zaa BB.out D3.out)
            · have HQ:=Lib.hid (HQ.out.trans (if_neg hr))
              have r1:¬ p.lo < -200000:=by omega
              have r2:¬ 6000000 < p.hi:=by omega
              have r3:¬ p.hi < p.lo:=by omega
              clear hr
              by_cases r4:2 < p.dir
              · have HO:=Lib.hid (HE.out 17 (by decide) (HQ.out.trans (if_pos r4)))
                clear HQ HE HG
                go_wp2
                go_ret
                exact Ret.int HO.out.symm (zaa BB.out D3.out)
              · have HO:=Lib.hid (HG.out (HQ.out.trans (if_neg r4)))
                clear HQ HE HG
                go_wp2
                go_roundw
                case rel=>exact ⟨k+1,by omega,by go_num,HO.out,zaa BW D3.out⟩
                case measure=>simp [intOf];omega
          · have HO:=Lib.hid (show zbl a=0 by rw [HC.out,HF.out,List.drop_of_length_le (by omega)];rfl)
            have hlt':¬ (k:Int) < (a.pts.length:Int):=by omega
            go_wp2
            go_ret
            exact Ret.int HO.out.symm BB.out
end Go.Proofs.YtgoeedohgomodaaGreatDoor
namespace Go.Proofs.YtgoeedohgomodaaGreatDoor
open Go.RowKit Go.Sort
set_option maxRecDepth 100000
attribute [local go_sem ↓] zhE zoc
attribute [local go_sem] zi6 zpH
set_option maxHeartbeats 8000000 in
theorem znt (a:AwyV) (cs:Array Value) (f t:List UInt8) (w:World) (h:AwyAt w cs a) (hs:a.small):
    Calls Tryz.prog 134 #[.agg cs, .string ⟨f.toArray⟩, .string ⟨t.toArray⟩] w (RetWay w (zaG a f t)):=by
  obtain ⟨A,c,rfl,hlc,hI⟩:=h.ex
  have HAB:=Lib.hid (fun (W:World) (B:Below w.heap.size w W)=>h.below B)
  have HIT:=Lib.hid hI
  have HC:=Lib.hid (show zaG a f t=if zbl a ≠ 0 then ([],zbl a) else if zbT f a.pts 0 < 0∨zbT t a.pts 0 < 0 then ([],6) else if zbT f a.pts 0=zbT t a.pts 0 then ([],1) else
    if zbT f a.pts 0 < zbT t a.pts 0 then zgg a.pts (zbT f a.pts 0).toNat ((zbT t a.pts 0).toNat - (zbT f a.pts 0).toNat) [] else zgh a.pts (zbT f a.pts 0).toNat ((zbT f a.pts 0).toNat - (zbT t a.pts 0).toNat) [] from rfl)
  have hcl:=Lib.hid (fun h=>(@zeo a h).2)
  have hlen:=hs.len
  go_enter Tryz.func134,Tryz.ntmps134
  go_upto_region 1 with (fail)
  have X0:=Blk.new w (zao a A c) 81
  have B0:=zad w (.cells (zao a A c) 81)
  generalize w.alloc _=W at X0 B0 ⊢
  obtain ⟨g0,hg0⟩:∃ g,g=w.heap.size:=⟨_,rfl⟩
  rw [← hg0] at X0 ⊢
  clear hg0
  have i1:zce W g0 0:=⟨_,X0.is_awy rfl⟩
  have i2:zcz W g0 0=zao a A c:=zby (X0.is_awy rfl)
  have kc:=Lib.hid (zoQ a _ W (HAB.out W B0) hs)
  clear h hI
  by_cases hv:zbl a=0
  case neg=>
    have HO:=Lib.hid (HC.out.trans (if_pos hv))
    generalize zbl a=v at *
    have hv':(v != 0)=true:=by simpa using hv
    clear hv HC hcl X0
    go_wp2_with (go_at_call 177;(with_reducible refine zaj kc.out ?_);intro w1 b1 _ _ _)
    go_ret2
    exact RetWay.err HO.out (zaa B0 b1)
  have HC:=Lib.hid (HC.out.trans (if_neg (not_not_intro hv)))
  have h40:=hcl.out hv
  rw [hv] at kc
  clear hv hcl
  go_upto_region 4 with (go_at_call 177;(with_reducible refine zaj kc.out ?_);intro w1 b1 _ _ _)
  have X1:=Lib.hid (X0.step b1)
  have B1:=zaa B0 b1
  clear i1 i2 kc X0 B0 b1
  have hx1:=zjI f a.pts 0
  have hx2:=fun h=>(ze2 f a.pts 0 h).2
  have hy1:=zjI t a.pts 0
  have hy2:=fun h=>(ze2 t a.pts 0 h).2
  have j1:∀ d os,zce (grow (redrawn w1 d) os) g0 0:=fun d os=>⟨_,(X1.out.step (below_regrown w1 d os)).is_awy rfl⟩
  have j2:∀ d os,zcz (grow (redrawn w1 d) os) g0 0=zao a A c:=fun d os=>zby ((X1.out.step (below_regrown w1 d os)).is_awy rfl)
  have k1:∀ d os,Calls Tryz.prog 178 #[.agg (zao a A c), .string ⟨f.toArray⟩] (grow (redrawn w1 d) os) fun e w''=>e=.returned (.int .i64 (zbT f a.pts 0))∧∃ q:Regrown,w''=grow (redrawn w1 q.d) q.os:=fun d os=>Calls.regrown_ret (zhp a _ f _ (HAB.out _ (zaa B1 (below_regrown w1 d os))) (by omega))
  have k2:∀ d os,Calls Tryz.prog 178 #[.agg (zao a A c), .string ⟨t.toArray⟩] (grow (redrawn w1 d) os) fun e w''=>e=.returned (.int .i64 (zbT t a.pts 0))∧∃ q:Regrown,w''=grow (redrawn w1 q.d) q.os:=fun d os=>Calls.regrown_ret (zhp a _ t _ (HAB.out _ (zaa B1 (below_regrown w1 d os))) (by omega))
  generalize zbT f a.pts 0=x at *
  generalize zbT t a.pts 0=y at *
  have HX2:=Lib.hid hx2
  have HY2:=Lib.hid hy2
  clear hx2 hy2
  refine wp_region_quiet_below (by kernel_rfl) (by kernel_rfl) ?_
  repeat (go_big_quiet_step (with_reducible first | exact k1 _ _ | exact k2 _ _))
  refine wpQuiet_nil ?_
  intro _ hw'
  obtain ⟨⟨dq,osq⟩,hw''⟩:=hw'
  subst hw''
  have B2:=zaa B1 (below_regrown w1 dq osq)
  have X2:=X1.out.step (below_regrown w1 dq osq)
  clear j1 j2 k1 k2 X1 B1
  generalize grow (redrawn w1 dq) osq=W2 at X2 B2 ⊢
  by_cases hx:x < 0
  · have HO:=Lib.hid (HC.out.trans (if_pos (.inl hx)))
    clear HC HX2 HY2
    go_wp2
    go_ret2
    exact RetWay.err HO.out B2
  by_cases hy:y < 0
  · have HO:=Lib.hid (HC.out.trans (if_pos (.inr hy)))
    clear HC HX2 HY2
    go_wp2
    go_ret2
    exact RetWay.err HO.out B2
  have HC:=Lib.hid (HC.out.trans (if_neg (by omega)))
  have hx2:=HX2.out (by omega)
  have hy2:=HY2.out (by omega)
  clear HX2 HY2
  obtain ⟨i0,rfl⟩:∃ k:Nat,x=k:=⟨x.toNat,by omega⟩
  obtain ⟨j0,rfl⟩:∃ k:Nat,y=k:=⟨y.toNat,by omega⟩
  rw [Int.toNat_natCast,Int.toNat_natCast] at HC
  clear hx1 hy1 hx hy
  by_cases heq:i0=j0
  · have HO:=Lib.hid (HC.out.trans (if_pos (by rw [heq])))
    have he:((i0:Int) == (j0:Int))=true:=by simp;omega
    clear HC heq
    go_wp2
    go_ret2
    exact RetWay.err HO.out B2
  have HC:=Lib.hid (HC.out.trans (if_neg (by omega)))
  have he:((i0:Int) == (j0:Int))=false:=by simp;omega
  have hi0:i0 < a.pts.length:=by omega
  have hj0:j0 < a.pts.length:=by omega
  clear hx2 hy2
  have HPT:=Lib.hid (fun (k:Nat) (hk:k < a.pts.length) (W':World) (B:Below w.heap.size w W')=>show ∃ b off,A=some ⟨b,off,none⟩∧zds W' b (off+k * 4) (zdK a.pts k) from by
    obtain ⟨b,off,rfl,hb,_⟩:=HIT.out.get (k:=k) (by simpa using hk)
    exact ⟨b,off,rfl,by rw [zpK hk];exact ze6 HIT.out B hk⟩)
  by_cases hud:i0 < j0
  · have HC:=Lib.hid (HC.out.trans (if_pos (by omega)))
    clear heq
    go_wp2
    clear he
    have HX:=Lib.hid X2
    have HB:=Lib.hid B2
    have HUD:=Lib.hid hud
    clear X2 B2 hud
    go_loopw [9,11] (fun iv v wr=>∃ (i:Nat) (acc:List (List UInt8 × Int × Int)),i0≤i∧i≤j0∧iv=.int .i64 i∧zgg a.pts i0 (j0 - i0) []=zgg a.pts i (j0 - i) acc∧acc.length=i - i0∧GOut W2.heap.size wr 107 4 v (acc.map zfc)∧Below W2.heap.size W2 wr) (fun iv _ _=>j0 - (intOf iv).toNat)
    case atStart=>exact ⟨i0,[],Nat.le_refl _,by have:=HUD.out;omega,rfl,rfl,by simp,GOut.nil _ _ _ _,Below.refl _ _⟩
    case round=>
      obtain ⟨i,acc,hi1,hi2,rfl,hw,hal,O,BW⟩:=hrel
      have HW:=Lib.hid hw
      have HAL:=Lib.hid hal
      have BB:=zaa HB.out BW
      clear hw hal
      by_cases hij:i=j0
      · subst hij
        have HO:=Lib.hid (show zaG a f t=(acc,0) by rw [HC.out,HW.out,Nat.sub_self];rfl)
        obtain ⟨A3,c3,e3,hl3,hI3,_,_⟩:=O.form (by intro y hy;obtain ⟨q,_,rfl⟩:=List.mem_map.1 hy;exact (wpt q).arr_sz)
        rw [List.length_map] at e3 hl3
        subst e3
        clear HC HW O
        go_wp2
        go_ret2
        rw [HO.out]
        exact ⟨A3,c3,rfl,hl3,hI3,BB⟩
      · have hne:((i:Int) != (j0:Int))=true:=by simp;omega
        have hlt:(i:Int) < (j0:Int):=by omega
        obtain ⟨b,off,hA,hP⟩:=HPT.out i (by omega) wr BB
        subst hA
        have HN:=Lib.hid (fun (W':World) (B:Below w.heap.size w W')=>show zds W' b (off+(i+1) * 4) (zdK a.pts (i+1)) from by
          obtain ⟨b',off',hA,hP⟩:=HPT.out (i+1) (by omega) W' B
          obtain ⟨rfl,rfl⟩:b=b'∧off=off':=by simpa using hA
          exact hP)
        have HS:=Lib.hid (show zgg a.pts i0 (j0 - i0) []=if (zdK a.pts i).dir=2 then ([],9) else zgg a.pts (i+1) (j0 - (i+1)) (acc ++ [((zdK a.pts (i+1)).ref,(zdK a.pts i).lo,(zdK a.pts i).hi)]) by
          rw [HW.out,show j0 - i=(j0 - (i+1))+1 by omega];rfl)
        have X3:=HX.out.step BW
        have c1:wr.cell? ⟨g0,1,none⟩=some (.slice (some ⟨b,off,none⟩) a.pts.length c):=X3.cell 1
        have HP:=Lib.hid (fun (W':World) (B:Below wr.heap.size wr W')=>show zds W' b (off+i * 4) (zdK a.pts i) from by
          obtain ⟨b',off',hA,hP⟩:=HPT.out i (by omega) W' (zaa BB B)
          obtain ⟨rfl,rfl⟩:b=b'∧off=off':=by simpa using hA
          exact hP)
        have e3:wr.cell? ⟨b,off+i * 4+3,none⟩=some (.int .u8 (zdK a.pts i).dir):=hP 3 (by omega)
        generalize zdK a.pts i=p at *
        generalize zdK a.pts (i+1)=p2 at *
        have hil:(i:Int) < (a.pts.length:Int):=by omega
        have hic:i < c:=by omega
        clear HW hP
        by_cases hd:p.dir=2
        · have HO:=Lib.hid (show zaG a f t=([],9) by rw [HC.out,HS.out,if_pos hd])
          rw [hd] at e3
          clear HC HS hd
          go_wp2
          go_ret2
          exact RetWay.err HO.out BB
        · have HS:=Lib.hid (HS.out.trans (if_neg hd))
          have hd':(p.dir == 2)=false:=by simpa using hd
          clear hd
          go_upto_region 14 with (fail)
          obtain ⟨m,hm⟩:∃ m:Nat,m=i+1:=⟨_,rfl⟩
          have hmi:(i:Int)+1=(m:Int):=by omega
          have hwm:wrap64 ((i:Int)+1)=(m:Int):=by rw [IntWalk.wrap64_in _ (by omega)];exact hmi
          have hwm2:IntKind.i64.wrap (m:Int)=(m:Int):=IntWalk.i64_in _ ⟨by omega,by omega⟩
          rw [← hm] at HN HS
          have hml:(m:Int) < (a.pts.length:Int):=by omega
          have hmc:m < c:=by omega
          have f1:∀ d os,(grow (redrawn wr d) os).cell? ⟨g0,1,none⟩=some (.slice (some ⟨b,off,none⟩) a.pts.length c):=fun d os=>(X3.step (below_regrown wr d os)).cell 1
          have f2:∀ d os,(grow (redrawn wr d) os).cell? ⟨b,off+m * 4,none⟩=some (.string ⟨p2.ref.toArray⟩):=fun d os=>by
            have:=HN.out _ (zaa BB (below_regrown wr d os)) 0 (by omega)
            rw [Nat.add_zero] at this
            exact this
          have f3:∀ d os,zcR (grow (redrawn wr d) os) b (off+i * 4+1):=fun d os=>⟨_,APt.win_at (HP.out _ (below_regrown wr d os))⟩
          have f4:∀ d os,zcL (grow (redrawn wr d) os) b (off+i * 4+1)=⟨p.lo,p.hi⟩:=fun d os=>zb8 (APt.win_at (HP.out _ (below_regrown wr d os)))
          have HOO:=Lib.hid O
          have HM:=Lib.hid hm
          clear O hm c1 e3 X3
          refine zbx _ 15 (by kernel_rfl) (by kernel_rfl) (fun _ _ _ h=>h) (.inl ⟨rfl,fun _=>rfl⟩) ?_
          simp only [Nat.reduceSub,List.take_succ_cons,List.take_zero,List.drop_succ_cons,List.drop_zero,Act.put,List.setIfInBounds_toArray,List.set_cons_zero,List.set_cons_succ]
          repeat (quiet_step (fail))
          refine wpQuiet_nil ?_
          intro _ hw'
          obtain ⟨⟨dq2,osq2⟩,hw''⟩:=hw'
          subst hw''
          have B3:=below_regrown wr dq2 osq2
          have O3:=HOO.out.step B3
          clear f1 f2 f3 f4 HOO
          generalize grow (redrawn wr dq2) osq2=w3 at B3 O3 ⊢
          have O4:=O3.alloc (.cells (zfc (p2.ref,p.lo,p.hi)) 107)
          have B4:=zaa (zaa BW B3) (zad w3 (.cells (zfc (p2.ref,p.lo,p.hi)) 107))
          have hq:=Blk.new w3 (zfc (p2.ref,p.lo,p.hi)) 107
          have hacc:acc.length≤40:=by have:=HAL.out;omega
          go_wp2_with (at_builtin;refine zaK rfl (.tmp 47) (.tmp 62) _ 107 4 40 _ zd9 rfl (by omega) Tryz.underlying79 rfl O4 rfl (zfc (p2.ref,p.lo,p.hi)) w3.heap.size 1 ((wpt (p2.ref,p.lo,p.hi)).arr_sz) ((wpt (p2.ref,p.lo,p.hi)).arr_one) rfl hq.cell (by rw [List.length_map];unfold maxLen;omega) (by rw [List.length_map];omega) B4.size ?_;intro v5 W5 O5 g5)
          go_roundw
          case rel=>exact ⟨m,acc ++ [(p2.ref,p.lo,p.hi)],by have:=HM.out;omega,by have:=HM.out;omega,rfl,HS.out,by rw [List.length_append,List.length_singleton];have:=HM.out;have:=HAL.out;omega,by rw [List.map_append];exact O5,O4.below_grown g5 B4 (Nat.le_refl _) B4.size⟩
          case measure=>simp [intOf];have:=HM.out;omega
  · have HC:=Lib.hid (HC.out.trans (if_neg (by omega)))
    have hud:j0 < i0:=by omega
    clear heq
    go_wp2
    clear he
    have HX:=Lib.hid X2
    have HB:=Lib.hid B2
    have HUD:=Lib.hid hud
    clear X2 B2 hud
    go_loopw [9,11] (fun iv v wr=>∃ (i:Nat) (acc:List (List UInt8 × Int × Int)),j0≤i∧i≤i0∧iv=.int .i64 i∧zgh a.pts i0 (i0 - j0) []=zgh a.pts i (i - j0) acc∧acc.length=i0 - i∧GOut W2.heap.size wr 107 4 v (acc.map zfc)∧Below W2.heap.size W2 wr) (fun iv _ _=>(intOf iv).toNat)
    case atStart=>exact ⟨i0,[],by have:=HUD.out;omega,Nat.le_refl _,rfl,rfl,by simp,GOut.nil _ _ _ _,Below.refl _ _⟩
    case round=>
      obtain ⟨i,acc,hi1,hi2,rfl,hw,hal,O,BW⟩:=hrel
      have HW:=Lib.hid hw
      have HAL:=Lib.hid hal
      have BB:=zaa HB.out BW
      clear hw hal
      by_cases hij:i=j0
      · subst hij
        have HO:=Lib.hid (show zaG a f t=(acc,0) by rw [HC.out,HW.out,Nat.sub_self];rfl)
        obtain ⟨A3,c3,e3,hl3,hI3,_,_⟩:=O.form (by intro y hy;obtain ⟨q,_,rfl⟩:=List.mem_map.1 hy;exact (wpt q).arr_sz)
        rw [List.length_map] at e3 hl3
        subst e3
        clear HC HW O
        go_wp2
        go_ret2
        rw [HO.out]
        exact ⟨A3,c3,rfl,hl3,hI3,BB⟩
      · have hne:((i:Int) != (j0:Int))=true:=by simp;omega
        have hlt:¬ (i:Int) < (j0:Int):=by omega
        obtain ⟨m,hm⟩:∃ m:Nat,i=m+1:=⟨i - 1,by omega⟩
        have hmi:(i:Int) - 1=(m:Int):=by omega
        obtain ⟨b,off,hA,hP⟩:=HPT.out m (by omega) wr BB
        subst hA
        have HS:=Lib.hid (show zgh a.pts i0 (i0 - j0) []=if (zdK a.pts m).dir=1 then ([],9) else zgh a.pts m (m - j0) (acc ++ [((zdK a.pts m).ref,(zdK a.pts m).lo,(zdK a.pts m).hi)]) by
          rw [HW.out,hm,show m+1 - j0=(m - j0)+1 by omega];rfl)
        have X3:=HX.out.step BW
        have c1:wr.cell? ⟨g0,1,none⟩=some (.slice (some ⟨b,off,none⟩) a.pts.length c):=X3.cell 1
        have HP:=Lib.hid (fun (W':World) (B:Below wr.heap.size wr W')=>show zds W' b (off+m * 4) (zdK a.pts m) from by
          obtain ⟨b',off',hA,hP⟩:=HPT.out m (by omega) W' (zaa BB B)
          obtain ⟨rfl,rfl⟩:b=b'∧off=off':=by simpa using hA
          exact hP)
        have e3:wr.cell? ⟨b,off+m * 4+3,none⟩=some (.int .u8 (zdK a.pts m).dir):=hP 3 (by omega)
        generalize hp2:zdK a.pts m=p at *
        obtain ⟨p2,hpp⟩:∃ p2,p2=p:=⟨_,rfl⟩
        have hil:(m:Int) < (a.pts.length:Int):=by omega
        have hic:m < c:=by omega
        have HMI:=Lib.hid hmi
        have HM:=Lib.hid hm
        have hwm:wrap64 ((i:Int) - 1)=(m:Int):=by rw [IntWalk.wrap64_in _ (by omega)];exact hmi
        have hwm2:IntKind.i64.wrap (m:Int)=(m:Int):=IntWalk.i64_in _ ⟨by omega,by omega⟩
        clear HW hP hm
        by_cases hd:p.dir=1
        · have HO:=Lib.hid (show zaG a f t=([],9) by rw [HC.out,HS.out,if_pos hd])
          rw [hd] at e3
          clear HC HS hd hpp hp2
          go_wp2
          go_ret2
          exact RetWay.err HO.out BB
        · have HS:=Lib.hid (HS.out.trans (if_neg hd))
          have hd':(p.dir == 1)=false:=by simpa using hd
          clear hd hp2
          subst hpp
          go_upto_region 18 with (fail)
          have f1:∀ d os,(grow (redrawn wr d) os).cell? ⟨g0,1,none⟩=some (.slice (some ⟨b,off,none⟩) a.pts.length c):=fun d os=>(X3.step (below_regrown wr d os)).cell 1
          have f2:∀ d os,(grow (redrawn wr d) os).cell? ⟨b,off+m * 4,none⟩=some (.string ⟨p2.ref.toArray⟩):=fun d os=>by
            have:=HP.out _ (below_regrown wr d os) 0 (by omega)
            rw [Nat.add_zero] at this
            exact this
          have f3:∀ d os,zcR (grow (redrawn wr d) os) b (off+m * 4+1):=fun d os=>⟨_,APt.win_at (HP.out _ (below_regrown wr d os))⟩
          have f4:∀ d os,zcL (grow (redrawn wr d) os) b (off+m * 4+1)=⟨p2.lo,p2.hi⟩:=fun d os=>zb8 (APt.win_at (HP.out _ (below_regrown wr d os)))
          have HOO:=Lib.hid O
          clear O c1 e3 X3
          refine zbx _ 16 (by kernel_rfl) (by kernel_rfl) (fun _ _ _ h=>h) (.inl ⟨rfl,fun _=>rfl⟩) ?_
          simp only [Nat.reduceSub,List.take_succ_cons,List.take_zero,List.drop_succ_cons,List.drop_zero,Act.put,List.setIfInBounds_toArray,List.set_cons_zero,List.set_cons_succ]
          repeat (quiet_step (fail))
          refine wpQuiet_nil ?_
          intro _ hw'
          obtain ⟨⟨dq2,osq2⟩,hw''⟩:=hw'
          subst hw''
          have B3:=below_regrown wr dq2 osq2
          have O3:=HOO.out.step B3
          clear f1 f2 f3 f4 HOO
          generalize grow (redrawn wr dq2) osq2=w3 at B3 O3 ⊢
          have O4:=O3.alloc (.cells (zfc (p2.ref,p2.lo,p2.hi)) 107)
          have B4:=zaa (zaa BW B3) (zad w3 (.cells (zfc (p2.ref,p2.lo,p2.hi)) 107))
          have hq:=Blk.new w3 (zfc (p2.ref,p2.lo,p2.hi)) 107
          have hacc:acc.length≤40:=by have:=HAL.out;omega
          go_wp2_with (at_builtin;refine zaK rfl (.tmp 74) (.tmp 90) _ 107 4 40 _ zd9 rfl (by omega) Tryz.underlying79 rfl O4 rfl (zfc (p2.ref,p2.lo,p2.hi)) w3.heap.size 1 ((wpt (p2.ref,p2.lo,p2.hi)).arr_sz) ((wpt (p2.ref,p2.lo,p2.hi)).arr_one) rfl hq.cell (by rw [List.length_map];unfold maxLen;omega) (by rw [List.length_map];omega) B4.size ?_;intro v5 W5 O5 g5)
          go_roundw
          case rel=>exact ⟨m,acc ++ [(p2.ref,p2.lo,p2.hi)],by have:=HM.out;omega,by have:=HM.out;omega,rfl,HS.out,by rw [List.length_append,List.length_singleton];have:=HM.out;have:=HAL.out;omega,by rw [List.map_append];exact O5,O4.below_grown g5 B4 (Nat.le_refl _) B4.size⟩
          case measure=>simp [intOf];have:=HM.out;omega
end Go.Proofs.YtgoeedohgomodaaGreatDoor
