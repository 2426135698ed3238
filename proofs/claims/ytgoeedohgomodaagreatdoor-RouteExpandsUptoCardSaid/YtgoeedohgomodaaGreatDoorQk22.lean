/- Lemmas and walks. -/
import Derived.Test.YtgoeedohgomodaaGreatDoorQk01
import Derived.Test.YtgoeedohgomodaaGreatDoorQk12
set_option linter.unusedSimpArgs false
set_option linter.unusedVariables false
namespace Go.Proofs.YtgoeedohgomodaaGreatDoor
open Go.RowKit
theorem zdj {x y:Int} (h0:0≤x * y) (h1:x * y≤9000000000000000000) (w:World):Calls Tryz.prog 250 #[.int .i64 x, .int .i64 y] w (RetP w (.int .i64 (zdN x y))):=by
  go_enter Tryz.func250,Tryz.ntmps250
  go_wp2
  all_goals (go_ret;exact RetP.int rfl rfl)
theorem zcp {x y:Int} (h0:0≤x * y) (h1:x * y≤9000000000000000000) (w:World):Calls Tryz.prog 247 #[.int .i64 x, .int .i64 y] w (RetP w (.int .i64 (zdN x y))):=by
  go_enter Tryz.func247,Tryz.ntmps247
  go_wp2
  all_goals (go_ret;exact RetP.int rfl rfl)
theorem zew {x:Int} (h0:-9000000000000000000≤x) (h1:x≤9000000000000000000) (w:World):Calls Tryz.prog 238 #[.int .i64 x] w (RetP w (.int .i64 (zaw x))):=by
  go_enter Tryz.func238,Tryz.ntmps238
  go_wp2
  all_goals (go_ret;exact RetP.int rfl rfl)
theorem zwg {x n:Int} (h0:0≤x) (h1:x≤9000000000000000000) (n2:2≤n) (n110:n≤110):wrap64 ((x+n / 2) / n)=(x+n / 2) / n:=by
  have a1:(x+n / 2) / n≤x+n / 2:=Int.ediv_le_self _ (by omega)
  have a2:0≤(x+n / 2) / n:=Int.ediv_nonneg (by omega) (by omega)
  generalize (x+n / 2) / n=q at *
  unfold wrap64;omega
theorem zdB {x n:Int} (h0:0≤x) (h1:x≤9000000000000000000) (n2:2≤n) (n110:n≤110) (w:World):Calls Tryz.prog 251 #[.int .i64 x, .int .i64 n] w (RetP w (.int .i64 (ziz x n))):=by
  have e1:Int.tdiv n 2=n / 2:=Int.tdiv_eq_ediv_of_nonneg (by omega)
  have e2:Int.tdiv (x+n / 2) n=(x+n / 2) / n:=Int.tdiv_eq_ediv_of_nonneg (by omega)
  go_enter Tryz.func251,Tryz.ntmps251
  go_wp2
  all_goals (go_ret;exact RetP.int (zwg h0 h1 n2 n110) rfl)
theorem zcS {x n:Int} (h0:0≤x) (h1:x≤9000000000000000000) (n2:2≤n) (n110:n≤110) (w:World):Calls Tryz.prog 246 #[.int .i64 x, .int .i64 n] w (RetP w (.int .i64 (ziz x n))):=by
  have e1:Int.tdiv n 2=n / 2:=Int.tdiv_eq_ediv_of_nonneg (by omega)
  have e2:Int.tdiv (x+n / 2) n=(x+n / 2) / n:=Int.tdiv_eq_ediv_of_nonneg (by omega)
  go_enter Tryz.func246,Tryz.ntmps246
  go_wp2
  all_goals (go_ret;exact RetP.int (zwg h0 h1 n2 n110) rfl)
end Go.Proofs.YtgoeedohgomodaaGreatDoor
namespace Go.Proofs.YtgoeedohgomodaaGreatDoor
open Go.RowKit
theorem zpR {a:Int} (h:a.tmod 129600000 < 0):wrap64 (a.tmod 129600000+129600000)=zcw a:=by
  have:=Int.tmod_eq_emod (a:=a) (b:=129600000)
  unfold wrap64 zcw
  split at this <;> omega
theorem zpQ {a:Int} (h:0≤a.tmod 129600000):a.tmod 129600000=zcw a:=by
  have:=Int.tmod_eq_emod (a:=a) (b:=129600000)
  unfold zcw
  split at this <;> omega
theorem zfI (a:Int) (h0:-9223372036854775808≤a) (h1:a≤9223372036854775807) (w:World):Calls Tryz.prog 231 #[.int .i64 a] w (RetP w (.int .i64 (zcw a))):=by
  go_enter Tryz.func231,Tryz.ntmps231
  go_wp2
  all_goals (go_ret;first | exact RetP.int (zpR (by assumption)) rfl | exact RetP.int (zpQ (by assumption)) rfl)
theorem zhg (a:Int) (h0:-9223372036854775808≤a) (h1:a≤9223372036854775807) (w:World):Calls Tryz.prog 242 #[.int .i64 a] w (RetP w (.int .i64 (zcw a))):=by
  go_enter Tryz.func242,Tryz.ntmps242
  go_wp2
  all_goals (go_ret;first | exact RetP.int (zpR (by assumption)) rfl | exact RetP.int (zpQ (by assumption)) rfl)
end Go.Proofs.YtgoeedohgomodaaGreatDoor
namespace Go.Proofs.YtgoeedohgomodaaGreatDoor
open Go.RowKit
set_option maxRecDepth 100000
theorem zuy (a b:Int) (h0:-9223372036854775808≤a) (h1:a≤9223372036854775807) (h2:-9223372036854775808≤b) (h3:b≤9223372036854775807) (w:World):Calls Tryz.prog 244 #[.int .i64 a, .int .i64 b] w (RetP w (.int .i64 (zfd a b))):=by
  have e1:=zdD a
  have e2:=zdD b
  have ca:=Lib.hid (zhg a h0 h1)
  have cb:=Lib.hid (zhg b h2 h3)
  have cc:=Lib.hid (zhg (zcw a+zcw b) (by omega) (by omega))
  have ce:=Lib.hid (show zfd a b=zcw (zcw a+zcw b) from rfl)
  generalize zfd a b=tab at *
  generalize zcw (zcw a+zcw b)=nab at *
  generalize zcw a=na at *
  generalize zcw b=nb at *
  clear h0 h1 h2 h3
  go_enter Tryz.func244,Tryz.ntmps244
  go_wp2_with (go_at_call 242;first | (with_reducible refine zae (ca.out _) ?_) | (with_reducible refine zae (cb.out _) ?_) | (with_reducible refine zae (cc.out _) ?_))
  go_ret
  exact RetP.int ce.out.symm rfl
end Go.Proofs.YtgoeedohgomodaaGreatDoor
namespace Go.Proofs.YtgoeedohgomodaaGreatDoor
open Go.RowKit
set_option maxRecDepth 100000
def ix5 (x i:Value):Sem Value:=Instr.index 276 x i
theorem zpX (x i:Value):Instr.index 276 x i=ix5 x i:=rfl
theorem znc (w:World) (a b c d e:Value):(ix5 (.agg #[a,b,c,d,e]) (.int .i64 0)).run Tryz.prog w=.ok a w:=by kernel_rfl
theorem znb (w:World) (a b c d e:Value):(ix5 (.agg #[a,b,c,d,e]) (.int .i64 1)).run Tryz.prog w=.ok b w:=by kernel_rfl
theorem zna (w:World) (a b c d e:Value):(ix5 (.agg #[a,b,c,d,e]) (.int .i64 2)).run Tryz.prog w=.ok c w:=by kernel_rfl
theorem zm9 (w:World) (a b c d e:Value):(ix5 (.agg #[a,b,c,d,e]) (.int .i64 3)).run Tryz.prog w=.ok d w:=by kernel_rfl
theorem zm8 (w:World) (a b c d e:Value):(ix5 (.agg #[a,b,c,d,e]) (.int .i64 4)).run Tryz.prog w=.ok e w:=by kernel_rfl
attribute [local go_sem ↓] zpX
attribute [local go_sem] znc znb zna zm9 zm8
structure Step (u r n v d:Int):Prop where
  hv:v=zdN u r
  hd:d=ziz v n
  p0:0≤u * r
  p1:u * r≤9000000000000000000
  v0:0≤v
  v1:v≤1686629713
  d0:0≤d
  d1:d≤1686629770
theorem zlJ {u r n:Int} (u0:0≤u) (u1:u≤1686629713) (r0:0≤r) (r1:r≤2147483648) (n2:2≤n) (n110:n≤110):Step u r n (zdN u r) (ziz (zdN u r) n):=by
  obtain ⟨p0,p1,m0,m1⟩:=zjz u0 u1 r0 r1
  obtain ⟨d0,d1⟩:=zmC m0 m1 n2 n110
  exact ⟨rfl,rfl,p0,by omega,m0,m1,d0,d1⟩
structure zyb (n0 n1 n2 n3 n4 u d0 v1 d1 v2 d2 v3 d3 v4 d4:Int):Prop where
  h0:d0=ziz u n0
  a0:0≤d0
  b0:d0≤1686629770
  s1:Step u (2147483648 - d0) n1 v1 d1
  s2:Step u (2147483648 - d1) n2 v2 d2
  s3:Step u (2147483648 - d2) n3 v3 d3
  s4:Step u (2147483648 - d3) n4 v4 d4
theorem ziB {u n0 n1 n2 n3 n4:Int} (u0:0≤u) (u1:u≤1686629713) (h0:2≤n0∧n0≤110) (h1:2≤n1∧n1≤110) (h2:2≤n2∧n2≤110) (h3:2≤n3∧n3≤110) (h4:2≤n4∧n4≤110):
    ∃ d0 v1 d1 v2 d2 v3 d3 v4 d4,zyb n0 n1 n2 n3 n4 u d0 v1 d1 v2 d2 v3 d3 v4 d4∧zgi u (zgi u (zgi u (zgi u (2147483648 - ziz u n0) n1) n2) n3) n4=2147483648 - d4:=by
  obtain ⟨a0,b0⟩:=zmC u0 u1 h0.1 h0.2
  have s1:=zlJ u0 u1 (r:=2147483648 - ziz u n0) (by omega) (by omega) h1.1 h1.2
  have s2:=zlJ u0 u1 (r:=2147483648 - ziz (zdN u (2147483648 - ziz u n0)) n1) (by have:=s1.d0;have:=s1.d1;omega) (by have:=s1.d0;omega) h2.1 h2.2
  have s3:=zlJ u0 u1 (r:=2147483648 - ziz (zdN u (2147483648 - ziz (zdN u (2147483648 - ziz u n0)) n1)) n2) (by have:=s2.d0;have:=s2.d1;omega) (by have:=s2.d0;omega) h3.1 h3.2
  have s4:=zlJ u0 u1 (r:=2147483648 - ziz (zdN u (2147483648 - ziz (zdN u (2147483648 - ziz (zdN u (2147483648 - ziz u n0)) n1)) n2)) n3) (by have:=s3.d0;have:=s3.d1;omega) (by have:=s3.d0;omega) h4.1 h4.2
  exact ⟨_,_,_,_,_,_,_,_,_,⟨rfl,a0,b0,s1,s2,s3,s4⟩,rfl⟩
theorem zg0 (a:Int) (h0:0≤a) (h1:a≤16200000) (w:World):Calls Tryz.prog 245 #[.int .i64 a] w (RetP w (.tuple #[.int .i64 (zbp a), .int .i64 (zdN (zbp a) (zbp a))])):=by
  obtain ⟨t0,t1⟩:=zgC h0 h1
  have tt:0≤zbp a * zbp a∧zbp a * zbp a≤9000000000000000000:=by have:=zjy t0 t1 t0 t1;omega
  have ku:=Lib.hid (zcp (x:=zbp a) (y:=zbp a) tt.1 tt.2)
  have e2:(a * 6746518852+32400000) / 64800000=zbp a:=rfl
  clear tt
  generalize zdN (zbp a) (zbp a)=u at *
  generalize zbp a=t at *
  go_enter Tryz.func245,Tryz.ntmps245
  go_wp2_with (go_at_call 247;(with_reducible refine zae (ku.out _) ?_))
  go_ret2
  exact ⟨rfl,rfl⟩
set_option maxHeartbeats 2000000 in
theorem zss (a:Int) (h0:0≤a) (h1:a≤16200000) (w:World):Calls Tryz.prog 240 #[.int .i64 a] w (RetP w (.int .i64 (zfU a))):=by
  obtain ⟨t0,t1⟩:=zgC h0 h1
  obtain ⟨u0,u1⟩:=zhG h0 h1
  obtain ⟨d0,v1,d1,v2,d2,v3,d3,v4,d4,C,hC⟩:=ziB (n0:=110) (n1:=72) (n2:=42) (n3:=20) (n4:=6) u0 (by omega) (by decide) (by decide) (by decide) (by decide) (by decide)
  have tt:0≤zbp a * zbp a∧zbp a * zbp a≤9000000000000000000:=by have:=zjy t0 t1 t0 t1;omega
  have HA:=Lib.hid (show (a * 6746518852+32400000) / 64800000=zbp a from rfl)
  have HS:=Lib.hid (show zfU a=(zdN (zbp a) (2147483648 - d4)+1) / 2 by unfold zfU zsa;rw [hC])
  have hm:=zjz t0 t1 (r:=2147483648 - d4) (by have:=C.s4.d1;omega) (by have:=C.s4.d0;omega)
  have km:=Lib.hid (zcp (x:=zbp a) (y:=2147483648 - d4) hm.1 (by have:=hm.2.1;omega))
  have ku:=Lib.hid (zcp (x:=zbp a) (y:=zbp a) tt.1 tt.2)
  have kd0:=Lib.hid (zcS (x:=zdN (zbp a) (zbp a)) (n:=110) u0 (by omega) (by decide) (by decide))
  rw [← C.h0] at kd0
  have k1:=Lib.hid (zcp (x:=zdN (zbp a) (zbp a)) (y:=2147483648 - d0) C.s1.p0 C.s1.p1)
  rw [← C.s1.hv] at k1
  have kd1:=Lib.hid (zcS (x:=v1) (n:=72) C.s1.v0 (by have:=C.s1.v1;omega) (by decide) (by decide))
  rw [← C.s1.hd] at kd1
  have k2:=Lib.hid (zcp (x:=zdN (zbp a) (zbp a)) (y:=2147483648 - d1) C.s2.p0 C.s2.p1)
  rw [← C.s2.hv] at k2
  have kd2:=Lib.hid (zcS (x:=v2) (n:=42) C.s2.v0 (by have:=C.s2.v1;omega) (by decide) (by decide))
  rw [← C.s2.hd] at kd2
  have k3:=Lib.hid (zcp (x:=zdN (zbp a) (zbp a)) (y:=2147483648 - d2) C.s3.p0 C.s3.p1)
  rw [← C.s3.hv] at k3
  have kd3:=Lib.hid (zcS (x:=v3) (n:=20) C.s3.v0 (by have:=C.s3.v1;omega) (by decide) (by decide))
  rw [← C.s3.hd] at kd3
  have k4:=Lib.hid (zcp (x:=zdN (zbp a) (zbp a)) (y:=2147483648 - d3) C.s4.p0 C.s4.p1)
  rw [← C.s4.hv] at k4
  have kd4:=Lib.hid (zcS (x:=v4) (n:=6) C.s4.v0 (by have:=C.s4.v1;omega) (by decide) (by decide))
  rw [← C.s4.hd] at kd4
  have b0:=C.a0
  have b0':=C.b0
  have b1:=C.s1.d0
  have b1':=C.s1.d1
  have b2:=C.s2.d0
  have b2':=C.s2.d1
  have b3:=C.s3.d0
  have b3':=C.s3.d1
  have b4:=C.s4.d0
  have b4':=C.s4.d1
  have ka:=Lib.hid (zg0 a h0 h1)
  clear C hC tt
  obtain ⟨_,_,m0,m1⟩:=hm
  generalize zdN (zbp a) (2147483648 - d4)=m at *
  generalize zdN (zbp a) (zbp a)=u at *
  generalize zfU a=out at HS ⊢
  go_enter Tryz.func240,Tryz.ntmps240
  go_wp2_with (first
      | (go_at_call 245;(with_reducible refine zae (ka.out _) ?_))
      | (go_at_call 247;first | (with_reducible refine zae (ku.out _) ?_) | (with_reducible refine zae (km.out _) ?_) | (with_reducible refine zae (k1.out _) ?_) | (with_reducible refine zae (k2.out _) ?_) | (with_reducible refine zae (k3.out _) ?_) | (with_reducible refine zae (k4.out _) ?_))
      | (go_at_call 246;first | (with_reducible refine zae (kd0.out _) ?_) | (with_reducible refine zae (kd1.out _) ?_) | (with_reducible refine zae (kd2.out _) ?_) | (with_reducible refine zae (kd3.out _) ?_) | (with_reducible refine zae (kd4.out _) ?_)))
  go_ret
  exact RetP.int HS.out.symm rfl
set_option maxHeartbeats 2000000 in
theorem zuE (a:Int) (h0:0≤a) (h1:a≤16200000) (w:World):Calls Tryz.prog 248 #[.int .i64 a] w (RetP w (.int .i64 (zfU a))):=by
  obtain ⟨t0,t1⟩:=zgC h0 h1
  obtain ⟨u0,u1⟩:=zhG h0 h1
  obtain ⟨d0,v1,d1,v2,d2,v3,d3,v4,d4,C,hC⟩:=ziB (n0:=110) (n1:=72) (n2:=42) (n3:=20) (n4:=6) u0 (by omega) (by decide) (by decide) (by decide) (by decide) (by decide)
  have tt:0≤zbp a * zbp a∧zbp a * zbp a≤9000000000000000000:=by have:=zjy t0 t1 t0 t1;omega
  have HA:=Lib.hid (show (a * 6746518852+32400000) / 64800000=zbp a from rfl)
  have HS:=Lib.hid (show zfU a=(zdN (zbp a) (2147483648 - d4)+1) / 2 by unfold zfU zsa;rw [hC])
  have hm:=zjz t0 t1 (r:=2147483648 - d4) (by have:=C.s4.d1;omega) (by have:=C.s4.d0;omega)
  have km:=Lib.hid (zdj (x:=zbp a) (y:=2147483648 - d4) hm.1 (by have:=hm.2.1;omega))
  have ku:=Lib.hid (zdj (x:=zbp a) (y:=zbp a) tt.1 tt.2)
  have kd0:=Lib.hid (zdB (x:=zdN (zbp a) (zbp a)) (n:=110) u0 (by omega) (by decide) (by decide))
  rw [← C.h0] at kd0
  have k1:=Lib.hid (zdj (x:=zdN (zbp a) (zbp a)) (y:=2147483648 - d0) C.s1.p0 C.s1.p1)
  rw [← C.s1.hv] at k1
  have kd1:=Lib.hid (zdB (x:=v1) (n:=72) C.s1.v0 (by have:=C.s1.v1;omega) (by decide) (by decide))
  rw [← C.s1.hd] at kd1
  have k2:=Lib.hid (zdj (x:=zdN (zbp a) (zbp a)) (y:=2147483648 - d1) C.s2.p0 C.s2.p1)
  rw [← C.s2.hv] at k2
  have kd2:=Lib.hid (zdB (x:=v2) (n:=42) C.s2.v0 (by have:=C.s2.v1;omega) (by decide) (by decide))
  rw [← C.s2.hd] at kd2
  have k3:=Lib.hid (zdj (x:=zdN (zbp a) (zbp a)) (y:=2147483648 - d2) C.s3.p0 C.s3.p1)
  rw [← C.s3.hv] at k3
  have kd3:=Lib.hid (zdB (x:=v3) (n:=20) C.s3.v0 (by have:=C.s3.v1;omega) (by decide) (by decide))
  rw [← C.s3.hd] at kd3
  have k4:=Lib.hid (zdj (x:=zdN (zbp a) (zbp a)) (y:=2147483648 - d3) C.s4.p0 C.s4.p1)
  rw [← C.s4.hv] at k4
  have kd4:=Lib.hid (zdB (x:=v4) (n:=6) C.s4.v0 (by have:=C.s4.v1;omega) (by decide) (by decide))
  rw [← C.s4.hd] at kd4
  have b0:=C.a0
  have b0':=C.b0
  have b1:=C.s1.d0
  have b1':=C.s1.d1
  have b2:=C.s2.d0
  have b2':=C.s2.d1
  have b3:=C.s3.d0
  have b3':=C.s3.d1
  have b4:=C.s4.d0
  have b4':=C.s4.d1
  clear C hC tt
  obtain ⟨_,_,m0,m1⟩:=hm
  generalize zdN (zbp a) (2147483648 - d4)=m at *
  generalize zdN (zbp a) (zbp a)=u at *
  generalize zfU a=out at HS ⊢
  have e1:Int.tdiv (a * 6746518852+32400000) 64800000=zbp a:=by rw [Int.tdiv_eq_ediv_of_nonneg (by omega)];exact HA.out
  have e2:(a * 6746518852+32400000) / 64800000=zbp a:=HA.out
  go_enter Tryz.func248,Tryz.ntmps248
  go_upto_region 3 with (first
      | (go_at_call 250;first | (with_reducible refine zae (ku.out _) ?_) | (with_reducible refine zae (km.out _) ?_) | (with_reducible refine zae (k1.out _) ?_) | (with_reducible refine zae (k2.out _) ?_) | (with_reducible refine zae (k3.out _) ?_) | (with_reducible refine zae (k4.out _) ?_))
      | (go_at_call 251;first | (with_reducible refine zae (kd0.out _) ?_) | (with_reducible refine zae (kd1.out _) ?_) | (with_reducible refine zae (kd2.out _) ?_) | (with_reducible refine zae (kd3.out _) ?_) | (with_reducible refine zae (kd4.out _) ?_)))
  generalize zbp a=t at *
  clear e1 e2
  obtain ⟨rk,r0,r1,r2,r3,r4,r5⟩:∃ rk:Nat→Int,rk 0=2147483648∧rk 1=2147483648 - d0∧rk 2=2147483648 - d1∧rk 3=2147483648 - d2∧rk 4=2147483648 - d3∧rk 5=2147483648 - d4:=
    ⟨fun k=>match k with | 0=>2147483648 | 1=>2147483648 - d0 | 2=>2147483648 - d1 | 3=>2147483648 - d2 | 4=>2147483648 - d3 | _=>2147483648 - d4,rfl,rfl,rfl,rfl,rfl,rfl⟩
  have R0:=Lib.hid r0;have R1:=Lib.hid r1;have R2:=Lib.hid r2;have R3:=Lib.hid r3;have R4:=Lib.hid r4;have R5:=Lib.hid r5
  clear r0 r1 r2 r3 r4 r5
  go_wp2
  go_loop [5,17] (fun r i=>∃ k:Nat,k≤5∧i=.int .i64 k∧r=.int .i64 (rk k)) (fun _ i=>5 - (intOf i).toNat)
  case atStart=>exact ⟨0,by omega,rfl,by rw [R0.out]⟩
  case round=>
    obtain ⟨k,hk,rfl,rfl⟩:=hrel
    obtain rfl | rfl | rfl | rfl | rfl | rfl:k=0∨k=1∨k=2∨k=3∨k=4∨k=5:=by omega
    · rw [R0.out]
      go_wp2_with (first | (go_at_call 250;first | (with_reducible refine zae (ku.out _) ?_) | (with_reducible refine zae (km.out _) ?_) | (with_reducible refine zae (k1.out _) ?_) | (with_reducible refine zae (k2.out _) ?_) | (with_reducible refine zae (k3.out _) ?_) | (with_reducible refine zae (k4.out _) ?_)) | (go_at_call 251;first | (with_reducible refine zae (kd0.out _) ?_) | (with_reducible refine zae (kd1.out _) ?_) | (with_reducible refine zae (kd2.out _) ?_) | (with_reducible refine zae (kd3.out _) ?_) | (with_reducible refine zae (kd4.out _) ?_)))
      go_round
      case rel=>exact ⟨1,by omega,rfl,by rw [R1.out]⟩
      case measure=>simp [intOf]
    · rw [R1.out]
      go_wp2_with (first | (go_at_call 250;first | (with_reducible refine zae (ku.out _) ?_) | (with_reducible refine zae (km.out _) ?_) | (with_reducible refine zae (k1.out _) ?_) | (with_reducible refine zae (k2.out _) ?_) | (with_reducible refine zae (k3.out _) ?_) | (with_reducible refine zae (k4.out _) ?_)) | (go_at_call 251;first | (with_reducible refine zae (kd0.out _) ?_) | (with_reducible refine zae (kd1.out _) ?_) | (with_reducible refine zae (kd2.out _) ?_) | (with_reducible refine zae (kd3.out _) ?_) | (with_reducible refine zae (kd4.out _) ?_)))
      go_round
      case rel=>exact ⟨2,by omega,rfl,by rw [R2.out]⟩
      case measure=>simp [intOf]
    · rw [R2.out]
      go_wp2_with (first | (go_at_call 250;first | (with_reducible refine zae (ku.out _) ?_) | (with_reducible refine zae (km.out _) ?_) | (with_reducible refine zae (k1.out _) ?_) | (with_reducible refine zae (k2.out _) ?_) | (with_reducible refine zae (k3.out _) ?_) | (with_reducible refine zae (k4.out _) ?_)) | (go_at_call 251;first | (with_reducible refine zae (kd0.out _) ?_) | (with_reducible refine zae (kd1.out _) ?_) | (with_reducible refine zae (kd2.out _) ?_) | (with_reducible refine zae (kd3.out _) ?_) | (with_reducible refine zae (kd4.out _) ?_)))
      go_round
      case rel=>exact ⟨3,by omega,rfl,by rw [R3.out]⟩
      case measure=>simp [intOf]
    · rw [R3.out]
      go_wp2_with (first | (go_at_call 250;first | (with_reducible refine zae (ku.out _) ?_) | (with_reducible refine zae (km.out _) ?_) | (with_reducible refine zae (k1.out _) ?_) | (with_reducible refine zae (k2.out _) ?_) | (with_reducible refine zae (k3.out _) ?_) | (with_reducible refine zae (k4.out _) ?_)) | (go_at_call 251;first | (with_reducible refine zae (kd0.out _) ?_) | (with_reducible refine zae (kd1.out _) ?_) | (with_reducible refine zae (kd2.out _) ?_) | (with_reducible refine zae (kd3.out _) ?_) | (with_reducible refine zae (kd4.out _) ?_)))
      go_round
      case rel=>exact ⟨4,by omega,rfl,by rw [R4.out]⟩
      case measure=>simp [intOf]
    · rw [R4.out]
      go_wp2_with (first | (go_at_call 250;first | (with_reducible refine zae (ku.out _) ?_) | (with_reducible refine zae (km.out _) ?_) | (with_reducible refine zae (k1.out _) ?_) | (with_reducible refine zae (k2.out _) ?_) | (with_reducible refine zae (k3.out _) ?_) | (with_reducible refine zae (k4.out _) ?_)) | (go_at_call 251;first | (with_reducible refine zae (kd0.out _) ?_) | (with_reducible refine zae (kd1.out _) ?_) | (with_reducible refine zae (kd2.out _) ?_) | (with_reducible refine zae (kd3.out _) ?_) | (with_reducible refine zae (kd4.out _) ?_)))
      go_round
      case rel=>exact ⟨5,by omega,rfl,by rw [R5.out]⟩
      case measure=>simp [intOf]
    · rw [R5.out]
      go_wp2_with (first | (go_at_call 250;first | (with_reducible refine zae (ku.out _) ?_) | (with_reducible refine zae (km.out _) ?_) | (with_reducible refine zae (k1.out _) ?_) | (with_reducible refine zae (k2.out _) ?_) | (with_reducible refine zae (k3.out _) ?_) | (with_reducible refine zae (k4.out _) ?_)) | (go_at_call 251;first | (with_reducible refine zae (kd0.out _) ?_) | (with_reducible refine zae (kd1.out _) ?_) | (with_reducible refine zae (kd2.out _) ?_) | (with_reducible refine zae (kd3.out _) ?_) | (with_reducible refine zae (kd4.out _) ?_)))
      go_ret
      exact RetP.int HS.out.symm rfl
set_option maxHeartbeats 2000000 in
theorem zrl (a:Int) (h0:0≤a) (h1:a≤16200000) (w:World):Calls Tryz.prog 249 #[.int .i64 a] w (RetP w (.int .i64 (zcP a))):=by
  obtain ⟨t0,t1⟩:=zgC h0 h1
  obtain ⟨u0,u1⟩:=zhG h0 h1
  obtain ⟨d0,v1,d1,v2,d2,v3,d3,v4,d4,C,hC⟩:=ziB (n0:=90) (n1:=56) (n2:=30) (n3:=12) (n4:=2) u0 (by omega) (by decide) (by decide) (by decide) (by decide) (by decide)
  have tt:0≤zbp a * zbp a∧zbp a * zbp a≤9000000000000000000:=by have:=zjy t0 t1 t0 t1;omega
  have HA:=Lib.hid (show (a * 6746518852+32400000) / 64800000=zbp a from rfl)
  have HS:=Lib.hid (show zcP a=(2147483648 - d4+1) / 2 by unfold zcP zjO;rw [hC])
  have ku:=Lib.hid (zdj (x:=zbp a) (y:=zbp a) tt.1 tt.2)
  have kd0:=Lib.hid (zdB (x:=zdN (zbp a) (zbp a)) (n:=90) u0 (by omega) (by decide) (by decide))
  rw [← C.h0] at kd0
  have k1:=Lib.hid (zdj (x:=zdN (zbp a) (zbp a)) (y:=2147483648 - d0) C.s1.p0 C.s1.p1)
  rw [← C.s1.hv] at k1
  have kd1:=Lib.hid (zdB (x:=v1) (n:=56) C.s1.v0 (by have:=C.s1.v1;omega) (by decide) (by decide))
  rw [← C.s1.hd] at kd1
  have k2:=Lib.hid (zdj (x:=zdN (zbp a) (zbp a)) (y:=2147483648 - d1) C.s2.p0 C.s2.p1)
  rw [← C.s2.hv] at k2
  have kd2:=Lib.hid (zdB (x:=v2) (n:=30) C.s2.v0 (by have:=C.s2.v1;omega) (by decide) (by decide))
  rw [← C.s2.hd] at kd2
  have k3:=Lib.hid (zdj (x:=zdN (zbp a) (zbp a)) (y:=2147483648 - d2) C.s3.p0 C.s3.p1)
  rw [← C.s3.hv] at k3
  have kd3:=Lib.hid (zdB (x:=v3) (n:=12) C.s3.v0 (by have:=C.s3.v1;omega) (by decide) (by decide))
  rw [← C.s3.hd] at kd3
  have k4:=Lib.hid (zdj (x:=zdN (zbp a) (zbp a)) (y:=2147483648 - d3) C.s4.p0 C.s4.p1)
  rw [← C.s4.hv] at k4
  have kd4:=Lib.hid (zdB (x:=v4) (n:=2) C.s4.v0 (by have:=C.s4.v1;omega) (by decide) (by decide))
  rw [← C.s4.hd] at kd4
  have b0:=C.a0
  have b0':=C.b0
  have b1:=C.s1.d0
  have b1':=C.s1.d1
  have b2:=C.s2.d0
  have b2':=C.s2.d1
  have b3:=C.s3.d0
  have b3':=C.s3.d1
  have b4:=C.s4.d0
  have b4':=C.s4.d1
  clear C hC tt
  generalize zdN (zbp a) (zbp a)=u at *
  generalize zcP a=out at HS ⊢
  have e1:Int.tdiv (a * 6746518852+32400000) 64800000=zbp a:=by rw [Int.tdiv_eq_ediv_of_nonneg (by omega)];exact HA.out
  have e2:(a * 6746518852+32400000) / 64800000=zbp a:=HA.out
  go_enter Tryz.func249,Tryz.ntmps249
  go_upto_region 3 with (first
      | (go_at_call 250;first | (with_reducible refine zae (ku.out _) ?_) | (with_reducible refine zae (k1.out _) ?_) | (with_reducible refine zae (k2.out _) ?_) | (with_reducible refine zae (k3.out _) ?_) | (with_reducible refine zae (k4.out _) ?_))
      | (go_at_call 251;first | (with_reducible refine zae (kd0.out _) ?_) | (with_reducible refine zae (kd1.out _) ?_) | (with_reducible refine zae (kd2.out _) ?_) | (with_reducible refine zae (kd3.out _) ?_) | (with_reducible refine zae (kd4.out _) ?_)))
  generalize zbp a=t at *
  clear e1 e2
  obtain ⟨rk,r0,r1,r2,r3,r4,r5⟩:∃ rk:Nat→Int,rk 0=2147483648∧rk 1=2147483648 - d0∧rk 2=2147483648 - d1∧rk 3=2147483648 - d2∧rk 4=2147483648 - d3∧rk 5=2147483648 - d4:=
    ⟨fun k=>match k with | 0=>2147483648 | 1=>2147483648 - d0 | 2=>2147483648 - d1 | 3=>2147483648 - d2 | 4=>2147483648 - d3 | _=>2147483648 - d4,rfl,rfl,rfl,rfl,rfl,rfl⟩
  have R0:=Lib.hid r0;have R1:=Lib.hid r1;have R2:=Lib.hid r2;have R3:=Lib.hid r3;have R4:=Lib.hid r4;have R5:=Lib.hid r5
  clear r0 r1 r2 r3 r4 r5
  go_wp2
  go_loop [5,17] (fun r i=>∃ k:Nat,k≤5∧i=.int .i64 k∧r=.int .i64 (rk k)) (fun _ i=>5 - (intOf i).toNat)
  case atStart=>exact ⟨0,by omega,rfl,by rw [R0.out]⟩
  case round=>
    obtain ⟨k,hk,rfl,rfl⟩:=hrel
    obtain rfl | rfl | rfl | rfl | rfl | rfl:k=0∨k=1∨k=2∨k=3∨k=4∨k=5:=by omega
    · rw [R0.out]
      go_wp2_with (first | (go_at_call 250;first | (with_reducible refine zae (ku.out _) ?_) | (with_reducible refine zae (k1.out _) ?_) | (with_reducible refine zae (k2.out _) ?_) | (with_reducible refine zae (k3.out _) ?_) | (with_reducible refine zae (k4.out _) ?_)) | (go_at_call 251;first | (with_reducible refine zae (kd0.out _) ?_) | (with_reducible refine zae (kd1.out _) ?_) | (with_reducible refine zae (kd2.out _) ?_) | (with_reducible refine zae (kd3.out _) ?_) | (with_reducible refine zae (kd4.out _) ?_)))
      go_round
      case rel=>exact ⟨1,by omega,rfl,by rw [R1.out]⟩
      case measure=>simp [intOf]
    · rw [R1.out]
      go_wp2_with (first | (go_at_call 250;first | (with_reducible refine zae (ku.out _) ?_) | (with_reducible refine zae (k1.out _) ?_) | (with_reducible refine zae (k2.out _) ?_) | (with_reducible refine zae (k3.out _) ?_) | (with_reducible refine zae (k4.out _) ?_)) | (go_at_call 251;first | (with_reducible refine zae (kd0.out _) ?_) | (with_reducible refine zae (kd1.out _) ?_) | (with_reducible refine zae (kd2.out _) ?_) | (with_reducible refine zae (kd3.out _) ?_) | (with_reducible refine zae (kd4.out _) ?_)))
      go_round
      case rel=>exact ⟨2,by omega,rfl,by rw [R2.out]⟩
      case measure=>simp [intOf]
    · rw [R2.out]
      go_wp2_with (first | (go_at_call 250;first | (with_reducible refine zae (ku.out _) ?_) | (with_reducible refine zae (k1.out _) ?_) | (with_reducible refine zae (k2.out _) ?_) | (with_reducible refine zae (k3.out _) ?_) | (with_reducible refine zae (k4.out _) ?_)) | (go_at_call 251;first | (with_reducible refine zae (kd0.out _) ?_) | (with_reducible refine zae (kd1.out _) ?_) | (with_reducible refine zae (kd2.out _) ?_) | (with_reducible refine zae (kd3.out _) ?_) | (with_reducible refine zae (kd4.out _) ?_)))
      go_round
      case rel=>exact ⟨3,by omega,rfl,by rw [R3.out]⟩
      case measure=>simp [intOf]
    · rw [R3.out]
      go_wp2_with (first | (go_at_call 250;first | (with_reducible refine zae (ku.out _) ?_) | (with_reducible refine zae (k1.out _) ?_) | (with_reducible refine zae (k2.out _) ?_) | (with_reducible refine zae (k3.out _) ?_) | (with_reducible refine zae (k4.out _) ?_)) | (go_at_call 251;first | (with_reducible refine zae (kd0.out _) ?_) | (with_reducible refine zae (kd1.out _) ?_) | (with_reducible refine zae (kd2.out _) ?_) | (with_reducible refine zae (kd3.out _) ?_) | (with_reducible refine zae (kd4.out _) ?_)))
      go_round
      case rel=>exact ⟨4,by omega,rfl,by rw [R4.out]⟩
      case measure=>simp [intOf]
    · rw [R4.out]
      go_wp2_with (first | (go_at_call 250;first | (with_reducible refine zae (ku.out _) ?_) | (with_reducible refine zae (k1.out _) ?_) | (with_reducible refine zae (k2.out _) ?_) | (with_reducible refine zae (k3.out _) ?_) | (with_reducible refine zae (k4.out _) ?_)) | (go_at_call 251;first | (with_reducible refine zae (kd0.out _) ?_) | (with_reducible refine zae (kd1.out _) ?_) | (with_reducible refine zae (kd2.out _) ?_) | (with_reducible refine zae (kd3.out _) ?_) | (with_reducible refine zae (kd4.out _) ?_)))
      go_round
      case rel=>exact ⟨5,by omega,rfl,by rw [R5.out]⟩
      case measure=>simp [intOf]
    · rw [R5.out]
      go_wp2_with (first | (go_at_call 250;first | (with_reducible refine zae (ku.out _) ?_) | (with_reducible refine zae (k1.out _) ?_) | (with_reducible refine zae (k2.out _) ?_) | (with_reducible refine zae (k3.out _) ?_) | (with_reducible refine zae (k4.out _) ?_)) | (go_at_call 251;first | (with_reducible refine zae (kd0.out _) ?_) | (with_reducible refine zae (kd1.out _) ?_) | (with_reducible refine zae (kd2.out _) ?_) | (with_reducible refine zae (kd3.out _) ?_) | (with_reducible refine zae (kd4.out _) ?_)))
      go_ret
      exact RetP.int HS.out.symm rfl
end Go.Proofs.YtgoeedohgomodaaGreatDoor
