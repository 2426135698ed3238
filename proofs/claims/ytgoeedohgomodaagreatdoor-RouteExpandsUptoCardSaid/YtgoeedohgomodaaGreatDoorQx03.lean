/- Lemmas and walks. -/
import Derived.Test.YtgoeedohgomodaaGreatDoorQk01
import Derived.Test.YtgoeedohgomodaaGreatDoorQk02
import Derived.Test.YtgoeedohgomodaaGreatDoorQx01
import Derived.Test.YtgoeedohgomodaaGreatDoorQk03
import Derived.Test.YtgoeedohgomodaaGreatDoorQk05
import Derived.Test.YtgoeedohgomodaaGreatDoorQk06
import Derived.Test.YtgoeedohgomodaaGreatDoorQk16
import Derived.Test.YtgoeedohgomodaaGreatDoorQk18
import Derived.Test.YtgoeedohgomodaaGreatDoorQk04
import Derived.Test.YtgoeedohgomodaaGreatDoorQk07
import Derived.Test.YtgoeedohgomodaaGreatDoorQk08
import Derived.Test.YtgoeedohgomodaaGreatDoorQx02
import Derived.Test.YtgoeedohgomodaaGreatDoorQk09
import Derived.Test.YtgoeedohgomodaaGreatDoorQk10
import Derived.Test.YtgoeedohgomodaaGreatDoorQk11
import Derived.Test.YtgoeedohgomodaaGreatDoorQk12
import Derived.Test.YtgoeedohgomodaaGreatDoorQk22
import Derived.Test.YtgoeedohgomodaaGreatDoorQk23
import Derived.Test.YtgoeedohgomodaaGreatDoorQk13
import Derived.Test.YtgoeedohgomodaaGreatDoorQk24
import Derived.Test.YtgoeedohgomodaaGreatDoorQk35
import Derived.Test.YtgoeedohgomodaaGreatDoorQk14
import Derived.Test.YtgoeedohgomodaaGreatDoorQk30
import Derived.Test.YtgoeedohgomodaaGreatDoorQk25
import Derived.Test.YtgoeedohgomodaaGreatDoorQk26
import Derived.Test.YtgoeedohgomodaaGreatDoorQk27
import Derived.Test.YtgoeedohgomodaaGreatDoorQk28
import Derived.Test.YtgoeedohgomodaaGreatDoorQk20
import Derived.Test.YtgoeedohgomodaaGreatDoorQk15
import Derived.Test.YtgoeedohgomodaaGreatDoorQk17
import Derived.Test.YtgoeedohgomodaaGreatDoorQk19
import Derived.Test.YtgoeedohgomodaaGreatDoorQk21
import Derived.Test.YtgoeedohgomodaaGreatDoorQk29
import Derived.Test.YtgoeedohgomodaaGreatDoorQk31
import Derived.Test.YtgoeedohgomodaaGreatDoorQk32
import Derived.Test.YtgoeedohgomodaaGreatDoorQk33
import Derived.Test.YtgoeedohgomodaaGreatDoorQk34
import Derived.Test.YtgoeedohgomodaaGreatDoorQk36
import Derived.Test.YtgoeedohgomodaaGreatDoorQk37
import Derived.Test.YtgoeedohgomodaaGreatDoorQk38
import Derived.Test.YtgoeedohgomodaaGreatDoorQk42
import Derived.Test.YtgoeedohgomodaaGreatDoorQk43
import Derived.Laws.Bits64
import Derived.Laws.Bits64b
import Derived.Sort.WalkA
import Derived.Laws.BitsAllLaws
import Derived.OwnWalk
set_option linter.unusedSimpArgs false
set_option linter.unusedVariables false
namespace Go.Proofs.YtgoeedohgomodaaGreatDoor
open Go.RowKit
def stL (x:Entry):Leg:=⟨1,x.leg.fix,[],0,false,0,0,0,0,x.leg.lo,x.leg.hi,x.leg.speed,x.leg.rnp⟩
def zcI (x:Entry):Entry:=⟨false,stL x,x.ex,x.ey,0,0,x.sec,x.via⟩
def zb5 (x:Entry):Entry × Bool:=if zcu x.leg.ty then (x,true) else if zgL x.leg.ty then (zcI x,true) else (x,false)
attribute [local go_sem] Win.arr_mk Pt.arr_mk
theorem Entry.is_pt {W:World} {g:Nat} {x:Entry} (h:Blk W g x.arr):zmL W g 14 ⟨x.ex,x.ey⟩:=by
  intro j hj
  rw [h.cell]
  match j,hj with
  | 0,_ | 1,_=>rfl
set_option maxHeartbeats 4000000 in
set_option maxRecDepth 100000 in
theorem zqI (x:Entry) (w:World):Calls Tryz.prog 203 #[x.val] w (Ret w (.tuple #[(zb5 x).1.val, .bool (zb5 x).2])):=by
  obtain ⟨a1,h1⟩:∃ a,zcu x.leg.ty=a:=⟨_,rfl⟩
  obtain ⟨a2,h2⟩:∃ a,(x.leg.ty != 2)=a:=⟨_,rfl⟩
  obtain ⟨a5,h5⟩:∃ a,(x.leg.ty != 5)=a:=⟨_,rfl⟩
  obtain ⟨a6,h6⟩:∃ a,(x.leg.ty != 6)=a:=⟨_,rfl⟩
  have hs:=Lib.hid (show zb5 x=if a1 then (x,true) else if !(a2 && a5 && a6) then (zcI x,true) else (x,false) by
    rw [zb5,zgL,← h1,← h2,← h5,← h6];simp [bne,Bool.or_assoc])
  go_enter Tryz.func203,Tryz.ntmps203
  go_upto_region 1 with (fail)
  generalize hW:(w.alloc _).alloc _=W
  have X0:Blk W w.heap.size x.arr:=by rw [← hW];exact (Blk.new w x.arr _).alloc _
  have R0:Blk W (w.heap.size+1) zeroE.arr:=by rw [← hW,← World.size_alloc w (.cells x.arr 69)];exact Blk.new _ _ _
  have B0:Below w.heap.size w W:=by rw [← hW];go_grown
  clear hW
  have c0:=X0.lt
  have c1:=X0.cell
  have c2:=X0.plain
  have c3:=X0.of
  have c4:za4 W w.heap.size 0:=⟨x,X0.is_ent⟩
  have c5:zbE W w.heap.size 0=x:=zaS X0.is_ent
  have c6:zcR W w.heap.size 10:=⟨_,Entry.is_win X0⟩
  have c7:zcL W w.heap.size 10=⟨x.leg.lo,x.leg.hi⟩:=zb8 (Entry.is_win X0)
  have c8:zbw W w.heap.size 14:=⟨_,Entry.is_pt X0⟩
  have c9:zcr W w.heap.size 14=⟨x.ex,x.ey⟩:=zaZ (Entry.is_pt X0)
  have d0:=R0.lt
  have d1:=R0.cell
  have d2:=R0.plain
  have d3:=R0.of
  have g1:zaJ (W.alloc (.cells #[.int .u8 1, .string ⟨x.leg.fix.toArray⟩, .string ⟨#[]⟩, .int .u8 0, .bool false, .int .i64 0, .int .i64 0, .int .i64 0, .int .i64 0, .int .i64 x.leg.lo, .int .i64 x.leg.hi, .int .i64 x.leg.speed, .int .i64 x.leg.rnp] 64)) W.heap.size 0:=⟨stL x,zlB W (stL x) _⟩
  have g2:za6 (W.alloc (.cells #[.int .u8 1, .string ⟨x.leg.fix.toArray⟩, .string ⟨#[]⟩, .int .u8 0, .bool false, .int .i64 0, .int .i64 0, .int .i64 0, .int .i64 0, .int .i64 x.leg.lo, .int .i64 x.leg.hi, .int .i64 x.leg.speed, .int .i64 x.leg.rnp] 64)) W.heap.size 0=stL x:=zaz (zlB W (stL x) _)
  have g3:(stL x).arr=#[.int .u8 1, .string ⟨x.leg.fix.toArray⟩, .string ⟨#[]⟩, .int .u8 0, .bool false, .int .i64 0, .int .i64 0, .int .i64 0, .int .i64 0, .int .i64 x.leg.lo, .int .i64 x.leg.hi, .int .i64 x.leg.speed, .int .i64 x.leg.rnp]:=rfl
  have f4:splice zeroE.arr 0 x.arr=x.arr:=rfl
  cases a1
  · cases a2
    · go_wp2_with (go_at_call 90;refine zae (zc0 _ _) ?_)
      exact bodyPost_ret (zb1 Tryz.results203 _ _ (w.heap.size+1) (zcI x) rfl (((R0.alloc _).set (zcI x).arr).is_ent)) rfl (Ret.start (by rw [hs.out];rfl) (zab (zaa B0 ((Below.refl _ _).alloc (Nat.le_refl _) _)) (by omega) _))
    · cases a5
      · go_wp2_with (go_at_call 90;refine zae (zc0 _ _) ?_)
        exact bodyPost_ret (zb1 Tryz.results203 _ _ (w.heap.size+1) (zcI x) rfl (((R0.alloc _).set (zcI x).arr).is_ent)) rfl (Ret.start (by rw [hs.out];rfl) (zab (zaa B0 ((Below.refl _ _).alloc (Nat.le_refl _) _)) (by omega) _))
      · cases a6
        · go_wp2_with (go_at_call 90;refine zae (zc0 _ _) ?_)
          exact bodyPost_ret (zb1 Tryz.results203 _ _ (w.heap.size+1) (zcI x) rfl (((R0.alloc _).set (zcI x).arr).is_ent)) rfl (Ret.start (by rw [hs.out];rfl) (zab (zaa B0 ((Below.refl _ _).alloc (Nat.le_refl _) _)) (by omega) _))
        · go_wp2_with (go_at_call 90;refine zae (zc0 _ _) ?_)
          exact bodyPost_ret (zb1 Tryz.results203 _ _ (w.heap.size+1) x rfl ((R0.set x.arr).is_ent)) rfl (Ret.start (by rw [hs.out];rfl) (zab B0 (by omega) _))
  · go_wp2_with (go_at_call 90;refine zae (zc0 _ _) ?_)
    exact bodyPost_ret (zb1 Tryz.results203 _ _ (w.heap.size+1) x rfl ((R0.set x.arr).is_ent)) rfl (Ret.start (by rw [hs.out];rfl) (zab B0 (by omega) _))
end Go.Proofs.YtgoeedohgomodaaGreatDoor
namespace Go.Proofs.YtgoeedohgomodaaGreatDoor
open Go.RowKit Go.Sort
set_option maxRecDepth 100000
attribute [local go_sem ↓] zeb
attribute [local go_sem] zd1
theorem zst (u v:Vec) (h1:Q60 (u.a * v.a)) (h2:Q60 (u.b * v.b)) (h3:Q60 (u.c * v.c)) (w:World):Calls Tryz.prog 221 #[.agg u.arr, .agg v.arr] w (Ret w (.int .i64 (zaw (u.a * v.a+u.b * v.b+u.c * v.c)))):=by
  unfold Q60 at h1 h2 h3
  have kr:=Lib.hid (zc1 (x:=u.a * v.a+u.b * v.b+u.c * v.c) (by omega) (by omega))
  generalize zaw (u.a * v.a+u.b * v.b+u.c * v.c)=out at kr ⊢
  go_enter Tryz.func221,Tryz.ntmps221
  go_upto_region 1 with (fail)
  generalize hW:(w.alloc _).alloc _=W
  have X0:Blk W w.heap.size u.arr:=by rw [← hW];exact (Blk.new w _ _).alloc _
  have Y0:Blk W (w.heap.size+1) v.arr:=by rw [← hW,← World.size_alloc w (.cells u.arr 234)];exact Blk.new _ _ _
  have B0:Below w.heap.size w W:=by rw [← hW];go_grown
  clear hW
  have c1:=X0.cell
  have c2:=Y0.cell
  go_wp2_with (go_at_call 218;(with_reducible refine zae (kr.out _) ?_))
  go_ret
  exact Ret.int rfl B0
set_option maxHeartbeats 2000000 in
theorem zsv (lat lon:Int) (hp:zih lat lon=true) (w:World):Calls Tryz.prog 216 #[.agg (Pos.arr ⟨lat,lon⟩)] w (Ret w (.tuple #[.agg (ofV lat lon).arr, .int .i64 0])):=by
  have hi:i64 lat∧i64 lon:=by simp only [zih,Bool.and_eq_true,decide_eq_true_eq] at hp;unfold i64;omega
  obtain ⟨h0,h1⟩:=hi
  have kv:=Lib.hid (zgk lat lon)
  rw [hp] at kv
  clear hp
  have HV:=Lib.hid (show ofV lat lon=⟨zaw (zb6 lat * zb6 lon),zaw (zb6 lat * zbH lon),zbH lat⟩ from rfl)
  have p1:=zbK (zb2 lat) (zb2 lon)
  have p2:=zbK (zb2 lat) (zbI lon)
  have kc:=Lib.hid (zgZ lat h0.1 h0.2)
  have kcl:=Lib.hid (zgZ lon h1.1 h1.2)
  have ks:=Lib.hid (zfG lat h0.1 h0.2)
  have ksl:=Lib.hid (zfG lon h1.1 h1.2)
  have kr1:=Lib.hid (zc1 (x:=zb6 lat * zb6 lon) (by omega) (by omega))
  have kr2:=Lib.hid (zc1 (x:=zb6 lat * zbH lon) (by omega) (by omega))
  have w1:=zdi (x:=zb6 lat * zb6 lon) (by omega) (by omega)
  have w2:=zdi (x:=zb6 lat * zbH lon) (by omega) (by omega)
  generalize zaw (zb6 lat * zb6 lon)=ra at *
  generalize zaw (zb6 lat * zbH lon)=rb at *
  generalize zb6 lat=c at *
  generalize zb6 lon=cl at *
  generalize zbH lat=s at *
  generalize zbH lon=sl at *
  generalize ofV lat lon=out at HV ⊢
  clear p1 p2
  go_enter Tryz.func216,Tryz.ntmps216
  go_upto_region 1 with (fail)
  generalize hW:(w.alloc _).alloc _=W
  have X0:Blk W w.heap.size (Pos.arr ⟨lat,lon⟩):=by rw [← hW];exact (Blk.new w _ _).alloc _
  have R0:Blk W (w.heap.size+1) (Vec.arr ⟨0,0,0⟩):=by rw [← hW,← World.size_alloc w (.cells (Pos.arr ⟨lat,lon⟩) 30)];exact Blk.new _ _ _
  have B0:Below w.heap.size w W:=by rw [← hW];go_grown
  clear hW
  obtain ⟨g0,hg0⟩:∃ g,g=w.heap.size:=⟨_,rfl⟩
  rw [← hg0] at X0 R0 ⊢
  have hgle:w.heap.size≤g0+1:=by omega
  clear hg0
  have i1:za3 W g0 0:=⟨_,X0.is_pos⟩
  have i2:zbm W g0 0=⟨lat,lon⟩:=zaH X0.is_pos
  go_upto_region 3 with (go_at_call 207;(with_reducible refine zaj (kv.out _) ?_);intro w1 b1 _ _ _)
  have X1:=X0.step b1
  have R1:=R0.step b1
  have B1:=zaa B0 b1
  clear i1 i2 X0 R0 B0 b1
  have c1:=X1.cell
  go_upto_region 4 with (go_at_call 219;(with_reducible refine zae (kc.out _) ?_))
  have k0:=cell_regrown (show w1.cell? ⟨g0,0,none⟩=some (.int .i64 lat) from X1.cell 0)
  have k1:=cell_regrown (show w1.cell? ⟨g0,1,none⟩=some (.int .i64 lon) from X1.cell 1)
  have q1:=zeB (W:=w1) kcl.out
  have q2:=zeB (W:=w1) ksl.out
  have q3:=zeB (W:=w1) ks.out
  have q4:=zeB (W:=w1) kr1.out
  have q5:=zeB (W:=w1) kr2.out
  refine zb4 16 (by kernel_rfl) (by kernel_rfl) ?_
  simp only [List.take_succ_cons,List.take_zero,List.drop_succ_cons,List.drop_zero]
  repeat (quiet_step (with_reducible first | exact q1 _ _ | exact q2 _ _ | exact q3 _ _ | exact q4 _ _ | exact q5 _ _))
  refine wpQuiet_nil ?_
  intro _ hw'
  obtain ⟨⟨dq,osq⟩,hw''⟩:=hw'
  subst hw''
  have R4:=R1.step (below_regrown w1 dq osq)
  have B4:=zaa B1 (below_regrown w1 dq osq)
  clear k0 k1 q1 q2 q3 q4 q5 X1 R1 c1
  generalize grow (redrawn w1 dq) osq=w4 at R4 B4 ⊢
  have d2:=R4.plain
  have d3:=R4.of
  go_wp2
  exact bodyPost_ret (zal Tryz.results216 _ _ (g0+1) (Vec.arr ⟨ra,rb,s⟩) 3 _ rfl rfl (R4.set _).cell Tryz.underlying234 rfl zek) rfl ⟨by rw [HV.out];rfl,zab B4 hgle _⟩
set_option maxHeartbeats 2000000 in
theorem zoG (lat lon:Int) (h0:i64 lat) (h1:i64 lon) (w:World):Calls Tryz.prog 217 #[.agg (Pos.arr ⟨lat,lon⟩)] w (Ret w (.tuple #[.int .i64 (zaw (zbH lat * zb6 lon)), .int .i64 (zaw (zbH lat * zbH lon))])):=by
  have p1:=zbK (zbI lat) (zb2 lon)
  have p2:=zbK (zbI lat) (zbI lon)
  have kcl:=Lib.hid (zgZ lon h1.1 h1.2)
  have ks:=Lib.hid (zfG lat h0.1 h0.2)
  have ksl:=Lib.hid (zfG lon h1.1 h1.2)
  have kr1:=Lib.hid (zc1 (x:=zbH lat * zb6 lon) (by omega) (by omega))
  have kr2:=Lib.hid (zc1 (x:=zbH lat * zbH lon) (by omega) (by omega))
  have w1:=zdi (x:=zbH lat * zb6 lon) (by omega) (by omega)
  have w2:=zdi (x:=zbH lat * zbH lon) (by omega) (by omega)
  generalize zaw (zbH lat * zb6 lon)=ra at *
  generalize zaw (zbH lat * zbH lon)=rb at *
  generalize zb6 lon=cl at *
  generalize zbH lat=s at *
  generalize zbH lon=sl at *
  clear p1 p2
  go_enter Tryz.func217,Tryz.ntmps217
  go_upto_region 1 with (fail)
  have X0:Blk (w.alloc (.cells (Pos.arr ⟨lat,lon⟩) 30)) w.heap.size (Pos.arr ⟨lat,lon⟩):=Blk.new w _ _
  have B0:=(Below.refl w.heap.size w).alloc (Nat.le_refl _) (.cells (Pos.arr ⟨lat,lon⟩) 30)
  generalize w.alloc _=W at X0 B0 ⊢
  generalize w.heap.size=g0 at X0 ⊢
  have c1:=X0.cell
  go_upto_region 2 with (go_at_call 220;(with_reducible refine zae (ks.out _) ?_))
  have k1:=cell_regrown (show W.cell? ⟨g0,1,none⟩=some (.int .i64 lon) from X0.cell 1)
  have q1:=zeB (W:=W) kcl.out
  have q2:=zeB (W:=W) ksl.out
  have q4:=zeB (W:=W) kr1.out
  have q5:=zeB (W:=W) kr2.out
  refine wp_region_quiet_below (by kernel_rfl) (by kernel_rfl) ?_
  repeat (quiet_step (with_reducible first | exact q1 _ _ | exact q2 _ _ | exact q4 _ _ | exact q5 _ _))
  refine wpQuiet_nil ?_
  intro _ hw'
  obtain ⟨⟨dq,osq⟩,hw''⟩:=hw'
  subst hw''
  have B4:=zaa B0 (below_regrown W dq osq)
  clear k1 q1 q2 q4 q5 X0 c1
  go_wp2
  go_ret2
  exact ⟨rfl,B4⟩
set_option maxHeartbeats 4000000 in
theorem zqS (a b c d:Int) (ha:zih a b=true) (hc:zih c d=true) (w:World):Calls Tryz.prog 208 #[.agg (Pos.arr ⟨a,b⟩), .agg (Pos.arr ⟨c,d⟩)] w (Ret w (.tuple #[.agg (zeI a b c d).arr, .int .i64 0])):=by
  have p1:i64 a∧i64 b:=by simp only [zih,Bool.and_eq_true,decide_eq_true_eq] at ha;unfold i64;omega
  have hv:U3 (ofS c d):=zk4 c d
  have hp:U3 (ofS a b):=zk4 a b
  have x1:Q60 (zb6 b * (ofV c d).b):=zbK (zb2 b) hv.2.1
  have x2:Q60 (zbH b * (ofV c d).a):=zbK (zbI b) hv.1
  have y1:Q60 (zb6 a * (ofV c d).c):=zbK (zb2 a) hv.2.2
  have y2:Q60 (zaw (zbH a * zb6 b) * (ofV c d).a):=zbK (zcT (zbK (zbI a) (zb2 b))) hv.1
  have y3:Q60 (zaw (zbH a * zbH b) * (ofV c d).b):=zbK (zcT (zbK (zbI a) (zbI b))) hv.2.1
  obtain ⟨z1,z2,z3,_⟩:=zjM hp.1 hp.2.1 hp.2.2 hv
  have kd:=Lib.hid (zst (ofV a b) (ofV c d) z1 z2 z3)
  have HL:=Lib.hid (show zeI a b c d=⟨zaw (zb6 b * (ofV c d).b - zbH b * (ofV c d).a),zaw (zb6 a * (ofV c d).c - zaw (zbH a * zb6 b) * (ofV c d).a - zaw (zbH a * zbH b) * (ofV c d).b),zaw ((ofV a b).a * (ofV c d).a+(ofV a b).b * (ofV c d).b+(ofV a b).c * (ofV c d).c)⟩ by
    unfold zeI zd8 V3.vec
    rw [zvs,zsY]
    rfl)
  have ko1:=Lib.hid (zsv a b ha)
  have ko2:=Lib.hid (zsv c d hc)
  have kcb:=Lib.hid (zgZ b p1.2.1 p1.2.2)
  have ksb:=Lib.hid (zfG b p1.2.1 p1.2.2)
  have kca:=Lib.hid (zgZ a p1.1.1 p1.1.2)
  have ksl:=Lib.hid (zoG a b p1.1 p1.2)
  unfold Q60 at x1 x2 y1 y2 y3
  have kr1:=Lib.hid (zc1 (x:=zb6 b * (ofV c d).b - zbH b * (ofV c d).a) (by omega) (by omega))
  have kr2:=Lib.hid (zc1 (x:=zb6 a * (ofV c d).c - zaw (zbH a * zb6 b) * (ofV c d).a - zaw (zbH a * zbH b) * (ofV c d).b) (by omega) (by omega))
  have w1:=zdi (x:=zb6 b * (ofV c d).b) (by omega) (by omega)
  have w2:=zdi (x:=zbH b * (ofV c d).a) (by omega) (by omega)
  have w3:=zdi (x:=zb6 b * (ofV c d).b - zbH b * (ofV c d).a) (by omega) (by omega)
  have w4:=zdi (x:=zb6 a * (ofV c d).c) (by omega) (by omega)
  have w5:=zdi (x:=zaw (zbH a * zb6 b) * (ofV c d).a) (by omega) (by omega)
  have w6:=zdi (x:=zaw (zbH a * zbH b) * (ofV c d).b) (by omega) (by omega)
  have w7:=zdi (x:=zb6 a * (ofV c d).c - zaw (zbH a * zb6 b) * (ofV c d).a) (by omega) (by omega)
  have w8:=zdi (x:=zb6 a * (ofV c d).c - zaw (zbH a * zb6 b) * (ofV c d).a - zaw (zbH a * zbH b) * (ofV c d).b) (by omega) (by omega)
  clear x1 x2 y1 y2 y3 z1 z2 z3 hv hp ha hc p1
  generalize zaw (zb6 b * (ofV c d).b - zbH b * (ofV c d).a)=e1 at *
  generalize zaw (zb6 a * (ofV c d).c - zaw (zbH a * zb6 b) * (ofV c d).a - zaw (zbH a * zbH b) * (ofV c d).b)=e2 at *
  generalize zaw ((ofV a b).a * (ofV c d).a+(ofV a b).b * (ofV c d).b+(ofV a b).c * (ofV c d).c)=e3 at *
  generalize zaw (zbH a * zb6 b)=ra at *
  generalize zaw (zbH a * zbH b)=rb at *
  generalize zeI a b c d=out at *
  generalize ofV a b=u at *
  generalize ofV c d=v at *
  generalize zb6 b=cb at *
  generalize zbH b=sb at *
  generalize zb6 a=ca at *
  go_enter Tryz.func208,Tryz.ntmps208
  go_upto_region 1 with (fail)
  generalize hW:((w.alloc _).alloc _).alloc _=W
  have X0:Blk W w.heap.size (Pos.arr ⟨a,b⟩):=by rw [← hW];exact ((Blk.new w _ _).alloc _).alloc _
  have Y0:Blk W (w.heap.size+1) (Pos.arr ⟨c,d⟩):=by rw [← hW,← World.size_alloc w (.cells (Pos.arr ⟨a,b⟩) 30)];exact (Blk.new _ _ _).alloc _
  have R0:Blk W (w.heap.size+1+1) (Vec.arr ⟨0,0,0⟩):=by rw [← hW,← World.size_alloc w (.cells (Pos.arr ⟨a,b⟩) 30),← World.size_alloc (w.alloc (.cells (Pos.arr ⟨a,b⟩) 30)) (.cells (Pos.arr ⟨c,d⟩) 30)];exact Blk.new _ _ _
  have B0:Below w.heap.size w W:=by rw [← hW];go_grown
  clear hW
  obtain ⟨g1,hg1⟩:∃ g,g=w.heap.size+1:=⟨_,rfl⟩
  obtain ⟨g2,hg2⟩:∃ g,g=w.heap.size+1+1:=⟨_,rfl⟩
  obtain ⟨g0,hg0⟩:∃ g,g=w.heap.size:=⟨_,rfl⟩
  rw [← hg2] at R0 ⊢
  rw [← hg1] at Y0 ⊢
  rw [← hg0] at X0 ⊢
  have hgle:w.heap.size≤g2:=by omega
  clear hg0 hg1 hg2
  have i1:za3 W g0 0:=⟨_,X0.is_pos⟩
  have i2:zbm W g0 0=⟨a,b⟩:=zaH X0.is_pos
  go_wp2_with fail
  with_reducible refine zaj (ko1.out _) ?_
  intro w1 b1 _ _ _
  have U2:=Blk.new w1 u.arr 234
  have A2:=(Below.refl w1.heap.size w1).alloc (Nat.le_refl _) (.cells u.arr 234)
  go_upto_region 2 with (fail)
  have b2:=zaa b1 A2
  have X2:=X0.step b2
  have Y2:=Y0.step b2
  have R2:=R0.step b2
  have B2:=zaa B0 b2
  clear i1 i2 X0 Y0 R0 B0 b1 b2 A2
  generalize w1.alloc _=w2 at *
  generalize w1.heap.size=ub at *
  have i3:za3 w2 g1 0:=⟨_,Y2.is_pos⟩
  have i4:zbm w2 g1 0=⟨c,d⟩:=zaH Y2.is_pos
  go_wp2_with fail
  with_reducible refine zaj (ko2.out _) ?_
  intro w3 b3 _ _ _
  have V4:=Blk.new w3 v.arr 234
  have A4:=(Below.refl w3.heap.size w3).alloc (Nat.le_refl _) (.cells v.arr 234)
  go_upto_region 3 with (fail)
  have b4:=zaa b3 A4
  have X4:=X2.step b4
  have R4:=R2.step b4
  have U4:=U2.step b4
  have B4:=zaa B2 b4
  clear i3 i4 X2 Y2 R2 U2 B2 b3 b4 A4
  generalize w3.alloc _=w4 at *
  generalize w3.heap.size=vb at *
  have i1:za3 w4 g0 0:=⟨_,X4.is_pos⟩
  have i2:zbm w4 g0 0=⟨a,b⟩:=zaH X4.is_pos
  go_upto_region 6 with (go_at_call 217;(with_reducible refine zaj (ksl.out _) ?_);intro w5 b5 _ _ _)
  have X5:=X4.step b5
  have R5:=R4.step b5
  have U5:=U4.step b5
  have V5:=V4.step b5
  have B5:=zaa B4 b5
  clear i1 i2 X4 R4 U4 V4 B4 b5
  have k0:=cell_regrown (show w5.cell? ⟨g0,0,none⟩=some (.int .i64 a) from X5.cell 0)
  have k1:=cell_regrown (show w5.cell? ⟨g0,1,none⟩=some (.int .i64 b) from X5.cell 1)
  have k2:=cell_regrown (show w5.cell? ⟨vb,0,none⟩=some (.int .i64 v.a) from V5.cell 0)
  have k3:=cell_regrown (show w5.cell? ⟨vb,1,none⟩=some (.int .i64 v.b) from V5.cell 1)
  have q1:=zeB (W:=w5) kcb.out
  have q2:=zeB (W:=w5) ksb.out
  have q3:=zeB (W:=w5) kr1.out
  refine wp_region_quiet_below (by kernel_rfl) (by kernel_rfl) ?_
  repeat (quiet_step (with_reducible first | exact q1 _ _ | exact q2 _ _ | exact q3 _ _))
  refine wpQuiet_nil ?_
  intro _ hw'
  obtain ⟨⟨dq,osq⟩,hw''⟩:=hw'
  subst hw''
  have dd:=below_regrown w5 dq osq
  have X6:=X5.step dd
  have R6:=R5.step dd
  have U6:=U5.step dd
  have V6:=V5.step dd
  have B6:=zaa B5 dd
  clear k0 k1 k2 k3 q1 q2 q3 X5 R5 U5 V5 B5 dd
  generalize grow (redrawn w5 dq) osq=w6 at *
  go_upto_region 7 with (fail)
  have k0:=cell_regrown (show w6.cell? ⟨g0,0,none⟩=some (.int .i64 a) from X6.cell 0)
  have k2:=cell_regrown (show w6.cell? ⟨vb,0,none⟩=some (.int .i64 v.a) from V6.cell 0)
  have k3:=cell_regrown (show w6.cell? ⟨vb,1,none⟩=some (.int .i64 v.b) from V6.cell 1)
  have k4:=cell_regrown (show w6.cell? ⟨vb,2,none⟩=some (.int .i64 v.c) from V6.cell 2)
  have q1:=zeB (W:=w6) kca.out
  have q3:=zeB (W:=w6) kr2.out
  refine wp_region_quiet_below (by kernel_rfl) (by kernel_rfl) ?_
  repeat (quiet_step (with_reducible first | exact q1 _ _ | exact q3 _ _))
  refine wpQuiet_nil ?_
  intro _ hw'
  obtain ⟨⟨dq2,osq2⟩,hw''⟩:=hw'
  subst hw''
  have dd:=below_regrown w6 dq2 osq2
  have R7:=R6.step dd
  have U7:=U6.step dd
  have V7:=V6.step dd
  have B7:=zaa B6 dd
  clear k0 k2 k3 k4 q1 q3 X6 R6 U6 V6 B6 dd
  generalize grow (redrawn w6 dq2) osq2=w7 at *
  have i1:ze7 w7 ub 0:=⟨_,U7.is_vec⟩
  have i2:zeF w7 ub 0=u:=zeE U7.is_vec
  have i3:ze7 w7 vb 0:=⟨_,V7.is_vec⟩
  have i4:zeF w7 vb 0=v:=zeE V7.is_vec
  go_wp2_with fail
  with_reducible refine zaj (kd.out _) ?_
  intro w8 b8 _ _ _
  have R8:=R7.step b8
  have B8:=zaa B7 b8
  have d2:=R8.plain
  have d3:=R8.of
  clear i1 i2 i3 i4 U7 V7 R7 B7 b8
  go_wp2
  exact bodyPost_ret (zal Tryz.results208 _ _ g2 (Vec.arr ⟨e1,e2,e3⟩) 3 _ rfl rfl (R8.set _).cell Tryz.underlying234 rfl zek) rfl ⟨by rw [HL.out];rfl,zab B8 hgle _⟩
end Go.Proofs.YtgoeedohgomodaaGreatDoor
namespace Go.Proofs.YtgoeedohgomodaaGreatDoor
open Go.RowKit
def zgX (out:List Entry) (pend:Bool) (x:Entry):List Entry × Bool:=
  if x.gap then (out,true) else
  match out.getLast? with
  | none=>if (zb5 x).2 then (out ++ [(zb5 x).1],false) else (out,pend)
  | some y=>if !pend && (y.leg.arrivedB x.leg && zfg x.leg.ty) then (out,pend) else if !pend && y.leg.joinsB x.leg then (out ++ [x],pend)
      else if (zb5 x).2 then (out ++ [gapE,(zb5 x).1],false) else (out,true)
theorem zsr {x:Entry} (hg:x.gap=false):(zb5 x).2=(zbq x).2∧((zbq x).2=true→(zb5 x).1=(zbq x).1):=by
  unfold zb5 zbq
  split
  · exact ⟨rfl,fun _=>rfl⟩
  · split
    · exact ⟨rfl,fun _=>by simp [zcI,zco,stL,hg]⟩
    · exact ⟨rfl,fun h=>by simp at h⟩
theorem zhT (out:List Entry) (pend:Bool) (x:Entry):zgX out pend x=joinStep out pend x:=by
  unfold zgX joinStep
  split
  · rfl
  · rename_i hg
    obtain ⟨h1,h2⟩:=zsr (x:=x) (by simpa using hg)
    cases hl:out.getLast? with
    | none=>
      obtain rfl:out=[]:=by simpa using hl
      simp only [zbU,h1]
      split
      · rename_i hs;simp [h2 hs]
      · simp
    | some y=>
      have hne:out ≠ []:=by rintro rfl;simp at hl
      have he:out.isEmpty=false:=by simpa using hne
      simp only [zbU,h1,he]
      cases pend <;> cases hs:(zbq x).2 <;> simp [h2,hs]
end Go.Proofs.YtgoeedohgomodaaGreatDoor
namespace Go.Proofs.YtgoeedohgomodaaGreatDoor
open Go.RowKit
attribute [local go_sem] zwz
theorem zxl {out:List Entry} {pb:Bool} {x s:Entry} {ok:Bool} (hg:x.gap=false) (ho:out=[]) (hs:zb5 x=(s,ok)):joinStep out pb x=if ok then (out ++ [s],false) else (out,pb):=by
  subst ho;rw [← zhT];simp only [zgX,hg,hs];rfl
theorem zxk {out:List Entry} {pb:Bool} {x y s:Entry} {ok:Bool} (hg:x.gap=false) (hl:out.getLast? = some y) (hs:zb5 x=(s,ok)):joinStep out pb x =
    if !pb && (y.leg.arrivedB x.leg && zfg x.leg.ty) then (out,pb) else if !pb && y.leg.joinsB x.leg then (out ++ [x],pb) else if ok then (out ++ [gapE,s],false) else (out,true):=by
  rw [← zhT];simp only [zgX,hg,hl,hs];rfl
set_option maxHeartbeats 4000000 in
set_option maxRecDepth 100000 in
theorem zsx (l:List Entry) (A:Option Addr) (c:Nat) (w:World) (hl:l.length≤400000) (hc:l.length≤c) (hE:Ents w A l):
    Calls Tryz.prog 171 #[.slice A l.length c] w (zlz w (zcO l)):=by
  have hlit:(#[.bool true, .int .u8 0, .string ⟨#[]⟩, .string ⟨#[]⟩, .int .u8 0, .bool false, .int .i64 0, .int .i64 0, .int .i64 0, .int .i64 0, .int .i64 0, .int .i64 0, .int .i64 0, .int .i64 0, .int .i64 0, .int .i64 0, .int .i64 0, .int .i64 0, .int .u8 0, .string ⟨#[]⟩]:Array Value)=gapE.arr:=rfl
  go_enter Tryz.func171,Tryz.ntmps171
  go_wp2
  go_loopw [3,4,13] (fun t p i wr=>zyw l w t p i wr) (fun _ _ i _=>l.length - (intOf i).toNat)
  case atStart=>exact ⟨0,[],false,by omega,rfl,rfl,rfl,by simp,Out.nil _ _,Below.refl _ _⟩
  case round=>
    obtain ⟨k,out,pb,hk,rfl,rfl,hq,ho,hO,hB⟩:=hrel
    have HQ:=Lib.hid hq;clear hq
    by_cases hlt:k < l.length
    · obtain ⟨b,off,hA,hb,he⟩:=hE.get hlt
      subst hA
      have hd:=Lib.hid (List.drop_eq_getElem_cons hlt)
      generalize l[k]=x at he hd
      have e1:zfB wr b (off+k * 20) x:=fun j hj=>by rw [hB.cell (p:=⟨b,_,none⟩) hb];exact he j hj
      have i1:za4 wr b (off+k * 20):=⟨x,e1⟩
      have i2:zbE wr b (off+k * 20)=x:=zaS e1
      clear he e1
      obtain ⟨A1,c1',hv,hc1,hE1,hA1⟩:=hO.form
      subst hv
      go_upto_region 6 with (fail)
      have X0:=Blk.new wr x.arr 69
      have O0:=hO.alloc (.cells x.arr 69)
      have B0:=zaa hB ((Below.refl wr.heap.size wr).alloc (Nat.le_refl _) (.cells x.arr 69))
      generalize wr.alloc _=W0 at X0 O0 B0 ⊢
      generalize wr.heap.size=g at X0 ⊢
      have HJ:=Lib.hid (show zcO l=zdG (joinStep out pb x).1 (joinStep out pb x).2 (l.drop (k+1)) by rw [HQ.out,hd.out];rfl)
      clear HQ hd i1 i2 hE1 hO hB
      have c1:=X0.cell
      have c2:=X0.lt
      cases hg:x.gap
      · have k1:za4 W0 g 0:=⟨_,X0.is_ent⟩
        have k2:zbE W0 g 0=x:=zaS X0.is_ent
        have hcall:=zqI x W0
        obtain ⟨s,hs⟩:∃ s,(zb5 x).1=s:=⟨_,rfl⟩
        obtain ⟨okb,hok⟩:∃ o,(zb5 x).2=o:=⟨_,rfl⟩
        rw [hs,hok] at hcall
        have HR:=Lib.hid (show zb5 x=(s,okb) by rw [← hs,← hok])
        have HC:=Lib.hid hcall
        clear hs hok hcall
        go_upto_region 9 with (go_at_call 203;refine zaj HC.out ?_;intro w2 hb2 hc2 hf2 hz2)
        have S2:=Blk.new w2 s.arr 69
        have X2:=(X0.step hb2).alloc (.cells s.arr 69)
        have O2:=(O0.below hb2).alloc (.cells s.arr 69)
        have B2:=zaa (zaa B0 hb2) ((Below.refl w2.heap.size w2).alloc (Nat.le_refl _) (.cells s.arr 69))
        generalize w2.alloc _=W2 at S2 X2 O2 B2 ⊢
        generalize w2.heap.size=g9 at S2 ⊢
        clear k1 k2 hb2 hc2 hf2 hz2 X0 O0 B0 HC c1 c2
        have c1:=X2.cell
        have c2:=X2.lt
        have k1:za4 W2 g9 0:=⟨_,S2.is_ent⟩
        have k2:zbE W2 g9 0=s:=zaS S2.is_ent
        have hsz:w.heap.size≤W2.heap.size:=B2.size
        by_cases hout:out=[]
        · have h0:((out.length:Nat):Int)=0:=by simp [hout]
          have HS:=Lib.hid (zxl (pb:=pb) hg hout HR.out)
          clear hout
          cases okb
          · go_wp2
            go_roundw
            case rel=>exact ⟨k+1,out,pb,by omega,by go_num,rfl,by rw [HJ.out,HS.out];rfl,by omega,O2,B2⟩
            case measure=>simp [intOf];omega
          · have O4:=O2.alloc (.cells s.arr 69)
            have B4:=zaa B2 ((Below.refl W2.heap.size W2).alloc (Nat.le_refl _) (.cells s.arr 69))
            go_wp2_with (at_builtin;refine zaW rfl (.tmp 28) (.tmp 30) rfl O4 rfl [s] W2.heap.size 1 1 rfl rfl (Blk.one W2 s _) (by simp;omega) (by simp;omega) ?_;intro v5 W5 O5 hg5)
            go_roundw
            case rel=>exact ⟨k+1,out ++ [s],false,by omega,by go_num,rfl,by rw [HJ.out,HS.out];rfl,by simp;omega,O5,below_grown B4 O4 hg5⟩
            case measure=>simp [intOf];omega
        · have h0:¬ ((out.length:Nat):Int)=0:=by have:=List.length_pos_iff.2 hout;omega
          have hpos:=List.length_pos_iff.2 hout
          have hE0:Ents W2 A1 out:=by
            obtain ⟨_,_,hv,_,h,_⟩:=O2.form
            injection hv with h1
            rw [h1];exact h
          obtain ⟨m,hm⟩:∃ m,m=out.length - 1:=⟨_,rfl⟩
          have hml:m < out.length:=by omega
          obtain ⟨b2,o2,hA2,hb2,he2⟩:=hE0.get hml
          subst hA2
          have hlast:out.getLast? = some out[m]:=by rw [List.getLast?_eq_getElem?,← hm];exact List.getElem?_eq_getElem hml
          generalize out[m]=y at he2 hlast
          have HS:=Lib.hid (zxk (pb:=pb) hg hlast HR.out)
          have hm1:((out.length:Int) - 1).toNat=m:=by omega
          have hm2:(0:Int)≤(out.length:Int) - 1:=by omega
          have hm3:(out.length:Int) - 1 < (out.length:Int):=by omega
          have ey:Is_leg W2 b2 (o2+m * 20+1) y.leg:=fun j hj=>by rw [Nat.add_assoc,he2 _ (by omega)];exact y.leg_sub j hj
          have i1:zaJ W2 b2 (o2+m * 20+1):=⟨_,ey⟩
          have i2:za6 W2 b2 (o2+m * 20+1)=y.leg:=zaz ey
          clear hm he2 ey hlast hout HR hE0
          go_upto_region 14 with (fail)
          have X1:=X2.alloc (.cells y.leg.arr 64)
          have S1:=S2.alloc (.cells y.leg.arr 64)
          have Y1:=Blk.new W2 y.leg.arr 64
          have O1:=O2.alloc (.cells y.leg.arr 64)
          have B1:=zaa B2 ((Below.refl W2.heap.size W2).alloc (Nat.le_refl _) (.cells y.leg.arr 64))
          generalize W2.alloc _=W1 at X1 S1 Y1 O1 B1 ⊢
          generalize W2.heap.size=g2 at Y1 ⊢
          clear i1 i2 c1 c2 hm1 hm2 hm3 k1 k2 hsz X2 S2 O2 B2
          have c1:=X1.cell
          have c2:=X1.lt
          have d1:=Y1.cell
          have d2:=Y1.lt
          have j1:zaJ W1 g2 0:=⟨_,Y1.is_leg⟩
          have j2:za6 W1 g2 0=y.leg:=zaz Y1.is_leg
          have j3:zaJ W1 g 1:=⟨_,X1.leg_at⟩
          have j4:za6 W1 g 1=x.leg:=zaz X1.leg_at
          go_upto_region 15 with (fail)
          go_cut [68] (fun sv wx=>sv=.bool (!pb && (y.leg.arrivedB x.leg && zfg x.leg.ty))∧W1=wx)
          case first=>
            obtain ⟨a1,h1⟩:∃ a,(x.leg.ty == 1)=a:=⟨_,rfl⟩
            obtain ⟨a2,h2⟩:∃ a,(x.leg.ty == 2)=a:=⟨_,rfl⟩
            obtain ⟨a4,h4⟩:∃ a,(x.leg.ty == 4)=a:=⟨_,rfl⟩
            obtain ⟨ae,hae⟩:∃ a,zdq y.leg.ty=a:=⟨_,rfl⟩
            obtain ⟨af,haf⟩:∃ a,(y.leg.fix == x.leg.fix)=a:=⟨_,rfl⟩
            have HA:=Lib.hid (show (y.leg.arrivedB x.leg && zfg x.leg.ty)=((ae && af) && (a1 || a2 || a4)) by rw [zfg,h1,h2,h4,Leg.arrivedB,hae,haf])
            have hcall:Calls Tryz.prog 92 #[.int .u8 y.leg.ty] W1 (RetP W1 (.bool ae)):=by rw [← hae];exact zjh _ _
            clear hae
            cases pb <;> cases ae
            all_goals
              go_wp2_with (go_at_call 92;refine zae hcall ?_)
              all_goals (go_meet;refine ⟨?_,rfl⟩;rw [HA.out];go_light;clear HA HS HJ;first | (simp_all;done) | grind)
          case rest=>
            obtain ⟨rfl,rfl⟩:=hcut
            cases hsk:(!pb && (y.leg.arrivedB x.leg && zfg x.leg.ty))
            · have H2:=Lib.hid (show joinStep out pb x=if !pb && y.leg.joinsB x.leg then (out ++ [x],pb) else if okb then (out ++ [gapE,s],false) else (out,true) by rw [HS.out,hsk];rfl)
              clear hsk HS
              go_upto_region 16 with (fail)
              go_cut [76] (fun sv wx=>sv=.bool (!pb && y.leg.joinsB x.leg)∧Blk wx g x.arr∧Blk wx g9 s.arr∧Out w wx (.slice (some ⟨b2,o2,none⟩) out.length c1') out∧Below w.heap.size w wx)
              case first=>
                have hjn:=Lib.hid (zfH y.leg x.leg W1)
                cases pb
                · go_wp2_with (go_at_call 91;refine zaj hjn.out ?_;intro w3 hb3 hc3 hf3 hz3)
                  go_meet
                  exact ⟨by simp,X1.step hb3,S1.step hb3,O1.below hb3,zaa B1 hb3⟩
                · go_wp2
                  go_meet
                  exact ⟨by simp,X1,S1,O1,B1⟩
              case rest=>
                clear j1 j2 j3 j4 c1 c2 d1 d2
                obtain ⟨rfl,X3,S3,O3,B3⟩:=hcut
                have k1:za4 wc g9 0:=⟨_,S3.is_ent⟩
                have k2:zbE wc g9 0=s:=zaS S3.is_ent
                have k3:za4 wc g 0:=⟨_,X3.is_ent⟩
                have k4:zbE wc g 0=x:=zaS X3.is_ent
                have hsz:w.heap.size≤wc.heap.size:=B3.size
                cases hj:(!pb && y.leg.joinsB x.leg)
                · have H3:=Lib.hid (show joinStep out pb x=if okb then (out ++ [gapE,s],false) else (out,true) by rw [H2.out,hj];rfl)
                  cases okb
                  · go_wp2
                    go_roundw
                    case rel=>exact ⟨k+1,out,true,by omega,by go_num,rfl,by rw [HJ.out,H3.out];rfl,by omega,O3,B3⟩
                    case measure=>simp [intOf];omega
                  · have O4:=O3.alloc (.cells (gapE.arr ++ s.arr) 69)
                    have B4:=zaa B3 ((Below.refl wc.heap.size wc).alloc (Nat.le_refl _) (.cells (gapE.arr ++ s.arr) 69))
                    go_wp2_with (at_builtin;refine zaW rfl (.tmp 82) (.tmp 85) rfl O4 rfl [gapE,s] wc.heap.size 2 2 rfl rfl (Blk.two wc gapE s _) (by simp;omega) (by simp;omega) ?_;intro v5 W5 O5 hg5)
                    go_roundw
                    case rel=>exact ⟨k+1,out ++ [gapE,s],false,by omega,by go_num,rfl,by rw [HJ.out,H3.out];rfl,by simp;omega,O5,below_grown B4 O4 hg5⟩
                    case measure=>simp [intOf];omega
                · have H3:=Lib.hid (show joinStep out pb x=(out ++ [x],pb) by rw [H2.out,hj];rfl)
                  have O4:=O3.alloc (.cells x.arr 69)
                  have B4:=zaa B3 ((Below.refl wc.heap.size wc).alloc (Nat.le_refl _) (.cells x.arr 69))
                  go_wp2_with (at_builtin;refine zaW rfl (.tmp 77) (.tmp 79) rfl O4 rfl [x] wc.heap.size 1 1 rfl rfl (Blk.one wc x _) (by simp;omega) (by simp;omega) ?_;intro v5 W5 O5 hg5)
                  go_roundw
                  case rel=>exact ⟨k+1,out ++ [x],pb,by omega,by go_num,rfl,by rw [HJ.out,H3.out],by simp;omega,O5,below_grown B4 O4 hg5⟩
                  case measure=>simp [intOf];omega
            · have H3:=Lib.hid (show joinStep out pb x=(out,pb) by rw [HS.out,hsk];rfl)
              go_wp2
              go_roundw
              case rel=>exact ⟨k+1,out,pb,by omega,by go_num,rfl,by rw [HJ.out,H3.out],by omega,O1,B1⟩
              case measure=>simp [intOf];omega
      · go_wp2
        go_roundw
        case rel=>exact ⟨k+1,out,true,by omega,by go_num,rfl,by rw [HJ.out];simp [joinStep,hg],by omega,O0,B0⟩
        case measure=>simp [intOf];omega
    · go_wp2
      go_ret
      exact ⟨_,rfl,by rw [HQ.out,List.drop_of_length_le (by omega)];exact hO,hB⟩
end Go.Proofs.YtgoeedohgomodaaGreatDoor
namespace Go.Proofs.YtgoeedohgomodaaGreatDoor
open Go.RowKit
def zmZ (p q:Plan):Bool:=p.from_ == q.from_ && p.to_ == q.to_ && p.active == q.active && zkE p.es q.es
set_option maxHeartbeats 2000000 in
set_option maxRecDepth 100000 in
theorem zx4 (p q:Plan) (A B:Option Addr) (c d:Nat) (w:World) (hp:p.es.length≤4000000000) (hq:q.es.length≤4000000000) (hc:p.es.length≤c) (hd:q.es.length≤d) (hE:Ents w A p.es) (hF:Ents w B q.es):
   Calls Tryz.prog 27 #[p.val A c,q.val B d] w (Ret w (.bool (zmZ p q))):=by
  go_enter Tryz.func27,Tryz.ntmps27
  go_upto_region 1 with (fail)
  generalize hW:(w.alloc _).alloc _=W
  have X0:Blk W w.heap.size (p.arr A c):=by rw [← hW];exact (Blk.new w _ _).alloc _
  have R0:Blk W (w.heap.size+1) (q.arr B d):=by rw [← hW,← World.size_alloc w (.cells (p.arr A c) 43)];exact Blk.new _ _ _
  have B0:Below w.heap.size w W:=by rw [← hW];go_grown
  clear hW
  have c1:=X0.cell
  have c2:=X0.lt
  have d1:=R0.cell
  have d2:=R0.lt
  have hcall:=Lib.hid (zqz p.es q.es A B c d W hp hq hc hd (hE.below (B:=0) B0) (hF.below (B:=0) B0))
  obtain ⟨a1,h1⟩:∃ a,(p.from_ == q.from_)=a:=⟨_,rfl⟩
  obtain ⟨a2,h2⟩:∃ a,(p.to_ == q.to_)=a:=⟨_,rfl⟩
  obtain ⟨a3,h3⟩:∃ a,(p.active == q.active)=a:=⟨_,rfl⟩
  have HS:=Lib.hid (show zmZ p q=(a1 && a2 && a3 && zkE p.es q.es) by rw [zmZ,h1,h2,h3])
  cases a1 <;> cases a2 <;> cases a3
  all_goals
    go_wp2_with (go_at_call 58;refine zes hcall.out ?_;intro n)
    all_goals (go_ret;exact Ret.bool (by rw [HS.out];simp) (by first | exact B0 | exact below_drewN B0 _))
set_option maxHeartbeats 2000000 in
set_option maxRecDepth 100000 in
theorem zsu (p q:Plan) (A B:Option Addr) (c d:Nat) (w:World) (hp:p.es.length≤4000000000) (hq:q.es.length≤4000000000) (hc:p.es.length≤c) (hd:q.es.length≤d) (hE:Ents w A p.es) (hF:Ents w B q.es):
   Calls Tryz.prog 19 #[p.val A c,q.val B d] w (Ret w (.bool (zmZ p q))):=by
  go_enter Tryz.func19,Tryz.ntmps19
  go_upto_region 1 with (fail)
  generalize hW:(w.alloc _).alloc _=W
  have X0:Blk W w.heap.size (p.arr A c):=by rw [← hW];exact (Blk.new w _ _).alloc _
  have R0:Blk W (w.heap.size+1) (q.arr B d):=by rw [← hW,← World.size_alloc w (.cells (p.arr A c) 43)];exact Blk.new _ _ _
  have B0:Below w.heap.size w W:=by rw [← hW];go_grown
  clear hW
  have c1:=X0.cell
  have c2:=X0.lt
  have d1:=R0.cell
  have d2:=R0.lt
  have hcall:=Lib.hid (ztz p.es q.es A B c d W hp hq hc hd (hE.below (B:=0) B0) (hF.below (B:=0) B0))
  obtain ⟨a1,h1⟩:∃ a,(p.from_ == q.from_)=a:=⟨_,rfl⟩
  obtain ⟨a2,h2⟩:∃ a,(p.to_ == q.to_)=a:=⟨_,rfl⟩
  obtain ⟨a3,h3⟩:∃ a,(p.active == q.active)=a:=⟨_,rfl⟩
  have HS:=Lib.hid (show zmZ p q=(a1 && a2 && a3 && zkE p.es q.es) by rw [zmZ,h1,h2,h3])
  cases a1 <;> cases a2 <;> cases a3
  all_goals
    go_wp2_with (go_at_call 45;refine zes hcall.out ?_;intro n)
    all_goals (go_ret;exact Ret.bool (by rw [HS.out];simp) (by first | exact B0 | exact below_drewN B0 _))
end Go.Proofs.YtgoeedohgomodaaGreatDoor
namespace Go.Proofs.YtgoeedohgomodaaGreatDoor
open Go.RowKit Go.Sort
set_option maxRecDepth 100000
theorem zvr (R:zbS) (a:AwyV) (y:ItemV) (i:Nat):zfW R a y i=((zfW R a y 0).1,if (zfW R a y 0).1.isSome then (0,0) else ((i:Int)+(zfW R a y 0).2.1,(zfW R a y 0).2.2)):=by
  unfold zfW
  by_cases h4:y.kind=4
  · rw [if_pos h4,if_pos h4];rfl
  · rw [if_neg h4,if_neg h4]
    by_cases h3:y.kind=3
    · rw [if_pos h3,if_pos h3]
      by_cases ha:(R.awy y.name).isSome
      · rw [if_pos ha,if_pos ha];simp
      · rw [if_neg ha,if_neg ha]
        cases zbJ y.name a.pts <;> simp
    · rw [if_neg h3,if_neg h3];simp
theorem zpA (R:zbS) (l:List Entry) (a:AwyV) (y:ItemV) (i:Nat):zbb R l a y i=((zbb R l a y 0).1,((i:Int)+(zbb R l a y 0).2.1,(zbb R l a y 0).2.2)):=by
  unfold zbb
  rw [zvr R a y i]
  rcases zfW R a y 0 with ⟨_ | z,je⟩
  · simp
  · simp only [Option.isSome_some,if_true]
    cases l.getLast? with
    | none=>simp
    | some q=>
      simp only
      by_cases h1:(!zdq q.leg.ty)=true
      · rw [if_pos h1,if_pos h1];simp
      · rw [if_neg h1,if_neg h1]
        by_cases h2:(zaG a q.leg.fix z).2 ≠ 0
        · rw [if_pos h2,if_pos h2];simp
        · rw [if_neg h2,if_neg h2];simp
theorem zwS (R:zbS) (a:AwyV) (y:ItemV):0≤(zfW R a y 0).2.1∧(zfW R a y 0).2.1≤1:=by
  unfold zfW
  by_cases h4:y.kind=4
  · rw [if_pos h4];constructor <;> simp
  · rw [if_neg h4]
    by_cases h3:y.kind=3
    · rw [if_pos h3]
      by_cases ha:(R.awy y.name).isSome
      · rw [if_pos ha];constructor <;> simp
      · rw [if_neg ha]
        cases zbJ y.name a.pts <;> constructor <;> simp
    · rw [if_neg h3];constructor <;> simp
theorem zub (R:zbS) (l:List Entry) (a:AwyV) (y:ItemV):0≤(zbb R l a y 0).2.1∧(zbb R l a y 0).2.1≤1:=by
  have he:=zwS R a y
  unfold zbb
  generalize zfW R a y 0=q at *
  obtain ⟨_ | z,je⟩:=q
  · exact he
  · simp only
    cases l.getLast? with
    | none=>constructor <;> simp
    | some q=>
      simp only
      by_cases h1:(!zdq q.leg.ty)=true
      · rw [if_pos h1];constructor <;> simp
      · rw [if_neg h1]
        by_cases h2:(zaG a q.leg.fix z).2 ≠ 0
        · rw [if_pos h2];constructor <;> simp
        · rw [if_neg h2];constructor <;> simp
def RetIt (w W:World) (g:Nat) (cs:Array Value) (iv:Value) (i:Nat) (r:List Entry × (Int × Int)) (e:Ending) (W':World):Prop:=
  ∃ n k:Int,e=.returned (.tuple #[.int .i64 n, .int .i64 k, .int .i64 r.2.2])∧OnlyB g W W'∧(r.2.2=0→(1≤n∧n≤2∧(i:Int)+n=r.2.1+1)∧∃ L c,Bu w W' g cs iv L c r.1)∧(r.2.2 ≠ 0→-1≤k∧k≤1∧(i:Int)+k=r.2.1)
theorem RetIt.one {w W W':World} {g:Nat} {cs:Array Value} {iv:Value} {i:Nat} {L:Option Addr} {c:Nat} {r:List Entry × (Int × Int)} {q:List Entry × Int} (hr:r=atI i q) (h:Bu w W' g cs iv L c q.1) (o:OnlyB g W W'):
    RetIt w W g cs iv i r (.returned (.tuple #[.int .i64 1, .int .i64 0, .int .i64 q.2])) W':=by
  subst hr
  exact ⟨1,0,rfl,o,fun _=>⟨⟨by omega,by omega,rfl⟩,L,c,h⟩,fun _=>⟨by omega,by omega,by simp [atI]⟩⟩
def RetKE (w W:World) (g:Nat) (cs:Array Value) (iv:Value) (r:List Entry × (Int × Int)) (e:Ending) (W':World):Prop:=
  ∃ k:Int,e=.returned (.tuple #[.int .i64 k, .int .i64 r.2.2])∧OnlyB g W W'∧(r.2.2=0→∃ L c,Bu w W' g cs iv L c r.1)∧(r.2.2 ≠ 0→k=r.2.1)
theorem zwj {P:Program} {f:FuncId} {args:Array Value} {w W:World} {g:Nat} {cs:Array Value} {iv:Value} {r:List Entry × (Int × Int)} {K:Ending→World→Prop} (h:Calls P f args W (RetKE w W g cs iv r))
    (k:∀ k W',OnlyB g W W'→(r.2.2=0→∃ L c,Bu w W' g cs iv L c r.1)→(r.2.2 ≠ 0→k=r.2.1)→K (.returned (.tuple #[.int .i64 k, .int .i64 r.2.2])) W'):Calls P f args W K:=
  h.mono fun e W' ⟨q,he,h1,h2,h3⟩=>by subst he;exact k q W' h1 h2 h3
theorem RetKE.of {w W W':World} {g:Nat} {cs:Array Value} {iv:Value} {L:Option Addr} {c:Nat} {r:List Entry × (Int × Int)} {l:List Entry} {k j n:Int} (hr:r=(l,(j,n))) (hk:n ≠ 0→k=j) (h:Bu w W' g cs iv L c l) (o:OnlyB g W W'):
    RetKE w W g cs iv r (.returned (.tuple #[.int .i64 k, .int .i64 n])) W':=by
  subst hr
  exact ⟨k,rfl,o,fun _=>⟨L,c,h⟩,hk⟩
theorem RetKE.err {w W W':World} {g:Nat} {cs:Array Value} {iv:Value} {r:List Entry × (Int × Int)} {k n:Int} (hr:r.2=(k,n)) (hn:n ≠ 0) (o:OnlyB g W W'):
    RetKE w W g cs iv r (.returned (.tuple #[.int .i64 k, .int .i64 n])) W':=by
  obtain ⟨l,j,m⟩:=r
  obtain ⟨rfl,rfl⟩:j=k∧m=n:=by simpa using hr
  exact ⟨j,rfl,o,fun h=>absurd h hn,fun _=>rfl⟩
end Go.Proofs.YtgoeedohgomodaaGreatDoor
namespace Go.Proofs.YtgoeedohgomodaaGreatDoor
open Go.RowKit Go.Sort
set_option maxRecDepth 100000
attribute [local go_sem ↓] zdI
attribute [local go_sem] zd3
theorem zu8 (b:Bool) (w:World):Calls Tryz.prog 69 #[.bool b] w (RetP w (.int .i64 (if b then 0 else 6))):=by
  cases b
  all_goals
    go_enter Tryz.func69,Tryz.ntmps69
    go_wp2
    go_ret
    exact RetP.int rfl rfl
set_option maxHeartbeats 2000000 in
theorem znr (l:List FixV) (r:List UInt8) (A:Option Addr) (c:Nat) (w:World) (hI:Items w A 7 (l.map FixV.arr)) (hlc:l.length≤c) (hn:l.length≤9000000000) (hs:∀ f ∈ l,f.small):
    Calls Tryz.prog 68 #[.slice A l.length c, .string ⟨r.toArray⟩] w (Ret w (.tuple #[.agg ((zc7 l r).getD noFix).arr, .bool (zc7 l r).isSome])):=by
  go_enter Tryz.func68,Tryz.ntmps68
  go_upto_region 1 with (fail)
  rw [← zg9]
  have Y0:Blk (w.alloc (.cells noFix.arr 84)) w.heap.size noFix.arr:=Blk.new _ _ _
  have B0:=zad w (.cells noFix.arr 84)
  generalize hW:w.alloc _=W
  have hE:w.alloc (.cells noFix.arr 84)=W:=hW
  rw [hE] at Y0 B0
  clear hW hE
  obtain ⟨g1,hg1⟩:∃ g,g=w.heap.size:=⟨_,rfl⟩
  rw [← hg1] at Y0 ⊢
  have hgle:w.heap.size≤g1:=Nat.le_of_eq hg1.symm
  clear hg1
  go_wp2
  go_loopw [10] (fun i wr=>∃ k:Nat,k≤l.length∧i=.int .i64 k∧zc7 l r=zc7 (l.drop k) r∧Blk wr g1 noFix.arr∧Below w.heap.size w wr) (fun i _=>l.length - (intOf i).toNat)
  case atStart=>exact ⟨0,by omega,rfl,rfl,Y0,B0⟩
  case round=>
    clear Y0 B0
    obtain ⟨k,hk,rfl,hf,Y1,BW⟩:=hrel
    have HF:=Lib.hid hf
    clear hf
    by_cases hlt:k < l.length
    · obtain ⟨b,off,hA,hb,hcl⟩:=hI.get (k:=k) (by simpa using hlt)
      clear hcl hb
      subst hA
      have hd:=Lib.hid (List.drop_eq_getElem_cons hlt)
      have hx:=zgx hI BW hlt
      have hsm:=hs _ (List.getElem_mem hlt)
      generalize l[k]=f at hd hx hsm
      have HD:=Lib.hid (show zc7 l r=if f.ref == r then some f else zc7 (l.drop (k+1)) r by rw [HF.out,hd.out];rfl)
      clear HF hd
      have kr:=Lib.hid (zgn f hsm)
      generalize f.ref=t at kr HD
      have hkc:k < c:=by omega
      have i1:za1 wr b (off+k * 7):=⟨_,hx⟩
      have i2:zbe wr b (off+k * 7)=f:=za0 hx
      go_upto_region 4 with (fail)
      have Z2:=Blk.new wr f.arr 84
      have Y2:=Y1.alloc (.cells f.arr 84)
      have B2:=zaa BW (zad wr (.cells f.arr 84))
      generalize hW:wr.alloc _=W2
      have hE:wr.alloc (.cells f.arr 84)=W2:=hW
      rw [hE] at Z2 Y2 B2
      clear hW hE i1 i2 hx Y1 BW
      generalize wr.heap.size=g7 at Z2 ⊢
      have i1:za1 W2 g7 0:=⟨_,Z2.is_fixv⟩
      have i2:zbe W2 g7 0=f:=za0 Z2.is_fixv
      have HZ:=Lib.hid (fun w' (h:Below W2.heap.size W2 w')=>Z2.step h)
      have HY:=Lib.hid (fun w' (h:Below W2.heap.size W2 w')=>Y2.step h)
      have HB:=Lib.hid (fun w' (h:Below W2.heap.size W2 w')=>zaa B2 h)
      clear Z2 Y2 B2
      rcases Bool.eq_false_or_eq_true (t == r) with ht | ht
      · have HO:=Lib.hid (show zc7 l r=some f by rw [HD.out,ht];rfl)
        clear HD
        go_wp2_with (go_at_call 40;(with_reducible refine zaj (kr.out _) ?_);intro w3 b3 _ _ _
                     have i3:za1 w3 g7 0:=⟨_,(HZ.out _ b3).is_fixv⟩
                     have i4:zbe w3 g7 0=f:=za0 (HZ.out _ b3).is_fixv
                     have d2:=(HY.out _ b3).plain
                     have d3:=(HY.out _ b3).of)
        exact bodyPost_ret (zal Tryz.results68 _ _ g1 f.arr 7 _ rfl rfl ((HY.out _ b3).set _).cell Tryz.underlying84 rfl zcV) rfl ⟨by rw [HO.out];rfl,zab (HB.out _ b3) hgle _⟩
      · have HO:=Lib.hid (show zc7 l r=zc7 (l.drop (k+1)) r by rw [HD.out,ht];rfl)
        clear HD
        go_wp2_with (go_at_call 40;(with_reducible refine zaj (kr.out _) ?_);intro w3 b3 _ _ _)
        go_roundw
        case rel=>exact ⟨k+1,by omega,by go_num,HO.out,HY.out _ b3,HB.out _ b3⟩
        case measure=>simp [intOf];omega
    · have HO:=Lib.hid (show zc7 l r=none by rw [HF.out,List.drop_of_length_le (by omega)];rfl)
      have d2:=Y1.plain
      have d3:=Y1.of
      clear HF
      go_wp2
      exact bodyPost_ret (zal Tryz.results68 _ _ g1 noFix.arr 7 _ rfl rfl (Y1.set _).cell Tryz.underlying84 rfl zcV) rfl ⟨by rw [HO.out];rfl,zab BW hgle _⟩
end Go.Proofs.YtgoeedohgomodaaGreatDoor
namespace Go.Proofs.YtgoeedohgomodaaGreatDoor
open Go.RowKit Go.Sort
set_option maxRecDepth 100000
theorem zeP (x:Int):IntKind.u64.wrap x=x % 18446744073709551616:=rfl
theorem results_tmp3 {fn:Func} {t u v:Tmp} (h:fn.results=#[.tmp t, .tmp u, .tmp v]) (tmps:Array Value) (P:Program) (w:World):
    (results fn tmps).run P w=.ok (.tuple #[tmps.getD t undef,tmps.getD u undef,tmps.getD v undef]) w:=by simp [results,h]
theorem zrW {x:Int} (h0:0≤x) (h1:x < 18446744073709551616):IntKind.u64.wrap x=x:=by rw [zeP];omega
theorem zez (a:Int) (h0:-9223372036854775808≤a) (h1:a≤9223372036854775807) (w:World):Calls Tryz.prog 234 #[.int .i64 a] w (RetP w (.int .u64 ((a.natAbs:Nat):Int))):=by
  go_enter Tryz.func234,Tryz.ntmps234
  go_wp2
  all_goals (go_ret;exact RetP.int (by try rw [zeP]
                                       try rw [zeP]
                                       try unfold wrap64
                                       omega) rfl)
theorem zpy {x:Nat} (hx:x < 18446744073709551616):bits .and .u64 (x:Int) 4294967295=((x % 4294967296:Nat):Int):=by
  have:=bits_and_u64_nat x 4294967295 hx (by decide)
  rw [show (4294967295:Nat)=2 ^ 32 - 1 by decide,Nat.and_two_pow_sub_one_eq_mod] at this
  exact this
theorem zhS (x:Nat) (hx:x < 18446744073709551616) (w:World):Calls Tryz.prog 233 #[.int .u64 (x:Int), .int .u64 1] w (RetP w (.tuple #[.int .u64 0, .int .u64 (x:Int)])):=by
  have e1:bits .and .u64 1 4294967295=1:=by decide
  have e2:=zpy hx
  have hl:x % 4294967296 < 4294967296:=Nat.mod_lt _ (by decide)
  have hh:x / 4294967296 < 4294967296:=by omega
  have hs:x=x / 4294967296 * 4294967296+x % 4294967296:=by omega
  have hx2:(x:Int) / 4294967296=((x / 4294967296:Nat):Int):=by omega
  generalize x / 4294967296=h at *
  generalize x % 4294967296=l at *
  have e3:=zpy (x:=h) (by omega)
  have e4:=zpy (x:=l) (by omega)
  rw [Nat.mod_eq_of_lt hh] at e3
  rw [Nat.mod_eq_of_lt hl] at e4
  have hor:=bits_or_u64_nat (h * 4294967296) l (by omega) (by omega)
  rw [zwF hl,← hs] at hor
  rw [Int.natCast_mul,show ((4294967296:Nat):Int)=4294967296 from rfl] at hor
  clear hs
  generalize (x:Int)=xi at *
  have hi0:(0:Int)≤h:=by omega
  have li0:(0:Int)≤l:=by omega
  have hi1:(h:Int) < 4294967296:=by omega
  have li1:(l:Int) < 4294967296:=by omega
  generalize (h:Int)=hi at *
  generalize (l:Int)=li at *
  have w1:IntKind.u64.wrap hi=hi:=zrW hi0 (by omega)
  have w2:IntKind.u64.wrap li=li:=zrW li0 (by omega)
  have w3:IntKind.u64.wrap (hi * 4294967296)=hi * 4294967296:=zrW (by omega) (by omega)
  have w4:hi / 4294967296=0:=by omega
  have w5:li / 4294967296=0:=by omega
  have w6:IntKind.u64.wrap 0=0:=rfl
  go_enter Tryz.func233,Tryz.ntmps233
  go_wp2
  go_ret2
  exact ⟨by simp only [e1,e2,e3,e4,hor,hx2,w1,w2,w3,w4,w5,w6,Int.mul_one,Int.mul_zero,Int.zero_add,Int.add_zero,Int.zero_mul,Int.zero_ediv];rfl,rfl⟩
def dsI (s:DS):Prop:=s.hi < 18446744073709551616∧s.lo < 18446744073709551616∧s.qhi < 18446744073709551616∧s.qlo < 18446744073709551616∧s.r < 18446744073709551616
theorem zvt {hi lo:Nat} (h1:hi < 18446744073709551616) (h2:lo < 18446744073709551616):dsI ⟨hi,lo,0,0,0⟩:=⟨h1,h2,(by decide:0 < 18446744073709551616),(by decide:0 < 18446744073709551616),(by decide:0 < 18446744073709551616)⟩
theorem zoY {x b:Nat} (hx:x < 18446744073709551616) (hb:b < 18446744073709551616):bits .or .u64 (IntKind.u64.wrap ((x:Int) * 2)) ((b:Int) / 9223372036854775808)=((x * 2 % 18446744073709551616+b / 9223372036854775808:Nat):Int):=by
  have e1:IntKind.u64.wrap ((x:Int) * 2)=((x * 2 % 18446744073709551616:Nat):Int):=by rw [zeP];omega
  have e2:(b:Int) / 9223372036854775808=((b / 9223372036854775808:Nat):Int):=by omega
  rw [e1,e2,bits_or_u64_nat _ _ (Nat.mod_lt _ (by decide)) (by omega),or_bit (H:=9223372036854775808) (by decide) (by omega)]
theorem zwE {x:Nat}:bits .or .u64 (((x * 2 % 18446744073709551616:Nat):Int)) 1=((x * 2 % 18446744073709551616+1:Nat):Int):=by
  have:=bits_or_u64_nat (x * 2 % 18446744073709551616) 1 (Nat.mod_lt _ (by decide)) (by decide)
  rw [or_one (H:=9223372036854775808) (by decide)] at this
  exact this
theorem zoL (hi lo c:Nat) (h1:hi < 18446744073709551616) (h2:lo < 18446744073709551616) (hc:c < 18446744073709551616) (w:World):
    Calls Tryz.prog 235 #[.int .u64 (hi:Int), .int .u64 (lo:Int), .int .u64 (c:Int)] w (RetP w (.tuple #[.int .u64 ((zfX c 128 ⟨hi,lo,0,0,0⟩).qhi:Int), .int .u64 ((zfX c 128 ⟨hi,lo,0,0,0⟩).qlo:Int), .int .u64 ((zfX c 128 ⟨hi,lo,0,0,0⟩).r:Int)])):=by
  have h0:=zvt h1 h2
  generalize hD':zfX c 128 ⟨hi,lo,0,0,0⟩=D
  have hD:=Lib.hid hD'
  clear hD'
  go_enter Tryz.func235,Tryz.ntmps235
  go_wp2
  go_loopw [0,1,6,7,8,9] (fun a b q p r i W=>∃ (k:Nat) (s:DS),k≤128∧dsI s∧a=.int .u64 (s.hi:Int)∧b=.int .u64 (s.lo:Int)∧q=.int .u64 (s.qhi:Int)∧p=.int .u64 (s.qlo:Int)∧r=.int .u64 (s.r:Int)∧i=.int .i64 k∧zfX c (128 - k) s=D∧W=w) (fun _ _ _ _ _ i _=>128 - (intOf i).toNat)
  case atStart=>exact ⟨0,⟨hi,lo,0,0,0⟩,Nat.zero_le _,h0,rfl,rfl,rfl,rfl,rfl,rfl,hD.out,rfl⟩
  case round=>
    obtain ⟨k,s,hk,⟨i1,i2,i3,i4,i5⟩,rfl,rfl,rfl,rfl,rfl,rfl,hd,rfl⟩:=hrel
    have HD:=Lib.hid hd;clear hd
    have HS:=Lib.hid (show zkF c s=zkF c s from rfl)
    obtain ⟨shi,slo,sqh,sql,sr⟩:=s
    simp only at i1 i2 i3 i4 i5
    have hs:sr / 9223372036854775808≤1:=by omega
    have o1:=zoY i5 i1
    have o2:=zoY i1 i2
    have o3:=zoY i3 i4
    have o4:IntKind.u64.wrap ((slo:Int) * 2)=((slo * 2 % 18446744073709551616:Nat):Int):=by rw [zeP];omega
    have o5:IntKind.u64.wrap ((sql:Int) * 2)=((sql * 2 % 18446744073709551616:Nat):Int):=by rw [zeP];omega
    have o6:bits .or .u64 ((sql:Int) * 2 % 18446744073709551616) 1=(sql:Int) * 2 % 18446744073709551616+1:=by
      have:=zwE (x:=sql)
      rw [show ((sql * 2 % 18446744073709551616:Nat):Int)=(sql:Int) * 2 % 18446744073709551616 by omega] at this
      rw [this];omega
    by_cases hlt:k < 128
    · have hst:=Lib.hid (show zfX c (128 - k) ⟨shi,slo,sqh,sql,sr⟩=zfX c (128 - (k+1)) (zkF c ⟨shi,slo,sqh,sql,sr⟩) by
        rw [show 128 - k=(128 - (k+1))+1 by omega];rfl)
      go_wp2
      all_goals
        refine ⟨?_,by simp [intOf];omega⟩
        rename_i hT
        try simp only [beq_iff_eq,beq_eq_false_iff_ne,ne_eq] at hT
        first
          | (refine ⟨k+1,⟨shi * 2 % 18446744073709551616+slo / 9223372036854775808,slo * 2 % 18446744073709551616,sqh * 2 % 18446744073709551616+sql / 9223372036854775808,sql * 2 % 18446744073709551616+1,(sr * 2 % 18446744073709551616+shi / 9223372036854775808+18446744073709551616 - c) % 18446744073709551616⟩,by omega,⟨?_,?_,?_,?_,?_⟩,congrArg (Value.int .u64) ?_,congrArg (Value.int .u64) ?_,congrArg (Value.int .u64) ?_,congrArg (Value.int .u64) ?_,congrArg (Value.int .u64) ?_,congrArg (Value.int .i64) ?_,?hd,?ht⟩
             case ht=>exact trivial
             case hd=>exact (show zkF c ⟨shi,slo,sqh,sql,sr⟩=_ from if_pos (by first | (left;simp only;omega) | (right;simp only;omega))) ▸ (hst.out.symm.trans HD.out)
             all_goals try simp only [o6]
             all_goals try rw [zeP]
             all_goals omega)
          | (refine ⟨k+1,⟨shi * 2 % 18446744073709551616+slo / 9223372036854775808,slo * 2 % 18446744073709551616,sqh * 2 % 18446744073709551616+sql / 9223372036854775808,sql * 2 % 18446744073709551616,sr * 2 % 18446744073709551616+shi / 9223372036854775808⟩,by omega,⟨?_,?_,?_,?_,?_⟩,congrArg (Value.int .u64) ?_,congrArg (Value.int .u64) ?_,congrArg (Value.int .u64) ?_,congrArg (Value.int .u64) ?_,congrArg (Value.int .u64) ?_,congrArg (Value.int .i64) ?_,?hd,?ht⟩
             case ht=>exact trivial
             case hd=>exact (show zkF c ⟨shi,slo,sqh,sql,sr⟩=_ from if_neg (by simp only;omega)) ▸ (hst.out.symm.trans HD.out)
             all_goals try simp only []
             all_goals omega)
    · go_wp2
      obtain rfl:k=128:=by omega
      have:=HD.out
      refine bodyPost_ret (results_tmp3 rfl _ _ _) rfl ?_
      exact ⟨by rw [← this];rfl,rfl⟩
end Go.Proofs.YtgoeedohgomodaaGreatDoor
namespace Go.Proofs.YtgoeedohgomodaaGreatDoor
open Go.RowKit Go.Sort
set_option maxRecDepth 100000
theorem zs2 (m:Nat) (h:m < 18446744073709551616):18446744073709551615 ^^^ m=18446744073709551615 - m:=by
  have h1:(BitVec.allOnes 64 ^^^ BitVec.ofNat 64 m) = ~~~ (BitVec.ofNat 64 m):=BitVec.allOnes_xor
  have h2:=congrArg BitVec.toNat h1
  rw [BitVec.toNat_xor,BitVec.toNat_not,BitVec.toNat_ofNat,Nat.mod_eq_of_lt (by simpa using h)] at h2
  simpa using h2
theorem zwu (m:Int) (h0:0≤m) (h1:m < 18446744073709551616):bits .xor .u64 IntKind.u64.max m=18446744073709551615 - m:=by
  obtain ⟨M,rfl⟩:=Int.eq_ofNat_of_zero_le h0
  have h:=u64_xor_nat 18446744073709551615 M (by decide) (by omega)
  rw [zs2 M (by omega)] at h
  refine Eq.trans ?_ (h.trans ?_)
  · rfl
  · omega
theorem zl9 (m:Int) (h0:0≤m) (h1:m < 9223372036854775808):wrap64 (IntKind.u64.wrap (bits .xor .u64 IntKind.u64.max m+1))=-m:=by
  rw [zwu m (by omega) (by omega),zdt]
  unfold wrap64
  omega
theorem zgY (n c:Nat) (hn:n < 18446744073709551616) (hc:0 < c) (hc63:c < 9223372036854775808) (w:World):
    Calls Tryz.prog 235 #[.int .u64 0, .int .u64 (n:Int), .int .u64 (c:Int)] w (RetP w (.tuple #[.int .u64 0, .int .u64 ((n / c:Nat):Int), .int .u64 ((n % c:Nat):Int)])):=by
  obtain ⟨h1,h2,h3⟩:=zpi hn hc (Nat.le_of_lt hc63)
  have:=zoL 0 n c (by decide) hn (by omega) w
  rw [h1,h2,h3] at this
  exact this
theorem zuT (a c:Int) (a0:a < 0) (a1:-9223372036854775807≤a) (c0:0 < c) (c1:i64 c) (w:World):Calls Tryz.prog 222 #[.int .i64 a, .int .i64 1, .int .i64 c, .int .i64 2] w (Ret w (.tuple #[.int .i64 (zcC a c), .int .i64 0])):=by
  have e1:decide (a < 0)=true:=by rw [decide_eq_true_eq];exact a0
  have hnear:=ziu a c
  rw [e1,if_pos rfl] at hnear
  have hle:=ziD (neg:=true) (n:=a.natAbs) (c:=c.natAbs) (by omega)
  have hak:zhF true a.natAbs c.natAbs=if c.natAbs - a.natAbs % c.natAbs < a.natAbs % c.natAbs then 1 else 0:=rfl
  have hr:a.natAbs % c.natAbs < c.natAbs:=Nat.mod_lt _ (by omega)
  have hna:a.natAbs < 9223372036854775808:=by omega
  have hc63:c.natAbs < 9223372036854775808:=by have:=c1.1;have:=c1.2;omega
  have hcp:0 < c.natAbs:=by omega
  have k1:=Lib.hid (zez a (by omega) (by omega))
  have k2:=Lib.hid (zez 1 (by omega) (by omega))
  have k3:=Lib.hid (zez c c1.1 c1.2)
  have k4:=Lib.hid (zhS a.natAbs (by omega))
  have k5:=Lib.hid (zgY a.natAbs c.natAbs (by omega) hcp hc63)
  have hq63:a.natAbs / c.natAbs≤a.natAbs:=Nat.div_le_self _ _
  rw [show ((Int.natAbs 1:Nat):Int)=1 from rfl] at k2
  clear e1
  generalize zcC a c=out at *
  generalize zhF true a.natAbs c.natAbs=k at *
  generalize a.natAbs / c.natAbs=q at *
  generalize a.natAbs % c.natAbs=r at *
  generalize c.natAbs=d at *
  generalize a.natAbs=na at *
  rw [Int.natCast_add] at hnear
  have hd0:(0:Int) < d:=by omega
  have hrd:(r:Int) < d:=by omega
  have hw:IntKind.u64.wrap ((d:Int) - r)=(d:Int) - r:=by rw [zdt];omega
  have hw2:IntKind.u64.wrap ((q:Int)+1)=(q:Int)+1:=by rw [zdt];omega
  have hq64:(q:Int) < 9223372036854775808:=by omega
  have hd63:(d:Int) < 9223372036854775808:=by omega
  have ha:(a < 0)=True:=by simp;omega
  have hc:(c < 0)=False:=by simp;omega
  have hcz:(c == 0)=false:=by simp;omega
  have hki:(k:Int)=if ((d:Int) - r < (r:Int)) then 1 else 0:=by
    rw [hak]
    split <;> split <;> omega
  have hqk:(q:Int)+k < 9223372036854775808:=by omega
  have hr0:(0:Int)≤r:=by omega
  have hq0:(0:Int)≤q:=by omega
  have HN:=Lib.hid hnear
  clear hnear hle hr hq63 hc63 hak hcp hna
  generalize (k:Int)=ki at *
  generalize (q:Int)=qi at *
  generalize (r:Int)=ri at *
  generalize (d:Int)=di at *
  generalize (na:Int)=nai at *
  have HK:=Lib.hid hki
  have HQ:=Lib.hid hqk
  clear hki hqk
  go_enter Tryz.func222,Tryz.ntmps222
  go_upto_region 10 with (first | (go_at_call 234;first | (with_reducible refine zae (k1.out _) ?_) | (with_reducible refine zae (k2.out _) ?_) | (with_reducible refine zae (k3.out _) ?_)) | (go_at_call 233;(with_reducible refine zae (k4.out _) ?_)) | (go_at_call 235;(with_reducible refine zae (k5.out _) ?_)))
  clear k1 k2 k3 k4 k5 hw
  generalize di - ri=t at *
  have HK2:=HK.out
  clear HK hd0 hd63 hrd
  by_cases ht:t < ri
  · rw [if_pos ht] at HK2
    have h10:qi+1 < 9223372036854775808:=by have:=HQ.out;omega
    go_upto_region 16 with (fail)
    obtain ⟨m,hm⟩:∃ m,qi+1=m:=⟨_,rfl⟩
    rw [hm] at h10 ⊢
    have hout:out=-m:=by rw [HN.out,HK2,hm]
    have m0:0 < m:=by omega
    clear HN HQ HK2 hw2 hq64 hm ht a1 c1 hc ha
    have e1:(m == 0)=false:=by simp;omega
    have e2:¬ (9223372036854775808 < m):=by omega
    have e3:(m == 9223372036854775808)=false:=by simp;omega
    go_upto_region 21 with (fail)
    clear a0 c0 hcz e1 e2 e3 hq0 hr0
    go_wp2
    all_goals go_ret2
    all_goals refine ⟨congrArg Ending.returned (congrArg Value.tuple (congrArg (fun z=>#[Value.int .i64 z, .int .i64 0]) ?_)),Below.refl _ _⟩
    all_goals exact zl9 m (by omega) h10
  · rw [if_neg ht] at HK2
    have h10:qi < 9223372036854775808:=by have:=HQ.out;omega
    have hout:out=-qi:=by rw [HN.out,HK2,Int.add_zero]
    clear HN HQ HK2 hw2 hq64 a1 c1 hc ha
    have ht2:¬ t < ri:=ht
    have e2:¬ (9223372036854775808 < qi):=by omega
    have e3:(qi == 9223372036854775808)=false:=by simp;omega
    rcases Bool.eq_false_or_eq_true (ri == t) with hrt | hrt
    · go_upto_region 18 with (fail)
      go_upto_region 21 with (fail)
      clear a0 c0 hcz e2 e3 hr0 ht ht2 hrt
      go_wp2
      all_goals go_ret2
      all_goals refine ⟨congrArg Ending.returned (congrArg Value.tuple (congrArg (fun z=>#[Value.int .i64 z, .int .i64 0]) ?_)),Below.refl _ _⟩
      all_goals exact zl9 qi hq0 h10
    · go_upto_region 18 with (fail)
      go_upto_region 21 with (fail)
      clear a0 c0 hcz e2 e3 hr0 ht ht2 hrt
      go_wp2
      all_goals go_ret2
      all_goals refine ⟨congrArg Ending.returned (congrArg Value.tuple (congrArg (fun z=>#[Value.int .i64 z, .int .i64 0]) ?_)),Below.refl _ _⟩
      all_goals exact zl9 qi hq0 h10
theorem zuS (a c:Int) (a0:0≤a) (a1:a≤9223372036854775807) (c0:0 < c) (c1:i64 c) (w:World):Calls Tryz.prog 222 #[.int .i64 a, .int .i64 1, .int .i64 c, .int .i64 2] w (Ret w (.tuple #[.int .i64 (zcC a c), .int .i64 0])):=by
  have e1:decide (a < 0)=false:=by rw [decide_eq_false_iff_not];omega
  have hnear:=ziu a c
  rw [e1,if_neg (by decide)] at hnear
  have hle:=ziD (neg:=false) (n:=a.natAbs) (c:=c.natAbs) (by omega)
  have hak:zhF false a.natAbs c.natAbs=if c.natAbs - a.natAbs % c.natAbs≤a.natAbs % c.natAbs then 1 else 0:=rfl
  have hr:a.natAbs % c.natAbs < c.natAbs:=Nat.mod_lt _ (by omega)
  have hna:a.natAbs < 9223372036854775808:=by omega
  have hc63:c.natAbs < 9223372036854775808:=by have:=c1.1;have:=c1.2;omega
  have hcp:0 < c.natAbs:=by omega
  have k1:=Lib.hid (zez a (by omega) (by omega))
  have k2:=Lib.hid (zez 1 (by omega) (by omega))
  have k3:=Lib.hid (zez c c1.1 c1.2)
  have k4:=Lib.hid (zhS a.natAbs (by omega))
  have k5:=Lib.hid (zgY a.natAbs c.natAbs (by omega) hcp hc63)
  have hq63:a.natAbs / c.natAbs≤a.natAbs:=Nat.div_le_self _ _
  rw [show ((Int.natAbs 1:Nat):Int)=1 from rfl] at k2
  clear e1
  generalize zcC a c=out at *
  generalize zhF false a.natAbs c.natAbs=k at *
  generalize a.natAbs / c.natAbs=q at *
  generalize a.natAbs % c.natAbs=r at *
  generalize c.natAbs=d at *
  generalize a.natAbs=na at *
  rw [Int.natCast_add] at hnear
  have hd0:(0:Int) < d:=by omega
  have hrd:(r:Int) < d:=by omega
  have hw:IntKind.u64.wrap ((d:Int) - r)=(d:Int) - r:=by rw [zdt];omega
  have hw2:IntKind.u64.wrap ((q:Int)+1)=(q:Int)+1:=by rw [zdt];omega
  have hq64:(q:Int) < 9223372036854775808:=by omega
  have hd63:(d:Int) < 9223372036854775808:=by omega
  have ha:(a < 0)=False:=by simp;omega
  have hc:(c < 0)=False:=by simp;omega
  have hcz:(c == 0)=false:=by simp;omega
  have hki:(k:Int)=if ((d:Int) - r≤(r:Int)) then 1 else 0:=by
    rw [hak]
    split <;> split <;> omega
  have hqk:(q:Int)+k < 9223372036854775808:=by omega
  have hr0:(0:Int)≤r:=by omega
  have hq0:(0:Int)≤q:=by omega
  have HN:=Lib.hid hnear
  clear hnear hle hr hq63 hc63 hak hcp hna
  generalize (k:Int)=ki at *
  generalize (q:Int)=qi at *
  generalize (r:Int)=ri at *
  generalize (d:Int)=di at *
  generalize (na:Int)=nai at *
  have HK:=Lib.hid hki
  have HQ:=Lib.hid hqk
  clear hki hqk
  go_enter Tryz.func222,Tryz.ntmps222
  go_upto_region 10 with (first | (go_at_call 234;first | (with_reducible refine zae (k1.out _) ?_) | (with_reducible refine zae (k2.out _) ?_) | (with_reducible refine zae (k3.out _) ?_)) | (go_at_call 233;(with_reducible refine zae (k4.out _) ?_)) | (go_at_call 235;(with_reducible refine zae (k5.out _) ?_)))
  clear k1 k2 k3 k4 k5 hw
  generalize di - ri=t at *
  have HK2:=HK.out
  clear HK hd0 hd63 hrd
  by_cases ht:t < ri
  · rw [if_pos (by omega)] at HK2
    have h10:qi+1 < 9223372036854775808:=by have:=HQ.out;omega
    go_upto_region 16 with (fail)
    obtain ⟨m,hm⟩:∃ m,qi+1=m:=⟨_,rfl⟩
    rw [hm] at h10 ⊢
    have hout:out=m:=by rw [HN.out,HK2,hm]
    have m0:0 < m:=by omega
    clear HN HQ HK2 hw2 hq64 hm ht a1 c1 hc ha
    have e1:(m == 0)=false:=by simp;omega
    have e2:¬ (9223372036854775808 < m):=by omega
    have e3:(m == 9223372036854775808)=false:=by simp;omega
    go_upto_region 18 with (fail)
    go_upto_region 22 with (fail)
    clear a0 c0 hcz e1 e2 e3 hq0 hr0
    go_wp2
    all_goals go_ret2
    all_goals refine ⟨congrArg Ending.returned (congrArg Value.tuple (congrArg (fun z=>#[Value.int .i64 z, .int .i64 0]) ?_)),Below.refl _ _⟩
    all_goals omega
  by_cases hte:t=ri
  · rw [if_pos (by omega)] at HK2
    subst hte
    have h10:qi+1 < 9223372036854775808:=by have:=HQ.out;omega
    go_upto_region 16 with (fail)
    obtain ⟨m,hm⟩:∃ m,qi+1=m:=⟨_,rfl⟩
    rw [hm] at h10 ⊢
    have hout:out=m:=by rw [HN.out,HK2,hm]
    have m0:0 < m:=by omega
    clear HN HQ HK2 hw2 hq64 hm ht a1 c1 hc ha
    have e1:(m == 0)=false:=by simp;omega
    have e2:¬ (9223372036854775808 < m):=by omega
    have e3:(m == 9223372036854775808)=false:=by simp;omega
    go_upto_region 18 with (fail)
    go_upto_region 22 with (fail)
    clear a0 c0 hcz e1 e2 e3 hq0 hr0
    go_wp2
    all_goals go_ret2
    all_goals refine ⟨congrArg Ending.returned (congrArg Value.tuple (congrArg (fun z=>#[Value.int .i64 z, .int .i64 0]) ?_)),Below.refl _ _⟩
    all_goals omega
  · rw [if_neg (by omega)] at HK2
    have h10:qi < 9223372036854775808:=by have:=HQ.out;omega
    have hout:out=qi:=by rw [HN.out,HK2,Int.add_zero]
    have ht2:(ri == t)=false:=by simp;omega
    have e2:¬ (9223372036854775808 < qi):=by omega
    have e3:(qi == 9223372036854775808)=false:=by simp;omega
    clear HN HQ HK2 hw2 hq64 a1 c1 hc ha
    go_upto_region 18 with (fail)
    go_upto_region 22 with (fail)
    clear a0 c0 hcz e2 e3 hr0 ht ht2 hte
    go_wp2
    all_goals go_ret2
    all_goals refine ⟨congrArg Ending.returned (congrArg Value.tuple (congrArg (fun z=>#[Value.int .i64 z, .int .i64 0]) ?_)),Below.refl _ _⟩
    all_goals omega
theorem zkT (a c:Int) (a1:-9223372036854775807≤a) (a2:a≤9223372036854775807) (c0:0 < c) (c1:i64 c) (w:World):Calls Tryz.prog 209 #[.int .i64 a, .int .i64 c] w (Ret w (.tuple #[.int .i64 (zcC a c), .int .i64 0])):=by
  have k:=Lib.hid (show ∀ w,Calls Tryz.prog 222 #[.int .i64 a, .int .i64 1, .int .i64 c, .int .i64 2] w (Ret w (.tuple #[.int .i64 (zcC a c), .int .i64 0])) from fun w=>by
    by_cases h:a < 0
    · exact zuT a c h a1 c0 c1 w
    · exact zuS a c (by omega) a2 c0 c1 w)
  generalize zcC a c=out at *
  go_enter Tryz.func209,Tryz.ntmps209
  go_wp2_with (go_at_call 222;(with_reducible refine zaj (k.out _) ?_);intro _ _ _ _ _)
  go_ret2
  exact ⟨rfl,by assumption⟩
end Go.Proofs.YtgoeedohgomodaaGreatDoor
namespace Go.Proofs.YtgoeedohgomodaaGreatDoor
open Go.RowKit Go.Sort
set_option maxRecDepth 100000
attribute [local go_sem ↓] ziC
attribute [local go_sem] zir ziq
set_option maxHeartbeats 4000000 in
theorem znl (a b c d:Int) (w:World):Calls Tryz.prog 179 #[.agg (Pos.arr ⟨a,b⟩), .agg (Pos.arr ⟨c,d⟩)] w (Ret w (.tuple #[.agg (ptP (zdL a b c d).1).arr, .int .i64 (zdL a b c d).2])):=by
  have k1:=Lib.hid (zoH a b)
  have k2:=Lib.hid (zgk c d)
  have HT:=Lib.hid (show zdL a b c d=if zc4 a b && zih c d then zxg (zd8 a b c d) else ((0,0),1) from rfl)
  have HL:=Lib.hid (show zc4 a b=true→zih c d=true→∀ w,Calls Tryz.prog 208 #[.agg (Pos.arr ⟨a,b⟩), .agg (Pos.arr ⟨c,d⟩)] w (Ret w (.tuple #[.agg (zeI a b c d).arr, .int .i64 0])) from fun h1 h2 w=>
    zqS a b c d (by unfold zc4 at h1;simp only [Bool.and_eq_true] at h1;exact h1.1) h2 w)
  have HV:zeI a b c d=V3.vec (zd8 a b c d):=rfl
  rw [HV] at HL
  clear HV
  have hin:=Lib.hid (znS a b c d)
  generalize zdL a b c d=out at *
  generalize zc4 a b=ob at *
  generalize zih c d=pb at *
  generalize zd8 a b c d=v at *
  go_enter Tryz.func179,Tryz.ntmps179
  go_upto_region 1 with (fail)
  generalize hW:((w.alloc _).alloc _).alloc _=W
  have X0:Blk W w.heap.size (Pos.arr ⟨a,b⟩):=by rw [← hW];exact ((Blk.new w _ _).alloc _).alloc _
  have Y0:Blk W (w.heap.size+1) (Pos.arr ⟨c,d⟩):=by rw [← hW,← World.size_alloc w (.cells (Pos.arr ⟨a,b⟩) 30)];exact (Blk.new _ _ _).alloc _
  have R0:Blk W (w.heap.size+1+1) (Pt.arr ⟨0,0⟩):=by rw [← hW,← World.size_alloc w (.cells (Pos.arr ⟨a,b⟩) 30),← World.size_alloc (w.alloc (.cells (Pos.arr ⟨a,b⟩) 30)) (.cells (Pos.arr ⟨c,d⟩) 30)];exact Blk.new _ _ _
  have B0:Below w.heap.size w W:=by rw [← hW];go_grown
  clear hW
  obtain ⟨g1,hg1⟩:∃ g,g=w.heap.size+1:=⟨_,rfl⟩
  obtain ⟨g2,hg2⟩:∃ g,g=w.heap.size+1+1:=⟨_,rfl⟩
  obtain ⟨g0,hg0⟩:∃ g,g=w.heap.size:=⟨_,rfl⟩
  rw [← hg2] at R0 ⊢
  rw [← hg1] at Y0 ⊢
  rw [← hg0] at X0 ⊢
  have hgle:w.heap.size≤g2:=by omega
  clear hg0 hg1 hg2
  have HX:=Lib.hid (fun W' (h:Below W.heap.size W W')=>X0.step h)
  have HY:=Lib.hid (fun W' (h:Below W.heap.size W W')=>Y0.step h)
  have HR:=Lib.hid (fun W' (h:Below W.heap.size W W')=>R0.step h)
  have i1:za3 W g0 0:=⟨_,X0.is_pos⟩
  have i2:zbm W g0 0=⟨a,b⟩:=zaH X0.is_pos
  have BB:=Lib.hid (fun W' (h:Below W.heap.size W W')=>zaa B0 h)
  clear X0 Y0 R0 B0
  cases ob with
  | false=>
    have HO:=Lib.hid (show out=((0,0),1) by rw [HT.out];rfl)
    go_upto_region 2 with (go_at_call 206;(with_reducible refine zaj (k1.out _) ?_);intro w1 b1 _ _ _)
    have R1:=HR.out w1 b1
    have d2:=R1.plain
    have d3:=R1.of
    go_wp2
    exact bodyPost_ret (zal Tryz.results179 _ _ g2 (Pt.arr ⟨0,0⟩) 2 _ rfl rfl (R1.set _).cell Tryz.underlying66 rfl zcx) rfl ⟨by rw [HO.out];rfl,zab (BB.out _ b1) hgle _⟩
  | true=>
    cases pb with
    | false=>
      have HO:=Lib.hid (show out=((0,0),1) by rw [HT.out];rfl)
      go_upto_region 2 with (first
        | (go_at_call 206;(with_reducible refine zaj (k1.out _) ?_);intro w1 b1 _ _ _
           have i3:za3 w1 g1 0:=⟨_,(HY.out w1 b1).is_pos⟩
           have i4:zbm w1 g1 0=⟨c,d⟩:=zaH (HY.out w1 b1).is_pos)
        | (go_at_call 207;(with_reducible refine zaj (k2.out _) ?_);intro w2 b2 _ _ _
           have b12:=zaa b1 b2
           have R1:=HR.out w2 b12
           have d2:=R1.plain
           have d3:=R1.of))
      go_wp2
      exact bodyPost_ret (zal Tryz.results179 _ _ g2 (Pt.arr ⟨0,0⟩) 2 _ rfl rfl (R1.set _).cell Tryz.underlying66 rfl zcx) rfl ⟨by rw [HO.out];rfl,zab (BB.out _ b12) hgle _⟩
    | true=>
      have k3:=Lib.hid (HL.out rfl rfl)
      have HO:=Lib.hid (show out=zxg v by rw [HT.out];rfl)
      clear HT HL
      go_upto_region 3 with (first
        | (go_at_call 206;(with_reducible refine zaj (k1.out _) ?_);intro w1 b1 _ _ _
           have i3:za3 w1 g1 0:=⟨_,(HY.out w1 b1).is_pos⟩
           have i4:zbm w1 g1 0=⟨c,d⟩:=zaH (HY.out w1 b1).is_pos)
        | (go_at_call 207;(with_reducible refine zaj (k2.out _) ?_);intro w2 b2 _ _ _))
      have b12:=zaa b1 b2
      have X2:=HX.out _ b12
      have Y2:=HY.out _ b12
      have R2:=HR.out _ b12
      have B2:=BB.out _ b12
      clear i1 i2 i3 i4 HX HY HR BB b1 b2 b12 k1 k2
      have i1:za3 w2 g0 0:=⟨_,X2.is_pos⟩
      have i2:zbm w2 g0 0=⟨a,b⟩:=zaH X2.is_pos
      have i3:za3 w2 g1 0:=⟨_,Y2.is_pos⟩
      have i4:zbm w2 g1 0=⟨c,d⟩:=zaH Y2.is_pos
      go_upto_region 4 with ((go_at_call 208;(with_reducible refine zaj (k3.out _) ?_);intro w3 b3 _ _ _))
      have B3:=zaa B2 b3
      have R3:=R2.step b3
      clear i1 i2 i3 i4 X2 Y2 R2 B2 b3 k3
      obtain ⟨x,y,z⟩:=v
      have hv:V3.vec (x,y,z)=⟨x,y,z⟩:=rfl
      rw [hv]
      have hin':=hin.out
      have bx:-3221225472≤x∧x≤3221225472:=hin'.1
      have by':-3221225472≤y∧y≤3221225472:=hin'.2.1
      have nx:=zeG (v:=x) hin'.1
      have ny:=zeG (v:=y) hin'.2.1
      have nz:i64 z:=(zeG (v:=z) hin'.2.2).1
      have X4:=Blk.new w3 (Vec.arr ⟨x,y,z⟩) 234
      have B4:=zaa B3 (zad w3 (.cells (Vec.arr ⟨x,y,z⟩) 234))
      have R4:=R3.alloc (.cells (Vec.arr ⟨x,y,z⟩) 234)
      generalize w3.alloc _=W4 at X4 B4 R4 ⊢
      generalize w3.heap.size=g4 at X4 ⊢
      clear R3 B3 hin' hin hv
      have k0:W4.cell? ⟨g4,0,none⟩=some (.int .i64 x):=X4.cell 0
      have k1:W4.cell? ⟨g4,1,none⟩=some (.int .i64 y):=X4.cell 1
      have k2:W4.cell? ⟨g4,2,none⟩=some (.int .i64 z):=X4.cell 2
      by_cases hz:z≤0
      · have HO2:=Lib.hid (show out=((0,0),2) by rw [HO.out];exact if_pos hz)
        have d2:=R4.plain
        have d3:=R4.of
        clear HO nx ny
        go_wp2
        exact bodyPost_ret (zal Tryz.results179 _ _ g2 (Pt.arr ⟨0,0⟩) 2 _ rfl rfl (R4.set _).cell Tryz.underlying66 rfl zcx) rfl ⟨by rw [HO2.out];rfl,zab B4 hgle _⟩
      · have HO2:=Lib.hid (show out=if zdT (zcC (20626481 * x) z) (zcC (20626481 * y) z) then ((zcC (20626481 * x) z,zcC (20626481 * y) z),0) else ((0,0),2) by rw [HO.out];exact if_neg hz)
        have m1:=Lib.hid (zkT (20626481 * x) z (by omega) (by omega) (by omega) nz)
        have m2:=Lib.hid (zkT (20626481 * y) z (by omega) (by omega) (by omega) nz)
        have HV:=Lib.hid (znk (zcC (20626481 * x) z) (zcC (20626481 * y) z))
        clear HO nx ny nz
        generalize zcC (20626481 * x) z=px at *
        generalize zcC (20626481 * y) z=py at *
        generalize zdT px py=pv at *
        go_upto_region 7 with (go_at_call 209;(with_reducible refine zaj (m1.out _) ?_);intro w5 b5 _ _ _)
        have k1:w5.cell? ⟨g4,1,none⟩=some (.int .i64 y):=(X4.step b5).cell 1
        have k2:w5.cell? ⟨g4,2,none⟩=some (.int .i64 z):=(X4.step b5).cell 2
        clear k0
        go_upto_region 8 with (go_at_call 209;(with_reducible refine zaj (m2.out _) ?_);intro w6 b6 _ _ _)
        have R6:=(R4.step b5).step b6
        have B6:=zaa (zaa B4 b5) b6
        clear k1 k2 X4 b5 b6 R4 B4 m1 m2
        go_upto_region 9 with (fail)
        have X7:=Blk.new w6 (Pt.arr ⟨px,py⟩) 66
        have B7:=zaa B6 (zad w6 (.cells (Pt.arr ⟨px,py⟩) 66))
        have R7:=R6.alloc (.cells (Pt.arr ⟨px,py⟩) 66)
        generalize w6.alloc _=W7 at X7 B7 R7 ⊢
        generalize w6.heap.size=g7 at X7 ⊢
        clear R6 B6
        have i1:zbw W7 g7 0:=⟨_,X7.is_pt⟩
        have i2:zcr W7 g7 0=⟨px,py⟩:=zaZ X7.is_pt
        cases pv with
        | false=>
          have HO3:=Lib.hid (show out=((0,0),2) from HO2.out)
          clear HO2
          go_upto_region 10 with (go_at_call 141;(with_reducible refine zaj (HV.out _) ?_);intro w8 b8 _ _ _)
          have X8:=X7.step b8
          have R8:=R7.step b8
          have B8:=zaa B7 b8
          clear i1 i2 X7 R7 B7 b8
          have i1:zbw w8 g7 0:=⟨_,X8.is_pt⟩
          have i2:zcr w8 g7 0=⟨px,py⟩:=zaZ X8.is_pt
          have d2:=R8.plain
          have d3:=R8.of
          go_wp2
          exact bodyPost_ret (zal Tryz.results179 _ _ g2 (Pt.arr ⟨0,0⟩) 2 _ rfl rfl (R8.set _).cell Tryz.underlying66 rfl zcx) rfl ⟨by rw [HO3.out];rfl,zab B8 hgle _⟩
        | true=>
          have HO3:=Lib.hid (show out=((px,py),0) from HO2.out)
          clear HO2
          go_upto_region 11 with (go_at_call 141;(with_reducible refine zaj (HV.out _) ?_);intro w8 b8 _ _ _)
          have X8:=X7.step b8
          have R8:=R7.step b8
          have B8:=zaa B7 b8
          clear i1 i2 X7 R7 B7 b8
          have i1:zbw w8 g7 0:=⟨_,X8.is_pt⟩
          have i2:zcr w8 g7 0=⟨px,py⟩:=zaZ X8.is_pt
          have d2:=R8.plain
          have d3:=R8.of
          go_wp2
          exact bodyPost_ret (zal Tryz.results179 _ _ g2 (Pt.arr ⟨px,py⟩) 2 _ rfl rfl (R8.set _).cell Tryz.underlying66 rfl zcx) rfl ⟨by rw [HO3.out];rfl,zab B8 hgle _⟩
end Go.Proofs.YtgoeedohgomodaaGreatDoor
namespace Go.Proofs.YtgoeedohgomodaaGreatDoor
open Go.RowKit Go.Sort
set_option maxRecDepth 100000
attribute [local go_sem ↓] zdI ziC
attribute [local go_sem] zd3 zir ziq
theorem zjd (d:DBs) (l:List FixV) (r:List UInt8) (w:World) (hD:DbAt w d l):
    Calls Tryz.prog 39 #[.agg d.cells, .string ⟨r.toArray⟩] w (Ret w (.tuple #[.agg (zkD l r).1.arr, .int .i64 (zkD l r).2])):=by
  have HF:=Lib.hid (zhh l r)
  have hcall:=Lib.hid (fun w' (h:Below w.heap.size w w')=>znr l r d.fa d.fc w' (hD.below h).items hD.cap hD.len hD.small)
  rw [← hD.fn] at hcall
  have c6:=hD.ok.c6
  generalize zkD l r=out at HF ⊢
  generalize zc7 l r=o at hcall HF
  generalize d.fa=A at *
  generalize d.fn=n at *
  generalize d.fc=c at *
  generalize d.cells=cs at c6 ⊢
  clear hD
  go_enter Tryz.func39,Tryz.ntmps39
  go_upto_region 1 with (fail)
  rw [← zg9]
  have X0:Blk (w.alloc (.cells cs 37)) w.heap.size cs:=Blk.new w _ _
  have B0:=zad w (.cells cs 37)
  have hsz:(w.alloc (.cells cs 37)).heap.size=w.heap.size+1:=World.size_alloc _ _
  generalize w.alloc _=W0 at X0 B0 hsz ⊢
  rw [← hsz]
  have Y1:Blk (W0.alloc (.cells noFix.arr 84)) W0.heap.size noFix.arr:=Blk.new W0 _ _
  have B1:=zaa B0 (zad W0 (.cells noFix.arr 84))
  have X1:=X0.alloc (.cells noFix.arr 84)
  have hgle:w.heap.size≤W0.heap.size:=B0.size
  generalize W0.alloc _=W at Y1 B1 X1 ⊢
  generalize W0.heap.size=g1 at Y1 hgle ⊢
  generalize w.heap.size=g0 at X1 ⊢
  have k6:W.cell? ⟨g0,6,none⟩=some (.slice A n c):=(X1.cell 6).trans c6
  have hcall:=Lib.hid (hcall.out W B1)
  clear X0 B0 hsz c6
  go_upto_region 2 with (go_at_call 68;(with_reducible refine zaj hcall.out ?_);intro w2 b2 _ _ _)
  have Y2:=(Y1.step b2).alloc (.cells (o.getD noFix).arr 84)
  have Z2:=Blk.new w2 (o.getD noFix).arr 84
  have B2:=zaa (zaa B1 b2) (zad w2 (.cells (o.getD noFix).arr 84))
  generalize w2.alloc _=W2 at Y2 Z2 B2 ⊢
  generalize w2.heap.size=g2 at Z2 ⊢
  clear hcall k6 X1 Y1 B1 b2
  have HO:=Lib.hid (show out=(o.getD noFix,if o.isSome then 0 else 6) from HF.out)
  generalize o.getD noFix=f at *
  generalize o.isSome=bo at *
  have DR:Below W2.heap.size W2 W2.drew:=(Below.refl _ _).drew
  have Z3:Blk W2.drew g2 f.arr:=Z2.step DR
  have Y3:=Y2.step DR
  have B3:=zaa B2 DR
  have i1:za1 W2.drew g2 0:=⟨_,Z3.is_fixv⟩
  have i2:zbe W2.drew g2 0=f:=za0 Z3.is_fixv
  have d2:=Y3.plain
  have d3:=Y3.of
  clear Y2 Z2 B2 DR
  clear HF
  have kn:=Lib.hid (zu8 bo)
  generalize (if bo=true then (0:Int) else 6)=e at *
  go_region_with (go_at_call 69;(with_reducible refine zae (kn.out _) ?_))
  all_goals go_wp2
  all_goals exact bodyPost_ret (zal Tryz.results39 _ _ g1 f.arr 7 _ rfl rfl (Y3.set _).cell Tryz.underlying84 rfl zcV) rfl ⟨by rw [HO.out];rfl,zab B3 hgle _⟩
set_option maxHeartbeats 2000000 in
theorem zgW (d:DBs) (l:List FixV) (r:List UInt8) (w:World) (hD:DbAt w d l):
    Calls Tryz.prog 135 #[.agg d.cells, .string ⟨r.toArray⟩] w (Ret w (.tuple #[.agg (ptP (zcK d.lat d.lon l r).1).arr, .int .i64 (zcK d.lat d.lon l r).2])):=by
  have HF:=Lib.hid (zji d.lat d.lon l r)
  have hcall:=Lib.hid (fun w' (h:Below w.heap.size w w')=>zjd d l r w' (hD.below h))
  have HP:=Lib.hid (znl d.lat d.lon (zkD l r).1.lat (zkD l r).1.lon)
  have HP4:=Lib.hid (fun W g (h:Blk W g d.cells)=>h.pos4 hD.ok)
  have hsz9:=hD.ok.size
  generalize zkD l r=fe at *
  generalize zcK d.lat d.lon l r=out at HF ⊢
  generalize hto:zdL d.lat d.lon fe.1.lat fe.1.lon=pt at *
  obtain ⟨f,e⟩:=fe
  generalize d.cells=cs at *
  generalize d.lat=la at *
  generalize d.lon=lo at *
  clear hD hto
  go_enter Tryz.func135,Tryz.ntmps135
  go_upto_region 1 with (fail)
  have X0:Blk (w.alloc (.cells cs 37)) w.heap.size cs:=Blk.new w _ _
  have B0:=zad w (.cells cs 37)
  have hsz:(w.alloc (.cells cs 37)).heap.size=w.heap.size+1:=World.size_alloc _ _
  generalize w.alloc _=W0 at X0 B0 hsz ⊢
  rw [← hsz]
  have Y1:Blk (W0.alloc (.cells (Pt.arr ⟨0,0⟩) 66)) W0.heap.size (Pt.arr ⟨0,0⟩):=Blk.new W0 _ _
  have B1:=zaa B0 (zad W0 (.cells (Pt.arr ⟨0,0⟩) 66))
  have X1:=X0.alloc (.cells (Pt.arr ⟨0,0⟩) 66)
  have hgle:w.heap.size≤W0.heap.size:=B0.size
  generalize hW:W0.alloc _=W
  have hE:W0.alloc (.cells (Pt.arr ⟨0,0⟩) 66)=W:=hW
  rw [hE] at Y1 B1 X1
  clear hW hE
  generalize W0.heap.size=g1 at Y1 hgle ⊢
  generalize w.heap.size=g0 at X1 ⊢
  have i1:za7 W g0 0:=⟨_,X1.is_db hsz9⟩
  have i2:zbQ W g0 0=cs:=zaL (X1.is_db hsz9)
  have hcall:=Lib.hid (hcall.out W B1)
  clear X0 B0 hsz
  go_upto_region 2 with (go_at_call 39;(with_reducible refine zaj hcall.out ?_);intro w2 b2 _ _ _)
  have Y2:=(Y1.step b2).alloc (.cells f.arr 84)
  have X2:=(X1.step b2).alloc (.cells f.arr 84)
  have Z2:=Blk.new w2 f.arr 84
  have B2:=zaa (zaa B1 b2) (zad w2 (.cells f.arr 84))
  generalize hW:w2.alloc _=W2
  have hE:w2.alloc (.cells f.arr 84)=W2:=hW
  rw [hE] at Y2 X2 Z2 B2
  clear hW hE
  generalize w2.heap.size=g2 at Z2 ⊢
  have d2:=Y2.plain
  have d3:=Y2.of
  clear hcall i1 i2 X1 Y1 B1 b2
  by_cases he:e=0
  · have HO:=Lib.hid (show out=pt by rw [HF.out];exact if_pos he)
    have j1:za3 W2 g0 4:=⟨_,HP4.out _ _ X2⟩
    have j2:zbm W2 g0 4=⟨la,lo⟩:=zaH (HP4.out _ _ X2)
    have j3:za3 W2 g2 3:=⟨_,f.pos Z2.is_fixv⟩
    have j4:zbm W2 g2 3=⟨f.lat,f.lon⟩:=zaH (f.pos Z2.is_fixv)
    clear HF
    have HY:=Lib.hid (fun W' (h:Below W2.heap.size W2 W')=>Y2.step h)
    have HB:=Lib.hid (fun W' (h:Below W2.heap.size W2 W')=>zaa B2 h)
    clear d2 d3 Y2 B2
    go_wp2_with (go_at_call 179;(with_reducible refine zaj (HP.out _) ?_);intro w3 b3 _ _ _;have d2:=(HY.out _ b3).plain;have d3:=(HY.out _ b3).of)
    exact bodyPost_ret (zal Tryz.results135 _ _ g1 (ptP pt.1).arr 2 _ rfl rfl ((HY.out _ b3).set _).cell Tryz.underlying66 rfl zcx) rfl ⟨by rw [HO.out];rfl,zab (HB.out _ b3) hgle _⟩
  · have HO:=Lib.hid (show out=((0,0),e) by rw [HF.out];exact if_neg he)
    clear HF
    go_wp2
    exact bodyPost_ret (zal Tryz.results135 _ _ g1 (Pt.arr ⟨0,0⟩) 2 _ rfl rfl (Y2.set _).cell Tryz.underlying66 rfl zcx) rfl ⟨by rw [HO.out];rfl,zab B2 hgle _⟩
end Go.Proofs.YtgoeedohgomodaaGreatDoor
namespace Go.Proofs.YtgoeedohgomodaaGreatDoor
open Go.RowKit Go.Sort
set_option maxRecDepth 100000
attribute [local go_sem ↓] zlu
attribute [local go_sem] znj ziT ziS
set_option maxHeartbeats 8000000 in
theorem zsB (d:DBs) (l:List FixV) (legs:List Leg) (A:Option Addr) (c:Nat) (sec:Int) (via:List UInt8) (w:World) (hL:Laid w) (hD:DbAt w d l)
    (hI:Items w A 13 (legs.map Leg.arr)) (hlc:legs.length≤c) (hn:legs.length≤1000000) (hs:∀ x ∈ legs,x.small) (hv:via.length≤4000000000):
    Calls Tryz.prog 170 #[.agg d.cells, .slice A legs.length c, .int .u8 sec, .string ⟨via.toArray⟩] w (RetBd w (zbL (zcK d.lat d.lon l) legs sec via)):=by
  have hcall:=Lib.hid (fun r w' (h:Below w.heap.size w w')=>zgW d l r w' (hD.below h))
  generalize zcK d.lat d.lon l=pt at hcall ⊢
  have hsz9:=hD.ok.size
  generalize d.cells=cs at *
  clear hD
  have ks:=Lib.hid (zhR sec)
  have kv:=Lib.hid (fun w' (h:Below w.heap.size w w')=>zpG via w' hv)
  have HL:=Lib.hid (fun w' (h:Below w.heap.size w w')=>hL.below h)
  clear hL
  go_enter Tryz.func170,Tryz.ntmps170
  go_upto_region 1 with (fail)
  have X0:Blk (w.alloc (.cells cs 37)) w.heap.size cs:=Blk.new w _ _
  have B0:=zad w (.cells cs 37)
  generalize w.alloc _=W at X0 B0 ⊢
  obtain ⟨g0,hg0⟩:∃ g,g=w.heap.size:=⟨_,rfl⟩
  rw [← hg0] at X0 ⊢
  clear hg0
  cases hsb:zdS sec with
  | false=>
    have HO:=Lib.hid (show zbL pt legs sec via=([],17) by unfold zbL;rw [hsb];rfl)
    rw [hsb] at ks
    go_wp2_with (go_at_call 139;(with_reducible refine zae (ks.out _) ?_))
    go_ret2
    rw [HO.out]
    exact RetBd.err _ _ _ B0
  | true=>
    rw [hsb] at ks
    have hq:=Lib.hid (kv.out W B0)
    cases hvb:zuw via with
    | false=>
      have HO:=Lib.hid (show zbL pt legs sec via=([],5) by unfold zbL;rw [hsb,hvb];rfl)
      rw [hvb] at hq
      go_wp2_with (first | (go_at_call 139;(with_reducible refine zae (ks.out _) ?_)) | (go_at_call 140;(with_reducible refine zae hq.out ?_)))
      go_ret2
      rw [HO.out]
      exact RetBd.err _ _ _ B0
    | true=>
      have HS:=Lib.hid (zls pt legs sec via hsb hvb)
      rw [hvb] at hq
      go_upto_region 6 with (first | (go_at_call 139;(with_reducible refine zae (ks.out _) ?_)) | (go_at_call 140;(with_reducible refine zae hq.out ?_)))
      have X1:=X0
      have B1:=B0
      clear X0 B0 hq
      obtain ⟨W1,hW1⟩:∃ W1,W1=W:=⟨_,rfl⟩
      rw [← hW1] at X1 B1 ⊢
      clear hW1
      have I1:Items W1 A 13 (legs.map Leg.arr):=hI.below B1
      have HC:=Lib.hid (fun r w' (h:Below W1.heap.size W1 w')=>hcall.out r w' (zaa B1 h))
      have HLw:=Lib.hid (fun w' (h:Below W1.heap.size W1 w')=>HL.out w' (zaa B1 h))
      have HX:=Lib.hid (fun w' (h:Below W1.heap.size W1 w')=>X1.step h)
      clear kv ks hsb hvb hcall HL hI
      have BH:=Lib.hid B1
      clear B1 X1
      go_wp2
      go_loopw [10,27] (fun o i wr=>∃ (k:Nat) (es:List Entry),k≤legs.length∧i=.int .i64 k∧es=(legs.take k).map (zgA pt sec via)∧es.length=k∧zbB pt legs=zbB pt (legs.drop k)∧Out W1 wr o es∧Below W1.heap.size W1 wr) (fun _ i _=>legs.length - (intOf i).toNat)
      case atStart=>exact ⟨0,[],by omega,rfl,rfl,rfl,rfl,Out.nil _ _,Below.refl _ _⟩
      case round=>
        obtain ⟨k,es,hk,rfl,hes,hel,hgo,O,BW⟩:=hrel
        have HES:=Lib.hid hes
        have HEL:=Lib.hid hel
        have HGO:=Lib.hid hgo
        clear hes hel hgo
        by_cases hlt:k < legs.length
        · obtain ⟨b,off,hA,hb,hcl⟩:=I1.get (k:=k) (by simpa using hlt)
          clear hcl hb
          subst hA
          have hx:=ztb I1 BW hlt
          have hsm:=hs _ (List.getElem_mem hlt)
          have HT:=Lib.hid (show (legs.take (k+1)).map (zgA pt sec via)=es ++ [zgA pt sec via legs[k]] by rw [HES.out,List.take_succ_eq_append_getElem hlt,List.map_append];rfl)
          have HG:=Lib.hid (show zbB pt legs=orE (orE (zaN legs[k]) (orE (zhU pt legs[k].fix).2 (zhU pt legs[k].center).2)) (zbB pt (legs.drop (k+1))) by rw [HGO.out,List.drop_eq_getElem_cons hlt];rfl)
          clear HES HGO
          generalize legs[k]=x at hx hsm HT HG
          obtain ⟨rest,hrest⟩:∃ rest,zbB pt (legs.drop (k+1))=rest:=⟨_,rfl⟩
          rw [hrest] at HG
          have HRS:=Lib.hid hrest
          clear hrest
          have hkc:k < c:=by omega
          have i1:zaJ wr b (off+k * 13):=⟨_,hx⟩
          have i2:za6 wr b (off+k * 13)=x:=zaz hx
          have HO:=Lib.hid (fun w' (h:Below wr.heap.size wr w')=>O.below h)
          have HB:=Lib.hid (fun w' (h:Below wr.heap.size wr w')=>BW.trans (h.mono BW.size))
          clear O hx
          go_upto_region 9 with (fail)
          clear i1 i2
          have P0:Blk (wr.alloc (.cells x.arr 64)) wr.heap.size x.arr:=Blk.new _ _ _
          have D0:=zad wr (.cells x.arr 64)
          generalize wr.alloc _=W2 at P0 D0 ⊢
          obtain ⟨g1,hg1⟩:∃ g,g=wr.heap.size:=⟨_,rfl⟩
          rw [← hg1] at P0 ⊢
          clear hg1
          have hck:=Lib.hid (zhq x W2 hsm)
          have HXE:=Lib.hid (show zgA pt sec via x=⟨false,x,(zhU pt x.fix).1.1,(zhU pt x.fix).1.2,(zhU pt x.center).1.1,(zhU pt x.center).1.2,sec,via⟩ from rfl)
          generalize zaN x=ck at hck HG
          have i1:zaJ W2 g1 0:=⟨_,P0.is_leg⟩
          have i2:za6 W2 g1 0=x:=zaz P0.is_leg
          by_cases hc0:ck=0
          · subst hc0
            go_upto_region 12 with (go_at_call 138;(with_reducible refine zaj hck.out ?_);intro w3 b3 _ _ _)
            have P3:=P0.step b3
            have D3:=zaa D0 b3
            clear i1 i2 P0 D0 b3 hck
            have i1:zaJ w3 g1 0:=⟨_,P3.is_leg⟩
            have i2:za6 w3 g1 0=x:=zaz P3.is_leg
            go_upto_region 13 with (fail)
            clear i1 i2
            have P4:=P3.alloc (.cells (⟨false,x,0,0,0,0,sec,via⟩:Entry).arr 69)
            have E4:=Blk.new w3 (⟨false,x,0,0,0,0,sec,via⟩:Entry).arr 69
            have D4:=zaa D3 (zad w3 (.cells (⟨false,x,0,0,0,0,sec,via⟩:Entry).arr 69))
            generalize hW:w3.alloc _=W4
            have hE:w3.alloc (.cells (⟨false,x,0,0,0,0,sec,via⟩:Entry).arr 69)=W4:=hW
            rw [hE] at P4 E4 D4
            clear hW hE
            obtain ⟨g2,hg2⟩:∃ g,g=w3.heap.size:=⟨_,rfl⟩
            rw [← hg2] at E4 ⊢
            have hne:wr.heap.size≤g2:=by rw [hg2];exact D3.size
            clear hg2 P3 D3
            obtain ⟨F,hF⟩:∃ F,x.fix=F:=⟨_,rfl⟩
            have k1:W4.cell? ⟨g1,1,none⟩=some (.string ⟨F.toArray⟩):=by rw [← hF];exact P4.cell 1
            rw [hF] at HXE HG
            obtain ⟨⟨⟨fx,fy⟩,fe⟩,hfp⟩:∃ fp,zhU pt F=fp:=⟨_,rfl⟩
            rw [hfp] at HXE HG
            clear hF
            go_upto_if 42 with (fail)
            go_cut [15,16,27] from 27 to 74 (fun _ _ i wx=>i=.int .i64 k∧fe=0∧Blk wx g1 x.arr∧Blk wx g2 (⟨false,x,fx,fy,0,0,sec,via⟩:Entry).arr∧Below wr.heap.size wr wx)
            case first=>
              by_cases hf0:F=[]
              · have e:((fx,fy),fe)=((0,0),0):=by rw [← hfp,hf0];rfl
                simp only [Prod.mk.injEq] at e
                obtain ⟨⟨rfl,rfl⟩,rfl⟩:=e
                subst hf0
                clear hfp HG HXE
                go_wp2
                go_meet
                exact ⟨by trivial,by trivial,P4,E4,D4⟩
              · have e:pt F=((fx,fy),fe):=by rw [← hfp];unfold zhU;rw [if_neg (by simpa using hf0)]
                have hfb:F.isEmpty=false:=by simpa using hf0
                clear hf0
                have hcall:=Lib.hid (show Calls Tryz.prog 135 #[.agg cs, .string ⟨F.toArray⟩] W4 (Ret W4 (.tuple #[.agg (Pt.arr ⟨fx,fy⟩), .int .i64 fe])) from by have:=HC.out F W4 (HB.out _ D4);rw [e] at this;exact this)
                have i1:za7 W4 g0 0:=⟨_,(HX.out _ (HB.out _ D4)).is_db hsz9⟩
                have i2:zbQ W4 g0 0=cs:=zaL ((HX.out _ (HB.out _ D4)).is_db hsz9)
                have HP:=Lib.hid (fun w' (h:Below W4.heap.size W4 w')=>P4.step h)
                have HE:=Lib.hid (fun w' (h:Below W4.heap.size W4 w')=>E4.step h)
                have HD:=Lib.hid (fun w' (h:Below W4.heap.size W4 w')=>zaa D4 h)
                have hne2:g1 ≠ g2:=by intro h;subst h;have h1:=P4.of;have h2:=E4.of;rw [h1] at h2;have:=congrArg Array.size h2;simp [Leg.arr,Entry.arr] at this
                clear P4 E4 D4 hfp e
                by_cases he:fe=0
                · subst he
                  go_wp2_with (go_at_call 135;(with_reducible refine zaj hcall.out ?_);intro w5 b5 _ _ _;have d2:=((HE.out _ b5).alloc (.cells (Pt.arr ⟨fx,fy⟩) 66)).plain;have d3:=((HE.out _ b5).alloc (.cells (Pt.arr ⟨fx,fy⟩) 66)).of)
                  all_goals try (exfalso;have hq:(!F.isEmpty)=false:=(by assumption);rw [hfb] at hq;exact absurd hq (by decide))
                  go_meet
                  exact ⟨by trivial,by trivial,((HP.out _ b5).alloc _).far hne2 _,((HE.out _ b5).alloc _).set _,zab ((HD.out _ b5).alloc (HD.out _ b5).size _) hne _⟩
                · have HR:=Lib.hid (show zbL pt legs sec via=([],fe) by
                    have h1:zbB pt legs=fe:=by rw [HG.out];simp [orE,he]
                    rw [HS.out,h1,if_neg he])
                  clear HS HG HXE
                  go_wp2_with (go_at_call 135;(with_reducible refine zaj hcall.out ?_);intro w5 b5 _ _ _;have d2:=((HE.out _ b5).alloc (.cells (Pt.arr ⟨fx,fy⟩) 66)).plain;have d3:=((HE.out _ b5).alloc (.cells (Pt.arr ⟨fx,fy⟩) 66)).of)
                  all_goals try (exfalso;have hq:(!F.isEmpty)=false:=(by assumption);rw [hfb] at hq;exact absurd hq (by decide))
                  go_ret2
                  rw [HR.out]
                  exact RetBd.err _ _ _ (zaa BH.out (HB.out _ ((HD.out _ b5).alloc (HD.out _ b5).size _)))
            case rest=>
              obtain ⟨rfl,rfl,P5,E5,D5⟩:=hcut
              clear P4 E4 D4 k1 hfp
              obtain ⟨F,hF⟩:∃ F,x.center=F:=⟨_,rfl⟩
              have k1:wc.cell? ⟨g1,2,none⟩=some (.string ⟨F.toArray⟩):=by rw [← hF];exact P5.cell 2
              rw [hF] at HXE HG
              obtain ⟨⟨⟨mx,my⟩,me⟩,hfp⟩:∃ fp,zhU pt F=fp:=⟨_,rfl⟩
              rw [hfp] at HXE HG
              clear hF
              go_upto_if 57 with (fail)
              go_cut [17,18,27] from 27 to 74 (fun _ _ i wx=>i=.int .i64 k∧me=0∧Blk wx g1 x.arr∧Blk wx g2 (⟨false,x,fx,fy,mx,my,sec,via⟩:Entry).arr∧Below wr.heap.size wr wx)
              case first=>
                by_cases hf0:F=[]
                · have e:((mx,my),me)=((0,0),0):=by rw [← hfp,hf0];rfl
                  simp only [Prod.mk.injEq] at e
                  obtain ⟨⟨rfl,rfl⟩,rfl⟩:=e
                  subst hf0
                  clear hfp HG HXE
                  go_wp2
                  go_meet
                  exact ⟨by trivial,by trivial,P5,E5,D5⟩
                · have e:pt F=((mx,my),me):=by rw [← hfp];unfold zhU;rw [if_neg (by simpa using hf0)]
                  have hfb:F.isEmpty=false:=by simpa using hf0
                  clear hf0
                  have hcall:=Lib.hid (show Calls Tryz.prog 135 #[.agg cs, .string ⟨F.toArray⟩] wc (Ret wc (.tuple #[.agg (Pt.arr ⟨mx,my⟩), .int .i64 me])) from by have:=HC.out F wc (HB.out _ D5);rw [e] at this;exact this)
                  have i1:za7 wc g0 0:=⟨_,(HX.out _ (HB.out _ D5)).is_db hsz9⟩
                  have i2:zbQ wc g0 0=cs:=zaL ((HX.out _ (HB.out _ D5)).is_db hsz9)
                  have HP:=Lib.hid (fun w' (h:Below wc.heap.size wc w')=>P5.step h)
                  have HE:=Lib.hid (fun w' (h:Below wc.heap.size wc w')=>E5.step h)
                  have HD:=Lib.hid (fun w' (h:Below wc.heap.size wc w')=>zaa D5 h)
                  have hne2:g1 ≠ g2:=by intro h;subst h;have h1:=P5.of;have h2:=E5.of;rw [h1] at h2;have:=congrArg Array.size h2;simp [Leg.arr,Entry.arr] at this
                  clear P5 E5 D5 hfp e
                  by_cases he:me=0
                  · subst he
                    go_wp2_with (go_at_call 135;(with_reducible refine zaj hcall.out ?_);intro w5 b5 _ _ _;have d2:=((HE.out _ b5).alloc (.cells (Pt.arr ⟨mx,my⟩) 66)).plain;have d3:=((HE.out _ b5).alloc (.cells (Pt.arr ⟨mx,my⟩) 66)).of)
                    all_goals try (exfalso;have hq:(!F.isEmpty)=false:=(by assumption);rw [hfb] at hq;exact absurd hq (by decide))
                    go_meet
                    exact ⟨by trivial,by trivial,((HP.out _ b5).alloc _).far hne2 _,((HE.out _ b5).alloc _).set _,zab ((HD.out _ b5).alloc (HD.out _ b5).size _) hne _⟩
                  · have HR:=Lib.hid (show zbL pt legs sec via=([],me) by
                      have h1:zbB pt legs=me:=by rw [HG.out];simp [orE,he]
                      rw [HS.out,h1,if_neg he])
                    clear HS HG HXE
                    go_wp2_with (go_at_call 135;(with_reducible refine zaj hcall.out ?_);intro w5 b5 _ _ _;have d2:=((HE.out _ b5).alloc (.cells (Pt.arr ⟨mx,my⟩) 66)).plain;have d3:=((HE.out _ b5).alloc (.cells (Pt.arr ⟨mx,my⟩) 66)).of)
                    all_goals try (exfalso;have hq:(!F.isEmpty)=false:=(by assumption);rw [hfb] at hq;exact absurd hq (by decide))
                    go_ret2
                    rw [HR.out]
                    exact RetBd.err _ _ _ (zaa BH.out (HB.out _ ((HD.out _ b5).alloc (HD.out _ b5).size _)))
              case rest=>
                obtain ⟨rfl,rfl,P6,E6,D6⟩:=hcut
                clear P5 E5 D5 k1 hfp P6
                obtain ⟨y,hy⟩:∃ y,(⟨false,x,fx,fy,mx,my,sec,via⟩:Entry)=y:=⟨_,rfl⟩
                have HY:=Lib.hid (show zgA pt sec via x=y by rw [HXE.out,← hy])
                rw [hy] at E6
                have HG2:=Lib.hid (show zbB pt legs=rest from HG.out)
                clear hy HXE HG
                have i1:za4 wc g2 0:=⟨_,E6.is_ent⟩
                have i2:zbE wc g2 0=y:=zaS E6.is_ent
                have OA:=Lib.hid ((HO.out _ D6).alloc (.cells y.arr 69))
                have BA:=Lib.hid ((HB.out _ D6).alloc (HB.out _ D6).size (.cells y.arr 69))
                have hen:=HEL.out
                have hba:W1.heap.size≤(wc.alloc (.cells y.arr 69)).heap.size:=BA.out.size
                go_wp2_with (at_builtin;refine zaW rfl (.tmp 70) (.tmp 72) rfl OA.out rfl [y] wc.heap.size 1 1 rfl rfl (Blk.one wc y _) (by simp;omega) hba ?_;intro v5 W5 O5 hg5)
                go_roundw
                case rel=>
                  exact ⟨k+1,es ++ [y],by omega,by go_num,by rw [HT.out,HY.out],by simp;omega,by rw [HG2.out,HRS.out],O5,below_grown BA.out OA.out hg5⟩
                case measure=>simp [intOf];omega
          · have HR:=Lib.hid (show zbL pt legs sec via=([],ck) by
              have h1:zbB pt legs=ck:=by rw [HG.out];simp [orE,hc0]
              rw [HS.out,h1,if_neg hc0])
            clear HS HG
            go_wp2_with (go_at_call 138;(with_reducible refine zaj hck.out ?_);intro w3 b3 _ _ _)
            go_ret2
            rw [HR.out]
            exact RetBd.err _ _ _ (zaa BH.out (HB.out _ (zaa D0 b3)))
        · have hes:=HES.out
          rw [List.take_of_length_le (by omega)] at hes
          have HR:=Lib.hid (show zbL pt legs sec via=(es,0) by
            have h1:zbB pt legs=0:=by rw [HGO.out,List.drop_of_length_le (by omega)];rfl
            rw [HS.out,if_pos h1,← hes])
          obtain ⟨A2,c2,rfl,hc2,hE2,_⟩:=O.form
          clear HS HGO HES hes O
          go_wp2
          go_ret2
          rw [HR.out]
          exact ⟨A2,c2,rfl,hc2,hE2,zaa BH.out BW⟩
end Go.Proofs.YtgoeedohgomodaaGreatDoor
namespace Go.Proofs.YtgoeedohgomodaaGreatDoor
open Go.RowKit Go.Sort
set_option maxRecDepth 100000
def zxE (parts:Array (Nat × Value)):Sem Value:=Instr.build 62 parts
theorem zrv (parts:Array (Nat × Value)):Instr.build 62 parts=zxE parts:=rfl
theorem zsh (w:World) (a b:Int):(zxE #[(0, .int .i64 a),(1, .int .i64 b)]).run Tryz.prog w=.ok (.agg (Win.arr ⟨a,b⟩)) w:=run_build w _ _ _ (by kernel_rfl)
theorem zsl (w:World) (t:Int) (f:List UInt8):(zx8 #[(0, .int .u8 t),(1, .string ⟨f.toArray⟩),(9, .agg (Win.arr ⟨-200000,6000000⟩))]).run Tryz.prog w=.ok (.agg (zaI t f).arr) w:=run_build w _ _ _ (by kernel_rfl)
theorem znW:(Tryz.prog.info? 69).map (fun i=>(i.zero,i.size,i.bytes))=some (some (.agg zeroE.arr),20,176):=by kernel_rfl
theorem zn0 (l:List Entry):∀ y ∈ l.map Entry.arr,y.size=20:=fun y hy=>by
  obtain ⟨s,_,rfl⟩:=List.mem_map.1 hy
  exact s.arr_size
theorem zp9 (l:List Entry):∀ y ∈ l.map Entry.arr,y.toList.all (·.oneCell')=true:=fun y hy=>by
  obtain ⟨s,_,rfl⟩:=List.mem_map.1 hy
  simp [Entry.arr,Value.oneCell']
section
attribute [local go_sem ↓] zeM zrv
attribute [local go_sem] zsh zsl
theorem zfJ (t:Int) (f:List UInt8) (w:World):Calls Tryz.prog 129 #[.int .u8 t, .string ⟨f.toArray⟩] w (Ret w (.agg (zaI t f).arr)):=by
  go_enter Tryz.func129,Tryz.ntmps129
  go_upto_region 1 with (fail)
  have R0:=Blk.new w leg0.arr 64
  have B0:=zac w (.cells leg0.arr 64)
  have hz:leg0.arr=#[.int .u8 0, .string ⟨#[]⟩, .string ⟨#[]⟩, .int .u8 0, .bool false, .int .i64 0, .int .i64 0, .int .i64 0, .int .i64 0, .int .i64 0, .int .i64 0, .int .i64 0, .int .i64 0]:=rfl
  rw [hz] at R0 B0
  generalize w.alloc _=W at R0 B0 ⊢
  rw [← hz] at R0
  clear hz
  obtain ⟨r,hr⟩:∃ r,r=w.heap.size:=⟨_,rfl⟩
  have hgr:w.heap.size≤r:=by omega
  rw [← hr] at R0 ⊢
  clear hr
  have e2:=R0.plain
  have e3:=R0.of
  have f3:splice leg0.arr 0 (zaI t f).arr=(zaI t f).arr:=rfl
  go_wp2
  exact bodyPost_ret (zbM Tryz.results129 _ _ r (zaI t f).arr 13 _ rfl rfl (R0.set _).cell Tryz.underlying64 rfl ziv) rfl ⟨rfl,zab B0 hgr _⟩
end
section
set_option maxHeartbeats 8000000 in
theorem zqR (d:DBs) (l:List FixV) (es:List Entry) (L:Option Addr) (c g:Nat) (iv:Value) (legs:List Leg) (A:Option Addr) (ca:Nat) (sec:Int) (via:List UInt8) (w W:World)
    (hB:Bu w W g d.cells iv L c es) (hL:Laid W) (hD:DbAt W d l) (hI:Items W A 13 (legs.map Leg.arr)) (hlc:legs.length≤ca) (hn:legs.length≤100000) (hs:∀ x ∈ legs,x.small) (hv:via.length≤4000000000) (he:es.length≤300000):
    Calls Tryz.prog 128 #[.pointer (some ⟨g,0,none⟩), .slice A legs.length ca, .int .u8 sec, .string ⟨via.toArray⟩] W (RetBu w W g d.cells iv (zw6 (zcK d.lat d.lon l) es legs sec via)):=by
  have KB:=Lib.hid (fun W' (b:Below W.heap.size W W')=>zsB d l legs A ca sec via W' (hL.below b) (hD.below b) (hI.below b) hlc (Nat.le_trans hn (by omega)) hs hv)
  generalize zcK d.lat d.lon l=pt at *
  have hbl:=zlt pt legs sec via
  have HO:=Lib.hid (show zw6 pt es legs sec via=if (zbL pt legs sec via).2 ≠ 0 then (es,(zbL pt legs sec via).2) else (zcO (es ++ (zbL pt legs sec via).1),0) from rfl)
  generalize zw6 pt es legs sec via=OUT at *
  generalize zbL pt legs sec via=r at *
  obtain ⟨r1,r2⟩:=r
  simp only at hbl
  generalize d.cells=cs at *
  clear hI hs hD
  have i1:za7 W g 0:=⟨_,hB.db⟩
  have i2:zbQ W g 0=cs:=zaL hB.db
  have HB:=Lib.hid hB
  clear hB
  go_enter Tryz.func128,Tryz.ntmps128
  go_upto_region 2 with (go_at_call 170;refine ztO (KB.out _ (Below.refl _ _)) ?_;intro A3 c3 w3 h3 E3 b3)
  clear i1 i2 KB
  have B3:=HB.out.step b3
  have P3:=OnlyB.of (g:=g) b3
  clear HB b3
  by_cases h0:r2=0
  · subst h0
    have HE:=Lib.hid (show OUT=(zcO (es ++ r1),0) from HO.out.trans (if_neg (by simp)))
    clear HO
    have hel:=B3.cap
    have HB:=Lib.hid B3
    have D4:=zac w3 (.cells #[] 69)
    have HLE:=Lib.hid (zfN (B3.ents.below (B:=0) D4))
    have HRE:=Lib.hid (fun W' (b:Below w3.heap.size w3 W')=>zfN (E3.below (B:=0) b))
    have HG0:=Lib.hid (GOut.empty w3 69 20)
    have KJ:=Lib.hid (fun A5 c5 w5 (h5:(es ++ r1).length≤c5) (E5:Ents w5 A5 (es ++ r1))=>show Calls Tryz.prog 171 #[.slice A5 (es.length+r1.length) c5] w5 (zlz w5 (zcO (es ++ r1))) from by
      rw [← List.length_append];exact zsx (es ++ r1) A5 c5 w5 (by simp;omega) h5 E5)
    have HFR:=Lib.hid (fun w6 (b:Below w3.heap.size w3 w6)=>show w6.frozen? ⟨g,10,none⟩=false∧w6.cell? ⟨g,10,none⟩=some (.slice L es.length c) from ⟨(HB.out.blk.step b).frozen 10,(HB.out.step b).c10⟩)
    obtain ⟨m1,m2⟩:=HFR.out _ D4
    clear B3 E3 h3
    go_upto_region 3 with (fail)
    go_wp2_with (first
      | (at_builtin;refine zav rfl (.tmp 25) (.tmp 29) _ 69 20 176 _ znW rfl (by omega) Tryz.underlying41 rfl HG0.out rfl (es.map Entry.arr) L es.length c (List.length_map _) rfl HLE.out (zn0 _) (zp9 _) (by rw [List.length_nil];unfold maxLen;omega) (by rw [List.length_nil];omega) (by simp) ?_;intro v1 w4 O1 G1 N1;rw [List.nil_append] at O1;have D5:Below w3.heap.size w3 w4:=HG0.out.below_grown G1 D4 (Nat.le_refl _) (by simp);obtain ⟨A4,c4,h4⟩:=O1.len;rw [List.length_map] at h4;subst h4)
      | (at_builtin;refine zav rfl (.tmp 30) (.tmp 31) _ 69 20 176 _ znW rfl (by omega) Tryz.underlying41 rfl O1 rfl (r1.map Entry.arr) A3 r1.length c3 (List.length_map _) rfl (HRE.out _ D5) (zn0 _) (zp9 _) (by rw [List.length_map];unfold maxLen;omega) (by rw [List.length_map];omega) D5.size ?_;intro v2 w5 O2 G2 N2;rw [← List.map_append] at O2;have D6:Below w3.heap.size w3 w5:=O1.below_grown G2 D5 (Nat.le_refl _) D5.size;obtain ⟨A5,c5,h5,h5c,E5,_⟩:=(zp2 (w:=w3) O2).form;subst h5;rw [List.length_append])
      | (go_at_call 171;(with_reducible refine zmG (KJ.out A5 c5 _ h5c E5) ?_);intro A6 c6 w6 h6 E6 g6 b6;obtain ⟨f6,e6⟩:=HFR.out w6 (zaa D6 b6)))
    go_ret
    have X6:=HB.out.step (zaa D6 b6)
    have hg6:∀ a,A6=some a→a.block ≠ g:=fun a ha=>by
      have h1:=g6 a ha
      have h2:=HB.out.lt
      have h3:=D6.size
      omega
    have O6:=OnlyB.setCell g 10 w6 (.slice A6 (zcO (es ++ r1)).length c6)
    refine ⟨A6,c6,by rw [HE.out];rfl,?_,P3.trans ((OnlyB.of (zaa D6 b6)).trans O6)⟩
    rw [HE.out]
    refine ⟨?_,X6.sz,E6.only O6 hg6,hg6,h6,O6.below X6.bel X6.ge,X6.ge⟩
    have:=X6.blk.setCell 10 (.slice A6 (zcO (es ++ r1)).length c6)
    rwa [zob _ _ _ _ X6.sz] at this
  · have HE:=Lib.hid (show OUT=(es,r2) from HO.out.trans (if_pos h0))
    have h1:(r2 == 0)=false:=by simpa using h0
    have HB:=Lib.hid B3
    clear HO h0 B3
    go_wp2
    go_ret
    exact ⟨L,c,by rw [HE.out];rfl,by rw [HE.out];exact HB.out,P3⟩
end
theorem RS.radd {w:World} {d:DBs} {G:GDB} {iA:Option Addr} {ic:Nat} {xs:List ItemV} (hS:RS w d G iA ic xs) {W:World} {g:Nat} {iv:Value} {L:Option Addr} {c:Nat} {es:List Entry} (h:Bu w W g d.cells iv L c es)
    (legs:List Leg) (A:Option Addr) (ca:Nat) (sec:Int) (via:List UInt8) (hI:Items W A 13 (legs.map Leg.arr)) (hlc:legs.length≤ca) (hn:legs.length≤100000) (hs:∀ x ∈ legs,x.small) (hv:via.length≤4000000000) (he:es.length≤300000):
    Calls Tryz.prog 128 #[.pointer (some ⟨g,0,none⟩), .slice A legs.length ca, .int .u8 sec, .string ⟨via.toArray⟩] W (RetBu w W g d.cells iv (zcn (zai G) es legs sec via)):=by
  have:=zqR d G.fixes es L c g iv legs A ca sec via w W h (hS.laid.below h.bel) (hS.gd.db.below h.bel) hI hlc hn hs hv he
  rw [hS.gd.lat,hS.gd.lon] at this
  exact this
section
attribute [local go_sem ↓] zfy
attribute [local go_sem] zgS
theorem RS.radd1 {w:World} {d:DBs} {G:GDB} {iA:Option Addr} {ic:Nat} {xs:List ItemV} (hS:RS w d G iA ic xs) {W:World} {g:Nat} {iv:Value} {L:Option Addr} {c:Nat} {es:List Entry} (h:Bu w W g d.cells iv L c es)
    (t:Int) (f:List UInt8) (q:Nat) (sec:Int) (via:List UInt8) (hI:Blk W q (zaI t f).arr) (hf:f.length≤4000000000) (hv:via.length≤4000000000) (he:es.length≤300000):
    Calls Tryz.prog 128 #[.pointer (some ⟨g,0,none⟩), .slice (some ⟨q,0,none⟩) 1 1, .int .u8 sec, .string ⟨via.toArray⟩] W (RetBu w W g d.cells iv (zcn (zai G) es [zaI t f] sec via)):=
  hS.radd h [zaI t f] (some ⟨q,0,none⟩) 1 sec via (Blk.legItems hI) (Nat.le_refl _) (by simp) (zcJ hf) hv he
theorem zlY {w:World} {d:DBs} {G:GDB} {iA:Option Addr} {ic:Nat} {xs:List ItemV} (hS:RS w d G iA ic xs) (es:List Entry) (L:Option Addr) (c g:Nat) (iv:Value) (W:World) (h:Bu w W g d.cells iv L c es) (he:es.length≤300000) (f:List UInt8) (hf:f.length≤4000000000) (sec:Int):
    Calls Tryz.prog 82 #[.pointer (some ⟨g,0,none⟩), .string ⟨f.toArray⟩, .int .u8 sec] W (RetBu w W g d.cells iv (zcn (zai G) es [zaI 2 f] sec [])):=by
  have HB:=Lib.hid h
  have HS:=Lib.hid hS
  clear h hS
  generalize hout:zcn (zai G) es [zaI 2 f] sec []=out
  have KA:=Lib.hid (fun W' (D:Below W.heap.size W W') q (Y:Blk W' q (zaI 2 f).arr)=>show Calls Tryz.prog 128 #[.pointer (some ⟨g,0,none⟩), .slice (some ⟨q,0,none⟩) 1 1, .int .u8 sec, .string ⟨#[]⟩] W' (RetBu w W' g d.cells iv out) from hout ▸ HS.out.radd1 (HB.out.step D) 2 f q sec [] Y hf (by simp) he)
  clear hout
  go_enter Tryz.func82,Tryz.ntmps82
  go_wp2_with (first
    | (go_at_call 129;(with_reducible refine zaj (zfJ 2 f _) ?_);intro w3 b3 _ _ _;have D4:=zaa b3 (zac w3 (.cells (zaI 2 f).arr 64)))
    | (go_at_call 128;(with_reducible refine zch (KA.out _ D4 _ (Blk.new _ _ _)) ?_);intro L5 c5 w5 B5 O5))
  go_ret
  exact ⟨L5,c5,rfl,B5,(OnlyB.of D4).trans O5⟩
end
theorem zmQ (W:World) (b o:Nat):za4 W.drew b o=za4 W b o:=propext ⟨fun h=>h,fun h=>h⟩
theorem znM (W:World) (b o:Nat):zbE W.drew b o=zbE W b o:=rfl
section
attribute [local go_sem] zmQ znM zbv zbu zfS zfR
set_option maxHeartbeats 2000000 in
theorem zjf (es:List Entry) (L:Option Addr) (c g:Nat) (cs:Array Value) (iv:Value) (w W:World) (h:Bu w W g cs iv L c es) (he:es.length≤1000000) {y:Entry} (hy:es.getLast? = some y):
    Calls Tryz.prog 132 #[.pointer (some ⟨g,0,none⟩)] W (Ret W (.agg y.arr)):=by
  have e10:=h.c10
  have hne:es ≠ []:=by rintro rfl;cases hy
  have hp:0 < es.length:=List.length_pos_iff.2 hne
  obtain ⟨b,off,hL,hb,hc⟩:=h.ents.get (k:=es.length - 1) (by omega)
  have hlast:es.getLast? = some es[es.length - 1]:=by rw [List.getLast?_eq_getElem?,List.getElem?_eq_getElem (by omega)]
  rw [hlast] at hy
  injection hy with hy
  have hcap:=h.cap
  have hgl:=h.lt
  have HI:zfB W b (off+(es.length - 1) * 20) y:=by rw [← hy];exact fun j hj=>hc j hj
  subst hL
  obtain ⟨n,hn⟩:∃ n,n=es.length - 1:=⟨_,rfl⟩
  have hl:es.length=n+1:=by omega
  rw [hl] at e10 hcap hp he
  rw [← hn] at HI
  clear hc hlast hn hl h hy hne
  have i1:za4 W b (off+n * 20):=⟨_,HI⟩
  have i2:zbE W b (off+n * 20)=y:=zaS HI
  have hwr:IntKind.i64.wrap (n:Int)=(n:Int):=by rw [IntKind.wrap_i64];omega
  have hlt1:(n:Int) < (n:Int)+1:=by omega
  have hlc1:n < c:=by omega
  go_enter Tryz.func132,Tryz.ntmps132
  go_upto_region 1 with (fail)
  go_region
  all_goals
    go_wp2
    exact bodyPost_ret (zbM Tryz.results132 _ _ W.heap.size y.arr 20 _ rfl rfl (((Blk.new W _ _).step (Below.refl _ _).drew).set _).cell Tryz.underlying69 rfl zhf) rfl ⟨rfl,zab (zac W _).drew (Nat.le_refl _) _⟩
end
end Go.Proofs.YtgoeedohgomodaaGreatDoor
namespace Go.Proofs.YtgoeedohgomodaaGreatDoor
open Go.RowKit Go.Sort
set_option maxRecDepth 100000
theorem zlZ (l:List UInt8) (c:UInt8) (w:World) (hl:l.length≤4000000000):
    Calls Tryz.prog 64 #[.string ⟨l.toArray⟩, .int .u8 c.toNat] w (RetQ w (.tuple #[.string ⟨(cutAt c l).1.toArray⟩, .string ⟨(cutAt c l).2.1.toArray⟩, .bool (cutAt c l).2.2])):=by
  generalize hq:cutAt c l=q
  have HQ0:=Lib.hid hq;clear hq
  go_enter Tryz.func64,Tryz.ntmps64
  go_wp2
  go_loop [7] (fun i=>∃ k:Nat,k≤l.length∧i=.int .i64 k∧(l.take k).all (· != c)=true) (fun i=>l.length - (intOf i).toNat)
  case atStart=>exact ⟨0,by omega,rfl,by simp⟩
  case round=>
    obtain ⟨k,hk,rfl,hq⟩:=hrel
    have HQ:=Lib.hid hq;clear hq
    by_cases hlt:k < l.length
    · by_cases hc:l[k]=c
      · have hs:=Lib.hid (show q=(l.take k,l.drop (k+1),true) by rw [← HQ0.out,ziA c l k hlt HQ.out hc])
        have h1:((l[k].toNat:Int) == (c.toNat:Int))=true:=zwt hc
        clear hc
        have q1:IntKind.i64.wrap ((k:Int)+1)=(k:Int)+1:=IntWalk.i64_in _ (by omega)
        have q2:(0:Int)≤(k:Int)+1:=by omega
        have q3:((k:Int)+1).toNat=k+1:=by omega
        have q4:(k:Int)+1≤l.length:=by omega
        have q5:(k:Int)≤l.length:=by omega
        go_upto_region 5 with (fail)
        go_region
        go_wp2
        go_ret3
        exact ⟨by rw [hs.out];simp;done,1,rfl⟩
      · have h1:((l[k].toNat:Int) == (c.toNat:Int))=false:=zj7 hc
        go_wp2
        go_round
        case rel=>exact ⟨k+1,by omega,by go_num,zeQ _ l k hlt HQ.out (by simp [hc])⟩
        case measure=>simp [intOf];omega
    · have hs:=Lib.hid (show q=(l,[],false) by rw [← HQ0.out,zfO c l (by have:=HQ.out;rwa [List.take_of_length_le (by omega)] at this)])
      go_wp2
      go_ret3
      exact ⟨by rw [hs.out];rfl,0,rfl⟩
end Go.Proofs.YtgoeedohgomodaaGreatDoor
namespace Go.Proofs.YtgoeedohgomodaaGreatDoor
open Go.RowKit
set_option maxRecDepth 100000
theorem zr4 {a:Nat} (h:a≤4294967295):a * a < 18446744073709551616:=by
  have:=zr5 h
  omega
set_option maxHeartbeats 4000000 in
theorem zoT (n:Nat) (hn:n≤4611686018427387904) (w:World):Calls Tryz.prog 181 #[.int .i64 (n:Int)] w (RetP w (.int .i64 (zfu n:Int))):=by
  have h0:¬ ((n:Int) < 0):=by omega
  have hu:IntKind.u64.wrap (n:Int)=(n:Int):=by rw [IntKind.wrap_u64];omega
  have HU:=Lib.hid (fun r (h1:r * r≤n) (h2:n < (r+1) * (r+1))=>zhz h1 h2)
  generalize zfu n=out at *
  go_enter Tryz.func181,Tryz.ntmps181
  go_upto_region 5 with (fail)
  go_loopw [3,4] (fun rv bv wr=>∃ r k:Nat,rv=.int .u64 (r:Int)∧bv=.int .u64 ((2 ^ k / 2:Nat):Int)∧k≤32∧r * r≤n∧n < (r+2 ^ k) * (r+2 ^ k)∧r+2 ^ k≤4294967296∧wr=w) (fun _ bv _=>(intOf bv).toNat)
  case atStart=>exact ⟨0,32,rfl,rfl,by omega,by omega,by omega,by omega,rfl⟩
  case round=>
    obtain ⟨r,k,rfl,rfl,hk,g1,g2,g3,rfl⟩:=hrel
    rcases k with _ | k
    · have e:(2 ^ 0 / 2:Nat)=0:=rfl
      rw [e]
      have HR:=Lib.hid (HU.out r g1 g2)
      have hr:IntKind.i64.wrap (r:Int)=(r:Int):=by rw [IntKind.wrap_i64];omega
      clear e g1 g2 HU
      go_wp2
      go_ret
      exact RetP.int (by rw [HR.out]) rfl
    · have e2:2 ^ (k+1)=2 ^ k+2 ^ k:=by rw [Nat.pow_succ];omega
      have e:(2 ^ (k+1) / 2:Nat)=2 ^ k:=by omega
      have hp:0 < 2 ^ k:=Nat.pow_pos (by decide)
      rw [e2] at g2 g3
      rw [e]
      clear e e2
      have HK:=Lib.hid (show k≤31 by omega)
      obtain ⟨b,hb⟩:∃ b,2 ^ k=b:=⟨_,rfl⟩
      have HB:=Lib.hid hb
      rw [hb] at g2 g3 hp ⊢
      clear hk hb
      have hf:=zr4 (a:=r+b) (by omega)
      obtain ⟨q,hq⟩:∃ q,(r+b) * (r+b)=q:=⟨_,rfl⟩
      have hqi:((r:Int)+(b:Int)) * ((r:Int)+(b:Int))=(q:Int):=by rw [← hq];push_cast;rfl
      rw [hq] at hf
      have HQ:=Lib.hid hq
      have G1:=Lib.hid g1
      have G2:=Lib.hid g2
      have hw1:IntKind.u64.wrap ((r:Int)+(b:Int))=(r:Int)+(b:Int):=by rw [IntKind.wrap_u64];omega
      have hw2:IntKind.u64.wrap (q:Int)=(q:Int):=by rw [IntKind.wrap_u64];omega
      have hb0:(0:Int) < (b:Int):=by omega
      clear g1 g2 hq
      by_cases hle:q≤n
      · have hle':(q:Int)≤(n:Int):=by omega
        go_wp2
        go_roundw
        case rel=>exact ⟨r+b,k,by go_num,by rw [HB.out];go_num,by have:=HK.out;omega,by rw [HQ.out];exact hle,by rw [HB.out,Nat.add_assoc];exact G2.out,by rw [HB.out];omega,trivial⟩
        case measure=>simp [intOf];omega
      · have hle':¬ (q:Int)≤(n:Int):=by omega
        go_wp2
        go_roundw
        case rel=>exact ⟨r,k,rfl,by rw [HB.out];go_num,by have:=HK.out;omega,G1.out,by rw [HB.out,HQ.out];omega,by rw [HB.out];omega,trivial⟩
        case measure=>simp [intOf];omega
theorem zxK (w:World) (a b c:Array Value) (s t u:TypeId):Blk (((w.alloc (.cells a s)).alloc (.cells b t)).alloc (.cells c u)) w.heap.size a∧Blk (((w.alloc (.cells a s)).alloc (.cells b t)).alloc (.cells c u)) (w.heap.size+1) b∧Blk (((w.alloc (.cells a s)).alloc (.cells b t)).alloc (.cells c u)) (w.heap.size+1+1) c∧Below w.heap.size w (((w.alloc (.cells a s)).alloc (.cells b t)).alloc (.cells c u)):=by
  refine ⟨((Blk.new w a s).alloc _).alloc _,?_,?_,by go_grown⟩
  · have:=(Blk.new (w.alloc (.cells a s)) b t).alloc (.cells c u)
    rwa [World.size_alloc] at this
  · have:=Blk.new ((w.alloc (.cells a s)).alloc (.cells b t)) c u
    rwa [World.size_alloc,World.size_alloc] at this
theorem zx6 (w:World) (a b c d:Array Value) (s t u v:TypeId):Blk ((((w.alloc (.cells a s)).alloc (.cells b t)).alloc (.cells c u)).alloc (.cells d v)) w.heap.size a∧Blk ((((w.alloc (.cells a s)).alloc (.cells b t)).alloc (.cells c u)).alloc (.cells d v)) (w.heap.size+1) b ∧
    Blk ((((w.alloc (.cells a s)).alloc (.cells b t)).alloc (.cells c u)).alloc (.cells d v)) (w.heap.size+1+1) c∧Blk ((((w.alloc (.cells a s)).alloc (.cells b t)).alloc (.cells c u)).alloc (.cells d v)) (w.heap.size+1+1+1) d∧Below w.heap.size w ((((w.alloc (.cells a s)).alloc (.cells b t)).alloc (.cells c u)).alloc (.cells d v)):=by
  obtain ⟨h1,h2,h3,_⟩:=zxK w a b c s t u
  refine ⟨h1.alloc _,h2.alloc _,h3.alloc _,?_,by go_grown⟩
  have:=Blk.new (((w.alloc (.cells a s)).alloc (.cells b t)).alloc (.cells c u)) d v
  rwa [World.size_alloc,World.size_alloc,World.size_alloc] at this
theorem zx7 (w:World) (a b:Array Value) (s t:TypeId):Blk ((w.alloc (.cells a s)).alloc (.cells b t)) w.heap.size a∧Blk ((w.alloc (.cells a s)).alloc (.cells b t)) (w.heap.size+1) b∧Below w.heap.size w ((w.alloc (.cells a s)).alloc (.cells b t)):=by
  refine ⟨(Blk.new w a s).alloc _,?_,by go_grown⟩
  have:=Blk.new (w.alloc (.cells a s)) b t
  rwa [World.size_alloc] at this
set_option maxHeartbeats 4000000 in
theorem zqT (a b:Pt) (ha:zaV a.x a.y=true) (hb:zaV b.x b.y=true) (w:World):Calls Tryz.prog 182 #[.agg a.arr, .agg b.arr, .agg a.arr, .agg b.arr] w (Ret w (.int .i64 ((b.x - a.x) * (b.x - a.x)+(b.y - a.y) * (b.y - a.y)))):=by
  simp only [zaV,Bool.and_eq_true,decide_eq_true_eq] at ha hb
  have hx:-4000000≤b.x - a.x∧b.x - a.x≤4000000:=by omega
  have hy:-4000000≤b.y - a.y∧b.y - a.y≤4000000:=by omega
  obtain ⟨ax,ay⟩:=a
  obtain ⟨bx,byy⟩:=b
  dsimp only at ha hb hx hy ⊢
  obtain ⟨s1,s2⟩:=zeg hx.1 hx.2
  obtain ⟨s3,s4⟩:=zeg hy.1 hy.2
  obtain ⟨p,hp⟩:∃ p,p=(bx - ax) * (bx - ax):=⟨_,rfl⟩
  obtain ⟨q,hq⟩:∃ q,q=(byy - ay) * (byy - ay):=⟨_,rfl⟩
  rw [← hp] at s1 s2
  rw [← hq] at s3 s4
  rw [← hp,← hq]
  have e1:wrap64 ((bx - ax) * (bx - ax))=p:=by rw [← hp];exact IntWalk.wrap64_in _ (by omega)
  have e2:wrap64 ((byy - ay) * (byy - ay))=q:=by rw [← hq];exact IntWalk.wrap64_in _ (by omega)
  clear hp hq
  go_enter Tryz.func182,Tryz.ntmps182
  go_upto_region 1 with (fail)
  obtain ⟨A0,B0,C0,D0,W0⟩:=zx6 w (Pt.arr ⟨ax,ay⟩) (Pt.arr ⟨bx,byy⟩) (Pt.arr ⟨ax,ay⟩) (Pt.arr ⟨bx,byy⟩) 66 66 66 66
  generalize World.alloc (World.alloc (World.alloc (World.alloc w _) _) _) _=W1 at A0 B0 C0 D0 W0 ⊢
  generalize w.heap.size+1+1+1=gd at D0 ⊢
  generalize w.heap.size+1+1=gc at C0 ⊢
  generalize w.heap.size+1=gb at B0 ⊢
  obtain ⟨ga,hga⟩:∃ g,g=w.heap.size:=⟨_,rfl⟩
  rw [← hga] at A0 ⊢
  clear hga
  have c1:W1.cell? ⟨ga,0,none⟩=some (.int .i64 ax):=A0.cell 0
  have c2:W1.cell? ⟨ga,1,none⟩=some (.int .i64 ay):=A0.cell 1
  have c3:W1.cell? ⟨gb,0,none⟩=some (.int .i64 bx):=B0.cell 0
  have c4:W1.cell? ⟨gb,1,none⟩=some (.int .i64 byy):=B0.cell 1
  have c5:W1.cell? ⟨gc,0,none⟩=some (.int .i64 ax):=C0.cell 0
  have c6:W1.cell? ⟨gc,1,none⟩=some (.int .i64 ay):=C0.cell 1
  have c7:W1.cell? ⟨gd,0,none⟩=some (.int .i64 bx):=D0.cell 0
  have c8:W1.cell? ⟨gd,1,none⟩=some (.int .i64 byy):=D0.cell 1
  clear A0 B0 C0 D0
  go_wp2
  go_ret
  exact Ret.int rfl W0
theorem ziW (p:Pt) (w:World):Calls Tryz.prog 141 #[.agg p.arr] w (Ret w (.bool (zaV p.x p.y))):=zkS p.x p.y w
set_option maxHeartbeats 4000000 in
theorem znv (a b c:Pt) (w:World):Calls Tryz.prog 180 #[.agg a.arr, .agg b.arr, .agg c.arr] w (Ret w (.bool (zaV a.x a.y && zaV b.x b.y && zaV c.x c.y))):=by
  have ka:=Lib.hid (ziW a)
  have kb:=Lib.hid (ziW b)
  have kc:=Lib.hid (ziW c)
  generalize zaV a.x a.y=ta at *
  generalize zaV b.x b.y=tb at *
  generalize zaV c.x c.y=tc at *
  go_enter Tryz.func180,Tryz.ntmps180
  go_upto_region 1 with (fail)
  obtain ⟨A0,B0,C0,W0⟩:=zxK w a.arr b.arr c.arr 66 66 66
  generalize World.alloc (World.alloc (World.alloc w _) _) _=W1 at A0 B0 C0 W0 ⊢
  generalize w.heap.size+1+1=gc at C0 ⊢
  generalize w.heap.size+1=gb at B0 ⊢
  obtain ⟨ga,hga⟩:∃ g,g=w.heap.size:=⟨_,rfl⟩
  rw [← hga] at A0 ⊢
  clear hga
  have i1:zbw W1 ga 0:=⟨_,A0.is_pt⟩
  have i2:zcr W1 ga 0=a:=zaZ A0.is_pt
  have HI:=Lib.hid (fun W' (D:Below W1.heap.size W1 W')=>show (zbw W' gb 0∧zcr W' gb 0=b)∧zbw W' gc 0∧zcr W' gc 0=c from ⟨⟨⟨_,(B0.step D).is_pt⟩,zaZ (B0.step D).is_pt⟩,⟨_,(C0.step D).is_pt⟩,zaZ (C0.step D).is_pt⟩)
  clear A0 B0 C0
  cases ta <;> cases tb <;> cases tc
  all_goals
    go_wp2_with (first
      | (go_at_call 141;(with_reducible refine zaj (ka.out _) ?_);intro w2 b2 _ _ _;have f2:Below W1.heap.size W1 w2:=b2;obtain ⟨⟨j1,j2⟩,j3,j4⟩:=HI.out _ f2)
      | (go_at_call 141;(with_reducible refine zaj (kb.out _) ?_);intro w3 b3 _ _ _;have f3:Below W1.heap.size W1 w3:=zaa f2 b3;obtain ⟨⟨m1,m2⟩,m3,m4⟩:=HI.out _ f3)
      | (go_at_call 141;(with_reducible refine zaj (kc.out _) ?_);intro w4 b4 _ _ _;have f4:Below W1.heap.size W1 w4:=zaa f3 b4))
    go_ret
    exact Ret.bool rfl (zaa W0 (by first | exact f4 | exact f3 | exact f2))
set_option maxHeartbeats 4000000 in
theorem zoS (a b:Pt) (w:World):Calls Tryz.prog 136 #[.agg a.arr, .agg b.arr] w (Ret w (.int .i64 (ze3 (a.x,a.y) (b.x,b.y)))):=by
  have HV:=Lib.hid (show ze3 (a.x,a.y) (b.x,b.y)=if zaV a.x a.y && zaV b.x b.y then (zfu ((b.x - a.x) * (b.x - a.x)+(b.y - a.y) * (b.y - a.y)).toNat:Int) else 0 from rfl)
  generalize ze3 (a.x,a.y) (b.x,b.y)=v at *
  go_enter Tryz.func136,Tryz.ntmps136
  go_upto_region 1 with (fail)
  obtain ⟨A0,B0,D0⟩:=zx7 w a.arr b.arr 66 66
  generalize World.alloc (World.alloc w _) _=W0 at A0 B0 D0 ⊢
  generalize w.heap.size+1=gb at B0 ⊢
  obtain ⟨ga,hga⟩:∃ g,g=w.heap.size:=⟨_,rfl⟩
  rw [← hga] at A0 ⊢
  clear hga
  have i1:zbw W0 ga 0:=⟨_,A0.is_pt⟩
  have i2:zcr W0 ga 0=a:=zaZ A0.is_pt
  have i3:zbw W0 gb 0:=⟨_,B0.is_pt⟩
  have i4:zcr W0 gb 0=b:=zaZ B0.is_pt
  have kv:=Lib.hid (znv a b b W0)
  rw [show (zaV a.x a.y && zaV b.x b.y && zaV b.x b.y)=(zaV a.x a.y && zaV b.x b.y) by cases zaV a.x a.y <;> cases zaV b.x b.y <;> rfl] at kv
  cases ha:zaV a.x a.y && zaV b.x b.y with
  | false=>
    rw [ha] at kv HV
    have HV2:=Lib.hid (show v=0 by rw [HV.out];rfl)
    clear ha HV
    go_wp2_with (go_at_call 180;(with_reducible refine zaj kv.out ?_);intro w1 b1 _ _ _)
    go_ret
    exact Ret.int (by rw [HV2.out]) (zaa D0 b1)
  | true=>
    rw [ha] at kv HV
    have HV2:=Lib.hid (show v=(zfu ((b.x - a.x) * (b.x - a.x)+(b.y - a.y) * (b.y - a.y)).toNat:Int) by rw [HV.out];rfl)
    clear HV
    obtain ⟨ha1,hb1⟩:=Bool.and_eq_true_iff.1 ha
    have kd:=Lib.hid (fun W=>zqT a b ha1 hb1 W)
    simp only [zaV,Bool.and_eq_true,decide_eq_true_eq] at ha1 hb1
    have hx:-4000000≤b.x - a.x∧b.x - a.x≤4000000:=by omega
    have hy:-4000000≤b.y - a.y∧b.y - a.y≤4000000:=by omega
    obtain ⟨s1,s2⟩:=zeg hx.1 hx.2
    obtain ⟨s3,s4⟩:=zeg hy.1 hy.2
    clear ha ha1 hb1
    generalize (b.x - a.x) * (b.x - a.x)=p at *
    generalize (b.y - a.y) * (b.y - a.y)=q at *
    obtain ⟨n,hn⟩:∃ n:Nat,p+q=(n:Int):=⟨(p+q).toNat,by omega⟩
    rw [hn,Int.toNat_natCast] at HV2
    rw [hn] at kd
    have kq:=Lib.hid (fun W=>zoT n (by omega) W)
    clear hx hy s1 s2 s3 s4 hn
    go_wp2_with (first
      | (go_at_call 180;(with_reducible refine zaj kv.out ?_);intro w1 b1 _ _ _
         have j1:zbw w1 ga 0:=⟨_,(A0.step b1).is_pt⟩
         have j2:zcr w1 ga 0=a:=zaZ (A0.step b1).is_pt
         have j3:zbw w1 gb 0:=⟨_,(B0.step b1).is_pt⟩
         have j4:zcr w1 gb 0=b:=zaZ (B0.step b1).is_pt)
      | (go_at_call 182;(with_reducible refine zaj (kd.out _) ?_);intro w3 b3 _ _ _)
      | (go_at_call 181;(with_reducible refine zae (kq.out _) ?_)))
    go_ret
    exact Ret.int (by rw [HV2.out]) (zaa D0 (zaa b1 b3))
end Go.Proofs.YtgoeedohgomodaaGreatDoor
