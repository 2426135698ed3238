/- Lemmas and walks. -/
import Derived.Test.YtgoeedohgomodaaGreatDoorQk26
import Derived.Test.YtgoeedohgomodaaGreatDoorQk23
import Derived.Test.YtgoeedohgomodaaGreatDoorQk11
import Derived.Test.YtgoeedohgomodaaGreatDoorQk16
import Derived.Laws.Tables
import Derived.Test.YtgoeedohgomodaaGreatDoorQk03
import Derived.Deep.RegionHeld3
import Derived.Test.YtgoeedohgomodaaGreatDoorQk01
import Derived.Test.YtgoeedohgomodaaGreatDoorQk12
set_option linter.unusedSimpArgs false
set_option linter.unusedVariables false
namespace Go.Proofs.YtgoeedohgomodaaGreatDoor
open Go.RowKit Go.Sort
set_option maxRecDepth 100000
def V3.vec (v:V3):Vec:=⟨v.1,v.2.1,v.2.2⟩
def ofV (lat lon:Int):Vec:=V3.vec (ofS lat lon)
theorem zfD (lat lon:Int) (w:World):Calls Tryz.prog 197 #[.agg (Pos.arr ⟨lat,lon⟩)] w (Ret w (.bool (zih lat lon))):=by
  go_enter Tryz.func197,Tryz.ntmps197
  go_wp2
  all_goals (go_ret;exact Ret.bool (by grind [zih]) (by go_grown))
def zyj (parts:Array (Nat × Value)):Sem Value:=Instr.build 234 parts
theorem zeb (parts:Array (Nat × Value)):Instr.build 234 parts=zyj parts:=rfl
theorem zd1 (w:World) (a b c:Int):(zyj #[(0, .int .i64 a),(1, .int .i64 b),(2, .int .i64 c)]).run Tryz.prog w=.ok (.agg (Vec.arr ⟨a,b,c⟩)) w:=run_build w _ _ _ (by kernel_rfl)
attribute [local go_sem ↓] zeb
attribute [local go_sem] zd1
theorem zdi {x:Int} (h0:-9223372036854775808≤x) (h1:x≤9223372036854775807):IntKind.i64.wrap x=x:=IntWalk.i64_in _ ⟨h0,h1⟩
set_option maxHeartbeats 2000000 in
theorem zv8 (lat lon:Int) (h0:i64 lat) (h1:i64 lon) (w:World):Calls Tryz.prog 224 #[.agg (Pos.arr ⟨lat,lon⟩)] w (Ret w (.agg (ofV lat lon).arr)):=by
  have HV:=Lib.hid (show ofV lat lon=⟨zaw (zb6 lat * zb6 lon),zaw (zb6 lat * zbH lon),zbH lat⟩ from rfl)
  have p1:=zbK (zb2 lat) (zb2 lon)
  have p2:=zbK (zb2 lat) (zbI lon)
  have kc:=Lib.hid (zin lat h0.1 h0.2)
  have kcl:=Lib.hid (zin lon h1.1 h1.2)
  have ks:=Lib.hid (zgE lat h0.1 h0.2)
  have ksl:=Lib.hid (zgE lon h1.1 h1.2)
  have kr1:=Lib.hid (zew (x:=zb6 lat * zb6 lon) (by omega) (by omega))
  have kr2:=Lib.hid (zew (x:=zb6 lat * zbH lon) (by omega) (by omega))
  have w1:=zdi (x:=zb6 lat * zb6 lon) (by omega) (by omega)
  have w2:=zdi (x:=zb6 lat * zbH lon) (by omega) (by omega)
  generalize zaw (zb6 lat * zb6 lon)=ra at *
  generalize zaw (zb6 lat * zbH lon)=rb at *
  generalize zb6 lat=c at *
  generalize zb6 lon=cl at *
  generalize zbH lat=s at *
  generalize zbH lon=sl at *
  generalize ofV lat lon=out at HV ⊢
  clear p1 p2
  go_enter Tryz.func224,Tryz.ntmps224
  go_upto_region 1 with (fail)
  generalize hW:(w.alloc _).alloc _=W
  have X0:Blk W w.heap.size (Pos.arr ⟨lat,lon⟩):=by rw [← hW];exact (Blk.new w _ _).alloc _
  have R0:Blk W (w.heap.size+1) (Vec.arr ⟨0,0,0⟩):=by rw [← hW,← World.size_alloc w (.cells (Pos.arr ⟨lat,lon⟩) 30)];exact Blk.new _ _ _
  have B0:Below w.heap.size w W:=by rw [← hW];go_grown
  clear hW
  have c1:=X0.cell
  go_upto_region 2 with (go_at_call 237;(with_reducible refine zae (kc.out _) ?_))
  have k0:=cell_regrown (show W.cell? ⟨w.heap.size,0,none⟩=some (.int .i64 lat) from X0.cell 0)
  have k1:=cell_regrown (show W.cell? ⟨w.heap.size,1,none⟩=some (.int .i64 lon) from X0.cell 1)
  have q1:∀ d os,Calls Tryz.prog 237 #[.int .i64 lon] (grow (redrawn W d) os) fun e w''=>e=.returned (.int .i64 cl)∧∃ p:Regrown,w''=grow (redrawn W p.d) p.os:=fun d os=>Calls.regrown_ret ((kcl.out _).mono fun _ _ h=>h.ret)
  have q2:∀ d os,Calls Tryz.prog 236 #[.int .i64 lon] (grow (redrawn W d) os) fun e w''=>e=.returned (.int .i64 sl)∧∃ p:Regrown,w''=grow (redrawn W p.d) p.os:=fun d os=>Calls.regrown_ret ((ksl.out _).mono fun _ _ h=>h.ret)
  have q3:∀ d os,Calls Tryz.prog 236 #[.int .i64 lat] (grow (redrawn W d) os) fun e w''=>e=.returned (.int .i64 s)∧∃ p:Regrown,w''=grow (redrawn W p.d) p.os:=fun d os=>Calls.regrown_ret ((ks.out _).mono fun _ _ h=>h.ret)
  have q4:∀ d os,Calls Tryz.prog 238 #[.int .i64 (c * cl)] (grow (redrawn W d) os) fun e w''=>e=.returned (.int .i64 ra)∧∃ p:Regrown,w''=grow (redrawn W p.d) p.os:=fun d os=>Calls.regrown_ret ((kr1.out _).mono fun _ _ h=>h.ret)
  have q5:∀ d os,Calls Tryz.prog 238 #[.int .i64 (c * sl)] (grow (redrawn W d) os) fun e w''=>e=.returned (.int .i64 rb)∧∃ p:Regrown,w''=grow (redrawn W p.d) p.os:=fun d os=>Calls.regrown_ret ((kr2.out _).mono fun _ _ h=>h.ret)
  refine zb4 16 (by kernel_rfl) (by kernel_rfl) ?_
  simp only [List.take_succ_cons,List.take_zero,List.drop_succ_cons,List.drop_zero]
  repeat (quiet_step (with_reducible first | exact q1 _ _ | exact q2 _ _ | exact q3 _ _ | exact q4 _ _ | exact q5 _ _))
  refine wpQuiet_nil ?_
  intro _ hw'
  obtain ⟨⟨dq,osq⟩,hw''⟩:=hw'
  subst hw''
  have R4:=R0.step (below_regrown W dq osq)
  have B4:=zaa B0 (below_regrown W dq osq)
  clear k0 k1 q1 q2 q3 q4 q5 X0 R0 c1
  generalize grow (redrawn W dq) osq=w4 at R4 B4 ⊢
  have d2:=R4.plain
  have d3:=R4.of
  go_wp2
  exact bodyPost_ret (zbM Tryz.results224 _ _ (w.heap.size+1) (Vec.arr ⟨ra,rb,s⟩) 3 _ rfl rfl (R4.set _).cell Tryz.underlying234 rfl zek) rfl ⟨by rw [HV.out],zab B4 (by omega) _⟩
end Go.Proofs.YtgoeedohgomodaaGreatDoor
namespace Go.Proofs.YtgoeedohgomodaaGreatDoor
open Go.RowKit Go.Sort
set_option maxRecDepth 100000
theorem zoU (x y:Int) (w:World):Calls Tryz.prog 101 #[.agg (Pt.arr ⟨x,y⟩)] w (Ret w (.bool (zdT x y))):=by
  go_enter Tryz.func101,Tryz.ntmps101
  go_wp2
  all_goals (go_ret;exact Ret.bool (by grind [zdT]) (by go_grown))
theorem zq0 (lat lon:Int) (w:World):Calls Tryz.prog 196 #[.agg (Pos.arr ⟨lat,lon⟩)] w (Ret w (.bool (zc4 lat lon))):=by
  have kv:=Lib.hid (zfD lat lon)
  have HO:=Lib.hid (show zc4 lat lon=(zih lat lon && (decide (-25200000≤lat) && decide (lat≤25200000))) from rfl)
  generalize zc4 lat lon=out at *
  generalize zih lat lon=b at *
  go_enter Tryz.func196,Tryz.ntmps196
  go_upto_region 1 with (fail)
  have X0:Blk (w.alloc (.cells (Pos.arr ⟨lat,lon⟩) 30)) w.heap.size (Pos.arr ⟨lat,lon⟩):=Blk.new w _ _
  have B0:=(Below.refl w.heap.size w).alloc (Nat.le_refl _) (.cells (Pos.arr ⟨lat,lon⟩) 30)
  generalize w.alloc _=W at X0 B0 ⊢
  obtain ⟨g0,hg0⟩:∃ g,g=w.heap.size:=⟨_,rfl⟩
  rw [← hg0] at X0 ⊢
  clear hg0
  have i1:za3 W g0 0:=⟨_,X0.is_pos⟩
  have i2:zbm W g0 0=⟨lat,lon⟩:=zaH X0.is_pos
  have k0:W.cell? ⟨g0,0,none⟩=some (.int .i64 lat):=X0.cell 0
  have k1:g0 < W.heap.size:=X0.lt
  go_wp2_with (go_at_call 197;(with_reducible refine zaj (kv.out _) ?_);intro w1 b1 _ _ _)
  all_goals first | (go_ret;exact Ret.bool (by rw [HO.out];simp [*] <;> omega) (zaa B0 b1))
end Go.Proofs.YtgoeedohgomodaaGreatDoor
namespace Go.Proofs.YtgoeedohgomodaaGreatDoor
open Go.RowKit Go.Sort
set_option maxRecDepth 100000
def Q60 (x:Int):Prop:=-1152921504606846976≤x∧x≤1152921504606846976
theorem zlO (u v:Vec) (h1:Q60 (u.a * v.a)) (h2:Q60 (u.b * v.b)) (h3:Q60 (u.c * v.c)) (w:World):Calls Tryz.prog 225 #[.agg u.arr, .agg v.arr] w (Ret w (.int .i64 (zaw (u.a * v.a+u.b * v.b+u.c * v.c)))):=by
  unfold Q60 at h1 h2 h3
  have kr:=Lib.hid (zew (x:=u.a * v.a+u.b * v.b+u.c * v.c) (by omega) (by omega))
  generalize zaw (u.a * v.a+u.b * v.b+u.c * v.c)=out at kr ⊢
  go_enter Tryz.func225,Tryz.ntmps225
  go_upto_region 1 with (fail)
  generalize hW:(w.alloc _).alloc _=W
  have X0:Blk W w.heap.size u.arr:=by rw [← hW];exact (Blk.new w _ _).alloc _
  have Y0:Blk W (w.heap.size+1) v.arr:=by rw [← hW,← World.size_alloc w (.cells u.arr 234)];exact Blk.new _ _ _
  have B0:Below w.heap.size w W:=by rw [← hW];go_grown
  clear hW
  have c1:=X0.cell
  have c2:=Y0.cell
  go_wp2_with (go_at_call 238;(with_reducible refine zae (kr.out _) ?_))
  go_ret
  exact Ret.int rfl B0
def atV (lat lon:Int):Fr:=⟨⟨-zbH lon,zb6 lon,0⟩,⟨-zaw (zbH lat * zb6 lon), -zaw (zbH lat * zbH lon),zb6 lat⟩,ofV lat lon⟩
def zys (parts:Array (Nat × Value)):Sem Value:=Instr.build 264 parts
theorem zt5 (parts:Array (Nat × Value)):Instr.build 264 parts=zys parts:=rfl
theorem zsn (w:World) (e n u:Vec):(zys #[(0, .agg e.arr),(1, .agg n.arr),(2, .agg u.arr)]).run Tryz.prog w=.ok (.agg (Fr.arr ⟨e,n,u⟩)) w:=run_build w _ _ _ (by kernel_rfl)
attribute [local go_sem ↓] zeb zt5
attribute [local go_sem] zd1 zsn
abbrev fr0:Fr:=⟨⟨0,0,0⟩,⟨0,0,0⟩,⟨0,0,0⟩⟩
theorem zeB {P:Program} {f:FuncId} {args:Array Value} {v:Value} {W:World} (h:∀ w,Calls P f args w (RetP w v)):∀ d os,Calls P f args (grow (redrawn W d) os) fun e w''=>e=.returned v∧∃ p:Regrown,w''=grow (redrawn W p.d) p.os:=
  fun d os=>Calls.regrown_ret ((h _).mono fun _ _ h=>h.ret)
set_option maxHeartbeats 4000000 in
theorem zxY (lat lon:Int) (h0:i64 lat) (h1:i64 lon) (w:World):Calls Tryz.prog 223 #[.agg (Pos.arr ⟨lat,lon⟩)] w (Ret w (.agg (atV lat lon).arr)):=by
  have HV:=Lib.hid (show atV lat lon=⟨⟨-zbH lon,zb6 lon,0⟩,⟨-zaw (zbH lat * zb6 lon), -zaw (zbH lat * zbH lon),zb6 lat⟩,ofV lat lon⟩ from rfl)
  have p1:=zbK (zbI lat) (zb2 lon)
  have p2:=zbK (zbI lat) (zbI lon)
  have r1:=zcT p1
  have r2:=zcT p2
  have b1:=zbI lon
  have b2:=zb2 lon
  have kc:=Lib.hid (zin lat h0.1 h0.2)
  have kcl:=Lib.hid (zin lon h1.1 h1.2)
  have ks:=Lib.hid (zgE lat h0.1 h0.2)
  have ksl:=Lib.hid (zgE lon h1.1 h1.2)
  have kr1:=Lib.hid (zew (x:=zbH lat * zb6 lon) (by omega) (by omega))
  have kr2:=Lib.hid (zew (x:=zbH lat * zbH lon) (by omega) (by omega))
  have ko:=Lib.hid (zv8 lat lon h0 h1)
  have w1:=zdi (x:=zbH lat * zb6 lon) (by omega) (by omega)
  have w2:=zdi (x:=zbH lat * zbH lon) (by omega) (by omega)
  generalize zaw (zbH lat * zb6 lon)=ra at *
  generalize zaw (zbH lat * zbH lon)=rb at *
  have w3:=zdi (x:=-ra) (by omega) (by omega)
  have w4:=zdi (x:=-rb) (by omega) (by omega)
  have w5:=zdi (x:=-zbH lon) (by omega) (by omega)
  generalize ofV lat lon=ov at *
  generalize zb6 lat=c at *
  generalize zb6 lon=cl at *
  generalize zbH lat=s at *
  generalize zbH lon=sl at *
  generalize atV lat lon=out at HV ⊢
  clear p1 p2 r1 r2 b1 b2
  go_enter Tryz.func223,Tryz.ntmps223
  go_upto_region 1 with (fail)
  generalize hW:(w.alloc _).alloc _=W
  have X0:Blk W w.heap.size (Pos.arr ⟨lat,lon⟩):=by rw [← hW];exact (Blk.new w _ _).alloc _
  have R0:Blk W (w.heap.size+1) fr0.arr:=by rw [← hW,← World.size_alloc w (.cells (Pos.arr ⟨lat,lon⟩) 30)];exact Blk.new _ _ _
  have B0:Below w.heap.size w W:=by rw [← hW];go_grown
  clear hW
  have k0:=cell_regrown (show W.cell? ⟨w.heap.size,0,none⟩=some (.int .i64 lat) from X0.cell 0)
  have q1:=zeB (W:=W) ks.out
  have q2:=zeB (W:=W) kc.out
  refine wp_region_quiet_below (by kernel_rfl) (by kernel_rfl) ?_
  repeat (quiet_step (with_reducible first | exact q1 _ _ | exact q2 _ _))
  refine wpQuiet_nil ?_
  intro _ hw'
  obtain ⟨⟨dq,osq⟩,hw''⟩:=hw'
  subst hw''
  have R1:=R0.step (below_regrown W dq osq)
  have X1:=X0.step (below_regrown W dq osq)
  have B1:=zaa B0 (below_regrown W dq osq)
  clear k0 q1 q2 R0 X0 B0
  generalize grow (redrawn W dq) osq=W1 at R1 X1 B1 ⊢
  go_upto_region 2 with (fail)
  have k1:=cell_regrown (show W1.cell? ⟨w.heap.size,1,none⟩=some (.int .i64 lon) from X1.cell 1)
  have q1:=zeB (W:=W1) ksl.out
  have q2:=zeB (W:=W1) kcl.out
  refine wp_region_quiet_below (by kernel_rfl) (by kernel_rfl) ?_
  repeat (quiet_step (with_reducible first | exact q1 _ _ | exact q2 _ _))
  refine wpQuiet_nil ?_
  intro _ hw'
  obtain ⟨⟨dq2,osq2⟩,hw''⟩:=hw'
  subst hw''
  have R2:=R1.step (below_regrown W1 dq2 osq2)
  have X2:=X1.step (below_regrown W1 dq2 osq2)
  have B2:=zaa B1 (below_regrown W1 dq2 osq2)
  clear k1 q1 q2 R1 X1 B1
  generalize grow (redrawn W1 dq2) osq2=W2 at R2 X2 B2 ⊢
  go_upto_region 3 with (fail)
  have xlt:=X2.lt
  have j1:∀ d os,za3 (grow (redrawn W2 d) os) w.heap.size 0:=fun d os=>⟨_,X2.is_pos.below (below_regrown W2 d os) xlt⟩
  have j2:∀ d os,zbm (grow (redrawn W2 d) os) w.heap.size 0=⟨lat,lon⟩:=fun d os=>zaH (X2.is_pos.below (below_regrown W2 d os) xlt)
  have q1:=zeB (W:=W2) kr1.out
  have q2:=zeB (W:=W2) kr2.out
  have q3:∀ d os,Calls Tryz.prog 224 #[.agg (Pos.arr ⟨lat,lon⟩)] (grow (redrawn W2 d) os) fun e w''=>e=.returned (.agg ov.arr)∧∃ p:Regrown,w''=grow (redrawn W2 p.d) p.os:=fun d os=>Calls.regrown_ret (ko.out _)
  refine zb4 19 (by kernel_rfl) (by kernel_rfl) ?_
  simp only [List.take_succ_cons,List.take_zero,List.drop_succ_cons,List.drop_zero]
  repeat (quiet_step (with_reducible first | exact q1 _ _ | exact q2 _ _ | exact q3 _ _))
  refine wpQuiet_nil ?_
  intro _ hw'
  obtain ⟨⟨dq3,osq3⟩,hw''⟩:=hw'
  subst hw''
  have R4:=R2.step (below_regrown W2 dq3 osq3)
  have B4:=zaa B2 (below_regrown W2 dq3 osq3)
  clear j1 j2 q1 q2 q3 X2 R2
  generalize grow (redrawn W2 dq3) osq3=W4 at R4 B4 ⊢
  have d2:=R4.plain
  have d3:=R4.of
  go_wp2
  exact bodyPost_ret (zbM Tryz.results223 _ _ (w.heap.size+1) (Fr.arr ⟨⟨-sl,cl,0⟩,⟨-ra, -rb,c⟩,ov⟩) 9 _ rfl rfl (R4.set _).cell Tryz.underlying264 rfl zpZ) rfl ⟨by rw [HV.out],zab B4 (by omega) _⟩
end Go.Proofs.YtgoeedohgomodaaGreatDoor
namespace Go.Proofs.YtgoeedohgomodaaGreatDoor
open Go.RowKit
theorem zdh (w:World) (cs:Array Value) (t:TypeId):Plain (w.alloc (.cells cs t)) w.heap.size=True:=eq_true (Blk.new w cs t).plain
theorem zdd (w:World) (cs:Array Value) (t:TypeId):zbN (w.alloc (.cells cs t)) w.heap.size=cs:=(Blk.new w cs t).of
theorem zdb (w:World) (a:Obj) (cs:Array Value) (t:TypeId):Plain ((w.alloc a).alloc (.cells cs t)) (w.heap.size+1)=True:=eq_true (by have:=(Blk.new (w.alloc a) cs t).plain;simpa using this)
theorem zc9 (w:World) (a:Obj) (cs:Array Value) (t:TypeId):zbN ((w.alloc a).alloc (.cells cs t)) (w.heap.size+1)=cs:=by have:=(Blk.new (w.alloc a) cs t).of;simpa using this
theorem zda (w:World) (b:Obj) (cs:Array Value) (t:TypeId):Plain ((w.alloc (.cells cs t)).alloc b) w.heap.size=True:=eq_true (zj1 _ _ b (by simp) (Blk.new w cs t).plain)
theorem za5 (w:World) (a a' b b':Array Value) (s t:TypeId):Blk ((((w.alloc (.cells a s)).alloc (.cells b t)).setRow w.heap.size a').setRow (w.heap.size+1) b') w.heap.size a' ∧
    Blk ((((w.alloc (.cells a s)).alloc (.cells b t)).setRow w.heap.size a').setRow (w.heap.size+1) b') (w.heap.size+1) b' ∧
    Below w.heap.size w ((((w.alloc (.cells a s)).alloc (.cells b t)).setRow w.heap.size a').setRow (w.heap.size+1) b'):=by
  have h2:Blk ((w.alloc (.cells a s)).alloc (.cells b t)) (w.heap.size+1) b:=by have:=Blk.new (w.alloc (.cells a s)) b t;rwa [World.size_alloc] at this
  refine ⟨(((Blk.new w a s).alloc _).set a').far (by omega) _,(h2.far (by omega) _).set b',?_⟩
  exact zab (zab (zaa ((Below.refl _ _).alloc (Nat.le_refl _) _) ((Below.refl _ _).alloc (Nat.le_refl _) _)) (Nat.le_refl _) _) (by omega) _
end Go.Proofs.YtgoeedohgomodaaGreatDoor
namespace Go.Proofs.YtgoeedohgomodaaGreatDoor
open Go.RowKit Go.Sort
set_option maxRecDepth 100000
attribute [local go_sem ↓] zeb
attribute [local go_sem] zd1
theorem blk_iff {W:World} {g:Nat} {cs:Array Value}:Blk W g cs ↔ Plain W g∧zbN W g=cs:=
  ⟨fun h=>⟨h.plain,h.of⟩,fun ⟨⟨cs',t,h⟩,h2⟩=>⟨t,by have:zbN W g=cs':=Blk.of ⟨t,h⟩;rw [← h2,this];exact h⟩⟩
theorem zt0 {W Y:World} {a:Obj} {cs:Array Value} {t:TypeId} (hb:Below ((W.alloc a).alloc (.cells cs t)).heap.size ((W.alloc a).alloc (.cells cs t)) Y):Blk Y (W.heap.size+1) cs:=by
  have:=(Blk.new (W.alloc a) cs t).step hb;simpa using this
theorem zrN (w:World) (g:Nat):Plain w.drew g=Plain w g:=rfl
theorem zrG (w:World) (g:Nat):zbN w.drew g=zbN w g:=rfl
theorem zoy (w:World) (g:Nat) (cs:Array Value):w.drew.setRow g cs=(w.setRow g cs).drew:=rfl
theorem Blk.drw {w:World} {g:Nat} {cs:Array Value} (h:Blk w g cs):Blk w.drew g cs:=h
attribute [local go_sem] zrN zrG zoy
theorem ztZ {W Y:World} {a:Obj} {cs:Array Value} {t:TypeId} (hb:Below ((W.alloc a).alloc (.cells cs t)).drew.heap.size ((W.alloc a).alloc (.cells cs t)).drew Y):Blk Y (W.heap.size+1) cs:=by
  have:=(Blk.new (W.alloc a) cs t).drw.step hb;simpa using this
theorem zr6 (x:Fr):splice #[.int .i64 0, .int .i64 0, .int .i64 0, .int .i64 0, .int .i64 0, .int .i64 0, .int .i64 0, .int .i64 0, .int .i64 0] 0 x.arr=x.arr:=rfl
theorem zr7 (x:Vec):splice #[.int .i64 0, .int .i64 0, .int .i64 0] 0 x.arr=x.arr:=rfl
attribute [local go_sem] zr6 zr7
attribute [local go_sem] zdh zdd zdb zc9 zda
def zeI (a b c d:Int):Vec:=V3.vec (zd8 a b c d)
theorem zxy {W:World} {g:Nat} {x:Fr} (h:Blk W g x.arr):Is_vec W g 0 x.e∧Is_vec W g 3 x.n∧Is_vec W g 6 x.u:=by
  refine ⟨fun j hj=>?_,fun j hj=>?_,fun j hj=>?_⟩
  all_goals
    rw [h.cell]
    match j,hj with
    | 0,_ | 1,_ | 2,_=>rfl
set_option maxHeartbeats 4000000 in
theorem zqy (a b c d:Int) (ha:i64 a) (hb:i64 b) (hc:i64 c) (hd:i64 d) (w:World):Calls Tryz.prog 213 #[.agg (Pos.arr ⟨a,b⟩), .agg (Pos.arr ⟨c,d⟩)] w (Ret w (.agg (zeI a b c d).arr)):=by
  have hv:U3 (ofS c d):=zk4 c d
  have hp:U3 (ofS a b):=zk4 a b
  obtain ⟨x1,x2,x3,_⟩:=zjM (zk5 (zbI b)) (zb2 b) (c:=0) (by decide) hv
  obtain ⟨y1,y2,y3,_⟩:=zjM (zk5 (zcT (zbK (zbI a) (zb2 b)))) (zk5 (zcT (zbK (zbI a) (zbI b)))) (zb2 a) hv
  obtain ⟨z1,z2,z3,_⟩:=zjM hp.1 hp.2.1 hp.2.2 hv
  have k1:=Lib.hid (zlO (atV a b).e (ofV c d) x1 x2 x3)
  have k2:=Lib.hid (zlO (atV a b).n (ofV c d) y1 y2 y3)
  have k3:=Lib.hid (zlO (atV a b).u (ofV c d) z1 z2 z3)
  have HL:=Lib.hid (show zeI a b c d=⟨zaw ((atV a b).e.a * (ofV c d).a+(atV a b).e.b * (ofV c d).b+(atV a b).e.c * (ofV c d).c),zaw ((atV a b).n.a * (ofV c d).a+(atV a b).n.b * (ofV c d).b+(atV a b).n.c * (ofV c d).c),zaw ((atV a b).u.a * (ofV c d).a+(atV a b).u.b * (ofV c d).b+(atV a b).u.c * (ofV c d).c)⟩ from rfl)
  clear hv hp x1 x2 x3 y1 y2 y3 z1 z2 z3
  have kat:=Lib.hid (zxY a b ha hb)
  have kof:=Lib.hid (zv8 c d hc hd)
  generalize zaw ((atV a b).e.a * (ofV c d).a+(atV a b).e.b * (ofV c d).b+(atV a b).e.c * (ofV c d).c)=e1 at *
  generalize zaw ((atV a b).n.a * (ofV c d).a+(atV a b).n.b * (ofV c d).b+(atV a b).n.c * (ofV c d).c)=e2 at *
  generalize zaw ((atV a b).u.a * (ofV c d).a+(atV a b).u.b * (ofV c d).b+(atV a b).u.c * (ofV c d).c)=e3 at *
  generalize atV a b=fr at *
  generalize ofV c d=ov at *
  generalize zeI a b c d=out at HL ⊢
  clear ha hb hc hd
  go_enter Tryz.func213,Tryz.ntmps213
  go_upto_region 1 with (fail)
  generalize hW:((w.alloc _).alloc _).alloc _=W
  have X0:Blk W w.heap.size (Pos.arr ⟨a,b⟩):=by rw [← hW];exact ((Blk.new w _ _).alloc _).alloc _
  have Y0:Blk W (w.heap.size+1) (Pos.arr ⟨c,d⟩):=by rw [← hW,← World.size_alloc w (.cells (Pos.arr ⟨a,b⟩) 30)];exact (Blk.new _ _ _).alloc _
  have R0:Blk W (w.heap.size+1+1) (Vec.arr ⟨0,0,0⟩):=by rw [← hW,← World.size_alloc w (.cells (Pos.arr ⟨a,b⟩) 30),← World.size_alloc (w.alloc (.cells (Pos.arr ⟨a,b⟩) 30)) (.cells (Pos.arr ⟨c,d⟩) 30)];exact Blk.new _ _ _
  have B0:Below w.heap.size w W:=by rw [← hW];go_grown
  clear hW
  obtain ⟨g1,hg1⟩:∃ g,g=w.heap.size+1:=⟨_,rfl⟩
  obtain ⟨g2,hg2⟩:∃ g,g=w.heap.size+1+1:=⟨_,rfl⟩
  obtain ⟨g0,hg0⟩:∃ g,g=w.heap.size:=⟨_,rfl⟩
  rw [← hg2] at R0 ⊢
  rw [← hg1] at Y0 ⊢
  rw [← hg0] at X0 ⊢
  have hgle:w.heap.size≤g2:=by omega
  clear hg0 hg1 hg2
  go_cut [5,6] (fun u v wx=>∃ fb vb,u=.pointer (some ⟨fb,0,none⟩)∧v=.pointer (some ⟨vb,0,none⟩)∧Blk wx fb fr.arr∧Blk wx vb ov.arr∧Below W.heap.size W wx)
  case first=>
    have D2:Below W.heap.size W W.drew:=(Below.refl _ _).drew
    have IS:=Lib.hid (fun W' (hB:Below W.heap.size W W')=>show (za3 W' g0 0∧zbm W' g0 0=⟨a,b⟩)∧(za3 W' g1 0∧zbm W' g1 0=⟨c,d⟩) from ⟨⟨⟨_,(X0.step hB).is_pos⟩,zaH (X0.step hB).is_pos⟩,⟨⟨_,(Y0.step hB).is_pos⟩,zaH (Y0.step hB).is_pos⟩⟩)
    have hd2:W.heap.size≤W.drew.heap.size:=Nat.le_refl _
    go_region_held3 (fun w'=>(za3 w' g0 0∧zbm w' g0 0=⟨a,b⟩)∧(za3 w' g1 0∧zbm w' g1 0=⟨c,d⟩)) ((refine IS.out _ ?_;repeat' (first | assumption | omega | (refine zab ?_ ?_ _) | (refine Below.alloc ?_ ?_ _) | (refine Below.drew ?_) | exact Below.refl _ _ | (simp;done) | (simp;omega))))
      (first
        | (go_at_call 223
           with_reducible refine zaj (kat.out _) ?_
           intro wa Ba0 _ _ hza
           have Ba:Below W.heap.size W wa:=zaa (by repeat' (first | assumption | omega | (refine Below.alloc ?_ ?_ _) | (refine Below.drew ?_) | exact Below.refl _ _ | (simp;done) | (simp;omega))) Ba0
           have hsa:=Ba.size
           try have l1:W.heap.size < wa.heap.size:=by have:=hza;simp at this;omega
           try have l2:W.heap.size+1 < wa.heap.size:=by have:=hza;simp at this;omega
           try have A1:=(Blk.new W _ _).drw.step Ba0
           try have A1:=((Blk.new W _ _).alloc _).drw.step Ba0
           try have A2:=ztZ Ba0
           try have a1:=A1.plain
           try have a2:=A1.of
           try have a3:=A2.plain
           try have a4:=A2.of)
        | (go_at_call 224
           with_reducible refine zaj (kof.out _) ?_
           intro wo Bo0 _ _ hzo
           have Bo:Below W.heap.size W wo:=zaa (by repeat' (first | assumption | omega | (refine Below.alloc ?_ ?_ _) | (refine Below.drew ?_) | exact Below.refl _ _ | (simp;done) | (simp;omega))) Bo0
           have hso:=Bo.size
           try have l3:wa.heap.size < wo.heap.size:=by have:=hzo;simp at this;omega
           try have l4:wa.heap.size+1 < wo.heap.size:=by have:=hzo;simp at this;omega
           try have l5:W.heap.size < wo.heap.size:=by have:=hzo;simp at this;omega
           try have l6:W.heap.size+1 < wo.heap.size:=by have:=hzo;simp at this;omega
           try have O1:=(Blk.new wa _ _).step Bo0
           try have O1:=((Blk.new wa _ _).alloc _).step Bo0
           try have O2:=zt0 Bo0
           try have O3:=A1.step Bo0
           try have O3:=(A1.alloc _).step Bo0
           try have O4:=A2.step Bo0
           try have o1:=O1.plain
           try have o2:=O1.of
           try have o3:=O2.plain
           try have o4:=O2.of
           try have o5:=O3.plain
           try have o6:=O3.of
           try have o7:=O4.plain
           try have o8:=O4.of
           try have z1a:=fun o=>(O1.alloc o).plain
           try have z1b:=fun o=>(O1.alloc o).of
           try have z2a:=fun o=>(O2.alloc o).plain
           try have z2b:=fun o=>(O2.alloc o).of
           try have z3a:=fun o=>(O3.alloc o).plain
           try have z3b:=fun o=>(O3.alloc o).of
           try have z4a:=fun o=>(O4.alloc o).plain
           try have z4b:=fun o=>(O4.alloc o).of
           try have n1:¬ wa.heap.size=wo.heap.size:=by omega
           try have n2:¬ wo.heap.size=wa.heap.size:=by omega
           try have n3:¬ W.heap.size=wo.heap.size:=by omega
           try have n4:¬ wo.heap.size=W.heap.size:=by omega
           try have n5:¬ W.heap.size=wa.heap.size:=by omega
           try have n6:¬ wa.heap.size=W.heap.size:=by omega))
    all_goals
      go_wp2
      go_meet
      refine ⟨_,_,rfl,rfl,blk_iff.2 ⟨?_,?_⟩,blk_iff.2 ⟨?_,?_⟩,?_⟩
    all_goals try (go_simp;done)
    all_goals try (simp [go_sem, *];done)
    all_goals repeat' (first | assumption | omega | (refine zab ?_ ?_ _) | (refine Below.alloc ?_ ?_ _) | (refine Below.drew ?_) | exact Below.refl _ _ | (simp;done) | (simp;omega))
  case rest=>
    obtain ⟨fb,vb,rfl,rfl,F,V,B1⟩:=hcut
    have R1:=R0.step B1
    have BB:=zaa B0 B1
    clear X0 Y0 R0 B0 B1
    obtain ⟨f1,f2,f3⟩:=zxy F
    have fl:=F.lt
    have vl:=V.lt
    go_upto_region 2 with (fail)
    have j1:∀ d os,ze7 (grow (redrawn wc d) os) fb 0:=fun d os=>⟨_,f1.below (below_regrown wc d os) fl⟩
    have j2:∀ d os,zeF (grow (redrawn wc d) os) fb 0=fr.e:=fun d os=>zeE (f1.below (below_regrown wc d os) fl)
    have j3:∀ d os,ze7 (grow (redrawn wc d) os) fb 3:=fun d os=>⟨_,f2.below (below_regrown wc d os) fl⟩
    have j4:∀ d os,zeF (grow (redrawn wc d) os) fb 3=fr.n:=fun d os=>zeE (f2.below (below_regrown wc d os) fl)
    have j5:∀ d os,ze7 (grow (redrawn wc d) os) fb 6:=fun d os=>⟨_,f3.below (below_regrown wc d os) fl⟩
    have j6:∀ d os,zeF (grow (redrawn wc d) os) fb 6=fr.u:=fun d os=>zeE (f3.below (below_regrown wc d os) fl)
    have j7:∀ d os,ze7 (grow (redrawn wc d) os) vb 0:=fun d os=>⟨_,V.is_vec.below (below_regrown wc d os) vl⟩
    have j8:∀ d os,zeF (grow (redrawn wc d) os) vb 0=ov:=fun d os=>zeE (V.is_vec.below (below_regrown wc d os) vl)
    have q1:∀ d os,Calls Tryz.prog 225 #[.agg fr.e.arr, .agg ov.arr] (grow (redrawn wc d) os) fun e w''=>e=.returned (.int .i64 e1)∧∃ p:Regrown,w''=grow (redrawn wc p.d) p.os:=fun d os=>Calls.regrown_ret (k1.out _)
    have q2:∀ d os,Calls Tryz.prog 225 #[.agg fr.n.arr, .agg ov.arr] (grow (redrawn wc d) os) fun e w''=>e=.returned (.int .i64 e2)∧∃ p:Regrown,w''=grow (redrawn wc p.d) p.os:=fun d os=>Calls.regrown_ret (k2.out _)
    have q3:∀ d os,Calls Tryz.prog 225 #[.agg fr.u.arr, .agg ov.arr] (grow (redrawn wc d) os) fun e w''=>e=.returned (.int .i64 e3)∧∃ p:Regrown,w''=grow (redrawn wc p.d) p.os:=fun d os=>Calls.regrown_ret (k3.out _)
    refine zb4 13 (by kernel_rfl) (by kernel_rfl) ?_
    simp only [List.take_succ_cons,List.take_zero,List.drop_succ_cons,List.drop_zero]
    repeat (quiet_step (with_reducible first | exact q1 _ _ | exact q2 _ _ | exact q3 _ _))
    refine wpQuiet_nil ?_
    intro _ hw'
    obtain ⟨⟨dq,osq⟩,hw''⟩:=hw'
    subst hw''
    have R4:=R1.step (below_regrown wc dq osq)
    have B4:=zaa BB (below_regrown wc dq osq)
    clear j1 j2 j3 j4 j5 j6 j7 j8 q1 q2 q3 F V R1
    generalize grow (redrawn wc dq) osq=w4 at R4 B4 ⊢
    have d2:=R4.plain
    have d3:=R4.of
    go_wp2
    exact bodyPost_ret (zbM Tryz.results213 _ _ g2 (Vec.arr ⟨e1,e2,e3⟩) 3 _ rfl rfl (R4.set _).cell Tryz.underlying234 rfl zek) rfl ⟨by rw [HL.out],zab B4 hgle _⟩
end Go.Proofs.YtgoeedohgomodaaGreatDoor
namespace Go.Proofs.YtgoeedohgomodaaGreatDoor
open Go.RowKit Go.Sort
set_option maxRecDepth 100000
attribute [local go_sem ↓] zeb
attribute [local go_sem] zd1
set_option maxHeartbeats 2000000 in
theorem zqB (a b c d:Int) (ha:zih a b=true) (hc:zih c d=true) (w:World):Calls Tryz.prog 198 #[.agg (Pos.arr ⟨a,b⟩), .agg (Pos.arr ⟨c,d⟩)] w (Ret w (.tuple #[.agg (zeI a b c d).arr, .int .i64 0])):=by
  have p1:i64 a∧i64 b:=by simp only [zih,Bool.and_eq_true,decide_eq_true_eq] at ha;unfold i64;omega
  have p2:i64 c∧i64 d:=by simp only [zih,Bool.and_eq_true,decide_eq_true_eq] at hc;unfold i64;omega
  have kl:=Lib.hid (zqy a b c d p1.1 p1.2 p2.1 p2.2)
  have k1:=Lib.hid (zfD a b)
  have k2:=Lib.hid (zfD c d)
  rw [ha] at k1
  rw [hc] at k2
  generalize zeI a b c d=out at kl ⊢
  clear ha hc p1 p2
  go_enter Tryz.func198,Tryz.ntmps198
  go_upto_region 1 with (fail)
  generalize hW:((w.alloc _).alloc _).alloc _=W
  have X0:Blk W w.heap.size (Pos.arr ⟨a,b⟩):=by rw [← hW];exact ((Blk.new w _ _).alloc _).alloc _
  have Y0:Blk W (w.heap.size+1) (Pos.arr ⟨c,d⟩):=by rw [← hW,← World.size_alloc w (.cells (Pos.arr ⟨a,b⟩) 30)];exact (Blk.new _ _ _).alloc _
  have R0:Blk W (w.heap.size+1+1) (Vec.arr ⟨0,0,0⟩):=by rw [← hW,← World.size_alloc w (.cells (Pos.arr ⟨a,b⟩) 30),← World.size_alloc (w.alloc (.cells (Pos.arr ⟨a,b⟩) 30)) (.cells (Pos.arr ⟨c,d⟩) 30)];exact Blk.new _ _ _
  have B0:Below w.heap.size w W:=by rw [← hW];go_grown
  clear hW
  obtain ⟨g1,hg1⟩:∃ g,g=w.heap.size+1:=⟨_,rfl⟩
  obtain ⟨g2,hg2⟩:∃ g,g=w.heap.size+1+1:=⟨_,rfl⟩
  obtain ⟨g0,hg0⟩:∃ g,g=w.heap.size:=⟨_,rfl⟩
  rw [← hg2] at R0 ⊢
  rw [← hg1] at Y0 ⊢
  rw [← hg0] at X0 ⊢
  have hgle:w.heap.size≤g2:=by omega
  clear hg0 hg1 hg2
  have HX:=Lib.hid (fun W' (h:Below W.heap.size W W')=>X0.step h)
  have HY:=Lib.hid (fun W' (h:Below W.heap.size W W')=>Y0.step h)
  have i1:za3 W g0 0:=⟨_,X0.is_pos⟩
  have i2:zbm W g0 0=⟨a,b⟩:=zaH X0.is_pos
  go_upto_region 3 with (first
    | (go_at_call 197;(with_reducible refine zaj (k1.out _) ?_);intro w1 b1 _ _ _
       have i3:za3 w1 g1 0:=⟨_,(HY.out w1 b1).is_pos⟩
       have i4:zbm w1 g1 0=⟨c,d⟩:=zaH (HY.out w1 b1).is_pos)
    | (go_at_call 197;(with_reducible refine zaj (k2.out _) ?_);intro w2 b2 _ _ _))
  have b12:=zaa b1 b2
  have X2:=HX.out _ b12
  have Y2:=HY.out _ b12
  have R2:=R0.step b12
  have B2:=zaa B0 b12
  clear i1 i2 i3 i4 X0 Y0 R0 B0 HX HY b1 b2 b12
  have i1:za3 w2 g0 0:=⟨_,X2.is_pos⟩
  have i2:zbm w2 g0 0=⟨a,b⟩:=zaH X2.is_pos
  have i3:za3 w2 g1 0:=⟨_,Y2.is_pos⟩
  have i4:zbm w2 g1 0=⟨c,d⟩:=zaH Y2.is_pos
  go_wp2_with fail
  with_reducible refine zaj (kl.out _) ?_
  intro w3 b3 _ _ _
  have R3:=R2.step b3
  have B3:=zaa B2 b3
  have d2:=R3.plain
  have d3:=R3.of
  clear i1 i2 i3 i4 X2 Y2 R2 B2 b3
  go_wp2
  exact bodyPost_ret (zal Tryz.results198 _ _ g2 out.arr 3 _ rfl rfl (R3.set _).cell Tryz.underlying234 rfl zek) rfl ⟨rfl,zab B3 hgle _⟩
end Go.Proofs.YtgoeedohgomodaaGreatDoor
namespace Go.Proofs.YtgoeedohgomodaaGreatDoor
open Go.RowKit Go.Sort
set_option maxRecDepth 100000
attribute [local go_sem ↓] zeb
attribute [local go_sem] zd1
end Go.Proofs.YtgoeedohgomodaaGreatDoor
namespace Go.Proofs.YtgoeedohgomodaaGreatDoor
theorem zs0 {N c:Nat} (hc:0 < c):N / c+(if c - N % c≤N % c then 1 else 0)≤N:=by
  split
  · rename_i h
    have hr:=Nat.mod_lt N hc
    have hd:=Nat.div_add_mod N c
    by_cases h0:N / c=0
    · rw [h0,Nat.mul_zero] at hd;omega
    · have:2 * (N / c)≤c * (N / c):=Nat.mul_le_mul_right _ (by omega)
      omega
  · exact Nat.div_le_self _ _
theorem zwI {N c:Nat} (hc:0 < c):N / c+(if c - N % c < N % c then 1 else 0)≤N:=by
  refine Nat.le_trans ?_ (zs0 hc)
  refine Nat.add_le_add_left ?_ _
  split
  · rename_i h
    rw [if_pos (Nat.le_of_lt h)]
    exact Nat.le_refl _
  · exact Nat.zero_le _
end Go.Proofs.YtgoeedohgomodaaGreatDoor
namespace Go.Proofs.YtgoeedohgomodaaGreatDoor
open Go.RowKit Go.Sort
set_option maxRecDepth 100000
theorem zdt (x:Int):IntKind.u64.wrap x=x % 18446744073709551616:=rfl
theorem zeK (a:Int) (h:i64 a) (w:World):Calls Tryz.prog 226 #[.int .i64 a] w (RetP w (.int .u64 ((a.natAbs:Nat):Int))):=by
  obtain ⟨h0,h1⟩:=h
  go_enter Tryz.func226,Tryz.ntmps226
  go_wp2
  all_goals (go_ret;exact RetP.int (by try rw [zdt]
                                       try rw [zdt]
                                       omega) rfl)
theorem zp6 (l d:Nat) (hl:l < 18446744073709551616) (hd0:0 < d) (hd:d < 18446744073709551616) (w:World):Calls Tryz.prog 228 #[.int .u64 0, .int .u64 (l:Int), .int .u64 (d:Int)] w (Ret w (.tuple #[.int .u64 ((l / d:Nat):Int), .int .u64 ((l % d:Nat):Int)])):=by
  have e1:((l / d:Nat):Int)=IntKind.u64.wrap ((l:Int) / (d:Int)):=by
    have:l / d≤l:=Nat.div_le_self _ _
    rw [zdt,← Int.natCast_ediv]
    generalize l / d=q at *
    omega
  have e2:((l % d:Nat):Int)=(l:Int) % (d:Int):=Int.natCast_emod _ _
  go_enter Tryz.func228,Tryz.ntmps228
  go_wp2
  go_region
  go_wp2
  go_ret2
  exact ⟨by rw [← e1,← e2];rfl,by go_grown⟩
theorem zpe (n:Int) (h0:0≤n) (hn:n < 9223372036854775808) (w:World):Calls Tryz.prog 229 #[.int .u64 n, .bool false] w (RetP w (.tuple #[.int .i64 n, .int .i64 0])):=by
  go_enter Tryz.func229,Tryz.ntmps229
  go_wp2
  go_ret2
  exact ⟨rfl,rfl⟩
theorem zpf (n:Int) (h0:0≤n) (hn:n < 9223372036854775808) (w:World):Calls Tryz.prog 229 #[.int .u64 n, .bool true] w (RetP w (.tuple #[.int .i64 (-n), .int .i64 0])):=by
  have e:wrap64 (IntKind.u64.wrap (-n))=-n:=by
    rw [zdt]
    unfold wrap64
    omega
  go_enter Tryz.func229,Tryz.ntmps229
  go_wp2
  go_ret2
  exact ⟨by rw [e];rfl,rfl⟩
def zhF (neg:Bool) (n c:Nat):Nat:=if neg then (if c - n % c < n % c then 1 else 0) else (if c - n % c≤n % c then 1 else 0)
theorem ziD {neg:Bool} {n c:Nat} (hc:0 < c):n / c+zhF neg n c≤n:=by
  unfold zhF
  split
  · exact zwI hc
  · exact zs0 hc
theorem ziu (a c:Int):zcC a c=if decide (a < 0) then -((a.natAbs / c.natAbs+zhF (decide (a < 0)) a.natAbs c.natAbs:Nat):Int) else ((a.natAbs / c.natAbs+zhF (decide (a < 0)) a.natAbs c.natAbs:Nat):Int):=by
  unfold zcC zhF
  by_cases h:a < 0
  · simp only [h,decide_true,if_true]
  · simp only [h,decide_false,if_false,Bool.false_eq_true]
theorem zp3 (x y:Nat) (hx:x < 18446744073709551616) (hy:y < 18446744073709551616) (h:x * y < 18446744073709551616) (w:World):Calls Tryz.prog 227 #[.int .u64 (x:Int), .int .u64 (y:Int)] w (RetP w (.tuple #[.int .u64 0, .int .u64 ((x * y:Nat):Int)])):=by
  refine (Tryz.bits_Mul64 x y hx hy w).mono fun e w' hh=>?_
  rw [Nat.div_eq_of_lt h,Nat.mod_eq_of_lt h] at hh
  exact ⟨hh.1,hh.2.symm⟩
theorem zrg (a b c:Int) (a0:0 < a) (a1:i64 a) (b1:i64 b) (c0:0 < c) (c1:i64 c) (hn:a.natAbs * b.natAbs < 9223372036854775808) (hb:b < 0) (w:World):Calls Tryz.prog 214 #[.int .i64 a, .int .i64 b, .int .i64 c, .int .u8 2] w (Ret w (.tuple #[.int .i64 (zcC (a * b) c), .int .i64 0])):=by
  have e0:(a * b).natAbs=a.natAbs * b.natAbs:=Int.natAbs_mul a b
  have e1:decide (a * b < 0)=true:=by
    rw [decide_eq_true_eq];exact Int.mul_neg_of_pos_of_neg a0 hb
  have hnear:=ziu (a * b) c
  rw [e1,if_pos rfl,e0] at hnear
  have hle:=ziD (neg:=true) (n:=a.natAbs * b.natAbs) (c:=c.natAbs) (by omega)
  have hak:zhF true (a.natAbs * b.natAbs) c.natAbs=if c.natAbs - (a.natAbs * b.natAbs) % c.natAbs < (a.natAbs * b.natAbs) % c.natAbs then 1 else 0:=rfl
  have hr:(a.natAbs * b.natAbs) % c.natAbs < c.natAbs:=Nat.mod_lt _ (by omega)
  have hna:a.natAbs < 18446744073709551616:=by have:=a1.1;have:=a1.2;omega
  have hnb:b.natAbs < 18446744073709551616:=by have:=b1.1;have:=b1.2;omega
  have hc63:c.natAbs < 9223372036854775808:=by have:=c1.1;have:=c1.2;omega
  have hcp:0 < c.natAbs:=by omega
  have k1:=Lib.hid (zeK a a1)
  have k2:=Lib.hid (zeK b b1)
  have k3:=Lib.hid (zeK c c1)
  have k4:=Lib.hid (fun w=>zp3 a.natAbs b.natAbs hna hnb (Nat.lt_trans hn (by decide)) w)
  have k5:=Lib.hid (fun w=>zp6 (a.natAbs * b.natAbs) c.natAbs (Nat.lt_trans hn (by decide)) hcp (Nat.lt_trans hc63 (by decide)) w)
  have hq63:(a.natAbs * b.natAbs) / c.natAbs≤a.natAbs * b.natAbs:=Nat.div_le_self _ _
  clear e0 e1
  generalize zcC (a * b) c=out at *
  generalize zhF true (a.natAbs * b.natAbs) c.natAbs=k at *
  generalize a.natAbs * b.natAbs / c.natAbs=q at *
  generalize a.natAbs * b.natAbs % c.natAbs=r at *
  generalize a.natAbs * b.natAbs=n at *
  generalize c.natAbs=d at *
  generalize a.natAbs=na at *
  generalize b.natAbs=nb at *
  rw [Int.natCast_add] at hnear
  have k6:=Lib.hid (show ∀ w,Calls Tryz.prog 229 #[.int .u64 ((q:Int)+k), .bool true] w (RetP w (.tuple #[.int .i64 out, .int .i64 0])) from fun w=>by rw [hnear];exact zpf ((q:Int)+k) (by omega) (by omega) w)
  have hd0:(0:Int) < d:=by omega
  have hrd:(r:Int) < d:=by omega
  have hw:IntKind.u64.wrap ((d:Int) - r)=(d:Int) - r:=by rw [zdt];omega
  have hw2:IntKind.u64.wrap ((q:Int)+1)=(q:Int)+1:=by rw [zdt];omega
  have hn63:(n:Int) < 9223372036854775808:=by omega
  have hq64:(q:Int) < 9223372036854775808:=by omega
  have hd63:(d:Int) < 9223372036854775808:=by omega
  have hdn:¬ (0:Int) ≥ d:=by omega
  have ha:(a < 0)=False:=by simp;omega
  have hb':(b < 0)=True:=by simp;omega
  have hc:(c < 0)=False:=by simp;omega
  have hcz:(c == 0)=false:=by simp;omega
  have hki:(k:Int)=if ((d:Int) - r < (r:Int)) then 1 else 0:=by
    rw [hak]
    split <;> split <;> omega
  have hr0:(0:Int)≤r:=by omega
  have k7:=Lib.hid (show ¬ ((d:Int) - r < (r:Int))→∀ w,Calls Tryz.prog 229 #[.int .u64 (q:Int), .bool true] w (RetP w (.tuple #[.int .i64 out, .int .i64 0])) from fun h w=>by have:=k6.out w;rw [hki,if_neg h,Int.add_zero] at this;exact this)
  have k8:=Lib.hid (show ((d:Int) - r < (r:Int))→∀ w,Calls Tryz.prog 229 #[.int .u64 ((q:Int)+1), .bool true] w (RetP w (.tuple #[.int .i64 out, .int .i64 0])) from fun h w=>by have:=k6.out w;rw [hki,if_pos h] at this;exact this)
  have hq0:(0:Int)≤q:=by omega
  clear hn hnear hle hr hq63 hc63 hak hcp hna hnb hki k6
  generalize (k:Int)=ki at *
  generalize (q:Int)=qi at *
  generalize (r:Int)=ri at *
  generalize (n:Int)=ni at *
  generalize (d:Int)=di at *
  generalize (na:Int)=nai at *
  generalize (nb:Int)=nbi at *
  go_enter Tryz.func214,Tryz.ntmps214
  go_wp2_with (first | (go_at_call 226;first | (with_reducible refine zae (k1.out _) ?_) | (with_reducible refine zae (k2.out _) ?_) | (with_reducible refine zae (k3.out _) ?_)) | (go_at_call 227;(with_reducible refine zae (k4.out _) ?_)) | (go_at_call 228;(with_reducible refine zaj (k5.out _) ?_;intro _ _ _ _ _)) | (go_at_call 229;first | (with_reducible refine zae (k7.out (by omega) _) ?_) | (with_reducible refine zae (k8.out (by omega) _) ?_)))
  all_goals (go_ret2;exact ⟨rfl,by assumption⟩)
theorem zrf (a b c:Int) (a0:0 < a) (a1:i64 a) (b1:i64 b) (c0:0 < c) (c1:i64 c) (hn:a.natAbs * b.natAbs < 9223372036854775808) (hb:0≤b) (w:World):Calls Tryz.prog 214 #[.int .i64 a, .int .i64 b, .int .i64 c, .int .u8 2] w (Ret w (.tuple #[.int .i64 (zcC (a * b) c), .int .i64 0])):=by
  have e0:(a * b).natAbs=a.natAbs * b.natAbs:=Int.natAbs_mul a b
  have e1:decide (a * b < 0)=false:=by
    rw [decide_eq_false_iff_not];exact Int.not_lt.mpr (Int.mul_nonneg (Int.le_of_lt a0) hb)
  have hnear:=ziu (a * b) c
  rw [e1,if_neg Bool.false_ne_true,e0] at hnear
  have hle:=ziD (neg:=false) (n:=a.natAbs * b.natAbs) (c:=c.natAbs) (by omega)
  have hak:zhF false (a.natAbs * b.natAbs) c.natAbs=if c.natAbs - (a.natAbs * b.natAbs) % c.natAbs≤(a.natAbs * b.natAbs) % c.natAbs then 1 else 0:=rfl
  have hr:(a.natAbs * b.natAbs) % c.natAbs < c.natAbs:=Nat.mod_lt _ (by omega)
  have hna:a.natAbs < 18446744073709551616:=by have:=a1.1;have:=a1.2;omega
  have hnb:b.natAbs < 18446744073709551616:=by have:=b1.1;have:=b1.2;omega
  have hc63:c.natAbs < 9223372036854775808:=by have:=c1.1;have:=c1.2;omega
  have hcp:0 < c.natAbs:=by omega
  have k1:=Lib.hid (zeK a a1)
  have k2:=Lib.hid (zeK b b1)
  have k3:=Lib.hid (zeK c c1)
  have k4:=Lib.hid (fun w=>zp3 a.natAbs b.natAbs hna hnb (Nat.lt_trans hn (by decide)) w)
  have k5:=Lib.hid (fun w=>zp6 (a.natAbs * b.natAbs) c.natAbs (Nat.lt_trans hn (by decide)) hcp (Nat.lt_trans hc63 (by decide)) w)
  have hq63:(a.natAbs * b.natAbs) / c.natAbs≤a.natAbs * b.natAbs:=Nat.div_le_self _ _
  clear e0 e1
  generalize zcC (a * b) c=out at *
  generalize zhF false (a.natAbs * b.natAbs) c.natAbs=k at *
  generalize a.natAbs * b.natAbs / c.natAbs=q at *
  generalize a.natAbs * b.natAbs % c.natAbs=r at *
  generalize a.natAbs * b.natAbs=n at *
  generalize c.natAbs=d at *
  generalize a.natAbs=na at *
  generalize b.natAbs=nb at *
  rw [Int.natCast_add] at hnear
  have k6:=Lib.hid (show ∀ w,Calls Tryz.prog 229 #[.int .u64 ((q:Int)+k), .bool false] w (RetP w (.tuple #[.int .i64 out, .int .i64 0])) from fun w=>by rw [hnear];exact zpe ((q:Int)+k) (by omega) (by omega) w)
  have hd0:(0:Int) < d:=by omega
  have hrd:(r:Int) < d:=by omega
  have hw:IntKind.u64.wrap ((d:Int) - r)=(d:Int) - r:=by rw [zdt];omega
  have hw2:IntKind.u64.wrap ((q:Int)+1)=(q:Int)+1:=by rw [zdt];omega
  have hn63:(n:Int) < 9223372036854775808:=by omega
  have hq64:(q:Int) < 9223372036854775808:=by omega
  have hd63:(d:Int) < 9223372036854775808:=by omega
  have hdn:¬ (0:Int) ≥ d:=by omega
  have ha:(a < 0)=False:=by simp;omega
  have hb':(b < 0)=False:=by simp;omega
  have hc:(c < 0)=False:=by simp;omega
  have hcz:(c == 0)=false:=by simp;omega
  have hki:(k:Int)=if ((d:Int) - r≤(r:Int)) then 1 else 0:=by
    rw [hak]
    split <;> split <;> omega
  have hr0:(0:Int)≤r:=by omega
  have k7:=Lib.hid (show ¬ ((d:Int) - r≤(r:Int))→∀ w,Calls Tryz.prog 229 #[.int .u64 (q:Int), .bool false] w (RetP w (.tuple #[.int .i64 out, .int .i64 0])) from fun h w=>by have:=k6.out w;rw [hki,if_neg h,Int.add_zero] at this;exact this)
  have k8:=Lib.hid (show ((d:Int) - r≤(r:Int))→∀ w,Calls Tryz.prog 229 #[.int .u64 ((q:Int)+1), .bool false] w (RetP w (.tuple #[.int .i64 out, .int .i64 0])) from fun h w=>by have:=k6.out w;rw [hki,if_pos h] at this;exact this)
  have hq0:(0:Int)≤q:=by omega
  clear hn hnear hle hr hq63 hc63 hak hcp hna hnb hki k6
  generalize (k:Int)=ki at *
  generalize (q:Int)=qi at *
  generalize (r:Int)=ri at *
  generalize (n:Int)=ni at *
  generalize (d:Int)=di at *
  generalize (na:Int)=nai at *
  generalize (nb:Int)=nbi at *
  go_enter Tryz.func214,Tryz.ntmps214
  go_wp2_with (first | (go_at_call 226;first | (with_reducible refine zae (k1.out _) ?_) | (with_reducible refine zae (k2.out _) ?_) | (with_reducible refine zae (k3.out _) ?_)) | (go_at_call 227;(with_reducible refine zae (k4.out _) ?_)) | (go_at_call 228;(with_reducible refine zaj (k5.out _) ?_;intro _ _ _ _ _)) | (go_at_call 229;first | (with_reducible refine zae (k7.out (by first | omega | grind) _) ?_) | (with_reducible refine zae (k8.out (by first | omega | grind) _) ?_)))
  all_goals (go_ret2;exact ⟨rfl,by assumption⟩)
end Go.Proofs.YtgoeedohgomodaaGreatDoor
namespace Go.Proofs.YtgoeedohgomodaaGreatDoor
open Go.RowKit Go.Sort
set_option maxRecDepth 100000
theorem zs8 (a b c:Int) (a0:0 < a) (a1:i64 a) (b1:i64 b) (c0:0 < c) (c1:i64 c) (hn:a.natAbs * b.natAbs < 9223372036854775808) (w:World):Calls Tryz.prog 199 #[.int .i64 a, .int .i64 b, .int .i64 c] w (Ret w (.tuple #[.int .i64 (zcC (a * b) c), .int .i64 0])):=by
  have k:=Lib.hid (show ∀ w,Calls Tryz.prog 214 #[.int .i64 a, .int .i64 b, .int .i64 c, .int .u8 2] w (Ret w (.tuple #[.int .i64 (zcC (a * b) c), .int .i64 0])) from fun w=>by
    by_cases h:b < 0
    · exact zrg a b c a0 a1 b1 c0 c1 hn h w
    · exact zrf a b c a0 a1 b1 c0 c1 hn (by omega) w)
  generalize zcC (a * b) c=out at *
  go_enter Tryz.func199,Tryz.ntmps199
  go_wp2_with (go_at_call 214;(with_reducible refine zaj (k.out _) ?_);intro _ _ _ _ _)
  go_ret2
  exact ⟨rfl,by assumption⟩
end Go.Proofs.YtgoeedohgomodaaGreatDoor
namespace Go.Proofs.YtgoeedohgomodaaGreatDoor
open Go.RowKit Go.Sort
set_option maxRecDepth 100000
def ptP (p:Int × Int):Pt:=⟨p.1,p.2⟩
theorem zw5 (x:Pt) (o n:Nat):Fits o n x.arr=(o+n≤2):=propext ⟨fun h=>h,fun h=>h⟩
theorem zr8 (a b:Pt):splice a.arr 0 b.arr=b.arr:=rfl
attribute [go_sem] zw5 zr8
def bpt (parts:Array (Nat × Value)):Sem Value:=Instr.build 66 parts
theorem ziC (parts:Array (Nat × Value)):Instr.build 66 parts=bpt parts:=rfl
theorem zir (w:World):(bpt #[]).run Tryz.prog w=.ok (.agg (Pt.arr ⟨0,0⟩)) w:=run_build w _ _ _ (by kernel_rfl)
theorem ziq (w:World) (a b:Int):(bpt #[(0, .int .i64 a),(1, .int .i64 b)]).run Tryz.prog w=.ok (.agg (Pt.arr ⟨a,b⟩)) w:=run_build w _ _ _ (by kernel_rfl)
attribute [local go_sem ↓] ziC
attribute [local go_sem] zir ziq
theorem zeG {v:Int} (h1:-3221225472≤v∧v≤3221225472):i64 v∧(20626481:Int).natAbs * v.natAbs < 9223372036854775808:=by
  unfold i64
  constructor
  · omega
  · have:v.natAbs≤3221225472:=by omega
    show 20626481 * v.natAbs < _
    omega
theorem zad (w:World) (o:Obj):Below w.heap.size w (w.alloc o):=(Below.refl _ _).alloc (Nat.le_refl _) _
set_option maxHeartbeats 4000000 in
theorem zoV (a b c d:Int) (w:World):Calls Tryz.prog 162 #[.agg (Pos.arr ⟨a,b⟩), .agg (Pos.arr ⟨c,d⟩)] w (Ret w (.tuple #[.agg (ptP (zdL a b c d).1).arr, .int .i64 (zdL a b c d).2])):=by
  have k1:=Lib.hid (zq0 a b)
  have k2:=Lib.hid (zfD c d)
  have HT:=Lib.hid (show zdL a b c d=if zc4 a b && zih c d then zxg (zd8 a b c d) else ((0,0),1) from rfl)
  have HL:=Lib.hid (show zc4 a b=true→zih c d=true→∀ w,Calls Tryz.prog 198 #[.agg (Pos.arr ⟨a,b⟩), .agg (Pos.arr ⟨c,d⟩)] w (Ret w (.tuple #[.agg (zeI a b c d).arr, .int .i64 0])) from fun h1 h2 w=>
    zqB a b c d (by unfold zc4 at h1;simp only [Bool.and_eq_true] at h1;exact h1.1) h2 w)
  have HV:zeI a b c d=V3.vec (zd8 a b c d):=rfl
  rw [HV] at HL
  clear HV
  have hin:=Lib.hid (znS a b c d)
  generalize zdL a b c d=out at *
  generalize zc4 a b=ob at *
  generalize zih c d=pb at *
  generalize zd8 a b c d=v at *
  go_enter Tryz.func162,Tryz.ntmps162
  go_upto_region 1 with (fail)
  generalize hW:((w.alloc _).alloc _).alloc _=W
  have X0:Blk W w.heap.size (Pos.arr ⟨a,b⟩):=by rw [← hW];exact ((Blk.new w _ _).alloc _).alloc _
  have Y0:Blk W (w.heap.size+1) (Pos.arr ⟨c,d⟩):=by rw [← hW,← World.size_alloc w (.cells (Pos.arr ⟨a,b⟩) 30)];exact (Blk.new _ _ _).alloc _
  have R0:Blk W (w.heap.size+1+1) (Pt.arr ⟨0,0⟩):=by rw [← hW,← World.size_alloc w (.cells (Pos.arr ⟨a,b⟩) 30),← World.size_alloc (w.alloc (.cells (Pos.arr ⟨a,b⟩) 30)) (.cells (Pos.arr ⟨c,d⟩) 30)];exact Blk.new _ _ _
  have B0:Below w.heap.size w W:=by rw [← hW];go_grown
  clear hW
  obtain ⟨g1,hg1⟩:∃ g,g=w.heap.size+1:=⟨_,rfl⟩
  obtain ⟨g2,hg2⟩:∃ g,g=w.heap.size+1+1:=⟨_,rfl⟩
  obtain ⟨g0,hg0⟩:∃ g,g=w.heap.size:=⟨_,rfl⟩
  rw [← hg2] at R0 ⊢
  rw [← hg1] at Y0 ⊢
  rw [← hg0] at X0 ⊢
  have hgle:w.heap.size≤g2:=by omega
  clear hg0 hg1 hg2
  have HX:=Lib.hid (fun W' (h:Below W.heap.size W W')=>X0.step h)
  have HY:=Lib.hid (fun W' (h:Below W.heap.size W W')=>Y0.step h)
  have HR:=Lib.hid (fun W' (h:Below W.heap.size W W')=>R0.step h)
  have i1:za3 W g0 0:=⟨_,X0.is_pos⟩
  have i2:zbm W g0 0=⟨a,b⟩:=zaH X0.is_pos
  have BB:=Lib.hid (fun W' (h:Below W.heap.size W W')=>zaa B0 h)
  clear X0 Y0 R0 B0
  cases ob with
  | false=>
    have HO:=Lib.hid (show out=((0,0),1) by rw [HT.out];rfl)
    go_upto_region 2 with (go_at_call 196;(with_reducible refine zaj (k1.out _) ?_);intro w1 b1 _ _ _)
    have R1:=HR.out w1 b1
    have d2:=R1.plain
    have d3:=R1.of
    go_wp2
    exact bodyPost_ret (zal Tryz.results162 _ _ g2 (Pt.arr ⟨0,0⟩) 2 _ rfl rfl (R1.set _).cell Tryz.underlying66 rfl zcx) rfl ⟨by rw [HO.out];rfl,zab (BB.out _ b1) hgle _⟩
  | true=>
    cases pb with
    | false=>
      have HO:=Lib.hid (show out=((0,0),1) by rw [HT.out];rfl)
      go_upto_region 2 with (first
        | (go_at_call 196;(with_reducible refine zaj (k1.out _) ?_);intro w1 b1 _ _ _
           have i3:za3 w1 g1 0:=⟨_,(HY.out w1 b1).is_pos⟩
           have i4:zbm w1 g1 0=⟨c,d⟩:=zaH (HY.out w1 b1).is_pos)
        | (go_at_call 197;(with_reducible refine zaj (k2.out _) ?_);intro w2 b2 _ _ _
           have b12:=zaa b1 b2
           have R1:=HR.out w2 b12
           have d2:=R1.plain
           have d3:=R1.of))
      go_wp2
      exact bodyPost_ret (zal Tryz.results162 _ _ g2 (Pt.arr ⟨0,0⟩) 2 _ rfl rfl (R1.set _).cell Tryz.underlying66 rfl zcx) rfl ⟨by rw [HO.out];rfl,zab (BB.out _ b12) hgle _⟩
    | true=>
      have k3:=Lib.hid (HL.out rfl rfl)
      have HO:=Lib.hid (show out=zxg v by rw [HT.out];rfl)
      clear HT HL
      go_upto_region 3 with (first
        | (go_at_call 196;(with_reducible refine zaj (k1.out _) ?_);intro w1 b1 _ _ _
           have i3:za3 w1 g1 0:=⟨_,(HY.out w1 b1).is_pos⟩
           have i4:zbm w1 g1 0=⟨c,d⟩:=zaH (HY.out w1 b1).is_pos)
        | (go_at_call 197;(with_reducible refine zaj (k2.out _) ?_);intro w2 b2 _ _ _))
      have b12:=zaa b1 b2
      have X2:=HX.out _ b12
      have Y2:=HY.out _ b12
      have R2:=HR.out _ b12
      have B2:=BB.out _ b12
      clear i1 i2 i3 i4 HX HY HR BB b1 b2 b12 k1 k2
      have i1:za3 w2 g0 0:=⟨_,X2.is_pos⟩
      have i2:zbm w2 g0 0=⟨a,b⟩:=zaH X2.is_pos
      have i3:za3 w2 g1 0:=⟨_,Y2.is_pos⟩
      have i4:zbm w2 g1 0=⟨c,d⟩:=zaH Y2.is_pos
      go_upto_region 4 with ((go_at_call 198;(with_reducible refine zaj (k3.out _) ?_);intro w3 b3 _ _ _))
      have B3:=zaa B2 b3
      have R3:=R2.step b3
      clear i1 i2 i3 i4 X2 Y2 R2 B2 b3 k3
      obtain ⟨x,y,z⟩:=v
      have hv:V3.vec (x,y,z)=⟨x,y,z⟩:=rfl
      rw [hv]
      have hin':=hin.out
      have nx:=zeG (v:=x) hin'.1
      have ny:=zeG (v:=y) hin'.2.1
      have nz:i64 z:=(zeG (v:=z) hin'.2.2).1
      have X4:=Blk.new w3 (Vec.arr ⟨x,y,z⟩) 234
      have B4:=zaa B3 (zad w3 (.cells (Vec.arr ⟨x,y,z⟩) 234))
      have R4:=R3.alloc (.cells (Vec.arr ⟨x,y,z⟩) 234)
      generalize w3.alloc _=W4 at X4 B4 R4 ⊢
      generalize w3.heap.size=g4 at X4 ⊢
      clear R3 B3 hin' hin hv
      have k0:W4.cell? ⟨g4,0,none⟩=some (.int .i64 x):=X4.cell 0
      have k1:W4.cell? ⟨g4,1,none⟩=some (.int .i64 y):=X4.cell 1
      have k2:W4.cell? ⟨g4,2,none⟩=some (.int .i64 z):=X4.cell 2
      by_cases hz:z≤0
      · have HO2:=Lib.hid (show out=((0,0),2) by rw [HO.out];exact if_pos hz)
        have d2:=R4.plain
        have d3:=R4.of
        clear HO nx ny
        go_wp2
        exact bodyPost_ret (zal Tryz.results162 _ _ g2 (Pt.arr ⟨0,0⟩) 2 _ rfl rfl (R4.set _).cell Tryz.underlying66 rfl zcx) rfl ⟨by rw [HO2.out];rfl,zab B4 hgle _⟩
      · have HO2:=Lib.hid (show out=if zdT (zcC (20626481 * x) z) (zcC (20626481 * y) z) then ((zcC (20626481 * x) z,zcC (20626481 * y) z),0) else ((0,0),2) by rw [HO.out];exact if_neg hz)
        have m1:=Lib.hid (zs8 20626481 x z (by decide) (by unfold i64;omega) nx.1 (by omega) nz nx.2)
        have m2:=Lib.hid (zs8 20626481 y z (by decide) (by unfold i64;omega) ny.1 (by omega) nz ny.2)
        have HV:=Lib.hid (zoU (zcC (20626481 * x) z) (zcC (20626481 * y) z))
        clear HO nx ny nz
        generalize zcC (20626481 * x) z=px at *
        generalize zcC (20626481 * y) z=py at *
        generalize zdT px py=pv at *
        go_upto_region 7 with (go_at_call 199;(with_reducible refine zaj (m1.out _) ?_);intro w5 b5 _ _ _)
        have k1:w5.cell? ⟨g4,1,none⟩=some (.int .i64 y):=(X4.step b5).cell 1
        have k2:w5.cell? ⟨g4,2,none⟩=some (.int .i64 z):=(X4.step b5).cell 2
        clear k0
        go_upto_region 8 with (go_at_call 199;(with_reducible refine zaj (m2.out _) ?_);intro w6 b6 _ _ _)
        have R6:=(R4.step b5).step b6
        have B6:=zaa (zaa B4 b5) b6
        clear k1 k2 X4 b5 b6 R4 B4 m1 m2
        go_upto_region 9 with (fail)
        have X7:=Blk.new w6 (Pt.arr ⟨px,py⟩) 66
        have B7:=zaa B6 (zad w6 (.cells (Pt.arr ⟨px,py⟩) 66))
        have R7:=R6.alloc (.cells (Pt.arr ⟨px,py⟩) 66)
        generalize w6.alloc _=W7 at X7 B7 R7 ⊢
        generalize w6.heap.size=g7 at X7 ⊢
        clear R6 B6
        have i1:zbw W7 g7 0:=⟨_,X7.is_pt⟩
        have i2:zcr W7 g7 0=⟨px,py⟩:=zaZ X7.is_pt
        cases pv with
        | false=>
          have HO3:=Lib.hid (show out=((0,0),2) from HO2.out)
          clear HO2
          go_upto_region 10 with (go_at_call 101;(with_reducible refine zaj (HV.out _) ?_);intro w8 b8 _ _ _)
          have X8:=X7.step b8
          have R8:=R7.step b8
          have B8:=zaa B7 b8
          clear i1 i2 X7 R7 B7 b8
          have i1:zbw w8 g7 0:=⟨_,X8.is_pt⟩
          have i2:zcr w8 g7 0=⟨px,py⟩:=zaZ X8.is_pt
          have d2:=R8.plain
          have d3:=R8.of
          go_wp2
          exact bodyPost_ret (zal Tryz.results162 _ _ g2 (Pt.arr ⟨0,0⟩) 2 _ rfl rfl (R8.set _).cell Tryz.underlying66 rfl zcx) rfl ⟨by rw [HO3.out];rfl,zab B8 hgle _⟩
        | true=>
          have HO3:=Lib.hid (show out=((px,py),0) from HO2.out)
          clear HO2
          go_upto_region 11 with (go_at_call 101;(with_reducible refine zaj (HV.out _) ?_);intro w8 b8 _ _ _)
          have X8:=X7.step b8
          have R8:=R7.step b8
          have B8:=zaa B7 b8
          clear i1 i2 X7 R7 B7 b8
          have i1:zbw w8 g7 0:=⟨_,X8.is_pt⟩
          have i2:zcr w8 g7 0=⟨px,py⟩:=zaZ X8.is_pt
          have d2:=R8.plain
          have d3:=R8.of
          go_wp2
          exact bodyPost_ret (zal Tryz.results162 _ _ g2 (Pt.arr ⟨px,py⟩) 2 _ rfl rfl (R8.set _).cell Tryz.underlying66 rfl zcx) rfl ⟨by rw [HO3.out];rfl,zab B8 hgle _⟩
end Go.Proofs.YtgoeedohgomodaaGreatDoor
