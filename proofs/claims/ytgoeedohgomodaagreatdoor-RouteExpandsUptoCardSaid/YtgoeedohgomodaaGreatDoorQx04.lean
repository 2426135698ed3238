/- Lemmas and walks. -/
import Derived.Test.YtgoeedohgomodaaGreatDoorQk01
import Derived.Test.YtgoeedohgomodaaGreatDoorQk02
import Derived.Test.YtgoeedohgomodaaGreatDoorQx01
import Derived.Test.YtgoeedohgomodaaGreatDoorQk03
import Derived.Test.YtgoeedohgomodaaGreatDoorQk05
import Derived.Test.YtgoeedohgomodaaGreatDoorQk06
import Derived.Test.YtgoeedohgomodaaGreatDoorQk16
import Derived.Test.YtgoeedohgomodaaGreatDoorQk18
import Derived.Test.YtgoeedohgomodaaGreatDoorQk04
import Derived.Test.YtgoeedohgomodaaGreatDoorQk07
import Derived.Test.YtgoeedohgomodaaGreatDoorQk08
import Derived.Test.YtgoeedohgomodaaGreatDoorQk09
import Derived.Test.YtgoeedohgomodaaGreatDoorQx02
import Derived.Test.YtgoeedohgomodaaGreatDoorQk10
import Derived.Test.YtgoeedohgomodaaGreatDoorQk11
import Derived.Test.YtgoeedohgomodaaGreatDoorQk12
import Derived.Test.YtgoeedohgomodaaGreatDoorQk22
import Derived.Test.YtgoeedohgomodaaGreatDoorQk23
import Derived.Test.YtgoeedohgomodaaGreatDoorQk13
import Derived.Test.YtgoeedohgomodaaGreatDoorQk24
import Derived.Test.YtgoeedohgomodaaGreatDoorQk35
import Derived.Test.YtgoeedohgomodaaGreatDoorQk14
import Derived.Test.YtgoeedohgomodaaGreatDoorQk30
import Derived.Test.YtgoeedohgomodaaGreatDoorQk25
import Derived.Test.YtgoeedohgomodaaGreatDoorQk26
import Derived.Test.YtgoeedohgomodaaGreatDoorQk27
import Derived.Test.YtgoeedohgomodaaGreatDoorQk28
import Derived.Test.YtgoeedohgomodaaGreatDoorQk20
import Derived.Test.YtgoeedohgomodaaGreatDoorQk15
import Derived.Test.YtgoeedohgomodaaGreatDoorQk17
import Derived.Test.YtgoeedohgomodaaGreatDoorQk19
import Derived.Test.YtgoeedohgomodaaGreatDoorQk21
import Derived.Test.YtgoeedohgomodaaGreatDoorQk29
import Derived.Test.YtgoeedohgomodaaGreatDoorQk31
import Derived.Test.YtgoeedohgomodaaGreatDoorQk32
import Derived.Test.YtgoeedohgomodaaGreatDoorQk33
import Derived.Test.YtgoeedohgomodaaGreatDoorQk34
import Derived.Test.YtgoeedohgomodaaGreatDoorQk36
import Derived.Test.YtgoeedohgomodaaGreatDoorQk37
import Derived.Test.YtgoeedohgomodaaGreatDoorQk38
import Derived.Test.YtgoeedohgomodaaGreatDoorQk39
import Derived.Test.YtgoeedohgomodaaGreatDoorQk41
import Derived.Test.YtgoeedohgomodaaGreatDoorQk42
import Derived.Test.YtgoeedohgomodaaGreatDoorQk43
import Derived.Test.YtgoeedohgomodaaGreatDoorQk44
import Derived.Test.YtgoeedohgomodaaGreatDoorQk45
import Derived.Test.YtgoeedohgomodaaGreatDoorQk46
import Derived.Test.YtgoeedohgomodaaGreatDoorQk48
import Derived.Test.YtgoeedohgomodaaGreatDoorQk49
import Derived.Test.YtgoeedohgomodaaGreatDoorQx03
set_option linter.unusedSimpArgs false
set_option linter.unusedVariables false
namespace Go.Proofs.YtgoeedohgomodaaGreatDoor
open Go.RowKit Go.ChangeShapes Go.WideShapes Go.Deep
theorem zte {W:World} {l:List (String × DataW Unit)} (h:laidMet Tryz.prog l W) (hsh:W.ShapedOpen Tryz.prog) (h1:("flightdeck/leg.uses",Lib.tabData .u16 usesTab) ∈ l):Laid W:=by
  obtain ⟨ps,hv,_,_⟩:=h
  have t1:=zxh hv zxx (t:=194) (by kernel_rfl) Tryz.underlying194 Tryz.underlying193 (by kernel_rfl) (by kernel_rfl) h1
  exact ⟨fun k hk=>t1.cell zxx k hk,Go.Proofs.cell_of_shapedOpen_int (zero:=#[.int .i64 0]) (t:=3) hsh (of_decide_eq_true (by kernel_rfl)) (by kernel_rfl) rfl (by kernel_rfl) (by kernel_rfl) Tryz.underlying3⟩
end Go.Proofs.YtgoeedohgomodaaGreatDoor
namespace Go.Proofs.YtgoeedohgomodaaGreatDoor
open Go.RowKit Go.ChangeShapes Go.WideShapes Go.Deep
section
variable {H:Type} {enc:TypeId × Value→H} {w:World} {base:Nat} {spare:Nat→Bool} {held:Bool}
set_option maxRecDepth 100000 in
theorem zsR {r:Reach} {b0:Nat} {v:Value} {d:DataW H} {ps:List MemPlace} (hv:Value.okWide Tryz.prog w r b0 37 v) (h:DataW.Trod enc Tryz.prog w base spare held 37 v d ps) (hN:Rows.uptoBulk d≤4000000):
    ∃ (db:DBs) (G:GDB),v=.agg db.cells∧GdAt w db G∧G.short:=by
  obtain ⟨cs,rfl,hsz⟩:=okWide_struct Tryz.underlying37 hv
  obtain ⟨fuel,hf⟩:=h
  have hvc:(Value.agg cs).cells.toList=cs.toList:=rfl
  rw [hvc] at hf
  obtain ⟨db,G,e,hg,hs⟩:=zu3 hf hN
  exact ⟨db,G,by rw [Array.toList_inj.1 e],hg,hs⟩
end
end Go.Proofs.YtgoeedohgomodaaGreatDoor
namespace Go.Proofs.YtgoeedohgomodaaGreatDoor
open Go.RowKit Go.ChangeShapes Go.WideShapes Go.Deep
section
variable {H:Type} {enc:TypeId × Value→H} {w:World} {base:Nat} {spare:Nat→Bool} {held:Bool}
theorem zvn {fuel:Nat} {cs:List Value} {y:DataW H × List MemPlace} (h:DataW.trod enc Tryz.prog w base spare held fuel 37 cs=some y):cs.all (·.oneCell')=true:=by
  obtain ⟨xs,n,_,hx,hlen,hxl,hf⟩:=DataW.trod_struct Tryz.underlying37 h
  rw [zqc] at hlen
  obtain ⟨c0,c1,c2,c3,c4,c5,c6,c7,c8,rfl⟩:=zxr hlen
  obtain ⟨y0,y1,y2,y3,rfl⟩:=zpV hxl
  have g0:=fld hf 0 32 0 6 rfl zlj
  have g1:=fld hf 1 33 6 1 rfl zib
  have g2:=fld hf 2 34 7 1 rfl zll
  have g3:=fld hf 3 35 8 1 rfl zlh
  simp only [List.drop_succ_cons,List.drop_zero,List.take_succ_cons,List.take_zero,List.getElem?_cons_succ,List.getElem?_cons_zero] at g0 g1 g2 g3
  obtain ⟨xs',n',_,hx',hlen',hxl',hf'⟩:=DataW.trod_struct Tryz.underlying32 g0
  obtain ⟨z0,z1,z2,z3,z4,rfl⟩:=zxs hxl'
  have q0:=fld hf' 0 9 0 1 rfl zcW
  have q1:=fld hf' 1 2 1 1 rfl zcb
  have q2:=fld hf' 2 2 2 1 rfl zcb
  have q3:=fld hf' 3 2 3 1 rfl zcb
  have q4:=fld hf' 4 30 4 2 rfl zfQ
  simp only [List.drop_succ_cons,List.drop_zero,List.take_succ_cons,List.take_zero,List.getElem?_cons_succ,List.getElem?_cons_zero] at q0 q1 q2 q3 q4
  obtain ⟨a,b,e4⟩:=zg7 Tryz.underlying30 zfQ ⟨rfl,rfl⟩ ⟨rfl,rfl⟩ q4
  obtain ⟨s0,e0,_⟩:=zdC q0
  obtain ⟨i1,e1,_⟩:=DataW.trod_int Tryz.underlying2 q1
  obtain ⟨i2,e2,_⟩:=DataW.trod_int Tryz.underlying2 q2
  obtain ⟨i3,e3,_⟩:=DataW.trod_int Tryz.underlying2 q3
  obtain ⟨l,A,c,r1,_⟩:=zk1 g1
  obtain ⟨l2,A2,d2,r2,_⟩:=znD g2
  obtain ⟨l3,A3,d3,r3,_⟩:=znC g3
  simp only [List.cons.injEq,and_true] at e1 e2 e3 e4
  rw [e0,e1,e2,e3,e4.1,e4.2,r1,r2,r3]
  simp [Value.oneCell']
set_option maxRecDepth 100000 in
theorem zsS {r:Reach} {b0:Nat} {v:Value} {d:DataW H} {ps:List MemPlace} (hv:Value.okWide Tryz.prog w r b0 37 v) (h:DataW.Trod enc Tryz.prog w base spare held 37 v d ps) (hN:Rows.uptoBulk d≤4000000):
    ∃ (db:DBs) (G:GDB),v=.agg db.cells∧GdAt w db G∧G.short∧db.cells.toList.all (·.oneCell')=true:=by
  obtain ⟨db,G,e,hg,hs⟩:=zsR hv h hN
  refine ⟨db,G,e,hg,hs,?_⟩
  obtain ⟨fuel,hf⟩:=h
  have:=zvn hf
  rw [e] at this
  exact this
end
end Go.Proofs.YtgoeedohgomodaaGreatDoor
namespace Go.Proofs.YtgoeedohgomodaaGreatDoor
open Go.RowKit
def zbc (x:ItemV):List UInt8:=
  if x.kind=1∨x.kind=8 then zbC x.name 47 x.trans else if x.kind=5 then [68,67,84] else if x.kind=3∨x.kind=4 then x.name else
  (if x.kind=7 then [80,61] else if x.kind=6 then [65,61] else [68,61]) ++ zbC x.name 46 x.trans
def ItemV.okK (x:ItemV):Prop:=1≤x.kind∧x.kind≤8
theorem zuv {x:ItemV} (h:x.okK):zbc x=ziH x:=by
  obtain ⟨k,s,t⟩:=x
  obtain ⟨h1,h2⟩:=h
  simp only at h1 h2
  have hk:k=1∨k=2∨k=3∨k=4∨k=5∨k=6∨k=7∨k=8:=by omega
  rcases hk with rfl | rfl | rfl | rfl | rfl | rfl | rfl | rfl <;> simp [zbc,ziH]
theorem ztm {s:List UInt8} {x:ItemV} (h:zc5 s=some x):x.okK:=by
  unfold zc5 at h
  split at h
  · split at h
    · cases h
    · rename_i h2
      injection h with h
      subst h
      have hn:zbk (s.getD 0 0) ≠ 0:=fun e=>h2 (.inl e)
      unfold ItemV.okK
      simp only
      unfold zbk at hn ⊢
      repeat' split
      all_goals (first | omega | (simp_all;done))
  · split at h
    · injection h with h;subst h;unfold ItemV.okK;simp
    split at h
    · injection h with h;subst h;unfold ItemV.okK;simp
    split at h
    · injection h with h;subst h;unfold ItemV.okK;simp
    · cases h
theorem zrS {n i:Nat} {s:List UInt8} {x:ItemV} (h:zd0 n i s=some x):x.okK:=by
  unfold zd0 at h
  split at h
  · split at h
    · injection h with h
      subst h
      unfold ItemV.okK
      simp only
      split <;> omega
    · cases h
  · exact ztm h
theorem zsI {s:List UInt8} (h:(zag s).2=0):∀ x ∈ (zag s).1.1,x.okK:=by
  intro x hx
  obtain ⟨⟨hl,ho⟩,_⟩:=zg6 h
  obtain ⟨i,hi,rfl⟩:=List.mem_iff_getElem.1 hx
  exact zrS (ho i (by rw [← hl];exact hi) hi).1
end Go.Proofs.YtgoeedohgomodaaGreatDoor
namespace Go.Proofs.YtgoeedohgomodaaGreatDoor
open Go.RowKit Go.Sort
set_option maxRecDepth 100000
attribute [local go_sem] zdp
theorem zip (x:ItemV) (hx:x.small) (w:World):Calls Tryz.prog 87 #[.agg x.arr] w (Ret w (.string ⟨(zbC x.name 46 x.trans).toArray⟩)):=by
  obtain ⟨k,s,t⟩:=x
  obtain ⟨hs,ht⟩:=hx
  dsimp only at hs ht ⊢
  have HW:=Lib.hid (show zbC s 46 t=if t.isEmpty then s else s ++ 46 :: t from rfl)
  generalize zbC s 46 t=v at *
  have h1:¬ 9223372036854775807 < s.length+1:=by omega
  have h2:¬ 9223372036854775807 < s.length+1+t.length:=by omega
  go_enter Tryz.func87,Tryz.ntmps87
  go_upto_region 1 with (fail)
  have A0:=Blk.new w (ItemV.arr ⟨k,s,t⟩) 57
  have D0:=zac w (.cells (ItemV.arr ⟨k,s,t⟩) 57)
  generalize w.alloc _=W0 at A0 D0 ⊢
  obtain ⟨g,hg⟩:∃ g,g=w.heap.size:=⟨_,rfl⟩
  rw [← hg] at A0 ⊢
  clear hg
  have c1:W0.cell? ⟨g,1,none⟩=some (.string ⟨s.toArray⟩):=A0.cell 1
  have c2:W0.cell? ⟨g,2,none⟩=some (.string ⟨t.toArray⟩):=A0.cell 2
  clear A0
  cases t with
  | nil=>
    go_wp2
    go_ret
    exact Ret.str (by rw [HW.out];rfl) D0
  | cons x r=>
    go_wp2
    go_ret
    exact Ret.str (by rw [HW.out];rfl) D0
theorem zw2 (a b:UInt8) (l:List UInt8):(ByteArray.mk #[a,b]) ++ (ByteArray.mk l.toArray)=⟨(a :: b :: l).toArray⟩:=zdp [a,b] l
attribute [local go_sem ↓] zw2
set_option maxHeartbeats 4000000 in
theorem zeS (x:ItemV) (hx:x.small) (w:World):Calls Tryz.prog 43 #[.agg x.arr] w (Ret w (.string ⟨(zbc x).toArray⟩)):=by
  have KY:=Lib.hid (fun W=>zip x hx W)
  obtain ⟨k,s,t⟩:=x
  obtain ⟨hs,ht⟩:=hx
  dsimp only at hs ht KY
  have HW:=Lib.hid (show zbc ⟨k,s,t⟩=if k=1∨k=8 then zbC s 47 t else if k=5 then [68,67,84] else if k=3∨k=4 then s else (if k=7 then [80,61] else if k=6 then [65,61] else [68,61]) ++ zbC s 46 t from rfl)
  have l46:=zfC s 46 t
  have hb:¬ 9223372036854775807 < 2+(zbC s 46 t).length:=by omega
  have h1:¬ 9223372036854775807 < s.length+1:=by omega
  have h2:¬ 9223372036854775807 < s.length+1+t.length:=by omega
  have HX:=Lib.hid (show zbC s 47 t=if t.isEmpty then s else s ++ 47 :: t from rfl)
  generalize zbC s 47 t=w47 at *
  generalize zbC s 46 t=w46 at *
  generalize zbc ⟨k,s,t⟩=v at *
  clear l46
  go_enter Tryz.func43,Tryz.ntmps43
  go_upto_region 1 with (fail)
  have A0:=Blk.new w (ItemV.arr ⟨k,s,t⟩) 57
  have D0:=zac w (.cells (ItemV.arr ⟨k,s,t⟩) 57)
  generalize w.alloc _=W0 at A0 D0 ⊢
  obtain ⟨g,hg⟩:∃ g,g=w.heap.size:=⟨_,rfl⟩
  rw [← hg] at A0 ⊢
  clear hg
  have c0:W0.cell? ⟨g,0,none⟩=some (.int .u8 k):=A0.cell 0
  have c1:W0.cell? ⟨g,1,none⟩=some (.string ⟨s.toArray⟩):=A0.cell 1
  have c2:W0.cell? ⟨g,2,none⟩=some (.string ⟨t.toArray⟩):=A0.cell 2
  have z1:zak W0 g 0:=⟨_,A0.is_itm⟩
  have z2:zar W0 g 0=⟨k,s,t⟩:=zam A0.is_itm
  clear A0
  by_cases n1:k=1
  · have HV:=Lib.hid (show v=w47 by rw [HW.out,if_pos (.inl n1)])
    subst n1
    clear z1 z2 KY HW
    cases t with
    | nil=>
      go_wp2
      go_ret
      exact Ret.str (by rw [HV.out,HX.out];rfl) D0
    | cons a r=>
      go_wp2
      go_ret
      exact Ret.str (by rw [HV.out,HX.out];rfl) D0
  by_cases n8:k=8
  · have HV:=Lib.hid (show v=w47 by rw [HW.out,if_pos (.inr n8)])
    subst n8
    clear z1 z2 KY HW
    cases t with
    | nil=>
      go_wp2
      go_ret
      exact Ret.str (by rw [HV.out,HX.out];rfl) D0
    | cons a r=>
      go_wp2
      go_ret
      exact Ret.str (by rw [HV.out,HX.out];rfl) D0
  have HW:=Lib.hid (HW.out.trans (if_neg (by omega)))
  have e1:(k == 1)=false:=by simpa using n1
  have e8:(k == 8)=false:=by simpa using n8
  by_cases n5:k=5
  · have HV:=Lib.hid (show v=[68,67,84] by rw [HW.out,if_pos n5])
    subst n5
    clear z1 z2 KY e1 e8 HW
    go_wp2
    go_ret
    exact Ret.str (by rw [HV.out]) D0
  have HW:=Lib.hid (HW.out.trans (if_neg n5))
  have e5:(k == 5)=false:=by simpa using n5
  by_cases n3:k=3
  · have HV:=Lib.hid (show v=s by rw [HW.out,if_pos (.inl n3)])
    subst n3
    clear z1 z2 KY e1 e8 e5 HW
    go_wp2
    go_ret
    exact Ret.str (by rw [HV.out]) D0
  by_cases n4:k=4
  · have HV:=Lib.hid (show v=s by rw [HW.out,if_pos (.inr n4)])
    subst n4
    clear z1 z2 KY e1 e8 e5 HW
    go_wp2
    go_ret
    exact Ret.str (by rw [HV.out]) D0
  have HW:=Lib.hid (HW.out.trans (if_neg (by omega)))
  have e3:(k == 3)=false:=by simpa using n3
  have e4:(k == 4)=false:=by simpa using n4
  by_cases n7:k=7
  · have HV:=Lib.hid (show v=[80,61] ++ w46 by rw [HW.out,if_pos n7])
    subst n7
    clear e1 e8 e5 e3 e4 HW
    go_wp2_with (go_at_call 87;(with_reducible refine zaj (KY.out _) ?_);intro w3 b3 _ _ _)
    go_ret
    exact Ret.str (by rw [HV.out];rfl) (zaa D0 b3)
  have HW:=Lib.hid (HW.out.trans (by rw [if_neg n7]))
  have e7:(k == 7)=false:=by simpa using n7
  by_cases n6:k=6
  · have HV:=Lib.hid (show v=[65,61] ++ w46 by rw [HW.out,if_pos n6])
    subst n6
    clear e1 e8 e5 e3 e4 e7 HW
    go_wp2_with (go_at_call 87;(with_reducible refine zaj (KY.out _) ?_);intro w3 b3 _ _ _)
    go_ret
    exact Ret.str (by rw [HV.out];rfl) (zaa D0 b3)
  have e6:(k == 6)=false:=by simpa using n6
  have HV:=Lib.hid (show v=[68,61] ++ w46 by rw [HW.out,if_neg n6])
  clear HW n1 n8 n5 n3 n4 n7 n6
  go_wp2_with (go_at_call 87;(with_reducible refine zaj (KY.out _) ?_);intro w3 b3 _ _ _)
  go_ret
  exact Ret.str (by rw [HV.out];rfl) (zaa D0 b3)
end Go.Proofs.YtgoeedohgomodaaGreatDoor
namespace Go.Proofs.YtgoeedohgomodaaGreatDoor
open Go.RowKit Go.Sort
set_option maxRecDepth 100000
set_option maxHeartbeats 2000000 in
theorem zho (s:List UInt8) (c:UInt8) (m:Int) (w:World) (hs:s.length≤4000000000):
    Calls Tryz.prog 34 #[.string ⟨s.toArray⟩, .int .u8 c.toNat, .int .i64 m] w (Ret w (.tuple #[.string ⟨(cutAt c s).1.toArray⟩, .string ⟨(cutAt c s).2.1.toArray⟩, .bool (zcf s c m)])):=by
  have hc:=zcF c s
  have kc:=Lib.hid (zlZ s c w hs)
  have HP:=Lib.hid (show zcf s c m=zgr (cutAt c s) m from rfl)
  generalize zcf s c m=ok at HP ⊢
  generalize cutAt c s=q at *
  obtain ⟨a,b,f⟩:=q
  simp only at hc
  obtain ⟨ha,hb⟩:=hc
  have ka:=Lib.hid (fun w'=>zcU a m w' (by omega))
  have kb:=Lib.hid (fun w'=>zcU b m w' (by omega))
  have HP:=Lib.hid (show ok=(zbF a m && (!f || zbF b m)) from HP.out)
  generalize zbF a m=na at *
  generalize zbF b m=nb at *
  cases f <;> cases na <;> cases nb
  all_goals
    obtain rfl:=HP.out
    clear HP
    go_enter Tryz.func34,Tryz.ntmps34
    go_wp2_with (first
      | (go_at_call 64;(with_reducible refine zes kc.out ?_);intro nq)
      | (go_at_call 65;(with_reducible first | refine zae (ka.out _) ?_ | refine zae (kb.out _) ?_)))
    go_ret3
    exact ⟨rfl,below_drewN (Below.refl _ _) nq⟩
attribute [local go_sem] zdp
attribute [local go_sem ↓] zdI
attribute [local go_sem] zd3
set_option maxHeartbeats 4000000 in
theorem zi8 (d:DBs) (l:List FixV) (s:List UInt8) (w:World) (hs:s.length≤4000000000) (hD:DbAt w d l):
    Calls Tryz.prog 16 #[.agg d.cells, .string ⟨s.toArray⟩] w (Ret w (.tuple #[.string ⟨(zbi l s).1.toArray⟩, .int .i64 (zbi l s).2])):=by
  have hc:=zcF 47 s
  have kp:=Lib.hid (fun (W':World)=>show Calls Tryz.prog 34 #[.string ⟨s.toArray⟩, .int .u8 47, .int .i64 6] W' (Ret W' (.tuple #[.string ⟨(cutAt 47 s).1.toArray⟩, .string ⟨(cutAt 47 s).2.1.toArray⟩, .bool (zcf s 47 6)])) from zho s 47 6 W' hs)
  have kf:=Lib.hid (fun (r:List UInt8) (W':World) (b:Below w.heap.size w W')=>zjd d l r W' (hD.below b))
  have HC:=Lib.hid (znz l s)
  have HI:=Lib.hid (fun (W':World) (b:Below w.heap.size w W')=>hD.items.below b)
  have hsz:=hD.ok.size
  have h6:=hD.ok.c6
  rw [hD.fn] at h6
  have HCAP:=Lib.hid hD.cap
  have hln:=hD.len
  have HSM:=Lib.hid hD.small
  generalize zbi l s=out at *
  generalize cutAt 47 s=q at *
  obtain ⟨a,b,f⟩:=q
  simp only at hc
  obtain ⟨ha,hb⟩:=hc
  generalize zcf s 47 6=ok at *
  clear hD
  go_enter Tryz.func16,Tryz.ntmps16
  go_upto_region 1 with (fail)
  have X0:Blk (w.alloc (.cells d.cells 37)) w.heap.size d.cells:=Blk.new w _ _
  have B0:=zad w (.cells d.cells 37)
  generalize w.alloc _=W at X0 B0 ⊢
  obtain ⟨g0,hg0⟩:∃ g,g=w.heap.size:=⟨_,rfl⟩
  rw [← hg0] at X0 ⊢
  clear hg0
  cases ok with
  | false=>
    have HO:=Lib.hid (HC.out.trans (if_pos rfl))
    clear HC
    go_wp2_with (go_at_call 34;(with_reducible refine zaj (kp.out _) ?_);intro w1 b1 _ _ _)
    go_ret2
    exact zkG HO.out (zaa B0 b1)
  | true=>
  have HC:=Lib.hid (HC.out.trans (if_neg (by decide)))
  by_cases h:b=[]
  · subst h
    have HC:=Lib.hid (show out=zjk l a from HC.out.trans (if_neg (by simp)))
    go_upto_region 10 with (go_at_call 34;(with_reducible refine zaj (kp.out _) ?_);intro w1 b1 _ _ _)
    have X1:=X0.step b1
    have B1:=zaa B0 b1
    have k6:w1.cell? ⟨g0,6,none⟩=some (.slice d.fa l.length d.fc):=by rw [X1.cell 6];exact h6
    go_upto_region 11 with (fail)
    have HB:=Lib.hid B1
    clear X0 X1 B0 B1 k6 kp kf h6 hsz b1
    go_loopw [40] (fun iv wr=>∃ k:Nat,k≤l.length∧iv=.int .i64 k∧zgq a l=zgq a (l.drop k)∧Below w1.heap.size w1 wr) (fun iv _=>l.length - (intOf iv).toNat)
    case atStart=>exact ⟨0,by omega,rfl,rfl,Below.refl _ _⟩
    case round=>
      obtain ⟨k,hk,rfl,hf,BW⟩:=hrel
      have HF:=Lib.hid hf
      clear hf
      have BB:=Lib.hid (zaa HB.out BW)
      by_cases hlt:k < l.length
      · have hlt':(k:Int) < (l.length:Int):=by omega
        have hkc:k < d.fc:=by have:=HCAP.out;omega
        obtain ⟨b2,o2,hA,hb2,_⟩:=(HI.out wr BB.out).get (k:=k) (by simpa using hlt)
        have hx:=zgx (by have:=HI.out wr BB.out;rw [hA] at this;exact this) (Below.refl _ _) hlt
        have hsm:=HSM.out _ (List.getElem_mem hlt)
        have HD:=Lib.hid (HF.out.trans (zkW a l hlt))
        generalize l[k]=y at *
        have i1:za1 wr b2 (o2+k * 7):=⟨_,hx⟩
        have i2:zbe wr b2 (o2+k * 7)=y:=za0 hx
        rw [hA]
        clear hx HF
        go_upto_region 13 with (fail)
        have Z:=Blk.new wr y.arr 84
        have D:=zad wr (.cells y.arr 84)
        have B5:=zaa BB.out D
        have B6:=zaa BW D
        clear i1 i2
        generalize wr.alloc _=W5 at Z B5 B6 ⊢
        generalize wr.heap.size=g7 at Z ⊢
        have z0:W5.cell? ⟨g7,0,none⟩=some (.string ⟨y.ident.toArray⟩):=Z.cell 0
        have z2:W5.cell? ⟨g7,2,none⟩=some (.int .u8 y.kind):=Z.cell 2
        by_cases hm:y.kind=5∧y.ident=a
        · have e1:(y.kind == 5)=true:=by simpa using hm.1
          have e2:(y.ident == a)=true:=by simpa using hm.2
          have HO:=Lib.hid (show out=(y.ref,0) by rw [HC.out];unfold zjk;rw [HD.out,e1,e2];rfl)
          have kr:=Lib.hid (zgn y hsm W5)
          have j1:za1 W5 g7 0:=⟨_,Z.is_fixv⟩
          have j2:zbe W5 g7 0=y:=za0 Z.is_fixv
          clear hm HD
          go_wp2_with (go_at_call 40;(with_reducible refine zaj kr.out ?_);intro w6 b6 _ _ _)
          go_ret2
          exact zkG HO.out (zaa B5 b6)
        · have HD:=Lib.hid (show zgq a l=zgq a (l.drop (k+1)) by
            rw [HD.out,if_neg]
            intro h
            simp only [Bool.and_eq_true,beq_iff_eq] at h
            exact hm h)
          by_cases h1:y.ident=a
          · have e1:(y.ident == a)=true:=by simpa using h1
            have e2:(y.kind == 5)=false:=by
              have:y.kind ≠ 5:=fun h=>hm ⟨h,h1⟩
              simpa using this
            clear hm h1
            go_wp2
            go_roundw
            case rel=>exact ⟨k+1,by omega,by go_num,HD.out,B6⟩
            case measure=>simp [intOf];omega
          · have e1:(y.ident == a)=false:=by simpa using h1
            clear hm h1
            go_wp2
            go_roundw
            case rel=>exact ⟨k+1,by omega,by go_num,HD.out,B6⟩
            case measure=>simp [intOf];omega
      · have hlt':¬ (k:Int) < (l.length:Int):=by omega
        have HO:=Lib.hid (show out=([],6) by rw [HC.out];unfold zjk;rw [HF.out,List.drop_eq_nil_of_le (by omega)];rfl)
        clear HF
        go_wp2
        go_ret2
        exact zkG HO.out BB.out
  · have h0:(b == [])=false:=by simpa using h
    have HC:=Lib.hid (HC.out.trans (if_pos h))
    have l1:¬ 9223372036854775807 < b.length+1:=by omega
    have l2:¬ 9223372036854775807 < b.length+1+a.length:=by omega
    clear h
    go_upto_region 5 with (go_at_call 34;(with_reducible refine zaj (kp.out _) ?_);intro w1 b1 _ _ _)
    have X1:=X0.step b1
    have B1:=zaa B0 b1
    have i1:za7 w1 g0 0:=⟨_,X1.is_db hsz⟩
    have i2:zbQ w1 g0 0=d.cells:=zaL (X1.is_db hsz)
    have kf2:=Lib.hid (kf.out (b ++ 47 :: a) w1 B1)
    have HFV:=Lib.hid (zhh l (b ++ 47 :: a))
    generalize zkD l (b ++ 47 :: a)=fx at *
    obtain ⟨fv,fe⟩:=fx
    cases hf:(zc7 l (b ++ 47 :: a)).isSome with
    | true=>
      have HO:=Lib.hid (HC.out.trans (if_pos hf))
      have hfe:fe=0:=by have:=congrArg Prod.snd HFV.out;simp only [hf] at this;simpa using this
      subst hfe
      clear HC HFV hf kf
      go_wp2_with (first | (go_at_call 39;(with_reducible refine zaj kf2.out ?_);intro w2 b2 _ _ _))
      go_ret2
      exact zkG HO.out (zaa (zaa B1 b2) (zad _ _))
    | false=>
      have HO:=Lib.hid (HC.out.trans (if_neg (by rw [hf];decide)))
      have hfe:fe=6:=by have:=congrArg Prod.snd HFV.out;simp only [hf] at this;simpa using this
      subst hfe
      clear HC HFV hf kf
      go_wp2_with (first | (go_at_call 39;(with_reducible refine zaj kf2.out ?_);intro w2 b2 _ _ _))
      go_ret2
      exact zkG HO.out (zaa (zaa B1 b2) (zad _ _))
end Go.Proofs.YtgoeedohgomodaaGreatDoor
namespace Go.Proofs.YtgoeedohgomodaaGreatDoor
open Go.RowKit Go.Sort
set_option maxRecDepth 100000
section
attribute [local go_sem ↓] zdA
attribute [local go_sem] zei zaO zaT zba zbs zd2 zc2 zd5 zc3 zck
set_option maxHeartbeats 8000000 in
theorem zgl {w:World} {d:DBs} {G:GDB} {iA:Option Addr} {ic:Nat} {xs:List ItemV} (hS:RS w d G iA ic xs) (es:List Entry) (L:Option Addr) (c g:Nat) (iv:Value) (W:World) (h:Bu w W g d.cells iv L c es) (he:es.length≤300000)
    (x y:ItemV) (hx:x.short) (hy:y.short) (k s:Int):
    Calls Tryz.prog 81 #[.pointer (some ⟨g,0,none⟩), .agg x.arr, .agg y.arr, .int .u8 k, .int .u8 s] W (RetBu w W g d.cells iv (zeY (zai G) es x y k s)):=by
  have HS:=Lib.hid hS
  obtain ⟨A8,c8,h8,hl8,hI8⟩:=hS.gd.prc
  have kp:=Lib.hid (fun (w':World) (D:Below w.heap.size w w')=>zjc d.cells G.procs A8 c8 h8 hl8 hS.gd.prcN y.name x.name k w' (hI8.below D))
  have HP:=Lib.hid (show zcv y.name k x.name G.procs=match zas y.name k x.name G.procs with | none=>(zaA,6) | some p=>(p,0) from rfl)
  have HPS:=Lib.hid (fun p (hp:zas y.name k x.name G.procs=some p)=>show p.small∧∀ x ∈ p.parts,∀ l ∈ x.legs,l.small from ⟨hS.gd.prcS p (zbh hp),hS.sh.prc p (zbh hp)⟩)
  have HC:=Lib.hid (show zeY (zai G) es x y k s=match zas y.name k x.name G.procs with | none=>(es,6) | some p=>if (zau p y.trans x.trans).2 ≠ 0 then (es,(zau p y.trans x.trans).2) else zcn (zai G) es (zau p y.trans x.trans).1 s (zbC x.name 46 x.trans) from rfl)
  generalize zeY (zai G) es x y k s=out at *
  have HB:=Lib.hid h
  have hvl:=zci hx 46
  clear hS h8 hl8 hI8
  have hxs:=hx.small
  obtain ⟨xk,xn,xt⟩:=x
  obtain ⟨yk,yn,yt⟩:=y
  have hx1:=hx.small.1
  have hx2:=hx.small.2
  have hy2:=hy.small.2
  have kw:=Lib.hid (fun W=>zip ⟨xk,xn,xt⟩ hxs W)
  dsimp only at *
  go_enter Tryz.func81,Tryz.ntmps81
  go_upto_region 1 with (fail)
  obtain ⟨X0,Y0,D0⟩:=zvI W (ItemV.arr ⟨xk,xn,xt⟩) (ItemV.arr ⟨yk,yn,yt⟩) 57 57
  generalize hW:World.alloc (World.alloc W _) _=W1
  have hW':(W.alloc (.cells (ItemV.arr ⟨xk,xn,xt⟩) 57)).alloc (.cells (ItemV.arr ⟨yk,yn,yt⟩) 57)=W1:=hW
  rw [hW'] at X0 Y0 D0
  clear hW hW'
  generalize W.heap.size+1=gy at Y0 ⊢
  obtain ⟨gx,hgx⟩:∃ q,q=W.heap.size:=⟨_,rfl⟩
  rw [← hgx] at X0 ⊢
  clear hgx
  have O1:=Lib.hid (OnlyB.of (g:=g) D0)
  have B1:=Lib.hid (HB.out.step D0)
  have HX:=Lib.hid (fun W' (b:Below W1.heap.size W1 W')=>X0.step b)
  have HY:=Lib.hid (fun W' (b:Below W1.heap.size W1 W')=>Y0.step b)
  have k1:za7 W1 g 0:=⟨_,B1.out.db⟩
  have k2:zbQ W1 g 0=d.cells:=zaL B1.out.db
  have z1:W1.cell? ⟨gy,1,none⟩=some (.string ⟨yn.toArray⟩):=Y0.cell 1
  have z2:W1.cell? ⟨gx,1,none⟩=some (.string ⟨xn.toArray⟩):=X0.cell 1
  have hgl:=B1.out.lt
  have hgx:=X0.lt
  have hgy:=Y0.lt
  clear D0 HB X0 Y0
  obtain ⟨r,hr⟩:∃ r,zcv yn k xn G.procs=r:=⟨_,rfl⟩
  rw [hr] at kp HP
  clear hr
  go_cut [11,12] (fun v e wx=>∃ q cs,v=.pointer (some ⟨q,0,none⟩)∧e=.int .i64 r.2∧Blk wx q cs∧W1.heap.size≤q∧PrcAt wx cs r.1∧Below W1.heap.size W1 wx)
  case first=>
    have HBE:=Lib.hid B1.out.bel
    generalize d.cells=cs at *
    clear HP HPS HC HX HY
    go_region_with (go_at_call 130;(with_reducible refine zvD (kp.out _ (by first | exact HBE.out.trans (((Below.refl _ _).drew).mono HBE.out.size) | exact zaa HBE.out (zaa (Below.refl _ _).drew (zac _ _)) | exact zaa HBE.out (Below.refl _ _).drew)) ?_);intro cs2 w2 h2 b2;obtain ⟨A5,c5,hcs,_,_⟩:=h2.ex;subst hcs;first | (have Y2:Blk w2 W1.heap.size (zaf zaA none 0):=(((Blk.new W1 #[.string ⟨#[]⟩, .string ⟨#[]⟩, .int .u8 0, .slice none 0 0] 131).step (Below.refl _ _).drew)).step b2;have e2:=zaa (zac W1 (.cells #[.string ⟨#[]⟩, .string ⟨#[]⟩, .int .u8 0, .slice none 0 0] 131)).drew b2;have d2:=Y2.plain;have d3:=Y2.of) | skip)
    all_goals
      go_wp2
      go_meet
      first
        | exact ⟨_,_,rfl,rfl,Blk.new _ _ _,Nat.le_trans b2.size (by simp),h2.below (zac _ _),zaa (Below.refl _ _).drew (zaa b2 (zac _ _))⟩
        | exact ⟨_,_,rfl,rfl,Y2.set _,Nat.le_refl _,h2.set4 Y2,zab e2 (Nat.le_refl _) _⟩
  case rest=>
  obtain ⟨q,cs,rfl,rfl,Q,hq,HFar,BC⟩:=hcut
  have B2:=Lib.hid (B1.out.step BC)
  have O2:=Lib.hid (O1.out.trans (OnlyB.of BC))
  have X2:=HX.out _ BC
  have Y2:=HY.out _ BC
  obtain ⟨A5,c5,hcs,_,_⟩:=HFar.ex
  subst hcs
  clear k1 k2 z1 z2 hgl hgx hgy kp B1 O1 HX HY BC
  cases hf2:zas yn k xn G.procs with
  | none=>
    rw [hf2] at HC HP
    have HO:=Lib.hid (show out=(es,6) from HC.out)
    have hr:r=(zaA,6):=HP.out
    subst hr
    clear hf2 HC HP HPS
    go_wp2
    go_ret
    exact RetBu.same HO.out B2.out O2.out
  | some p=>
    rw [hf2] at HC HP
    have HO:=Lib.hid (show out=if (zau p yt xt).2 ≠ 0 then (es,(zau p yt xt).2) else zcn (zai G) es (zau p yt xt).1 s (zbC xn 46 xt) from HC.out)
    have hr:r=(p,0):=HP.out
    subst hr
    have hps:=HPS.out p hf2
    have hex:=zeq hps.2 yt xt
    clear hf2 HC HP HPS
    have ke:=Lib.hid (fun (W':World) (D:Below wc.heap.size wc W')=>zl1 p (zaf p A5 c5) yt xt W' (HFar.below D) hps.1 hy2 hx2)
    have i1:zaR wc q 0:=⟨_,Q.is_prc rfl⟩
    have i2:za9 wc q 0=zaf p A5 c5:=zaB (Q.is_prc rfl)
    have z1:wc.cell? ⟨gy,2,none⟩=some (.string ⟨yt.toArray⟩):=Y2.cell 2
    have z2:wc.cell? ⟨gx,2,none⟩=some (.string ⟨xt.toArray⟩):=X2.cell 2
    generalize zau p yt xt=ex at *
    obtain ⟨lg,er⟩:=ex
    dsimp only at hex HO
    have HEX:=Lib.hid hex
    have HX2:=Lib.hid X2
    clear hex hps HFar hq Q X2 Y2
    by_cases hz:er=0
    case neg=>
      have hz':(er != 0)=true:=by simpa using hz
      have HO:=Lib.hid (HO.out.trans (if_pos hz))
      clear hz
      go_wp2_with (go_at_call 131;(with_reducible refine zmI (ke.out _ (Below.refl _ _)) ?_);intro A6 c6 w6 hl6 hI6 b6)
      go_ret
      exact RetBu.same HO.out (B2.out.step b6) (O2.out.trans (OnlyB.of b6))
    subst hz
    have HO:=Lib.hid (HO.out.trans (if_neg (not_not_intro rfl)))
    go_upto_region 7 with (go_at_call 131;(with_reducible refine zmI (ke.out _ (Below.refl _ _)) ?_);intro A6 c6 w6 hl6 hI6 b6)
    have B6:=Lib.hid (B2.out.step b6)
    have O6:=Lib.hid (O2.out.trans (OnlyB.of b6))
    have X6:=HX2.out.step b6
    clear i1 i2 z1 z2 ke
    have j1:zak w6 gx 0:=⟨_,X6.is_itm⟩
    have j2:zar w6 gx 0=⟨xk,xn,xt⟩:=zam X6.is_itm
    have ka:=Lib.hid (fun W7 (D:Below w6.heap.size w6 W7)=>HS.out.radd (B6.out.step D) lg A6 c6 s (zbC xn 46 xt) (hI6.below D) hl6 (Nat.le_trans HEX.out.1 (by omega)) HEX.out.2 hvl he)
    clear hl6 hI6 X6 HX2 B2 O2 b6
    go_wp2_with (first
      | (go_at_call 87;(with_reducible refine zaj (kw.out _) ?_);intro w7 b7 _ _ _)
      | (go_at_call 128;(with_reducible refine zch (ka.out _ b7) ?_);intro L7 c7 W7 B7 O7))
    go_ret
    rw [HO.out]
    exact ⟨L7,c7,rfl,B7,O6.out.trans ((OnlyB.of b7).trans O7)⟩
end
theorem RS.two {w:World} {d:DBs} {G:GDB} {iA:Option Addr} {ic:Nat} {xs:List ItemV} (h:RS w d G iA ic xs) (h1:1 < xs.length):∃ b off,iA=some ⟨b,off,none⟩∧1 < ic∧∀ W,Below w.heap.size w W→zfA W b off (xs.getD 0 noItem)∧zfA W b (off+3) (xs.getD 1 noItem):=by
  obtain ⟨b,off,e,_,hc⟩:=h.itm (i:=0) (by omega)
  obtain ⟨b',off',e',h3,hc'⟩:=h.itm (i:=1) h1
  obtain ⟨rfl,rfl⟩:b'=b∧off'=off:=by
    rw [e] at e'
    injection e' with e1
    injection e1 with e2 e3
    exact ⟨e2.symm,e3.symm⟩
  refine ⟨b',off',e,h3,fun W D=>⟨?_,?_⟩⟩
  · have:=hc W D;rwa [Nat.zero_mul,Nat.add_zero] at this
  · have:=hc' W D;rwa [Nat.one_mul] at this
section
attribute [local go_sem] zbY zba zbs zgS
attribute [local go_sem ↓] zfy
set_option maxHeartbeats 16000000 in
theorem zlX {w:World} {d:DBs} {G:GDB} {iA:Option Addr} {ic:Nat} {xs:List ItemV} (hS:RS w d G iA ic xs) (es:List Entry) (L:Option Addr) (c g:Nat) (W:World) (h:Bu w W g d.cells (.slice iA xs.length ic) L c es) (he:es.length≤250000) (h1:1 < xs.length) (hw:(zbc (xs.getD 0 noItem)).length≤4000000000):
    Calls Tryz.prog 80 #[.pointer (some ⟨g,0,none⟩)] W (RetBu w W g d.cells (.slice iA xs.length ic) (zcM (zai G) es (xs.getD 1 noItem) (zbc (xs.getD 0 noItem)))):=by
  have HS:=Lib.hid hS
  have HB:=Lib.hid h
  have hx0:=zaM hS.xsS 0
  have hys:=zaM hS.xsS 1
  obtain ⟨b,off,hiA,hic,hcl⟩:=hS.two h1
  obtain ⟨m,hm⟩:∃ m,xs.length=m+2:=⟨xs.length - 2,by omega⟩
  have HM:=Lib.hid hm
  have HIA:=Lib.hid hiA
  have IS:=Lib.hid (fun W' (D:Below W.heap.size W W')=>show (za7 W' g 0∧zbQ W' g 0=d.cells)∧W'.cell? ⟨g,9,none⟩=some (.slice (some ⟨b,off,none⟩) (m+2) ic)∧zak W' b off∧zar W' b off=xs.getD 0 noItem from
    ⟨⟨⟨_,(HB.out.step D).db⟩,zaL (HB.out.step D).db⟩,by have:=(HB.out.step D).c9;rw [hiA,hm] at this;exact this,⟨_,(hcl W' (HB.out.step D).bel).1⟩,zam (hcl W' (HB.out.step D).bel).1⟩)
  have IS1:=Lib.hid (fun W' (D:Below W.heap.size W W')=>show W'.cell? ⟨g,9,none⟩=some (.slice (some ⟨b,off,none⟩) (m+2) ic)∧zak W' b (off+3)∧zar W' b (off+3)=xs.getD 1 noItem from
    ⟨by have:=(HB.out.step D).c9;rw [hiA,hm] at this;exact this,⟨_,(hcl W' (HB.out.step D).bel).2⟩,zam (hcl W' (HB.out.step D).bel).2⟩)
  have IS3:=Lib.hid (fun W' L' c' es' (X:Bu w W' g d.cells (.slice iA xs.length ic) L' c' es')=>show W'.cell? ⟨g,9,none⟩=some (.slice (some ⟨b,off,none⟩) (m+2) ic)∧zak W' b (off+3)∧zar W' b (off+3)=xs.getD 1 noItem from
    ⟨by have:=X.c9;rw [hiA,hm] at this;exact this,⟨_,(hcl W' X.bel).2⟩,zam (hcl W' X.bel).2⟩)
  have IK:=Lib.hid (fun W' (D:Below W.heap.size W W')=>show W'.cell? ⟨b,off+3,none⟩=some (.int .u8 (xs.getD 1 noItem).kind) from (hcl W' (HB.out.step D).bel).2 0 (by omega))
  have HOS:=Lib.hid (show zcM (zai G) es (xs.getD 1 noItem) (zbc (xs.getD 0 noItem))=if (zbi G.fixes (zbc (xs.getD 0 noItem))).2 ≠ 0 then (es,(zbi G.fixes (zbc (xs.getD 0 noItem))).2) else if (xs.getD 1 noItem).kind=2 then zcn (zai G) es [zaI 1 (zbi G.fixes (zbc (xs.getD 0 noItem))).1] 1 (zbC (xs.getD 1 noItem).name 46 (xs.getD 1 noItem).trans) else zcn (zai G) es [zaI 1 (zbi G.fixes (zbc (xs.getD 0 noItem))).1] 2 [] from rfl)
  generalize hxe:xs.getD 0 noItem=x0 at *
  generalize hye:xs.getD 1 noItem=y1 at *
  have kw:=Lib.hid (fun W'=>zeS x0 hx0.small W')
  have ky:=Lib.hid (fun W'=>zip y1 hys.small W')
  have hvl:=zci hys 46
  generalize hwd:zbc x0=word at *
  have hpl:=zdW HS.out.sh word
  have kp:=Lib.hid (fun W' (D:Below W.heap.size W W')=>zi8 d G.fixes word W' hw (HS.out.gd.db.below (HB.out.step D).bel))
  generalize zcM (zai G) es y1 word=out at *
  generalize zbi G.fixes word=pl at *
  obtain ⟨pr,pe⟩:=pl
  obtain ⟨yk,yn,yt⟩:=y1
  dsimp only at HOS hpl kp hvl ky
  have KAD:=Lib.hid (fun W' L' c' (X:Bu w W' g d.cells (.slice iA xs.length ic) L' c' es) (sec:Int) (via:List UInt8) (hv:via.length≤4000000000) q (Y:Blk W' q (zaI 1 pr).arr)=>HS.out.radd1 X 1 pr q sec via Y hpl hv (by omega))
  have hm1:(1:Int) < (m:Int)+2:=by omega
  have hm0:(0:Int) < (m:Int)+2:=by omega
  have hm2:0 < m+2:=by omega
  have hm3:1 < m+2:=by omega
  have hic0:0 < ic:=by omega
  generalize d.cells=cs at *
  clear hS h hiA hcl hm hxe hye hwd hx0 hys hw h1
  go_enter Tryz.func80,Tryz.ntmps80
  go_upto_region 1 with (fail)
  go_cut [3,4] (fun v e wx=>v=.string ⟨pr.toArray⟩∧e=.int .i64 pe∧Below W.heap.size W wx)
  case first=>
    clear HOS
    go_region_held3 (fun w'=>(za7 w' g 0∧zbQ w' g 0=cs)∧w'.cell? ⟨g,9,none⟩=some (.slice (some ⟨b,off,none⟩) (m+2) ic)∧zak w' b off∧zar w' b off=x0)
      ((refine IS.out _ ?_;repeat' (first | assumption | omega | (refine Below.alloc ?_ ?_ _) | (refine Below.drew ?_) | exact Below.refl _ _ | (simp;done) | (simp;omega))))
      (first
        | (go_at_call 43;(with_reducible refine zaj (kw.out _) ?_);intro w2 b2 _ _ _;have f2:Below W.heap.size W w2:=by first | exact b2 | exact zcm b2)
        | (go_at_call 16;(with_reducible refine zaj (kp.out _ f2) ?_);intro w3 b3 _ _ _;have f3:Below W.heap.size W w3:=zaa f2 b3))
    all_goals
      go_wp2
      go_meet
      exact ⟨rfl,rfl,f3⟩
  case rest=>
  obtain ⟨rfl,rfl,BC⟩:=hcut
  have B1:=Lib.hid (HB.out.step BC)
  have O1:=Lib.hid (OnlyB.of (g:=g) BC)
  have IS1:=Lib.hid (fun W' (D:Below wc.heap.size wc W')=>IS1.out W' (BC.trans (D.mono BC.size)))
  obtain ⟨q9,_,_⟩:=IS1.out wc (Below.refl _ _)
  have q0:=IK.out wc BC
  have kad:=Lib.hid (fun W' (D:Below wc.heap.size wc W') sec via (hv:via.length≤4000000000) q (Y:Blk W' q (zaI 1 pr).arr)=>KAD.out W' _ _ (B1.out.step D) sec via hv q Y)
  clear IS IK kp kw BC HB
  by_cases hz:pe=0
  rotate_left
  · have hz':(pe != 0)=true:=by simpa using hz
    have HO2:=Lib.hid (show out=(es,pe) from HOS.out.trans (if_pos hz))
    clear HOS hz
    go_wp2
    go_ret
    exact RetBu.same HO2.out B1.out O1.out
  subst hz
  have HOS2:=Lib.hid (HOS.out.trans (if_neg (not_not_intro rfl)))
  clear HOS
  by_cases h2:yk=2
  · subst h2
    have HO2:=Lib.hid (show out=zcn (zai G) es [zaI 1 pr] 1 (zbC yn 46 yt) from HOS2.out.trans (if_pos rfl))
    have kad:=Lib.hid (fun W' (D:Below wc.heap.size wc W') q (Y:Blk W' q (zaI 1 pr).arr)=>HO2.out ▸ kad.out W' D 1 (zbC yn 46 yt) hvl q Y)
    clear HOS2
    go_upto_region 5 with (fail)
    go_region_held3 (fun w'=>w'.cell? ⟨g,9,none⟩=some (.slice (some ⟨b,off,none⟩) (m+2) ic)∧zak w' b (off+3)∧zar w' b (off+3)=⟨2,yn,yt⟩)
      (first | exact IS3.out _ _ _ _ B8 | ((refine IS1.out _ ?_;repeat' (first | assumption | omega | (refine Below.alloc ?_ ?_ _) | (refine Below.drew ?_) | exact Below.refl _ _ | (simp;done) | (simp;omega)))))
      (first
        | (go_at_call 129;(with_reducible refine zaj (zfJ 1 pr _) ?_);intro w5 b5 _ _ _;have f5:Below wc.heap.size wc w5:=by first | exact zaa f6 b5 | exact zcm b5 | exact b5
           have s5:=f5.size)
        | (go_at_call 87;(with_reducible refine zaj (ky.out _) ?_);intro w6 b6 _ _ _;have f6:Below wc.heap.size wc w6:=by first | exact zaa (zaa f5 (zac w5 (.cells (zaI 1 pr).arr 64))) b6 | exact zaa f5 b6 | exact zcm b6 | exact b6
           have s6:=f6.size
           try have Y6:Blk w6 w5.heap.size (zaI 1 pr).arr:=(Blk.new w5 (zaI 1 pr).arr 64).step b6)
        | (go_at_call 128;(first | (with_reducible refine zch (kad.out _ f6 _ Y6) ?_) | (with_reducible refine zch (kad.out _ (zaa f6 (zac w6 (.cells (zaI 1 pr).arr 64))) _ (Blk.new _ _ _)) ?_) | (with_reducible refine zch (kad.out _ (zaa f5 (zac w5 (.cells (zaI 1 pr).arr 64))) _ (Blk.new _ _ _)) ?_));intro L8 c8 w8 B8 O8
           have hO:OnlyB g wc w8:=by first | exact (OnlyB.of f6).trans O8 | exact (OnlyB.of (zaa f6 (zac w6 (.cells (zaI 1 pr).arr 64)))).trans O8 | exact (OnlyB.of (zaa f5 (zac w5 (.cells (zaI 1 pr).arr 64)))).trans O8))
    all_goals
      go_wp2
      go_ret
      exact ⟨L8,c8,rfl,B8,O1.out.trans hO⟩
  · have h2':(yk == 2)=false:=by simpa using h2
    have HO2:=Lib.hid (show out=zcn (zai G) es [zaI 1 pr] 2 [] from HOS2.out.trans (if_neg h2))
    have kad:=Lib.hid (fun W' (D:Below wc.heap.size wc W') q (Y:Blk W' q (zaI 1 pr).arr)=>show Calls Tryz.prog 128 #[.pointer (some ⟨g,0,none⟩), .slice (some ⟨q,0,none⟩) 1 1, .int .u8 2, .string ⟨#[]⟩] W' (RetBu w W' g cs (.slice iA xs.length ic) out) from HO2.out ▸ kad.out W' D 2 [] (by simp) q Y)
    clear HOS2 h2
    go_wp2_with (first
      | (go_at_call 129;(with_reducible refine zaj (zfJ 1 pr _) ?_);intro w6 b6 _ _ _;have f6:=zaa b6 (zac w6 (.cells (zaI 1 pr).arr 64)))
      | (go_at_call 128;(with_reducible refine zch (kad.out _ f6 _ (Blk.new _ _ _)) ?_);intro L8 c8 w8 B8 O8))
    go_ret
    exact ⟨L8,c8,rfl,B8,O1.out.trans ((OnlyB.of f6).trans O8)⟩
end
end Go.Proofs.YtgoeedohgomodaaGreatDoor
namespace Go.Proofs.YtgoeedohgomodaaGreatDoor
open Go.RowKit
set_option maxHeartbeats 4000000 in
set_option maxRecDepth 100000 in
theorem zks (p:Plan) (A:Option Addr) (c:Nat) (w:World) (hs:p.small) (hc:p.es.length≤c) (hE:Ents w A p.es):
   Calls Tryz.prog 44 #[p.val A c] w (Ret w (.int .i64 (zaq p))):=by
  have hn:=hs.len
  have hf:=hs.from_
  have ht:=hs.to_
  have hO0:=Own1.mk0 w (p.arr A c) 43
  go_enter Tryz.func44,Tryz.ntmps44
  go_upto_region 1 with (fail)
  generalize w.alloc _=W at hO0 ⊢
  have hc0:=hO0.cell
  have hlt0:=hO0.lt
  go_upto_region 6 with (go_at_call 88;refine zae (zqK _ _ (by assumption)) ?_)
  all_goals try (go_ret;refine Ret.int ?_ (Own1.below (by assumption));go_light;first | (simp [zaq, *];done) | grind [zaq])
  rename zf9 p.from_=true=>ha
  rename (!zf9 p.to_)=false=>hb0
  rename (p.es.length:Int)≤60=>hlen
  have hp0:=Lib.hid (show zaq p=orE (zbt none 0 p.es) (zcd p) by go_light;grind [zaq])
  clear ha hb0 hlen
  go_wp2
  go_loopw [3,25] (fun t i wr=>∃ (k:Nat) (s:Int),k≤p.es.length∧i=.int .i64 k∧t=.int .u8 s∧zaq p=orE (zbt (zpL p.es k) s (p.es.drop k)) (zcd p)∧Own1 w (p.arr A c) wr) (fun _ i _=>p.es.length - (intOf i).toNat)
  case atStart=>exact ⟨0,0,by omega,rfl,rfl,hp0.out,hO0⟩
  case round=>
    obtain ⟨k,s,hk,rfl,rfl,hq,hO⟩:=hrel
    have HQ:=Lib.hid hq;clear hq hp0 hO0 hc0 hlt0
    by_cases hlt:k < p.es.length
    · obtain ⟨b,off,hA,hb,he⟩:=hE.get hlt
      subst hA
      have hd:=Lib.hid (List.drop_eq_getElem_cons hlt)
      have hx:=hs.each p.es[k] (List.getElem_mem _)
      generalize p.es[k]=x at he hd hx
      have e1:∀ j,j < 20→wr.cell? ⟨b,off+k * 20+j,none⟩=x.arr[j]?:=fun j hj=>by rw [hO.below.cell (p:=⟨b,_,none⟩) hb];exact he j hj
      have P0:=hO.boxed.alloc (.cells x.arr 69)
      have X0:=Boxed.new wr x.arr 69
      have B0:=(hO.alloc (.cells x.arr 69)).below
      clear he
      go_upto_region 9 with (first
        | ((with_reducible refine zcQ 69 (.tmp 28) rfl ?_);refine zax rfl 69 (.tmp 28) rfl b (off+k * 20) rfl x.arr _ _ rfl e1 Tryz.underlying69 rfl zct ?_)
        | ((with_reducible refine ziE 69 (.tmp 5) (.tmp 29) rfl ?_);refine zcX rfl 69 (.tmp 5) (.tmp 29) rfl _ x.arr rfl rfl 20 zct (x).arr_size rfl (x).arr_one ?_))
      go_frame
      generalize wr.alloc _=W0 at P0 X0 B0 ⊢
      generalize wr.heap.size=g at X0 ⊢
      clear e1
      have hcp:=P0.cell
      have hcx:=X0.cell
      have hne:=zsf x
      have hxs:∀ j,j < 20→W0.cell? ⟨g,0+j,none⟩=x.arr[j]?:=fun j _=>by rw [Nat.zero_add];exact hcx j
      have hlast:=Lib.hid (zn1 p.es k hlt)
      have hxk:=Lib.hid (show p.es[k]? = some x from by rw [← List.head?_drop,hd.out];rfl)
      obtain ⟨r,hr⟩:∃ r,r=p.es.drop (k+1):=⟨_,rfl⟩
      rw [← hr] at hlast hd
      have HR:=Lib.hid hr;clear hr
      have hlt0:=P0.lt
      rcases k with _ | m
      · have HQ2:=Lib.hid (show zaq p=orE (orE (zeR none s r.isEmpty x) (zbt (some x) (if x.gap then s else x.sec) r)) (zcd p) by rw [HQ.out,hd.out];rfl)
        clear HQ
        by_cases hg:x.gap=true
        · go_wp2_with ((with_reducible refine zcQ 69 (.tmp 5) rfl ?_);refine zax rfl 69 (.tmp 5) rfl g 0 rfl x.arr _ _ rfl hxs Tryz.underlying69 rfl zct ?_)
          · go_ret;refine Ret.int ?_ B0;rw [HQ2.out];exact zlM hg (by assumption)
          · go_ret;refine Ret.int ?_ B0;rw [HQ2.out];exact zhm hg (by assumption) rfl
        · have hg:x.gap=false:=by simpa using hg
          go_wp2_with ((with_reducible refine zcQ 69 (.tmp 5) rfl ?_);refine zax rfl 69 (.tmp 5) rfl g 0 rfl x.arr _ _ rfl hxs Tryz.underlying69 rfl zct ?_)
          refine zvE P0 X0 B0 (zkR x _ hx) ?_
          intro w1 P1 X1 B1 hcp1 hcx1
          go_wp2_with (go_at_call 90;refine zae (zc0 _ _) ?_)
          · go_ret;refine Ret.int ?_ B1;rw [HQ2.out];exact zkP hg (by assumption)
          · go_ret;refine Ret.int ?_ B1;rw [HQ2.out];exact zhK hg (by assumption) (zpO (by assumption)) (by decide)
          · go_ret;refine Ret.int ?_ B1;rw [HQ2.out];exact zkO hg (by assumption) (zeD (by assumption)) (by assumption)
          · go_roundw
            case rel=>first | exact ⟨1,x.sec,by omega,rfl,rfl,by rw [HQ2.out,zig hg (by assumption) (zeD (by assumption)) (by omega),hg,HR.out];show _=orE (zbt (p.es[0]?) _ _) _;rw [hxk.out];rfl,P1.own B1⟩ | ((repeat apply Exists.intro);exact ⟨⟨1,x.sec,by omega,rfl,rfl,by rw [HQ2.out,zig hg (by assumption) (zeD (by assumption)) (by omega),hg,HR.out];show _=orE (zbt (p.es[0]?) _ _) _;rw [hxk.out];rfl,P1.own B1⟩,rfl⟩)
            case measure=>simp [intOf];omega
      · have hm:m < p.es.length:=by omega
        have hym:=List.getElem?_eq_getElem hm
        have hcy:∀ W,Below w.heap.size w W→∀ j,j < 20→W.cell? ⟨b,off+m * 20+j,none⟩=p.es[m].arr[j]?:=fun W hW=>hE.cells hW hm
        generalize p.es[m]=y at hym hcy
        have hc0:=hcy W0 B0
        have HCY:=Lib.hid hcy;clear hcy
        have f0:W0.cell? ⟨b,off+m * 20,none⟩=some (.bool y.gap):=hc0 0 (by omega)
        have HQ2:=Lib.hid (show zaq p=orE (orE (zeR (some y) s r.isEmpty x) (zbt (some x) (if x.gap then s else x.sec) r)) (zcd p) by rw [HQ.out,hd.out];simp only [zpL,hym];rfl)
        clear HQ hym
        by_cases hg:x.gap=true
        · go_wp2_with ((with_reducible refine zcQ 69 (.tmp 5) rfl ?_);refine zax rfl 69 (.tmp 5) rfl g 0 rfl x.arr _ _ rfl hxs Tryz.underlying69 rfl zct ?_)
          · go_ret;refine Ret.int ?_ B0;rw [HQ2.out];exact zlM hg (by assumption)
          · go_ret;refine Ret.int ?_ B0;rw [HQ2.out];exact zhm hg (by assumption) (by rw [hlast.out];simp [zea];omega)
          · go_ret;refine Ret.int ?_ B0;rw [HQ2.out];exact zhm hg (by assumption) (by rename_i h;rcases h with (h | h) | h <;> first | (simp [zea,h];done) | (simp at h;omega))
          · go_roundw
            case rel=>first | exact ⟨m+1+1,s,by omega,by go_num,rfl,by rw [HQ2.out,zlN hg (by assumption) (by rw [hlast.out];rename_i h;obtain ⟨⟨_,h1⟩,h2⟩:=h;simp [zea,h2];simp at h1;omega),hg,HR.out];show _=orE (zbt (p.es[m+1]?) _ _) _;rw [hxk.out];rfl,P0.own B0⟩ | ((repeat apply Exists.intro);exact ⟨⟨m+1+1,s,by omega,by go_num,rfl,by rw [HQ2.out,zlN hg (by assumption) (by rw [hlast.out];rename_i h;obtain ⟨⟨_,h1⟩,h2⟩:=h;simp [zea,h2];simp at h1;omega),hg,HR.out];show _=orE (zbt (p.es[m+1]?) _ _) _;rw [hxk.out];rfl,P0.own B0⟩,rfl⟩)
            case measure=>simp [intOf];omega
        · have hg:x.gap=false:=by simpa using hg
          go_wp2_with ((with_reducible refine zcQ 69 (.tmp 5) rfl ?_);refine zax rfl 69 (.tmp 5) rfl g 0 rfl x.arr _ _ rfl hxs Tryz.underlying69 rfl zct ?_)
          refine zvE P0 X0 B0 (zkR x _ hx) ?_
          intro w1 P1 X1 B1 hcp1 hcx1
          have hc1:=HCY.out w1 B1
          have f1:w1.cell? ⟨b,off+m * 20,none⟩=some (.bool y.gap):=hc1 0 (by omega)
          have hy1:∀ j,j < 13→w1.cell? ⟨b,off+m * 20+1+j,none⟩=y.leg.arr[j]?:=fun j hj=>by rw [Nat.add_assoc,hc1 _ (by omega)];exact y.leg_sub j hj
          clear hc1 hc0 f0
          by_cases hyg:y.gap=true
          · go_wp2_with (go_at_call 90;refine zae (zc0 _ _) ?_)
            · go_ret;refine Ret.int ?_ B1;rw [HQ2.out];exact zkP hg (by assumption)
            · go_ret;refine Ret.int ?_ B1;rw [HQ2.out];exact zhK hg (by assumption) (znB hyg (by assumption)) (by decide)
            · go_ret;refine Ret.int ?_ B1;rw [HQ2.out];exact zkO hg (by assumption) (zdX hyg (by assumption)) (by assumption)
            · go_roundw
              case rel=>first | exact ⟨m+1+1,x.sec,by omega,by go_num,rfl,by rw [HQ2.out,zig hg (by assumption) (zdX hyg (by assumption)) (by omega),hg,HR.out];show _=orE (zbt (p.es[m+1]?) _ _) _;rw [hxk.out];rfl,P1.own B1⟩ | ((repeat apply Exists.intro);exact ⟨⟨m+1+1,x.sec,by omega,by go_num,rfl,by rw [HQ2.out,zig hg (by assumption) (zdX hyg (by assumption)) (by omega),hg,HR.out];show _=orE (zbt (p.es[m+1]?) _ _) _;rw [hxk.out];rfl,P1.own B1⟩,rfl⟩)
              case measure=>simp [intOf];omega
          · have hyg:y.gap=false:=by simpa using hyg
            have P2:=P1.alloc (.cells y.leg.arr 64)
            have X2:=X1.alloc (.cells y.leg.arr 64)
            have Y2:=Boxed.new w1 y.leg.arr 64
            have B2:=zaa B1 ((Below.refl w1.heap.size w1).alloc (Nat.le_refl _) (.cells y.leg.arr 64))
            go_upto_region 21 with (first
              | ((with_reducible refine zcQ 64 (.tmp 80) rfl ?_);refine zax rfl 64 (.tmp 80) rfl b (off+m * 20+1) rfl y.leg.arr _ _ rfl hy1 Tryz.underlying64 rfl zfv ?_)
              | ((with_reducible refine ziE 64 (.tmp 7) (.tmp 81) rfl ?_);refine zcX rfl 64 (.tmp 7) (.tmp 81) rfl _ y.leg.arr rfl rfl 13 zfv (y.leg).arr_size rfl (y.leg).arr_one ?_))
            · go_ret;refine Ret.int ?_ B1;rw [HQ2.out];exact zkP hg (by assumption)
            go_frame
            generalize w1.alloc _=W2 at P2 X2 Y2 B2 ⊢
            generalize w1.heap.size=g2 at Y2 ⊢
            have hxl:∀ j,j < 13→W2.cell? ⟨g,1+j,none⟩=x.leg.arr[j]?:=X2.at 1 x.leg.arr 13 x.leg_sub
            have hyl:∀ j,j < 13→W2.cell? ⟨g2,0+j,none⟩=y.leg.arr[j]?:=fun j _=>by rw [Nat.zero_add];exact Y2.cell j
            have hcp2:=P2.cell
            have hcx2:=X2.cell
            have hcy2:=Y2.cell
            clear hcp1 hcx1 f1 hy1
            go_wp2_with (first
              | ((with_reducible refine zcQ 64 (.tmp 7) rfl ?_);refine zax rfl 64 (.tmp 7) rfl g2 0 rfl y.leg.arr _ _ rfl hyl Tryz.underlying64 rfl zfv ?_)
              | ((with_reducible refine zcQ 64 (.tmp 83) rfl ?_);refine zax rfl 64 (.tmp 83) rfl g 1 rfl x.leg.arr _ _ rfl hxl Tryz.underlying64 rfl zfv ?_))
            refine zwY P2 X2 Y2 B2 (zfH y.leg x.leg _) ?_
            intro w3 P3 X3 Y3 B3 hcp3 hcx3 hcy3
            have hxl3:∀ j,j < 13→w3.cell? ⟨g,1+j,none⟩=x.leg.arr[j]?:=X3.at 1 x.leg.arr 13 x.leg_sub
            have hyl3:∀ j,j < 13→w3.cell? ⟨g2,0+j,none⟩=y.leg.arr[j]?:=fun j _=>by rw [Nat.zero_add];exact Y3.cell j
            go_upto_region 23 with (fail)
            · go_ret;refine Ret.int ?_ B3;rw [HQ2.out];exact zhK hg (by assumption) (zpP hyg (by assumption)) (by decide)
            go_cut [109] (fun sv wx=>sv=.bool (y.leg.dupB x.leg)∧Boxed wx w.heap.size (p.arr (some ⟨b,off,none⟩) c)∧Boxed wx g x.arr∧Below w.heap.size w wx)
            case first=>
              have h24:∃ a b,(x.leg.ty == 2)=a∧(x.leg.ty == 4)=b:=⟨_,_,rfl,rfl⟩
              obtain ⟨a2,a4,h2,h4⟩:=h24
              have htd:=Lib.hid (show tdB x.leg.ty=(a2 || a4) by rw [tdB,h2,h4])
              clear hcp2 hcx2 hcy2 hxl hyl hne hxs hcp hcx hcp3
              cases a2 <;> cases a4
              all_goals
                go_wp2_with (go_at_call 92;refine zae (zjh _ _) ?_)
                all_goals (go_meet;exact ⟨by rw [Leg.dupB,htd.out];go_light;simp [Leg.arrivedB, *],P3,X3,B3⟩)
            case rest=>
              obtain ⟨rfl,P5,X5,B5⟩:=hcut
              have hcx5:=X5.cell
              clear hcp2 hcx2 hcy2 hcp3 hcx3 hcy3 hxl hyl hxl3 hyl3 hne hxs hcp hcx
              go_wp2
              · go_ret;refine Ret.int ?_ B5;rw [HQ2.out];exact zhK hg (by assumption) (zsL hyg (by assumption) (by assumption)) (by decide)
              · go_ret;refine Ret.int ?_ B5;rw [HQ2.out];exact zkO hg (by assumption) (zk0 hyg (by assumption) (by assumption)) (by assumption)
              · go_roundw
                case rel=>first | exact ⟨m+1+1,x.sec,by omega,by go_num,rfl,by rw [HQ2.out,zig hg (by assumption) (zk0 hyg (by assumption) (by assumption)) (by omega),hg,HR.out];show _=orE (zbt (p.es[m+1]?) _ _) _;rw [hxk.out];rfl,P5.own B5⟩ | ((repeat apply Exists.intro);exact ⟨⟨m+1+1,x.sec,by omega,by go_num,rfl,by rw [HQ2.out,zig hg (by assumption) (zk0 hyg (by assumption) (by assumption)) (by omega),hg,HR.out];show _=orE (zbt (p.es[m+1]?) _ _) _;rw [hxk.out];rfl,P5.own B5⟩,rfl⟩)
                case measure=>simp [intOf];omega
    · have HQ2:=Lib.hid (show zaq p=zcd p by rw [HQ.out,List.drop_of_length_le (by omega)];rfl)
      have hc1:=hO.cell
      by_cases ha:p.active=-1
      · have h1:(p.active != -1)=false:=by simp [ha]
        have HA:=Lib.hid ha;clear ha
        go_wp2
        go_ret;refine Ret.int ?_ hO.below;rw [HQ2.out];simp [zcd,HA.out]
      · have h1:(p.active != -1)=true:=by simp [ha]
        have HA:=Lib.hid ha;clear ha
        by_cases hr:p.active < 0∨(p.es.length:Int)≤p.active
        · go_wp2
          all_goals (go_ret;refine Ret.int ?_ hO.below;rw [HQ2.out];simp [zcd,HA.out,hr])
        · obtain ⟨n,hpn⟩:∃ n:Nat,p.active=n:=⟨p.active.toNat,by omega⟩
          have hnl:n < p.es.length:=by omega
          have HR:=Lib.hid hr;clear hr
          obtain ⟨b,off,hA,hb,he⟩:=hE.get hnl
          subst hA
          have e0:wr.cell? ⟨b,off+n * 20,none⟩=some (.bool p.es[n].gap):=by rw [hO.below.cell (p:=⟨b,_,none⟩) hb];exact he 0 (by omega)
          clear he
          have hb1:¬ ((n:Int) < 0):=by omega
          have hb2:¬ ((p.es.length:Int)≤(n:Int)):=by omega
          have hv:=Lib.hid (show zcd p=if p.es[n].gap then 2 else 0 by unfold zcd;rw [if_neg HA.out,if_neg HR.out,hpn];simp [hnl])
          go_wp2
          all_goals (go_ret;refine Ret.int ?_ hO.below;rw [HQ2.out,hv.out];go_light;simp_all)
end Go.Proofs.YtgoeedohgomodaaGreatDoor
namespace Go.Proofs.YtgoeedohgomodaaGreatDoor
open Go.RowKit Go.Sort
set_option maxRecDepth 100000
theorem zlU (y:Entry) (w:World):(Instr.field 69 (.agg y.arr) 4).run Tryz.prog w=.ok (.int .u8 y.sec) w:=by
  obtain ⟨a,⟨b1,b2,b3,b4,b5,b6,b7,b8,b9,b10,b11,b12,b13⟩,c,d,e,f,g,h⟩:=y
  kernel_rfl
theorem zvC {P:Program} {f:FuncId} {args:Array Value} {W:World} {r:ProcV × Int} {K:Ending→World→Prop} (h:Calls P f args W (zpC W r))
    (k:∀ A c w',PrcAt w' (zaf r.1 A c) r.1→Below W.heap.size W w'→K (.returned (.tuple #[.agg (zaf r.1 A c), .int .i64 r.2])) w'):Calls P f args W K:=
  h.mono fun e w' ⟨cs,he,h1,h2⟩=>by
    obtain ⟨A,c,rfl,_,_⟩:=id h1.ex
    subst he
    exact k A c w' h1 h2
theorem zrk (R:zbS) (l:List Entry) (x y:ItemV) (word:List UInt8) (i:Nat):zdH R l x y word i=((zdH R l x y word 0).1,((i:Int)+(zdH R l x y word 0).2.1,(zdH R l x y word 0).2.2)):=by
  unfold zdH
  repeat' split
  all_goals first
    | rfl
    | (simp;done)
    | (simp;omega)
    | contradiction
theorem zvv (R:zbS) (l:List Entry) (x y:ItemV) (word:List UInt8):-1≤(zdH R l x y word 0).2.1∧(zdH R l x y word 0).2.1≤0:=by
  unfold zdH
  repeat' split
  all_goals (constructor <;> simp)
theorem RetKE.miss {w W W':World} {g:Nat} {cs:Array Value} {iv:Value} {L:Option Addr} {c:Nat} {r:List Entry × (Int × Int)} {l l0:List Entry} {n:Int} (hr:r=if n ≠ 0 then (l0,(-1,n)) else (l,(0,0))) (h:Bu w W' g cs iv L c l) (o:OnlyB g W W'):
    RetKE w W g cs iv r (.returned (.tuple #[.int .i64 (-1), .int .i64 n])) W':=by
  by_cases hn:n=0
  · rw [if_neg (not_not_intro hn)] at hr
    subst hr hn
    exact ⟨-1,rfl,o,fun _=>⟨L,c,h⟩,fun h=>absurd rfl h⟩
  · rw [if_pos hn] at hr
    subst hr
    exact ⟨-1,rfl,o,fun h=>absurd h hn,fun _=>rfl⟩
attribute [local go_sem] zbY zbv zbu zdh zdd zbV zaO zaT zba zbs zlU
attribute [local go_sem ↓] zdA
attribute [local go_sem] zei zd2 zc2 zd5 zc3 zck
set_option maxHeartbeats 16000000 in
theorem zoM {w:World} {d:DBs} {G:GDB} {iA:Option Addr} {ic:Nat} {xs:List ItemV} (hS:RS w d G iA ic xs) (es:List Entry) (L:Option Addr) (c g:Nat) (W:World) (h:Bu w W g d.cells (.slice iA xs.length ic) L c es) (hE:LOk 247000 es) (hne:es ≠ []) (i:Nat) (hi:i < xs.length) (hn:xs.length≤124) (h1:1≤i)
    (hw:(zbc (xs.getD i noItem)).length≤4000000000):
    Calls Tryz.prog 83 #[.pointer (some ⟨g,0,none⟩), .int .i64 i] W (RetKE w W g d.cells (.slice iA xs.length ic) (zdH (zai G) es (xs.getD i noItem) (xs.getD (i - 1) noItem) (zbc (xs.getD i noItem)) 0)):=by
  obtain ⟨z,hz⟩:∃ z,es.getLast? = some z:=by
    cases hq:es.getLast? with
    | none=>exact absurd (List.getLast?_eq_none_iff.1 hq) hne
    | some z=>exact ⟨z,rfl⟩
  have he:es.length≤250000:=Nat.le_trans hE.len (by omega)
  have HS:=Lib.hid hS
  have HB:=Lib.hid h
  have HXS:=Lib.hid (zaM hS.xsS)
  obtain ⟨b0,off0,hiA0,hicb,hclb⟩:=hS.itm (i:=i - 1) (by omega)
  obtain ⟨b,off,hiA,hic,hcl⟩:=hS.itm hi
  obtain ⟨rfl,rfl⟩:b0=b∧off0=off:=by
    rw [hiA] at hiA0
    injection hiA0 with e1
    injection e1 with e2 e3
    exact ⟨e2.symm,e3.symm⟩
  obtain ⟨m,hm⟩:∃ m,xs.length=m+1:=⟨xs.length - 1,by omega⟩
  have hbl:∀ W',Below w.heap.size w W'→W'.cell? ⟨b0,off0+i * 3+1,none⟩=some (.string ⟨(xs.getD i noItem).name.toArray⟩):=fun W' D=>hcl W' D 1 (by omega)
  have IS:=Lib.hid (fun W' (D:Below W.heap.size W W')=>show (za7 W' g 0∧zbQ W' g 0=d.cells)∧W'.cell? ⟨g,9,none⟩=some (.slice (some ⟨b0,off0,none⟩) (m+1) ic)∧zak W' b0 (off0+i * 3)∧zar W' b0 (off0+i * 3)=xs.getD i noItem from
    ⟨⟨⟨_,(HB.out.step D).db⟩,zaL (HB.out.step D).db⟩,by have:=(HB.out.step D).c9;rw [hiA,hm] at this;exact this,⟨_,hcl W' (HB.out.step D).bel⟩,zam (hcl W' (HB.out.step D).bel)⟩)
  have HIA:=Lib.hid hiA
  have HM:=Lib.hid hm
  have HCB:=Lib.hid hclb
  have HBL:=Lib.hid hbl
  have HDS:=Lib.hid (show zdH (zai G) es (xs.getD i noItem) (xs.getD (i - 1) noItem) (zbc (xs.getD i noItem)) 0=if (zbi G.fixes (zbc (xs.getD i noItem))).2 ≠ 0 then (es,(((0:Nat):Int),(zbi G.fixes (zbc (xs.getD i noItem))).2)) else
      if (zcn (zai G) es [zaI 2 (zbi G.fixes (zbc (xs.getD i noItem))).1] (es.getLast?.getD gapE).sec []).2 ≠ 0 then (es,(((0:Nat):Int),(zcn (zai G) es [zaI 2 (zbi G.fixes (zbc (xs.getD i noItem))).1] (es.getLast?.getD gapE).sec []).2)) else
      if (xs.getD (i - 1) noItem).kind=7 then
        (if (zcn (zai G) (zcn (zai G) es [zaI 2 (zbi G.fixes (zbc (xs.getD i noItem))).1] (es.getLast?.getD gapE).sec []).1 (zbf ((zas (xs.getD i noItem).name 3 (xs.getD (i - 1) noItem).name G.procs).getD zaA)) 5 (zbC (xs.getD (i - 1) noItem).name 46 (xs.getD (i - 1) noItem).trans)).2 ≠ 0
         then (es,(((0:Nat):Int) - 1,(zcn (zai G) (zcn (zai G) es [zaI 2 (zbi G.fixes (zbc (xs.getD i noItem))).1] (es.getLast?.getD gapE).sec []).1 (zbf ((zas (xs.getD i noItem).name 3 (xs.getD (i - 1) noItem).name G.procs).getD zaA)) 5 (zbC (xs.getD (i - 1) noItem).name 46 (xs.getD (i - 1) noItem).trans)).2))
         else ((zcn (zai G) (zcn (zai G) es [zaI 2 (zbi G.fixes (zbc (xs.getD i noItem))).1] (es.getLast?.getD gapE).sec []).1 (zbf ((zas (xs.getD i noItem).name 3 (xs.getD (i - 1) noItem).name G.procs).getD zaA)) 5 (zbC (xs.getD (i - 1) noItem).name 46 (xs.getD (i - 1) noItem).trans)).1,(((0:Nat):Int),0)))
      else ((zcn (zai G) es [zaI 2 (zbi G.fixes (zbc (xs.getD i noItem))).1] (es.getLast?.getD gapE).sec []).1,(((0:Nat):Int),0)) from rfl)
  have hxs:=HXS.out i
  have hys:=HXS.out (i - 1)
  rw [show (es.getLast?.getD gapE).sec=z.sec by rw [hz];rfl] at HDS
  have kw:=Lib.hid (fun W'=>zeS (xs.getD i noItem) hxs.small W')
  generalize zdH (zai G) es (xs.getD i noItem) (xs.getD (i - 1) noItem) (zbc (xs.getD i noItem)) 0=out at *
  generalize zbc (xs.getD i noItem)=word at *
  generalize xs.getD i noItem=x at *
  generalize xs.getD (i - 1) noItem=yb at *
  have hpl:=zdW HS.out.sh word
  have kp:=Lib.hid (fun W' (D:Below W.heap.size W W')=>zi8 d G.fixes word W' hw (HS.out.gd.db.below (HB.out.step D).bel))
  generalize zbi G.fixes word=pl at *
  obtain ⟨pr,pe⟩:=pl
  dsimp only at HDS hpl kp
  obtain ⟨xk,xn,xt⟩:=x
  have hxn:=hxs.small.1
  have ky:=Lib.hid (fun W'=>zip yb hys.small W')
  have hvl:=zci hys 46
  have HYS:=Lib.hid hys
  obtain ⟨yk,yn,yt⟩:=yb
  have hy1:=hys.small.1
  dsimp only at hxn hy1 hvl ky
  -- the first leg,the missed approach: what the calls answer
  have HE1:=Lib.hid (zev (R:=zai G) hE (k:=1) (legs:=[zaI 2 pr]) (via:=[]) z.sec (by simp) (zcJ hpl) (by simp))
  have KF:=Lib.hid (fun W' L' c' (X:Bu w W' g d.cells (.slice iA xs.length ic) L' c' es)=>zlY HS.out es L' c' g _ W' X (by omega) pr hpl z.sec)
  have KLS:=Lib.hid (fun W' L' c' (X:Bu w W' g d.cells (.slice iA xs.length ic) L' c' es)=>zjf es L' c' g d.cells _ w W' X (by omega) hz)
  generalize zcn (zai G) es [zaI 2 pr] z.sec []=r1 at *
  obtain ⟨l1,e1⟩:=r1
  dsimp only at HDS HE1
  obtain ⟨A8,c8,h8,hl8,hI8⟩:=HS.out.gd.prc
  have kq:=Lib.hid (fun (w':World) (D:Below w.heap.size w w')=>zjc d.cells G.procs A8 c8 h8 hl8 HS.out.gd.prcN xn yn 3 w' (hI8.below D))
  have hpf:(zcv xn 3 yn G.procs).1=(zas xn 3 yn G.procs).getD zaA:=by unfold zcv;cases zas xn 3 yn G.procs <;> rfl
  have hps:((zas xn 3 yn G.procs).getD zaA).small∧∀ x ∈ ((zas xn 3 yn G.procs).getD zaA).parts,∀ l ∈ x.legs,l.small:=by
    cases hq:zas xn 3 yn G.procs with
    | none=>exact ⟨⟨by simp [zaA],by simp [zaA],by simp [zaA],fun x hx=>by cases hx⟩,fun x hx=>by cases hx⟩
    | some p=>exact ⟨HS.out.gd.prcS p (zbh hq),HS.out.sh.prc p (zbh hq)⟩
  generalize zcv xn 3 yn G.procs=r at *
  generalize (zas xn 3 yn G.procs).getD zaA=p at *
  obtain ⟨rp,re⟩:=r
  dsimp only at hpf kq
  subst hpf
  have hml:=zej hps.2
  have KM:=Lib.hid (fun W' cs' (X:PrcAt W' cs' rp)=>zoJ rp cs' W' X hps.1)
  have KA2:=Lib.hid (fun W' L' c' (X:Bu w W' g d.cells (.slice iA xs.length ic) L' c' l1) A' ca' (I':Items W' A' 13 ((zbf rp).map Leg.arr)) (hc':(zbf rp).length≤ca')=>HS.out.radd X (zbf rp) A' ca' 5 (zbC yn 46 yt) I' hc' (Nat.le_trans hml.1 (by omega)) hml.2 hvl (by have:=HE1.out.len;omega))
  generalize zcn (zai G) l1 (zbf rp) 5 (zbC yn 46 yt)=r2 at *
  obtain ⟨l2,e2⟩:=r2
  dsimp only at HDS
  generalize zbf rp=ml at *
  obtain ⟨iv,hiv⟩:∃ v,v=Value.slice iA xs.length ic:=⟨_,rfl⟩
  have E9:=Lib.hid (fun W' L' c' es' (X:Bu w W' g d.cells iv L' c' es')=>show W'.cell? ⟨g,9,none⟩=some (.slice (some ⟨b0,off0,none⟩) (m+1) ic) by have:=X.c9;rw [hiv,hiA,hm] at this;exact this)
  rw [← hiv] at HB KF KLS KA2 ⊢
  generalize d.cells=cs at *
  have t1:(0:Int)≤(i:Int) - 1:=by omega
  have t2:((i:Int) - 1).toNat=i - 1:=by omega
  have t3:(i:Int) - 1 < (m:Int)+1:=by omega
  have t5:i - 1 < m+1:=by omega
  have t6:(1:Int)≤(i:Int):=by omega
  have t7:(i:Int) < (m:Int)+1:=by omega
  have t8:i < m+1:=by omega
  clear hS h hiA hcl hclb hbl hm hiv hz hne hE h8 hl8 hI8 hps hml hys hxs HXS hw
  go_enter Tryz.func83,Tryz.ntmps83
  go_upto_region 1 with (fail)
  go_cut [6,7] (fun v e wx=>v=.string ⟨pr.toArray⟩∧e=.int .i64 pe∧Below W.heap.size W wx)
  case first=>
    clear HDS
    go_region_held3 (fun w'=>(za7 w' g 0∧zbQ w' g 0=cs)∧w'.cell? ⟨g,9,none⟩=some (.slice (some ⟨b0,off0,none⟩) (m+1) ic)∧zak w' b0 (off0+i * 3)∧zar w' b0 (off0+i * 3)=⟨xk,xn,xt⟩)
      ((refine IS.out _ ?_;repeat' (first | assumption | omega | (refine Below.alloc ?_ ?_ _) | (refine Below.drew ?_) | exact Below.refl _ _ | (simp;done) | (simp;omega))))
      (first
        | (go_at_call 43;(with_reducible refine zaj (kw.out _) ?_);intro w2 b2 _ _ _;have f2:Below W.heap.size W w2:=by first | exact b2 | exact zcm b2)
        | (go_at_call 16;(with_reducible refine zaj (kp.out _ f2) ?_);intro w3 b3 _ _ _;have f3:Below W.heap.size W w3:=zaa f2 b3))
    all_goals
      go_wp2
      go_meet
      exact ⟨rfl,rfl,f3⟩
  case rest=>
  obtain ⟨rfl,rfl,BC⟩:=hcut
  have B1:=Lib.hid (HB.out.step BC)
  have O1:=Lib.hid (OnlyB.of (g:=g) BC)
  clear IS kw kp BC HB
  by_cases hz:pe=0
  rotate_left
  · have hz':(pe != 0)=true:=by simpa using hz
    have HO2:=Lib.hid (HDS.out.trans (if_pos hz))
    have HZN:=Lib.hid hz
    clear HDS hz
    go_wp2
    go_ret2
    exact RetKE.err (by rw [HO2.out] <;> rfl) HZN.out O1.out
  subst hz
  have HDS2:=Lib.hid (HDS.out.trans (if_neg (not_not_intro rfl)))
  clear HDS
  have kls:=Lib.hid (KLS.out wc _ _ B1.out)
  go_upto_region 5 with (first
    | (go_at_call 132;(with_reducible refine zaj kls.out ?_);intro w4 b4 _ _ _;have X4:=Lib.hid (B1.out.step b4))
    | (go_at_call 82;(with_reducible refine zch (KF.out w4 _ _ X4.out) ?_);intro L5 c5 w5 B5 O5))
  have HB5:=Lib.hid B5
  have HO5:=Lib.hid (O1.out.trans ((OnlyB.of b4).trans O5))
  clear kls KF KLS B1 O1 b4 X4 O5 B5
  by_cases hz:e1=0
  rotate_left
  · have hz':(e1 != 0)=true:=by simpa using hz
    have HO2:=Lib.hid (HDS2.out.trans (if_pos hz))
    have HZ2:=Lib.hid hz
    clear HDS2 hz
    go_wp2
    go_ret2
    exact RetKE.err (by rw [HO2.out] <;> rfl) HZ2.out HO5.out
  subst hz
  have HDS3:=Lib.hid (HDS2.out.trans (if_neg (not_not_intro rfl)))
  clear HDS2
  have e9:=E9.out w5 _ _ _ HB5.out
  have j1:zak w5 b0 (off0+(i - 1) * 3):=⟨_,HCB.out w5 HB5.out.bel⟩
  have j2:zar w5 b0 (off0+(i - 1) * 3)=⟨yk,yn,yt⟩:=zam (HCB.out w5 HB5.out.bel)
  go_upto_region 8 with (fail)
  obtain ⟨Y,D⟩:=zcl w5 noItem.arr (ItemV.arr ⟨yk,yn,yt⟩) 57
  have B6:=Lib.hid (HB5.out.step D)
  have O6:=Lib.hid (HO5.out.trans (OnlyB.of D))
  have hgq:=HB5.out.lt
  clear e9 j1 j2 D HB5 HO5 HCB
  generalize hw6:World.setRow (World.alloc w5 _) _ _=w6
  have hw6':(w5.alloc (.cells noItem.arr 57)).setRow w5.heap.size (ItemV.arr ⟨yk,yn,yt⟩)=w6:=hw6
  rw [hw6'] at Y B6 O6
  clear hw6 hw6'
  generalize w5.heap.size=q9 at Y hgq ⊢
  have y0:w6.cell? ⟨q9,0,none⟩=some (.int .u8 yk):=Y.cell 0
  have HY:=Lib.hid Y
  clear Y
  by_cases h7:yk=7
  rotate_left
  · have h7':(yk == 7)=false:=by simpa using h7
    have HO2:=Lib.hid (HDS3.out.trans (if_neg h7))
    clear HDS3 h7
    go_wp2
    go_ret2
    exact RetKE.of (by rw [HO2.out] <;> rfl) (fun _=>rfl) B6.out O6.out
  subst h7
  have HDS4:=Lib.hid (HDS3.out.trans (if_pos rfl))
  clear HDS3
  have IP:=Lib.hid (fun W' (D:Below w6.heap.size w6 W')=>show (za7 W' g 0∧zbQ W' g 0=cs)∧W'.cell? ⟨g,9,none⟩=some (.slice (some ⟨b0,off0,none⟩) (m+1) ic)∧W'.cell? ⟨b0,off0+i * 3+1,none⟩=some (.string ⟨xn.toArray⟩)∧W'.cell? ⟨q9,1,none⟩=some (.string ⟨yn.toArray⟩) from
    ⟨⟨⟨_,(B6.out.step D).db⟩,zaL (B6.out.step D).db⟩,E9.out W' _ _ _ (B6.out.step D),HBL.out W' (B6.out.step D).bel,(HY.out.step D).cell 1⟩)
  have HBE:=Lib.hid B6.out.bel
  go_upto_region 10 with (fail)
  go_cut [10] (fun v wx=>∃ q cs,v=.pointer (some ⟨q,0,none⟩)∧Blk wx q cs∧w6.heap.size≤q∧PrcAt wx cs rp∧Below w6.heap.size w6 wx)
  case first=>
    clear HDS4
    go_region_held3 (fun W'=>(za7 W' g 0∧zbQ W' g 0=cs)∧W'.cell? ⟨g,9,none⟩=some (.slice (some ⟨b0,off0,none⟩) (m+1) ic)∧W'.cell? ⟨b0,off0+i * 3+1,none⟩=some (.string ⟨xn.toArray⟩)∧W'.cell? ⟨q9,1,none⟩=some (.string ⟨yn.toArray⟩))
      ((refine IP.out _ ?_;repeat' (first | assumption | omega | (refine zab ?_ ?_ _) | (refine Below.alloc ?_ ?_ _) | (refine Below.drew ?_) | exact Below.refl _ _ | (simp;done) | (simp;omega))))
      (first | (go_at_call 130;(with_reducible refine zvC (kq.out _ (by first | exact HBE.out.trans (((Below.refl _ _).drew).mono HBE.out.size) | exact zaa HBE.out (zaa (Below.refl _ _).drew (zac _ _)) | exact zaa HBE.out (zaa (Below.refl _ _) (zac _ _)) | exact HBE.out | exact zaa HBE.out (Below.refl _ _).drew)) ?_);intro A5 c5 w7 h7 b7;have s7:=b7.size;first | (have Y7:Blk w7 w6.heap.size (zaf zaA none 0):=(((Blk.new w6 #[.string ⟨#[]⟩, .string ⟨#[]⟩, .int .u8 0, .slice none 0 0] 131).step (Below.refl _ _).drew)).step b7;have e7:Below w6.heap.size w6 w7:=zaa (zac w6 (.cells #[.string ⟨#[]⟩, .string ⟨#[]⟩, .int .u8 0, .slice none 0 0] 131)).drew b7;have d2:=Y7.plain;have d3:=Y7.of) | (have e7:Below w6.heap.size w6 w7:=zaa (Below.refl _ _).drew b7)))
    all_goals
      go_wp2
      go_meet
      first
        | exact ⟨_,_,rfl,Blk.new _ _ _,e7.size,h7.below (zac _ _),zaa e7 (zac _ _)⟩
        | exact ⟨_,_,rfl,(zcl _ _ _ _).1,e7.size,h7.below (zcl _ _ _ _).2,zaa e7 (zcl _ _ _ _).2⟩
        | exact ⟨_,_,rfl,Y7.set _,Nat.le_refl _,h7.set4 Y7,zab e7 (Nat.le_refl _) _⟩
  case rest=>
  obtain ⟨q,cs5,rfl,Q,hq,HFar,BC⟩:=hcut
  have B7:=Lib.hid (B6.out.step BC)
  have O7:=Lib.hid (O6.out.trans (OnlyB.of BC))
  have Y7:=HY.out.step BC
  obtain ⟨A5,c5,hcs,_,_⟩:=HFar.ex
  subst hcs
  have hlq:g < q:=by have:=B6.out.lt;omega
  have km:=Lib.hid (fun (W':World) (D:Below wc.heap.size wc W')=>KM.out W' (zaf rp A5 c5) (HFar.below D))
  have ka:=Lib.hid (fun W' (D:Below wc.heap.size wc W')=>KA2.out W' _ _ (B7.out.step D))
  have IS2:=Lib.hid (fun W' (D:Below wc.heap.size wc W')=>show (zaR W' q 0∧za9 W' q 0=zaf rp A5 c5)∧zak W' q9 0∧zar W' q9 0=⟨7,yn,yt⟩ from
    ⟨⟨⟨_,(Q.step D).is_prc rfl⟩,zaB ((Q.step D).is_prc rfl)⟩,⟨_,(Y7.step D).is_itm⟩,zam (Y7.step D).is_itm⟩)
  have IS3:=Lib.hid (fun W7 W8 (f7:Below wc.heap.size wc W7) (O8:OnlyB g W7 W8)=>show (zaR W8 q 0∧za9 W8 q 0=zaf rp A5 c5)∧zak W8 q9 0∧zar W8 q9 0=⟨7,yn,yt⟩ from
    ⟨⟨⟨_,((Q.step f7).only O8 (by omega)).is_prc rfl⟩,zaB (((Q.step f7).only O8 (by omega)).is_prc rfl)⟩,⟨_,((Y7.step f7).only O8 (by omega)).is_itm⟩,zam ((Y7.step f7).only O8 (by omega)).is_itm⟩)
  clear KM KA2 IP HBE kq B6 O6 HY Y7 Q hq HFar BC y0
  go_upto_region 11 with (fail)
  go_region_held3 (fun W'=>(zaR W' q 0∧za9 W' q 0=zaf rp A5 c5)∧zak W' q9 0∧zar W' q9 0=⟨7,yn,yt⟩)
    (first | exact IS3.out _ _ f8 O8 | ((refine IS2.out _ ?_;repeat' (first | assumption | omega | (refine zab ?_ ?_ _) | (refine Below.alloc ?_ ?_ _) | (refine Below.drew ?_) | exact Below.refl _ _ | (simp;done) | (simp;omega)))))
    (first
      | (go_at_call 133;(with_reducible refine ztM (km.out _ (by repeat' (first | assumption | (refine Below.drew ?_) | exact Below.refl _ _))) ?_);intro A7 c7 w7 hc7 I7 b7;have f7:Below wc.heap.size wc w7:=zaa (by repeat' (first | assumption | (refine Below.drew ?_) | exact Below.refl _ _)) b7;have s7:=f7.size;have f8:=f7;have I8:=I7)
      | (go_at_call 87;(with_reducible refine zaj (ky.out _) ?_);intro w6' b6' _ _ _;have f6:Below wc.heap.size wc w6':=zaa (by repeat' (first | assumption | (refine Below.drew ?_) | exact Below.refl _ _)) b6';have s6:=f6.size;try (have f8:=f6;have I8:=I7.below b6'))
      | (go_at_call 128;(with_reducible refine zch (ka.out _ f8 A7 c7 I8 hc7) ?_);intro L8 c8 w8 B8 O8))
  all_goals
    go_wp2
    go_ret2
    exact RetKE.miss (by rw [HDS4.out] <;> rfl) B8 (O7.out.trans ((OnlyB.of f8).trans O8))
end Go.Proofs.YtgoeedohgomodaaGreatDoor
namespace Go.Proofs.YtgoeedohgomodaaGreatDoor
open Go.RowKit Go.Sort
set_option maxRecDepth 100000
def zxj:Value→Nat
  | .string b=>b.toList.length
  | _=>0
theorem zdZ {ops:Array Oper} {rest:List Oper} {op:Oper} {a:Act} {Q:Exit→Act→World→Prop} {w0 W:World} {v:Value} {ss:List (List UInt8)} (hgd:op.guard=none) (s x:Operand)
    (ho:op.op=.call { callee:=.builtin .append,args:=#[s,x],argTypes:=#[49,49] }) (h:SOut w0 W v ss) (hs:a.eval s=v) (t:List UInt8) (g c:Nat)
    (hx:a.eval x=.slice (some ⟨g,0,none⟩) 1 c) (hg:W.cell? ⟨g,0,none⟩=some (zlG t)) (hn:ss.length+1≤1000000000) (hb:w0.heap.size≤W.heap.size)
    (k:∀ v' W',SOut w0 W' v' (ss ++ [t])→W.grownBy W' v.ownBlock→wpList Tryz.prog ops Q rest (a.put op.dst v') W'):wpList Tryz.prog ops Q (op :: rest) a W:=by
  obtain ⟨i0,hi,hz0,hz1,hz2⟩:=info_parts zh9
  refine wpList_append_own W hgd s x 49 ho w0.heap.size 9 i0 _ 1 16 Tryz.underlying49 hi hz0 hz1 hz2 rfl (by omega) v ss.length (zot ss) hs h ⟨g,0,none⟩ 1 c [zlG t] hx rfl ?_ (by simp [zlG,Value.oneCell']) (by unfold maxLen;omega) (by omega) hb ?_
  · intro j u hu
    match j,hu with
    | 0,hu=>rw [addr_add,Nat.zero_add,hg];simpa using hu
    | j+1,hu=>simp at hu
  · intro v' W' h1 h2 _
    refine k v' W' ?_ h2
    unfold SOut
    rw [List.length_append,zot,List.map_append]
    exact h1
set_option maxHeartbeats 4000000 in
theorem zm0 (s:List UInt8) (w:World) (hs:s.length≤900000000):Calls Tryz.prog 33 #[.string ⟨s.toArray⟩] w (zuj w (zap 32 s)):=by
  go_enter Tryz.func33,Tryz.ntmps33
  go_upto_region 2 with (fail)
  go_loopw [0,3] (fun sv v wr=>∃ (l:List UInt8) (out:List (List UInt8)),sv=.string ⟨l.toArray⟩∧out ++ zap 32 l=zap 32 s∧out.length+l.length≤s.length∧SOut w wr v out∧Below w.heap.size w wr) (fun sv _ _=>zxj sv)
  case atStart=>exact ⟨s,[],rfl,rfl,by simp,SOut.nil _ _,Below.refl _ _⟩
  case round=>
    obtain ⟨l,out,rfl,hso,hol,O,BW⟩:=hrel
    have HS:=Lib.hid (show zap 32 s=out ++ (if (cutAt 32 l).2.2 then (cutAt 32 l).1 :: zap 32 (cutAt 32 l).2.1 else [l]) by rw [← hso,zfF 32 l])
    have hc:=zcF 32 l
    have KC:=Lib.hid (fun W=>show Calls Tryz.prog 64 #[.string ⟨l.toArray⟩, .int .u8 32] W (RetQ W (.tuple #[.string ⟨(cutAt 32 l).1.toArray⟩, .string ⟨(cutAt 32 l).2.1.toArray⟩, .bool (cutAt 32 l).2.2])) from zlZ l 32 W (by omega))
    have HP:=Lib.hid (fun h=>zdx 32 l h)
    have HM:=Lib.hid (fun h=>(zfP 32 l h).1)
    clear hso
    generalize cutAt 32 l=q at *
    obtain ⟨a,b,f⟩:=q
    go_upto_region 3 with (go_at_call 64;(with_reducible refine zes (KC.out _) ?_);intro n)
    have O1:=O.drewN n
    have B1:=below_drewN BW n
    generalize wr.drewN n=W1 at O1 B1 ⊢
    clear KC O BW
    have O4:=O1.alloc (.cells #[zlG a] 9)
    have B4:=zaa B1 (zac W1 (.cells #[zlG a] 9))
    have hsz:=B4.size
    cases f with
    | true=>
      have hp:=HP.out rfl
      have hl:a.length+b.length+1=l.length:=by rw [hp];simp;omega
      have HG:=Lib.hid (show zap 32 s=out ++ a :: zap 32 b by rw [HS.out];rfl)
      clear HS HP HM hp
      go_wp2_with (at_builtin;refine zdZ rfl (.tmp 13) (.tmp 15) rfl O4 rfl a W1.heap.size 1 rfl (cell_of_row _ _ 0 _ _ _ (heap_alloc_new W1 _)) (by omega) hsz ?_;intro v5 W5 O5 g5)
      go_roundw
      case rel=>exact ⟨b,out ++ [a],rfl,by rw [HG.out];simp,by simp;omega,O5,zbz B4 O4 g5⟩
      case measure=>simp [zxj];omega
    | false=>
      have HG:=Lib.hid (show zap 32 s=out ++ [l] by rw [HS.out];rfl)
      have hm:=Lib.hid (show a=l from HM.out rfl)
      clear HS HP HM
      go_wp2_with (at_builtin;refine zdZ rfl (.tmp 13) (.tmp 15) rfl O4 rfl a W1.heap.size 1 rfl (cell_of_row _ _ 0 _ _ _ (heap_alloc_new W1 _)) (by omega) hsz ?_;intro v5 W5 O5 g5)
      go_ret
      exact ⟨v5,rfl,by rw [HG.out];rw [hm.out] at O5;exact O5,zbz B4 O4 g5⟩
end Go.Proofs.YtgoeedohgomodaaGreatDoor
namespace Go.Proofs.YtgoeedohgomodaaGreatDoor
open Go.RowKit Go.Sort
set_option maxRecDepth 100000
attribute [local go_sem] zni znh zng zgT
attribute [local go_sem ↓] zhj
def RetOI (w:World) (o:Option ItemV) (e:Ending) (w':World):Prop:=∃ y:ItemV,e=.returned (.tuple #[.agg y.arr, .bool o.isSome])∧(∀ z,o=some z→y=z)∧Below w.heap.size w w'
theorem RetOI.mk {w w':World} {o:Option ItemV} {b:Bool} (y:ItemV) (h:o.isSome=b) (hz:∀ z,o=some z→y=z) (hw:Below w.heap.size w w'):RetOI w o (.returned (.tuple #[.agg y.arr, .bool b])) w':=by
  subst h;exact ⟨y,rfl,hz,hw⟩
set_option maxHeartbeats 4000000 in
theorem zuV (a:UInt8) (r:List UInt8) (hr:r.length≤4000000000) (w:World):Calls Tryz.prog 35 #[.string ⟨(a :: 61 :: r).toArray⟩] w (RetOI w (zc5 (a :: 61 :: r))):=by
  have HI:=Lib.hid (show zc5 (a :: 61 :: r)=if zbk a=0∨zcf r 46 8=false then none else some ⟨zbk a,(cutAt 46 r).1,(cutAt 46 r).2.1⟩ from rfl)
  have KC:=Lib.hid (fun W=>show Calls Tryz.prog 34 #[.string ⟨r.toArray⟩, .int .u8 46, .int .i64 8] W (Ret W (.tuple #[.string ⟨(cutAt 46 r).1.toArray⟩, .string ⟨(cutAt 46 r).2.1.toArray⟩, .bool (zcf r 46 8)])) from zho r 46 8 W hr)
  generalize cutAt 46 r=q at *
  generalize zcf r 46 8=pb at *
  obtain ⟨x,y,f⟩:=q
  generalize zc5 (a :: 61 :: r)=v at *
  have h1:(a :: 61 :: r == [68,67,84])=false:=by simp
  go_enter Tryz.func35,Tryz.ntmps35
  go_upto_region 1 with (fail)
  have A0:Blk (w.alloc (.cells #[.int .u8 0, .string ⟨#[]⟩, .string ⟨#[]⟩] 57)) w.heap.size noItem.arr:=Blk.new w noItem.arr 57
  have D0:=(Below.refl w.heap.size w).alloc (Nat.le_refl _) (.cells #[.int .u8 0, .string ⟨#[]⟩, .string ⟨#[]⟩] 57)
  generalize w.alloc _=W0 at A0 D0 ⊢
  have S0:=D0.size
  obtain ⟨g,hg⟩:∃ g,g=w.heap.size:=⟨_,rfl⟩
  have G0:w.heap.size≤g:=by omega
  rw [← hg] at A0 ⊢
  clear hg
  have hk:a=68∨a=65∨a=80∨(a ≠ 68∧a ≠ 65∧a ≠ 80):=by grind
  rcases hk with rfl | rfl | rfl | ⟨n1,n2,n3⟩
  case' inr.inr.inr=>
    have e1:((a.toNat:Int) == 68)=false:=zj7 n1
    have e2:((a.toNat:Int) == 65)=false:=zj7 n2
    have e3:((a.toNat:Int) == 80)=false:=zj7 n3
    have HL:=Lib.hid (show zbk a=0 by unfold zbk;rw [if_neg n1,if_neg n2,if_neg n3])
  case' inl=>have HL:=Lib.hid (show zbk 68=2 from rfl)
  case' inr.inl=>have HL:=Lib.hid (show zbk 65=6 from rfl)
  case' inr.inr.inl=>have HL:=Lib.hid (show zbk 80=7 from rfl)
  all_goals
    go_upto_region 13 with (go_at_call 34;(with_reducible refine zaj (KC.out _) ?_);intro w1 b1 _ _ _)
    have A1:=A0.step b1
    have D1:=zaa D0 b1
    have P1:=A1.plain
    have F1:=A1.of
    have L1:=A1.lt
    have HJ:=Lib.hid (HI.out)
    cases pb
    all_goals go_wp2
  · exact bodyPost_ret (zaF Tryz.results35 _ _ g ⟨7,x,y⟩ rfl (A1.set _)) rfl (RetOI.mk ⟨7,x,y⟩ (by rw [HI.out];simp) (by rw [HI.out];simp) (zab D1 G0 _))
  · exact bodyPost_ret (zaF Tryz.results35 _ _ g ⟨7,x,y⟩ rfl (A1.set _)) rfl (RetOI.mk ⟨7,x,y⟩ (by rw [HI.out,HL.out];simp) (by rw [HI.out,HL.out];simp) (zab D1 G0 _))
  · exact bodyPost_ret (zaF Tryz.results35 _ _ g ⟨6,x,y⟩ rfl (A1.set _)) rfl (RetOI.mk ⟨6,x,y⟩ (by rw [HI.out];simp) (by rw [HI.out];simp) (zab D1 G0 _))
  · exact bodyPost_ret (zaF Tryz.results35 _ _ g ⟨6,x,y⟩ rfl (A1.set _)) rfl (RetOI.mk ⟨6,x,y⟩ (by rw [HI.out,HL.out];simp) (by rw [HI.out,HL.out];simp) (zab D1 G0 _))
  · exact bodyPost_ret (zaF Tryz.results35 _ _ g ⟨2,x,y⟩ rfl (A1.set _)) rfl (RetOI.mk ⟨2,x,y⟩ (by rw [HI.out];simp) (by rw [HI.out];simp) (zab D1 G0 _))
  · exact bodyPost_ret (zaF Tryz.results35 _ _ g ⟨2,x,y⟩ rfl (A1.set _)) rfl (RetOI.mk ⟨2,x,y⟩ (by rw [HI.out,HL.out];simp) (by rw [HI.out,HL.out];simp) (zab D1 G0 _))
  · exact bodyPost_ret (zaF Tryz.results35 _ _ g ⟨0,x,y⟩ rfl (A1.set _)) rfl (RetOI.mk ⟨0,x,y⟩ (by rw [HI.out];simp) (by rw [HI.out];simp) (zab D1 G0 _))
  · exact bodyPost_ret (zaF Tryz.results35 _ _ g ⟨0,x,y⟩ rfl (A1.set _)) rfl (RetOI.mk ⟨0,x,y⟩ (by rw [HI.out,HL.out];simp) (by rw [HI.out,HL.out];simp) (zab D1 G0 _))
set_option maxHeartbeats 4000000 in
theorem zuU (s:List UInt8) (h61:¬ s[1]? = some 61) (hs:s.length≤4000000000) (w:World):Calls Tryz.prog 35 #[.string ⟨s.toArray⟩] w (RetOI w (zc5 s)):=by
  have HI:=Lib.hid (show zc5 s=if s=[68,67,84] then some ⟨5,[],[]⟩ else if (za8 s).2.2 == 0 then some ⟨4,s,[]⟩ else if zbF s 8 then some ⟨3,s,[]⟩ else none by unfold zc5;rw [if_neg h61];rfl)
  have KS:=Lib.hid (fun W=>zeW s W hs)
  have KN:=Lib.hid (fun W=>zcU s 8 W (by omega))
  generalize za8 s=q at *
  generalize zbF s 8=nb at *
  obtain ⟨x,y,f⟩:=q
  generalize zc5 s=v at *
  go_enter Tryz.func35,Tryz.ntmps35
  go_upto_region 1 with (fail)
  have A0:Blk (w.alloc (.cells #[.int .u8 0, .string ⟨#[]⟩, .string ⟨#[]⟩] 57)) w.heap.size noItem.arr:=Blk.new w noItem.arr 57
  have D0:=(Below.refl w.heap.size w).alloc (Nat.le_refl _) (.cells #[.int .u8 0, .string ⟨#[]⟩, .string ⟨#[]⟩] 57)
  generalize w.alloc _=W0 at A0 D0 ⊢
  have S0:=D0.size
  obtain ⟨g,hg⟩:∃ g,g=w.heap.size:=⟨_,rfl⟩
  have G0:w.heap.size≤g:=by omega
  rw [← hg] at A0 ⊢
  clear hg
  have P1:=A0.plain
  have F1:=A0.of
  have L1:=A0.lt
  by_cases hd:s=[68,67,84]
  · have h1:(s == [68,67,84])=true:=by simpa using hd
    have HT:=Lib.hid (show v=some ⟨5,[],[]⟩ by rw [HI.out,if_pos hd])
    clear HI hd h61
    go_wp2
    exact bodyPost_ret (zaF Tryz.results35 _ _ g ⟨5,[],[]⟩ rfl (A0.set _)) rfl (RetOI.mk ⟨5,[],[]⟩ (by rw [HT.out];rfl) (by rw [HT.out];simp) (zab D0 G0 _))
  have h1:(s == [68,67,84])=false:=by simpa using hd
  have HJ:=Lib.hid (HI.out.trans (if_neg hd))
  clear HI hd
  have h3:s=[]∨(∃ a,s=[a])∨∃ a b r,s=a :: b :: r:=by
    rcases s with _ | ⟨a,_ | ⟨b,r⟩⟩
    · exact .inl rfl
    · exact .inr (.inl ⟨a,rfl⟩)
    · exact .inr (.inr ⟨a,b,r,rfl⟩)
  go_upto_region 3 with (fail)
  go_cut [21] (fun e wx=>e=.bool false∧wx=W0)
  case first=>
    rcases h3 with h3 | ⟨a,h3⟩ | ⟨a,b,r,h3⟩
    case' inr.inr=>have hb:((b.toNat:Int) == 61)=false:=zw8 (fun e=>h61 (by rw [h3,e];rfl))
    all_goals
      subst h3
      clear h61
      go_wp2
      go_meet
      exact ⟨rfl,rfl⟩
  case rest=>
  obtain ⟨rfl,rfl⟩:=hcut
  generalize wc=W0 at *
  clear h3 h61 h1
  go_upto_region 15 with (go_at_call 66;(with_reducible refine zes (KS.out _) ?_);intro n)
  have D1:=below_drewN D0 n
  have A1:=A0.step (below_drewN (Below.refl _ _) n)
  generalize W0.drewN n=W1 at D1 A1 ⊢
  clear P1 F1 L1 A0 D0
  have P1:=A1.plain
  have F1:=A1.of
  have L1:=A1.lt
  by_cases hf:(f == 0)=true
  · have HT:=Lib.hid (show v=some ⟨4,s,[]⟩ by rw [HJ.out,if_pos hf])
    clear HJ
    go_wp2
    exact bodyPost_ret (zaF Tryz.results35 _ _ g ⟨4,s,[]⟩ rfl (A1.set _)) rfl (RetOI.mk ⟨4,s,[]⟩ (by rw [HT.out];rfl) (by rw [HT.out];simp) (zab D1 G0 _))
  have HK:=Lib.hid (HJ.out.trans (if_neg hf))
  replace hf:(f == 0)=false:=by simpa using hf
  clear HJ
  cases nb with
  | true=>
    go_wp2_with (go_at_call 65;refine zae (KN.out _) ?_)
    exact bodyPost_ret (zaF Tryz.results35 _ _ g ⟨3,s,[]⟩ rfl (A1.set _)) rfl (RetOI.mk ⟨3,s,[]⟩ (by rw [HK.out];simp) (by rw [HK.out];simp) (zab D1 G0 _))
  | false=>
    go_wp2_with (go_at_call 65;refine zae (KN.out _) ?_)
    exact bodyPost_ret (zaF Tryz.results35 _ _ g ⟨3,s,[]⟩ rfl (A1.set _)) rfl (RetOI.mk ⟨3,s,[]⟩ (by rw [HK.out];simp) (by rw [HK.out];simp) (zab D1 G0 _))
theorem zoK (s:List UInt8) (hs:s.length≤4000000000) (w:World):Calls Tryz.prog 35 #[.string ⟨s.toArray⟩] w (RetOI w (zc5 s)):=by
  by_cases h:s[1]? = some 61
  · rcases s with _ | ⟨a,_ | ⟨b,r⟩⟩
    · cases h
    · cases h
    · have hb:b=61:=by simpa using h
      subst hb
      exact zuV a r (by simp at hs;omega) w
  · exact zuU s h hs w
end Go.Proofs.YtgoeedohgomodaaGreatDoor
namespace Go.Proofs.YtgoeedohgomodaaGreatDoor
open Go.RowKit Go.Sort
set_option maxRecDepth 100000
theorem zwC (a b:UInt8) (r:List UInt8):pEq (a :: b :: r)=([a,b] == [80,61]):=by unfold pEq;simp
set_option maxHeartbeats 4000000 in
theorem zqM (ws:List (List UInt8)) (A:Option Addr) (c:Nat) (i:Nat) (y z:ItemV) (out:List ItemV) (w:World) (hn:2≤ws.length) (hl:ws.length≤124) (hc:ws.length≤c) (hS:zxZ w A ws) (hi:i≤124) (hz:out.getD (i - 1) noItem=z):
    Calls Tryz.prog 36 #[.slice A ws.length c, .int .i64 i, .agg y.arr, .agg z.arr] w (Ret w (.bool (zs6 ws i y out))):=by
  have HMd:=Lib.hid (show zs6 ws i y out=if y.kind=2 then i != 1 else if y.kind=7 then i+2 != ws.length else if y.kind=6 then i+2 != ws.length && (i+3 != ws.length || !pEq (ws.getD (ws.length - 2) [])) else if y.kind=5 then z.kind == 5 else false by rw [← hz];rfl)
  obtain ⟨b,o,rfl,hb,hcl⟩:=hS.at_ (by intro h;rw [h] at hn;simp at hn)
  obtain ⟨x2,hx2⟩:∃ x2,ws[ws.length - 2]? = some x2:=⟨_,List.getElem?_eq_getElem (by omega)⟩
  have hg2:ws.getD (ws.length - 2) []=x2:=by rw [List.getD_eq_getElem?_getD,hx2];rfl
  rw [hg2] at HMd
  have c2:=hcl _ _ hx2
  generalize zs6 ws i y out=m at HMd ⊢
  clear hcl hS hz hx2 hg2
  generalize hN:ws.length=N at *
  clear hN
  go_enter Tryz.func36,Tryz.ntmps36
  go_upto_region 1 with (fail)
  generalize hW:(w.alloc _).alloc _=W
  have Y0:Blk W w.heap.size y.arr:=by rw [← hW];exact (Blk.new w _ _).alloc _
  have Z0:Blk W (w.heap.size+1) z.arr:=by rw [← hW,← World.size_alloc w (.cells y.arr 57)];exact Blk.new _ _ _
  have B0:Below w.heap.size w W:=by rw [← hW];go_grown
  clear hW
  have c2:W.cell? ⟨b,o+(N - 2),none⟩=some (.string ⟨x2.toArray⟩):=by rw [B0.cell (p:=⟨b,_,none⟩) hb];exact c2
  generalize w.heap.size+1=gz at Z0 ⊢
  obtain ⟨gy,hgy⟩:∃ g,g=w.heap.size:=⟨_,rfl⟩
  rw [← hgy] at Y0 ⊢
  clear hgy
  have y0:W.cell? ⟨gy,0,none⟩=some (.int .u8 y.kind):=Y0.cell 0
  have z0:W.cell? ⟨gz,0,none⟩=some (.int .u8 z.kind):=Z0.cell 0
  have HB:=Lib.hid B0
  have hcast:((N:Int) - 2).toNat=N - 2:=by omega
  have hb1:¬ ((N:Int) - 2 < 0):=by omega
  clear Y0 Z0 B0 hb
  go_upto_region 2 with (fail)
  go_cut [10] (fun e wx=>e=.bool (pEq x2)∧wx=W)
  case first=>
    clear HMd y0 z0
    rcases x2 with _ | ⟨a,_ | ⟨d,r⟩⟩
    · go_wp2
      go_meet
      exact ⟨rfl,rfl⟩
    · go_wp2
      go_meet
      exact ⟨by simp [pEq],rfl⟩
    · have HE:=Lib.hid (zwC a d r)
      go_wp2
      go_meet
      exact ⟨by rw [HE.out];simp,rfl⟩
  case rest=>
  obtain ⟨rfl,rfl⟩:=hcut
  generalize wc=W at *
  generalize pEq x2=pb at *
  clear c2 hcast hb1
  generalize y.kind=k at *
  by_cases k2:k=2
  · subst k2
    have hm:m=(i != 1):=by rw [HMd.out];rfl
    have e1:((i:Int) != 1)=m:=by rw [hm];exact zqg rfl rfl
    clear HMd hm
    go_wp2
    go_ret
    exact Ret.bool rfl HB.out
  have HMd:=Lib.hid (HMd.out.trans (if_neg k2))
  have e2:(k == 2)=false:=by simpa using k2
  by_cases k7:k=7
  · subst k7
    have hm:m=(i+2 != N):=by rw [HMd.out];rfl
    have e1:((i:Int) != (N:Int) - 2)=m:=by rw [hm,Bool.eq_iff_iff];simp;omega
    clear HMd hm e2 k2
    go_wp2
    go_ret
    exact Ret.bool rfl HB.out
  have HMd:=Lib.hid (HMd.out.trans (if_neg k7))
  have e7:(k == 7)=false:=by simpa using k7
  by_cases k6:k=6
  · subst k6
    have hm:m=(i+2 != N && (i+3 != N || !pb)):=by rw [HMd.out];rfl
    obtain ⟨a,ha⟩:∃ a,(i+2 != N)=a:=⟨_,rfl⟩
    obtain ⟨d,hd⟩:∃ d,(i+3 != N)=d:=⟨_,rfl⟩
    rw [ha,hd] at hm
    have e1:((i:Int) != (N:Int) - 2)=a:=by rw [← ha,Bool.eq_iff_iff];simp;omega
    have e3:((i:Int) == (N:Int) - 3)=!d:=by rw [← hd,Bool.eq_iff_iff];simp;omega
    have HM:=Lib.hid hm
    clear HMd hm ha hd e2 k2 e7 k7
    cases a <;> cases d <;> cases pb
    all_goals
      simp only [Bool.not_true,Bool.not_false] at e3
      go_wp2
      go_ret
      exact Ret.bool (by rw [HM.out];rfl) HB.out
  have HMd:=Lib.hid (HMd.out.trans (if_neg k6))
  have e6:(k == 6)=false:=by simpa using k6
  by_cases k5:k=5
  · subst k5
    have hm:m=(z.kind == 5):=by rw [HMd.out];rfl
    clear HMd e2 k2 e7 k7 e6 k6
    go_wp2
    go_ret
    exact Ret.bool rfl HB.out
  have hm:m=false:=by rw [HMd.out,if_neg k5]
  have e5:(k == 5)=false:=by simpa using k5
  clear HMd k2 k7 k6 k5
  go_wp2
  go_ret
  exact Ret.bool hm.symm HB.out
end Go.Proofs.YtgoeedohgomodaaGreatDoor
namespace Go.Proofs.YtgoeedohgomodaaGreatDoor
open Go.RowKit Go.Sort
set_option maxRecDepth 100000
attribute [local go_sem] znf zgT
attribute [local go_sem ↓] zlr zhj
theorem zwv {W W':World} {A:Option Addr} {ss:List (List UInt8)} (h:zxZ W A ss) (hb:Below W.heap.size W W'):zxZ W' A ss:=
  ⟨fun hne=>by
    obtain ⟨b,o,hA,hlt,hc⟩:=h.at_ hne
    exact ⟨b,o,hA,Nat.lt_of_lt_of_le hlt hb.size,fun i s hs=>by rw [hb.cell (p:=⟨b,_,none⟩) hlt];exact hc i s hs⟩⟩
theorem ztJ {P:Program} {f:FuncId} {args:Array Value} {W:World} {ss:List (List UInt8)} {K:Ending→World→Prop} (h:Calls P f args W (zuj W ss)) (k:∀ v w',SOut W w' v ss→Below W.heap.size W w'→K (.returned v) w'):Calls P f args W K:=
  h.mono fun e w' ⟨v,he,h1,h2⟩=>by subst he;exact k v w' h1 h2
set_option maxHeartbeats 8000000 in
theorem znm (s:List UInt8) (hs:s.length≤900000000) (w:World):Calls Tryz.prog 12 #[.string ⟨s.toArray⟩] w (RetItms w (zag s)):=by
  have KW:=Lib.hid (zm0 s w hs)
  have hne:=zey 32 s
  have hsm:=Lib.hid (fun x hx=>Nat.le_trans (zcZ 32 s x hx) hs)
  have HO:=Lib.hid (show zag s=if 124 < (zap 32 s).length then (([],124),3) else if (zaC (zap 32 s) (zap 32 s) 0 []).2 ≠ 0 then zaC (zap 32 s) (zap 32 s) 0 [] else
    if (zap 32 s).length=1 then (([],1),4) else zaC (zap 32 s) (zap 32 s) 0 [] from rfl)
  generalize zag s=OUT at *
  generalize zap 32 s=ws at *
  go_enter Tryz.func12,Tryz.ntmps12
  go_upto_region 2 with (go_at_call 33;(with_reducible refine ztJ KW.out ?_);intro v1 w1 O1 B1)
  obtain ⟨A1,c1,rfl,hc1,S1⟩:=O1.form
  have HB:=Lib.hid B1
  have HS:=Lib.hid (fun (wr:World) (BW:Below w1.heap.size w1 wr)=>zwv S1 BW)
  clear KW O1 S1 B1
  by_cases h124:124 < ws.length
  · have HE:=Lib.hid (HO.out.trans (if_pos h124))
    have h1:(124:Int) < (ws.length:Int):=by omega
    clear HO h124
    go_wp2
    go_ret3
    exact RetItms.err HE.out HB.out
  have HO:=Lib.hid (HO.out.trans (if_neg h124))
  have h1:¬ (124:Int) < (ws.length:Int):=by omega
  have hlen:ws.length≤124:=by omega
  clear h124
  go_wp2
  go_loopw [22,6] (fun iv v wr=>∃ (i:Nat) (out:List ItemV),i≤ws.length∧iv=.int .i64 i∧zaC ws ws 0 []=zaC ws (ws.drop i) i out∧out.length=i∧GOut w1.heap.size wr 57 3 v (out.map ItemV.arr)∧Below w1.heap.size w1 wr) (fun iv _ _=>ws.length - (intOf iv).toNat)
  case atStart=>exact ⟨0,[],Nat.zero_le _,rfl,rfl,rfl,GOut.nil _ _ _ _,Below.refl _ _⟩
  case round=>
    obtain ⟨i,out,hi,rfl,hgo,hol,O,BW⟩:=hrel
    have HG:=Lib.hid hgo
    have HOL:=Lib.hid hol
    have BB:=zaa HB.out BW
    clear hgo hol
    by_cases hin:i=ws.length
    · have h2:¬ ((i:Int) < (ws.length:Int)):=by omega
      obtain ⟨A3,c3,e3,hl3,hI3,hge3,_⟩:=O.form (zhe out)
      rw [List.length_map] at e3 hl3
      subst e3
      have HG:=Lib.hid (show zaC ws ws 0 []=((out,0),0) by rw [HG.out,hin,List.drop_length];rfl)
      have HO:=Lib.hid (HO.out.trans (if_neg (by rw [HG.out];simp)))
      have hge:=BW.size
      have hgw:=HB.out.size
      by_cases h1n:ws.length=1
      · have HE:=Lib.hid (HO.out.trans (if_pos h1n))
        have h3:((ws.length:Int) == 1)=true:=by simp;omega
        clear HO HG O
        go_wp2
        go_ret3
        exact RetItms.err HE.out BB
      · have HE:=Lib.hid ((HO.out.trans (if_neg h1n)).trans HG.out)
        have h3:((ws.length:Int) == 1)=false:=by simp;omega
        clear HO HG O
        go_wp2
        go_ret3
        rw [HE.out]
        exact ⟨A3,c3,rfl,hl3,hI3,(fun a ha=>Nat.le_trans hgw (hge3 a ha)),BB⟩
    have hil:i < ws.length:=by omega
    clear hin
    have hlt:(i:Int) < (ws.length:Int):=by omega
    obtain ⟨x,hx⟩:∃ x,ws[i]? = some x:=⟨_,List.getElem?_eq_getElem hil⟩
    have hxl:=hsm.out x (List.mem_of_getElem? hx)
    obtain ⟨sb,so,hA1,hsb,hcl⟩:=(HS.out wr BW).at_ hne
    have HSS:=Lib.hid (HS.out wr BW)
    subst hA1
    have hcx:wr.cell? ⟨sb,so+i,none⟩=some (.string ⟨x.toArray⟩):=hcl i x hx
    have HD:=Lib.hid (show ws.drop i=x :: ws.drop (i+1) from by
      rw [List.drop_eq_getElem_cons hil];congr 1;exact (List.getElem?_eq_some_iff.1 hx).2)
    clear hx hcl
    go_upto_region 8 with (fail)
    clear hcx
    obtain ⟨wo,hwo⟩:∃ wo,zd0 ws.length i x=wo:=⟨_,rfl⟩
    go_cut [35] (fun e wx=>e=.bool (decide (i=0∨i+1=ws.length))∧wx=wr)
    case first=>
      by_cases h0:i=0
      · have e0:((i:Int) == 0)=true:=by simp [h0]
        go_wp2
        all_goals (go_meet;exact ⟨by simp [h0],rfl⟩)
      · have e0:((i:Int) == 0)=false:=by simp [h0]
        have e1:((i:Int) == (ws.length:Int) - 1)=decide (i+1=ws.length):=by
          by_cases h:i+1=ws.length
          · have:(i:Int)=(ws.length:Int) - 1:=by omega
            simp [h,this]
          · have:¬ (i:Int)=(ws.length:Int) - 1:=by omega
            simp [h,this]
        go_wp2
        all_goals (go_meet;exact ⟨by simp [h0],rfl⟩)
    case rest=>
    obtain ⟨rfl,rfl⟩:=hcut
    generalize wc=w2 at *
    go_upto_if 35 with (fail)
    by_cases hb:i=0∨i+1=ws.length
    · have h2:decide (i=0∨i+1=ws.length)=true:=by simpa using hb
      rw [h2]
      clear h2
      have HW:=Lib.hid (show wo=if zcf x 47 6 then some ⟨if i=0 then 1 else 8,(cutAt 47 x).1,(cutAt 47 x).2.1⟩ else none by rw [← hwo];unfold zd0;rw [if_pos hb])
      have KN:=Lib.hid (fun W=>show Calls Tryz.prog 34 #[.string ⟨x.toArray⟩, .int .u8 47, .int .i64 6] W (Ret W (.tuple #[.string ⟨(cutAt 47 x).1.toArray⟩, .string ⟨(cutAt 47 x).2.1.toArray⟩, .bool (zcf x 47 6)])) from zho x 47 6 W (by omega))
      generalize cutAt 47 x=z at *
      generalize zcf x 47 6=pb at *
      obtain ⟨z1,z2,z3⟩:=z
      cases pb with
      | false=>
        have HV:=Lib.hid (show wo=none by rw [HW.out];rfl)
        have HE:=Lib.hid (show zaC ws ws 0 []=(([],(i:Int)),4) by rw [HG.out,HD.out,zaC,hwo,HV.out])
        have HE:=Lib.hid (show OUT=(([],(i:Int)),4) by rw [HO.out,if_pos (by rw [HE.out];simp),HE.out])
        clear HO HG HD hwo hb
        go_wp2_with (go_at_call 34;(with_reducible refine zaj (KN.out _) ?_);intro w3 b3 _ _ _)
        go_ret3
        exact RetItms.err HE.out (zaa BB b3)
      | true=>
        have HV:=Lib.hid (show wo=some ⟨if i=0 then 1 else 8,z1,z2⟩ by rw [HW.out];rfl)
        clear hb
        go_upto_region 13 with (go_at_call 34;(with_reducible refine zaj (KN.out _) ?_);intro w3 b3 _ _ _)
        have O3:=O.step b3
        have B3:=zaa BW b3
        clear O BW BB KN
        have HM:∀ k:Int,zs6 ws i ⟨if i=0 then 1 else 8,z1,z2⟩ out=false:=fun _=>by
          unfold zs6
          by_cases h0:i=0 <;> simp [h0]
        have HGG:=Lib.hid (show zaC ws ws 0 []=zaC ws (ws.drop (i+1)) (i+1) (out ++ [⟨if i=0 then 1 else 8,z1,z2⟩]) by rw [HG.out,HD.out,zaC,hwo,HV.out];simp only;rw [HM 0];rfl)
        clear HM HG HD hwo HW HV HO
        by_cases h0:i=0
        · have e0:¬ (0:Int) < (i:Int):=by omega
          have HG3:=Lib.hid (show zaC ws ws 0 []=zaC ws (ws.drop (i+1)) (i+1) (out ++ [⟨1,z1,z2⟩]) by rw [HGG.out,if_pos h0])
          have O4:=O3.alloc (.cells (ItemV.arr ⟨1,z1,z2⟩) 57)
          have B4:=zaa B3 (zac w3 (.cells (ItemV.arr ⟨1,z1,z2⟩) 57))
          have hq:=Blk.new w3 (ItemV.arr ⟨1,z1,z2⟩) 57
          have HOl:=HOL.out
          clear HGG h0
          go_wp2_with (at_builtin;refine zaK rfl (.tmp 47) (.tmp 52) _ 57 3 40 _ zfw rfl (by omega) Tryz.underlying23 rfl O4 rfl (ItemV.arr ⟨1,z1,z2⟩) w3.heap.size 1 (ItemV.arr_size _) (ItemV.arr_one _) rfl hq.cell (by rw [List.length_map];unfold maxLen;omega) (by rw [List.length_map];omega) B4.size ?_;intro v5 W5 O5 g5)
          go_roundw
          case rel=>exact ⟨i+1,out ++ [⟨1,z1,z2⟩],by omega,by go_num,HG3.out,by rw [List.length_append,List.length_singleton];omega,by rw [List.map_append];exact O5,O4.below_grown g5 B4 (Nat.le_refl _) B4.size⟩
          case measure=>simp [intOf];omega
        · have e0:(0:Int) < (i:Int):=by omega
          have HG3:=Lib.hid (show zaC ws ws 0 []=zaC ws (ws.drop (i+1)) (i+1) (out ++ [⟨8,z1,z2⟩]) by rw [HGG.out,if_neg h0])
          have O4:=O3.alloc (.cells (ItemV.arr ⟨8,z1,z2⟩) 57)
          have B4:=zaa B3 (zac w3 (.cells (ItemV.arr ⟨8,z1,z2⟩) 57))
          have hq:=Blk.new w3 (ItemV.arr ⟨8,z1,z2⟩) 57
          have HOl:=HOL.out
          clear HGG h0
          go_wp2_with (at_builtin;refine zaK rfl (.tmp 47) (.tmp 52) _ 57 3 40 _ zfw rfl (by omega) Tryz.underlying23 rfl O4 rfl (ItemV.arr ⟨8,z1,z2⟩) w3.heap.size 1 (ItemV.arr_size _) (ItemV.arr_one _) rfl hq.cell (by rw [List.length_map];unfold maxLen;omega) (by rw [List.length_map];omega) B4.size ?_;intro v5 W5 O5 g5)
          go_roundw
          case rel=>exact ⟨i+1,out ++ [⟨8,z1,z2⟩],by omega,by go_num,HG3.out,by rw [List.length_append,List.length_singleton];omega,by rw [List.map_append];exact O5,O4.below_grown g5 B4 (Nat.le_refl _) B4.size⟩
          case measure=>simp [intOf];omega
    · have h2:decide (i=0∨i+1=ws.length)=false:=by simpa using hb
      rw [h2]
      clear h2
      have hi0:0 < i:=by omega
      have hi1:i+1 < ws.length:=by omega
      have HW:=Lib.hid (show zc5 x=wo by rw [← hwo];unfold zd0;rw [if_neg hb])
      have KI:=Lib.hid (zoK x (by omega) w2)
      rw [HW.out] at KI
      clear hb
      go_upto_region 17 with (go_at_call 35;refine KI.out.mono ?_;rintro e w3 ⟨y,rfl,hz,b3⟩;have A3:Blk (w3.alloc (.cells #[.int .u8 0, .string ⟨#[]⟩, .string ⟨#[]⟩] 57)) w3.heap.size noItem.arr:=Blk.new w3 noItem.arr 57;have f0:=A3.plain;have f1:=A3.of;have f2:=A3.lt)
      have A4:Blk ((w3.alloc (.cells #[.int .u8 0, .string ⟨#[]⟩, .string ⟨#[]⟩] 57)).setRow w3.heap.size y.arr) w3.heap.size y.arr:=A3.set _
      have D4:Below w2.heap.size w2 ((w3.alloc (.cells #[.int .u8 0, .string ⟨#[]⟩, .string ⟨#[]⟩] 57)).setRow w3.heap.size y.arr):=zab (zaa b3 (zac w3 _)) b3.size _
      have hq2:=b3.size
      obtain ⟨q,hq⟩:∃ q,q=w3.heap.size:=⟨_,rfl⟩
      rw [← hq] at A4 D4 ⊢
      clear A3 f0 f1 f2
      generalize (w3.alloc _).setRow _ _=w4 at A4 D4 ⊢
      have hql:w2.heap.size≤q:=by omega
      have O4:=O.step D4
      have B4:=zaa BW D4
      have BB4:=zaa HB.out B4
      clear hq hq2 b3 KI O BW BB HW
      cases wo with
      | none=>
        have HE:=Lib.hid (show zaC ws ws 0 []=(([],(i:Int)),4) by rw [HG.out,HD.out,zaC,hwo])
        have HE:=Lib.hid (show OUT=(([],(i:Int)),4) by rw [HO.out,if_pos (by rw [HE.out];simp),HE.out])
        clear HO HG HD hwo hz
        go_wp2
        go_ret3
        exact RetItms.err HE.out BB4
      | some y'=>
      obtain rfl:=hz y' rfl
      clear hz
      obtain ⟨A5,c5,e5,hl5,hI5,_,_⟩:=O4.form (zhe out)
      rw [List.length_map] at e5 hl5
      have HOl:=HOL.out
      have hoi:i - 1 < out.length:=by omega
      obtain ⟨b4,off4,hA4,hb4,hq4⟩:=hI5.itm hoi
      subst hA4
      have hgd:out.getD (i - 1) noItem=out[i - 1]:=by rw [List.getD_eq_getElem?_getD,List.getElem?_eq_getElem hoi];rfl
      generalize out[i - 1]=z at hgd hq4
      obtain ⟨m,hm⟩:∃ m,zs6 ws i y out=m:=⟨_,rfl⟩
      have S4:=zwv HSS.out D4
      have KM:=Lib.hid (fun W (b:Below w4.heap.size w4 W)=>zqM ws (some ⟨sb,so,none⟩) c1 i y z out W (by omega) hlen hc1 (zwv S4 b) (by omega) hgd)
      rw [hm] at KM
      go_upto_region 19 with (fail)
      go_cut [70] (fun e wx=>e=.bool m∧Below w4.heap.size w4 wx)
      case first=>
        have hcast:((i:Int) - 1).toNat=i - 1:=by omega
        have hb1:¬ ((i:Int) - 1 < 0):=by omega
        have hb2:(i:Int) - 1 < (out.length:Int):=by omega
        have hb3:(1:Int)≤(i:Int):=by omega
        have hb4:(i:Int)≤(out.length:Int):=by omega
        have hb5:(0:Int)≤(i:Int) - 1:=by omega
        have hb6:IntKind.i64.wrap ((i:Int) - 1)=(i:Int) - 1:=IntWalk.i64_in _ (by omega)
        have hb7:wrap64 ((i:Int) - 1)=(i:Int) - 1:=IntWalk.wrap64_in _ (by omega)
        have hb8:¬ ((out.length:Int)≤(i:Int) - 1):=by omega
        have hb9:i - 1 < out.length:=by omega
        have D5:Below w4.heap.size w4 w4.drew:=(Below.refl _ _).drew
        have i1:zak w4.drew q 0:=⟨_,(A4.step D5).is_itm⟩
        have i2:zar w4.drew q 0=y:=zam (A4.step D5).is_itm
        have i3:zak w4.drew b4 (off4+(i - 1) * 3):=⟨z,hq4 _ D5⟩
        have i4:zar w4.drew b4 (off4+(i - 1) * 3)=z:=zam (hq4 _ D5)
        clear HO HG HD hwo hm O4 HSS S4 hgd HOL hI5 HOl hoi
        subst e5
        go_region_held3 (fun w'=>(zak w' q 0∧zar w' q 0=y)∧zak w' b4 (off4+(i - 1) * 3)∧zar w' b4 (off4+(i - 1) * 3)=z) (first | exact ⟨⟨i1,i2⟩,i3,i4⟩ | exact ⟨⟨j1,j2⟩,j3,j4⟩)
          (first
          | (go_at_call 36;(with_reducible refine zaj (KM.out _ D5) ?_);intro w5 b5 _ _ _
             have j1:zak w5 q 0:=⟨_,(A4.step (zaa D5 b5)).is_itm⟩
             have j2:zar w5 q 0=y:=zam (A4.step (zaa D5 b5)).is_itm
             have j3:zak w5 b4 (off4+(i - 1) * 3):=⟨z,hq4 _ (zaa D5 b5)⟩
             have j4:zar w5 b4 (off4+(i - 1) * 3)=z:=zam (hq4 _ (zaa D5 b5))))
        all_goals
          go_wp2
          go_meet
          exact ⟨rfl,zaa D5 b5⟩
      case rest=>
      obtain ⟨rfl,D5⟩:=hcut
      generalize wc=w5 at *
      have HG2:=Lib.hid (show zaC ws ws 0 []=if m then (([],(i:Int)),9) else zaC ws (ws.drop (i+1)) (i+1) (out ++ [y]) by rw [HG.out,HD.out,zaC,hwo];simp only;rw [hm])
      have B5:=zaa B4 D5
      have BB5:=zaa HB.out B5
      have O5:=O4.step D5
      have A5:=A4.step D5
      clear HG HD hwo hm KM O4 A4 B4 BB4
      cases m with
      | true=>
        have HE:=Lib.hid (show OUT=(([],(i:Int)),9) by rw [HO.out,if_pos (by rw [HG2.out];simp),HG2.out];rfl)
        clear HO HG2 O5
        go_wp2
        go_ret3
        exact RetItms.err HE.out BB5
      | false=>
      have HG3:=Lib.hid (HG2.out.trans (if_neg (by decide)))
      clear HO HG2
      have i1:zak w5 q 0:=⟨_,A5.is_itm⟩
      have i2:zar w5 q 0=y:=zam A5.is_itm
      have O6:=O5.alloc (.cells y.arr 57)
      have B6:=zaa B5 (zac w5 (.cells y.arr 57))
      have hq:=Blk.new w5 y.arr 57
      have hol2:out.length≤124:=by omega
      go_wp2_with (at_builtin;refine zaK rfl (.tmp 72) (.tmp 74) _ 57 3 40 _ zfw rfl (by omega) Tryz.underlying23 rfl O6 rfl y.arr w5.heap.size 1 y.arr_size y.arr_one rfl hq.cell (by rw [List.length_map];unfold maxLen;omega) (by rw [List.length_map];omega) B6.size ?_;intro v5 W5 O7 g5)
      go_roundw
      case rel=>exact ⟨i+1,out ++ [y],by omega,by go_num,HG3.out,by rw [List.length_append,List.length_singleton];omega,by rw [List.map_append];exact O7,O6.below_grown g5 B6 (Nat.le_refl _) B6.size⟩
      case measure=>simp [intOf];omega
end Go.Proofs.YtgoeedohgomodaaGreatDoor
namespace Go.Proofs.YtgoeedohgomodaaGreatDoor
open Go.RowKit Go.Sort
set_option maxRecDepth 100000
def zwq (w:World) (e:Ending) (w':World):Prop:=∃ b:Bool,e=.returned (.bool b)∧Below w.heap.size w w'
theorem zwW {P:Program} {f:FuncId} {args:Array Value} {W:World} {K:Ending→World→Prop} (h:Calls P f args W (zwq W)) (k:∀ b w',Below W.heap.size W w'→K (.returned (.bool b)) w'):Calls P f args W K:=
  h.mono fun e w' ⟨b,he,hb⟩=>by subst he;exact k b w' hb
attribute [local go_sem] zcG zdJ zcH zb0
set_option maxHeartbeats 4000000 in
theorem ztx (d:DBs) (G:GDB) (s:List UInt8) (hs:s.length≤4000000) (w:World) (hD:GdAt w d G):Calls Tryz.prog 14 #[.agg d.cells, .string ⟨s.toArray⟩] w (zwq w):=by
  obtain ⟨A,c,h7,hlc,hA⟩:=hD.air
  obtain ⟨A8,c8,h8,hl8,_⟩:=hD.prc
  have h6:=hD.db.ok.c6
  have hn:=hD.airN
  have hn6:d.fn≤9000000000:=by rw [hD.db.fn];exact hD.db.len
  have hn8:=hD.prcN
  clear hD
  generalize d.cells=cs at *
  generalize G.airways=l at *
  generalize G.procs.length=n8 at *
  generalize d.fa=A6 at *
  generalize d.fc=c6 at *
  generalize d.fn=n6 at *
  go_enter Tryz.func14,Tryz.ntmps14
  go_upto_region 1 with (fail)
  have X0:Blk (w.alloc (.cells cs 37)) w.heap.size cs:=Blk.new w _ _
  have B0:=zad w (.cells cs 37)
  generalize w.alloc _=W at X0 B0 ⊢
  generalize w.heap.size=g0 at X0 ⊢
  have k6:W.cell? ⟨g0,6,none⟩=some (.slice A6 n6 c6):=(X0.cell 6).trans h6
  have k7:W.cell? ⟨g0,7,none⟩=some (.slice A l.length c):=(X0.cell 7).trans h7
  have k8:W.cell? ⟨g0,8,none⟩=some (.slice A8 n8 c8):=(X0.cell 8).trans h8
  have HA:=Lib.hid (fun (W':World) (B:Below W.heap.size W W')=>hA.below (zaa B0 B))
  have HLC:=Lib.hid hlc
  clear h6 h7 h8 hA X0
  by_cases a0:(2000:Int) < (s.length:Int)
  · go_wp2
    go_ret
    exact ⟨_,rfl,B0⟩
  by_cases a1:(400:Int) < (n6:Int)
  · go_wp2
    go_ret
    exact ⟨_,rfl,B0⟩
  by_cases a2:(60:Int) < (l.length:Int)
  · go_wp2
    go_ret
    exact ⟨_,rfl,B0⟩
  by_cases a3:(60:Int) < (n8:Int)
  · go_wp2
    go_ret
    exact ⟨_,rfl,B0⟩
  have HB0:=Lib.hid B0
  clear B0
  go_wp2
  go_loopw [31] (fun iv wr=>∃ k:Nat,k≤l.length∧iv=.int .i64 k∧Below W.heap.size W wr) (fun iv _=>l.length - (intOf iv).toNat)
  case atStart=>exact ⟨0,Nat.zero_le _,rfl,Below.refl _ _⟩
  case round=>
    obtain ⟨k,hk,rfl,BW⟩:=hrel
    by_cases hlt:k < l.length
    · obtain ⟨b,off,cs',hAe,hb,hIs,hAt⟩:=(HA.out wr BW).get (Below.refl _ _) hlt
      obtain ⟨A2,c2,rfl,hl2,hI2⟩:=hAt.ex
      clear hAt
      generalize l[k]=a at *
      subst hAe
      have i1:zce wr b (off+k * 2):=⟨_,hIs⟩
      have i2:zcz wr b (off+k * 2)=zao a A2 c2:=zby hIs
      have hlt':(k:Int) < (l.length:Int):=by omega
      have hkc:k < c:=by have:=HLC.out;omega
      clear hI2 hl2 hIs hb k6 k7 k8
      go_upto_region 6 with (fail)
      have Z:=Blk.new wr (zao a A2 c2) 81
      have D:=zaa BW (zad wr (.cells (zao a A2 c2) 81))
      clear i1 i2
      generalize wr.alloc _=W2 at Z D ⊢
      generalize wr.heap.size=g7 at Z ⊢
      have z1:W2.cell? ⟨g7,1,none⟩=some (.slice A2 a.pts.length c2):=Z.cell 1
      by_cases h40:(40:Int) < (a.pts.length:Int)
      · go_wp2
        go_ret
        exact ⟨_,rfl,zaa HB0.out D⟩
      · go_wp2
        go_roundw
        case rel=>exact ⟨k+1,by omega,by go_num,D⟩
        case measure=>simp [intOf];omega
    · have hlt':¬ (k:Int) < (l.length:Int):=by omega
      go_wp2
      go_ret
      exact ⟨_,rfl,zaa HB0.out BW⟩
end Go.Proofs.YtgoeedohgomodaaGreatDoor
namespace Go.Proofs.YtgoeedohgomodaaGreatDoor
open Go.RowKit Go.Sort
set_option maxRecDepth 100000
theorem zjb {G:GDB} (hG:G.short) (hN:∀ a ∈ G.airways,a.small) {xs:List ItemV} (hs:∀ x ∈ xs,x.short) (ws:List (List UInt8)):∀ (f i:Nat) {n:Nat} {l:List Entry},LOk n l→LOk (n+2000 * f) (za2 (zai G) xs ws f i l).1
  | 0,i,n,l,h=>h.mono (by omega)
  | f+1,i,n,l,h=>by
    unfold za2
    split
    · have k:=zpD hG hN h hs (ws.getD i []) i
      split
      · exact k.mono (by omega)
      · exact (zjb hG hN hs ws f _ k).mono (by omega)
    · exact h.mono (by omega)
theorem zmy {G:GDB} (hG:G.short) (hN:∀ a ∈ G.airways,a.small) {s:List UInt8} (hs:s.length≤4000000) (h:(zbR (zai G) s).2=0):(zbR (zai G) s).1.1.small:=by
  have hl:=(zg6 (zdn h)).2.1
  have hxl:(zag s).1.1.length≤124:=zkt (zdn h)
  rw [znY h]
  have k:=zjb hG hN (zgm hs) (zap 32 s) (zag s).1.1.length 0 LOk.nil
  have hm:∀ (x:Option (List UInt8)),(∀ y,x=some y→y ∈ zap 32 s)→(x.getD []).length≤4000000000:=by
    intro x hx
    cases x with
    | none=>simp
    | some y=>exact Nat.le_trans (zcZ 32 s y (hx y rfl)) (by omega)
  refine ⟨?_,?_,Nat.le_trans k.len (by omega),k.small⟩
  · show ((zap 32 s).headD []).length≤_
    rw [zmx]
    exact hm _ fun y hy=>List.mem_of_getElem? hy
  · show ((zap 32 s).getLastD []).length≤_
    rw [zgw]
    exact hm _ fun y hy=>List.mem_of_getElem? hy
end Go.Proofs.YtgoeedohgomodaaGreatDoor
