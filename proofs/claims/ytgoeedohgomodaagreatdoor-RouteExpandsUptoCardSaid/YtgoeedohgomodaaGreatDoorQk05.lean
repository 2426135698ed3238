/- Lemmas and walks. -/
import Derived.Test.YtgoeedohgomodaaGreatDoorQk02
import Derived.Deep.DeepCutAuto
import Derived.Deep.Light
set_option linter.unusedSimpArgs false
set_option linter.unusedVariables false
namespace Go.Proofs.YtgoeedohgomodaaGreatDoor
open Go.RowKit
set_option maxHeartbeats 400000 in
theorem zjD (t:Int) (w:World):Calls Tryz.prog 147 #[.int .u8 t] w (RetP w (.bool (zdP t))):=by
  go_enter Tryz.func147,Tryz.ntmps147
  go_wp2
  all_goals (go_ret;exact RetP.bool (by grind [zdP]) rfl)
set_option maxHeartbeats 400000 in
theorem zdu (t:Int) (w:World):Calls Tryz.prog 53 #[.int .u8 t] w (RetP w (.bool (zcu t))):=by
  go_enter Tryz.func53,Tryz.ntmps53
  go_wp2
  all_goals (go_ret;exact RetP.bool (by grind [zcu]) rfl)
set_option maxHeartbeats 400000 in
theorem ziy (t:Int) (w:World):Calls Tryz.prog 47 #[.int .u8 t] w (RetP w (.bool (zdq t))):=by
  go_enter Tryz.func47,Tryz.ntmps47
  go_wp2
  all_goals (go_ret;exact RetP.bool (by grind [zdq]) rfl)
set_option maxHeartbeats 400000 in
theorem zvp (t:Int) (w:World):Calls Tryz.prog 103 #[.int .u8 t] w (RetP w (.bool (ztu t))):=by
  go_enter Tryz.func103,Tryz.ntmps103
  go_wp2
  all_goals (go_ret;exact RetP.bool (by grind [ztu]) rfl)
set_option maxHeartbeats 1000000 in
theorem zpg (a b:Int) (w:World):Calls Tryz.prog 102 #[.int .u8 a, .int .u8 b] w (RetP w (.bool (zfM a b))):=by
  go_enter Tryz.func102,Tryz.ntmps102
  go_wp2_with (go_at_call 147;refine zae (zjD _ _) ?_)
  all_goals (go_ret;exact RetP.bool (by grind [zfM,zdP]) rfl)
set_option maxHeartbeats 400000 in
theorem zhd (a b:Leg) (w:World):Calls Tryz.prog 54 #[a.val,b.val] w (Ret w (.bool (a.joinsB b))):=by
  go_enter Tryz.func54,Tryz.ntmps54
  go_wp2_with (first
    | (go_at_call 102;refine zae (zpg _ _ _) ?_)
    | (go_at_call 103;refine zae (zvp _ _) ?_))
  all_goals (go_ret;exact Ret.bool (by grind [Leg.joinsB]) (by go_grown))
end Go.Proofs.YtgoeedohgomodaaGreatDoor
namespace Go.Proofs.YtgoeedohgomodaaGreatDoor
open Go.RowKit
def orE (a b:Int):Int:=if (a != 0)=true then a else b
def zmV (t:Int):Int:=usesTab.getD t.toNat 0
def uB (t m:Int):Bool:=bits BinOp.and IntKind.u16 (zmV t) m != 0
def zeL (s:List UInt8) (used:Bool):Int:=if used then (if (za8 s).2.2=0 then 0 else 5) else if s.isEmpty then 0 else 1
def zem (n:Int) (used:Bool) (lo hi:Int):Int:=if used then (if n < lo∨hi < n then 2 else 0) else if n=0 then 0 else 1
def zif (used:Bool) (turn:Int):Int:=if used then (if turn=1∨turn=2 then 0 else 1) else if turn=0 then 0 else 1
def zjP (t:Int):Bool:=t == 7 || t == 11 || t == 14
def zjC (l:Leg):Int:=
  if l.lo < -200000∨l.hi < l.lo∨6000000 < l.hi then 2 else if zjP l.ty=true∧l.lo=-200000 then 2
  else if l.speed < 0∨1000 < l.speed∨l.rnp < 0∨120000 < l.rnp then 2 else 0
def zmu (l:Leg):Int:=orE (zem l.course (uB l.ty 16) 0 129599999) (orE (zem l.dist (uB l.ty 32) 1 2000000) (orE (zem l.radius (uB l.ty 64) 1 2000000) (orE (zem l.theta (uB l.ty 128) 0 129599999) (zjC l))))
def zoW (l:Leg):Bool:=l.over && !uB l.ty 8
def zii (l:Leg):Int:=orE (if zoW l then 1 else 0) (zmu l)
def zft (l:Leg):Int:=orE (zif (uB l.ty 4) l.turn) (zii l)
def zaN (l:Leg):Int:=if zdP l.ty then orE (zeL l.fix (uB l.ty 1)) (orE (zeL l.center (uB l.ty 2)) (zft l)) else 17
theorem zwm (t m:Int):(bits BinOp.and IntKind.u16 (zmV t) m == 0)=!uB t m:=by simp [uB,bne]
theorem zwl (t m:Int):(bits BinOp.and IntKind.u16 (zmV t) m != 0)=uB t m:=rfl
theorem zxf (l:Leg) (h:uB l.ty 4=true) (h2:(l.turn != 1)=true∧(l.turn != 2)=true):1=zft l:=by grind [zft,orE,zif]
theorem zxe (l:Leg) (h:uB l.ty 4=false) (h2:(l.turn != 0)=true):1=zft l:=by grind [zft,orE,zif]
theorem zxd (l:Leg) (h:uB l.ty 4=true) (h2:(l.turn != 1)=false∨(l.turn != 2)=false):zft l=zii l:=by grind [zft,orE,zif]
theorem zxc (l:Leg) (h:uB l.ty 4=false) (h2:(l.turn != 0)=false):zft l=zii l:=by grind [zft,orE,zif]
theorem zxb (l:Leg) (h:uB l.ty 4=true) (h2:l.turn=1):zft l=zii l:=by grind [zft,orE,zif]
end Go.Proofs.YtgoeedohgomodaaGreatDoor
namespace Go.Proofs.YtgoeedohgomodaaGreatDoor
open Go.RowKit
theorem zn5 (s:List UInt8) (b:Bool) (w:World) (hL:Laid w) (hl:s.length≤4000000000):Calls Tryz.prog 148 #[.string ⟨s.toArray⟩, .bool b] w (RetQ w (.int .i64 (zeL s b))):=by
  cases b
  all_goals
    go_enter Tryz.func148,Tryz.ntmps148
    go_wp2_with (go_at_call 62;refine zes (zff _ _ hL hl) ?_;intro n1)
    all_goals (go_ret;exact RetQ.int (by grind [zeL]) (by first | exact ⟨_,rfl⟩ | exact ⟨0,rfl⟩))
theorem zjU (n:Int) (b:Bool) (lo hi:Int) (w:World):Calls Tryz.prog 149 #[.int .i64 n, .bool b, .int .i64 lo, .int .i64 hi] w (RetP w (.int .i64 (zem n b lo hi))):=by
  cases b
  all_goals
    go_enter Tryz.func149,Tryz.ntmps149
    go_wp2
    all_goals (go_ret;exact RetP.int (by grind [zem]) rfl)
attribute [local go_sem] zwm zwl
set_option maxHeartbeats 4000000 in
set_option maxRecDepth 100000 in
theorem zjT (l:Leg) (w:World) (hL:Laid w) (hl:l.small):Calls Tryz.prog 98 #[l.val] w (Ret w (.int .i64 (zaN l))):=by
  have h1:=hl.fix
  have h2:=hl.center
  by_cases hk:zdP l.ty=true
  · have hk1:1≤l.ty∧l.ty≤17:=by simpa [zdP] using hk
    have hk0:=hk1.1
    have hk2:=hk1.2
    have hk3:0≤l.ty∧l.ty < 18:=by omega
    clear hk1
    have hO0:=Own1.mk0 w l.arr 64
    go_enter Tryz.func98,Tryz.ntmps98
    go_upto_region 1 with (fail)
    generalize w.alloc _=W at hO0 ⊢
    have hc:=hO0.cell
    have hlt:=hO0.lt
    have hL1:=hL.below hO0.below
    have hu:W.cell? ⟨0,l.ty.toNat,none⟩=some (.int .u16 (zmV l.ty)):=hL1.uses _ (by omega)
    go_upto_if 39 with (first
      | (go_at_call 147;refine zae (zjD _ _) ?_)
      | (go_at_call 148;refine zes (zn5 _ _ _ (by first | exact hL1 | exact hL1.drewN _) (by assumption)) ?_;intro n1))
    · go_ret;exact Ret.int (by go_light;simp [zaN,orE, *]) (below_drewN hO0.below _)
    · go_ret;exact Ret.int (by go_light;simp [zaN,orE, *]) (below_drewN hO0.below _)
    have HS:=Lib.hid (show zaN l=zft l by go_light;simp [zaN,orE, *])
    go_cut [3] (fun s wx=>s=.int .u16 (zmV l.ty)∧zaN l=zii l∧Own1 w l.arr wx)
    case first=>
      go_wp2
      all_goals first
        | (go_ret;refine Ret.int ?_ (below_drewN hO0.below _);rw [HS.out];first | exact zxf l (by assumption) (by assumption) | exact zxe l (by assumption) (by assumption))
        | (go_meet;refine ⟨rfl,?_,hO0.drewN _⟩;rw [HS.out];first | exact zxd l (by assumption) (by assumption) | exact zxc l (by assumption) (by assumption) | exact zxb l (by assumption) (by assumption))
    case rest=>
      obtain ⟨rfl,ht,hO⟩:=hcut
      clear HS hc hlt hu hL1 hO0
      have HS:=Lib.hid ht;clear ht
      have hc:=hO.cell
      have hlt:=hO.lt
      have hB:=hO.below
      go_upto_region 15 with (fail)
      go_cut [57] (fun s wx=>s=.bool (zoW l)∧wx=wc)
      case first=>
        go_wp2
        all_goals (go_meet;exact ⟨by go_light;simp [zoW, *],rfl⟩)
      case rest=>
        obtain ⟨rfl,rfl⟩:=hcut
        go_upto_region 29 with (go_at_call 149;refine zae (zjU _ _ _ _ _) ?_)
        all_goals try (go_ret;exact Ret.int (by rw [HS.out];go_light;simp [zii,zmu,orE, *]) hB;done)
        have HS2:=Lib.hid (show zaN l=zjC l by rw [HS.out];go_light;simp [zii,zmu,orE, *])
        go_cut [3,4,5,6,7,8,9,10] (fun _ _ _ _ _ _ _ s wx=>s=.bool (zjP l.ty)∧wx=wc)
        case first=>
          go_wp2
          all_goals (go_meet;exact ⟨by go_light;simp [zjP, *],rfl⟩)
        case rest=>
          obtain ⟨rfl,rfl⟩:=hcut
          clear HS
          go_wp2
          all_goals (go_ret;exact Ret.int (by have HS:=HS2.out;clear hO hc hL hl h1 h2;go_light;grind [zjC]) hB)
  · have hk:zdP l.ty=false:=by simpa using hk
    go_enter Tryz.func98,Tryz.ntmps98
    go_wp2_with (go_at_call 147;refine zae (zjD _ _) ?_)
    go_ret
    exact Ret.int (by grind [zaN]) (by go_grown)
end Go.Proofs.YtgoeedohgomodaaGreatDoor
