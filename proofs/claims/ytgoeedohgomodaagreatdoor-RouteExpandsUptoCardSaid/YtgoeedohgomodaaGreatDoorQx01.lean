/- Lemmas and walks. -/
import Derived.Test.YtgoeedohgomodaaGreatDoorQk01
import Derived.Test.YtgoeedohgomodaaGreatDoorQk02
import Derived.Test.YtgoeedohgomodaaGreatDoorQk03
import Derived.Test.YtgoeedohgomodaaGreatDoorQk05
import Derived.Test.YtgoeedohgomodaaGreatDoorQk06
import Derived.WalkKit
import Derived.ProofKit
import Derived.WalkLawsBesides
import Derived.WalkSpells
import Derived.Outline
import Derived.Handy
import Derived.Lib.Hide
import Derived.Laws.Rows
import Derived.Deep.QuietTactic
import Derived.BigQuiet
import Derived.Lib.LaidTab
import Derived.Deep.DeepCutAuto
import Derived.Deep.Light
set_option linter.unusedSimpArgs false
set_option linter.unusedVariables false
namespace Go.Proofs.YtgoeedohgomodaaGreatDoor
open Go.RowKit
attribute [go_sem] zwn zlv
section
variable {P:Program}
theorem zfm {f:FuncId} {args:Array Value} {w:World} {n:Nat} {v:Value} (h:Calls P f args (w.drewN n) (RetP (w.drewN n) v)):Calls P f args (w.drewN n) fun e w''=>e=.returned v∧∃ m,w''=w.drewN m:=
  h.mono fun _ _ ⟨he,hw⟩=>⟨he,n,hw.symm⟩
theorem zfl {f:FuncId} {args:Array Value} {w:World} {a n:Nat} {v:Value} (h:Calls P f args (w.drewN (a+n)) (RetP (w.drewN (a+n)) v)):Calls P f args (w.drewN (a+n)) fun e w''=>e=.returned v∧∃ m,w''=w.drewN (a+m):=
  h.mono fun _ _ ⟨he,hw⟩=>⟨he,n,hw.symm⟩
theorem zwA {f:FuncId} {args:Array Value} {w:World} {a n:Nat} {v:Value} (h:Calls P f args (w.drewN (a+n)) (RetQ (w.drewN (a+n)) v)):Calls P f args (w.drewN (a+n)) fun e w''=>e=.returned v∧∃ m,w''=w.drewN (a+m):=
  h.mono fun _ _ ⟨he,m,hw⟩=>⟨he,n+m,by rw [hw,World.drewN_drewN,Nat.add_assoc]⟩
end
end Go.Proofs.YtgoeedohgomodaaGreatDoor
namespace Go.Proofs.YtgoeedohgomodaaGreatDoor
open Go.RowKit
set_option maxHeartbeats 400000 in
theorem zqN (l:List UInt8) (w:World) (hl:l.length≤4611686018427387904):Calls Tryz.prog 109 #[.string ⟨l.toArray⟩] w (RetP w (.bool (zfh l))):=by
  by_cases h2:l.length=2
  · have hs:=Lib.hid (show zfh l=l.all zeu by simp [zfh,h2])
    have h1:((l.length:Int) != 2)=false:=by simp;omega
    have h3:=Lib.hid h2
    have hlo:2≤l.length:=by omega
    have hhi:l.length≤2:=by omega
    clear h2
    go_enter Tryz.func109,Tryz.ntmps109
    go_wp2
    go_loop [3] (fun i=>∃ k:Nat,k≤l.length∧i=.int .i64 k∧zfh l=(l.drop k).all zeu) (fun i=>l.length - (intOf i).toNat)
    case atStart=>exact ⟨0,by omega,rfl,by rw [hs.out];rfl⟩
    case round=>
      obtain ⟨k,hk,rfl,hq⟩:=hrel
      have HQ:=Lib.hid hq;clear hq
      by_cases hlt:k < l.length
      · have hd:=Lib.hid (ziF zeu l k hlt)
        go_wp2
        all_goals first
          | (go_ret;exact RetP.bool (by rw [HQ.out,hd.out];grind [up,zeu]) rfl)
          | (go_round
             case rel=>exact ⟨k+1,by omega,by go_num,by rw [HQ.out,hd.out];grind [up,zeu]⟩
             case measure=>simp [intOf];omega)
      · go_wp2
        go_ret
        exact RetP.bool (by rw [HQ.out,List.drop_of_length_le (by omega)];rfl) rfl
  · have h1:((l.length:Int) != 2)=true:=by simp;omega
    go_enter Tryz.func109,Tryz.ntmps109
    go_wp2
    go_ret
    exact RetP.bool (by grind [zfh]) rfl
end Go.Proofs.YtgoeedohgomodaaGreatDoor
namespace Go.Proofs.YtgoeedohgomodaaGreatDoor
open Go.RowKit
set_option maxHeartbeats 400000 in
theorem zeW (l:List UInt8) (w:World) (hl:l.length≤4000000000):Calls Tryz.prog 66 #[.string ⟨l.toArray⟩] w (RetQ w (zsA (za8 l))):=by
  go_enter Tryz.func66,Tryz.ntmps66
  go_wp2
  go_loop [5] (fun i=>∃ k:Nat,k≤l.length∧i=.int .i64 k∧(l.take k).all (· != 47)=true) (fun i=>l.length - (intOf i).toNat)
  case atStart=>exact ⟨0,by omega,rfl,by simp⟩
  case round=>
    obtain ⟨k,hk,rfl,hq⟩:=hrel
    have HQ:=Lib.hid hq;clear hq
    by_cases hlt:k < l.length
    · by_cases hc:l[k]=47
      · have hs:=Lib.hid (show za8 l=zex (l.take k,l.drop (k+1),true) by rw [za8,ziA 47 l k hlt HQ.out hc])
        have h1:((l[k].toNat:Int) == 47)=true:=zwt (d:=47) hc
        have e1:=IntWalk.i64_in ((k:Int)+1) (by omega)
        have e2:(0:Int)≤(k:Int)+1:=by omega
        have e3:((k:Int)+1).toNat=k+1:=by omega
        clear hc
        go_wp2
        go_quiet (fail)
        have L1:(l.take k).length≤4000000000:=by rw [List.length_take];omega
        have L2:(l.drop (k+1)).length≤4000000000:=by rw [List.length_drop];omega
        go_wp2_with (first
          | (go_at_call 65;refine zae (zcU _ _ _ (by omega)) ?_)
          | (go_at_call 109;refine zae (zqN _ _ (by omega)) ?_))
        all_goals (go_ret3;exact RetQ.tuple3 (by rw [hs.out];grind [zex]) ⟨_,rfl⟩)
      · have h1:((l[k].toNat:Int) == 47)=false:=zj7 (d:=47) hc
        go_wp2
        go_round
        case rel=>exact ⟨k+1,by omega,by go_num,zeQ _ l k hlt HQ.out (by simp [hc])⟩
        case measure=>simp [intOf];omega
    · have hs:=Lib.hid (show za8 l=zex (l,[],false) by rw [za8,zfO 47 l (by have:=HQ.out;rwa [List.take_of_length_le (by omega)] at this)])
      go_wp2
      go_ret3
      exact RetQ.tuple3 (by rw [hs.out];rfl) ⟨0,rfl⟩
end Go.Proofs.YtgoeedohgomodaaGreatDoor
namespace Go.Proofs.YtgoeedohgomodaaGreatDoor
open Go.RowKit
set_option maxHeartbeats 400000 in
theorem znn (l:List UInt8) (c:UInt8) (most:Int) (w:World) (hl:l.length≤4000000000):
    Calls Tryz.prog 137 #[.string ⟨l.toArray⟩, .int .u8 c.toNat, .int .i64 most] w (RetP w (.bool (zcf l c most))):=by
  go_enter Tryz.func137,Tryz.ntmps137
  go_wp2
  go_loop [7] (fun i=>∃ k:Nat,k≤l.length∧i=.int .i64 k∧(l.take k).all (· != c)=true) (fun i=>l.length - (intOf i).toNat)
  case atStart=>exact ⟨0,by omega,rfl,by simp⟩
  case round=>
    obtain ⟨k,hk,rfl,hq⟩:=hrel
    have HQ:=Lib.hid hq;clear hq
    by_cases hlt:k < l.length
    · by_cases hc:l[k]=c
      · have hs:=Lib.hid (show zcf l c most=zgr (l.take k,l.drop (k+1),true) most by rw [zcf,ziA c l k hlt HQ.out hc])
        have h1:((l[k].toNat:Int) == (c.toNat:Int))=true:=zwt hc
        clear hc
        have L1:(l.take k).length≤4000000000:=by rw [List.length_take];omega
        have L2:(l.drop (k+1)).length≤4000000000:=by rw [List.length_drop];omega
        go_wp2_with (go_at_call 65;refine zae (zcU _ _ _ (by omega)) ?_)
        all_goals (go_ret;exact RetP.bool (by rw [hs.out];grind [zgr]) rfl)
      · have h1:((l[k].toNat:Int) == (c.toNat:Int))=false:=zj7 hc
        go_wp2
        go_round
        case rel=>exact ⟨k+1,by omega,by go_num,zeQ _ l k hlt HQ.out (by simp [hc])⟩
        case measure=>simp [intOf];omega
    · have hs:=Lib.hid (show zcf l c most=zgr (l,[],false) most by rw [zcf,zfO c l (by have:=HQ.out;rwa [List.take_of_length_le (by omega)] at this)])
      go_wp2_with (go_at_call 65;refine zae (zcU _ _ _ (by omega)) ?_)
      go_ret
      exact RetP.bool (by rw [hs.out];grind [zgr]) rfl
set_option maxHeartbeats 400000 in
theorem zqK (l:List UInt8) (w:World) (hl:l.length≤4000000000):Calls Tryz.prog 88 #[.string ⟨l.toArray⟩] w (RetP w (.bool (zf9 l))):=by
  go_enter Tryz.func88,Tryz.ntmps88
  go_wp2_with (go_at_call 137;refine zae (znn l 47 _ _ (by omega)) ?_)
  all_goals (go_ret;exact RetP.bool (by grind [zf9]) rfl)
set_option maxHeartbeats 400000 in
theorem zpG (l:List UInt8) (w:World) (hl:l.length≤4000000000):Calls Tryz.prog 140 #[.string ⟨l.toArray⟩] w (RetP w (.bool (zuw l))):=by
  go_enter Tryz.func140,Tryz.ntmps140
  go_wp2_with (go_at_call 137;refine zae (znn l 46 _ _ (by omega)) ?_)
  all_goals (go_ret;exact RetP.bool (by grind [zuw]) rfl)
theorem zhR (s:Int) (w:World):Calls Tryz.prog 139 #[.int .u8 s] w (RetP w (.bool (zdS s))):=by
  go_enter Tryz.func139,Tryz.ntmps139
  go_wp2
  all_goals (go_ret;exact RetP.bool (by grind [zdS]) rfl)
theorem zkS (x y:Int) (w:World):Calls Tryz.prog 141 #[.agg #[.int .i64 x, .int .i64 y]] w (Ret w (.bool (zaV x y))):=by
  go_enter Tryz.func141,Tryz.ntmps141
  go_wp2
  all_goals (go_ret;exact Ret.bool (by grind [zaV]) (by go_grown))
end Go.Proofs.YtgoeedohgomodaaGreatDoor
namespace Go.Proofs.YtgoeedohgomodaaGreatDoor
open Go.RowKit
set_option maxHeartbeats 400000 in
theorem zc0 (t:Int) (w:World):Calls Tryz.prog 90 #[.int .u8 t] w (RetP w (.bool (zcu t))):=by
  go_enter Tryz.func90,Tryz.ntmps90
  go_wp2
  all_goals (go_ret;exact RetP.bool (by grind [zcu]) rfl)
set_option maxHeartbeats 400000 in
theorem zjh (t:Int) (w:World):Calls Tryz.prog 92 #[.int .u8 t] w (RetP w (.bool (zdq t))):=by
  go_enter Tryz.func92,Tryz.ntmps92
  go_wp2
  all_goals (go_ret;exact RetP.bool (by grind [zdq]) rfl)
set_option maxHeartbeats 400000 in
theorem zsz (t:Int) (w:World):Calls Tryz.prog 143 #[.int .u8 t] w (RetP w (.bool (ztu t))):=by
  go_enter Tryz.func143,Tryz.ntmps143
  go_wp2
  all_goals (go_ret;exact RetP.bool (by grind [ztu]) rfl)
def zbj (t:Int):List UInt8:=
  if t=1 then [70] else if t=2∨t=4 then [70,111] else if t=3 then [70,111,75] else if t=5∨t=6 then [70,67,84,82]
  else if t=7 then [75,97] else if t=8 then [67,75,68] else if t=9 then [75] else if t=10 then [67,75,72] else if t=11 then [70,75,97]
  else if t=12 then [70,75,68] else if t=13 then [70,75] else if t=14 then [70,84,75,68,97] else if t=15∨t=16∨t=17 then [70,84,75,68] else []
set_option maxHeartbeats 1000000 in
theorem ziX (t:Int) (w:World):Calls Tryz.prog 183 #[.int .u8 t] w (RetP w (.string ⟨(zbj t).toArray⟩)):=by
  go_enter Tryz.func183,Tryz.ntmps183
  go_wp2
  all_goals (go_ret;exact RetP.str (by grind [zbj]) rfl)
theorem zeO (t:Int):(zbj t).isEmpty=!zdP t:=by grind (splits:=30) [zbj,zdP]
set_option maxHeartbeats 1000000 in
theorem znq (a b:Int) (w:World):Calls Tryz.prog 142 #[.int .u8 a, .int .u8 b] w (RetP w (.bool (zfM a b))):=by
  have ha:=Lib.hid (zeO a)
  have hb:=Lib.hid (zeO b)
  go_enter Tryz.func142,Tryz.ntmps142
  go_wp2_with (go_at_call 183;refine zae (ziX _ _) ?_)
  all_goals (go_ret;exact RetP.bool (by have ha:=ha.out;have hb:=hb.out;grind [zfM,zdP]) rfl)
set_option maxHeartbeats 400000 in
theorem zfH (a b:Leg) (w:World):Calls Tryz.prog 91 #[a.val,b.val] w (Ret w (.bool (a.joinsB b))):=by
  go_enter Tryz.func91,Tryz.ntmps91
  go_wp2_with (first
    | (go_at_call 142;refine zae (znq _ _ _) ?_)
    | (go_at_call 143;refine zae (zsz _ _) ?_))
  all_goals (go_ret;exact Ret.bool (by grind [Leg.joinsB]) (by go_grown))
end Go.Proofs.YtgoeedohgomodaaGreatDoor
namespace Go.Proofs.YtgoeedohgomodaaGreatDoor
open Go.RowKit
def zix (l:List UInt8) (c:Int):Bool:=l.any fun x=>(x.toNat:Int) == c
theorem ztq (l:List UInt8) (c:Int) (k:Nat) (h:k < l.length):zix (l.drop k) c=(((l[k].toNat:Int) == c) || zix (l.drop (k+1)) c):=by
  unfold zix;rw [List.drop_eq_getElem_cons h,List.any_cons]
theorem zcY (l:List UInt8) (c:Int) (w:World) (hl:l.length≤4000000000):Calls Tryz.prog 185 #[.string ⟨l.toArray⟩, .int .u8 c] w (RetP w (.bool (zix l c))):=by
  go_enter Tryz.func185,Tryz.ntmps185
  go_wp2
  go_loop [5] (fun i=>∃ k:Nat,k≤l.length∧i=.int .i64 k∧zix l c=zix (l.drop k) c) (fun i=>l.length - (intOf i).toNat)
  case atStart=>exact ⟨0,by omega,rfl,rfl⟩
  case round=>
    obtain ⟨k,hk,rfl,hq⟩:=hrel
    have HQ:=Lib.hid hq;clear hq
    by_cases hlt:k < l.length
    · have hd:=Lib.hid (ztq l c k hlt)
      go_wp2
      · go_ret
        exact RetP.bool (by rw [HQ.out,hd.out];simp [*]) rfl
      · go_round
        case rel=>exact ⟨k+1,by omega,by go_num,by rw [HQ.out,hd.out];simp [*]⟩
        case measure=>simp [intOf];omega
    · go_wp2
      go_ret
      exact RetP.bool (by rw [HQ.out,List.drop_of_length_le (by omega)];rfl) rfl
theorem zpI (s:List UInt8) (b:Bool) (w:World) (hl:s.length≤4000000000):Calls Tryz.prog 184 #[.string ⟨s.toArray⟩, .bool b] w (RetQ w (.int .i64 (zeL s b))):=by
  cases b
  all_goals
    go_enter Tryz.func184,Tryz.ntmps184
    go_wp2_with (go_at_call 66;refine zes (zeW _ _ hl) ?_;intro n1)
    all_goals (go_ret;exact RetQ.int (by grind [zeL]) (by first | exact ⟨_,rfl⟩ | exact ⟨0,rfl⟩))
theorem zcj (n:Int) (lo hi:Int) (b:Bool) (w:World):Calls Tryz.prog 186 #[.int .i64 n, .int .i64 lo, .int .i64 hi, .bool b] w (RetP w (.int .i64 (zem n b lo hi))):=by
  cases b
  all_goals
    go_enter Tryz.func186,Tryz.ntmps186
    go_wp2
    all_goals (go_ret;exact RetP.int (by grind [zem]) rfl)
theorem zo9:∀ k:Fin 17,zix (zbj (k.val+1:Nat)) 70=uB (k.val+1:Nat) 1∧zix (zbj (k.val+1:Nat)) 67=uB (k.val+1:Nat) 2∧zix (zbj (k.val+1:Nat)) 84=uB (k.val+1:Nat) 4∧zix (zbj (k.val+1:Nat)) 111=uB (k.val+1:Nat) 8 ∧
    zix (zbj (k.val+1:Nat)) 75=uB (k.val+1:Nat) 16∧zix (zbj (k.val+1:Nat)) 68=uB (k.val+1:Nat) 32∧zix (zbj (k.val+1:Nat)) 82=uB (k.val+1:Nat) 64∧zix (zbj (k.val+1:Nat)) 72=uB (k.val+1:Nat) 128∧zix (zbj (k.val+1:Nat)) 97=zjP (k.val+1:Nat):=by
  decide +kernel
theorem letters (t:Int) (h:zdP t=true):zix (zbj t) 70=uB t 1∧zix (zbj t) 67=uB t 2∧zix (zbj t) 84=uB t 4∧zix (zbj t) 111=uB t 8 ∧
    zix (zbj t) 75=uB t 16∧zix (zbj t) 68=uB t 32∧zix (zbj t) 82=uB t 64∧zix (zbj t) 72=uB t 128∧zix (zbj t) 97=zjP t:=by
  have h1:1≤t∧t≤17:=by simpa [zdP] using h
  have:=zo9 ⟨t.toNat - 1,by omega⟩
  have e:((t.toNat - 1+1:Nat):Int)=t:=by omega
  simp only [e] at this
  exact this
theorem len_ite {c:Prop} [Decidable c] {a b:List UInt8} {n:Nat} (ha:a.length≤n) (hb:b.length≤n):(if c then a else b).length≤n:=by split <;> assumption
theorem zor (t:Int):(zbj t).length≤5:=by
  unfold zbj
  repeat' (refine len_ite ?_ ?_)
  all_goals decide
end Go.Proofs.YtgoeedohgomodaaGreatDoor
namespace Go.Proofs.YtgoeedohgomodaaGreatDoor
open Go.RowKit
theorem zxa (l:Leg) (h:(zif (uB l.ty 4) l.turn != 0)=true):1=zft l:=by grind [zft,orE,zif]
theorem zw9 (l:Leg) (h:(zif (uB l.ty 4) l.turn != 0)=false):zft l=zii l:=by grind [zft,orE,zif]
theorem zxq (l:Leg) (h:zoW l=true):1=zii l:=by grind [zii,orE]
theorem zxp (l:Leg) (h:zoW l=false):zii l=zmu l:=by grind [zii,orE]
set_option maxHeartbeats 4000000 in
set_option maxRecDepth 100000 in
theorem zhq (l:Leg) (w:World) (hl:l.small):Calls Tryz.prog 138 #[l.val] w (Ret w (.int .i64 (zaN l))):=by
  have h1:=hl.fix
  have h2:=hl.center
  have he:=zeO l.ty
  have hu:=zor l.ty
  by_cases hk:zdP l.ty=true
  · obtain ⟨lF,lC,lT,lo,lK,lD,lR,lH,la⟩:=letters l.ty hk
    have he1:(zbj l.ty).isEmpty=false:=by rw [he,hk];rfl
    have hne:¬ zbj l.ty=[]:=by intro e;rw [e] at he1;simp at he1
    clear he
    have hO0:=Own1.mk0 w l.arr 64
    go_enter Tryz.func138,Tryz.ntmps138
    go_upto_region 1 with (fail)
    generalize w.alloc _=W at hO0 ⊢
    have hc:=hO0.cell
    have hlt:=hO0.lt
    go_upto_region 4 with (go_at_call 183;refine zae (ziX _ _) ?_)
    go_quiet (first | ((go_at_call 185;exact zfm (zcY _ _ _ (by omega)))) | ((go_at_call 184;exact zv7 (zpI _ _ _ (by assumption)))))
    go_upto_region 7 with (fail)
    · go_ret;exact Ret.int (by go_light;simp [zaN,orE, *]) (below_drewN hO0.below _)
    go_quiet (first | ((go_at_call 185;exact zfl (zcY _ _ _ (by omega)))) | ((go_at_call 184;exact zwA (zpI _ _ _ (by assumption)))) | ((go_at_call 186;exact zfl (zcj _ _ _ _ _))))
    go_upto_region 10 with (fail)
    · go_ret;exact Ret.int (by go_light;simp [zaN,orE, *]) (below_drewN hO0.below _)
    have HS:=Lib.hid (show zaN l=zft l by go_light;simp [zaN,orE, *])
    generalize hW1:W.drewN _=W1
    have hO1:Own1 w l.arr W1:=hW1 ▸ hO0.drewN _
    clear hW1 hc hlt hO0
    have hc:=hO1.cell
    have hlt:=hO1.lt
    go_cut [4,5,51] (fun _ _ s wx=>s=.bool (zif (uB l.ty 4) l.turn != 0)∧Own1 w l.arr wx)
    case first=>
      cases hT:uB l.ty 4
      all_goals
        by_cases t1:l.turn=1
        · have b1:(l.turn == 1)=true:=by simp [t1]
          have b2:(l.turn != 0)=true:=by simp [t1]
          have hx:=Lib.hid t1;clear t1
          go_quiet (first | ((go_at_call 185;exact zfm (zcY _ _ _ (by omega)))) | ((go_at_call 186;exact zfm (zcj _ _ _ _ _))))
          go_wp2
          go_meet
          exact ⟨by rw [hT,hx.out];rfl,hO1.drewN _⟩
        · have b1:(l.turn == 1)=false:=by simp [t1]
          have hx:=Lib.hid t1;clear t1
          by_cases t2:l.turn=2
          · have b2:(l.turn == 2)=true:=by simp [t2]
            have b3:(l.turn != 0)=true:=by simp [t2]
            have hy:=Lib.hid t2;clear t2
            go_quiet (first | ((go_at_call 185;exact zfm (zcY _ _ _ (by omega)))) | ((go_at_call 186;exact zfm (zcj _ _ _ _ _))))
            go_wp2
            go_meet
            exact ⟨by rw [hT,hy.out];rfl,hO1.drewN _⟩
          · have b2:(l.turn == 2)=false:=by simp [t2]
            have hy:=Lib.hid t2;clear t2
            by_cases t0:l.turn=0
            · have b3:(l.turn != 0)=false:=by simp [t0]
              have hz:=Lib.hid t0;clear t0
              go_quiet (first | ((go_at_call 185;exact zfm (zcY _ _ _ (by omega)))) | ((go_at_call 186;exact zfm (zcj _ _ _ _ _))))
              go_wp2
              go_meet
              exact ⟨by rw [hT,hz.out];rfl,hO1.drewN _⟩
            · have b3:(l.turn != 0)=true:=by simp [t0]
              have hz:=Lib.hid t0;clear t0
              go_quiet (first | ((go_at_call 185;exact zfm (zcY _ _ _ (by omega)))) | ((go_at_call 186;exact zfm (zcj _ _ _ _ _))))
              go_wp2
              go_meet
              exact ⟨by have hx:=hx.out;have hy:=hy.out;have hz:=hz.out;simp [zif,hT,hx,hy,hz],hO1.drewN _⟩
    case rest=>
      obtain ⟨rfl,hO⟩:=hcut
      clear hO1 hc hlt
      have hc:=hO.cell
      have hlt:=hO.lt
      go_upto_region 12 with (fail)
      · go_ret;exact Ret.int (by rw [HS.out];exact zxa l (by assumption)) hO.below
      have HS2:=Lib.hid (HS.out.trans (zw9 l (by assumption)))
      clear HS
      go_cut [58] (fun s wx=>s=.bool (zoW l)∧wx=wc)
      case first=>
        go_wp2_with (go_at_call 185;refine zae (zcY _ _ _ (by omega)) ?_)
        all_goals (go_meet;exact ⟨by go_light;simp [zoW, *],rfl⟩)
      case rest=>
        obtain ⟨rfl,rfl⟩:=hcut
        go_upto_region 14 with (fail)
        · go_ret;exact Ret.int (by rw [HS2.out];exact zxq l (by assumption)) hO.below
        have HS3:=Lib.hid (HS2.out.trans (zxp l (by assumption)))
        clear HS2
        go_quiet (first | ((go_at_call 185;exact zfm (zcY _ _ _ (by omega)))) | ((go_at_call 186;exact zfm (zcj _ _ _ _ _))))
        go_upto_region 17 with (fail)
        · go_ret;exact Ret.int (by rw [HS3.out];go_light;simp [zmu,orE, *]) (below_drewN hO.below _)
        go_quiet (first | ((go_at_call 185;exact zfl (zcY _ _ _ (by omega)))) | ((go_at_call 186;exact zfl (zcj _ _ _ _ _))))
        go_upto_region 20 with (fail)
        · go_ret;exact Ret.int (by rw [HS3.out];go_light;simp [zmu,orE, *]) (below_drewN hO.below _)
        go_quiet (first | ((go_at_call 185;exact zfl (zcY _ _ _ (by omega)))) | ((go_at_call 186;exact zfl (zcj _ _ _ _ _))))
        go_upto_region 23 with (fail)
        · go_ret;exact Ret.int (by rw [HS3.out];go_light;simp [zmu,orE, *]) (below_drewN hO.below _)
        go_quiet (first | ((go_at_call 185;exact zfl (zcY _ _ _ (by omega)))) | ((go_at_call 186;exact zfl (zcj _ _ _ _ _))))
        go_upto_region 26 with (fail)
        · go_ret;exact Ret.int (by rw [HS3.out];go_light;simp [zmu,orE, *]) (below_drewN hO.below _)
        have HS4:=Lib.hid (show zaN l=zjC l by rw [HS3.out];go_light;simp [zmu,orE, *])
        clear HS3
        go_wp2_with (go_at_call 185;refine zae (zcY _ _ _ (by omega)) ?_)
        all_goals (go_ret;exact Ret.int (by have HS:=HS4.out;clear hO hc hl h1 h2 lF lC lT lo lK lD lR lH la;go_light;grind [zjC]) (below_drewN hO.below _))
  · have hk:zdP l.ty=false:=by simpa using hk
    have he1:(zbj l.ty).isEmpty=true:=by rw [he,hk];rfl
    have hne:zbj l.ty=[]:=by simpa using he1
    go_enter Tryz.func138,Tryz.ntmps138
    go_wp2_with (go_at_call 183;refine zae (ziX _ _) ?_)
    go_ret
    exact Ret.int (by simp [zaN,hk]) (by go_grown)
end Go.Proofs.YtgoeedohgomodaaGreatDoor
namespace Go.Proofs.YtgoeedohgomodaaGreatDoor
open Go.RowKit
set_option maxHeartbeats 2000000 in
set_option maxRecDepth 100000 in
theorem zkR (x:Entry) (w:World) (hx:x.small):Calls Tryz.prog 89 #[x.val] w (Ret w (.int .i64 (zfa x))):=by
  have hO0:=Own1.mk0 w x.arr 69
  go_enter Tryz.func89,Tryz.ntmps89
  go_upto_region 1 with (fail)
  generalize w.alloc _=W at hO0 ⊢
  have hc0:=hO0.cell
  have hlt0:=hO0.lt
  go_wp2_with (first
    | (go_at_call 138;refine ztK (by assumption) (zhq x.leg _ hx.leg) ?_;intro w1 hO1 hc1 hlt1)
    | (go_at_call 139;refine zae (zhR _ _) ?_)
    | (go_at_call 140;refine zae (zpG _ _ hx.via) ?_)
    | (go_at_call 141;refine ztK (by assumption) (zkS _ _ _) ?_;intro w3 hO3 hc3 hlt3))
  all_goals (go_ret;refine Ret.int ?_ (Own1.below (cs:=x.arr) (by first | assumption | exact Own1.drewN (by assumption) _ | exact Own1.alloc (by assumption) _));go_light;first | (simp [zfa,zoh,zjj,orE, *];done) | grind [zfa,zoh,zjj,orE])
end Go.Proofs.YtgoeedohgomodaaGreatDoor
