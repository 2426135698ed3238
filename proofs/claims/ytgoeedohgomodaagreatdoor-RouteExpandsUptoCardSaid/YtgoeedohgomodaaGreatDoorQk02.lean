/- Lemmas and walks. -/
import Derived.Test.YtgoeedohgomodaaGreatDoorQk01
set_option linter.unusedSimpArgs false
set_option linter.unusedVariables false
namespace Go.Proofs.YtgoeedohgomodaaGreatDoor
open Go.RowKit
set_option maxHeartbeats 400000 in
theorem zsb (l:List UInt8) (w:World) (hl:l.length≤4611686018427387904):Calls Tryz.prog 108 #[.string ⟨l.toArray⟩] w (RetP w (.bool (zfh l))):=by
  by_cases h2:l.length=2
  · have hs:=Lib.hid (show zfh l=l.all zeu by simp [zfh,h2])
    have h1:((l.length:Int) != 2)=false:=by simp;omega
    have h3:=Lib.hid h2
    have hlo:2≤l.length:=by omega
    have hhi:l.length≤2:=by omega
    clear h2
    go_enter Tryz.func108,Tryz.ntmps108
    go_wp2
    go_loop [9] (fun i=>∃ k:Nat,k≤l.length∧i=.int .i64 k∧zfh l=(l.drop k).all zeu) (fun i=>l.length - (intOf i).toNat)
    case atStart=>exact ⟨0,by omega,rfl,by rw [hs.out];rfl⟩
    case round=>
      obtain ⟨k,hk,rfl,hq⟩:=hrel
      have HQ:=Lib.hid hq;clear hq
      by_cases hlt:k < l.length
      · have hd:=Lib.hid (ziF zeu l k hlt)
        go_wp2
        all_goals first
          | (go_ret;exact RetP.bool (by rw [HQ.out,hd.out];grind [up,zeu]) rfl)
          | (go_round
             case rel=>exact ⟨k+1,by omega,by go_num,by rw [HQ.out,hd.out];grind [up,zeu]⟩
             case measure=>simp [intOf];omega)
      · go_wp2
        go_ret
        exact RetP.bool (by rw [HQ.out,List.drop_of_length_le (by omega)];rfl) rfl
  · have h1:((l.length:Int) != 2)=true:=by simp;omega
    go_enter Tryz.func108,Tryz.ntmps108
    go_wp2
    go_ret
    exact RetP.bool (by grind [zfh]) rfl
def zex (q:List UInt8 × List UInt8 × Bool):List UInt8 × List UInt8 × Int:=
  if q.2.2 then if zbF q.1 6 && (zbF q.2.1 6 || zfh q.2.1) then (q.1,q.2.1,0) else ([],[],5) else ([],[],4)
def za8 (l:List UInt8):List UInt8 × List UInt8 × Int:=zex (cutAt 47 l)
abbrev zsA (r:List UInt8 × List UInt8 × Int):Value:=.tuple #[.string ⟨r.1.toArray⟩, .string ⟨r.2.1.toArray⟩, .int .i64 r.2.2]
theorem RetQ.tuple3 {w w':World} {r:List UInt8 × List UInt8 × Int} {a b:List UInt8} {n:Int} (h:r=(a,b,n)) (hw:∃ k,w'=w.drewN k):
    RetQ w (zsA r) (.returned (.tuple #[.string ⟨a.toArray⟩, .string ⟨b.toArray⟩, .int .i64 n])) w':=by subst h;exact ⟨rfl,hw⟩
theorem zmD (l:List UInt8) (c:UInt8) (w:World) (hL:Laid w) (hl:l.length≤4000000000):
    Calls Tryz.prog 60 #[.string ⟨l.toArray⟩, .string ⟨#[c]⟩] w fun e w'=>e=.returned (.tuple #[.string ⟨(cutAt c l).1.toArray⟩, .string ⟨(cutAt c l).2.1.toArray⟩, .bool (cutAt c l).2.2])∧∃ n,w'=w.drewN n:=by
  obtain ⟨m,hm⟩:=hL.maxLen
  have h:=Tryz.strings_Cut ⟨l.toArray⟩ ⟨#[c]⟩ m w (by simp [ByteArray.size];omega) hm
  simp only [ztF] at h
  exact h
set_option maxHeartbeats 400000 in
theorem zff (l:List UInt8) (w:World) (hL:Laid w) (hl:l.length≤4000000000):Calls Tryz.prog 62 #[.string ⟨l.toArray⟩] w (RetQ w (zsA (za8 l))):=by
  have hc:=zcF 47 l
  generalize hq:cutAt 47 l=q at hc
  obtain ⟨a,b,f⟩:=q
  have hs:=Lib.hid (show za8 l=zex (a,b,f) by rw [za8,hq])
  have HQ:=Lib.hid hq;clear hq
  simp only at hc
  obtain ⟨ha,hb⟩:=hc
  go_enter Tryz.func62,Tryz.ntmps62
  go_wp2_with fail
  refine (zmD l 47 w hL hl).mono ?_
  rintro e w' ⟨rfl,n,rfl⟩
  rw [HQ.out]
  cases f
  · go_wp2
    go_ret3
    exact RetQ.tuple3 (by rw [hs.out];rfl) ⟨_,rfl⟩
  · go_wp2_with (first
      | (go_at_call 61;refine zae (zdl _ _ _ (by omega)) ?_)
      | (go_at_call 108;refine zae (zsb _ _ (by omega)) ?_))
    all_goals (go_ret3;exact RetQ.tuple3 (by rw [hs.out];grind [zex]) ⟨_,rfl⟩)
end Go.Proofs.YtgoeedohgomodaaGreatDoor
namespace Go.Proofs.YtgoeedohgomodaaGreatDoor
open Go.RowKit
def zgr (q:List UInt8 × List UInt8 × Bool) (most:Int):Bool:=zbF q.1 most && (!q.2.2 || zbF q.2.1 most)
def zcf (l:List UInt8) (c:UInt8) (most:Int):Bool:=zgr (cutAt c l) most
def zf9 (l:List UInt8):Bool:=l.isEmpty || zcf l 47 6
def zuw (l:List UInt8):Bool:=l.isEmpty || zcf l 46 8
def zdS (s:Int):Bool:=decide (1≤s) && decide (s≤5)
def zaV (x y:Int):Bool:=decide (-2000000≤x) && decide (x≤2000000) && decide (-2000000≤y) && decide (y≤2000000)
set_option maxHeartbeats 400000 in
theorem zpN (l:List UInt8) (c:UInt8) (most:Int) (w:World) (hL:Laid w) (hl:l.length≤4000000000):
    Calls Tryz.prog 97 #[.string ⟨l.toArray⟩, .string ⟨#[c]⟩, .int .i64 most] w (RetQ w (.bool (zcf l c most))):=by
  have hc:=zcF c l
  generalize hq:cutAt c l=q at hc
  obtain ⟨a,b,f⟩:=q
  have hs:=Lib.hid (show zcf l c most=zgr (a,b,f) most by rw [zcf,hq])
  have HQ:=Lib.hid hq;clear hq
  simp only at hc
  obtain ⟨ha,hb⟩:=hc
  go_enter Tryz.func97,Tryz.ntmps97
  go_wp2_with fail
  refine (zmD l c w hL hl).mono ?_
  rintro e w' ⟨rfl,n,rfl⟩
  rw [HQ.out]
  cases f
  all_goals
    go_wp2_with (go_at_call 61;refine zae (zdl _ _ _ (by omega)) ?_)
    all_goals (go_ret;exact RetQ.bool (by rw [hs.out];grind [zgr]) ⟨_,rfl⟩)
set_option maxHeartbeats 400000 in
theorem zsE (l:List UInt8) (w:World) (hL:Laid w) (hl:l.length≤4000000000):Calls Tryz.prog 51 #[.string ⟨l.toArray⟩] w (RetQ w (.bool (zf9 l))):=by
  go_enter Tryz.func51,Tryz.ntmps51
  go_wp2_with (go_at_call 97;refine zes (zpN l 47 _ _ hL (by omega)) ?_;intro n1)
  all_goals (go_ret;exact RetQ.bool (by grind [zf9]) (by first | exact ⟨_,rfl⟩ | exact ⟨0,rfl⟩))
set_option maxHeartbeats 400000 in
theorem zrU (l:List UInt8) (w:World) (hL:Laid w) (hl:l.length≤4000000000):Calls Tryz.prog 100 #[.string ⟨l.toArray⟩] w (RetQ w (.bool (zuw l))):=by
  go_enter Tryz.func100,Tryz.ntmps100
  go_wp2_with (go_at_call 97;refine zes (zpN l 46 _ _ hL (by omega)) ?_;intro n1)
  all_goals (go_ret;exact RetQ.bool (by grind [zuw]) (by first | exact ⟨_,rfl⟩ | exact ⟨0,rfl⟩))
theorem ziU (s:Int) (w:World):Calls Tryz.prog 99 #[.int .u8 s] w (RetP w (.bool (zdS s))):=by
  go_enter Tryz.func99,Tryz.ntmps99
  go_wp2
  all_goals (go_ret;exact RetP.bool (by grind [zdS]) rfl)
theorem zmU (x y:Int) (w:World):Calls Tryz.prog 101 #[.agg #[.int .i64 x, .int .i64 y]] w (Ret w (.bool (zaV x y))):=by
  go_enter Tryz.func101,Tryz.ntmps101
  go_wp2
  all_goals (go_ret;exact Ret.bool (by grind [zaV]) (by go_grown))
end Go.Proofs.YtgoeedohgomodaaGreatDoor
namespace Go.Proofs.YtgoeedohgomodaaGreatDoor
open Go.RowKit
structure Leg where
  ty:Int
  fix:List UInt8
  center:List UInt8
  turn:Int
  over:Bool
  course:Int
  dist:Int
  radius:Int
  theta:Int
  lo:Int
  hi:Int
  speed:Int
  rnp:Int
def Leg.arr (l:Leg):Array Value:=#[.int .u8 l.ty, .string ⟨l.fix.toArray⟩, .string ⟨l.center.toArray⟩, .int .u8 l.turn, .bool l.over, .int .i64 l.course, .int .i64 l.dist, .int .i64 l.radius, .int .i64 l.theta, .int .i64 l.lo, .int .i64 l.hi, .int .i64 l.speed, .int .i64 l.rnp]
abbrev Leg.val (l:Leg):Value:=.agg l.arr
theorem Leg.arr_size (l:Leg):l.arr.size=13:=rfl
theorem Leg.arr_one (l:Leg):l.arr.all (·.oneCell')=true:=by simp [Leg.arr,Value.oneCell']
theorem Leg.arr0 (l:Leg):l.arr[0]? = some (.int .u8 l.ty):=rfl
theorem Leg.arr1 (l:Leg):l.arr[1]? = some (.string ⟨l.fix.toArray⟩):=rfl
theorem Leg.arr2 (l:Leg):l.arr[2]? = some (.string ⟨l.center.toArray⟩):=rfl
theorem Leg.arr3 (l:Leg):l.arr[3]? = some (.int .u8 l.turn):=rfl
theorem Leg.arr4 (l:Leg):l.arr[4]? = some (.bool l.over):=rfl
theorem Leg.arr5 (l:Leg):l.arr[5]? = some (.int .i64 l.course):=rfl
theorem Leg.arr6 (l:Leg):l.arr[6]? = some (.int .i64 l.dist):=rfl
theorem Leg.arr7 (l:Leg):l.arr[7]? = some (.int .i64 l.radius):=rfl
theorem Leg.arr8 (l:Leg):l.arr[8]? = some (.int .i64 l.theta):=rfl
theorem Leg.arr9 (l:Leg):l.arr[9]? = some (.int .i64 l.lo):=rfl
theorem Leg.arr10 (l:Leg):l.arr[10]? = some (.int .i64 l.hi):=rfl
theorem Leg.arr11 (l:Leg):l.arr[11]? = some (.int .i64 l.speed):=rfl
theorem Leg.arr12 (l:Leg):l.arr[12]? = some (.int .i64 l.rnp):=rfl
attribute [go_sem] Leg.arr0 Leg.arr1 Leg.arr2 Leg.arr3 Leg.arr4 Leg.arr5 Leg.arr6 Leg.arr7 Leg.arr8 Leg.arr9 Leg.arr10 Leg.arr11 Leg.arr12
structure Entry where
  gap:Bool
  leg:Leg
  ex:Int
  ey:Int
  mx:Int
  my:Int
  sec:Int
  via:List UInt8
def Entry.arr (x:Entry):Array Value:=#[.bool x.gap, .int .u8 x.leg.ty, .string ⟨x.leg.fix.toArray⟩, .string ⟨x.leg.center.toArray⟩, .int .u8 x.leg.turn, .bool x.leg.over, .int .i64 x.leg.course, .int .i64 x.leg.dist, .int .i64 x.leg.radius, .int .i64 x.leg.theta, .int .i64 x.leg.lo, .int .i64 x.leg.hi, .int .i64 x.leg.speed, .int .i64 x.leg.rnp, .int .i64 x.ex, .int .i64 x.ey, .int .i64 x.mx, .int .i64 x.my, .int .u8 x.sec, .string ⟨x.via.toArray⟩]
abbrev Entry.val (x:Entry):Value:=.agg x.arr
theorem Entry.arr_size (x:Entry):x.arr.size=20:=rfl
theorem Entry.arr_one (x:Entry):x.arr.all (·.oneCell')=true:=by simp [Entry.arr,Value.oneCell']
theorem Entry.arr0 (x:Entry):x.arr[0]? = some (.bool x.gap):=rfl
theorem Entry.arr1 (x:Entry):x.arr[1]? = some (.int .u8 x.leg.ty):=rfl
theorem Entry.arr2 (x:Entry):x.arr[2]? = some (.string ⟨x.leg.fix.toArray⟩):=rfl
theorem Entry.arr3 (x:Entry):x.arr[3]? = some (.string ⟨x.leg.center.toArray⟩):=rfl
theorem Entry.arr4 (x:Entry):x.arr[4]? = some (.int .u8 x.leg.turn):=rfl
theorem Entry.arr5 (x:Entry):x.arr[5]? = some (.bool x.leg.over):=rfl
theorem Entry.arr6 (x:Entry):x.arr[6]? = some (.int .i64 x.leg.course):=rfl
theorem Entry.arr7 (x:Entry):x.arr[7]? = some (.int .i64 x.leg.dist):=rfl
theorem Entry.arr8 (x:Entry):x.arr[8]? = some (.int .i64 x.leg.radius):=rfl
theorem Entry.arr9 (x:Entry):x.arr[9]? = some (.int .i64 x.leg.theta):=rfl
theorem Entry.arr10 (x:Entry):x.arr[10]? = some (.int .i64 x.leg.lo):=rfl
theorem Entry.arr11 (x:Entry):x.arr[11]? = some (.int .i64 x.leg.hi):=rfl
theorem Entry.arr12 (x:Entry):x.arr[12]? = some (.int .i64 x.leg.speed):=rfl
theorem Entry.arr13 (x:Entry):x.arr[13]? = some (.int .i64 x.leg.rnp):=rfl
theorem Entry.arr14 (x:Entry):x.arr[14]? = some (.int .i64 x.ex):=rfl
theorem Entry.arr15 (x:Entry):x.arr[15]? = some (.int .i64 x.ey):=rfl
theorem Entry.arr16 (x:Entry):x.arr[16]? = some (.int .i64 x.mx):=rfl
theorem Entry.arr17 (x:Entry):x.arr[17]? = some (.int .i64 x.my):=rfl
theorem Entry.arr18 (x:Entry):x.arr[18]? = some (.int .u8 x.sec):=rfl
theorem Entry.arr19 (x:Entry):x.arr[19]? = some (.string ⟨x.via.toArray⟩):=rfl
attribute [go_sem] Entry.arr0 Entry.arr1 Entry.arr2 Entry.arr3 Entry.arr4 Entry.arr5 Entry.arr6 Entry.arr7 Entry.arr8 Entry.arr9 Entry.arr10 Entry.arr11 Entry.arr12 Entry.arr13 Entry.arr14 Entry.arr15 Entry.arr16 Entry.arr17 Entry.arr18 Entry.arr19
structure Leg.small (l:Leg):Prop where
  fix:l.fix.length≤4000000000
  center:l.center.length≤4000000000
structure Entry.small (x:Entry):Prop where
  leg:x.leg.small
  via:x.via.length≤4000000000
def zdP (t:Int):Bool:=decide (1≤t) && decide (t≤17)
def zcu (t:Int):Bool:=t == 1 || t == 3 || t == 4
def zdq (t:Int):Bool:=(decide (1≤t) && decide (t≤6)) || (decide (14≤t) && decide (t≤17))
def ztu (t:Int):Bool:=decide (11≤t) && decide (t≤17)
def zfM (a b:Int):Bool:=
  zdP a && zdP b && b != 1 && (
    if a≤6 then true else if a=9 then b == 3 else if a=13 then false
    else if 14≤a then b == 2 || b == 3 || b == 4 || (decide (7≤b) && decide (b≤13))
    else b == 3 || b == 4 || (decide (7≤b) && decide (b≤10)))
def Leg.joinsB (a b:Leg):Bool:=zfM a.ty b.ty && (!ztu b.ty || a.fix == b.fix)
end Go.Proofs.YtgoeedohgomodaaGreatDoor
