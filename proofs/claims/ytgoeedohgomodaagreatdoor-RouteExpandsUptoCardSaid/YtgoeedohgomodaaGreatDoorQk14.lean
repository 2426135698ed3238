/- Lemmas and walks. -/
import Derived.Test.YtgoeedohgomodaaGreatDoorQk11
import Derived.Test.YtgoeedohgomodaaGreatDoorQk07
import Derived.Test.YtgoeedohgomodaaGreatDoorQk01
import Derived.Test.YtgoeedohgomodaaGreatDoorQk03
import Derived.Laws.OwnMore
import Derived.Lib.AppendStr
import Derived.Lib.AtoiAll
import Derived.Test.YtgoeedohgomodaaGreatDoorQk09
import Derived.Test.YtgoeedohgomodaaGreatDoorQk13
import Derived.Test.YtgoeedohgomodaaGreatDoorQk08
set_option linter.unusedSimpArgs false
set_option linter.unusedVariables false
namespace Go.Proofs.YtgoeedohgomodaaGreatDoor
open Go.RowKit
def zaI (t:Int) (fix:List UInt8):Leg:=⟨t,fix,[],0,false,0,0,0,0, -200000,6000000,0,0⟩
def zbC (name:List UInt8) (sep:UInt8) (second:List UInt8):List UInt8:=if second.isEmpty then name else name ++ sep :: second
end Go.Proofs.YtgoeedohgomodaaGreatDoor
namespace Go.Proofs.YtgoeedohgomodaaGreatDoor
open Go.RowKit
structure APt where
  ref:List UInt8
  lo:Int
  hi:Int
  dir:Int
structure AwyV where
  name:List UInt8
  pts:List APt
structure PartV where
  kind:Int
  name:List UInt8
  legs:List Leg
structure ProcV where
  airport:List UInt8
  name:List UInt8
  kind:Int
  parts:List PartV
def noPt:APt:=⟨[],0,0,0⟩
def zcg:AwyV:=⟨[],[]⟩
def zbn:PartV:=⟨0,[],[]⟩
def zaA:ProcV:=⟨[],[],0,[]⟩
def zbT (r:List UInt8):List APt→Nat→Int
  | [],_=>-1
  | p :: t,k=>if p.ref == r then (k:Int) else zbT r t (k+1)
def zfn (pts:List APt) (i:Nat) (p:APt):Int:=
  if (za8 p.ref).2.2 ≠ 0 then 5 else if zbT p.ref pts 0 < i then 7 else
  if i+1=pts.length then (if p.lo=-200000∧p.hi=6000000∧p.dir=0 then 0 else 1)
  else if p.lo < -200000∨p.hi < p.lo∨6000000 < p.hi then 2 else if 2 < p.dir then 17 else 0
def zcy (pts:List APt):List APt→Nat→Int
  | [],_=>0
  | p :: t,i=>orE (zfn pts i p) (zcy pts t (i+1))
def zbl (a:AwyV):Int:=
  if !zbF a.name 8 then 5 else if a.pts.length < 2 then 1 else if 40 < a.pts.length then 3 else zcy a.pts a.pts 0
def zdK (pts:List APt) (k:Nat):APt:=pts.getD k noPt
def zgg (pts:List APt):Nat→Nat→List (List UInt8 × Int × Int)→List (List UInt8 × Int × Int) × Int
  | _,0,acc=>(acc,0)
  | i,n+1,acc=>if (zdK pts i).dir=2 then ([],9) else zgg pts (i+1) n (acc ++ [((zdK pts (i+1)).ref,(zdK pts i).lo,(zdK pts i).hi)])
def zgh (pts:List APt):Nat→Nat→List (List UInt8 × Int × Int)→List (List UInt8 × Int × Int) × Int
  | _,0,acc=>(acc,0)
  | i,n+1,acc=>if (zdK pts (i - 1)).dir=1 then ([],9) else zgh pts (i - 1) n (acc ++ [((zdK pts (i - 1)).ref,(zdK pts (i - 1)).lo,(zdK pts (i - 1)).hi)])
def zaG (a:AwyV) (from_ to_:List UInt8):List (List UInt8 × Int × Int) × Int:=
  if zbl a ≠ 0 then ([],zbl a) else
  if zbT from_ a.pts 0 < 0∨zbT to_ a.pts 0 < 0 then ([],6) else
  if zbT from_ a.pts 0=zbT to_ a.pts 0 then ([],1) else
  if zbT from_ a.pts 0 < zbT to_ a.pts 0 then zgg a.pts (zbT from_ a.pts 0).toNat ((zbT to_ a.pts 0).toNat - (zbT from_ a.pts 0).toNat) []
  else zgh a.pts (zbT from_ a.pts 0).toNat ((zbT from_ a.pts 0).toNat - (zbT to_ a.pts 0).toNat) []
def zaU (n:List UInt8):List AwyV→Option AwyV
  | []=>none
  | a :: t=>if a.name == n then some a else zaU n t
def zb7 (k:Int):List Int:=if k=1 then [1,2,3] else if k=2 then [3,2,1] else if k=3 then [3,2,4] else []
def zfr (pk k t:Int):Bool:=((k == 4 || (k == 1 && pk == 1)) && (t == 3 || t == 4 || t == 7 || t == 8 || t == 10)) || t == 1
def zdk (k:Int):List Int→Nat→Int
  | [],_=>-1
  | x :: t,i=>if x == k then (i:Int) else zdk k t (i+1)
def zee (pk k:Int):Int:=zdk k (zb7 pk) 0
def zw0 (a b:List UInt8):Bool:=Op.bytesLess a b
def zqZ (pk:Int) (y x:PartV):Int:=
  if zee pk x.kind < zee pk y.kind∨(zee pk x.kind=zee pk y.kind∧zw0 x.name y.name=true) then 9 else
  if zee pk x.kind=zee pk y.kind∧x.name=y.name then 7 else 0
def zeH (k:Int):Bool:=k == 1 || k == 3
def zhN (x:PartV):Int:=
  if (zeH x.kind && !zbF x.name 8) || (!zeH x.kind && !x.name.isEmpty) then 5 else
  if x.legs.length=0 then 1 else if 24 < x.legs.length then 3 else 0
def zp5 (pk k:Int) (prev:Option Leg) (l:Leg):Bool:=
  match prev with
  | none=>zfr pk k l.ty
  | some p=>p.joinsB l
def zer (pk k:Int):Option Leg→List Leg→Int
  | _,[]=>0
  | prev,l :: r=>if zaN l ≠ 0 then zaN l else if !zp5 pk k prev l then 9 else zer pk k (some l) r
def zg5 (pk:Int) (prev:Option PartV) (x:PartV):Int:=
  if zee pk x.kind < 0 then 17 else
  orE (match prev with | none=>0 | some y=>zqZ pk y x) (orE (zhN x) (zer pk x.kind none x.legs))
def zdO (pk:Int):Option PartV→List PartV→Int
  | _,[]=>0
  | prev,x :: r=>orE (zg5 pk prev x) (zdO pk (some x) r)
def zaY (k:Int) (n:List UInt8):List PartV→Option PartV
  | []=>none
  | x :: t=>if x.kind == k && x.name == n then some x else zaY k n t
def zay (p:ProcV):Int:=
  if !zbF p.airport 6 || !zbF p.name 8 then 5 else if (zb7 p.kind).isEmpty then 17 else if 12 < p.parts.length then 3 else
  orE (zdO p.kind none p.parts) (if p.parts.isEmpty then 6 else if p.kind=3∧(zaY 2 [] p.parts).isNone then 6 else 0)
def zbP (k:Int) (l:List PartV):List (List UInt8):=(l.filter fun x=>x.kind == k).map PartV.name
def zdM (a b:List Leg):Bool:=
  match a.getLast?,b with
  | some last,f :: r=>f.ty == 1 && zdq last.ty && last.fix == f.fix && (match r with | []=>true | g :: _=>last.joinsB g)
  | _,_=>false
def zbo (a b:List Leg):List Leg:=a ++ (if zdM a b then b.drop 1 else b)
def zc8 (p:ProcV) (rway:List UInt8):Option (List Leg):=if (zbP 1 p.parts).isEmpty then some [] else (zaY 1 rway p.parts).map PartV.legs
def zdo (p:ProcV) (trans:List UInt8):Option (List Leg):=if trans.isEmpty then some [] else (zaY 3 trans p.parts).map PartV.legs
def zdy (p:ProcV):List Leg:=((zaY 2 [] p.parts).map PartV.legs).getD []
def zbg (r t c:List Leg) (k:Int):List Leg:=if k=1 then r else if k=3 then t else if k=2 then c else []
def zca (pk:Int) (f:Int→List Leg):List Leg:=(zb7 pk).foldl (fun out k=>zbo out (f k)) []
def zau (p:ProcV) (rway trans:List UInt8):List Leg × Int:=
  if zay p ≠ 0 then ([],zay p) else
  match zc8 p rway with
  | none=>([],6)
  | some r=>
    match zdo p trans with
    | none=>([],6)
    | some t=>if (zca p.kind (zbg r t (zdy p))).isEmpty then ([],6) else (zca p.kind (zbg r t (zdy p)),0)
def zbf (p:ProcV):List Leg:=if zay p ≠ 0 then [] else ((zaY 4 [] p.parts).map PartV.legs).getD []
def zas (a:List UInt8) (k:Int) (n:List UInt8):List ProcV→Option ProcV
  | []=>none
  | p :: t=>if p.airport == a && p.kind == k && p.name == n then some p else zas a k n t
def zgq (a:List UInt8):List FixV→Option FixV
  | []=>none
  | f :: t=>if f.kind == 5 && f.ident == a then some f else zgq a t
def zbi (l:List FixV) (s:List UInt8):List UInt8 × Int:=
  if !zcf s 47 6 then ([],4) else
  if (cutAt 47 s).2.1 ≠ [] then (if (zc7 l ((cutAt 47 s).2.1 ++ 47 :: (cutAt 47 s).1)).isSome then ((cutAt 47 s).2.1 ++ 47 :: (cutAt 47 s).1,0) else ([],6)) else
  match zgq (cutAt 47 s).1 l with
  | none=>([],6)
  | some f=>(f.ref,0)
structure GDB where
  olat:Int
  olon:Int
  fixes:List FixV
  airways:List AwyV
  procs:List ProcV
end Go.Proofs.YtgoeedohgomodaaGreatDoor
namespace Go.Proofs.YtgoeedohgomodaaGreatDoor
open Go.RowKit
structure ItemV where
  kind:Int
  name:List UInt8
  trans:List UInt8
deriving DecidableEq
def noItem:ItemV:=⟨0,[],[]⟩
def zbk (c:UInt8):Int:=if c=68 then 2 else if c=65 then 6 else if c=80 then 7 else 0
def zc5 (s:List UInt8):Option ItemV:=
  if s[1]? = some 61 then
    (if zbk (s.getD 0 0)=0∨zcf (s.drop 2) 46 8=false then none else some ⟨zbk (s.getD 0 0),(cutAt 46 (s.drop 2)).1,(cutAt 46 (s.drop 2)).2.1⟩)
  else if s=[68,67,84] then some ⟨5,[],[]⟩ else if zyx s then some ⟨4,s,[]⟩ else if zbF s 8 then some ⟨3,s,[]⟩ else none
def zd0 (n i:Nat) (s:List UInt8):Option ItemV:=
  if i=0∨i+1=n then (if zcf s 47 6 then some ⟨if i=0 then 1 else 8,(cutAt 47 s).1,(cutAt 47 s).2.1⟩ else none) else zc5 s
def pEq (s:List UInt8):Bool:=s.take 2 == [80,61]
def zs6 (ws:List (List UInt8)) (i:Nat) (x:ItemV) (out:List ItemV):Bool:=
  if x.kind=2 then i != 1 else if x.kind=7 then i+2 != ws.length else
  if x.kind=6 then i+2 != ws.length && (i+3 != ws.length || !pEq (ws.getD (ws.length - 2) [])) else
  if x.kind=5 then (out.getD (i - 1) noItem).kind == 5 else false
def zaC (ws:List (List UInt8)):List (List UInt8)→Nat→List ItemV→(List ItemV × Int) × Int
  | [],_,out=>((out,0),0)
  | w :: r,i,out=>match zd0 ws.length i w with
    | none=>(([],(i:Int)),4)
    | some x=>if zs6 ws i x out then (([],(i:Int)),9) else zaC ws r (i+1) (out ++ [x])
def zag (s:List UInt8):(List ItemV × Int) × Int:=
  if 124 < (zap 32 s).length then (([],124),3) else
  if (zaC (zap 32 s) (zap 32 s) 0 []).2 ≠ 0 then zaC (zap 32 s) (zap 32 s) 0 [] else
  if (zap 32 s).length=1 then (([],1),4) else zaC (zap 32 s) (zap 32 s) 0 []
def ziH (x:ItemV):List UInt8:=
  if x.kind=1∨x.kind=8 then zbC x.name 47 x.trans else if x.kind=2 then 68 :: 61 :: zbC x.name 46 x.trans else
  if x.kind=6 then 65 :: 61 :: zbC x.name 46 x.trans else if x.kind=7 then 80 :: 61 :: zbC x.name 46 x.trans else if x.kind=5 then [68,67,84] else x.name
theorem znA {s:List UInt8} {c:UInt8} {m:Int} (h:zcf s c m=true):zbC (cutAt c s).1 c (cutAt c s).2.1=s:=by
  unfold zbC
  cases hc:(cutAt c s).2.2 with
  | false=>
    obtain ⟨a,b⟩:=zfP c s hc
    rw [b,a];rfl
  | true=>
    have he:=zdx c s hc
    have hn:zbF (cutAt c s).2.1 m=true:=by
      unfold zcf zgr at h
      rw [hc] at h
      simp at h
      exact h.2
    have hne:(cutAt c s).2.1.isEmpty=false:=by
      cases hq:(cutAt c s).2.1 with
      | nil=>rw [hq] at hn;cases hn
      | cons a b=>rfl
    rw [hne]
    exact he.symm
theorem zrb {s:List UInt8} {x:ItemV} (h:zc5 s=some x):ziH x=s:=by
  unfold zc5 at h
  split at h
  · rename_i h1
    split at h
    · cases h
    · rename_i h2
      simp only [not_or] at h2
      have hp:zcf (s.drop 2) 46 8=true:=by simpa using h2.2
      injection h with h
      subst h
      match s,h1 with
      | a :: b :: r,h1=>
        have hb:b=61:=by simpa using h1
        subst hb
        have hw:=znA hp
        simp only [List.drop_succ_cons,List.drop_zero] at hw
        have hk:zbk a ≠ 0:=h2.1
        unfold zbk at hk
        have ha:a=68∨a=65∨a=80:=by
          by_cases h1:a=68
          · exact .inl h1
          · by_cases h2:a=65
            · exact .inr (.inl h2)
            · by_cases h3:a=80
              · exact .inr (.inr h3)
              · simp [h1,h2,h3] at hk
        rcases ha with rfl | rfl | rfl
        · simp [ziH,zbk,hw]
        · simp [ziH,zbk,hw]
        · simp [ziH,zbk,hw]
  · split at h
    · rename_i h1;injection h with h;subst h;rw [h1];rfl
    split at h
    · injection h with h;subst h;rfl
    split at h
    · injection h with h;subst h;rfl
    · cases h
theorem zkL {n i:Nat} {s:List UInt8} {x:ItemV} (h:zd0 n i s=some x):ziH x=s:=by
  unfold zd0 at h
  split at h
  · split at h
    · rename_i h1
      injection h with h
      subst h
      have hw:=znA h1
      unfold ziH
      by_cases h0:i=0 <;> simp [h0,hw]
    · cases h
  · exact zrb h
theorem ze0 (ws:List (List UInt8)):∀ (l:List (List UInt8)) (i:Nat) (out:List ItemV),(zaC ws l i out).2=0→(zaC ws l i out).1.1.map ziH=out.map ziH ++ l
  | [],i,out,_=>by simp [zaC]
  | w :: r,i,out,h=>by
    unfold zaC at h ⊢
    split at h
    · simp at h
    · rename_i x hx
      split at h
      · simp at h
      · rename_i hm
        rw [if_neg hm]
        rw [ze0 ws r (i+1) (out ++ [x]) h,List.map_append,List.append_assoc]
        simp [zkL hx]
theorem zkt {s:List UInt8} (h:(zag s).2=0):(zag s).1.1.length≤124:=by
  unfold zag at h ⊢
  split at h
  · simp at h
  rename_i h1
  rw [if_neg h1]
  split at h
  · rename_i h2;exact absurd h h2
  rename_i h2
  rw [if_neg h2]
  split at h
  · simp at h
  rename_i h3
  rw [if_neg h3]
  have:=congrArg List.length (ze0 _ _ _ _ h)
  simp at this
  omega
end Go.Proofs.YtgoeedohgomodaaGreatDoor
namespace Go.Proofs.YtgoeedohgomodaaGreatDoor
open Go.RowKit
structure zbS where
  pt:List UInt8→(Int × Int) × Int
  place:List UInt8→List UInt8 × Int
  awy:List UInt8→Option AwyV
  proc:List UInt8→Int→List UInt8→Option ProcV
  near:List Entry→List UInt8→List UInt8 × Int
def zcn (R:zbS) (l:List Entry) (legs:List Leg) (s:Int) (via:List UInt8):List Entry × Int:=
  if (zbL R.pt legs s via).2 ≠ 0 then (l,(zbL R.pt legs s via).2) else (zcO (l ++ (zbL R.pt legs s via).1),0)
def zeY (R:zbS) (l:List Entry) (x place:ItemV) (k s:Int):List Entry × Int:=
  match R.proc place.name k x.name with
  | none=>(l,6)
  | some p=>if (zau p place.trans x.trans).2 ≠ 0 then (l,(zau p place.trans x.trans).2) else zcn R l (zau p place.trans x.trans).1 s (zbC x.name 46 x.trans)
def zbJ (n:List UInt8):List APt→Option (List UInt8)
  | []=>none
  | p :: r=>if (cutAt 47 p.ref).1 == n then some p.ref else zbJ n r
def zfW (R:zbS) (a:AwyV) (next:ItemV) (i:Nat):Option (List UInt8) × (Int × Int):=
  if next.kind=4 then (some next.name,(0,0)) else if next.kind=3 then
    (if (R.awy next.name).isSome then (none,((i:Int),9)) else match zbJ next.name a.pts with | none=>(none,((i:Int)+1,6)) | some r=>(some r,(0,0)))
  else (none,((i:Int),9))
def zfb (q:List UInt8 × Int × Int):Leg:={ zaI 2 q.1 with lo:=q.2.1,hi:=q.2.2 }
def zbb (R:zbS) (l:List Entry) (a:AwyV) (next:ItemV) (i:Nat):List Entry × (Int × Int):=
  match zfW R a next i with
  | (none,je)=>(l,je)
  | (some e,_)=>
    match l.getLast? with
    | none=>(l,((i:Int),9))
    | some y=>if !zdq y.leg.ty then (l,((i:Int),9)) else
      if (zaG a y.leg.fix e).2 ≠ 0 then (l,((i:Int)+1,(zaG a y.leg.fix e).2)) else
      ((zcn R l ((zaG a y.leg.fix e).1.map zfb) 2 a.name).1,((i:Int),(zcn R l ((zaG a y.leg.fix e).1.map zfb) 2 a.name).2))
def atI (i:Nat) (r:List Entry × Int):List Entry × (Int × Int):=(r.1,((i:Int),r.2))
def zcM (R:zbS) (l:List Entry) (second:ItemV) (word:List UInt8):List Entry × Int:=
  if (R.place word).2 ≠ 0 then (l,(R.place word).2) else
  if second.kind=2 then zcn R l [zaI 1 (R.place word).1] 1 (zbC second.name 46 second.trans) else zcn R l [zaI 1 (R.place word).1] 2 []
def zfV (R:zbS) (l:List Entry) (x next:ItemV) (i:Nat):List Entry × (Int × Int):=
  match R.awy x.name with
  | some a=>((zbb R l a next i).1,(if (zbb R l a next i).2.2=0 then (i:Int)+1 else (zbb R l a next i).2.1,(zbb R l a next i).2.2))
  | none=>atI i (if (R.near l x.name).2 ≠ 0 then (l,(R.near l x.name).2) else zcn R l [zaI 2 (R.near l x.name).1] 2 [])
def zdH (R:zbS) (l:List Entry) (x before:ItemV) (word:List UInt8) (i:Nat):List Entry × (Int × Int):=
  if (R.place word).2 ≠ 0 then (l,((i:Int),(R.place word).2)) else
  if (zcn R l [zaI 2 (R.place word).1] (l.getLast?.getD gapE).sec []).2 ≠ 0 then (l,((i:Int),(zcn R l [zaI 2 (R.place word).1] (l.getLast?.getD gapE).sec []).2)) else
  if before.kind=7 then
    (if (zcn R (zcn R l [zaI 2 (R.place word).1] (l.getLast?.getD gapE).sec []).1 (zbf ((R.proc x.name 3 before.name).getD zaA)) 5 (zbC before.name 46 before.trans)).2 ≠ 0
     then (l,((i:Int) - 1,(zcn R (zcn R l [zaI 2 (R.place word).1] (l.getLast?.getD gapE).sec []).1 (zbf ((R.proc x.name 3 before.name).getD zaA)) 5 (zbC before.name 46 before.trans)).2))
     else ((zcn R (zcn R l [zaI 2 (R.place word).1] (l.getLast?.getD gapE).sec []).1 (zbf ((R.proc x.name 3 before.name).getD zaA)) 5 (zbC before.name 46 before.trans)).1,((i:Int),0)))
  else ((zcn R l [zaI 2 (R.place word).1] (l.getLast?.getD gapE).sec []).1,((i:Int),0))
def zah (R:zbS) (items:List ItemV) (word:List UInt8) (i:Nat) (l:List Entry):List Entry × (Int × Int):=
  if (items.getD i noItem).kind=1 then atI i (zcM R l (items.getD 1 noItem) word) else
  if (items.getD i noItem).kind=2 then atI i (zeY R l (items.getD i noItem) (items.getD 0 noItem) 1 1) else
  if (items.getD i noItem).kind=4 then atI i (zcn R l [zaI 2 (items.getD i noItem).name] 2 []) else
  if (items.getD i noItem).kind=3 then zfV R l (items.getD i noItem) (items.getD (i+1) noItem) i else
  if (items.getD i noItem).kind=6 then atI i (zeY R l (items.getD i noItem) (items.getD (items.length - 1) noItem) 2 3) else
  if (items.getD i noItem).kind=7 then atI i (zeY R l (items.getD i noItem) (items.getD (items.length - 1) noItem) 3 4) else
  if (items.getD i noItem).kind=8 then zdH R l (items.getD i noItem) (items.getD (i - 1) noItem) word i else (l,((i:Int),0))
def za2 (R:zbS) (items:List ItemV) (words:List (List UInt8)):Nat→Nat→List Entry→List Entry × (Int × Int)
  | 0,_,l=>(l,(0,0))
  | n+1,i,l=>if i < items.length then
      (if (zah R items (words.getD i []) i l).2.2 ≠ 0 then zah R items (words.getD i []) i l
       else za2 R items words n ((zah R items (words.getD i []) i l).2.1.toNat+1) (zah R items (words.getD i []) i l).1)
    else (l,(0,0))
def zbR (R:zbS) (s:List UInt8):(Plan × Int) × Int:=
  if (zag s).2 ≠ 0 then ((plan0,(zag s).1.2),(zag s).2) else
  if (za2 R (zag s).1.1 (zap 32 s) (zag s).1.1.length 0 []).2.2 ≠ 0 then ((plan0,(za2 R (zag s).1.1 (zap 32 s) (zag s).1.1.length 0 []).2.1),(za2 R (zag s).1.1 (zap 32 s) (zag s).1.1.length 0 []).2.2) else
  if zaq ⟨(zap 32 s).headD [],(zap 32 s).getLastD [],(za2 R (zag s).1.1 (zap 32 s) (zag s).1.1.length 0 []).1, -1⟩ ≠ 0 then
    ((plan0,((zap 32 s).length:Int)),zaq ⟨(zap 32 s).headD [],(zap 32 s).getLastD [],(za2 R (zag s).1.1 (zap 32 s) (zag s).1.1.length 0 []).1, -1⟩)
  else ((⟨(zap 32 s).headD [],(zap 32 s).getLastD [],(za2 R (zag s).1.1 (zap 32 s) (zag s).1.1.length 0 []).1, -1⟩,0),0)
end Go.Proofs.YtgoeedohgomodaaGreatDoor
namespace Go.Proofs.YtgoeedohgomodaaGreatDoor
open Go.RowKit
def zhI (ws:List (List UInt8)) (xs:List ItemV):Prop:=
  xs.length=ws.length∧∀ i (h:i < ws.length) (h':i < xs.length),zd0 ws.length i ws[i]=some xs[i]∧zs6 ws i xs[i] (xs.take i)=false
theorem zlc (ws:List (List UInt8)):∀ (l:List (List UInt8)) (i:Nat) (out:List ItemV),(zaC ws l i out).2=0 →
    ∃ xs:List ItemV,(zaC ws l i out).1=(out ++ xs,0)∧xs.length=l.length∧∀ j (h:j < l.length) (h':j < xs.length),zd0 ws.length (i+j) l[j]=some xs[j]∧zs6 ws (i+j) xs[j] (out ++ xs.take j)=false
  | [],i,out,_=>⟨[],by simp [zaC],rfl,fun j h=>by simp at h⟩
  | w :: r,i,out,h=>by
    unfold zaC at h ⊢
    split at h
    · simp at h
    · rename_i x hx
      split at h
      · simp at h
      · rename_i hm
        rw [if_neg hm]
        obtain ⟨xs,e1,e2,e3⟩:=zlc ws r (i+1) (out ++ [x]) h
        refine ⟨x :: xs,by rw [e1];simp,by simp [e2],fun j hj hj'=>?_⟩
        match j,hj,hj' with
        | 0,_,_=>exact ⟨by simpa using hx,by simpa using hm⟩
        | j+1,hj,hj'=>
          have:=e3 j (by simpa using hj) (by simpa using hj')
          rw [show i+1+j=i+(j+1) by omega] at this
          refine ⟨by simpa using this.1,?_⟩
          have h2:=this.2
          simp only [List.append_assoc,List.singleton_append] at h2
          simpa using h2
theorem zg6 {s:List UInt8} (h:(zag s).2=0):zhI (zap 32 s) (zag s).1.1∧(zap 32 s).length≤124∧(zap 32 s).length ≠ 1∧zap 32 s=(zag s).1.1.map ziH:=by
  unfold zag at h ⊢
  split at h
  · simp at h
  rename_i h1
  rw [if_neg h1]
  split at h
  · rename_i h2;exact absurd h h2
  rename_i h2
  rw [if_neg h2]
  split at h
  · simp at h
  rename_i h3
  rw [if_neg h3]
  obtain ⟨xs,e1,e2,e3⟩:=zlc _ _ 0 [] h
  refine ⟨⟨?_,?_⟩,by omega,h3,?_⟩
  · rw [e1];simpa using e2
  · intro i hi hi'
    have hx:(zaC (zap 32 s) (zap 32 s) 0 []).1.1=xs:=by rw [e1];simp
    have:=e3 i hi (by rw [e2];exact hi)
    simp only [Nat.zero_add,List.nil_append] at this
    simp only [hx]
    exact this
  · have:=ze0 _ _ _ _ h
    simpa using this.symm
end Go.Proofs.YtgoeedohgomodaaGreatDoor
namespace Go.Proofs.YtgoeedohgomodaaGreatDoor
open Go.RowKit
theorem zw4 (i:Nat) (r:List Entry × Int):(atI i r).1=r.1:=rfl
theorem zu9 (R:zbS) (l:List Entry) (x y:ItemV) (i:Nat) (h:(zfV R l x y i).2.2=0):(zfV R l x y i).2.1=(i:Int)∨(zfV R l x y i).2.1=(i:Int)+1:=by
  unfold zfV at h ⊢
  cases hq:R.awy x.name with
  | none=>exact .inl rfl
  | some a=>
    rw [hq] at h
    dsimp only at h ⊢
    rw [if_pos h]
    exact .inr rfl
theorem zvw (R:zbS) (l:List Entry) (x y:ItemV) (w:List UInt8) (i:Nat) (h:(zdH R l x y w i).2.2=0):(zdH R l x y w i).2.1=(i:Int):=by
  unfold zdH at h ⊢
  split
  · rfl
  · rename_i h1
    rw [if_neg h1] at h
    split
    · rfl
    · rename_i h2
      rw [if_neg h2] at h
      split
      · rename_i h3
        rw [if_pos h3] at h
        split
        · rename_i h4
          rw [if_pos h4] at h
          exact absurd h h4
        · rfl
      · rfl
theorem zww (R:zbS) (items:List ItemV) (w:List UInt8) (i:Nat) (l:List Entry) (h:(zah R items w i l).2.2=0):
    (zah R items w i l).2.1=(i:Int)∨((items.getD i noItem).kind=3∧(zah R items w i l).2.1=(i:Int)+1):=by
  unfold zah at h ⊢
  split
  · exact .inl rfl
  · rename_i h1;rw [if_neg h1] at h
    split
    · exact .inl rfl
    · rename_i h2;rw [if_neg h2] at h
      split
      · exact .inl rfl
      · rename_i h4;rw [if_neg h4] at h
        split
        · rename_i h3
          rw [if_pos h3] at h
          rcases zu9 R l _ _ i h with e | e
          · exact .inl e
          · exact .inr ⟨h3,e⟩
        · rename_i h3;rw [if_neg h3] at h
          split
          · exact .inl rfl
          · rename_i h6;rw [if_neg h6] at h
            split
            · exact .inl rfl
            · rename_i h7;rw [if_neg h7] at h
              split
              · rename_i h8
                rw [if_pos h8] at h
                exact .inl (zvw R l _ _ w i h)
              · exact .inl rfl
end Go.Proofs.YtgoeedohgomodaaGreatDoor
namespace Go.Proofs.YtgoeedohgomodaaGreatDoor
open Go.RowKit
theorem zdn {R:zbS} {s:List UInt8} (h:(zbR R s).2=0):(zag s).2=0:=by
  unfold zbR at h
  split at h
  · exact h
  · rename_i h1
    exact Classical.byContradiction fun e=>h1 e
theorem zlf {R:zbS} {s:List UInt8} (h:(zbR R s).2=0):(za2 R (zag s).1.1 (zap 32 s) (zag s).1.1.length 0 []).2.2=0:=by
  have h1:=zdn h
  unfold zbR at h
  rw [if_neg (not_not_intro h1)] at h
  split at h
  · exact h
  · rename_i h2
    exact Classical.byContradiction fun e=>h2 e
theorem zmz {R:zbS} {s:List UInt8} (h:(zbR R s).2=0):zaq ⟨(zap 32 s).headD [],(zap 32 s).getLastD [],(za2 R (zag s).1.1 (zap 32 s) (zag s).1.1.length 0 []).1, -1⟩=0:=by
  have h1:=zdn h
  have h2:=zlf h
  unfold zbR at h
  rw [if_neg (not_not_intro h1),if_neg (not_not_intro h2)] at h
  split at h
  · exact h
  · rename_i h3
    exact Classical.byContradiction fun e=>h3 e
theorem znY {R:zbS} {s:List UInt8} (h:(zbR R s).2=0):zbR R s=((⟨(zap 32 s).headD [],(zap 32 s).getLastD [],(za2 R (zag s).1.1 (zap 32 s) (zag s).1.1.length 0 []).1, -1⟩,0),0):=by
  unfold zbR
  rw [if_neg (not_not_intro (zdn h)),if_neg (not_not_intro (zlf h)),if_neg (not_not_intro (zmz h))]
theorem zmx {α:Type _} (l:List α) (d:α):l.headD d=(l[0]?).getD d:=by cases l <;> rfl
theorem zgw {α:Type _} (l:List α) (d:α):l.getLastD d=(l[l.length - 1]?).getD d:=by
  rw [List.getLastD_eq_getLast?,List.getLast?_eq_getElem?]
end Go.Proofs.YtgoeedohgomodaaGreatDoor
namespace Go.Proofs.YtgoeedohgomodaaGreatDoor
open Go.RowKit
inductive ChainR:List Entry→Prop
  | nil:ChainR []
  | first (x:Entry):x.gap=false→zcu x.leg.ty=true→ChainR [x]
  | join (p:List Entry) (y x:Entry):ChainR p→p.getLast? = some y→x.gap=false→y.leg.joinsB x.leg=true→y.leg.dupB x.leg=false→ChainR (p ++ [x])
  | gap (p:List Entry) (x:Entry):ChainR p→p ≠ []→x.gap=false→zcu x.leg.ty=true→ChainR (p ++ [gapE,x])
theorem ztj {a b:Leg} (h:a.joinsB b=true):(b.ty == 1)=false:=by
  simp only [Leg.joinsB,zfM,Bool.and_eq_true] at h
  simpa [bne] using h.1.1.2
theorem zpF {a b:Leg} (h:a.joinsB b=true):(a.arrivedB b && zfg b.ty)=a.dupB b:=by
  have:=ztj h
  simp [zfg,Leg.dupB,tdB,this,Bool.and_comm]
def zgb (st:List Entry × Bool) (x:Entry):List Entry × Bool:=joinStep st.1 st.2 x
theorem zcD:∀ (r:List Entry) (out:List Entry) (pb:Bool),zdG out pb r=(r.foldl zgb (out,pb)).1
  | [],_,_=>rfl
  | x :: r,out,pb=>by rw [zdG,zcD r];rfl
theorem zwJ {p:List Entry} (h:p ≠ []):∃ y,p.getLast? = some y:=⟨_,List.getLast?_eq_some_getLast h⟩
theorem zf1 {x:Entry} (h:zcu x.leg.ty=true):zbq x=(x,true):=by simp [zbq,h]
theorem ChainR.fold {m:List Entry} (h:ChainR m):m.foldl zgb ([],false)=(m,false):=by
  induction h with
  | nil=>rfl
  | first x hg hs=>simp [zgb,joinStep,hg,zbU,zf1 hs]
  | join p y x hp hy hg hj hd ih=>
    rw [List.foldl_append,ih]
    simp only [List.foldl_cons,List.foldl_nil,zgb,joinStep,hg,hy,zpF hj,hd,hj]
    rfl
  | gap p x hp hne hg hs ih=>
    obtain ⟨y,hy⟩:=zwJ hne
    rw [List.foldl_append,ih]
    simp only [List.foldl_cons,List.foldl_nil,zgb]
    have h1:joinStep p false gapE=(p,true):=rfl
    rw [h1]
    simp only [joinStep,hg,hy,zbU,zf1 hs]
    simp [hne]
theorem ChainR.again {m:List Entry} (h:ChainR m):zcO m=m:=by rw [zcO,zcD,h.fold]
theorem zkN {x:Entry} (h:(zbq x).2=true):(zbq x).1.gap=x.gap∧zcu (zbq x).1.leg.ty=true:=by
  unfold zbq at h ⊢
  split
  · rename_i h1;exact ⟨rfl,h1⟩
  · rename_i h1
    split
    · exact ⟨rfl,rfl⟩
    · rename_i h2;simp [h1,h2] at h
theorem ChainR.new {out:List Entry} (h:ChainR out) (pb:Bool) (x:Entry) (hg:x.gap=false):ChainR (zbU out pb x).1:=by
  unfold zbU
  split
  · rename_i hs
    obtain ⟨h1,h2⟩:=zkN hs
    rw [hg] at h1
    by_cases ho:out=[]
    · subst ho;exact .first _ h1 h2
    · have he:out.isEmpty=false:=by simpa using ho
      simp only [he,Bool.false_eq_true,if_false,List.append_assoc]
      exact .gap _ _ h ho h1 h2
  · exact h
theorem ChainR.step {out:List Entry} (h:ChainR out) (pb:Bool) (x:Entry):ChainR (joinStep out pb x).1:=by
  unfold joinStep
  split
  · exact h
  · rename_i hg
    have hg:x.gap=false:=by simpa using hg
    split
    · exact h.new pb x hg
    · rename_i y hy
      split
      · exact h.new pb x hg
      · split
        · exact h
        · rename_i hs
          split
          · rename_i hj
            have hs:(y.leg.arrivedB x.leg && zfg x.leg.ty)=false:=by simpa using hs
            exact .join _ _ _ h hy hg hj (by rw [← zpF hj];exact hs)
          · exact h.new pb x hg
theorem zh7:∀ (r out:List Entry) (pb:Bool),ChainR out→ChainR (zdG out pb r)
  | [],_,_,h=>h
  | x :: r,out,pb,h=>zh7 r _ _ (h.step pb x)
theorem zjG (l:List Entry):ChainR (zcO l):=zh7 l [] false .nil
theorem zpb (l:List Entry):zcO (zcO l)=zcO l:=(zjG l).again
theorem zsM {a b:Int} (h:orE a b=0):a=0∧b=0:=by grind [orE]
def zn3 (x y:Entry):Bool:=!x.gap && (x.eqB y || (y.leg.ty == 1 && decide (x.leg.fix=y.leg.fix) && (decide (x.ex=y.ex) && decide (x.ey=y.ey))))
inductive Emb:List Entry→List Entry→Prop
  | nil (l:List Entry):Emb l []
  | gap (l m:List Entry) (y:Entry):y.gap=true→Emb l m→Emb l (y :: m)
  | skip (l m:List Entry) (x:Entry):Emb l m→Emb (x :: l) m
  | take (l m:List Entry) (x y:Entry):zn3 x y=true→y.gap=false→Emb l m→Emb (x :: l) (y :: m)
theorem Emb.more {l m:List Entry} (h:Emb l m) (k n:List Entry) (h2:Emb k n):Emb (l ++ k) (m ++ n):=by
  induction h with
  | nil l=>induction l with
    | nil=>exact h2
    | cons x l ih=>exact .skip _ _ _ ih
  | gap l m y hy _ ih=>exact .gap _ _ _ hy ih
  | skip l m x _ ih=>exact .skip _ _ _ ih
  | take l m x y hc hy _ ih=>exact .take _ _ _ _ hc hy ih
theorem zlL {x:Entry} (hg:x.gap=false) (h:(zbq x).2=true):zn3 x (zbq x).1=true:=by
  unfold zbq at h ⊢
  split
  · simp [zn3,hg,(Entry.eqB_iff x x).2 rfl]
  · rename_i h1
    split
    · simp [zn3,hg,zco]
    · rename_i h2;simp [h1,h2] at h
theorem zo2 (out:List Entry) (pb:Bool) (x:Entry) (hg:x.gap=false):∃ n,(zbU out pb x).1=out ++ n∧Emb [x] n:=by
  unfold zbU
  split
  · rename_i hs
    have hc:=zlL hg hs
    have h1:=(zkN hs).1
    rw [hg] at h1
    cases ho:out.isEmpty
    · exact ⟨[gapE,(zbq x).1],by simp, .gap _ _ _ rfl (.take _ _ _ _ hc h1 (.nil _))⟩
    · exact ⟨[(zbq x).1],by simp, .take _ _ _ _ hc h1 (.nil _)⟩
  · exact ⟨[],by simp, .nil _⟩
theorem zpE (out:List Entry) (pb:Bool) (x:Entry):∃ n,(joinStep out pb x).1=out ++ n∧Emb [x] n:=by
  unfold joinStep
  split
  · exact ⟨[],by simp, .nil _⟩
  · rename_i hg
    have hg:x.gap=false:=by simpa using hg
    split
    · exact zo2 out pb x hg
    · split
      · exact zo2 out pb x hg
      · split
        · exact ⟨[],by simp, .nil _⟩
        · split
          · exact ⟨[x],rfl, .take _ _ _ _ (by simp [zn3,hg,(Entry.eqB_iff x x).2 rfl]) hg (.nil _)⟩
          · exact zo2 out pb x hg
theorem zlb:∀ (r out:List Entry) (pb:Bool),∃ n,zdG out pb r=out ++ n∧Emb r n
  | [],out,_=>⟨[],by simp [zdG], .nil _⟩
  | x :: r,out,pb=>by
    obtain ⟨n1,h1,e1⟩:=zpE out pb x
    obtain ⟨n2,h2,e2⟩:=zlb r (joinStep out pb x).1 (joinStep out pb x).2
    exact ⟨n1 ++ n2,by rw [zdG,h2,h1,List.append_assoc],e1.more _ _ e2⟩
theorem zuB (out:List Entry) (pb:Bool) (x:Entry):(joinStep out pb x).1.length≤out.length+2:=by
  obtain ⟨n,h,e⟩:=zpE out pb x
  unfold joinStep zbU
  split
  · simp
  · split
    · split
      · split <;> simp
      · simp
    · split
      · split
        · split <;> simp
        · simp
      · split
        · simp
        · split
          · simp
          · split
            · split <;> simp
            · simp
theorem zhy:∀ (r out:List Entry) (pb:Bool),(zdG out pb r).length≤out.length+2 * r.length
  | [],_,_=>by simp [zdG]
  | x :: r,out,pb=>by
    have h1:=zuB out pb x
    have h2:=zhy r (joinStep out pb x).1 (joinStep out pb x).2
    rw [zdG,List.length_cons];omega
theorem ztk (l:List Entry):(zcO l).length≤2 * l.length:=by simpa [zcO] using zhy l [] false
end Go.Proofs.YtgoeedohgomodaaGreatDoor
namespace Go.Proofs.YtgoeedohgomodaaGreatDoor
open Go.RowKit
theorem zvc {l:List Entry} (h:ChainR l) (rest:List Entry):∃ n,zcO (l ++ rest)=l ++ n:=by
  rw [zcO,zcD,List.foldl_append,h.fold,← zcD]
  obtain ⟨n,e,_⟩:=zlb rest l false
  exact ⟨n,e⟩
def Grown (l m:List Entry):Prop:=ChainR m∧∃ n,m=l ++ n
theorem Grown.self {l:List Entry} (h:ChainR l):Grown l l:=⟨h,[],by simp⟩
theorem Grown.trans {l m q:List Entry} (h:Grown l m) (h2:Grown m q):Grown l q:=by
  obtain ⟨_,n,rfl⟩:=h
  obtain ⟨c,k,rfl⟩:=h2
  exact ⟨c,n ++ k,by simp⟩
theorem zdf {R:zbS} {l:List Entry} (h:ChainR l) (legs:List Leg) (s:Int) (via:List UInt8):Grown l (zcn R l legs s via).1:=by
  unfold zcn
  split
  · exact .self h
  · exact ⟨zjG _,zvc h _⟩
theorem zgv {R:zbS} {l:List Entry} (h:ChainR l) (x y:ItemV) (k s:Int):Grown l (zeY R l x y k s).1:=by
  unfold zeY
  cases R.proc y.name k x.name with
  | none=>exact .self h
  | some p=>
    dsimp only
    split
    · exact .self h
    · exact zdf h _ _ _
theorem zof {R:zbS} {l:List Entry} (h:ChainR l) (a:AwyV) (x:ItemV) (i:Nat):Grown l (zbb R l a x i).1:=by
  unfold zbb
  rcases zfW R a x i with ⟨_ | e,je⟩
  · exact .self h
  · dsimp only
    cases l.getLast? with
    | none=>exact .self h
    | some y=>
      dsimp only
      split
      · exact .self h
      · split
        · exact .self h
        · exact zdf h _ _ _
theorem zl4 {R:zbS} {l:List Entry} (h:ChainR l) (x:ItemV) (w:List UInt8):Grown l (zcM R l x w).1:=by
  unfold zcM
  split
  · exact .self h
  · split <;> exact zdf h _ _ _
theorem zo3 {R:zbS} {l:List Entry} (h:ChainR l) (x y:ItemV) (i:Nat):Grown l (zfV R l x y i).1:=by
  unfold zfV
  cases R.awy x.name with
  | none=>
    dsimp only [atI]
    split
    · exact .self h
    · exact zdf h _ _ _
  | some a=>exact zof h a y i
theorem zpj {R:zbS} {l:List Entry} (h:ChainR l) (x y:ItemV) (w:List UInt8) (i:Nat):Grown l (zdH R l x y w i).1:=by
  unfold zdH
  split
  · exact .self h
  · split
    · exact .self h
    · have g:=zdf (R:=R) h [zaI 2 (R.place w).1] (l.getLast?.getD gapE).sec []
      split
      · split
        · exact .self h
        · exact g.trans (zdf g.1 _ _ _)
      · exact g
theorem zkM {R:zbS} {l:List Entry} (h:ChainR l) (items:List ItemV) (w:List UInt8) (i:Nat):Grown l (zah R items w i l).1:=by
  unfold zah
  split
  · exact zl4 h _ _
  · split
    · exact zgv h _ _ _ _
    · split
      · exact zdf h _ _ _
      · split
        · exact zo3 h _ _ _
        · split
          · exact zgv h _ _ _ _
          · split
            · exact zgv h _ _ _ _
            · split
              · exact zpj h _ _ _ _
              · exact .self h
theorem go_grown (R:zbS) (items:List ItemV) (ws:List (List UInt8)):∀ (f i:Nat) (l:List Entry),ChainR l→Grown l (za2 R items ws f i l).1
  | 0,i,l,h=>.self h
  | f+1,i,l,h=>by
    have g:=zkM (R:=R) h items (ws.getD i []) i
    unfold za2
    split
    · split
      · exact g
      · exact g.trans (go_grown R items ws f _ _ g.1)
    · exact .self h
end Go.Proofs.YtgoeedohgomodaaGreatDoor
namespace Go.Proofs.YtgoeedohgomodaaGreatDoor
open Go.RowKit
theorem zpz {R:zbS} {l:List Entry} {a:AwyV} {y:ItemV} {i:Nat} (h:(zbb R l a y i).2.2=0):y.kind=4∨y.kind=3:=by
  by_cases h4:y.kind=4
  · exact .inl h4
  · by_cases h3:y.kind=3
    · exact .inr h3
    · unfold zbb zfW at h
      rw [if_neg h4,if_neg h3] at h
      exact absurd (show (9:Int)=0 from h) (by decide)
theorem zs4 {R:zbS} {l:List Entry} {x y:ItemV} {i:Nat} (h:(zfV R l x y i).2.2=0):(zfV R l x y i).2.1=(i:Int)∨y.kind=4∨y.kind=3:=by
  unfold zfV at h ⊢
  cases hq:R.awy x.name with
  | none=>exact .inl rfl
  | some a=>
    rw [hq] at h
    exact .inr (zpz h)
theorem zr0 (R:zbS) (items:List ItemV) (w:List UInt8) (i:Nat) (l:List Entry) (h:(zah R items w i l).2.2=0):
    (zah R items w i l).2.1=(i:Int)∨((zah R items w i l).2.1=(i:Int)+1∧((items.getD (i+1) noItem).kind=4∨(items.getD (i+1) noItem).kind=3)):=by
  rcases zww R items w i l h with e | ⟨k3,e⟩
  · exact .inl e
  · right
    refine ⟨e,?_⟩
    unfold zah at h e
    rw [if_neg (by rw [k3];decide),if_neg (by rw [k3];decide),if_neg (by rw [k3];decide),if_pos k3] at h e
    rcases zs4 h with q | q
    · omega
    · exact q
theorem zt3 {pt:List UInt8→(Int × Int) × Int} {l:Leg} {s:Int} {via:List UInt8} (h:(zbL pt [l] s via).2=0):(zbL pt [l] s via).1=[zgA pt s via l]:=by
  unfold zbL at h ⊢
  split at h
  · exact absurd h (by decide)
  · rename_i h1
    rw [if_neg h1]
    split at h
    · exact absurd h (by decide)
    · rename_i h2
      rw [if_neg h2]
      split at h
      · rename_i h3
        rw [if_pos h3];rfl
      · rename_i h3
        exact absurd h h3
theorem zly {R:zbS} {r:List UInt8} {s:Int} {via:List UInt8} (h:(zcn R [] [zaI 1 r] s via).2=0):(zcn R [] [zaI 1 r] s via).1=[zgA R.pt s via (zaI 1 r)]:=by
  unfold zcn at h ⊢
  split at h
  · rename_i hb;exact absurd h hb
  · rename_i hb
    rw [if_neg hb,zt3 (Classical.byContradiction hb)]
    rfl
theorem zl5 {R:zbS} {x:ItemV} {w:List UInt8} (h:(zcM R [] x w).2=0):(R.place w).2=0∧∃ s via,(zcM R [] x w).1=[zgA R.pt s via (zaI 1 (R.place w).1)]:=by
  unfold zcM at h ⊢
  split at h
  · rename_i h1;exact absurd h h1
  · rename_i h1
    rw [if_neg h1]
    refine ⟨Classical.byContradiction h1,?_⟩
    split at h
    · rename_i h2
      rw [if_pos h2]
      exact ⟨_,_,zly h⟩
    · rename_i h2
      rw [if_neg h2]
      exact ⟨_,_,zly h⟩
theorem zpW {ws:List (List UInt8)} {l:List ItemV} (h:zhI ws l) (hl:0 < l.length):(l.getD 0 noItem).kind=1:=by
  have hw:0 < ws.length:=h.1 ▸ hl
  have a:=(h.2 0 hw hl).1
  rw [List.getD_eq_getElem?_getD,List.getElem?_eq_getElem hl]
  unfold zd0 at a
  rw [if_pos (Or.inl rfl)] at a
  split at a
  · injection a with a
    show l[0].kind=1
    rw [← a]
    rfl
  · exact absurd a (by simp)
theorem zqL {R:zbS} {s:List UInt8} (h:(zbR R s).2 ≠ 0):(zbR R s).1.1=plan0:=by
  unfold zbR at h ⊢
  split
  · rfl
  · rename_i h1
    rw [if_neg h1] at h
    split
    · rfl
    · rename_i h2
      rw [if_neg h2] at h
      split
      · rfl
      · rename_i h3
        rw [if_neg h3] at h
        exact absurd rfl h
end Go.Proofs.YtgoeedohgomodaaGreatDoor
