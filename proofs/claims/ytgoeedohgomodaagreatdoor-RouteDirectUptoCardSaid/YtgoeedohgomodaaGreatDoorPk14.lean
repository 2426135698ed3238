/- Lemmas and walks. -/
import Derived.Test.YtgoeedohgomodaaGreatDoorPk11
import Derived.Test.YtgoeedohgomodaaGreatDoorPk07
import Derived.Test.YtgoeedohgomodaaGreatDoorPk01
import Derived.Test.YtgoeedohgomodaaGreatDoorPk03
import Derived.Laws.OwnMore
import Derived.Lib.AppendStr
import Derived.Lib.AtoiAll
import Derived.Test.YtgoeedohgomodaaGreatDoorPk09
import Derived.Test.YtgoeedohgomodaaGreatDoorPk13
import Derived.Test.YtgoeedohgomodaaGreatDoorPk08
set_option linter.unusedSimpArgs false
set_option linter.unusedVariables false
namespace Go.Proofs.YtgoeedohgomodaaGreatDoor
open Go.RowKit
def toLeg (t : Int) (fix : List UInt8) : Leg := ⟨t, fix, [], 0, false, 0, 0, 0, 0, -200000, 6000000, 0, 0⟩
def withB (name : List UInt8) (sep : UInt8) (second : List UInt8) : List UInt8 := if second.isEmpty then name else name ++ sep :: second
end Go.Proofs.YtgoeedohgomodaaGreatDoor
namespace Go.Proofs.YtgoeedohgomodaaGreatDoor
open Go.RowKit
structure APt where
  ref : List UInt8
  lo : Int
  hi : Int
  dir : Int
structure AwyV where
  name : List UInt8
  pts : List APt
structure PartV where
  kind : Int
  name : List UInt8
  legs : List Leg
structure ProcV where
  airport : List UInt8
  name : List UInt8
  kind : Int
  parts : List PartV
def noPt : APt := ⟨[], 0, 0, 0⟩
def noAwy : AwyV := ⟨[], []⟩
def noPart : PartV := ⟨0, [], []⟩
def noProc : ProcV := ⟨[], [], 0, []⟩
def idxA (r : List UInt8) : List APt → Nat → Int
  | [], _ => -1
  | p :: t, k => if p.ref == r then (k : Int) else idxA r t (k + 1)
def ptCheck (pts : List APt) (i : Nat) (p : APt) : Int :=
  if (splitRef p.ref).2.2 ≠ 0 then 5 else if idxA p.ref pts 0 < i then 7 else
  if i + 1 = pts.length then (if p.lo = -200000 ∧ p.hi = 6000000 ∧ p.dir = 0 then 0 else 1)
  else if p.lo < -200000 ∨ p.hi < p.lo ∨ 6000000 < p.hi then 2 else if 2 < p.dir then 17 else 0
def ptsCheck (pts : List APt) : List APt → Nat → Int
  | [], _ => 0
  | p :: t, i => orE (ptCheck pts i p) (ptsCheck pts t (i + 1))
def awyCheck (a : AwyV) : Int :=
  if !nameB a.name 8 then 5 else if a.pts.length < 2 then 1 else if 40 < a.pts.length then 3 else ptsCheck a.pts a.pts 0
def ptAt (pts : List APt) (k : Nat) : APt := pts.getD k noPt
def wayUp (pts : List APt) : Nat → Nat → List (List UInt8 × Int × Int) → List (List UInt8 × Int × Int) × Int
  | _, 0, acc => (acc, 0)
  | i, n + 1, acc => if (ptAt pts i).dir = 2 then ([], 9) else wayUp pts (i + 1) n (acc ++ [((ptAt pts (i + 1)).ref, (ptAt pts i).lo, (ptAt pts i).hi)])
def wayDn (pts : List APt) : Nat → Nat → List (List UInt8 × Int × Int) → List (List UInt8 × Int × Int) × Int
  | _, 0, acc => (acc, 0)
  | i, n + 1, acc => if (ptAt pts (i - 1)).dir = 1 then ([], 9) else wayDn pts (i - 1) n (acc ++ [((ptAt pts (i - 1)).ref, (ptAt pts (i - 1)).lo, (ptAt pts (i - 1)).hi)])
def awyExpand (a : AwyV) (from_ to_ : List UInt8) : List (List UInt8 × Int × Int) × Int :=
  if awyCheck a ≠ 0 then ([], awyCheck a) else
  if idxA from_ a.pts 0 < 0 ∨ idxA to_ a.pts 0 < 0 then ([], 6) else
  if idxA from_ a.pts 0 = idxA to_ a.pts 0 then ([], 1) else
  if idxA from_ a.pts 0 < idxA to_ a.pts 0 then wayUp a.pts (idxA from_ a.pts 0).toNat ((idxA to_ a.pts 0).toNat - (idxA from_ a.pts 0).toNat) []
  else wayDn a.pts (idxA from_ a.pts 0).toNat ((idxA from_ a.pts 0).toNat - (idxA to_ a.pts 0).toNat) []
def awyFind (n : List UInt8) : List AwyV → Option AwyV
  | [] => none
  | a :: t => if a.name == n then some a else awyFind n t
def orderK (k : Int) : List Int := if k = 1 then [1, 2, 3] else if k = 2 then [3, 2, 1] else if k = 3 then [3, 2, 4] else []
def opensK (pk k t : Int) : Bool := ((k == 4 || (k == 1 && pk == 1)) && (t == 3 || t == 4 || t == 7 || t == 8 || t == 10)) || t == 1
def rankI (k : Int) : List Int → Nat → Int
  | [], _ => -1
  | x :: t, i => if x == k then (i : Int) else rankI k t (i + 1)
def rankP (pk k : Int) : Int := rankI k (orderK pk) 0
def bltB (a b : List UInt8) : Bool := Op.bytesLess a b
def pairE (pk : Int) (y x : PartV) : Int :=
  if rankP pk x.kind < rankP pk y.kind ∨ (rankP pk x.kind = rankP pk y.kind ∧ bltB x.name y.name = true) then 9 else
  if rankP pk x.kind = rankP pk y.kind ∧ x.name = y.name then 7 else 0
def namedK (k : Int) : Bool := k == 1 || k == 3
def shapeE (x : PartV) : Int :=
  if (namedK x.kind && !nameB x.name 8) || (!namedK x.kind && !x.name.isEmpty) then 5 else
  if x.legs.length = 0 then 1 else if 24 < x.legs.length then 3 else 0
def firstL (pk k : Int) (prev : Option Leg) (l : Leg) : Bool :=
  match prev with
  | none => opensK pk k l.ty
  | some p => p.joinsB l
def legsE (pk k : Int) : Option Leg → List Leg → Int
  | _, [] => 0
  | prev, l :: r => if legCheck l ≠ 0 then legCheck l else if !firstL pk k prev l then 9 else legsE pk k (some l) r
def partE (pk : Int) (prev : Option PartV) (x : PartV) : Int :=
  if rankP pk x.kind < 0 then 17 else
  orE (match prev with | none => 0 | some y => pairE pk y x) (orE (shapeE x) (legsE pk x.kind none x.legs))
def partsE (pk : Int) : Option PartV → List PartV → Int
  | _, [] => 0
  | prev, x :: r => orE (partE pk prev x) (partsE pk (some x) r)
def partV (k : Int) (n : List UInt8) : List PartV → Option PartV
  | [] => none
  | x :: t => if x.kind == k && x.name == n then some x else partV k n t
def procCheck (p : ProcV) : Int :=
  if !nameB p.airport 6 || !nameB p.name 8 then 5 else if (orderK p.kind).isEmpty then 17 else if 12 < p.parts.length then 3 else
  orE (partsE p.kind none p.parts) (if p.parts.isEmpty then 6 else if p.kind = 3 ∧ (partV 2 [] p.parts).isNone then 6 else 0)
def partNames (k : Int) (l : List PartV) : List (List UInt8) := (l.filter fun x => x.kind == k).map PartV.name
def sharesB (a b : List Leg) : Bool :=
  match a.getLast?, b with
  | some last, f :: r => f.ty == 1 && endsB last.ty && last.fix == f.fix && (match r with | [] => true | g :: _ => last.joinsB g)
  | _, _ => false
def jointG (a b : List Leg) : List Leg := a ++ (if sharesB a b then b.drop 1 else b)
def chooseR (p : ProcV) (rway : List UInt8) : Option (List Leg) := if (partNames 1 p.parts).isEmpty then some [] else (partV 1 rway p.parts).map PartV.legs
def chooseT (p : ProcV) (trans : List UInt8) : Option (List Leg) := if trans.isEmpty then some [] else (partV 3 trans p.parts).map PartV.legs
def chooseC (p : ProcV) : List Leg := ((partV 2 [] p.parts).map PartV.legs).getD []
def chosenK (r t c : List Leg) (k : Int) : List Leg := if k = 1 then r else if k = 3 then t else if k = 2 then c else []
def expandLegs (pk : Int) (f : Int → List Leg) : List Leg := (orderK pk).foldl (fun out k => jointG out (f k)) []
def procExpand (p : ProcV) (rway trans : List UInt8) : List Leg × Int :=
  if procCheck p ≠ 0 then ([], procCheck p) else
  match chooseR p rway with
  | none => ([], 6)
  | some r =>
    match chooseT p trans with
    | none => ([], 6)
    | some t => if (expandLegs p.kind (chosenK r t (chooseC p))).isEmpty then ([], 6) else (expandLegs p.kind (chosenK r t (chooseC p)), 0)
def missedG (p : ProcV) : List Leg := if procCheck p ≠ 0 then [] else ((partV 4 [] p.parts).map PartV.legs).getD []
def procFind (a : List UInt8) (k : Int) (n : List UInt8) : List ProcV → Option ProcV
  | [] => none
  | p :: t => if p.airport == a && p.kind == k && p.name == n then some p else procFind a k n t
def portV (a : List UInt8) : List FixV → Option FixV
  | [] => none
  | f :: t => if f.kind == 5 && f.ident == a then some f else portV a t
def placeG (l : List FixV) (s : List UInt8) : List UInt8 × Int :=
  if !pairB s 47 6 then ([], 4) else
  if (cutAt 47 s).2.1 ≠ [] then (if (findV l ((cutAt 47 s).2.1 ++ 47 :: (cutAt 47 s).1)).isSome then ((cutAt 47 s).2.1 ++ 47 :: (cutAt 47 s).1, 0) else ([], 6)) else
  match portV (cutAt 47 s).1 l with
  | none => ([], 6)
  | some f => (f.ref, 0)
structure GDB where
  olat : Int
  olon : Int
  fixes : List FixV
  airways : List AwyV
  procs : List ProcV
end Go.Proofs.YtgoeedohgomodaaGreatDoor
namespace Go.Proofs.YtgoeedohgomodaaGreatDoor
open Go.RowKit
structure ItemV where
  kind : Int
  name : List UInt8
  trans : List UInt8
deriving DecidableEq
def noItem : ItemV := ⟨0, [], []⟩
def letterK (c : UInt8) : Int := if c = 68 then 2 else if c = 65 then 6 else if c = 80 then 7 else 0
def itemS (s : List UInt8) : Option ItemV :=
  if s[1]? = some 61 then
    (if letterK (s.getD 0 0) = 0 ∨ pairB (s.drop 2) 46 8 = false then none else some ⟨letterK (s.getD 0 0), (cutAt 46 (s.drop 2)).1, (cutAt 46 (s.drop 2)).2.1⟩)
  else if s = [68, 67, 84] then some ⟨5, [], []⟩ else if refB s then some ⟨4, s, []⟩ else if nameB s 8 then some ⟨3, s, []⟩ else none
def wordI (n i : Nat) (s : List UInt8) : Option ItemV :=
  if i = 0 ∨ i + 1 = n then (if pairB s 47 6 then some ⟨if i = 0 then 1 else 8, (cutAt 47 s).1, (cutAt 47 s).2.1⟩ else none) else itemS s
def pEq (s : List UInt8) : Bool := s.take 2 == [80, 61]
def misB (ws : List (List UInt8)) (i : Nat) (x : ItemV) (out : List ItemV) : Bool :=
  if x.kind = 2 then i != 1 else if x.kind = 7 then i + 2 != ws.length else
  if x.kind = 6 then i + 2 != ws.length && (i + 3 != ws.length || !pEq (ws.getD (ws.length - 2) [])) else
  if x.kind = 5 then (out.getD (i - 1) noItem).kind == 5 else false
def itemsGo (ws : List (List UInt8)) : List (List UInt8) → Nat → List ItemV → (List ItemV × Int) × Int
  | [], _, out => ((out, 0), 0)
  | w :: r, i, out => match wordI ws.length i w with
    | none => (([], (i : Int)), 4)
    | some x => if misB ws i x out then (([], (i : Int)), 9) else itemsGo ws r (i + 1) (out ++ [x])
def routeParse (s : List UInt8) : (List ItemV × Int) × Int :=
  if 124 < (splitC 32 s).length then (([], 124), 3) else
  if (itemsGo (splitC 32 s) (splitC 32 s) 0 []).2 ≠ 0 then itemsGo (splitC 32 s) (splitC 32 s) 0 [] else
  if (splitC 32 s).length = 1 then (([], 1), 4) else itemsGo (splitC 32 s) (splitC 32 s) 0 []
def wordT (x : ItemV) : List UInt8 :=
  if x.kind = 1 ∨ x.kind = 8 then withB x.name 47 x.trans else if x.kind = 2 then 68 :: 61 :: withB x.name 46 x.trans else
  if x.kind = 6 then 65 :: 61 :: withB x.name 46 x.trans else if x.kind = 7 then 80 :: 61 :: withB x.name 46 x.trans else if x.kind = 5 then [68, 67, 84] else x.name
theorem pair_with {s : List UInt8} {c : UInt8} {m : Int} (h : pairB s c m = true) : withB (cutAt c s).1 c (cutAt c s).2.1 = s := by
  unfold withB
  cases hc : (cutAt c s).2.2 with
  | false =>
    obtain ⟨a, b⟩ := cutAt_miss c s hc
    rw [b, a]; rfl
  | true =>
    have he := cutAt_parts c s hc
    have hn : nameB (cutAt c s).2.1 m = true := by
      unfold pairB pair3 at h
      rw [hc] at h
      simp at h
      exact h.2
    have hne : (cutAt c s).2.1.isEmpty = false := by
      cases hq : (cutAt c s).2.1 with
      | nil => rw [hq] at hn; cases hn
      | cons a b => rfl
    rw [hne]
    exact he.symm
theorem itemS_word {s : List UInt8} {x : ItemV} (h : itemS s = some x) : wordT x = s := by
  unfold itemS at h
  split at h
  · rename_i h1
    split at h
    · cases h
    · rename_i h2
      simp only [not_or] at h2
      have hp : pairB (s.drop 2) 46 8 = true := by simpa using h2.2
      injection h with h
      subst h
      match s, h1 with
      | a :: b :: r, h1 =>
        have hb : b = 61 := by simpa using h1
        subst hb
        have hw := pair_with hp
        simp only [List.drop_succ_cons, List.drop_zero] at hw
        have hk : letterK a ≠ 0 := h2.1
        unfold letterK at hk
        have ha : a = 68 ∨ a = 65 ∨ a = 80 := by
          by_cases h1 : a = 68
          · exact .inl h1
          · by_cases h2 : a = 65
            · exact .inr (.inl h2)
            · by_cases h3 : a = 80
              · exact .inr (.inr h3)
              · simp [h1, h2, h3] at hk
        rcases ha with rfl | rfl | rfl
        · simp [wordT, letterK, hw]
        · simp [wordT, letterK, hw]
        · simp [wordT, letterK, hw]
  · split at h
    · rename_i h1; injection h with h; subst h; rw [h1]; rfl
    split at h
    · injection h with h; subst h; rfl
    split at h
    · injection h with h; subst h; rfl
    · cases h
theorem wordI_word {n i : Nat} {s : List UInt8} {x : ItemV} (h : wordI n i s = some x) : wordT x = s := by
  unfold wordI at h
  split at h
  · split at h
    · rename_i h1
      injection h with h
      subst h
      have hw := pair_with h1
      unfold wordT
      by_cases h0 : i = 0 <;> simp [h0, hw]
    · cases h
  · exact itemS_word h
theorem itemsGo_words (ws : List (List UInt8)) : ∀ (l : List (List UInt8)) (i : Nat) (out : List ItemV), (itemsGo ws l i out).2 = 0 → (itemsGo ws l i out).1.1.map wordT = out.map wordT ++ l
  | [], i, out, _ => by simp [itemsGo]
  | w :: r, i, out, h => by
    unfold itemsGo at h ⊢
    split at h
    · simp at h
    · rename_i x hx
      split at h
      · simp at h
      · rename_i hm
        rw [if_neg hm]
        rw [itemsGo_words ws r (i + 1) (out ++ [x]) h, List.map_append, List.append_assoc]
        simp [wordI_word hx]
theorem join_splitC (c : UInt8) : ∀ l : List UInt8, Lib.join (splitC c l) [c] = l
  | [] => by simp [splitC, Lib.join]
  | x :: r => by
    have ih := join_splitC c r
    have hn := splitC_ne c r
    unfold splitC
    split
    · rename_i hx
      subst hx
      cases hq : splitC x r with
      | nil => exact absurd hq hn
      | cons a q => rw [hq] at ih; simp only [Lib.join, List.nil_append]; rw [← ih]; rfl
    · cases hq : splitC c r with
      | nil => exact absurd hq hn
      | cons a q =>
        rw [hq] at ih
        cases q with
        | nil => simp [Lib.join] at ih ⊢; exact ih
        | cons b t => simp [Lib.join] at ih ⊢; exact ih
theorem routeParse_len {s : List UInt8} (h : (routeParse s).2 = 0) : (routeParse s).1.1.length ≤ 124 := by
  unfold routeParse at h ⊢
  split at h
  · simp at h
  rename_i h1
  rw [if_neg h1]
  split at h
  · rename_i h2; exact absurd h h2
  rename_i h2
  rw [if_neg h2]
  split at h
  · simp at h
  rename_i h3
  rw [if_neg h3]
  have := congrArg List.length (itemsGo_words _ _ _ _ h)
  simp at this
  omega
end Go.Proofs.YtgoeedohgomodaaGreatDoor
namespace Go.Proofs.YtgoeedohgomodaaGreatDoor
open Go.RowKit
structure RLook where
  pt : List UInt8 → (Int × Int) × Int
  place : List UInt8 → List UInt8 × Int
  awy : List UInt8 → Option AwyV
  proc : List UInt8 → Int → List UInt8 → Option ProcV
  near : List Entry → List UInt8 → List UInt8 × Int
def addS (R : RLook) (l : List Entry) (legs : List Leg) (s : Int) (via : List UInt8) : List Entry × Int :=
  if (bindS R.pt legs s via).2 ≠ 0 then (l, (bindS R.pt legs s via).2) else (joinE (l ++ (bindS R.pt legs s via).1), 0)
def loadS (R : RLook) (l : List Entry) (x place : ItemV) (k s : Int) : List Entry × Int :=
  match R.proc place.name k x.name with
  | none => (l, 6)
  | some p => if (procExpand p place.trans x.trans).2 ≠ 0 then (l, (procExpand p place.trans x.trans).2) else addS R l (procExpand p place.trans x.trans).1 s (withB x.name 46 x.trans)
def ptNamed (n : List UInt8) : List APt → Option (List UInt8)
  | [] => none
  | p :: r => if (cutAt 47 p.ref).1 == n then some p.ref else ptNamed n r
def endA (R : RLook) (a : AwyV) (next : ItemV) (i : Nat) : Option (List UInt8) × (Int × Int) :=
  if next.kind = 4 then (some next.name, (0, 0)) else if next.kind = 3 then
    (if (R.awy next.name).isSome then (none, ((i : Int), 9)) else match ptNamed next.name a.pts with | none => (none, ((i : Int) + 1, 6)) | some r => (some r, (0, 0)))
  else (none, ((i : Int), 9))
def ptLeg (q : List UInt8 × Int × Int) : Leg := { toLeg 2 q.1 with lo := q.2.1, hi := q.2.2 }
def alongS (R : RLook) (l : List Entry) (a : AwyV) (next : ItemV) (i : Nat) : List Entry × (Int × Int) :=
  match endA R a next i with
  | (none, je) => (l, je)
  | (some e, _) =>
    match l.getLast? with
    | none => (l, ((i : Int), 9))
    | some y => if !endsB y.leg.ty then (l, ((i : Int), 9)) else
      if (awyExpand a y.leg.fix e).2 ≠ 0 then (l, ((i : Int) + 1, (awyExpand a y.leg.fix e).2)) else
      ((addS R l ((awyExpand a y.leg.fix e).1.map ptLeg) 2 a.name).1, ((i : Int), (addS R l ((awyExpand a y.leg.fix e).1.map ptLeg) 2 a.name).2))
def atI (i : Nat) (r : List Entry × Int) : List Entry × (Int × Int) := (r.1, ((i : Int), r.2))
def originS (R : RLook) (l : List Entry) (second : ItemV) (word : List UInt8) : List Entry × Int :=
  if (R.place word).2 ≠ 0 then (l, (R.place word).2) else
  if second.kind = 2 then addS R l [toLeg 1 (R.place word).1] 1 (withB second.name 46 second.trans) else addS R l [toLeg 1 (R.place word).1] 2 []
def nameS (R : RLook) (l : List Entry) (x next : ItemV) (i : Nat) : List Entry × (Int × Int) :=
  match R.awy x.name with
  | some a => ((alongS R l a next i).1, (if (alongS R l a next i).2.2 = 0 then (i : Int) + 1 else (alongS R l a next i).2.1, (alongS R l a next i).2.2))
  | none => atI i (if (R.near l x.name).2 ≠ 0 then (l, (R.near l x.name).2) else addS R l [toLeg 2 (R.near l x.name).1] 2 [])
def destS (R : RLook) (l : List Entry) (x before : ItemV) (word : List UInt8) (i : Nat) : List Entry × (Int × Int) :=
  if (R.place word).2 ≠ 0 then (l, ((i : Int), (R.place word).2)) else
  if (addS R l [toLeg 2 (R.place word).1] (l.getLast?.getD gapE).sec []).2 ≠ 0 then (l, ((i : Int), (addS R l [toLeg 2 (R.place word).1] (l.getLast?.getD gapE).sec []).2)) else
  if before.kind = 7 then
    (if (addS R (addS R l [toLeg 2 (R.place word).1] (l.getLast?.getD gapE).sec []).1 (missedG ((R.proc x.name 3 before.name).getD noProc)) 5 (withB before.name 46 before.trans)).2 ≠ 0
     then (l, ((i : Int) - 1, (addS R (addS R l [toLeg 2 (R.place word).1] (l.getLast?.getD gapE).sec []).1 (missedG ((R.proc x.name 3 before.name).getD noProc)) 5 (withB before.name 46 before.trans)).2))
     else ((addS R (addS R l [toLeg 2 (R.place word).1] (l.getLast?.getD gapE).sec []).1 (missedG ((R.proc x.name 3 before.name).getD noProc)) 5 (withB before.name 46 before.trans)).1, ((i : Int), 0)))
  else ((addS R l [toLeg 2 (R.place word).1] (l.getLast?.getD gapE).sec []).1, ((i : Int), 0))
def itemStep (R : RLook) (items : List ItemV) (word : List UInt8) (i : Nat) (l : List Entry) : List Entry × (Int × Int) :=
  if (items.getD i noItem).kind = 1 then atI i (originS R l (items.getD 1 noItem) word) else
  if (items.getD i noItem).kind = 2 then atI i (loadS R l (items.getD i noItem) (items.getD 0 noItem) 1 1) else
  if (items.getD i noItem).kind = 4 then atI i (addS R l [toLeg 2 (items.getD i noItem).name] 2 []) else
  if (items.getD i noItem).kind = 3 then nameS R l (items.getD i noItem) (items.getD (i + 1) noItem) i else
  if (items.getD i noItem).kind = 6 then atI i (loadS R l (items.getD i noItem) (items.getD (items.length - 1) noItem) 2 3) else
  if (items.getD i noItem).kind = 7 then atI i (loadS R l (items.getD i noItem) (items.getD (items.length - 1) noItem) 3 4) else
  if (items.getD i noItem).kind = 8 then destS R l (items.getD i noItem) (items.getD (i - 1) noItem) word i else (l, ((i : Int), 0))
def routeGo (R : RLook) (items : List ItemV) (words : List (List UInt8)) : Nat → Nat → List Entry → List Entry × (Int × Int)
  | 0, _, l => (l, (0, 0))
  | n + 1, i, l => if i < items.length then
      (if (itemStep R items (words.getD i []) i l).2.2 ≠ 0 then itemStep R items (words.getD i []) i l
       else routeGo R items words n ((itemStep R items (words.getD i []) i l).2.1.toNat + 1) (itemStep R items (words.getD i []) i l).1)
    else (l, (0, 0))
def expandS (R : RLook) (s : List UInt8) : (Plan × Int) × Int :=
  if (routeParse s).2 ≠ 0 then ((plan0, (routeParse s).1.2), (routeParse s).2) else
  if (routeGo R (routeParse s).1.1 (splitC 32 s) (routeParse s).1.1.length 0 []).2.2 ≠ 0 then ((plan0, (routeGo R (routeParse s).1.1 (splitC 32 s) (routeParse s).1.1.length 0 []).2.1), (routeGo R (routeParse s).1.1 (splitC 32 s) (routeParse s).1.1.length 0 []).2.2) else
  if planCheck ⟨(splitC 32 s).headD [], (splitC 32 s).getLastD [], (routeGo R (routeParse s).1.1 (splitC 32 s) (routeParse s).1.1.length 0 []).1, -1⟩ ≠ 0 then
    ((plan0, ((splitC 32 s).length : Int)), planCheck ⟨(splitC 32 s).headD [], (splitC 32 s).getLastD [], (routeGo R (routeParse s).1.1 (splitC 32 s) (routeParse s).1.1.length 0 []).1, -1⟩)
  else ((⟨(splitC 32 s).headD [], (splitC 32 s).getLastD [], (routeGo R (routeParse s).1.1 (splitC 32 s) (routeParse s).1.1.length 0 []).1, -1⟩, 0), 0)
end Go.Proofs.YtgoeedohgomodaaGreatDoor
namespace Go.Proofs.YtgoeedohgomodaaGreatDoor
open Go.RowKit
def ItemsOk (ws : List (List UInt8)) (xs : List ItemV) : Prop :=
  xs.length = ws.length ∧ ∀ i (h : i < ws.length) (h' : i < xs.length), wordI ws.length i ws[i] = some xs[i] ∧ misB ws i xs[i] (xs.take i) = false
theorem itemsGo_ok (ws : List (List UInt8)) : ∀ (l : List (List UInt8)) (i : Nat) (out : List ItemV), (itemsGo ws l i out).2 = 0 →
    ∃ xs : List ItemV, (itemsGo ws l i out).1 = (out ++ xs, 0) ∧ xs.length = l.length ∧ ∀ j (h : j < l.length) (h' : j < xs.length), wordI ws.length (i + j) l[j] = some xs[j] ∧ misB ws (i + j) xs[j] (out ++ xs.take j) = false
  | [], i, out, _ => ⟨[], by simp [itemsGo], rfl, fun j h => by simp at h⟩
  | w :: r, i, out, h => by
    unfold itemsGo at h ⊢
    split at h
    · simp at h
    · rename_i x hx
      split at h
      · simp at h
      · rename_i hm
        rw [if_neg hm]
        obtain ⟨xs, e1, e2, e3⟩ := itemsGo_ok ws r (i + 1) (out ++ [x]) h
        refine ⟨x :: xs, by rw [e1]; simp, by simp [e2], fun j hj hj' => ?_⟩
        match j, hj, hj' with
        | 0, _, _ => exact ⟨by simpa using hx, by simpa using hm⟩
        | j + 1, hj, hj' =>
          have := e3 j (by simpa using hj) (by simpa using hj')
          rw [show i + 1 + j = i + (j + 1) by omega] at this
          refine ⟨by simpa using this.1, ?_⟩
          have h2 := this.2
          simp only [List.append_assoc, List.singleton_append] at h2
          simpa using h2
theorem parse_ok {s : List UInt8} (h : (routeParse s).2 = 0) : ItemsOk (splitC 32 s) (routeParse s).1.1 ∧ (splitC 32 s).length ≤ 124 ∧ (splitC 32 s).length ≠ 1 ∧ splitC 32 s = (routeParse s).1.1.map wordT := by
  unfold routeParse at h ⊢
  split at h
  · simp at h
  rename_i h1
  rw [if_neg h1]
  split at h
  · rename_i h2; exact absurd h h2
  rename_i h2
  rw [if_neg h2]
  split at h
  · simp at h
  rename_i h3
  rw [if_neg h3]
  obtain ⟨xs, e1, e2, e3⟩ := itemsGo_ok _ _ 0 [] h
  refine ⟨⟨?_, ?_⟩, by omega, h3, ?_⟩
  · rw [e1]; simpa using e2
  · intro i hi hi'
    have hx : (itemsGo (splitC 32 s) (splitC 32 s) 0 []).1.1 = xs := by rw [e1]; simp
    have := e3 i hi (by rw [e2]; exact hi)
    simp only [Nat.zero_add, List.nil_append] at this
    simp only [hx]
    exact this
  · have := itemsGo_words _ _ _ _ h
    simpa using this.symm
end Go.Proofs.YtgoeedohgomodaaGreatDoor
namespace Go.Proofs.YtgoeedohgomodaaGreatDoor
open Go.RowKit
theorem atI_fst (i : Nat) (r : List Entry × Int) : (atI i r).1 = r.1 := rfl
theorem nameS_at (R : RLook) (l : List Entry) (x y : ItemV) (i : Nat) (h : (nameS R l x y i).2.2 = 0) : (nameS R l x y i).2.1 = (i : Int) ∨ (nameS R l x y i).2.1 = (i : Int) + 1 := by
  unfold nameS at h ⊢
  cases hq : R.awy x.name with
  | none => exact .inl rfl
  | some a =>
    rw [hq] at h
    dsimp only at h ⊢
    rw [if_pos h]
    exact .inr rfl
theorem destS_at (R : RLook) (l : List Entry) (x y : ItemV) (w : List UInt8) (i : Nat) (h : (destS R l x y w i).2.2 = 0) : (destS R l x y w i).2.1 = (i : Int) := by
  unfold destS at h ⊢
  split
  · rfl
  · rename_i h1
    rw [if_neg h1] at h
    split
    · rfl
    · rename_i h2
      rw [if_neg h2] at h
      split
      · rename_i h3
        rw [if_pos h3] at h
        split
        · rename_i h4
          rw [if_pos h4] at h
          exact absurd h h4
        · rfl
      · rfl
theorem step_at (R : RLook) (items : List ItemV) (w : List UInt8) (i : Nat) (l : List Entry) (h : (itemStep R items w i l).2.2 = 0) :
    (itemStep R items w i l).2.1 = (i : Int) ∨ ((items.getD i noItem).kind = 3 ∧ (itemStep R items w i l).2.1 = (i : Int) + 1) := by
  unfold itemStep at h ⊢
  split
  · exact .inl rfl
  · rename_i h1; rw [if_neg h1] at h
    split
    · exact .inl rfl
    · rename_i h2; rw [if_neg h2] at h
      split
      · exact .inl rfl
      · rename_i h4; rw [if_neg h4] at h
        split
        · rename_i h3
          rw [if_pos h3] at h
          rcases nameS_at R l _ _ i h with e | e
          · exact .inl e
          · exact .inr ⟨h3, e⟩
        · rename_i h3; rw [if_neg h3] at h
          split
          · exact .inl rfl
          · rename_i h6; rw [if_neg h6] at h
            split
            · exact .inl rfl
            · rename_i h7; rw [if_neg h7] at h
              split
              · rename_i h8
                rw [if_pos h8] at h
                exact .inl (destS_at R l _ _ w i h)
              · exact .inl rfl
end Go.Proofs.YtgoeedohgomodaaGreatDoor
namespace Go.Proofs.YtgoeedohgomodaaGreatDoor
open Go.RowKit
theorem expandS_parse {R : RLook} {s : List UInt8} (h : (expandS R s).2 = 0) : (routeParse s).2 = 0 := by
  unfold expandS at h
  split at h
  · exact h
  · rename_i h1
    exact Classical.byContradiction fun e => h1 e
theorem expandS_go {R : RLook} {s : List UInt8} (h : (expandS R s).2 = 0) : (routeGo R (routeParse s).1.1 (splitC 32 s) (routeParse s).1.1.length 0 []).2.2 = 0 := by
  have h1 := expandS_parse h
  unfold expandS at h
  rw [if_neg (not_not_intro h1)] at h
  split at h
  · exact h
  · rename_i h2
    exact Classical.byContradiction fun e => h2 e
theorem expandS_check {R : RLook} {s : List UInt8} (h : (expandS R s).2 = 0) : planCheck ⟨(splitC 32 s).headD [], (splitC 32 s).getLastD [], (routeGo R (routeParse s).1.1 (splitC 32 s) (routeParse s).1.1.length 0 []).1, -1⟩ = 0 := by
  have h1 := expandS_parse h
  have h2 := expandS_go h
  unfold expandS at h
  rw [if_neg (not_not_intro h1), if_neg (not_not_intro h2)] at h
  split at h
  · exact h
  · rename_i h3
    exact Classical.byContradiction fun e => h3 e
theorem expandS_plan {R : RLook} {s : List UInt8} (h : (expandS R s).2 = 0) : expandS R s = ((⟨(splitC 32 s).headD [], (splitC 32 s).getLastD [], (routeGo R (routeParse s).1.1 (splitC 32 s) (routeParse s).1.1.length 0 []).1, -1⟩, 0), 0) := by
  unfold expandS
  rw [if_neg (not_not_intro (expandS_parse h)), if_neg (not_not_intro (expandS_go h)), if_neg (not_not_intro (expandS_check h))]
theorem headD_at {α : Type _} (l : List α) (d : α) : l.headD d = (l[0]?).getD d := by cases l <;> rfl
theorem getLastD_at {α : Type _} (l : List α) (d : α) : l.getLastD d = (l[l.length - 1]?).getD d := by
  rw [List.getLastD_eq_getLast?, List.getLast?_eq_getElem?]
end Go.Proofs.YtgoeedohgomodaaGreatDoor
namespace Go.Proofs.YtgoeedohgomodaaGreatDoor
open Go.RowKit
inductive ChainR : List Entry → Prop
  | nil : ChainR []
  | first (x : Entry) : x.gap = false → startsB x.leg.ty = true → ChainR [x]
  | join (p : List Entry) (y x : Entry) : ChainR p → p.getLast? = some y → x.gap = false → y.leg.joinsB x.leg = true → y.leg.dupB x.leg = false → ChainR (p ++ [x])
  | gap (p : List Entry) (x : Entry) : ChainR p → p ≠ [] → x.gap = false → startsB x.leg.ty = true → ChainR (p ++ [gapE, x])
theorem ChainR.last {p : List Entry} (h : ChainR p) : ∀ y, p.getLast? = some y → y.gap = false := by
  intro y hy
  cases h with
  | nil => simp at hy
  | first x hx _ => obtain rfl : x = y := by simpa using hy
                    exact hx
  | join p z x _ _ hx _ _ => obtain rfl : x = y := by simpa using hy
                             exact hx
  | gap p x _ _ hx _ => obtain rfl : x = y := by simpa using hy
                        exact hx
theorem joins_ne1 {a b : Leg} (h : a.joinsB b = true) : (b.ty == 1) = false := by
  simp only [Leg.joinsB, followsB, Bool.and_eq_true] at h
  simpa [bne] using h.1.1.2
theorem skip_dup {a b : Leg} (h : a.joinsB b = true) : (a.arrivedB b && skipB b.ty) = a.dupB b := by
  have := joins_ne1 h
  simp [skipB, Leg.dupB, tdB, this, Bool.and_comm]
def joinSt (st : List Entry × Bool) (x : Entry) : List Entry × Bool := joinStep st.1 st.2 x
theorem joinGo_foldl : ∀ (r : List Entry) (out : List Entry) (pb : Bool), joinGo out pb r = (r.foldl joinSt (out, pb)).1
  | [], _, _ => rfl
  | x :: r, out, pb => by rw [joinGo, joinGo_foldl r]; rfl
theorem ne_last {p : List Entry} (h : p ≠ []) : ∃ y, p.getLast? = some y := ⟨_, List.getLast?_eq_some_getLast h⟩
theorem startOf_starts {x : Entry} (h : startsB x.leg.ty = true) : startOf x = (x, true) := by simp [startOf, h]
theorem ChainR.fold {m : List Entry} (h : ChainR m) : m.foldl joinSt ([], false) = (m, false) := by
  induction h with
  | nil => rfl
  | first x hg hs => simp [joinSt, joinStep, hg, joinNew, startOf_starts hs]
  | join p y x hp hy hg hj hd ih =>
    rw [List.foldl_append, ih]
    simp only [List.foldl_cons, List.foldl_nil, joinSt, joinStep, hg, hy, skip_dup hj, hd, hj]
    rfl
  | gap p x hp hne hg hs ih =>
    obtain ⟨y, hy⟩ := ne_last hne
    rw [List.foldl_append, ih]
    simp only [List.foldl_cons, List.foldl_nil, joinSt]
    have h1 : joinStep p false gapE = (p, true) := rfl
    rw [h1]
    simp only [joinStep, hg, hy, joinNew, startOf_starts hs]
    simp [hne]
theorem ChainR.again {m : List Entry} (h : ChainR m) : joinE m = m := by rw [joinE, joinGo_foldl, h.fold]
theorem startOf_ok {x : Entry} (h : (startOf x).2 = true) : (startOf x).1.gap = x.gap ∧ startsB (startOf x).1.leg.ty = true := by
  unfold startOf at h ⊢
  split
  · rename_i h1; exact ⟨rfl, h1⟩
  · rename_i h1
    split
    · exact ⟨rfl, rfl⟩
    · rename_i h2; simp [h1, h2] at h
theorem ChainR.new {out : List Entry} (h : ChainR out) (pb : Bool) (x : Entry) (hg : x.gap = false) : ChainR (joinNew out pb x).1 := by
  unfold joinNew
  split
  · rename_i hs
    obtain ⟨h1, h2⟩ := startOf_ok hs
    rw [hg] at h1
    by_cases ho : out = []
    · subst ho; exact .first _ h1 h2
    · have he : out.isEmpty = false := by simpa using ho
      simp only [he, Bool.false_eq_true, if_false, List.append_assoc]
      exact .gap _ _ h ho h1 h2
  · exact h
theorem ChainR.step {out : List Entry} (h : ChainR out) (pb : Bool) (x : Entry) : ChainR (joinStep out pb x).1 := by
  unfold joinStep
  split
  · exact h
  · rename_i hg
    have hg : x.gap = false := by simpa using hg
    split
    · exact h.new pb x hg
    · rename_i y hy
      split
      · exact h.new pb x hg
      · split
        · exact h
        · rename_i hs
          split
          · rename_i hj
            have hs : (y.leg.arrivedB x.leg && skipB x.leg.ty) = false := by simpa using hs
            exact .join _ _ _ h hy hg hj (by rw [← skip_dup hj]; exact hs)
          · exact h.new pb x hg
theorem joinGo_chain : ∀ (r out : List Entry) (pb : Bool), ChainR out → ChainR (joinGo out pb r)
  | [], _, _, h => h
  | x :: r, out, pb, h => joinGo_chain r _ _ (h.step pb x)
theorem joinE_chain (l : List Entry) : ChainR (joinE l) := joinGo_chain l [] false .nil
theorem joinE_again (l : List Entry) : joinE (joinE l) = joinE l := (joinE_chain l).again
theorem orE_zeroJ {a b : Int} (h : orE a b = 0) : a = 0 ∧ b = 0 := by grind [orE]
def comesB (x y : Entry) : Bool := !x.gap && (x.eqB y || (y.leg.ty == 1 && decide (x.leg.fix = y.leg.fix) && (decide (x.ex = y.ex) && decide (x.ey = y.ey))))
inductive Emb : List Entry → List Entry → Prop
  | nil (l : List Entry) : Emb l []
  | gap (l m : List Entry) (y : Entry) : y.gap = true → Emb l m → Emb l (y :: m)
  | skip (l m : List Entry) (x : Entry) : Emb l m → Emb (x :: l) m
  | take (l m : List Entry) (x y : Entry) : comesB x y = true → y.gap = false → Emb l m → Emb (x :: l) (y :: m)
theorem Emb.more {l m : List Entry} (h : Emb l m) (k n : List Entry) (h2 : Emb k n) : Emb (l ++ k) (m ++ n) := by
  induction h with
  | nil l => induction l with
    | nil => exact h2
    | cons x l ih => exact .skip _ _ _ ih
  | gap l m y hy _ ih => exact .gap _ _ _ hy ih
  | skip l m x _ ih => exact .skip _ _ _ ih
  | take l m x y hc hy _ ih => exact .take _ _ _ _ hc hy ih
theorem startOf_comes {x : Entry} (hg : x.gap = false) (h : (startOf x).2 = true) : comesB x (startOf x).1 = true := by
  unfold startOf at h ⊢
  split
  · simp [comesB, hg, (Entry.eqB_iff x x).2 rfl]
  · rename_i h1
    split
    · simp [comesB, hg, startForm]
    · rename_i h2; simp [h1, h2] at h
theorem new_emb (out : List Entry) (pb : Bool) (x : Entry) (hg : x.gap = false) : ∃ n, (joinNew out pb x).1 = out ++ n ∧ Emb [x] n := by
  unfold joinNew
  split
  · rename_i hs
    have hc := startOf_comes hg hs
    have h1 := (startOf_ok hs).1
    rw [hg] at h1
    cases ho : out.isEmpty
    · exact ⟨[gapE, (startOf x).1], by simp, .gap _ _ _ rfl (.take _ _ _ _ hc h1 (.nil _))⟩
    · exact ⟨[(startOf x).1], by simp, .take _ _ _ _ hc h1 (.nil _)⟩
  · exact ⟨[], by simp, .nil _⟩
theorem step_emb (out : List Entry) (pb : Bool) (x : Entry) : ∃ n, (joinStep out pb x).1 = out ++ n ∧ Emb [x] n := by
  unfold joinStep
  split
  · exact ⟨[], by simp, .nil _⟩
  · rename_i hg
    have hg : x.gap = false := by simpa using hg
    split
    · exact new_emb out pb x hg
    · split
      · exact new_emb out pb x hg
      · split
        · exact ⟨[], by simp, .nil _⟩
        · split
          · exact ⟨[x], rfl, .take _ _ _ _ (by simp [comesB, hg, (Entry.eqB_iff x x).2 rfl]) hg (.nil _)⟩
          · exact new_emb out pb x hg
theorem joinGo_emb : ∀ (r out : List Entry) (pb : Bool), ∃ n, joinGo out pb r = out ++ n ∧ Emb r n
  | [], out, _ => ⟨[], by simp [joinGo], .nil _⟩
  | x :: r, out, pb => by
    obtain ⟨n1, h1, e1⟩ := step_emb out pb x
    obtain ⟨n2, h2, e2⟩ := joinGo_emb r (joinStep out pb x).1 (joinStep out pb x).2
    exact ⟨n1 ++ n2, by rw [joinGo, h2, h1, List.append_assoc], e1.more _ _ e2⟩
theorem step_len (out : List Entry) (pb : Bool) (x : Entry) : (joinStep out pb x).1.length ≤ out.length + 2 := by
  obtain ⟨n, h, e⟩ := step_emb out pb x
  unfold joinStep joinNew
  split
  · simp
  · split
    · split
      · split <;> simp
      · simp
    · split
      · split
        · split <;> simp
        · simp
      · split
        · simp
        · split
          · simp
          · split
            · split <;> simp
            · simp
theorem joinGo_len : ∀ (r out : List Entry) (pb : Bool), (joinGo out pb r).length ≤ out.length + 2 * r.length
  | [], _, _ => by simp [joinGo]
  | x :: r, out, pb => by
    have h1 := step_len out pb x
    have h2 := joinGo_len r (joinStep out pb x).1 (joinStep out pb x).2
    rw [joinGo, List.length_cons]; omega
theorem joinE_len (l : List Entry) : (joinE l).length ≤ 2 * l.length := by simpa [joinE] using joinGo_len l [] false
end Go.Proofs.YtgoeedohgomodaaGreatDoor
namespace Go.Proofs.YtgoeedohgomodaaGreatDoor
open Go.RowKit
theorem join_ext {l : List Entry} (h : ChainR l) (rest : List Entry) : ∃ n, joinE (l ++ rest) = l ++ n := by
  rw [joinE, joinGo_foldl, List.foldl_append, h.fold, ← joinGo_foldl]
  obtain ⟨n, e, _⟩ := joinGo_emb rest l false
  exact ⟨n, e⟩
def Grown (l m : List Entry) : Prop := ChainR m ∧ ∃ n, m = l ++ n
theorem Grown.self {l : List Entry} (h : ChainR l) : Grown l l := ⟨h, [], by simp⟩
theorem Grown.trans {l m q : List Entry} (h : Grown l m) (h2 : Grown m q) : Grown l q := by
  obtain ⟨_, n, rfl⟩ := h
  obtain ⟨c, k, rfl⟩ := h2
  exact ⟨c, n ++ k, by simp⟩
theorem addS_grown {R : RLook} {l : List Entry} (h : ChainR l) (legs : List Leg) (s : Int) (via : List UInt8) : Grown l (addS R l legs s via).1 := by
  unfold addS
  split
  · exact .self h
  · exact ⟨joinE_chain _, join_ext h _⟩
theorem loadS_grown {R : RLook} {l : List Entry} (h : ChainR l) (x y : ItemV) (k s : Int) : Grown l (loadS R l x y k s).1 := by
  unfold loadS
  cases R.proc y.name k x.name with
  | none => exact .self h
  | some p =>
    dsimp only
    split
    · exact .self h
    · exact addS_grown h _ _ _
theorem alongS_grown {R : RLook} {l : List Entry} (h : ChainR l) (a : AwyV) (x : ItemV) (i : Nat) : Grown l (alongS R l a x i).1 := by
  unfold alongS
  rcases endA R a x i with ⟨_ | e, je⟩
  · exact .self h
  · dsimp only
    cases l.getLast? with
    | none => exact .self h
    | some y =>
      dsimp only
      split
      · exact .self h
      · split
        · exact .self h
        · exact addS_grown h _ _ _
theorem originS_grown {R : RLook} {l : List Entry} (h : ChainR l) (x : ItemV) (w : List UInt8) : Grown l (originS R l x w).1 := by
  unfold originS
  split
  · exact .self h
  · split <;> exact addS_grown h _ _ _
theorem nameS_grown {R : RLook} {l : List Entry} (h : ChainR l) (x y : ItemV) (i : Nat) : Grown l (nameS R l x y i).1 := by
  unfold nameS
  cases R.awy x.name with
  | none =>
    dsimp only [atI]
    split
    · exact .self h
    · exact addS_grown h _ _ _
  | some a => exact alongS_grown h a y i
theorem destS_grown {R : RLook} {l : List Entry} (h : ChainR l) (x y : ItemV) (w : List UInt8) (i : Nat) : Grown l (destS R l x y w i).1 := by
  unfold destS
  split
  · exact .self h
  · split
    · exact .self h
    · have g := addS_grown (R := R) h [toLeg 2 (R.place w).1] (l.getLast?.getD gapE).sec []
      split
      · split
        · exact .self h
        · exact g.trans (addS_grown g.1 _ _ _)
      · exact g
theorem step_grown {R : RLook} {l : List Entry} (h : ChainR l) (items : List ItemV) (w : List UInt8) (i : Nat) : Grown l (itemStep R items w i l).1 := by
  unfold itemStep
  split
  · exact originS_grown h _ _
  · split
    · exact loadS_grown h _ _ _ _
    · split
      · exact addS_grown h _ _ _
      · split
        · exact nameS_grown h _ _ _
        · split
          · exact loadS_grown h _ _ _ _
          · split
            · exact loadS_grown h _ _ _ _
            · split
              · exact destS_grown h _ _ _ _
              · exact .self h
theorem go_grown (R : RLook) (items : List ItemV) (ws : List (List UInt8)) : ∀ (f i : Nat) (l : List Entry), ChainR l → Grown l (routeGo R items ws f i l).1
  | 0, i, l, h => .self h
  | f + 1, i, l, h => by
    have g := step_grown (R := R) h items (ws.getD i []) i
    unfold routeGo
    split
    · split
      · exact g
      · exact g.trans (go_grown R items ws f _ _ g.1)
    · exact .self h
def Ends (r : List UInt8) (l : List Entry) : Prop := ∃ x ∈ l, x.gap = false ∧ endsB x.leg.ty = true ∧ x.leg.fix = r
theorem Ends.more {r : List UInt8} {l m : List Entry} (h : Ends r l) (g : Grown l m) : Ends r m := by
  obtain ⟨_, n, rfl⟩ := g
  obtain ⟨x, hx, p⟩ := h
  exact ⟨x, List.mem_append_left _ hx, p⟩
theorem findGo_ends {r : List UInt8} : ∀ (l : List Entry) (i : Nat), Ends r l → 0 ≤ findGo 0 r l i
  | [], i, h => by obtain ⟨x, hx, _⟩ := h; simp at hx
  | y :: l, i, h => by
    unfold findGo
    split
    · omega
    · rename_i hc
      refine findGo_ends l (i + 1) ?_
      obtain ⟨x, hx, h1, h2, h3⟩ := h
      rcases List.mem_cons.1 hx with rfl | hx
      · exact absurd (by simp [h1, h2, h3]) hc
      · exact ⟨x, hx, h1, h2, h3⟩
theorem new_ends {x : Entry} (hg : x.gap = false) (ht : x.leg.ty = 2) (l : List Entry) (p : Bool) : Ends x.leg.fix (joinNew l p x).1 := by
  unfold joinNew startOf
  rw [ht]
  exact ⟨startForm x, by simp [startsB, startAble], hg, by simp [startForm, endsB], rfl⟩
theorem join_ends {l : List Entry} (h : ChainR l) {x : Entry} (hg : x.gap = false) (ht : x.leg.ty = 2) : Ends x.leg.fix (joinE (l ++ [x])) := by
  rw [joinE, joinGo_foldl, List.foldl_append, h.fold]
  simp only [List.foldl_cons, List.foldl_nil, joinSt]
  unfold joinStep
  rw [if_neg (by simp [hg])]
  cases hl : l.getLast? with
  | none => exact new_ends hg ht _ _
  | some y =>
    dsimp only
    rw [if_neg (by simp)]
    split
    · rename_i ha
      have hm : y ∈ l := List.mem_of_getLast? hl
      simp only [Leg.arrivedB, Bool.and_eq_true, beq_iff_eq] at ha
      exact ⟨y, hm, h.last y hl, ha.1.1, ha.1.2⟩
    · split
      · exact ⟨x, by simp, hg, by rw [ht]; rfl, rfl⟩
      · exact new_ends hg ht _ _
theorem addS_ends {R : RLook} {l : List Entry} (h : ChainR l) {r : List UInt8} {s : Int} {via : List UInt8} (e : (addS R l [toLeg 2 r] s via).2 = 0) : Ends r (addS R l [toLeg 2 r] s via).1 := by
  unfold addS at e ⊢
  split at e
  · rename_i hb; exact absurd e hb
  · rename_i hb
    rw [if_neg hb]
    have hb : (bindS R.pt [toLeg 2 r] s via).1 = [bindX R.pt s via (toLeg 2 r)] := by
      unfold bindS at hb ⊢
      split at hb
      · exact absurd (by decide) hb
      · rename_i h1
        rw [if_neg h1]
        split at hb
        · exact absurd (by decide) hb
        · rename_i h2
          rw [if_neg h2]
          split at hb
          · rename_i h3
            rw [if_pos h3]; rfl
          · rename_i h3
            exact absurd h3 (by simpa using hb)
    rw [hb]
    exact join_ends h (x := bindX R.pt s via (toLeg 2 r)) rfl rfl
theorem destS_ends {R : RLook} {l : List Entry} (h : ChainR l) (x y : ItemV) (w : List UInt8) (i : Nat) (e : (destS R l x y w i).2.2 = 0) : (R.place w).2 = 0 ∧ Ends (R.place w).1 (destS R l x y w i).1 := by
  unfold destS at e ⊢
  split at e
  · rename_i h1; exact absurd e h1
  · rename_i h1
    rw [if_neg h1]
    split at e
    · rename_i h2; exact absurd e h2
    · rename_i h2
      rw [if_neg h2]
      have h1 : (R.place w).2 = 0 := Classical.byContradiction h1
      have h2 : (addS R l [toLeg 2 (R.place w).1] (l.getLast?.getD gapE).sec []).2 = 0 := Classical.byContradiction h2
      have g := addS_grown (R := R) h [toLeg 2 (R.place w).1] (l.getLast?.getD gapE).sec []
      have q := addS_ends h h2
      refine ⟨h1, ?_⟩
      split
      · split
        · rename_i h3 h4
          rw [if_pos h3, if_pos h4] at e
          exact absurd e h4
        · exact q.more (addS_grown g.1 _ _ _)
      · exact q
end Go.Proofs.YtgoeedohgomodaaGreatDoor
namespace Go.Proofs.YtgoeedohgomodaaGreatDoor
open Go.RowKit
theorem alongS_next {R : RLook} {l : List Entry} {a : AwyV} {y : ItemV} {i : Nat} (h : (alongS R l a y i).2.2 = 0) : y.kind = 4 ∨ y.kind = 3 := by
  by_cases h4 : y.kind = 4
  · exact .inl h4
  · by_cases h3 : y.kind = 3
    · exact .inr h3
    · unfold alongS endA at h
      rw [if_neg h4, if_neg h3] at h
      exact absurd (show (9 : Int) = 0 from h) (by decide)
theorem name_next {R : RLook} {l : List Entry} {x y : ItemV} {i : Nat} (h : (nameS R l x y i).2.2 = 0) : (nameS R l x y i).2.1 = (i : Int) ∨ y.kind = 4 ∨ y.kind = 3 := by
  unfold nameS at h ⊢
  cases hq : R.awy x.name with
  | none => exact .inl rfl
  | some a =>
    rw [hq] at h
    exact .inr (alongS_next h)
theorem step_next (R : RLook) (items : List ItemV) (w : List UInt8) (i : Nat) (l : List Entry) (h : (itemStep R items w i l).2.2 = 0) :
    (itemStep R items w i l).2.1 = (i : Int) ∨ ((itemStep R items w i l).2.1 = (i : Int) + 1 ∧ ((items.getD (i + 1) noItem).kind = 4 ∨ (items.getD (i + 1) noItem).kind = 3)) := by
  rcases step_at R items w i l h with e | ⟨k3, e⟩
  · exact .inl e
  · right
    refine ⟨e, ?_⟩
    unfold itemStep at h e
    rw [if_neg (by rw [k3]; decide), if_neg (by rw [k3]; decide), if_neg (by rw [k3]; decide), if_pos k3] at h e
    rcases name_next h with q | q
    · omega
    · exact q
theorem go_ends (R : RLook) (items : List ItemV) (ws : List (List UInt8)) (n : Nat) (hn : items.length = n + 1) (h8 : (items.getD n noItem).kind = 8) : ∀ (f i : Nat) (l : List Entry), ChainR l → i ≤ n → n + 1 ≤ i + f → (routeGo R items ws f i l).2.2 = 0 →
    (R.place (ws.getD n [])).2 = 0 ∧ Ends (R.place (ws.getD n [])).1 (routeGo R items ws f i l).1
  | 0, i, l, hc, hi, hf, h => by omega
  | f + 1, i, l, hc, hi, hf, h => by
    have hil : i < items.length := by omega
    have hu : (itemStep R items (ws.getD i []) i l).2.2 = 0 ∧ routeGo R items ws (f + 1) i l = routeGo R items ws f (((itemStep R items (ws.getD i []) i l).2.1).toNat + 1) (itemStep R items (ws.getD i []) i l).1 := by
      have h' := h
      unfold routeGo at h'
      rw [if_pos hil] at h'
      split at h'
      · rename_i he; exact absurd h' he
      · rename_i he
        have he : (itemStep R items (ws.getD i []) i l).2.2 = 0 := by simpa using he
        refine ⟨he, ?_⟩
        conv => lhs; unfold routeGo
        rw [if_pos hil, if_neg (not_not_intro he)]
    obtain ⟨he, hu⟩ := hu
    have g := step_grown (R := R) hc items (ws.getD i []) i
    rw [hu] at h ⊢
    by_cases hin : i = n
    · subst hin
      have hd : itemStep R items (ws.getD i []) i l = destS R l (items.getD i noItem) (items.getD (i - 1) noItem) (ws.getD i []) i := by
        unfold itemStep
        rw [if_neg (by rw [h8]; decide), if_neg (by rw [h8]; decide), if_neg (by rw [h8]; decide), if_neg (by rw [h8]; decide), if_neg (by rw [h8]; decide), if_neg (by rw [h8]; decide), if_pos h8]
      have q := destS_ends hc (items.getD i noItem) (items.getD (i - 1) noItem) (ws.getD i []) i (hd ▸ he)
      rw [← hd] at q
      exact ⟨q.1, q.2.more (go_grown R items ws f _ _ g.1)⟩
    · have hnext : ((itemStep R items (ws.getD i []) i l).2.1).toNat + 1 ≤ n ∧ n + 1 ≤ (((itemStep R items (ws.getD i []) i l).2.1).toNat + 1) + f := by
        rcases step_next R items (ws.getD i []) i l he with e | ⟨e, k⟩
        · omega
        · have : i + 1 ≠ n := by
            rintro rfl
            rw [h8] at k
            rcases k with k | k <;> exact absurd k (by decide)
          omega
      exact go_ends R items ws n hn h8 f _ _ g.1 hnext.1 hnext.2 h
theorem bindS_one {pt : List UInt8 → (Int × Int) × Int} {l : Leg} {s : Int} {via : List UInt8} (h : (bindS pt [l] s via).2 = 0) : (bindS pt [l] s via).1 = [bindX pt s via l] := by
  unfold bindS at h ⊢
  split at h
  · exact absurd h (by decide)
  · rename_i h1
    rw [if_neg h1]
    split at h
    · exact absurd h (by decide)
    · rename_i h2
      rw [if_neg h2]
      split at h
      · rename_i h3
        rw [if_pos h3]; rfl
      · rename_i h3
        exact absurd h h3
theorem addS_first {R : RLook} {r : List UInt8} {s : Int} {via : List UInt8} (h : (addS R [] [toLeg 1 r] s via).2 = 0) : (addS R [] [toLeg 1 r] s via).1 = [bindX R.pt s via (toLeg 1 r)] := by
  unfold addS at h ⊢
  split at h
  · rename_i hb; exact absurd h hb
  · rename_i hb
    rw [if_neg hb, bindS_one (Classical.byContradiction hb)]
    rfl
theorem originS_first {R : RLook} {x : ItemV} {w : List UInt8} (h : (originS R [] x w).2 = 0) : (R.place w).2 = 0 ∧ ∃ s via, (originS R [] x w).1 = [bindX R.pt s via (toLeg 1 (R.place w).1)] := by
  unfold originS at h ⊢
  split at h
  · rename_i h1; exact absurd h h1
  · rename_i h1
    rw [if_neg h1]
    refine ⟨Classical.byContradiction h1, ?_⟩
    split at h
    · rename_i h2
      rw [if_pos h2]
      exact ⟨_, _, addS_first h⟩
    · rename_i h2
      rw [if_neg h2]
      exact ⟨_, _, addS_first h⟩
theorem go_first (R : RLook) (items : List ItemV) (ws : List (List UInt8)) (hk : (items.getD 0 noItem).kind = 1) (hl : 0 < items.length) (f : Nat) (h : (routeGo R items ws (f + 1) 0 []).2.2 = 0) :
    (R.place (ws.getD 0 [])).2 = 0 ∧ ∃ r, fixesGo (routeGo R items ws (f + 1) 0 []).1 = (R.place (ws.getD 0 [])).1 :: r := by
  have hs : itemStep R items (ws.getD 0 []) 0 [] = atI 0 (originS R [] (items.getD 1 noItem) (ws.getD 0 [])) := by
    unfold itemStep
    rw [if_pos hk]
  unfold routeGo at h ⊢
  rw [if_pos hl, hs] at h
  rw [if_pos hl, hs]
  split at h
  · rename_i he; exact absurd h he
  · rename_i he
    rw [if_neg he]
    have he : (originS R [] (items.getD 1 noItem) (ws.getD 0 [])).2 = 0 := Classical.byContradiction he
    obtain ⟨p, s, via, e⟩ := originS_first he
    refine ⟨p, ?_⟩
    have hc : ChainR [bindX R.pt s via (toLeg 1 (R.place (ws.getD 0 [])).1)] := .first _ rfl rfl
    rw [atI_fst, e]
    obtain ⟨_, n, e2⟩ := go_grown R items ws f (((atI 0 (originS R [] (items.getD 1 noItem) (ws.getD 0 []))).2.1).toNat + 1) _ hc
    rw [e2]
    exact ⟨fixesGo n, rfl⟩
theorem kind8_last {ws : List (List UInt8)} {l : List ItemV} (h : ItemsOk ws l) {n : Nat} (hn : l.length = n + 1) (h1 : 1 ≤ n) : (l.getD n noItem).kind = 8 := by
  have hl : n < l.length := by omega
  have hw : n < ws.length := h.1 ▸ hl
  have a := (h.2 n hw hl).1
  rw [List.getD_eq_getElem?_getD, List.getElem?_eq_getElem hl]
  unfold wordI at a
  rw [if_pos (Or.inr (by rw [← h.1, hn]))] at a
  split at a
  · injection a with a
    show l[n].kind = 8
    rw [← a]
    exact if_neg (by omega)
  · exact absurd a (by simp)
theorem kind1_at {ws : List (List UInt8)} {l : List ItemV} (h : ItemsOk ws l) (hl : 0 < l.length) : (l.getD 0 noItem).kind = 1 := by
  have hw : 0 < ws.length := h.1 ▸ hl
  have a := (h.2 0 hw hl).1
  rw [List.getD_eq_getElem?_getD, List.getElem?_eq_getElem hl]
  unfold wordI at a
  rw [if_pos (Or.inl rfl)] at a
  split at a
  · injection a with a
    show l[0].kind = 1
    rw [← a]
    rfl
  · exact absurd a (by simp)
theorem join_two {ws : List (List UInt8)} (h : 2 ≤ ws.length) (c : UInt8) : ∃ m, Lib.join ws [c] = ws.headD [] ++ c :: m ∧ ∃ k, c :: m = k ++ c :: ws.getLastD [] := by
  match ws, h with
  | a :: b :: r, _ =>
    have : ∀ (r : List (List UInt8)) (b : List UInt8), ∃ k, Lib.joinTail [c] (b :: r) = k ++ c :: (b :: r).getLastD [] := by
      intro r
      induction r with
      | nil => intro b; exact ⟨[], by simp [Lib.joinTail]⟩
      | cons d r ih =>
        intro b
        obtain ⟨k, e⟩ := ih d
        refine ⟨c :: b ++ k, ?_⟩
        have : Lib.joinTail [c] (b :: d :: r) = c :: b ++ Lib.joinTail [c] (d :: r) := by simp [Lib.joinTail]
        rw [this, e]
        simp [List.getLastD]
    obtain ⟨k, e⟩ := this r b
    refine ⟨b ++ Lib.joinTail [c] r, ?_, k, ?_⟩
    · rw [Lib.join_cons]
      simp [Lib.joinTail]
    · have e2 : (a :: b :: r).getLastD [] = (b :: r).getLastD [] := by simp [List.getLastD]
      rw [e2, ← e]
      simp [Lib.joinTail]
theorem route_none {R : RLook} {s : List UInt8} (h : (expandS R s).2 ≠ 0) : (expandS R s).1.1 = plan0 := by
  unfold expandS at h ⊢
  split
  · rfl
  · rename_i h1
    rw [if_neg h1] at h
    split
    · rfl
    · rename_i h2
      rw [if_neg h2] at h
      split
      · rfl
      · rename_i h3
        rw [if_neg h3] at h
        exact absurd rfl h
theorem route_valid {R : RLook} {s : List UInt8} (h : (expandS R s).2 = 0) :
    (expandS R s).1.1.active = -1 ∧ planCheck (expandS R s).1.1 = 0 ∧ (R.place (expandS R s).1.1.from_).2 = 0 ∧ (R.place (expandS R s).1.1.to_).2 = 0
      ∧ (∃ r, fixesGo (expandS R s).1.1.es = (R.place (expandS R s).1.1.from_).1 :: r) ∧ 0 ≤ findE (expandS R s).1.1 0 (R.place (expandS R s).1.1.to_).1
      ∧ (expandS R s).1.1.from_.length + 1 + (expandS R s).1.1.to_.length ≤ s.length ∧ s.take (expandS R s).1.1.from_.length = (expandS R s).1.1.from_
      ∧ s.drop (s.length - (expandS R s).1.1.to_.length) = (expandS R s).1.1.to_ := by
  obtain ⟨ok, n, n1, ws⟩ := parse_ok (expandS_parse h)
  have hg := expandS_go h
  have hc := expandS_check h
  rw [expandS_plan h]
  have hj := join_splitC 32 s
  dsimp only
  have hlen := ok.1
  have hpos : 0 < (splitC 32 s).length := List.length_pos_iff.2 (splitC_ne 32 s)
  generalize (routeParse s).1.1 = l at *
  clear ws
  generalize splitC 32 s = q at *
  obtain ⟨k, hk⟩ : ∃ k, l.length = k + 1 := ⟨l.length - 1, by omega⟩
  have hH : q.headD [] = q.getD 0 [] := by rw [headD_at, List.getD_eq_getElem?_getD]
  have hL : q.getLastD [] = q.getD k [] := by rw [getLastD_at, List.getD_eq_getElem?_getD]; rw [show q.length - 1 = k by omega]
  have hf := go_first R l q (kind1_at ok (by omega)) (by omega) k (by rw [← hk]; exact hg)
  have he := go_ends R l q k hk (kind8_last ok hk (by omega)) l.length 0 [] .nil (Nat.zero_le _) (by omega) hg
  rw [← hk, ← hH] at hf
  rw [← hL] at he
  obtain ⟨m, e1, k2, e2⟩ := join_two (ws := q) (by omega) 32
  refine ⟨rfl, hc, hf.1, he.1, hf.2, findGo_ends _ 0 he.2, ?_, ?_, ?_⟩
  · rw [← hj, e1, e2]
    simp
    omega
  · rw [← hj, e1]
    simp
  · rw [← hj, e1, e2]
    have : (q.headD [] ++ (k2 ++ 32 :: q.getLastD [])) = (q.headD [] ++ k2 ++ [32]) ++ q.getLastD [] := by simp
    rw [this, List.length_append, Nat.add_sub_cancel]
    exact List.drop_left' rfl
end Go.Proofs.YtgoeedohgomodaaGreatDoor
