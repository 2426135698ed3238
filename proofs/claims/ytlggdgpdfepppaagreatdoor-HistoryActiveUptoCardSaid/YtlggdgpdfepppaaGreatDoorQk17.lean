/- Edits applied to a plan, in plain Lean, as the program does it. What a database gives is handed in (Look). No program in sight. Edits in plain Lean: a valid edit's text is read back. No program in sight. The plain laws of Join: a joined list is joined to itself, is valid, keeps its legs. No program in sight. The plain laws of edits applied: a field set; a direct-to. No program in sight. -/
import Derived.Test.YtlggdgpdfepppaaGreatDoorQk14
import Derived.Test.YtlggdgpdfepppaaGreatDoorQk12
import Derived.Test.YtlggdgpdfepppaaGreatDoorQk10
import Derived.Test.YtlggdgpdfepppaaGreatDoorQk16
import Derived.Test.YtlggdgpdfepppaaGreatDoorQk13
namespace Go.Proofs.YtlggdgpdfepppaaGreatDoor
open Go.RowKit
set_option linter.unusedVariables false
set_option linter.unusedSimpArgs false
def toLeg (t : Int) (fix : List UInt8) : Leg := ⟨t, fix, [], 0, false, 0, 0, 0, 0, -200000, 6000000, 0, 0⟩
def endsE (x : Entry) : Bool := !x.gap && endsB x.leg.ty
def directE (x : Entry) : Entry := ⟨x.gap, ⟨4, x.leg.fix, [], 0, x.leg.over, 0, 0, 0, 0, x.leg.lo, x.leg.hi, x.leg.speed, x.leg.rnp⟩, x.ex, x.ey, 0, 0, x.sec, x.via⟩
def secLast : Int → List Entry → Int
  | s, [] => s
  | s, x :: r => secLast (if x.gap then s else x.sec) r
def secFirst : Int → List Entry → Int
  | s, [] => s
  | s, x :: r => if x.gap then secFirst s r else x.sec
def searchE (l : List Entry) (from_ : Int) (ref : List UInt8) : Int := findGo from_ ref l 0
structure Look where
  pt : List UInt8 → (Int × Int) × Int
  place : List UInt8 → List UInt8 × Int
  way : List UInt8 → List UInt8 → List UInt8 → List (List UInt8 × Int × Int) × Int
  proc : List UInt8 → Int → List UInt8 → List UInt8 → (List Leg × List Leg) × Int
structure EdR where
  err : Int
  from_ : List UInt8
  to_ : List UInt8
  active : Int
  list : List Entry
def EdR.bad (e : Int) : EdR := ⟨e, [], [], 0, []⟩
def keepR (p : Plan) (l : List Entry) : EdR := ⟨0, p.from_, p.to_, p.active, l⟩
def entAt (p : Plan) (k : Nat) : Entry := p.es.getD k gapE
def oneS (L : Look) (t : Int) (ref : List UInt8) (s : Int) (via : List UInt8) : List Entry × Int := bindS L.pt [toLeg t ref] s via
def insertS (L : Look) (p : Plan) (e : EditV) : EdR :=
  if e.at_ ≤ p.active then .bad 8 else
  if 0 ≤ searchE p.es e.at_ e.ref then
    keepR p (p.es.take e.at_.toNat ++ [directE (entAt p (searchE p.es e.at_ e.ref).toNat)] ++ p.es.drop ((searchE p.es e.at_ e.ref).toNat + 1))
  else if (oneS L 4 e.ref (secFirst (secLast 2 p.es) (p.es.drop e.at_.toNat)) []).2 ≠ 0 then .bad (oneS L 4 e.ref (secFirst (secLast 2 p.es) (p.es.drop e.at_.toNat)) []).2
  else keepR p (p.es.take e.at_.toNat ++ ((oneS L 4 e.ref (secFirst (secLast 2 p.es) (p.es.drop e.at_.toNat)) []).1 ++ [gapE]) ++ p.es.drop e.at_.toNat)
def reopenE : List Entry → List Entry
  | [] => []
  | x :: r => if x.leg.ty == 1 then directE x :: r else x :: r
def deleteS (p : Plan) (e : EditV) : EdR :=
  if e.at_ ≤ p.active then .bad 8 else
  if (entAt p e.at_.toNat).gap then keepR p (p.es.take e.at_.toNat ++ reopenE (p.es.drop (e.at_.toNat + 1)))
  else keepR p (p.es.take e.at_.toNat ++ [gapE] ++ p.es.drop (e.at_.toNat + 1))
def holdLike (t : Int) : Bool := t == 14 || t == 15 || t == 16 || t == 17
def directS (p : Plan) (e : EditV) : EdR :=
  if e.at_ < p.active then .bad 8 else
  if !endsE (entAt p e.at_.toNat) then .bad 17 else
  ⟨0, p.from_, p.to_, 0,
    if holdLike (entAt p e.at_.toNat).leg.ty then ⟨false, toLeg 4 (entAt p e.at_.toNat).leg.fix, (entAt p e.at_.toNat).ex, (entAt p e.at_.toNat).ey, 0, 0, (entAt p e.at_.toNat).sec, (entAt p e.at_.toNat).via⟩ :: p.es.drop e.at_.toNat
    else directE (entAt p e.at_.toNat) :: p.es.drop (e.at_.toNat + 1)⟩
def setLeg (e : EditV) (x : Entry) : Entry :=
  if e.op = 4 then { x with leg := { x.leg with lo := e.lo, hi := e.hi } }
  else if e.op = 5 then { x with leg := { x.leg with speed := e.speed } }
  else { x with leg := { x.leg with rnp := e.dist } }
def setS (p : Plan) (e : EditV) : EdR :=
  if e.at_ < p.active then .bad 8 else
  if (entAt p e.at_.toNat).gap then .bad 17 else
  keepR p (p.es.set e.at_.toNat (setLeg e (entAt p e.at_.toNat)))
def plainTy (t : Int) : Bool := t == 1 || t == 2 || t == 3 || t == 4 || t == 5 || t == 6
def holdE (e : EditV) (x : Entry) : Entry := ⟨false, ⟨16, x.leg.fix, [], e.turn, false, e.course, e.dist, 0, 0, -200000, 6000000, 0, 0⟩, x.ex, x.ey, 0, 0, x.sec, []⟩
def holdS (p : Plan) (e : EditV) : EdR :=
  if e.at_ < p.active then .bad 8 else
  if (entAt p e.at_.toNat).gap then .bad 17 else
  if !plainTy (entAt p e.at_.toNat).leg.ty then .bad 17 else
  keepR p (p.es.take (e.at_.toNat + 1) ++ [holdE e (entAt p e.at_.toNat)] ++ p.es.drop (e.at_.toNat + 1))
def joinS (L : Look) (p : Plan) (e : EditV) : EdR :=
  if e.at_ < p.active then .bad 8 else
  if !endsE (entAt p e.at_.toNat) then .bad 17 else
  if (L.way e.name (entAt p e.at_.toNat).leg.fix e.ref).2 ≠ 0 then .bad (L.way e.name (entAt p e.at_.toNat).leg.fix e.ref).2 else
  let b := bindS L.pt ((L.way e.name (entAt p e.at_.toNat).leg.fix e.ref).1.map fun q => { toLeg 2 q.1 with lo := q.2.1, hi := q.2.2 }) (entAt p e.at_.toNat).sec e.name
  if b.2 ≠ 0 then .bad b.2 else
  if 0 ≤ searchE p.es (e.at_ + 1) e.ref then keepR p (p.es.take (e.at_.toNat + 1) ++ b.1 ++ p.es.drop ((searchE p.es (e.at_ + 1) e.ref).toNat + 1))
  else keepR p (p.es.take (e.at_.toNat + 1) ++ b.1 ++ [gapE] ++ p.es.drop (e.at_.toNat + 1))
def withB (name : List UInt8) (sep : UInt8) (second : List UInt8) : List UInt8 := if second.isEmpty then name else name ++ sep :: second
def rwayS (place rway : List UInt8) : List UInt8 := if rway.isEmpty then place else (cutAt 47 place).1 ++ 47 :: rway
def restDep : List Entry → List Entry → List Entry
  | rest, [] => rest
  | rest, x :: r => restDep (if !x.gap && x.sec == 1 then r else rest) r
def restFirst : List Entry → List Entry
  | [] => []
  | x :: r => if !x.gap && x.leg.ty == 1 then r else x :: r
def departS (L : Look) (p : Plan) (e : EditV) : EdR :=
  if p.active ≠ -1 then .bad 8 else
  if p.from_.isEmpty then .bad 6 else
  let from_ := rwayS p.from_ e.rway
  let q := L.proc from_ 1 e.name e.trans
  if q.2 ≠ 0 then .bad q.2 else
  if (L.place from_).2 ≠ 0 then .bad (L.place from_).2 else
  let w := withB e.name 46 e.trans
  let f := oneS L 1 (L.place from_).1 1 w
  if f.2 ≠ 0 then .bad f.2 else
  let y := bindS L.pt q.1.1 1 w
  if y.2 ≠ 0 then .bad y.2 else
  let rest := restDep (restFirst p.es) p.es
  let all := f.1 ++ y.1
  let last := all.getLast?.getD gapE
  if endsE last && decide (0 ≤ searchE rest 0 last.leg.fix) then ⟨0, from_, p.to_, p.active, all ++ rest.drop ((searchE rest 0 last.leg.fix).toNat + 1)⟩
  else ⟨0, from_, p.to_, p.active, all ++ [gapE] ++ rest⟩
def keepSec (s : Int) : List Entry → List Entry
  | [] => []
  | x :: r => if !x.gap && decide (s ≤ x.sec) then [] else x :: keepSec s r
def arriveS (L : Look) (p : Plan) (e : EditV) (kind s : Int) : EdR :=
  if p.to_.isEmpty then .bad 6 else
  if p.active ≠ -1 ∧ s ≤ (entAt p p.active.toNat).sec then .bad 8 else
  let to_ := if kind = 2 then rwayS p.to_ e.rway else p.to_
  let q := L.proc to_ kind e.name e.trans
  if q.2 ≠ 0 then .bad q.2 else
  let w := withB e.name 46 e.trans
  let y := bindS L.pt q.1.1 s w
  if y.2 ≠ 0 then .bad y.2 else
  if (L.place to_).2 ≠ 0 then .bad (L.place to_).2 else
  let t := oneS L 2 (L.place to_).1 s []
  if t.2 ≠ 0 then .bad t.2 else
  let m := if kind = 3 then bindS L.pt q.1.2 5 w else ([], 0)
  if m.2 ≠ 0 then .bad m.2 else
  let keep0 := keepSec s p.es
  let x := keep0.getLast?.getD gapE
  let keep := if !keep0.isEmpty && (L.place p.to_).2 == 0 && !x.gap && decide (p.active < (keep0.length : Int) - 1) && x.leg.fix == (L.place p.to_).1 && x.via.isEmpty then keep0.dropLast else keep0
  let j := match y.1 with | [] => -1 | z :: _ => if z.leg.fix.isEmpty then -1 else searchE keep p.active z.leg.fix
  ⟨0, p.from_, to_, p.active, (if 0 ≤ j then keep.take (j.toNat + 1) else keep ++ [gapE]) ++ y.1 ++ t.1 ++ m.1⟩
def divertS (L : Look) (p : Plan) (e : EditV) : EdR :=
  if e.at_ < p.active then .bad 8 else
  if !endsE (entAt p e.at_.toNat) then .bad 17 else
  if (L.place e.name).2 ≠ 0 then .bad (L.place e.name).2 else
  let x := oneS L 2 (L.place e.name).1 (entAt p e.at_.toNat).sec []
  if x.2 ≠ 0 then .bad x.2 else
  ⟨0, p.from_, e.name, p.active, p.es.take (e.at_.toNat + 1) ++ x.1⟩
def runS (L : Look) (p : Plan) (e : EditV) : EdR :=
  if (formF e.op).contains 97 ∧ ((p.es.length : Int) < e.at_ ∨ e.at_ = p.es.length ∧ e.op ≠ 1) then .bad 6 else
  if e.op = 1 then insertS L p e else if e.op = 2 then deleteS p e else if e.op = 3 then directS p e else
  if e.op = 4 ∨ e.op = 5 ∨ e.op = 6 then setS p e else if e.op = 7 then holdS p e else if e.op = 8 then joinS L p e else
  if e.op = 9 then departS L p e else if e.op = 10 then arriveS L p e 2 3 else if e.op = 11 then arriveS L p e 3 4 else divertS L p e
def applyS (L : Look) (p : Plan) (e : EditV) : Plan × Int :=
  if planCheck p ≠ 0 then (plan0, planCheck p) else
  if editCheck e ≠ 0 then (plan0, editCheck e) else
  if (runS L p e).err ≠ 0 then (plan0, (runS L p e).err) else
  if planCheck ⟨(runS L p e).from_, (runS L p e).to_, joinE (runS L p e).list, (runS L p e).active⟩ ≠ 0 then (plan0, planCheck ⟨(runS L p e).from_, (runS L p e).to_, joinE (runS L p e).list, (runS L p e).active⟩)
  else (⟨(runS L p e).from_, (runS L p e).to_, joinE (runS L p e).list, (runS L p e).active⟩, 0)
end Go.Proofs.YtlggdgpdfepppaaGreatDoor
namespace Go.Proofs.YtlggdgpdfepppaaGreatDoor
open Go.RowKit
set_option linter.unusedVariables false
set_option linter.unusedSimpArgs false
theorem betE {n lo hi : Int} (h : betweenS n lo hi = 0) : lo ≤ n ∧ n ≤ hi := by
  unfold betweenS at h
  split at h <;> omega
theorem orE_both {a b : Int} (h : orE a b = 0) : a = 0 ∧ b = 0 := by
  unfold orE at h
  split at h
  · rename_i h1; subst h; exact absurd h1 (by decide)
  · rename_i h1; exact ⟨by simpa using h1, h⟩
theorem chk_all {e : EditV} : ∀ {l : List UInt8}, chkGo e l = 0 → ∀ c ∈ l, stE e c = 0
  | [], _, c, hc => absurd hc List.not_mem_nil
  | c0 :: r, h, c, hc => by
      obtain ⟨h1, h2⟩ := orE_both h
      rcases List.mem_cons.1 hc with rfl | hc
      · exact h1
      · exact chk_all h2 c hc
theorem edit_ok {e : EditV} (h : editCheck e = 0) : (1 ≤ e.op ∧ e.op ≤ 12) ∧ ∀ c ∈ edOrder, stE e c = 0 := by
  unfold editCheck at h
  split at h
  · omega
  · exact ⟨by omega, chk_all h⟩
theorem st_used {e : EditV} {c : UInt8} (h : stE e c = 0) (hu : (formF e.op).contains c = true) : checkF e c = 0 := by
  unfold stE at h; rw [if_pos hu] at h; exact h
theorem st_zero {e : EditV} {c : UInt8} (h : stE e c = 0) (hu : (formF e.op).contains c = false) : zeroF e c = true := by
  unfold stE at h
  rw [if_neg (by rw [hu]; decide)] at h
  cases hz : zeroF e c
  · rw [hz] at h; exact absurd h (by decide)
  · rfl
/-! What is not used is zero. -/
theorem z97 {e : EditV} (h : zeroF e 97 = true) : e.at_ = 0 := by simpa using (show (e.at_ == 0) = true from h)
theorem z114 {e : EditV} (h : zeroF e 114 = true) : e.ref = [] := by simpa using (show e.ref.isEmpty = true from h)
theorem z110 {e : EditV} (h : zeroF e 110 = true) : e.name = [] := by simpa using (show e.name.isEmpty = true from h)
theorem z119 {e : EditV} (h : zeroF e 119 = true) : e.rway = [] := by simpa using (show e.rway.isEmpty = true from h)
theorem z116 {e : EditV} (h : zeroF e 116 = true) : e.trans = [] := by simpa using (show e.trans.isEmpty = true from h)
theorem z115 {e : EditV} (h : zeroF e 115 = true) : e.speed = 0 := by simpa using (show (e.speed == 0) = true from h)
theorem z99 {e : EditV} (h : zeroF e 99 = true) : e.course = 0 := by simpa using (show (e.course == 0) = true from h)
theorem z100 {e : EditV} (h : zeroF e 100 = true) : e.dist = 0 := by simpa using (show (e.dist == 0) = true from h)
theorem z117 {e : EditV} (h : zeroF e 117 = true) : e.turn = 0 := by simpa using (show (e.turn == 0) = true from h)
theorem z104 {e : EditV} (h : zeroF e 104 = true) : e.lo = 0 ∧ e.hi = 0 := by simpa using (show (e.lo == 0 && e.hi == 0) = true from h)
end Go.Proofs.YtlggdgpdfepppaaGreatDoor
namespace Go.Proofs.YtlggdgpdfepppaaGreatDoor
open Go.RowKit
set_option linter.unusedVariables false
set_option linter.unusedSimpArgs false
def joinSt (st : List Entry × Bool) (x : Entry) : List Entry × Bool := joinStep st.1 st.2 x
theorem joinGo_foldl : ∀ (r : List Entry) (out : List Entry) (pb : Bool), joinGo out pb r = (r.foldl joinSt (out, pb)).1
  | [], _, _ => rfl
  | x :: r, out, pb => by rw [joinGo, joinGo_foldl r]; rfl
theorem startOf_ok {x : Entry} (h : (startOf x).2 = true) : (startOf x).1.gap = x.gap ∧ startsB (startOf x).1.leg.ty = true := by
  unfold startOf at h ⊢
  split
  · rename_i h1; exact ⟨rfl, h1⟩
  · rename_i h1
    split
    · exact ⟨rfl, rfl⟩
    · rename_i h2; simp [h1, h2] at h
theorem orE_zeroJ {a b : Int} (h : orE a b = 0) : a = 0 ∧ b = 0 := by grind [orE]
def comesB (x y : Entry) : Bool := !x.gap && (x.eqB y || (y.leg.ty == 1 && decide (x.leg.fix = y.leg.fix) && (decide (x.ex = y.ex) && decide (x.ey = y.ey))))
inductive Emb : List Entry → List Entry → Prop
  | nil (l : List Entry) : Emb l []
  | gap (l m : List Entry) (y : Entry) : y.gap = true → Emb l m → Emb l (y :: m)
  | skip (l m : List Entry) (x : Entry) : Emb l m → Emb (x :: l) m
  | take (l m : List Entry) (x y : Entry) : comesB x y = true → y.gap = false → Emb l m → Emb (x :: l) (y :: m)
theorem startOf_comes {x : Entry} (hg : x.gap = false) (h : (startOf x).2 = true) : comesB x (startOf x).1 = true := by
  unfold startOf at h ⊢
  split
  · simp [comesB, hg, (Entry.eqB_iff x x).2 rfl]
  · rename_i h1
    split
    · simp [comesB, hg, startForm]
    · rename_i h2; simp [h1, h2] at h
theorem new_emb (out : List Entry) (pb : Bool) (x : Entry) (hg : x.gap = false) : ∃ n, (joinNew out pb x).1 = out ++ n ∧ Emb [x] n := by
  unfold joinNew
  split
  · rename_i hs
    have hc := startOf_comes hg hs
    have h1 := (startOf_ok hs).1
    rw [hg] at h1
    cases ho : out.isEmpty
    · exact ⟨[gapE, (startOf x).1], by simp, .gap _ _ _ rfl (.take _ _ _ _ hc h1 (.nil _))⟩
    · exact ⟨[(startOf x).1], by simp, .take _ _ _ _ hc h1 (.nil _)⟩
  · exact ⟨[], by simp, .nil _⟩
theorem step_emb (out : List Entry) (pb : Bool) (x : Entry) : ∃ n, (joinStep out pb x).1 = out ++ n ∧ Emb [x] n := by
  unfold joinStep
  split
  · exact ⟨[], by simp, .nil _⟩
  · rename_i hg
    have hg : x.gap = false := by simpa using hg
    split
    · exact new_emb out pb x hg
    · split
      · exact new_emb out pb x hg
      · split
        · exact ⟨[], by simp, .nil _⟩
        · split
          · exact ⟨[x], rfl, .take _ _ _ _ (by simp [comesB, hg, (Entry.eqB_iff x x).2 rfl]) hg (.nil _)⟩
          · exact new_emb out pb x hg
theorem step_len (out : List Entry) (pb : Bool) (x : Entry) : (joinStep out pb x).1.length ≤ out.length + 2 := by
  obtain ⟨n, h, e⟩ := step_emb out pb x
  unfold joinStep joinNew
  split
  · simp
  · split
    · split
      · split <;> simp
      · simp
    · split
      · split
        · split <;> simp
        · simp
      · split
        · simp
        · split
          · simp
          · split
            · split <;> simp
            · simp
theorem joinGo_len : ∀ (r out : List Entry) (pb : Bool), (joinGo out pb r).length ≤ out.length + 2 * r.length
  | [], _, _ => by simp [joinGo]
  | x :: r, out, pb => by
    have h1 := step_len out pb x
    have h2 := joinGo_len r (joinStep out pb x).1 (joinStep out pb x).2
    rw [joinGo, List.length_cons]; omega
theorem joinE_len (l : List Entry) : (joinE l).length ≤ 2 * l.length := by simpa [joinE] using joinGo_len l [] false
end Go.Proofs.YtlggdgpdfepppaaGreatDoor
namespace Go.Proofs.YtlggdgpdfepppaaGreatDoor
open Go.RowKit
set_option linter.unusedVariables false
set_option linter.unusedSimpArgs false
theorem planChk_ok {p : Plan} (h : planCheck p = 0) : checkGo none 0 p.es = 0 ∧ p.es.length ≤ 60 ∧ -1 ≤ p.active ∧ p.active < p.es.length := by
  unfold planCheck at h
  split at h
  · simp at h
  · split at h
    · simp at h
    · obtain ⟨h1, h2⟩ := orE_zeroJ h
      refine ⟨h1, by omega, ?_⟩
      unfold activeE at h2
      split at h2
      · omega
      · split at h2
        · simp at h2
        · omega
theorem entAt_get {p : Plan} {k : Nat} (h : k < p.es.length) : p.es[k]? = some (entAt p k) := by
  unfold entAt
  rw [List.getD_eq_getElem?_getD, List.getElem?_eq_getElem h]; rfl
theorem edit_at {e : EditV} (h : editCheck e = 0) : 0 ≤ e.at_ ∧ e.at_ ≤ 60 := by
  have h1 := (edit_ok h).2 97 (by decide)
  cases hu : (formF e.op).contains 97 with
  | true => exact betE (st_used h1 hu)
  | false => have := z97 (st_zero h1 hu); omega
end Go.Proofs.YtlggdgpdfepppaaGreatDoor
