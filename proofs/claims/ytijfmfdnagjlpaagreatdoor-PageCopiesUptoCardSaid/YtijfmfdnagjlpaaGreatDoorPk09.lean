/- strings.Join over strings as lists of bytes; plan.dash, plan.point. leg.Text: the words of a leg, joined; the texts of its numbers are told by the callees' contracts. Printed by wip/mklegtext.py. Layer 58 in plain Lean: the keys of the terminal, its pages. No program in sight. -/
import Derived.Test.YtijfmfdnagjlpaaGreatDoorPk08
import Derived.Test.YtijfmfdnagjlpaaGreatDoorPk06
import Derived.Test.YtijfmfdnagjlpaaGreatDoorPk05
import Derived.Lib.Join
import Derived.Lib.ItoaLen
import Derived.Lib.ItoaNum
namespace Go.Proofs.YtijfmfdnagjlpaaGreatDoor
open Go.RowKit Go.Sort
set_option linter.unusedVariables false
set_option linter.unusedSimpArgs false
theorem ba_append (a b : List UInt8) : (ByteArray.mk a.toArray) ++ (ByteArray.mk b.toArray) = ⟨(a ++ b).toArray⟩ := by
  apply ByteArray.ext
  simp [ByteArray.data_append]
theorem ba_maps (ws : List (List UInt8)) : (ws.map fun s => ByteArray.mk s.toArray).map (·.data.toList) = ws := by
  induction ws with
  | nil => rfl
  | cons x r ih => simp [ih]
theorem lens_le : ∀ (ws : List (List UInt8)) (m : Nat), (∀ s ∈ ws, s.length ≤ m) → Lib.lens ws ≤ m * ws.length
  | [], m, _ => by simp [Lib.lens]
  | x :: r, m, h => by
    have h1 := lens_le r m fun s hs => h s (by simp [hs])
    have h2 := h x (by simp)
    have e : Lib.lens (x :: r) = x.length + Lib.lens r := rfl
    rw [e, List.length_cons, Nat.mul_add]; omega
theorem join_len_le (ws : List (List UInt8)) (sep : List UInt8) (m : Nat) (h : ∀ s ∈ ws, s.length ≤ m) : (Lib.join ws sep).length ≤ (m + sep.length) * ws.length := by
  cases ws with
  | nil => simp [Lib.join, List.intercalate]
  | cons x r =>
    rw [Lib.join_length, Nat.add_mul]
    have := lens_le (x :: r) m h
    have h2 : sep.length * r.length ≤ sep.length * (x :: r).length := Nat.mul_le_mul_left _ (by simp)
    omega
def dashB (s : List UInt8) : List UInt8 := if s.isEmpty then [45] else s
def cat (a b : List UInt8) : List UInt8 := a ++ b
theorem cat_len (a b : List UInt8) : (cat a b).length = a.length + b.length := by simp [cat]
theorem ba_cat (a b : List UInt8) : (ByteArray.mk a.toArray) ++ (ByteArray.mk b.toArray) = ⟨(cat a b).toArray⟩ := ba_append a b
attribute [local go_sem] ba_append
def pointText (ref : List UInt8) (x y : Int) : List UInt8 := if ref.isEmpty then [45] else Lib.itoa x ++ [44] ++ Lib.itoa y
theorem callG {P : Program} {f : FuncId} {args : Array Value} {W : World} {v : Value} (h : Calls P f args W fun e w' => e = .returned v ∧ ∃ k os, w' = grow (W.drewN k) os) : Calls P f args W (Ret W v) :=
  h.mono fun e w' ⟨he, k, os, hw⟩ => ⟨he, by rw [hw]; exact below_regrown W (W.drawn + k) os⟩
theorem itoa_len (n : Int) (h0 : -9223372036854775808 ≤ n) (h1 : n ≤ 9223372036854775807) : (Lib.itoa n).length ≤ 21 := Lib.itoa_length_le n h0 h1
theorem fmt_any (n : Int) (h0 : -9223372036854775808 ≤ n) (h1 : n ≤ 9223372036854775807) (w : World) (hL : Laid w) : Calls Tryz.prog 74 #[.int .i64 n, .int .i64 10] w (Ret w (.string ⟨(Lib.itoa n).toArray⟩)) :=
  callG (Tryz.strconv_FormatInt_10 n h0 h1 w hL.pow10)
theorem itoa_any (n : Int) (h0 : -9223372036854775808 ≤ n) (h1 : n ≤ 9223372036854775807) (w : World) (hL : Laid w) : Calls Tryz.prog 28 #[.int .i64 n] w (Ret w (.string ⟨(Lib.itoa n).toArray⟩)) :=
  callG (Tryz.strconv_Itoa n h0 h1 w hL.pow10)
/-- The numbers of a point are numbers of 64 bits. -/
def i64 (n : Int) : Prop := -9223372036854775808 ≤ n ∧ n ≤ 9223372036854775807
end Go.Proofs.YtijfmfdnagjlpaaGreatDoor
namespace Go.Proofs.YtijfmfdnagjlpaaGreatDoor
open Go.RowKit Go.Sort
set_option linter.unusedVariables false
set_option linter.unusedSimpArgs false
def opt (b : Bool) (s : List UInt8) : List (List UInt8) := if b then [s] else []
theorem opt_len (b : Bool) (s : List UInt8) : (opt b s).length ≤ 1 := by cases b <;> simp [opt]
def winB (l : Leg) : Bool := l.lo != -200000 || l.hi != 6000000
/-- The texts of a leg's numbers. -/
structure LegTx where
  course : List UInt8
  dist : List UInt8
  radius : List UInt8
  theta : List UInt8
  win : List UInt8
  speed : List UInt8
  rnp : List UInt8
def nameOf (t : Int) : List UInt8 := namesTab.getD t.toNat []
def legWords (l : Leg) (t : LegTx) : List (List UInt8) := [nameOf l.ty] ++ opt (uB l.ty 1) l.fix ++ opt (uB l.ty 2) (64 :: l.center) ++ opt (uB l.ty 4) (if l.turn = 1 then [76] else [82]) ++ opt (uB l.ty 16) t.course ++ opt (uB l.ty 32) t.dist ++ opt (uB l.ty 64) t.radius ++ opt (uB l.ty 128) (116 :: t.theta) ++ opt (l.over) [111, 118, 101, 114] ++ opt (winB l) t.win ++ opt (l.speed != 0) (115 :: t.speed) ++ opt (l.rnp != 0) t.rnp
def legText (l : Leg) (t : LegTx) : List UInt8 := if legCheck l != 0 then [] else Lib.join (legWords l t) [32]
theorem mem_opt {b : Bool} {s x : List UInt8} (h : x ∈ opt b s) : x = s := by cases b <;> simp_all [opt]
theorem names_len : ∀ s ∈ namesTab, s.length ≤ 2 := by decide
theorem nameOf_len (t : Int) : (nameOf t).length ≤ 2 := by
  unfold nameOf
  rcases Nat.lt_or_ge t.toNat namesTab.length with h | h
  · have e : namesTab.getD t.toNat [] = namesTab[t.toNat] := by simp [h]
    rw [e]; exact names_len _ (List.getElem_mem h)
  · simp [List.getElem?_eq_none h]
theorem legWords_len (l : Leg) (t : LegTx) : (legWords l t).length ≤ 12 := by
  simp only [legWords, List.length_append, List.length_singleton]
  have := opt_len (uB l.ty 1) l.fix
  have := opt_len (uB l.ty 2) (64 :: l.center)
  have := opt_len (uB l.ty 4) (if l.turn = 1 then [76] else [82])
  have := opt_len (uB l.ty 16) t.course
  have := opt_len (uB l.ty 32) t.dist
  have := opt_len (uB l.ty 64) t.radius
  have := opt_len (uB l.ty 128) (116 :: t.theta)
  have := opt_len (l.over) [111, 118, 101, 114]
  have := opt_len (winB l) t.win
  have := opt_len (l.speed != 0) (115 :: t.speed)
  have := opt_len (l.rnp != 0) t.rnp
  omega
theorem SOut.push {w0 W : World} {v : Value} {ws : List (List UInt8)} {b : Bool} {s : List UInt8} (hb : b = false) (h : SOut w0 W v ws) : SOut w0 W v (ws ++ opt b s) := by subst hb; simpa [opt] using h
theorem SOut.push1 {w0 W : World} {v : Value} {ws : List (List UInt8)} {b : Bool} {s : List UInt8} (hb : b = true) (h : SOut w0 W v (ws ++ [s])) : SOut w0 W v (ws ++ opt b s) := by subst hb; exact h
theorem push_len {ws : List (List UInt8)} {n : Nat} (h : ws.length ≤ n) (b : Bool) (s : List UInt8) : (ws ++ opt b s).length ≤ n + 1 := by have := opt_len b s; simp; omega
attribute [local go_sem] bit_eq bit_ne ba_append
theorem Blk.win_at {W : World} {g : Nat} {l : Leg} (h : Blk W g l.arr) : Is_win W g 9 ⟨l.lo, l.hi⟩ := by
  intro j hj
  rw [h.cell]
  match j, hj with
  | 0, _ | 1, _ => rfl
end Go.Proofs.YtijfmfdnagjlpaaGreatDoor
namespace Go.Proofs.YtijfmfdnagjlpaaGreatDoor
open Go.RowKit
set_option linter.unusedVariables false
set_option linter.unusedSimpArgs false
structure Term where
  page : Int
  first : Int
  pad : List UInt8
/-- What the pages read of a view. -/
structure Vw where
  active : Plan
  temp : Plan
  hasTemp : Bool
  px : Int
  py : Int
  lx : Int
  ly : Int
  usable : Bool
  excluded : Int
  required : Int
  left : Int
  lat : Int
  vert : Int
  phase : Int
  bank : Int
  talt : Int
  alerts : List (List UInt8)
  last : Int
/-- ASCII text. -/
def tx (s : String) : List UInt8 := s.toList.map fun c => UInt8.ofNat c.toNat
def signsL : List UInt8 := [65, 66, 67, 68, 69, 70, 71, 72, 73, 74, 75, 76, 77, 78, 79, 80, 81, 82, 83, 84, 85, 86, 87, 88, 89, 90, 48, 49, 50, 51, 52, 53, 54, 55, 56, 57, 47, 46, 58, 43, 45]
def kCLR : List UInt8 := [67, 76, 82]
def kUP : List UInt8 := [85, 80]
def kDOWN : List UInt8 := [68, 79, 87, 78]
def kLEGS : List UInt8 := [76, 69, 71, 83]
def kDIR : List UInt8 := [68, 73, 82]
def kPROG : List UInt8 := [80, 82, 79, 71]
def kMSG : List UInt8 := [77, 83, 71]
def kEXEC : List UInt8 := [69, 88, 69, 67]
def kERASE : List UInt8 := [69, 82, 65, 83, 69]
def kUNDO : List UInt8 := [85, 78, 68, 79]
def kDELETE : List UInt8 := [68, 69, 76, 69, 84, 69]
def wordsL : List (List UInt8) := [kCLR, kUP, kDOWN, kLEGS, kDIR, kPROG, kMSG, kEXEC, kERASE, kUNDO]
def linesL : List (List UInt8) := [[76, 49], [76, 50], [76, 51], [76, 52], [76, 53], [82, 49], [82, 50], [82, 51], [82, 52], [82, 53]]
/-- The 61 keys. -/
def keysL : List (List UInt8) := signsL.map (fun c => [c]) ++ wordsL ++ linesL
def shownS (v : Vw) : Plan := if v.hasTemp then v.temp else v.active
/-- The leg with an index that is not negative. -/
def legAtS (p : Plan) (k : Int) : Option Leg := match p.es[k.toNat]? with | some x => if x.gap then none else some x.leg | none => none
abbrev Pressed := Term × List UInt8 × Int
def editS (t : Term) (word : List UInt8) (k : Int) (rest : List UInt8) : Pressed :=
  if 60 < k then (t, [], 3) else ({ t with pad := [] }, [69, 68, 73, 84, 32] ++ word ++ [32] ++ Lib.itoa k ++ rest, 0)
def fixAtS (p : Plan) (k : Int) : Option (List UInt8) := match legAtS p k with | some l => if endsB l.ty then some l.fix else none | none => none
def leftS (t : Term) (p : Plan) (k : Int) : Pressed :=
  if t.pad = [] then (match fixAtS p k with | some f => ({ t with pad := f }, [], 0) | none => (t, [], 6))
  else if t.pad = kDELETE then (if (p.es.length : Int) ≤ k then (t, [], 6) else editS t kDELETE k [])
  else if (p.es.length : Int) < k then (t, [], 6)
  else if (splitRef t.pad).2.2 != 0 then (t, [], 4)
  else editS t [73, 78, 83, 69, 82, 84] k (32 :: t.pad)
/-- Is this a number from 0 to 1000? (0: yes; the error otherwise.) -/
def speedE (n : List UInt8) : Int :=
  if !plainB (cutPre 45 n).1 || ((cutPre 45 n).2 && (cutPre 45 n).1 == [48]) then 4
  else if (cutPre 45 n).2 then 2 else if 1000 < val n then 2 else 0
def rightS (t : Term) (p : Plan) (k : Int) : Pressed :=
  match legAtS p k with
  | none => (t, [], 6)
  | some l =>
    if t.pad = [] then ({ t with pad := (winT l.lo l.hi).1 }, [], 0)
    else if (cutPre 47 t.pad).2 then (if speedE (cutPre 47 t.pad).1 != 0 then (t, [], 4) else editS t [83, 80, 68] k (32 :: (cutPre 47 t.pad).1))
    else if (parseWinS t.pad).2 != 0 then (t, [], 4)
    else editS t [65, 76, 84] k (32 :: t.pad)
def selectS (t : Term) (v : Vw) (side : UInt8) (row : Int) : Pressed :=
  if t.page = 1 then (if side = 76 then leftS t (shownS v) (t.first + row) else rightS t (shownS v) (t.first + row))
  else if t.page = 2 ∧ side = 76 then
    (match fixAtS (shownS v) (t.first + row) with
     | none => (t, [], 6)
     | some _ => if t.pad ≠ [] then (t, [], 4) else editS t [68, 73, 82, 69, 67, 84] (t.first + row) [])
  else if t.page = 4 ∧ side = 76 ∧ row = 0 ∧ 0 < v.alerts.length then (t, [65, 67, 75], 0)
  else (t, [], 6)
def putS (t : Term) (key : List UInt8) : Pressed :=
  if t.pad = kDELETE then ({ t with pad := key }, [], 0)
  else if t.pad.length = 24 then (t, [], 18) else ({ t with pad := t.pad ++ key }, [], 0)
def functionS (t : Term) (v : Vw) (key : List UInt8) : Pressed :=
  if key = kCLR then (if t.pad = [] then ({ t with pad := kDELETE }, [], 0) else if t.pad = kDELETE then ({ t with pad := [] }, [], 0) else ({ t with pad := t.pad.take (t.pad.length - 1) }, [], 0))
  else if key = kLEGS then ({ t with page := 1, first := 0 }, [], 0)
  else if key = kDIR then ({ t with page := 2, first := 0 }, [], 0)
  else if key = kPROG then ({ t with page := 3, first := 0 }, [], 0)
  else if key = kMSG then ({ t with page := 4, first := 0 }, [], 0)
  else if key = kDOWN then (if ((shownS v).es.length : Int) ≤ t.first + 5 then (t, [], 6) else ({ t with first := t.first + 5 }, [], 0))
  else if key = kUP then (if t.first < 5 then (t, [], 6) else ({ t with first := t.first - 5 }, [], 0))
  else if key = kEXEC ∨ key = kERASE then (if v.hasTemp then (t, key, 0) else (t, [], 8))
  else (t, key, 0)
def pressS (t : Term) (v : Vw) (key : List UInt8) : Pressed :=
  if key ∉ keysL ∨ t.page < 1 ∨ 4 < t.page ∨ t.first < 0 ∨ 1000000 < t.first ∨ 24 < t.pad.length then (t, [], 1)
  else match key with
    | [c] => putS t [c]
    | [a, b] => if key ∈ linesL then selectS t v a ((b.toNat : Int) - 49) else functionS t v key
    | _ => functionS t v key
/-! The pages. -/
def lineS (l r : List UInt8) : List UInt8 :=
  let r' := if 24 < r.length then r.take 24 else r
  let l0 := if 24 < r.length then [] else l
  let l' := if 23 < l0.length + r'.length then l0.take (min l0.length (23 - r'.length)) else l0
  (l' ++ List.replicate (24 - l'.length - r'.length) 32 ++ r').map fun (c : UInt8) => if c.toNat < 32 ∨ 126 < c.toNat then 63 else c
def rowS (t : Term) (p : Plan) (k : Nat) : List (List UInt8) :=
  match p.es[k]? with
  | none => [lineS [] [], lineS [] []]
  | some x =>
    if x.gap then [lineS [] [], lineS [45, 32, 45, 32, 45, 32, 45] [71, 65, 80]]
    else
      [lineS (nameOf x.leg.ty ++ (if (k : Int) = p.active then [32, 60] else [])) x.via,
       lineS (if x.leg.fix = [] then [40] ++ nameOf x.leg.ty ++ [41] else x.leg.fix) ((if (winT x.leg.lo x.leg.hi).2 = 0 then (winT x.leg.lo x.leg.hi).1 else [45]) ++ (if x.leg.speed = 0 then [] else [47] ++ Lib.itoa x.leg.speed))]
def rowsS (t : Term) (p : Plan) : List (List UInt8) :=
  (List.range 5).flatMap fun i => rowS t p ((min (max t.first 0) p.es.length).toNat + i)
def latL : List (List UInt8) := [[], [82, 79, 76, 76], [72, 69, 65, 68, 73, 78, 71], [65, 82, 77, 69, 68], [78, 65, 86], [65, 80, 80, 82, 79, 65, 67, 72], [71, 79, 65, 82, 79, 85, 78, 68]]
def vertL : List (List UInt8) := [[], [72, 79, 76, 68], [67, 76, 73, 77, 66], [68, 69, 83, 67, 69, 78, 68], [83, 80, 69, 69, 68], [67, 65, 80, 84, 85, 82, 69], [80, 65, 84, 72], [71, 76, 73, 68, 69], [71, 79, 65, 82, 79, 85, 78, 68]]
def phaseL : List (List UInt8) := [[], [80, 82, 69, 70, 76, 84], [84, 65, 75, 69, 79, 70, 70], [67, 76, 73, 77, 66], [67, 82, 85, 73, 83, 69], [68, 69, 83, 67, 69, 78, 84], [65, 80, 80, 82, 79, 65, 67, 72], [71, 79, 65, 82, 79, 85, 78, 68], [76, 65, 78, 68, 69, 68]]
def modeN (l : List (List UInt8)) (m : Int) : List UInt8 := l.getD m.toNat []
def modesT (a b c : Int) : List UInt8 := if modeN latL a = [] ∨ modeN vertL b = [] ∨ modeN phaseL c = [] then [] else modeN latL a ++ [32] ++ modeN vertL b ++ [32] ++ modeN phaseL c
def toS (v : Vw) : List UInt8 := if 0 ≤ v.active.active then (match v.active.es[v.active.active.toNat]? with | some x => x.leg.fix | none => []) else []
def progressS (v : Vw) : List (List UInt8) :=
  [lineS [84, 79] (toS v), lineS [76, 69, 70, 84] (distT v.left).1, lineS [88] (Lib.itoa v.px), lineS [89] (Lib.itoa v.py),
   lineS [76, 69, 86, 69, 76, 83] (Lib.itoa v.lx ++ [32] ++ Lib.itoa v.ly), lineS [82, 69, 81, 85, 73, 82, 69, 68] (Lib.itoa v.required),
   lineS [85, 83, 65, 66, 76, 69] (if v.usable then [89, 69, 83] else [78, 79]), lineS [69, 88, 67, 76, 85, 68, 69, 68] (if v.excluded = 0 then [78, 79, 78, 69] else Lib.itoa v.excluded),
   lineS [66, 65, 78, 75] (Lib.itoa v.bank), lineS [65, 76, 84] (altT v.talt).1]
def pageN (t : Term) : List UInt8 := if t.page = 1 then [76, 69, 71, 83] else if t.page = 2 then [68, 73, 82] else if t.page = 3 then [80, 82, 79, 71] else if t.page = 4 then [77, 83, 71] else []
def bodyS (t : Term) (v : Vw) : List (List UInt8) :=
  if t.page = 1 ∨ t.page = 2 then rowsS t (shownS v) else if t.page = 3 then progressS v else if t.page = 4 then (v.alerts.take 10).map (fun s => lineS s []) else []
def titleS (t : Term) (v : Vw) : List UInt8 :=
  lineS ((if v.hasTemp then [77, 79, 68, 32] else [65, 67, 84, 32]) ++ pageN t) (Lib.itoa (max t.first 0 / 5 + 1) ++ [47] ++ Lib.itoa (max (((shownS v).es.length : Int) + 4) 5 / 5))
def fill11 (l : List (List UInt8)) : List (List UInt8) := l ++ List.replicate (11 - l.length) (lineS [] [])
def renderS (t : Term) (v : Vw) : List (List UInt8) :=
  fill11 (titleS t v :: bodyS t v) ++
    [lineS (modesT v.lat v.vert v.phase) [], lineS (v.alerts.headD []) (if v.last = 0 then [] else [69] ++ Lib.itoa v.last), lineS ([91] ++ t.pad ++ [93]) []]
theorem lineS_len (l r : List UInt8) : (lineS l r).length = 24 := by
  unfold lineS
  simp only [List.length_map, List.length_append, List.length_replicate]
  by_cases h : 24 < r.length
  · simp only [if_pos h]
    by_cases h2 : 23 < ([] : List UInt8).length + (r.take 24).length
    · simp only [if_pos h2]
      simp only [List.length_take, List.length_nil] at *; omega
    · simp only [if_neg h2]
      simp only [List.length_take, List.length_nil] at *; omega
  · simp only [if_neg h]
    by_cases h2 : 23 < l.length + r.length
    · simp only [if_pos h2, List.length_take]; omega
    · simp only [if_neg h2]; omega
theorem lineS_in (l r : List UInt8) : ∀ c ∈ lineS l r, 32 ≤ c.toNat ∧ c.toNat ≤ 126 := by
  intro c hc
  unfold lineS at hc
  simp only [List.mem_map] at hc
  obtain ⟨a, _, rfl⟩ := hc
  split
  · decide
  · omega
end Go.Proofs.YtijfmfdnagjlpaaGreatDoor
