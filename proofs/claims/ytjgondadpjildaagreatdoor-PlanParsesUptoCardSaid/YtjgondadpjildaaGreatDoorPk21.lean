/- What leg.Parse computes, in plain Lean: words taken one by one, each accepted or not. The texts of a valid leg's numbers, and leg.Text of a valid leg. The words of a leg's text and what is read of them, in plain Lean: word by word they are inverse. What leg.Parse reads of the first words of a valid leg's text, in plain Lean; and that what it accepts is the text of the leg. Plans' texts in plain Lean: cut into lines and words again. No program in sight. The text of a plan, in plain Lean. Plans' texts in plain Lean: the loose reading of a valid plan's text is the plan. No program in sight. How long the text of a valid plan may be. No program in sight. strconv.ParseInt of every string, its error left aside. -/
import Derived.Test.YtjgondadpjildaaGreatDoorPk18
import Derived.Test.YtjgondadpjildaaGreatDoorPk20
import Derived.Test.YtjgondadpjildaaGreatDoorPk07
import Derived.Test.YtjgondadpjildaaGreatDoorPk17
import Derived.Test.YtjgondadpjildaaGreatDoorPk19
import Derived.Test.YtjgondadpjildaaGreatDoorPk10
import Derived.Test.YtjgondadpjildaaGreatDoorPk15
import Derived.Lib.ParseIntBCases
import Derived.Lib.ConvBytes
namespace Go.Proofs.YtjgondadpjildaaGreatDoor
open Go.RowKit Go.Sort
set_option linter.unusedVariables false
set_option linter.unusedSimpArgs false
def refB (s : List UInt8) : Bool := (splitRef s).2.2 == 0
/-- The distance behind a letter. -/
def legDistS (c : UInt8) : List UInt8 → Int × Bool
  | [] => (0, false)
  | x :: r => if x = c ∧ (distP r).2 = 0 ∧ (distP r).1 ≠ 0 then ((distP r).1, distS (distP r).1.toNat == r) else (0, false)
def speedB : List UInt8 → Bool
  | x :: y :: r => x == 115 && y != 48 && decide (r.length ≤ 3) && (y :: r).all isD
  | _ => false
/-- The number behind the letter s. -/
def speedS (s : List UInt8) : Int × Bool := if speedB s then ((val s.tail : Int), true) else (0, false)
/-- The type with a name among the first k, t0 if there is none. -/
def typeK (s : List UInt8) (t0 : Int) : Nat → Int
  | 0 => t0
  | k + 1 => if 0 < k ∧ namesTab.getD k [] = s then (k : Int) else typeK s t0 k
/-- A word is taken: the leg with it, and whether it is accepted. -/
abbrev Acc := List UInt8 → Leg → Leg × Bool
def accName : Acc := fun s l => ({ l with ty := typeK s l.ty 18 }, typeK s l.ty 18 != 0)
def accFix : Acc := fun s l => ({ l with fix := s }, refB s)
def accCenter : Acc := fun s l => ({ l with center := (cutPre 64 s).1 }, (cutPre 64 s).2 && refB (cutPre 64 s).1)
def accTurn : Acc := fun s l => ({ l with turn := if s = [76] then 1 else 2 }, s == [76] || s == [82])
def accCourse : Acc := fun s l => ({ l with course := (courseS s).1 }, (courseS s).2)
def accDist : Acc := fun s l => ({ l with dist := (legDistS 100 s).1 }, (legDistS 100 s).2)
def accRadius : Acc := fun s l => ({ l with radius := (legDistS 114 s).1 }, (legDistS 114 s).2)
def accTheta : Acc := fun s l => match s with
  | [] => (l, false)
  | x :: r => if x = 116 then ({ l with theta := (courseS r).1 }, (courseS r).2) else (l, false)
def accOver : Acc := fun s l => ({ l with over := s == [111, 118, 101, 114] }, s == [111, 118, 101, 114])
def winTaken (s : List UInt8) : Bool := (parseWinS s).2 == 0 && !((parseWinS s).1.1 == -200000 && (parseWinS s).1.2 == 6000000)
def accWin : Acc := fun s l => if winTaken s then ({ l with lo := (parseWinS s).1.1, hi := (parseWinS s).1.2 }, true) else (l, false)
def accSpeed : Acc := fun s l => if (speedS s).2 then ({ l with speed := (speedS s).1 }, true) else (l, false)
def accRnp : Acc := fun s l => if (legDistS 110 s).2 then ({ l with rnp := (legDistS 110 s).1 }, true) else (l, false)
/-- The reader: the words that are left, the column of the next, the column of the error; and the leg. -/
structure PS where
  ws : List (List UInt8)
  col : Int
  bad : Int
  l : Leg
def PS.need (size : Nat) (f : Acc) (x : PS) : PS :=
  if x.bad ≠ 0 then x else match x.ws with
    | [] => { x with bad := size + 2 }
    | s :: r => if (f s x.l).2 then ⟨r, x.col + (s.length + 1), 0, (f s x.l).1⟩ else { x with bad := x.col, l := (f s x.l).1 }
def PS.may (f : Acc) (x : PS) : PS :=
  if x.bad ≠ 0 then x else match x.ws with
    | [] => x
    | s :: r => if (f s x.l).2 then ⟨r, x.col + (s.length + 1), 0, (f s x.l).1⟩ else { x with l := (f s x.l).1 }
def PS.needIf (b : Bool) (size : Nat) (f : Acc) (x : PS) : PS := if b then x.need size f else x
def leg0 : Leg := ⟨0, [], [], 0, false, 0, 0, 0, 0, 0, 0, 0, 0⟩
def legOpen : Leg := { leg0 with lo := -200000, hi := 6000000 }
def PS.fields (t : Int) (n : Nat) (x : PS) : PS :=
  ((((((x.needIf (uB t 1) n accFix).needIf (uB t 2) n accCenter).needIf (uB t 4) n accTurn).needIf (uB t 16) n accCourse).needIf (uB t 32) n accDist).needIf (uB t 64) n accRadius).needIf (uB t 128) n accTheta
def PS.options (x : PS) : PS := (((x.may accOver).may accWin).may accSpeed).may accRnp
def PS.begin (s : List UInt8) : PS := PS.need s.length accName ⟨words s, 1, 0, legOpen⟩
def PS.last (s : List UInt8) : PS := ((PS.begin s).fields (PS.begin s).l.ty s.length).options
def PS.badAt (x : PS) : Int := if x.ws ≠ [] ∧ x.bad = 0 then x.col else x.bad
def PS.done (x : PS) : Leg × Int × Int :=
  if x.badAt ≠ 0 then (leg0, x.badAt, 4) else if legCheck x.l ≠ 0 then (leg0, 0, legCheck x.l) else (x.l, 0, 0)
def parseS (s : List UInt8) : Leg × Int × Int := (PS.last s).done
/-! What is kept: the column, and the lengths. -/
structure PS.Ok (n : Nat) (x : PS) : Prop where
  col : x.col + (spanW x.ws : Int) = (n : Int) + 2
  one : 1 ≤ x.col
  bad0 : 0 ≤ x.bad
  bad : x.bad ≤ (n : Int) + 2
  fix : x.l.fix.length ≤ n
  center : x.l.center.length ≤ n
  ty0 : 0 ≤ x.l.ty
  ty : x.l.ty ≤ 17
structure Acc.Ok (n : Nat) (f : Acc) : Prop where
  fix : ∀ s l, s.length ≤ n → l.fix.length ≤ n → (f s l).1.fix.length ≤ n
  center : ∀ s l, s.length ≤ n → l.center.length ≤ n → (f s l).1.center.length ≤ n
  ty0 : ∀ s l, 0 ≤ l.ty → 0 ≤ (f s l).1.ty
  ty : ∀ s l, l.ty ≤ 17 → (f s l).1.ty ≤ 17
theorem PS.Ok.word {n : Nat} {x : PS} (h : x.Ok n) {s : List UInt8} {r : List (List UInt8)} (hw : x.ws = s :: r) : s.length ≤ n := by
  have h1 := h.col
  have h2 := h.one
  rw [hw, spanW_cons] at h1
  omega
theorem PS.Ok.need {n : Nat} {x : PS} {f : Acc} (h : x.Ok n) (hf : f.Ok n) : (x.need n f).Ok n := by
  unfold PS.need
  split
  · exact h
  · split
    · exact ⟨h.col, h.one, by simp; omega, by simp, h.fix, h.center, h.ty0, h.ty⟩
    · rename_i s r hw
      have hs := h.word hw
      have hc := h.col
      have h1 := h.one
      rw [hw, spanW_cons] at hc
      split
      · exact ⟨by simp only; omega, by simp only; omega, by simp, by simp only; omega, hf.fix _ _ hs h.fix, hf.center _ _ hs h.center, hf.ty0 _ _ h.ty0, hf.ty _ _ h.ty⟩
      · exact ⟨h.col, h.one, by simp only; omega, by simp only; omega, hf.fix _ _ hs h.fix, hf.center _ _ hs h.center, hf.ty0 _ _ h.ty0, hf.ty _ _ h.ty⟩
theorem PS.Ok.may {n : Nat} {x : PS} {f : Acc} (h : x.Ok n) (hf : f.Ok n) : (x.may f).Ok n := by
  unfold PS.may
  split
  · exact h
  · split
    · exact h
    · rename_i s r hw
      have hs := h.word hw
      have hc := h.col
      have h1 := h.one
      rw [hw, spanW_cons] at hc
      split
      · exact ⟨by simp only; omega, by simp only; omega, by simp, by simp only; omega, hf.fix _ _ hs h.fix, hf.center _ _ hs h.center, hf.ty0 _ _ h.ty0, hf.ty _ _ h.ty⟩
      · exact ⟨h.col, h.one, h.bad0, h.bad, hf.fix _ _ hs h.fix, hf.center _ _ hs h.center, hf.ty0 _ _ h.ty0, hf.ty _ _ h.ty⟩
theorem PS.Ok.needIf {n : Nat} {x : PS} {f : Acc} (b : Bool) (h : x.Ok n) (hf : f.Ok n) : (x.needIf b n f).Ok n := by
  unfold PS.needIf
  split
  · exact h.need hf
  · exact h
theorem cutPre_len (c : UInt8) (s : List UInt8) : (cutPre c s).1.length ≤ s.length := by
  unfold cutPre
  split
  · split <;> simp
  · simp
theorem typeK_bd (s : List UInt8) (t : Int) : ∀ k : Nat, k ≤ 18 → (0 ≤ t → 0 ≤ typeK s t k) ∧ (t ≤ 17 → typeK s t k ≤ 17)
  | 0, _ => ⟨id, id⟩
  | k + 1, h => by
    have ih := typeK_bd s t k (by omega)
    unfold typeK
    split
    · exact ⟨fun _ => by omega, fun _ => by omega⟩
    · exact ih
theorem accName_ok (n : Nat) : accName.Ok n := ⟨fun _ _ _ h => h, fun _ _ _ h => h, fun s l h => (typeK_bd s l.ty 18 (by omega)).1 h, fun s l h => (typeK_bd s l.ty 18 (by omega)).2 h⟩
theorem accFix_ok (n : Nat) : accFix.Ok n := ⟨fun _ _ h _ => h, fun _ _ _ h => h, fun _ _ h => h, fun _ _ h => h⟩
theorem accCenter_ok (n : Nat) : accCenter.Ok n := ⟨fun _ _ _ h => h, fun s _ h _ => Nat.le_trans (cutPre_len 64 s) h, fun _ _ h => h, fun _ _ h => h⟩
theorem accTurn_ok (n : Nat) : accTurn.Ok n := ⟨fun _ _ _ h => h, fun _ _ _ h => h, fun _ _ h => h, fun _ _ h => h⟩
theorem accCourse_ok (n : Nat) : accCourse.Ok n := ⟨fun _ _ _ h => h, fun _ _ _ h => h, fun _ _ h => h, fun _ _ h => h⟩
theorem accDist_ok (n : Nat) : accDist.Ok n := ⟨fun _ _ _ h => h, fun _ _ _ h => h, fun _ _ h => h, fun _ _ h => h⟩
theorem accRadius_ok (n : Nat) : accRadius.Ok n := ⟨fun _ _ _ h => h, fun _ _ _ h => h, fun _ _ h => h, fun _ _ h => h⟩
theorem accOver_ok (n : Nat) : accOver.Ok n := ⟨fun _ _ _ h => h, fun _ _ _ h => h, fun _ _ h => h, fun _ _ h => h⟩
theorem accTheta_eq (s : List UInt8) (l : Leg) : ∃ t b, accTheta s l = ({ l with theta := t }, b) := by
  unfold accTheta
  split
  · exact ⟨l.theta, false, rfl⟩
  · split
    · exact ⟨_, _, rfl⟩
    · exact ⟨l.theta, false, rfl⟩
theorem accTheta_ok (n : Nat) : accTheta.Ok n := by
  refine ⟨?_, ?_, ?_, ?_⟩ <;> intro s l <;> obtain ⟨t, b, h⟩ := accTheta_eq s l <;> rw [h]
  · exact fun _ h => h
  · exact fun _ h => h
  · exact fun h => h
  · exact fun h => h
theorem accWin_ok (n : Nat) : accWin.Ok n := by
  refine ⟨?_, ?_, ?_, ?_⟩ <;> intro s l <;> unfold accWin <;> split
  all_goals first | exact fun _ h => h | exact fun h => h
theorem accSpeed_ok (n : Nat) : accSpeed.Ok n := by
  refine ⟨?_, ?_, ?_, ?_⟩ <;> intro s l <;> unfold accSpeed <;> split
  all_goals first | exact fun _ h => h | exact fun h => h
theorem accRnp_ok (n : Nat) : accRnp.Ok n := by
  refine ⟨?_, ?_, ?_, ?_⟩ <;> intro s l <;> unfold accRnp <;> split
  all_goals first | exact fun _ h => h | exact fun h => h
theorem PS.begin0_ok (s : List UInt8) : PS.Ok s.length ⟨words s, 1, 0, legOpen⟩ :=
  ⟨by simp only [spanW_words]; omega, by simp, by simp, by simp only; omega, by simp [legOpen, leg0], by simp [legOpen, leg0], by simp [legOpen, leg0], by simp [legOpen, leg0]⟩
end Go.Proofs.YtjgondadpjildaaGreatDoor
namespace Go.Proofs.YtjgondadpjildaaGreatDoor
open Go.RowKit Go.Sort
set_option linter.unusedVariables false
set_option linter.unusedSimpArgs false
def txOf (l : Leg) : LegTx := ⟨exactS l.course.toNat, 100 :: distS l.dist.toNat, 114 :: distS l.radius.toNat, exactS l.theta.toNat, winS l.lo l.hi, Lib.decDigits l.speed.toNat, 110 :: distS l.rnp.toNat⟩
theorem orE_zero {a b : Int} : orE a b = 0 ↔ a = 0 ∧ b = 0 := by unfold orE; grind
/-- What a leg without an error is. -/
structure LegOk (l : Leg) : Prop where
  known : knownB l.ty = true
  fix : checkRefI l.fix (uB l.ty 1) = 0
  center : checkRefI l.center (uB l.ty 2) = 0
  turn : turnE (uB l.ty 4) l.turn = 0
  over : overB l = false
  course : checkNum l.course (uB l.ty 16) 0 129599999 = 0
  dist : checkNum l.dist (uB l.ty 32) 1 2000000 = 0
  radius : checkNum l.radius (uB l.ty 64) 1 2000000 = 0
  theta : checkNum l.theta (uB l.ty 128) 0 129599999 = 0
  limits : limitsE l = 0
theorem legOk_of {l : Leg} (h : legCheck l = 0) : LegOk l := by
  unfold legCheck at h
  cases hk : knownB l.ty
  · rw [hk] at h; simp at h
  · rw [hk] at h
    simp only [if_true, orE_zero, legC2, legC3, legC4] at h
    obtain ⟨h1, h2, h3, h4, h5, h6, h7, h8, h9⟩ := h
    refine ⟨hk, h1, h2, h3, ?_, h5, h6, h7, h8, h9⟩
    cases ho : overB l
    · rfl
    · rw [ho] at h4; simp at h4
theorem legCheck_of {l : Leg} (h : LegOk l) : legCheck l = 0 := by
  unfold legCheck
  rw [h.known]
  simp only [if_true, orE_zero, legC2, legC3, legC4]
  exact ⟨h.fix, h.center, h.turn, by rw [h.over]; rfl, h.course, h.dist, h.radius, h.theta, h.limits⟩
theorem num_used {n lo hi : Int} {b : Bool} (h : checkNum n b lo hi = 0) (hb : b = true) : lo ≤ n ∧ n ≤ hi := by
  subst hb; unfold checkNum at h; grind
theorem num_free {n lo hi : Int} {b : Bool} (h : checkNum n b lo hi = 0) (hb : b = false) : n = 0 := by
  subst hb; unfold checkNum at h; grind
theorem limits_of {l : Leg} (h : limitsE l = 0) : winOk l.lo l.hi ∧ (climbsB l.ty = true → l.lo ≠ -200000) ∧ 0 ≤ l.speed ∧ l.speed ≤ 1000 ∧ 0 ≤ l.rnp ∧ l.rnp ≤ 120000 := by
  unfold limitsE at h
  unfold winOk
  grind
theorem tx_small {l : Leg} (h : LegOk l) : ∀ s ∈ [exactS l.course.toNat, 100 :: distS l.dist.toNat, 114 :: distS l.radius.toNat, exactS l.theta.toNat, winS l.lo l.hi, Lib.decDigits l.speed.toNat, 110 :: distS l.rnp.toNat], s.length ≤ 1000 := by
  obtain ⟨hw, _, s0, s1, r0, r1⟩ := limits_of h.limits
  have e1 := exactS_len l.course.toNat
  have e2 := exactS_len l.theta.toNat
  have hd : l.dist.toNat ≤ 8000000 := by
    cases hb : uB l.ty 32
    · have := num_free h.dist hb; omega
    · have := num_used h.dist hb; omega
  have hr : l.radius.toNat ≤ 8000000 := by
    cases hb : uB l.ty 64
    · have := num_free h.radius hb; omega
    · have := num_used h.radius hb; omega
  have e3 := distS_len hd
  have e4 := distS_len hr
  have e5 := winS_len hw
  have e6 : (Lib.decDigits l.speed.toNat).length ≤ 4 := dec_len (by decide) (by omega)
  have e7 := distS_len (d := l.rnp.toNat) (by omega)
  simp only [List.mem_cons, List.not_mem_nil, or_false, forall_eq_or_imp, forall_eq, List.length_cons]
  refine ⟨?_, ?_, ?_, ?_, ?_, ?_, ?_⟩ <;> omega
theorem legTexts_of {l : Leg} (h : LegOk l) : LegTexts l (txOf l) where
  course hb w hL := exact_any l.course w (num_used h.course hb).1 (by have := (num_used h.course hb).2; omega)
  dist hb w hL := distance_any 100 l.dist w hL (by have := (num_used h.dist hb).1; omega) (by have := (num_used h.dist hb).2; omega)
  radius hb w hL := distance_any 114 l.radius w hL (by have := (num_used h.radius hb).1; omega) (by have := (num_used h.radius hb).2; omega)
  theta hb w hL := exact_any l.theta w (num_used h.theta hb).1 (by have := (num_used h.theta hb).2; omega)
  win hb w hL := winText_in l.lo l.hi w hL (limits_of h.limits).1
  speed hb w hL := (decimal_any l.speed w (limits_of h.limits).2.2.1 (by have := (limits_of h.limits).2.2.2.1; omega)).mono fun e w' h => h.ret
  rnp hb w hL := distance_any 110 l.rnp w hL (limits_of h.limits).2.2.2.2.1 (by have := (limits_of h.limits).2.2.2.2.2; omega)
  small := tx_small h
/-- The text of a leg. -/
def textS (l : Leg) : List UInt8 := legText l (txOf l)
theorem text_ok (l : Leg) (w : World) (hL : Laid w) (hl : l.small) (h : LegOk l) : Calls Tryz.prog 48 #[l.val] w (Ret w (.string ⟨(textS l).toArray⟩)) := text_any l (txOf l) w hL hl (legTexts_of h)
end Go.Proofs.YtjgondadpjildaaGreatDoor
namespace Go.Proofs.YtjgondadpjildaaGreatDoor
open Go.RowKit Go.Sort
set_option linter.unusedVariables false
set_option linter.unusedSimpArgs false
theorem digW_all (k n : Nat) : (digW k n).all isD = true := by
  induction k generalizing n with
  | zero => rfl
  | succ k ih => simp [digW, ih, isD_dg (Nat.mod_lt n (by decide : 0 < 10))]
theorem val_digW (k n : Nat) : val (digW k n) = n % 10 ^ k := by
  induction k generalizing n with
  | zero => simp [digW, val, numV, Nat.mod_one]
  | succ k ih =>
    rw [digW, val_snoc, ih, dg_toNat (Nat.mod_lt n (by decide)), Nat.pow_succ, Nat.mul_comm (10 ^ k) 10, Nat.mod_mul]
    omega
theorem digW_val (l : List UInt8) : l.all isD = true → digW l.length (val l) = l := by
  refine snoc_ind (P := fun l => l.all isD = true → digW l.length (val l) = l) (fun _ => rfl) (fun l c ih h => ?_) l
  simp only [List.all_append, Bool.and_eq_true, List.all_cons, List.all_nil, Bool.and_true] at h
  have hc : 48 ≤ c.toNat ∧ c.toNat ≤ 57 := by simpa [isD] using h.2
  have e1 : (10 * val l + (c.toNat - 48)) / 10 = val l := by omega
  have e2 : (10 * val l + (c.toNat - 48)) % 10 = c.toNat - 48 := by omega
  rw [List.length_append, List.length_singleton, digW, val_snoc, e1, e2, ih h.1, dg_of h.2]
theorem exactS_all (a : Nat) : (exactS a).all isD = true := by simp [exactS, digW_all]
theorem angP_exactS (a : Nat) (h : a < 129600000) : angP (exactS a) = ((a : Int), true) := by
  have l3 := digW_len 3 (a / 360000)
  have l2 := digW_len 2 (a % 360000 / 6000)
  have l1 := digW_len 2 (a % 6000 / 100)
  have l0 := digW_len 2 (a % 100)
  have v3 := val_digW 3 (a / 360000)
  have v2 := val_digW 2 (a % 360000 / 6000)
  have v1 := val_digW 2 (a % 6000 / 100)
  have v0 := val_digW 2 (a % 100)
  have e0 := exactS_all a
  have e9 := exactS_len a
  unfold exactS at e0 e9
  unfold angP exactS
  generalize digW 3 (a / 360000) = A at *
  generalize digW 2 (a % 360000 / 6000) = B at *
  generalize digW 2 (a % 6000 / 100) = C at *
  generalize digW 2 (a % 100) = D at *
  have t3 : (A ++ B ++ C ++ D).take 3 = A := by rw [List.append_assoc, List.append_assoc, List.take_append_of_le_length (by omega), List.take_of_length_le (by omega)]
  have d3 : (A ++ B ++ C ++ D).drop 3 = B ++ C ++ D := by rw [List.append_assoc, List.append_assoc, ← l3, List.drop_left, List.append_assoc]
  have t2 : (B ++ C ++ D).take 2 = B := by rw [List.append_assoc, List.take_append_of_le_length (by omega), List.take_of_length_le (by omega)]
  have d5 : (A ++ B ++ C ++ D).drop 5 = C ++ D := by rw [show A ++ B ++ C ++ D = (A ++ B) ++ (C ++ D) by simp, show 5 = (A ++ B).length by simp; omega, List.drop_left]
  have t5 : (C ++ D).take 2 = C := by rw [List.take_append_of_le_length (by omega), List.take_of_length_le (by omega)]
  have d7 : (A ++ B ++ C ++ D).drop 7 = D := by rw [show 7 = (A ++ B ++ C).length by simp; omega, List.drop_left]
  rw [t3, d3, t2, d5, t5, d7, if_pos ⟨e9, e0, by omega, by omega⟩, v3, v2, v1, v0]
  refine Prod.ext ?_ rfl
  show _ = (a : Int)
  omega
theorem courseS_exactS {a : Int} (h0 : 0 ≤ a) (h : a ≤ 129599999) : courseS (exactS a.toNat) = (a, true) := by
  unfold courseS parseExS
  rw [if_pos (exactS_len _), angP_exactS _ (by omega)]
  simp only [if_true]
  rw [if_pos (by omega)]
  refine Prod.ext ?_ rfl
  show ((a.toNat : Nat) : Int) = a
  omega
theorem courseS_back {s : List UInt8} (h : (courseS s).2 = true) : 0 ≤ (courseS s).1 ∧ (courseS s).1 ≤ 129599999 ∧ exactS (courseS s).1.toNat = s := by
  unfold courseS at h ⊢
  by_cases h9 : s.length = 9
  · rw [if_pos h9] at h ⊢
    unfold parseExS at h ⊢
    by_cases ha : (angP s).2 = true
    · rw [if_pos ha] at h ⊢
      by_cases hb : (angP s).1 < 129600000
      · rw [if_pos hb] at h ⊢
        simp only
        unfold angP at ha hb ⊢
        by_cases hq : s.length = 9 ∧ s.all isD = true ∧ val ((s.drop 3).take 2) < 60 ∧ val ((s.drop 5).take 2) < 60
        · rw [if_pos hq] at hb ⊢
          simp only at hb ⊢
          obtain ⟨_, hd, q1, q2⟩ := hq
          have w3 : (s.take 3).all isD = true := List.all_eq_true.2 fun x hx => (List.all_eq_true.1 hd) x (List.mem_of_mem_take hx)
          have w2 : ((s.drop 3).take 2).all isD = true := List.all_eq_true.2 fun x hx => (List.all_eq_true.1 hd) x (List.mem_of_mem_drop (List.mem_of_mem_take hx))
          have w1 : ((s.drop 5).take 2).all isD = true := List.all_eq_true.2 fun x hx => (List.all_eq_true.1 hd) x (List.mem_of_mem_drop (List.mem_of_mem_take hx))
          have w0 : (s.drop 7).all isD = true := List.all_eq_true.2 fun x hx => (List.all_eq_true.1 hd) x (List.mem_of_mem_drop hx)
          have d3 := digW_val _ w3
          have d2 := digW_val _ w2
          have d1 := digW_val _ w1
          have d0 := digW_val _ w0
          have b3 := val_lt _ w3
          have b2 := val_lt _ w2
          have b1 := val_lt _ w1
          have b0 := val_lt _ w0
          have n3 : (s.take 3).length = 3 := by simp; omega
          have n2 : ((s.drop 3).take 2).length = 2 := by simp; omega
          have n1 : ((s.drop 5).take 2).length = 2 := by simp; omega
          have n0 : (s.drop 7).length = 2 := by simp; omega
          rw [n3] at d3 b3
          rw [n2] at d2 b2
          rw [n1] at d1 b1
          rw [n0] at d0 b0
          have hs : s = s.take 3 ++ (s.drop 3).take 2 ++ (s.drop 5).take 2 ++ s.drop 7 := by
            have e1 : s = s.take 3 ++ s.drop 3 := (List.take_append_drop 3 s).symm
            have e2 : s.drop 3 = (s.drop 3).take 2 ++ s.drop 5 := by have := (List.take_append_drop 2 (s.drop 3)).symm; rwa [List.drop_drop] at this
            have e3 : s.drop 5 = (s.drop 5).take 2 ++ s.drop 7 := by have := (List.take_append_drop 2 (s.drop 5)).symm; rwa [List.drop_drop] at this
            rw [List.append_assoc, List.append_assoc, ← e3, ← e2, ← e1]
          generalize s.take 3 = A at *
          generalize (s.drop 3).take 2 = B at *
          generalize (s.drop 5).take 2 = C at *
          generalize s.drop 7 = D at *
          refine ⟨by omega, by omega, ?_⟩
          have en : ((val A : Int) * 360000 + (val B : Int) * 6000 + (val C : Int) * 100 + (val D : Int)).toNat = val A * 360000 + val B * 6000 + val C * 100 + val D := by omega
          rw [en]
          unfold exactS
          rw [show (val A * 360000 + val B * 6000 + val C * 100 + val D) / 360000 = val A by omega, show (val A * 360000 + val B * 6000 + val C * 100 + val D) % 360000 / 6000 = val B by omega,
            show (val A * 360000 + val B * 6000 + val C * 100 + val D) % 6000 / 100 = val C by omega, show (val A * 360000 + val B * 6000 + val C * 100 + val D) % 100 = val D by omega, d3, d2, d1, d0, ← hs]
        · rw [if_neg hq] at ha; simp at ha
      · rw [if_neg hb] at h; simp at h
    · rw [if_neg ha] at h; simp at h
  · rw [if_neg h9] at h; simp at h
theorem legDist_fwd (c : UInt8) {d : Int} (h0 : 1 ≤ d) (h : d ≤ 8000000) : legDistS c (c :: distS d.toNat) = (d, true) := by
  have e := distP_distS (d := d.toNat) (by omega)
  have e1 : ((d.toNat : Nat) : Int) = d := by omega
  rw [e1] at e
  unfold legDistS
  simp only
  rw [e, if_pos ⟨trivial, rfl, by simp only; omega⟩]
  simp
theorem legDist_back {c : UInt8} {s : List UInt8} (h : (legDistS c s).2 = true) : 1 ≤ (legDistS c s).1 ∧ s = c :: distS (legDistS c s).1.toNat := by
  cases s with
  | nil => simp [legDistS] at h
  | cons x r =>
    unfold legDistS at h ⊢
    simp only at h ⊢
    by_cases hq : x = c ∧ (distP r).2 = 0 ∧ (distP r).1 ≠ 0
    · rw [if_pos hq] at h ⊢
      obtain ⟨rfl, h1, h2⟩ := hq
      have hb := distS_distP h1
      refine ⟨by simp only; omega, ?_⟩
      have : distS (distP r).1.toNat = r := by simpa using h
      rw [this]
    · rw [if_neg hq] at h; simp at h
theorem dec_head1 {u : Nat} (h : 0 < u) : ∃ c r, Lib.decDigits u = c :: r ∧ (c != 48) = true := by
  obtain ⟨c, r, h1, h2⟩ := dec_head u h
  exact ⟨c, r, h1, by simpa using h2⟩
theorem speed_fwd {n : Int} (h0 : 1 ≤ n) (h : n ≤ 1000) : speedS (115 :: Lib.decDigits n.toNat) = (n, true) := by
  obtain ⟨c, r, e, hc⟩ := dec_head1 (u := n.toNat) (by omega)
  have hl : (Lib.decDigits n.toNat).length ≤ 4 := dec_len (by decide) (by omega)
  have ha := dec_all n.toNat
  have hv := val_dec n.toNat
  rw [e] at hl ha hv ⊢
  unfold speedS speedB
  rw [if_pos (by simp only [ha, hc, Bool.and_true, Bool.true_and, beq_self_eq_true, decide_eq_true_eq]; simp at hl; omega)]
  refine Prod.ext ?_ rfl
  show ((val (c :: r) : Nat) : Int) = n
  omega
theorem speed_back {s : List UInt8} (h : (speedS s).2 = true) : 1 ≤ (speedS s).1 ∧ s = 115 :: Lib.decDigits (speedS s).1.toNat := by
  unfold speedS at h ⊢
  by_cases hb : speedB s = true
  · rw [if_pos hb] at h ⊢
    unfold speedB at hb
    split at hb
    · rename_i x y r
      simp only [Bool.and_eq_true, beq_iff_eq, bne_iff_ne, decide_eq_true_eq, ne_eq] at hb
      obtain ⟨⟨⟨rfl, hy⟩, hr⟩, ha⟩ := hb
      have hd : isD y = true := by simp at ha; exact ha.1
      have hp : plainB (y :: r) = true := by
        have := ha
        unfold plainB
        cases r with
        | nil => simpa using ha
        | cons z t => simp [ha, hy] at ha ⊢
      have hv := val_pos y r hd hy
      have he := dec_val _ hp
      simp only [List.tail_cons]
      refine ⟨by omega, ?_⟩
      rw [show ((val (y :: r) : Nat) : Int).toNat = val (y :: r) by omega, he]
    · cases hb
  · rw [if_neg hb] at h; simp at h
theorem speed_no {s : List UInt8} (h : ∀ r, s ≠ 115 :: r) : speedS s = (0, false) := by
  unfold speedS
  rw [if_neg]
  intro hb
  unfold speedB at hb
  split at hb
  · rename_i x y r
    simp only [Bool.and_eq_true, beq_iff_eq] at hb
    exact h (y :: r) (by rw [hb.1.1.1])
  · cases hb
theorem typeK_fwd : ∀ k : Fin 17, typeK (nameOf ((k.val + 1 : Nat) : Int)) 0 18 = ((k.val + 1 : Nat) : Int) := by decide +kernel
theorem type_fwd {t : Int} (h : knownB t = true) : typeK (nameOf t) 0 18 = t := by
  have h1 : 1 ≤ t ∧ t ≤ 17 := by simpa [knownB] using h
  have h2 := typeK_fwd ⟨t.toNat - 1, by omega⟩
  have e : ((t.toNat - 1 + 1 : Nat) : Int) = t := by omega
  simp only [e] at h2
  exact h2
theorem typeK_back (s : List UInt8) : ∀ k : Nat, k ≤ 18 → typeK s 0 k ≠ 0 → knownB (typeK s 0 k) = true ∧ nameOf (typeK s 0 k) = s
  | 0, _, h => absurd rfl h
  | k + 1, hk, h => by
    unfold typeK at h ⊢
    by_cases hc : 0 < k ∧ namesTab.getD k [] = s
    · rw [if_pos hc] at h ⊢
      refine ⟨by simp [knownB]; omega, ?_⟩
      unfold nameOf
      rw [show ((k : Nat) : Int).toNat = k by omega]
      exact hc.2
    · rw [if_neg hc] at h ⊢
      exact typeK_back s k (by omega) h
theorem refB_iff {s : List UInt8} : refB s = true ↔ checkRefI s true = 0 := by
  unfold refB checkRefI
  simp only [if_true, beq_iff_eq]
  constructor
  · intro h; rw [if_pos h]
  · intro h
    by_cases h2 : (splitRef s).2.2 = 0
    · exact h2
    · rw [if_neg h2] at h; cases h
theorem alnum_no {l : List UInt8} (h : l.all alnum = true) : (32 : UInt8) ∉ l := fun hm => by
  have := (List.all_eq_true.1 h) 32 hm
  exact absurd this (by decide)
theorem nameB_all {l : List UInt8} {m : Int} (h : nameB l m = true) : l.all alnum = true := by
  unfold nameB at h
  split at h
  · cases h
  · simp only [Bool.and_eq_true] at h; exact h.2
theorem ref_no {s : List UInt8} (h : refB s = true) : (32 : UInt8) ∉ s := by
  have h0 : (splitRef s).2.2 = 0 := by simpa [refB] using h
  unfold splitRef splitRef3 at h0
  by_cases hq : (cutAt 47 s).2.2 = true
  · rw [if_pos hq] at h0
    by_cases hn : (nameB (cutAt 47 s).1 6 && (nameB (cutAt 47 s).2.1 6 || shortB (cutAt 47 s).2.1)) = true
    · have hp := cutAt_parts 47 s hq
      simp only [Bool.and_eq_true, Bool.or_eq_true] at hn
      have a1 := alnum_no (nameB_all hn.1)
      have a2 : (32 : UInt8) ∉ (cutAt 47 s).2.1 := by
        rcases hn.2 with h2 | h2
        · exact alnum_no (nameB_all h2)
        · unfold shortB at h2; simp only [Bool.and_eq_true] at h2; exact alnum_no h2.2
      rw [hp]
      simp only [List.mem_append, List.mem_cons, not_or]
      exact ⟨a1, by decide, a2⟩
    · rw [if_neg hn] at h0; cases h0
  · rw [if_neg hq] at h0; cases h0
theorem dig_no {l : List UInt8} (h : l.all isD = true) : (32 : UInt8) ∉ l := fun hm => by
  have := (List.all_eq_true.1 h) 32 hm
  exact absurd this (by decide)
theorem dist_no (d : Nat) : (32 : UInt8) ∉ distS d := by
  unfold distS
  have h1 := dig_no (dec_all (d / 6000))
  have h2 := dig_no (dec_all (d % 6000))
  split
  · simpa using h1
  · simp only [List.mem_append, List.mem_cons, not_or]
    exact ⟨h1, by decide, h2⟩
theorem alt_no (a : Int) : (32 : UInt8) ∉ altS a := altS_not (by decide) a
theorem win_no (lo hi : Int) : (32 : UInt8) ∉ winS lo hi := by
  unfold winS
  have h1 := alt_no lo
  have h2 := alt_no hi
  repeat' split
  · decide
  · exact h1
  · simp only [List.mem_append, List.mem_cons, not_or, List.not_mem_nil, not_false_eq_true, and_true]; exact ⟨h1, by decide⟩
  · simp only [List.mem_append, List.mem_cons, not_or, List.not_mem_nil, not_false_eq_true, and_true]; exact ⟨h2, by decide⟩
  · simp only [List.mem_append, List.mem_cons, not_or]; exact ⟨h1, by decide, h2⟩
theorem altS_first (a : Int) : ∃ c r, altS a = c :: r ∧ altC c = true := by
  have h := altS_all a
  match h2 : altS a with
  | [] => exact absurd h2 (altS_ne a)
  | c :: r => rw [h2] at h; simp at h; exact ⟨c, r, rfl, h.1⟩
/-- A window's text begins with a digit or a sign. -/
theorem winS_first (lo hi : Int) : ∃ c r, winS lo hi = c :: r ∧ altC c = true := by
  obtain ⟨c, r, e, hc⟩ := altS_first lo
  obtain ⟨c', r', e', hc'⟩ := altS_first hi
  unfold winS
  repeat' split
  · exact ⟨45, [], rfl, by decide⟩
  · exact ⟨c, r, e, hc⟩
  · exact ⟨c, r ++ [43], by rw [e]; rfl, hc⟩
  · exact ⟨c', r' ++ [45], by rw [e']; rfl, hc'⟩
  · exact ⟨c, r ++ 58 :: altS hi, by rw [e]; rfl, hc⟩
theorem win_fwd {lo hi : Int} (h : winOk lo hi) (hn : ¬ (lo = -200000 ∧ hi = 6000000)) : winTaken (winS lo hi) = true := by
  unfold winTaken
  rw [parseWin_winS h]
  simp only [beq_self_eq_true, Bool.true_and, Bool.not_eq_true', Bool.and_eq_false_iff, beq_eq_false_iff_ne]
  rcases Int.decEq lo (-200000) with h1 | h1
  · exact .inl h1
  · exact .inr fun h2 => hn ⟨h1, h2⟩
theorem win_back {s : List UInt8} (h : winTaken s = true) : winOk (parseWinS s).1.1 (parseWinS s).1.2 ∧ winS (parseWinS s).1.1 (parseWinS s).1.2 = s ∧ ¬ ((parseWinS s).1.1 = -200000 ∧ (parseWinS s).1.2 = 6000000) := by
  unfold winTaken at h
  simp only [Bool.and_eq_true, beq_iff_eq, Bool.not_eq_true', Bool.and_eq_false_iff, beq_eq_false_iff_ne] at h
  have h1 := parseWin_ok h.1
  refine ⟨h1.1, h1.2, ?_⟩
  rintro ⟨h2, h3⟩
  rcases h.2 with h4 | h4
  · exact h4 h2
  · exact h4 h3
theorem win_not {c : UInt8} {r : List UInt8} (h : altC c = false) : winTaken (c :: r) = false := by
  cases hw : winTaken (c :: r)
  · rfl
  · obtain ⟨_, h2, _⟩ := win_back hw
    obtain ⟨c', r', e, hc⟩ := winS_first (parseWinS (c :: r)).1.1 (parseWinS (c :: r)).1.2
    rw [e] at h2
    injection h2 with h3 h4
    rw [h3, h] at hc; cases hc
end Go.Proofs.YtjgondadpjildaaGreatDoor
namespace Go.Proofs.YtjgondadpjildaaGreatDoor
open Go.RowKit Go.Sort
set_option linter.unusedVariables false
set_option linter.unusedSimpArgs false
abbrev Ws := List (List UInt8)
/-- The reader stands ahead of the words W, cut behind some of them; the leg is l. -/
def AtS (full : Prop) (W : Ws) (l : Leg) (x : PS) : Prop := x.bad = 0 ∧ x.l = l ∧ ∃ j, x.ws = W.take j ∧ (full → W.length ≤ j)
/-- A word is missing at the end. -/
def OutS (n : Nat) (full : Prop) (x : PS) : Prop := ¬ full ∧ x.bad = (n : Int) + 2 ∧ x.ws = []
theorem OutS.needIf {n : Nat} {full : Prop} {x : PS} (h : OutS n full x) (b : Bool) (f : Acc) : OutS n full (x.needIf b n f) := by
  obtain ⟨h1, h2, h3⟩ := h
  have e : x.needIf b n f = x := by
    unfold PS.needIf PS.need
    cases b
    · rfl
    · simp only [if_true]; rw [if_pos (by omega)]
  rw [e]; exact ⟨h1, h2, h3⟩
theorem OutS.may {n : Nat} {full : Prop} {x : PS} (h : OutS n full x) (f : Acc) : OutS n full (x.may f) := by
  obtain ⟨h1, h2, h3⟩ := h
  have e : x.may f = x := by unfold PS.may; rw [if_pos (by omega)]
  rw [e]; exact ⟨h1, h2, h3⟩
theorem AtS.needIf {n : Nat} {full : Prop} {W : Ws} {l l' : Leg} {x : PS} {s : List UInt8} {b : Bool} {f : Acc} (h : AtS full (opt b s ++ W) l x) (h1 : b = true → f s l = (l', true)) (h0 : b = false → l' = l) :
    AtS full W l' (x.needIf b n f) ∨ OutS n full (x.needIf b n f) := by
  obtain ⟨hb, rfl, j, hw, hj⟩ := h
  cases b
  · left
    rw [h0 rfl]
    exact ⟨hb, rfl, j, by simpa [PS.needIf, opt] using hw, by simpa [opt] using hj⟩
  · have hw' : x.ws = (s :: W).take j := by simpa [opt] using hw
    have hj' : full → W.length + 1 ≤ j := fun hf => by have := hj hf; simp [opt] at this; omega
    unfold PS.needIf PS.need
    simp only [if_true]
    rw [if_neg (by omega)]
    cases j with
    | zero =>
      right
      rw [hw']
      exact ⟨fun hf => by have := hj' hf; omega, rfl, by simp⟩
    | succ j =>
      left
      rw [hw']
      simp only [List.take_succ_cons]
      rw [h1 rfl]
      exact ⟨rfl, rfl, j, rfl, fun hf => by have := hj' hf; omega⟩
theorem AtS.may {n : Nat} {full : Prop} {W : Ws} {l l' : Leg} {x : PS} {s : List UInt8} {b : Bool} {f : Acc} (h : AtS full (opt b s ++ W) l x) (h1 : b = true → f s l = (l', true)) (h0 : b = false → l' = l ∧ ∀ s' ∈ W, f s' l = (l, false)) :
    AtS full W l' (x.may f) ∨ (¬ full ∧ AtS full W l (x.may f)) := by
  obtain ⟨hb, rfl, j, hw, hj⟩ := h
  cases b
  · left
    obtain ⟨e, h2⟩ := h0 rfl
    rw [e]
    have hw' : x.ws = W.take j := by simpa [opt] using hw
    have hj' : full → W.length ≤ j := by simpa [opt] using hj
    unfold PS.may
    rw [if_neg (by omega)]
    match hq : x.ws with
    | [] => exact ⟨hb, rfl, j, by rw [← hw', hq], hj'⟩
    | s' :: r =>
      have hm : s' ∈ W := by have : s' ∈ W.take j := by rw [← hw', hq]; simp
                             exact List.mem_of_mem_take this
      simp only
      rw [h2 s' hm, if_neg (by simp)]
      exact ⟨hb, rfl, j, by rw [← hw', hq], hj'⟩
  · have hw' : x.ws = (s :: W).take j := by simpa [opt] using hw
    have hj' : full → W.length + 1 ≤ j := fun hf => by have := hj hf; simp [opt] at this; omega
    unfold PS.may
    rw [if_neg (by omega)]
    cases j with
    | zero =>
      right
      refine ⟨fun hf => by have := hj' hf; omega, ?_⟩
      rw [hw']
      exact ⟨hb, rfl, 0, by simpa using hw', fun hf => by have := hj' hf; omega⟩
    | succ j =>
      left
      rw [hw']
      simp only [List.take_succ_cons]
      rw [h1 rfl]
      exact ⟨rfl, rfl, j, rfl, fun hf => by have := hj' hf; omega⟩
/-- The leg's options, each its own or none. -/
structure OptOf (full : Prop) (l m : Leg) : Prop where
  ty : m.ty = l.ty
  fix : m.fix = l.fix
  center : m.center = l.center
  turn : m.turn = l.turn
  course : m.course = l.course
  dist : m.dist = l.dist
  radius : m.radius = l.radius
  theta : m.theta = l.theta
  over : m.over = l.over ∨ (¬ full ∧ m.over = false)
  win : (m.lo = l.lo ∧ m.hi = l.hi) ∨ (¬ full ∧ m.lo = -200000 ∧ m.hi = 6000000)
  speed : m.speed = l.speed ∨ (¬ full ∧ m.speed = 0)
  rnp : m.rnp = l.rnp ∨ (¬ full ∧ m.rnp = 0)
def needW (l : Leg) : Ws := opt (uB l.ty 1) l.fix ++ (opt (uB l.ty 2) (64 :: l.center) ++ (opt (uB l.ty 4) (if l.turn = 1 then [76] else [82]) ++ (opt (uB l.ty 16) (txOf l).course ++ (opt (uB l.ty 32) (txOf l).dist ++ (opt (uB l.ty 64) (txOf l).radius ++ (opt (uB l.ty 128) (116 :: (txOf l).theta) ++ []))))))
def optW (l : Leg) : Ws := opt l.over [111, 118, 101, 114] ++ (opt (winB l) (txOf l).win ++ (opt (l.speed != 0) (115 :: (txOf l).speed) ++ (opt (l.rnp != 0) (txOf l).rnp ++ [])))
theorem legWords_eq (l : Leg) : legWords l (txOf l) = nameOf l.ty :: (needW l ++ optW l) := by
  simp only [legWords, needW, optW, List.append_assoc, List.append_nil, List.singleton_append, List.cons_append, List.nil_append]
theorem opt_noW {b : Bool} {s x : List UInt8} (h : b = true → (32 : UInt8) ∉ s) (hx : x ∈ opt b s) : (32 : UInt8) ∉ x := by
  cases b
  · cases hx
  · have : x = s := by simpa [opt] using hx
    rw [this]; exact h rfl
theorem legWords_no {l : Leg} (h : LegOk l) : ∀ s ∈ legWords l (txOf l), (32 : UInt8) ∉ s := by
  intro s hs
  have nm : (32 : UInt8) ∉ nameOf l.ty := by
    have h1 : 1 ≤ l.ty ∧ l.ty ≤ 17 := by simpa [knownB] using h.known
    have hd : ∀ k : Fin 17, (32 : UInt8) ∉ nameOf ((k.val + 1 : Nat) : Int) := by decide +kernel
    have h2 := hd ⟨l.ty.toNat - 1, by omega⟩
    have e : ((l.ty.toNat - 1 + 1 : Nat) : Int) = l.ty := by omega
    simp only [e] at h2
    exact h2
  simp only [legWords, List.mem_append, List.mem_singleton] at hs
  rcases hs with (((((((((((hs | hs) | hs) | hs) | hs) | hs) | hs) | hs) | hs) | hs) | hs) | hs)
  · rw [hs]; exact nm
  · exact opt_noW (fun hb => ref_no (refB_iff.2 (by have := h.fix; rwa [hb] at this))) hs
  · exact opt_noW (fun hb => by have := ref_no (refB_iff.2 (by have := h.center; rwa [hb] at this)); simp only [List.mem_cons, not_or]; exact ⟨by decide, this⟩) hs
  · exact opt_noW (fun hb => by split <;> decide) hs
  · exact opt_noW (fun hb => dig_no (exactS_all _)) hs
  · exact opt_noW (fun hb => by simp only [txOf, List.mem_cons, not_or]; exact ⟨by decide, dist_no _⟩) hs
  · exact opt_noW (fun hb => by simp only [txOf, List.mem_cons, not_or]; exact ⟨by decide, dist_no _⟩) hs
  · exact opt_noW (fun hb => by simp only [txOf, List.mem_cons, not_or]; exact ⟨by decide, dig_no (exactS_all _)⟩) hs
  · exact opt_noW (fun hb => by decide) hs
  · exact opt_noW (fun hb => win_no _ _) hs
  · exact opt_noW (fun hb => by simp only [txOf, List.mem_cons, not_or]; exact ⟨by decide, dig_no (dec_all _)⟩) hs
  · exact opt_noW (fun hb => by simp only [txOf, List.mem_cons, not_or]; exact ⟨by decide, dist_no _⟩) hs
theorem cutPre_yes (c : UInt8) (r : List UInt8) : cutPre c (c :: r) = (r, true) := by simp [cutPre]
def nOpen (l : Leg) : Leg := { l with over := false, lo := -200000, hi := 6000000, speed := 0, rnp := 0 }
theorem mem_opt2 {b : Bool} {s x : List UInt8} {W : Ws} (h : x ∈ opt b s ++ W) : x = s ∨ x ∈ W := by
  rcases List.mem_append.1 h with h | h
  · exact .inl (mem_opt h)
  · exact .inr h
theorem mem_nil2 {x : List UInt8} (h : x ∈ ([] : Ws)) : False := by cases h
theorem win_head (l : Leg) : (txOf l).win ≠ [111, 118, 101, 114] := by
  obtain ⟨c, r, e, hc⟩ := winS_first l.lo l.hi
  show winS l.lo l.hi ≠ _
  rw [e]; intro h; injection h with h1 h2; rw [h1] at hc; revert hc; decide
theorem stepB {n : Nat} {full : Prop} {W W' : Ws} {l l' : Leg} {x y : PS} (h : AtS full W l x ∨ OutS n full x) (f : AtS full W l x → AtS full W' l' y ∨ OutS n full y) (g : OutS n full x → OutS n full y) : AtS full W' l' y ∨ OutS n full y := by
  rcases h with h | h
  · exact f h
  · exact .inr (g h)
theorem need_of {n : Nat} {full : Prop} {W : Ws} {l l' : Leg} {x : PS} {s : List UInt8} {b : Bool} {f : Acc} (h : AtS full (opt b s ++ W) l x ∨ OutS n full x) (h1 : b = true → f s l = (l', true)) (h0 : b = false → l' = l) :
    AtS full W l' (x.needIf b n f) ∨ OutS n full (x.needIf b n f) := stepB h (fun h => h.needIf h1 h0) (fun h => h.needIf b f)
/-- The fields that the type of a leg wants. -/
theorem cut_fields {l : Leg} (h : LegOk l) (n : Nat) (full : Prop) (x : PS) (hx : AtS full (needW l ++ optW l) { legOpen with ty := l.ty } x ∨ OutS n full x) :
    AtS full (optW l) (nOpen l) (x.fields l.ty n) ∨ OutS n full (x.fields l.ty n) := by
  unfold PS.fields
  unfold needW at hx
  simp only [List.append_assoc, List.nil_append] at hx
  have f1 : uB l.ty 1 = false → l.fix = [] := fun hb => by
    have := h.fix; rw [hb] at this; unfold checkRefI at this
    cases hl : l.fix with
    | nil => rfl
    | cons a r => rw [hl] at this; simp at this
  have f2 : uB l.ty 2 = false → l.center = [] := fun hb => by
    have := h.center; rw [hb] at this; unfold checkRefI at this
    cases hl : l.center with
    | nil => rfl
    | cons a r => rw [hl] at this; simp at this
  have f3 : uB l.ty 4 = false → l.turn = 0 := fun hb => by have := h.turn; rw [hb] at this; unfold turnE at this; grind
  have g3 : uB l.ty 4 = true → l.turn = 1 ∨ l.turn = 2 := fun hb => by have := h.turn; rw [hb] at this; unfold turnE at this; grind
  have y1 := need_of (l' := ⟨l.ty, l.fix, [], 0, false, 0, 0, 0, 0, -200000, 6000000, 0, 0⟩) (f := accFix) hx
    (fun hb => by have hr : refB l.fix = true := refB_iff.2 (by have := h.fix; rwa [hb] at this)
                  simp only [accFix, hr, legOpen, leg0]) (fun hb => by rw [f1 hb]; rfl)
  have y2 := need_of (l' := ⟨l.ty, l.fix, l.center, 0, false, 0, 0, 0, 0, -200000, 6000000, 0, 0⟩) (f := accCenter) y1
    (fun hb => by have hr : refB l.center = true := refB_iff.2 (by have := h.center; rwa [hb] at this)
                  simp only [accCenter, cutPre_yes, hr, Bool.and_self]) (fun hb => by rw [f2 hb])
  have y3 := need_of (l' := ⟨l.ty, l.fix, l.center, l.turn, false, 0, 0, 0, 0, -200000, 6000000, 0, 0⟩) (f := accTurn) y2
    (fun hb => by rcases g3 hb with e | e <;> rw [e] <;> simp [accTurn]) (fun hb => by rw [f3 hb])
  have y4 := need_of (l' := ⟨l.ty, l.fix, l.center, l.turn, false, l.course, 0, 0, 0, -200000, 6000000, 0, 0⟩) (f := accCourse) y3
    (fun hb => by have hr := num_used h.course hb
                  have hc : courseS (txOf l).course = (l.course, true) := courseS_exactS hr.1 hr.2
                  simp only [accCourse, hc]) (fun hb => by rw [num_free h.course hb])
  have y5 := need_of (l' := ⟨l.ty, l.fix, l.center, l.turn, false, l.course, l.dist, 0, 0, -200000, 6000000, 0, 0⟩) (f := accDist) y4
    (fun hb => by have hr := num_used h.dist hb
                  have hc : legDistS 100 (txOf l).dist = (l.dist, true) := legDist_fwd 100 hr.1 (by omega)
                  simp only [accDist, hc]) (fun hb => by rw [num_free h.dist hb])
  have y6 := need_of (l' := ⟨l.ty, l.fix, l.center, l.turn, false, l.course, l.dist, l.radius, 0, -200000, 6000000, 0, 0⟩) (f := accRadius) y5
    (fun hb => by have hr := num_used h.radius hb
                  have hc : legDistS 114 (txOf l).radius = (l.radius, true) := legDist_fwd 114 hr.1 (by omega)
                  simp only [accRadius, hc]) (fun hb => by rw [num_free h.radius hb])
  exact need_of (l' := nOpen l) (f := accTheta) y6
    (fun hb => by have hr := num_used h.theta hb
                  have hc : courseS (txOf l).theta = (l.theta, true) := courseS_exactS hr.1 hr.2
                  simp only [accTheta, if_true, hc]; rfl) (fun hb => by unfold nOpen; rw [num_free h.theta hb])
theorem cut_options {l : Leg} (h : LegOk l) (n : Nat) (full : Prop) (x : PS) (hx : AtS full (optW l) (nOpen l) x ∨ OutS n full x) :
    (∃ m, AtS full [] m x.options ∧ OptOf full l m) ∨ OutS n full x.options := by
  rcases Or.symm hx with hx | hx
  · exact .inr (((hx.may _).may _).may _ |>.may _)
  left
  obtain ⟨hw, hcl, s0, s1, r0, r1⟩ := limits_of h.limits
  unfold PS.options
  unfold optW at hx
  have tw : ∀ s' ∈ opt (winB l) (txOf l).win ++ (opt (l.speed != 0) (115 :: (txOf l).speed) ++ (opt (l.rnp != 0) (txOf l).rnp ++ [])), (s' == [111, 118, 101, 114]) = false := by
    intro s' hs
    rcases mem_opt2 hs with e | hs
    · rw [e, beq_eq_false_iff_ne]; exact win_head l
    rcases mem_opt2 hs with e | hs
    · rw [e, beq_eq_false_iff_ne]; intro hh; injection hh with h1 h2; revert h1; decide
    rcases mem_opt2 hs with e | hs
    · rw [e, beq_eq_false_iff_ne]; intro hh; injection hh with h1 h2; revert h1; decide
    exact absurd hs (fun h => mem_nil2 h)
  have tv : ∀ s' ∈ opt (l.speed != 0) (115 :: (txOf l).speed) ++ (opt (l.rnp != 0) (txOf l).rnp ++ []), winTaken s' = false := by
    intro s' hs
    rcases mem_opt2 hs with e | hs
    · rw [e]; exact win_not (by decide)
    rcases mem_opt2 hs with e | hs
    · rw [e]; exact win_not (by decide)
    exact absurd hs (fun h => mem_nil2 h)
  have ts : ∀ s' ∈ opt (l.rnp != 0) (txOf l).rnp ++ [], (speedS s').2 = false := by
    intro s' hs
    rcases mem_opt2 hs with e | hs
    · rw [e, speed_no]; intro r hr; injection hr with h1 h2; revert h1; decide
    exact absurd hs (fun h => mem_nil2 h)
  have fw : ∀ (k : Leg), winB l = true → accWin (txOf l).win k = ({ k with lo := l.lo, hi := l.hi }, true) := fun k hb => by
    have hn : ¬ (l.lo = -200000 ∧ l.hi = 6000000) := by rintro ⟨h1, h2⟩; unfold winB at hb; rw [h1, h2] at hb; simp at hb
    have ht : winTaken (txOf l).win = true := win_fwd hw hn
    have hp : parseWinS (txOf l).win = ((l.lo, l.hi), 0) := parseWin_winS hw
    unfold accWin
    rw [if_pos ht, hp]
  have fs : ∀ (k : Leg), (l.speed != 0) = true → accSpeed (115 :: (txOf l).speed) k = ({ k with speed := l.speed }, true) := fun k hb => by
    have hn : l.speed ≠ 0 := by simpa using hb
    have hp : speedS (115 :: (txOf l).speed) = (l.speed, true) := speed_fwd (by omega) s1
    unfold accSpeed
    rw [hp]; rfl
  have fr : ∀ (k : Leg), (l.rnp != 0) = true → accRnp (txOf l).rnp k = ({ k with rnp := l.rnp }, true) := fun k hb => by
    have hn : l.rnp ≠ 0 := by simpa using hb
    have hp : legDistS 110 (txOf l).rnp = (l.rnp, true) := legDist_fwd 110 (by omega) (by omega)
    unfold accRnp
    rw [hp]; rfl
  have nw : winB l = false → l.lo = -200000 ∧ l.hi = 6000000 := fun hb => by unfold winB at hb; simpa using hb
  have ns : (l.speed != 0) = false → l.speed = 0 := fun hb => by simpa using hb
  have nr : (l.rnp != 0) = false → l.rnp = 0 := fun hb => by simpa using hb
  -- over
  have y1 : ∃ m, AtS full (opt (winB l) (txOf l).win ++ (opt (l.speed != 0) (115 :: (txOf l).speed) ++ (opt (l.rnp != 0) (txOf l).rnp ++ []))) m (x.may accOver) ∧ (∃ o, m = { nOpen l with over := o } ∧ (o = l.over ∨ (¬ full ∧ o = false))) := by
    rcases hx.may (n := n) (l' := { nOpen l with over := l.over }) (f := accOver) (fun hb => by rw [hb]; rfl)
      (fun hb => ⟨by rw [hb]; rfl, fun s' hs => by unfold accOver; rw [tw s' hs]; rfl⟩) with k | ⟨k0, k⟩
    · exact ⟨_, k, l.over, rfl, .inl rfl⟩
    · exact ⟨_, k, false, rfl, .inr ⟨k0, rfl⟩⟩
  obtain ⟨m1, y1, o, e1, ho⟩ := y1
  have y2 : ∃ m, AtS full (opt (l.speed != 0) (115 :: (txOf l).speed) ++ (opt (l.rnp != 0) (txOf l).rnp ++ [])) m ((x.may accOver).may accWin) ∧ (∃ lo hi, m = { m1 with lo := lo, hi := hi } ∧ ((lo = l.lo ∧ hi = l.hi) ∨ (¬ full ∧ lo = -200000 ∧ hi = 6000000))) := by
    rcases y1.may (n := n) (l' := { m1 with lo := l.lo, hi := l.hi }) (f := accWin) (fun hb => fw m1 hb)
      (fun hb => ⟨by rw [(nw hb).1, (nw hb).2, e1]; rfl, fun s' hs => by unfold accWin; rw [tv s' hs]; rfl⟩) with k | ⟨k0, k⟩
    · exact ⟨_, k, _, _, rfl, .inl ⟨rfl, rfl⟩⟩
    · exact ⟨_, k, -200000, 6000000, by rw [e1]; rfl, .inr ⟨k0, rfl, rfl⟩⟩
  obtain ⟨m2, y2, lo, hi, e2, hwin⟩ := y2
  have y3 : ∃ m, AtS full (opt (l.rnp != 0) (txOf l).rnp ++ []) m (((x.may accOver).may accWin).may accSpeed) ∧ (∃ sp, m = { m2 with speed := sp } ∧ (sp = l.speed ∨ (¬ full ∧ sp = 0))) := by
    rcases y2.may (n := n) (l' := { m2 with speed := l.speed }) (f := accSpeed) (fun hb => fs m2 hb)
      (fun hb => ⟨by rw [ns hb, e2, e1]; rfl, fun s' hs => by unfold accSpeed; rw [ts s' hs]; rfl⟩) with k | ⟨k0, k⟩
    · exact ⟨_, k, _, rfl, .inl rfl⟩
    · exact ⟨_, k, 0, by rw [e2, e1]; rfl, .inr ⟨k0, rfl⟩⟩
  obtain ⟨m3, y3, sp, e3, hsp⟩ := y3
  have y4 : ∃ m, AtS full [] m ((((x.may accOver).may accWin).may accSpeed).may accRnp) ∧ (∃ rn, m = { m3 with rnp := rn } ∧ (rn = l.rnp ∨ (¬ full ∧ rn = 0))) := by
    rcases y3.may (n := n) (l' := { m3 with rnp := l.rnp }) (f := accRnp) (fun hb => fr m3 hb)
      (fun hb => ⟨by rw [nr hb, e3, e2, e1]; rfl, fun s' hs => absurd hs (fun h => mem_nil2 h)⟩) with k | ⟨k0, k⟩
    · exact ⟨_, k, _, rfl, .inl rfl⟩
    · exact ⟨_, k, 0, by rw [e3, e2, e1]; rfl, .inr ⟨k0, rfl⟩⟩
  obtain ⟨m4, y4, rn, e4, hrn⟩ := y4
  refine ⟨m4, y4, ?_⟩
  rw [e4, e3, e2, e1]
  exact ⟨rfl, rfl, rfl, rfl, rfl, rfl, rfl, rfl, ho, hwin, hsp, hrn⟩
theorem cut_last {l : Leg} (h : LegOk l) (T : List UInt8) (k : Nat) (hk : 1 ≤ k) (full : Prop) (hf : full → (legWords l (txOf l)).length ≤ k) (hT : words T = (legWords l (txOf l)).take k) :
    (∃ m, AtS full [] m (PS.last T) ∧ OptOf full l m) ∨ OutS T.length full (PS.last T) := by
  have hb : PS.begin T = ⟨(needW l ++ optW l).take (k - 1), 1 + ((nameOf l.ty).length + 1), 0, { legOpen with ty := l.ty }⟩ := by
    unfold PS.begin PS.need
    rw [hT, legWords_eq]
    obtain ⟨k', rfl⟩ : ∃ k', k = k' + 1 := ⟨k - 1, by omega⟩
    simp only [List.take_succ_cons, Nat.add_sub_cancel]
    rw [if_neg (by simp)]
    have ht : typeK (nameOf l.ty) legOpen.ty 18 = l.ty := type_fwd h.known
    have h1 : 1 ≤ l.ty ∧ l.ty ≤ 17 := by simpa [knownB] using h.known
    have hne : (l.ty != 0) = true := by simp; omega
    simp only [accName, ht, hne, if_true]
  have hl := congrArg List.length (legWords_eq l)
  have h0 : AtS full (needW l ++ optW l) { legOpen with ty := l.ty } (PS.begin T) := by
    rw [hb]
    exact ⟨rfl, rfl, k - 1, rfl, fun hff => by have := hf hff; simp only [List.length_cons] at hl; omega⟩
  unfold PS.last
  have ety : (PS.begin T).l.ty = l.ty := by rw [hb]
  rw [ety]
  exact cut_options h _ full _ (cut_fields h _ full _ (.inl h0))
theorem optOf_check {full : Prop} {l m : Leg} (h : LegOk l) (hm : OptOf full l m) : legCheck m = 0 ∨ (legCheck m = 2 ∧ climbsB l.ty = true ∧ ¬ full) := by
  have e5 : overB m = false := by
    have := h.over
    unfold overB at this ⊢
    rw [hm.ty]
    rcases hm.over with e | ⟨_, e⟩ <;> rw [e]
    · exact this
    · rfl
  have hc : legCheck m = limitsE m := by
    unfold legCheck legC2 legC3 legC4
    rw [e5, hm.ty, hm.fix, hm.center, hm.turn, hm.course, hm.dist, hm.radius, hm.theta, h.known, h.fix, h.center, h.turn, h.course, h.dist, h.radius, h.theta]
    rfl
  obtain ⟨hw, hcl, s0, s1, r0, r1⟩ := limits_of h.limits
  obtain ⟨w1, w2, w3⟩ := hw
  rw [hc]
  have q2 : ¬ (m.speed < 0 ∨ 1000 < m.speed ∨ m.rnp < 0 ∨ 120000 < m.rnp) := by
    rcases hm.speed with e | ⟨_, e⟩ <;> rcases hm.rnp with e' | ⟨_, e'⟩ <;> omega
  unfold limitsE
  rw [hm.ty, if_neg q2]
  rcases hm.win with ⟨e1, e2⟩ | ⟨e0, e1, e2⟩
  · left
    rw [if_neg (by omega), if_neg (by rintro ⟨a, b⟩; exact hcl a (by omega))]
  · rw [if_neg (by omega)]
    by_cases hcb : climbsB l.ty = true
    · right; rw [if_pos ⟨hcb, e1⟩]; exact ⟨rfl, hcb, e0⟩
    · left; rw [if_neg (by rintro ⟨a, b⟩; exact hcb a)]
theorem badAt_nil {x : PS} (h : x.ws = []) : x.badAt = x.bad := by unfold PS.badAt; rw [if_neg (by rintro ⟨a, b⟩; exact a h)]
/-- What the first words of a text read as. -/
theorem parse_cut {l : Leg} (h : LegOk l) (T : List UInt8) (k : Nat) (hk : 1 ≤ k) (full : Prop) (hf : full → (legWords l (txOf l)).length ≤ k) (hT : words T = (legWords l (txOf l)).take k) :
    (∃ m, OptOf full l m ∧ parseS T = (m, 0, 0)) ∨ (¬ full ∧ parseS T = (leg0, (T.length : Int) + 2, 4)) ∨ (¬ full ∧ climbsB l.ty = true ∧ parseS T = (leg0, 0, 2)) := by
  rcases cut_last h T k hk full hf hT with ⟨m, ⟨a1, a2, j, a3, _⟩, hm⟩ | ⟨a0, a1, a2⟩
  · have hws : (PS.last T).ws = [] := by simpa using a3
    unfold parseS PS.done
    rw [badAt_nil hws, a1, a2]
    rcases optOf_check h hm with e | ⟨e, hc, hn⟩
    · left; refine ⟨m, hm, ?_⟩; rw [e]; rfl
    · right; right; refine ⟨hn, hc, ?_⟩; rw [e]; rfl
  · right; left
    refine ⟨a0, ?_⟩
    unfold parseS PS.done
    rw [badAt_nil a2, a1, if_pos (by omega)]
theorem OptOf.eq {l m : Leg} (h : OptOf True l m) : m = l := by
  obtain ⟨h1, h2, h3, h4, h5, h6, h7, h8, h9, h10, h11, h12⟩ := h
  have h9 : m.over = l.over := by rcases h9 with e | ⟨e, _⟩; exact e; exact absurd trivial e
  have h10 : m.lo = l.lo ∧ m.hi = l.hi := by rcases h10 with e | ⟨e, _⟩; exact e; exact absurd trivial e
  have h11 : m.speed = l.speed := by rcases h11 with e | ⟨e, _⟩; exact e; exact absurd trivial e
  have h12 : m.rnp = l.rnp := by rcases h12 with e | ⟨e, _⟩; exact e; exact absurd trivial e
  obtain ⟨h10, h13⟩ := h10
  cases m; cases l
  simp only at *
  subst h1 h2 h3 h4 h5 h6 h7 h8 h9 h10 h11 h12 h13
  rfl
theorem textS_eq {l : Leg} (h : legCheck l = 0) : textS l = Lib.join (legWords l (txOf l)) [32] := by unfold textS legText; rw [h]; rfl
theorem textS_words {l : Leg} (h : legCheck l = 0) : words (textS l) = legWords l (txOf l) := by
  rw [textS_eq h]
  exact words_join _ (by rw [legWords_eq]; simp) (legWords_no (legOk_of h))
/-- The text of a valid leg reads as the leg. -/
theorem parse_textS {l : Leg} (h : legCheck l = 0) : parseS (textS l) = (l, 0, 0) := by
  have hw := textS_words h
  rcases parse_cut (legOk_of h) (textS l) ((legWords l (txOf l)).length) (by rw [legWords_eq]; simp) True (fun _ => Nat.le_refl _) (by rw [hw, List.take_length]) with ⟨m, hm, e⟩ | ⟨e, _⟩ | ⟨e, _⟩
  · rw [e, hm.eq]
  · exact absurd trivial e
  · exact absurd trivial e
end Go.Proofs.YtjgondadpjildaaGreatDoor
namespace Go.Proofs.YtjgondadpjildaaGreatDoor
open Go.RowKit
set_option linter.unusedVariables false
set_option linter.unusedSimpArgs false
/-- The texts between the bytes c. -/
def splitC (c : UInt8) : List UInt8 → List (List UInt8)
  | [] => [[]]
  | x :: r => if x = c then [] :: splitC c r else match splitC c r with | [] => [[x]] | a :: q => (x :: a) :: q
theorem splitC_append (c : UInt8) (a r : List UInt8) (h : c ∉ a) : splitC c (a ++ c :: r) = a :: splitC c r := by
  induction a with
  | nil => simp [splitC]
  | cons x a ih =>
    simp only [List.mem_cons, not_or] at h
    have hx : ¬ x = c := fun e => h.1 e.symm
    rw [List.cons_append, splitC, if_neg hx, ih h.2]
theorem splitC_one (c : UInt8) (a : List UInt8) (h : c ∉ a) : splitC c a = [a] := by
  induction a with
  | nil => simp [splitC]
  | cons x a ih =>
    simp only [List.mem_cons, not_or] at h
    have hx : ¬ x = c := fun e => h.1 e.symm
    rw [splitC, if_neg hx, ih h.2]
theorem splitC_ne (c : UInt8) (l : List UInt8) : splitC c l ≠ [] := by
  cases l with
  | nil => simp [splitC]
  | cons x r =>
    unfold splitC
    split
    · simp
    · split <;> simp
theorem splitC_words (l : List UInt8) : splitC 32 l = words l := by
  induction l with
  | nil => rfl
  | cons x r ih => unfold splitC words; rw [ih]; rfl
theorem splitC_cut (c : UInt8) : ∀ l : List UInt8, splitC c l = if (cutAt c l).2.2 then (cutAt c l).1 :: splitC c (cutAt c l).2.1 else [l]
  | [] => by simp [splitC, cutAt]
  | x :: r => by
    have ih := splitC_cut c r
    by_cases hx : x = c
    · simp [splitC, cutAt, hx]
    · simp only [splitC, cutAt, hx, if_false]
      cases hf : (cutAt c r).2.2
      · simp [hf] at ih; simp [ih]
      · simp [hf] at ih; simp [ih]
theorem splitC_join (c : UInt8) : ∀ ls : List (List UInt8), ls ≠ [] → (∀ s ∈ ls, c ∉ s) → splitC c (Lib.join ls [c]) = ls
  | [], h, _ => absurd rfl h
  | [a], _, h => by
    have : Lib.join [a] [c] = a := by simp [Lib.join]
    rw [this]; exact splitC_one c a (h a (by simp))
  | a :: b :: r, _, h => by
    have e : Lib.join (a :: b :: r) [c] = a ++ c :: Lib.join (b :: r) [c] := by simp [Lib.join]
    rw [e, splitC_append c a _ (h a (by simp)), splitC_join c (b :: r) (by simp) (fun s hs => h s (by simp [hs]))]
theorem cutAt_app (c : UInt8) (a r : List UInt8) (h : c ∉ a) : cutAt c (a ++ c :: r) = (a, r, true) := by
  induction a with
  | nil => simp [cutAt]
  | cons x a ih =>
    simp only [List.mem_cons, not_or] at h
    have hx : ¬ x = c := fun e => h.1 e.symm
    rw [List.cons_append, cutAt, if_neg hx, ih h.2]
/-! No line of a valid plan holds a line's end. -/
theorem alnum_nl {l : List UInt8} (h : l.all alnum = true) : (10 : UInt8) ∉ l := fun hm => by
  have := (List.all_eq_true.1 h) 10 hm
  exact absurd this (by decide)
theorem ref_nl {s : List UInt8} (h : refB s = true) : (10 : UInt8) ∉ s := by
  have h0 : (splitRef s).2.2 = 0 := by simpa [refB] using h
  unfold splitRef splitRef3 at h0
  by_cases hq : (cutAt 47 s).2.2 = true
  · rw [if_pos hq] at h0
    by_cases hn : (nameB (cutAt 47 s).1 6 && (nameB (cutAt 47 s).2.1 6 || shortB (cutAt 47 s).2.1)) = true
    · have hp := cutAt_parts 47 s hq
      simp only [Bool.and_eq_true, Bool.or_eq_true] at hn
      have a1 := alnum_nl (nameB_all hn.1)
      have a2 : (10 : UInt8) ∉ (cutAt 47 s).2.1 := by
        rcases hn.2 with h2 | h2
        · exact alnum_nl (nameB_all h2)
        · unfold shortB at h2; simp only [Bool.and_eq_true] at h2; exact alnum_nl h2.2
      rw [hp]
      simp only [List.mem_append, List.mem_cons, not_or]
      exact ⟨a1, by decide, a2⟩
    · rw [if_neg hn] at h0; cases h0
  · rw [if_neg hq] at h0; cases h0
theorem dig_nl {l : List UInt8} (h : l.all isD = true) : (10 : UInt8) ∉ l := fun hm => by
  have := (List.all_eq_true.1 h) 10 hm
  exact absurd this (by decide)
theorem dist_nl (d : Nat) : (10 : UInt8) ∉ distS d := by
  unfold distS
  have h1 := dig_nl (dec_all (d / 6000))
  have h2 := dig_nl (dec_all (d % 6000))
  split
  · simpa using h1
  · simp only [List.mem_append, List.mem_cons, not_or]
    exact ⟨h1, by decide, h2⟩
theorem alt_nl (a : Int) : (10 : UInt8) ∉ altS a := altS_not (by decide) a
theorem win_nl (lo hi : Int) : (10 : UInt8) ∉ winS lo hi := by
  unfold winS
  have h1 := alt_nl lo
  have h2 := alt_nl hi
  repeat' split
  · decide
  · exact h1
  · simp only [List.mem_append, List.mem_cons, not_or, List.not_mem_nil, not_false_eq_true, and_true]; exact ⟨h1, by decide⟩
  · simp only [List.mem_append, List.mem_cons, not_or, List.not_mem_nil, not_false_eq_true, and_true]; exact ⟨h2, by decide⟩
  · simp only [List.mem_append, List.mem_cons, not_or]; exact ⟨h1, by decide, h2⟩
theorem opt_nlW {b : Bool} {s x : List UInt8} (h : b = true → (10 : UInt8) ∉ s) (hx : x ∈ opt b s) : (10 : UInt8) ∉ x := by
  cases b
  · cases hx
  · have : x = s := by simpa [opt] using hx
    rw [this]; exact h rfl
theorem legWords_nl {l : Leg} (h : LegOk l) : ∀ s ∈ legWords l (txOf l), (10 : UInt8) ∉ s := by
  intro s hs
  have nm : (10 : UInt8) ∉ nameOf l.ty := by
    have h1 : 1 ≤ l.ty ∧ l.ty ≤ 17 := by simpa [knownB] using h.known
    have hd : ∀ k : Fin 17, (10 : UInt8) ∉ nameOf ((k.val + 1 : Nat) : Int) := by decide +kernel
    have h2 := hd ⟨l.ty.toNat - 1, by omega⟩
    have e : ((l.ty.toNat - 1 + 1 : Nat) : Int) = l.ty := by omega
    simp only [e] at h2
    exact h2
  simp only [legWords, List.mem_append, List.mem_singleton] at hs
  rcases hs with (((((((((((hs | hs) | hs) | hs) | hs) | hs) | hs) | hs) | hs) | hs) | hs) | hs)
  · rw [hs]; exact nm
  · exact opt_nlW (fun hb => ref_nl (refB_iff.2 (by have := h.fix; rwa [hb] at this))) hs
  · exact opt_nlW (fun hb => by have := ref_nl (refB_iff.2 (by have := h.center; rwa [hb] at this)); simp only [List.mem_cons, not_or]; exact ⟨by decide, this⟩) hs
  · exact opt_nlW (fun hb => by split <;> decide) hs
  · exact opt_nlW (fun hb => dig_nl (exactS_all _)) hs
  · exact opt_nlW (fun hb => by simp only [txOf, List.mem_cons, not_or]; exact ⟨by decide, dist_nl _⟩) hs
  · exact opt_nlW (fun hb => by simp only [txOf, List.mem_cons, not_or]; exact ⟨by decide, dist_nl _⟩) hs
  · exact opt_nlW (fun hb => by simp only [txOf, List.mem_cons, not_or]; exact ⟨by decide, dig_nl (exactS_all _)⟩) hs
  · exact opt_nlW (fun hb => by decide) hs
  · exact opt_nlW (fun hb => win_nl _ _) hs
  · exact opt_nlW (fun hb => by simp only [txOf, List.mem_cons, not_or]; exact ⟨by decide, dig_nl (dec_all _)⟩) hs
  · exact opt_nlW (fun hb => by simp only [txOf, List.mem_cons, not_or]; exact ⟨by decide, dist_nl _⟩) hs
/-! Numbers. -/
/-- What strconv.ParseInt answers, its error left aside. -/
def numP (l : List UInt8) : Int := match Lib.parseIntB 64 l with | .ok n => n | .range => Lib.intSat 64 l | .syntax => 0
theorem uintM_small (M : Nat) (hM : 1000000000000 < M) : ∀ (l : List UInt8) (a : Nat), l.all isD = true → numV a l ≤ 1000000000000 → Lib.parseUintM M a l = .ok (numV a l)
  | [], a, _, _ => rfl
  | c :: r, a, h, hv => by
    simp only [List.all_cons, Bool.and_eq_true] at h
    have hc : 48 ≤ c.toNat ∧ c.toNat ≤ 57 := by simpa [isD] using h.1
    have hge := numV_ge r (10 * a + (c.toNat - 48))
    simp only [numV_cons] at hv ⊢
    rw [Lib.parseUintM, if_pos hc, if_neg (by omega), if_neg (by omega), Nat.mul_comm a 10]
    exact uintM_small M hM r _ h.2 hv
theorem uintB_dec (u : Nat) (h : u ≤ 1000000000000) : Lib.parseUintB 64 (Lib.decDigits u) = .ok u := by
  have h1 := uintM_small (2 ^ 64 - 1) (by decide) (Lib.decDigits u) 0 (dec_all u) (by have := val_dec u; unfold val at this; omega)
  have h2 : numV 0 (Lib.decDigits u) = u := val_dec u
  rw [Lib.parseUintB, if_neg (dec_ne u), h1, h2]
theorem numP_itoa {n : Int} (h0 : -1000000000 ≤ n) (h1 : n ≤ 1000000000) : numP (Lib.itoa n) = n := by
  unfold numP
  by_cases hn : 0 ≤ n
  · obtain ⟨u, rfl⟩ : ∃ u : Nat, n = u := ⟨n.toNat, by omega⟩
    rw [Lib.itoa_nonneg]
    obtain ⟨c, r, e⟩ : ∃ c r, Lib.decDigits u = c :: r := by
      cases hd : Lib.decDigits u with
      | nil => exact absurd hd (dec_ne u)
      | cons c r => exact ⟨c, r, rfl⟩
    have ha := dec_all u
    rw [e] at ha
    simp only [List.all_cons, Bool.and_eq_true] at ha
    have hc : 48 ≤ c.toNat ∧ c.toNat ≤ 57 := by simpa [isD] using ha.1
    have hu := uintB_dec u (by omega)
    rw [e] at hu ⊢
    rw [Lib.parseIntB_plain 64 c r (by omega) (by omega), hu]
    simp only [Lib.signlessC]
    rw [if_neg (by omega)]
  · obtain ⟨u, rfl⟩ : ∃ u : Nat, n = -(u : Int) := ⟨n.natAbs, by omega⟩
    rw [Lib.itoa_neg u (by omega), Lib.parseIntB_minus, uintB_dec u (by omega)]
    simp only [Lib.signedC]
    rw [if_neg (by omega)]
theorem numP_dash : numP [45] = 0 := by decide +kernel
theorem numP_nil : numP [] = 0 := by decide +kernel
/-- The number that the reference reads: at most nine digits. -/
def numR (l : List UInt8) : Int :=
  if ((cutPre 45 l).1.take 9).all isD then (if (cutPre 45 l).2 then -(val ((cutPre 45 l).1.take 9) : Int) else val ((cutPre 45 l).1.take 9)) else 0
theorem numR_itoa {n : Int} (h0 : -999999999 ≤ n) (h1 : n ≤ 999999999) : numR (Lib.itoa n) = n := by
  unfold numR
  by_cases hn : 0 ≤ n
  · obtain ⟨u, rfl⟩ : ∃ u : Nat, n = u := ⟨n.toNat, by omega⟩
    rw [Lib.itoa_nonneg]
    have hl : (Lib.decDigits u).length ≤ 9 := dec_len (by decide) (by omega)
    have hc : cutPre 45 (Lib.decDigits u) = (Lib.decDigits u, false) := by
      have h := dec_all u
      cases hd : Lib.decDigits u with
      | nil => rfl
      | cons c r =>
        rw [hd] at h
        simp only [List.all_cons, Bool.and_eq_true] at h
        have : c ≠ 45 := by rintro rfl; exact absurd h.1 (by decide)
        simp [cutPre, this]
    rw [hc]
    simp only [List.take_of_length_le hl, dec_all, if_true, Bool.false_eq_true, if_false, val_dec]
  · obtain ⟨u, rfl⟩ : ∃ u : Nat, n = -(u : Int) := ⟨n.natAbs, by omega⟩
    rw [Lib.itoa_neg u (by omega)]
    have hl : (Lib.decDigits u).length ≤ 9 := dec_len (by decide) (by omega)
    simp only [cutPre, if_true, List.take_of_length_le hl, dec_all, val_dec]
theorem numR_dash : numR [45] = 0 := by decide +kernel
theorem numR_nil : numR [] = 0 := by decide +kernel
end Go.Proofs.YtjgondadpjildaaGreatDoor
namespace Go.Proofs.YtjgondadpjildaaGreatDoor
open Go.RowKit
set_option linter.unusedVariables false
set_option linter.unusedSimpArgs false
theorem orE0 {a b : Int} (h : orE a b = 0) : a = 0 ∧ b = 0 := by grind [orE]
def letterOf (s : Int) : List UInt8 := (([63, 68, 69, 65, 80, 77] : List UInt8).take (s.toNat + 1)).drop s.toNat
def headLine (p : Plan) : List UInt8 := [80, 76, 65, 78, 32] ++ dashB p.from_ ++ [32] ++ dashB p.to_ ++ [32] ++ Lib.itoa p.active
def lineOf (tx : Leg → LegTx) (x : Entry) : List UInt8 :=
  if x.gap then [71, 65, 80] else letterOf x.sec ++ [32] ++ dashB x.via ++ [32] ++ pointText x.leg.fix x.ex x.ey ++ [32] ++ pointText x.leg.center x.mx x.my ++ [32] ++ legText x.leg (tx x.leg)
def planText (tx : Leg → LegTx) (p : Plan) : List UInt8 := if planCheck p != 0 then [] else Lib.join (headLine p :: p.es.map (lineOf tx)) [10]
theorem check_each : ∀ (es : List Entry) (prev : Option Entry) (s : Int), checkGo prev s es = 0 → ∀ x ∈ es, x.gap = false → aloneE x = 0
  | [], _, _, _, x, hx, _ => by simp at hx
  | y :: r, prev, s, h, x, hx, hg => by
    simp only [checkGo] at h
    obtain ⟨h1, h2⟩ := orE0 h
    rcases List.mem_cons.1 hx with rfl | hx
    · unfold stepE at h1
      rw [hg] at h1
      exact (orE0 (by simpa using h1)).1
    · exact check_each r _ _ h2 x hx hg
theorem planCheck_ok {p : Plan} (h : planCheck p = 0) : p.es.length ≤ 60 ∧ checkGo none 0 p.es = 0 ∧ -1 ≤ p.active ∧ p.active < 60 := by
  unfold planCheck at h
  split at h
  · simp at h
  · split at h
    · simp at h
    · obtain ⟨h1, h2⟩ := orE0 h
      refine ⟨by omega, h1, ?_⟩
      unfold activeE at h2
      split at h2
      · omega
      · split at h2
        · simp at h2
        · omega
theorem alone_sec {x : Entry} (h : aloneE x = 0) : 1 ≤ x.sec ∧ x.sec ≤ 5 ∧ i64 x.ex ∧ i64 x.ey ∧ i64 x.mx ∧ i64 x.my := by
  obtain ⟨_, h2⟩ := orE0 h
  unfold alone2 at h2
  split at h2
  · simp at h2
  · rename_i h3
    split at h2
    · simp at h2
    · split at h2
      · simp at h2
      · rename_i h4
        have h3 : sectionB x.sec = true := by simpa using h3
        have h5 : pointB x.ex x.ey = true ∧ pointB x.mx x.my = true := by simpa using h4
        simp only [sectionB, pointB, Bool.and_eq_true, decide_eq_true_eq] at h3 h5
        unfold i64
        omega
theorem dashB_len (s : List UInt8) : (dashB s).length ≤ s.length + 1 := by unfold dashB; split <;> simp
theorem pointText_len {s : List UInt8} {x y : Int} (hx : i64 x) (hy : i64 y) : (pointText s x y).length ≤ 43 := by
  unfold pointText
  have := itoa_len x hx.1 hx.2
  have := itoa_len y hy.1 hy.2
  split <;> simp
  omega
theorem letterOf_len (s : Int) : (letterOf s).length ≤ 6 := by unfold letterOf; simp; omega
end Go.Proofs.YtjgondadpjildaaGreatDoor
namespace Go.Proofs.YtjgondadpjildaaGreatDoor
open Go.RowKit
set_option linter.unusedVariables false
set_option linter.unusedSimpArgs false
def undashB (s : List UInt8) : List UInt8 := if s = [45] then [] else s
def unpointP (s : List UInt8) : Int × Int := (numP (cutAt 44 s).1, numP (cutAt 44 s).2.1)
def placeR (s : List UInt8) : Int × Int := if undashB s = [] then (0, 0) else (numR (cutAt 44 s).1, numR (cutAt 44 s).2.1)
/-- Cut at the first k blanks. -/
def cutN : Nat → List UInt8 → List (List UInt8)
  | 0, s => [s]
  | k + 1, s => if (cutAt 32 s).2.2 then (cutAt 32 s).1 :: cutN k (cutAt 32 s).2.1 else [s]
def idxP (w : List UInt8) : Nat := ((List.range 7).find? fun i => w.isPrefixOf (([63, 68, 69, 65, 80, 77] : List UInt8).drop i)).getD 0
def secR (w : List UInt8) : Int := if w = [68] then 1 else if w = [69] then 2 else if w = [65] then 3 else if w = [80] then 4 else if w = [77] then 5 else 0
def zeroEnt : Entry := ⟨false, leg0, 0, 0, 0, 0, 0, []⟩
def entryP (line : List UInt8) : Entry :=
  if line = [71, 65, 80] then gapE else
    match cutN 4 line with
    | [a, b, c, d, e] => ⟨false, (parseS e).1, (unpointP c).1, (unpointP c).2, (unpointP d).1, (unpointP d).2, idxP a, undashB b⟩
    | _ => zeroEnt
def tail32 (s : List UInt8) : List UInt8 := (cutAt 32 s).2.1
def head32 (s : List UInt8) : List UInt8 := (cutAt 32 s).1
def entryR (line : List UInt8) : Entry :=
  if line = [71, 65, 80] then gapE else
    ⟨false, (parseS (tail32 (tail32 (tail32 (tail32 line))))).1, (placeR (head32 (tail32 (tail32 line)))).1, (placeR (head32 (tail32 (tail32 line)))).2,
      (placeR (head32 (tail32 (tail32 (tail32 line))))).1, (placeR (head32 (tail32 (tail32 (tail32 line))))).2, secR (head32 line), undashB (head32 (tail32 line))⟩
def readP (s : List UInt8) : Option Plan :=
  match splitC 32 ((splitC 10 s).headD []) with
  | [_, b, c, d] => some ⟨undashB b, undashB c, (splitC 10 s).tail.map entryP, numP d⟩
  | _ => none
def readR (s : List UInt8) : Plan :=
  ⟨undashB (head32 (tail32 (cutAt 10 s).1)), undashB (head32 (tail32 (tail32 (cutAt 10 s).1))), (splitC 10 s).tail.map entryR, numR (tail32 (tail32 (tail32 (cutAt 10 s).1)))⟩
def planT (p : Plan) : List UInt8 := planText txOf p
/-! What the parts of a valid plan's text are made of. -/
theorem cutAt_falseS (c : UInt8) : ∀ l : List UInt8, (cutAt c l).2.2 = false → (cutAt c l).1 = l
  | [], _ => rfl
  | x :: r, h => by
    by_cases hx : x = c
    · simp [cutAt, hx] at h
    · simp only [cutAt, hx, if_false] at h ⊢
      rw [cutAt_falseS c r h]
theorem alnum_not {l : List UInt8} (h : l.all alnum = true) {c : UInt8} (hc : alnum c = false) : c ∉ l := fun hm => by
  have := (List.all_eq_true.1 h) c hm
  rw [hc] at this; cases this
theorem pairB_parts {l : List UInt8} {c : UInt8} {m : Int} (h : pairB l c m = true) : ∀ x ∈ l, alnum x = true ∨ x = c := by
  unfold pairB pair3 at h
  simp only [Bool.and_eq_true, Bool.or_eq_true, Bool.not_eq_true'] at h
  obtain ⟨h1, h2⟩ := h
  have a1 := List.all_eq_true.1 (nameB_all h1)
  cases hq : (cutAt c l).2.2
  · rw [cutAt_falseS c l hq] at a1
    exact fun x hx => .inl (a1 x hx)
  · rw [hq] at h2
    have h2 : nameB (cutAt c l).2.1 m = true := by simpa using h2
    have a2 := List.all_eq_true.1 (nameB_all h2)
    have hp := cutAt_parts c l hq
    intro x hx
    rw [hp] at hx
    simp only [List.mem_append, List.mem_cons] at hx
    rcases hx with hx | hx | hx
    · exact .inl (a1 x hx)
    · exact .inr hx
    · exact .inl (a2 x hx)
theorem placeB_not {l : List UInt8} (h : placeB l = true) {c : UInt8} (hc : alnum c = false) (h47 : c ≠ 47) : c ∉ l := by
  unfold placeB at h
  rcases Bool.or_eq_true_iff.1 h with h | h
  · have : l = [] := by simpa using h
    rw [this]; simp
  · intro hm
    rcases pairB_parts h c hm with h2 | h2
    · rw [hc] at h2; cases h2
    · exact h47 h2
theorem viaB_not {l : List UInt8} (h : viaB l = true) {c : UInt8} (hc : alnum c = false) (h46 : c ≠ 46) : c ∉ l := by
  unfold viaB at h
  rcases Bool.or_eq_true_iff.1 h with h | h
  · have : l = [] := by simpa using h
    rw [this]; simp
  · intro hm
    rcases pairB_parts h c hm with h2 | h2
    · rw [hc] at h2; cases h2
    · exact h46 h2
theorem undash_dash {s : List UInt8} (h : (45 : UInt8) ∉ s) : undashB (dashB s) = s := by
  unfold undashB dashB
  cases s with
  | nil => rfl
  | cons c r =>
    have : c :: r ≠ [45] := by intro e; rw [e] at h; simp at h
    simp [this]
theorem dash_not {s : List UInt8} {c : UInt8} (h : c ∉ s) (hc : c ≠ 45) : c ∉ dashB s := by
  unfold dashB
  split
  · simpa using hc
  · exact h
theorem itoa_not {c : UInt8} (h : isD c = false) (h45 : c ≠ 45) (n : Int) : c ∉ Lib.itoa n := by
  have hd : ∀ u : Nat, c ∉ Lib.decDigits u := fun u hm => by
    have := (List.all_eq_true.1 (dec_all u)) c hm
    rw [h] at this; cases this
  by_cases hn : 0 ≤ n
  · obtain ⟨u, rfl⟩ : ∃ u : Nat, n = u := ⟨n.toNat, by omega⟩
    rw [Lib.itoa_nonneg]; exact hd u
  · obtain ⟨u, rfl⟩ : ∃ u : Nat, n = -(u : Int) := ⟨n.natAbs, by omega⟩
    rw [Lib.itoa_neg u (by omega)]
    simp only [List.mem_cons, not_or]
    exact ⟨h45, hd u⟩
theorem pointText_not {s : List UInt8} {x y : Int} {c : UInt8} (h : isD c = false) (h45 : c ≠ 45) (h44 : c ≠ 44) : c ∉ pointText s x y := by
  unfold pointText
  split
  · simpa using h45
  · simp only [List.mem_append, List.mem_singleton, not_or]
    exact ⟨⟨itoa_not h h45 x, h44⟩, itoa_not h h45 y⟩
theorem unpoint_pt {s : List UInt8} {x y : Int} (hx : -2000000 ≤ x ∧ x ≤ 2000000) (hy : -2000000 ≤ y ∧ y ≤ 2000000) (h0 : s = [] → x = 0 ∧ y = 0) : unpointP (pointText s x y) = (x, y) := by
  unfold unpointP pointText
  cases s with
  | nil =>
    obtain ⟨rfl, rfl⟩ := h0 rfl
    simp only [List.isEmpty_nil, if_true, cutAt_not (show (44 : UInt8) ∉ [45] by decide), numP_dash, numP_nil]
  | cons c r =>
    have e : Lib.itoa x ++ [44] ++ Lib.itoa y = Lib.itoa x ++ 44 :: Lib.itoa y := by simp
    simp only [List.isEmpty_cons, Bool.false_eq_true, if_false]
    rw [e, cutAt_app 44 _ _ (itoa_not (by decide) (by decide) x)]
    simp only
    rw [numP_itoa (by omega) (by omega), numP_itoa (by omega) (by omega)]
theorem itoa_ne (n : Int) : Lib.itoa n ≠ [] := by
  by_cases hn : 0 ≤ n
  · obtain ⟨u, rfl⟩ : ∃ u : Nat, n = u := ⟨n.toNat, by omega⟩
    rw [Lib.itoa_nonneg]; exact dec_ne u
  · obtain ⟨u, rfl⟩ : ∃ u : Nat, n = -(u : Int) := ⟨n.natAbs, by omega⟩
    rw [Lib.itoa_neg u (by omega)]; simp
theorem place_pt {s : List UInt8} {x y : Int} (hx : -2000000 ≤ x ∧ x ≤ 2000000) (hy : -2000000 ≤ y ∧ y ≤ 2000000) (h0 : s = [] → x = 0 ∧ y = 0) : placeR (pointText s x y) = (x, y) := by
  unfold placeR pointText
  cases s with
  | nil =>
    obtain ⟨rfl, rfl⟩ := h0 rfl
    simp [undashB]
  | cons c r =>
    have e : Lib.itoa x ++ [44] ++ Lib.itoa y = Lib.itoa x ++ 44 :: Lib.itoa y := by simp
    simp only [List.isEmpty_cons, Bool.false_eq_true, if_false]
    rw [e, cutAt_app 44 _ _ (itoa_not (by decide) (by decide) x)]
    have h1 : undashB (Lib.itoa x ++ 44 :: Lib.itoa y) ≠ [] := by
      unfold undashB
      have := itoa_ne y
      split
      · rename_i h
        have h2 := congrArg List.length h
        have h3 := List.length_pos_iff.2 (itoa_ne x)
        simp at h2; omega
      · simp
    rw [if_neg h1]
    simp only
    rw [numR_itoa (by omega) (by omega), numR_itoa (by omega) (by omega)]
theorem letter_ok : ∀ k : Fin 5, letterOf ((k.val + 1 : Nat) : Int) = [([68, 69, 65, 80, 77] : List UInt8).getD k.val 0] ∧ ([68, 69, 65, 80, 77] : List UInt8).getD k.val 0 ≠ 32 ∧ ([68, 69, 65, 80, 77] : List UInt8).getD k.val 0 ≠ 10 ∧
    idxP [([68, 69, 65, 80, 77] : List UInt8).getD k.val 0] = k.val + 1 ∧ secR [([68, 69, 65, 80, 77] : List UInt8).getD k.val 0] = ((k.val + 1 : Nat) : Int) := by decide +kernel
theorem letter_sec {s : Int} (h1 : 1 ≤ s) (h5 : s ≤ 5) : ∃ c : UInt8, letterOf s = [c] ∧ c ≠ 32 ∧ c ≠ 10 ∧ (idxP [c] : Int) = s ∧ secR [c] = s := by
  obtain ⟨a, b, d, e, f⟩ := letter_ok ⟨s.toNat - 1, by omega⟩
  have hs : ((s.toNat - 1 + 1 : Nat) : Int) = s := by omega
  simp only [hs] at a f
  exact ⟨_, a, b, d, by rw [e]; omega, f⟩
/-- What a valid entry by itself gives. -/
theorem alone_parts {x : Entry} (h : aloneE x = 0) : legCheck x.leg = 0 ∧ 1 ≤ x.sec ∧ x.sec ≤ 5 ∧ viaB x.via = true ∧ (-2000000 ≤ x.ex ∧ x.ex ≤ 2000000) ∧ (-2000000 ≤ x.ey ∧ x.ey ≤ 2000000) ∧ (-2000000 ≤ x.mx ∧ x.mx ≤ 2000000) ∧ (-2000000 ≤ x.my ∧ x.my ≤ 2000000) ∧
    (x.leg.fix = [] → x.ex = 0 ∧ x.ey = 0) ∧ (x.leg.center = [] → x.mx = 0 ∧ x.my = 0) := by
  obtain ⟨h1, h2⟩ := orE0 h
  unfold alone2 at h2
  split at h2
  · simp at h2
  · rename_i h3
    split at h2
    · simp at h2
    · rename_i hv
      split at h2
      · simp at h2
      · rename_i h4
        split at h2
        · simp at h2
        · rename_i h6
          have h3 : sectionB x.sec = true := by simpa using h3
          have hv : viaB x.via = true := by simpa using hv
          have h5 : pointB x.ex x.ey = true ∧ pointB x.mx x.my = true := by simpa using h4
          simp only [sectionB, pointB, Bool.and_eq_true, decide_eq_true_eq] at h3 h5
          unfold placedB at h6
          simp only [Bool.or_eq_true, Bool.and_eq_true, Bool.not_eq_true', not_or, not_and, Bool.not_eq_false, beq_iff_eq, List.isEmpty_iff, Bool.and_eq_true] at h6
          refine ⟨h1, by omega, by omega, hv, by omega, by omega, by omega, by omega, fun e => ?_, fun e => ?_⟩
          · have := h6.1 e
            simpa using this
          · have := h6.2 e
            simpa using this
/-- The parts of a leg's line. -/
theorem lineOf_parts {x : Entry} (hg : x.gap = false) (c : UInt8) (hc : letterOf x.sec = [c]) :
    lineOf txOf x = [c] ++ 32 :: (dashB x.via ++ 32 :: (pointText x.leg.fix x.ex x.ey ++ 32 :: (pointText x.leg.center x.mx x.my ++ 32 :: textS x.leg))) := by
  unfold lineOf textS
  rw [hg, hc]
  simp
theorem entryP_back {x : Entry} (hg : x.gap = false) (h : aloneE x = 0) : entryP (lineOf txOf x) = x ∧ entryR (lineOf txOf x) = x := by
  obtain ⟨hl, s1, s5, hv, ex, ey, mx, my, f0, c0⟩ := alone_parts h
  obtain ⟨c, hc, c32, c10, ci, cs⟩ := letter_sec s1 s5
  have n1 : (32 : UInt8) ∉ [c] := by simpa using Ne.symm c32
  have n2 : (32 : UInt8) ∉ dashB x.via := dash_not (viaB_not hv (by decide) (by decide)) (by decide)
  have n3 : (32 : UInt8) ∉ pointText x.leg.fix x.ex x.ey := pointText_not (by decide) (by decide) (by decide)
  have n4 : (32 : UInt8) ∉ pointText x.leg.center x.mx x.my := pointText_not (by decide) (by decide) (by decide)
  have hne : lineOf txOf x ≠ [71, 65, 80] := by
    rw [lineOf_parts hg c hc]
    intro e
    simp at e
  have hu := undash_dash (viaB_not hv (c := 45) (by decide) (by decide))
  have p1 := unpoint_pt (s := x.leg.fix) ex ey f0
  have p2 := unpoint_pt (s := x.leg.center) mx my c0
  have q1 := place_pt (s := x.leg.fix) ex ey f0
  have q2 := place_pt (s := x.leg.center) mx my c0
  have pt := parse_textS hl
  obtain ⟨gap, leg, exx, eyy, mxx, myy, sec, via⟩ := x
  simp only at *
  subst hg
  constructor
  · unfold entryP
    rw [if_neg hne, lineOf_parts rfl c hc]
    simp only [cutN, cutAt_app 32 _ _ n1, cutAt_app 32 _ _ n2, cutAt_app 32 _ _ n3, cutAt_app 32 _ _ n4, if_true, p1, p2, pt, hu, ci]
  · unfold entryR tail32 head32
    rw [if_neg hne, lineOf_parts rfl c hc]
    simp only [cutAt_app 32 _ _ n1, cutAt_app 32 _ _ n2, cutAt_app 32 _ _ n3, cutAt_app 32 _ _ n4, q1, q2, pt, hu, cs]
theorem gap_back {x : Entry} (hg : x.gap = true) (h : x.eqB gapE = true) : entryP (lineOf txOf x) = x ∧ entryR (lineOf txOf x) = x := by
  have e : x = gapE := (Entry.eqB_iff x gapE).1 h
  subst e
  exact ⟨rfl, rfl⟩
theorem join_not {c d : UInt8} (hcd : c ≠ d) : ∀ ls : List (List UInt8), (∀ s ∈ ls, c ∉ s) → c ∉ Lib.join ls [d]
  | [], _ => by simp [Lib.join]
  | [a], h => by
    have : Lib.join [a] [d] = a := by simp [Lib.join]
    rw [this]; exact h a (by simp)
  | a :: b :: r, h => by
    have e : Lib.join (a :: b :: r) [d] = a ++ d :: Lib.join (b :: r) [d] := by simp [Lib.join]
    rw [e]
    simp only [List.mem_append, List.mem_cons, not_or]
    exact ⟨h a (by simp), hcd, join_not hcd (b :: r) (fun s hs => h s (by simp [hs]))⟩
theorem textS_nl {l : Leg} (h : legCheck l = 0) : (10 : UInt8) ∉ textS l := by
  rw [textS_eq h]
  exact join_not (by decide) _ (legWords_nl (legOk_of h))
theorem line_nl {x : Entry} (h : x.gap = false → aloneE x = 0) : (10 : UInt8) ∉ lineOf txOf x := by
  cases hg : x.gap
  · obtain ⟨hl, s1, s5, hv, _⟩ := alone_parts (h hg)
    obtain ⟨c, hc, c32, c10, _⟩ := letter_sec s1 s5
    rw [lineOf_parts hg c hc]
    simp only [List.mem_append, List.mem_cons, List.not_mem_nil, or_false, not_or]
    exact ⟨Ne.symm c10, by decide, dash_not (viaB_not hv (by decide) (by decide)) (by decide), by decide, pointText_not (by decide) (by decide) (by decide), by decide, pointText_not (by decide) (by decide) (by decide), by decide, textS_nl hl⟩
  · unfold lineOf
    rw [hg, if_pos rfl]
    decide
theorem checkGo_each : ∀ (es : List Entry) (prev : Option Entry) (s : Int), checkGo prev s es = 0 → ∀ x ∈ es, x.gap = true → x.eqB gapE = true
  | [], _, _, _, x, hx, _ => by simp at hx
  | y :: r, prev, s, h, x, hx, hg => by
    simp only [checkGo] at h
    obtain ⟨h1, h2⟩ := orE0 h
    rcases List.mem_cons.1 hx with rfl | hx
    · unfold stepE at h1
      rw [hg] at h1
      by_cases he : x.eqB gapE = true
      · exact he
      · simp [he] at h1
    · exact checkGo_each r _ _ h2 x hx hg
theorem head_parts (p : Plan) : headLine p = [80, 76, 65, 78] ++ 32 :: (dashB p.from_ ++ 32 :: (dashB p.to_ ++ 32 :: Lib.itoa p.active)) := by
  unfold headLine; simp
theorem place_of {p : Plan} (h : planCheck p = 0) : placeB p.from_ = true ∧ placeB p.to_ = true := by
  unfold planCheck at h
  split at h
  · simp at h
  · rename_i h1
    simpa using h1
theorem head_nl {p : Plan} (h : planCheck p = 0) : (10 : UInt8) ∉ headLine p := by
  obtain ⟨h1, h2⟩ := place_of h
  rw [head_parts]
  simp only [List.mem_append, List.mem_cons, List.not_mem_nil, or_false, not_or]
  exact ⟨by decide, by decide, dash_not (placeB_not h1 (by decide) (by decide)) (by decide), by decide, dash_not (placeB_not h2 (by decide) (by decide)) (by decide), by decide, itoa_not (by decide) (by decide) _⟩
theorem planT_eq {p : Plan} (h : planCheck p = 0) : planT p = Lib.join (headLine p :: p.es.map (lineOf txOf)) [10] := by
  unfold planT planText
  rw [h]; rfl
theorem planT_lines {p : Plan} (h : planCheck p = 0) : splitC 10 (planT p) = headLine p :: p.es.map (lineOf txOf) := by
  rw [planT_eq h]
  refine splitC_join 10 _ (by simp) (fun s hs => ?_)
  rcases List.mem_cons.1 hs with rfl | hs
  · exact head_nl h
  · obtain ⟨x, hx, rfl⟩ := List.mem_map.1 hs
    exact line_nl (fun hg => check_each _ _ _ (planCheck_ok h).2.1 x hx hg)
theorem planT_head {p : Plan} (h : planCheck p = 0) : (cutAt 10 (planT p)).1 = headLine p := by
  have hs := planT_lines h
  rw [splitC_cut] at hs
  split at hs
  · injection hs
  · rename_i hc
    have hc : (cutAt 10 (planT p)).2.2 = false := by simpa using hc
    rw [cutAt_falseS 10 _ hc]
    injection hs
theorem map_id_of {α : Type} {f : α → α} : ∀ l : List α, (∀ x ∈ l, f x = x) → l.map f = l
  | [], _ => rfl
  | x :: r, h => by rw [List.map_cons, h x (by simp), map_id_of r (fun y hy => h y (by simp [hy]))]
theorem entries_back {p : Plan} (h : planCheck p = 0) : (p.es.map (lineOf txOf)).map entryP = p.es ∧ (p.es.map (lineOf txOf)).map entryR = p.es := by
  have hx : ∀ x ∈ p.es, entryP (lineOf txOf x) = x ∧ entryR (lineOf txOf x) = x := by
    intro x hx
    cases hg : x.gap
    · exact entryP_back hg (check_each _ _ _ (planCheck_ok h).2.1 x hx hg)
    · exact gap_back hg (checkGo_each _ _ _ (planCheck_ok h).2.1 x hx hg)
  simp only [List.map_map]
  exact ⟨map_id_of _ (fun x h => (hx x h).1), map_id_of _ (fun x h => (hx x h).2)⟩
/-- The loose readings of a valid plan's text are the plan. -/
theorem read_back {p : Plan} (h : planCheck p = 0) : readP (planT p) = some p ∧ readR (planT p) = p := by
  obtain ⟨h1, h2⟩ := place_of h
  obtain ⟨_, _, a1, a2⟩ := planCheck_ok h
  obtain ⟨eP, eR⟩ := entries_back h
  have nP : (32 : UInt8) ∉ ([80, 76, 65, 78] : List UInt8) := by decide
  have n1 : (32 : UInt8) ∉ dashB p.from_ := dash_not (placeB_not h1 (by decide) (by decide)) (by decide)
  have n2 : (32 : UInt8) ∉ dashB p.to_ := dash_not (placeB_not h2 (by decide) (by decide)) (by decide)
  have n3 : (32 : UInt8) ∉ Lib.itoa p.active := itoa_not (by decide) (by decide) _
  have u1 := undash_dash (placeB_not h1 (c := 45) (by decide) (by decide))
  have u2 := undash_dash (placeB_not h2 (c := 45) (by decide) (by decide))
  constructor
  · unfold readP
    rw [planT_lines h]
    simp only [List.headD_cons, List.tail_cons]
    rw [head_parts, splitC_append 32 _ _ nP, splitC_append 32 _ _ n1, splitC_append 32 _ _ n2, splitC_one 32 _ n3]
    simp only [u1, u2, eP, numP_itoa (show -1000000000 ≤ p.active by omega) (show p.active ≤ 1000000000 by omega)]
  · unfold readR tail32 head32
    rw [planT_lines h, planT_head h, head_parts]
    simp only [List.tail_cons, cutAt_app 32 _ _ nP, cutAt_app 32 _ _ n1, cutAt_app 32 _ _ n2, u1, u2, eR, numR_itoa (show -999999999 ≤ p.active by omega) (show p.active ≤ 999999999 by omega)]
theorem planT_ne {p : Plan} (h : planCheck p = 0) : planT p ≠ [] := by
  intro e
  have := planT_lines h
  rw [e] at this
  have h2 : headLine p = [] := by injection this with h1 _; exact h1.symm
  rw [head_parts] at h2
  simp at h2
theorem planT_bad {p : Plan} (h : planCheck p ≠ 0) : planT p = [] := by
  unfold planT planText
  rw [if_pos (by simpa using h)]
end Go.Proofs.YtjgondadpjildaaGreatDoor
namespace Go.Proofs.YtjgondadpjildaaGreatDoor
open Go.RowKit
set_option linter.unusedVariables false
set_option linter.unusedSimpArgs false
theorem altN_lenT8 {m : Nat} (h : m ≤ 6000000) : (altN m).length ≤ 8 := by
  have h1 : (Lib.decDigits (m / 100)).length ≤ 5 := dec_len (by decide) (by omega)
  have h2 : (Lib.decDigits (m % 100 / 10)).length ≤ 1 := dec_len (by decide) (by omega)
  have h3 : (Lib.decDigits (m % 10)).length ≤ 1 := dec_len (by decide) (by omega)
  unfold altN
  split <;> simp <;> omega
theorem altS_lenT9 {a : Int} (h0 : -200000 ≤ a) (h : a ≤ 6000000) : (altS a).length ≤ 9 := by
  have := altN_lenT8 (m := a.natAbs) (by omega)
  unfold altS
  split <;> simp <;> omega
theorem winS_lenT19 {lo hi : Int} (h : winOk lo hi) : (winS lo hi).length ≤ 19 := by
  obtain ⟨h1, h2, h3⟩ := h
  have a := altS_lenT9 h1 (by omega)
  have b := altS_lenT9 (a := hi) (by omega) h3
  unfold winS
  repeat' split
  all_goals simp
  all_goals omega
theorem tx_tight {l : Leg} (h : LegOk l) : ∀ s ∈ [exactS l.course.toNat, 100 :: distS l.dist.toNat, 114 :: distS l.radius.toNat, exactS l.theta.toNat, winS l.lo l.hi, Lib.decDigits l.speed.toNat, 110 :: distS l.rnp.toNat], s.length ≤ 26 := by
  obtain ⟨hw, _, s0, s1, r0, r1⟩ := limits_of h.limits
  have e1 := exactS_len l.course.toNat
  have e2 := exactS_len l.theta.toNat
  have hd : l.dist.toNat ≤ 8000000 := by
    cases hb : uB l.ty 32
    · have := num_free h.dist hb; omega
    · have := num_used h.dist hb; omega
  have hr : l.radius.toNat ≤ 8000000 := by
    cases hb : uB l.ty 64
    · have := num_free h.radius hb; omega
    · have := num_used h.radius hb; omega
  have e3 := distS_len hd
  have e4 := distS_len hr
  have e5 := winS_lenT19 hw
  have e6 : (Lib.decDigits l.speed.toNat).length ≤ 4 := dec_len (by decide) (by omega)
  have e7 := distS_len (d := l.rnp.toNat) (by omega)
  simp only [List.mem_cons, List.not_mem_nil, or_false, forall_eq_or_imp, forall_eq, List.length_cons]
  refine ⟨?_, ?_, ?_, ?_, ?_, ?_, ?_⟩ <;> omega
theorem spanW_leT {B : Nat} : ∀ ws : List (List UInt8), (∀ s ∈ ws, s.length ≤ B) → spanW ws ≤ ws.length * (B + 1)
  | [], _ => by simp [spanW]
  | a :: q, h => by
    have h1 := spanW_leT q fun s hs => h s (by simp [hs])
    have h2 := h a (by simp)
    rw [spanW_cons, List.length_cons, Nat.add_mul]
    omega
theorem ref_lenT {s : List UInt8} (h : refB s = true) : s.length ≤ 13 := by
  have h0 : (splitRef s).2.2 = 0 := by simpa [refB] using h
  unfold splitRef splitRef3 at h0
  by_cases hq : (cutAt 47 s).2.2 = true
  · rw [if_pos hq] at h0
    by_cases hn : (nameB (cutAt 47 s).1 6 && (nameB (cutAt 47 s).2.1 6 || shortB (cutAt 47 s).2.1)) = true
    · have hp := congrArg List.length (cutAt_parts 47 s hq)
      simp only [Bool.and_eq_true, Bool.or_eq_true] at hn
      have nl : ∀ {l : List UInt8}, nameB l 6 = true → l.length ≤ 6 := fun {l} h => by
        unfold nameB at h
        split at h
        · cases h
        · simp only [Bool.and_eq_true, decide_eq_true_eq] at h; omega
      have a1 := nl hn.1
      have a2 : (cutAt 47 s).2.1.length ≤ 6 := by
        rcases hn.2 with h2 | h2
        · exact nl h2
        · unfold shortB at h2; simp only [Bool.and_eq_true, beq_iff_eq] at h2; omega
      simp only [List.length_append, List.length_cons] at hp
      omega
    · rw [if_neg hn] at h0; cases h0
  · rw [if_neg hq] at h0; cases h0
theorem textS_lenT {l : Leg} (h : legCheck l = 0) : (textS l).length ≤ 335 := by
  have hO := legOk_of h
  have hne : legWords l (txOf l) ≠ [] := by rw [legWords_eq]; simp
  have h1 := join_len _ hne
  have h2 := legWords_len l (txOf l)
  have h3 : ∀ s ∈ legWords l (txOf l), s.length ≤ 27 := by
    intro s hs
    have h3 := nameOf_len l.ty
    have hm := tx_tight hO
    simp only [List.mem_cons, List.not_mem_nil, or_false, forall_eq_or_imp, forall_eq, List.length_cons] at hm
    obtain ⟨m1, m2, m3, m4, m5, m6, m7⟩ := hm
    simp only [legWords, List.mem_append, List.mem_singleton] at hs
    have big : ∀ {b : Bool} {t x : List UInt8}, (b = true → t.length ≤ 27) → x ∈ opt b t → x.length ≤ 27 := fun {b t x} ht hx => by
      cases b
      · cases hx
      · have : x = t := by simpa [opt] using hx
        rw [this]; exact ht rfl
    rcases hs with (((((((((((hs | hs) | hs) | hs) | hs) | hs) | hs) | hs) | hs) | hs) | hs) | hs)
    · rw [hs]; omega
    · exact big (fun hb => by have := ref_lenT (refB_iff.2 (by have := hO.fix; rwa [hb] at this)); omega) hs
    · exact big (fun hb => by have := ref_lenT (refB_iff.2 (by have := hO.center; rwa [hb] at this)); simp only [List.length_cons]; omega) hs
    · exact big (fun hb => by split <;> simp) hs
    all_goals exact big (fun hb => by simp only [txOf, List.length_cons, List.length_nil]; omega) hs
  have h4 := spanW_leT _ h3
  rw [textS_eq h]
  have h5 : (legWords l (txOf l)).length * (27 + 1) ≤ 12 * 28 := Nat.mul_le_mul h2 (Nat.le_refl _)
  omega
theorem nameB_lenT {l : List UInt8} {m : Nat} (h : nameB l m = true) : l.length ≤ m := by
  unfold nameB at h
  split at h
  · cases h
  · simp only [Bool.and_eq_true, decide_eq_true_eq] at h; omega
theorem pairB_lenT {l : List UInt8} {c : UInt8} {m : Nat} (h : pairB l c m = true) : l.length ≤ 2 * m + 1 := by
  unfold pairB pair3 at h
  simp only [Bool.and_eq_true, Bool.or_eq_true, Bool.not_eq_true'] at h
  obtain ⟨h1, h2⟩ := h
  have a1 := nameB_lenT h1
  cases hq : (cutAt c l).2.2
  · rw [cutAt_falseS c l hq] at a1; omega
  · rw [hq] at h2
    have h2 : nameB (cutAt c l).2.1 m = true := by simpa using h2
    have a2 := nameB_lenT h2
    have hp := congrArg List.length (cutAt_parts c l hq)
    simp only [List.length_append, List.length_cons] at hp
    omega
theorem dash_lenT {s : List UInt8} {n : Nat} (h : s.length ≤ n) (hn : 1 ≤ n) : (dashB s).length ≤ n := by
  unfold dashB
  split
  · simpa using hn
  · exact h
theorem itoa_lenT {n : Int} (h0 : -9999999 ≤ n) (h1 : n ≤ 9999999) : (Lib.itoa n).length ≤ 8 := by
  by_cases hn : 0 ≤ n
  · obtain ⟨u, rfl⟩ : ∃ u : Nat, n = u := ⟨n.toNat, by omega⟩
    rw [Lib.itoa_nonneg]
    have := dec_len (u := u) (k := 7) (by decide) (by omega)
    omega
  · obtain ⟨u, rfl⟩ : ∃ u : Nat, n = -(u : Int) := ⟨n.natAbs, by omega⟩
    rw [Lib.itoa_neg u (by omega)]
    have := dec_len (u := u) (k := 7) (by decide) (by omega)
    simp; omega
theorem point_lenT {s : List UInt8} {x y : Int} (hx : -2000000 ≤ x ∧ x ≤ 2000000) (hy : -2000000 ≤ y ∧ y ≤ 2000000) : (pointText s x y).length ≤ 17 := by
  unfold pointText
  have := itoa_lenT (n := x) (by omega) (by omega)
  have := itoa_lenT (n := y) (by omega) (by omega)
  split
  · simp
  · simp; omega
theorem line_lenT {x : Entry} (h : x.gap = false → aloneE x = 0) : (lineOf txOf x).length ≤ 399 := by
  cases hg : x.gap
  · obtain ⟨hl, s1, s5, hv, ex, ey, mx, my, _⟩ := alone_parts (h hg)
    obtain ⟨c, hc, _⟩ := letter_sec s1 s5
    have a1 := textS_lenT hl
    have a2 := point_lenT (s := x.leg.fix) ex ey
    have a3 := point_lenT (s := x.leg.center) mx my
    have a4 : (dashB x.via).length ≤ 17 := by
      refine dash_lenT ?_ (by omega)
      unfold viaB at hv
      rcases Bool.or_eq_true_iff.1 hv with hv | hv
      · have : x.via = [] := by simpa using hv
        rw [this]; simp
      · exact pairB_lenT (m := 8) hv
    rw [lineOf_parts hg c hc]
    simp only [List.length_append, List.length_cons, List.length_nil]
    omega
  · unfold lineOf
    rw [hg]
    simp
theorem join_lenT (c : UInt8) : ∀ ls : List (List UInt8), (∀ s ∈ ls, s.length ≤ 399) → (Lib.join ls [c]).length ≤ 400 * ls.length
  | [], _ => by simp [Lib.join]
  | [a], h => by
    have : Lib.join [a] [c] = a := by simp [Lib.join]
    have := h a (by simp)
    simp_all; omega
  | a :: b :: r, h => by
    have e : Lib.join (a :: b :: r) [c] = a ++ c :: Lib.join (b :: r) [c] := by simp [Lib.join]
    have h1 := h a (by simp)
    have h2 := join_lenT c (b :: r) (fun s hs => h s (by simp [hs]))
    rw [e]
    simp only [List.length_append, List.length_cons] at *
    omega
theorem planT_len {p : Plan} (h : planCheck p = 0) : (planT p).length ≤ 24400 := by
  obtain ⟨hlen, hgo, a1, a2⟩ := planCheck_ok h
  obtain ⟨h1, h2⟩ := place_of h
  have pl : ∀ s : List UInt8, placeB s = true → (dashB s).length ≤ 13 := fun s hs => by
    refine dash_lenT ?_ (by omega)
    unfold placeB at hs
    rcases Bool.or_eq_true_iff.1 hs with hs | hs
    · have : s = [] := by simpa using hs
      rw [this]; simp
    · exact pairB_lenT (m := 6) hs
  have b1 := pl _ h1
  have b2 := pl _ h2
  have b3 := itoa_lenT (n := p.active) (by omega) (by omega)
  rw [planT_eq h]
  have := join_lenT 10 (headLine p :: p.es.map (lineOf txOf)) (fun s hs => by
    rcases List.mem_cons.1 hs with rfl | hs
    · rw [head_parts]
      simp only [List.length_append, List.length_cons, List.length_nil]
      omega
    · obtain ⟨x, hx, rfl⟩ := List.mem_map.1 hs
      exact line_lenT (fun hg => check_each _ _ _ hgo x hx hg))
  simp only [List.length_cons, List.length_map] at this
  omega
/-! What the two parsers answer. -/
def plan0 : Plan := ⟨[], [], [], 0⟩
def parseP (s : List UInt8) : Plan × Int :=
  match readP s with
  | none => (plan0, 4)
  | some p => if planT p = [] ∨ planT p ≠ s then (plan0, 4) else (p, 0)
def parseR (s : List UInt8) : Plan × Int :=
  if 24400 < s.length then (plan0, 4) else if planT (readR s) = [] ∨ planT (readR s) ≠ s then (plan0, 4) else (readR s, 0)
theorem parseP_ok {p : Plan} (h : planCheck p = 0) : parseP (planT p) = (p, 0) := by
  unfold parseP
  rw [(read_back h).1]
  simp only
  rw [if_neg]
  intro e
  rcases e with e | e
  · exact planT_ne h e
  · exact e rfl
theorem parseR_ok {p : Plan} (h : planCheck p = 0) : parseR (planT p) = (p, 0) := by
  unfold parseR
  rw [(read_back h).2, if_neg (by have := planT_len h; omega), if_neg]
  intro e
  rcases e with e | e
  · exact planT_ne h e
  · exact e rfl
theorem parseP_cases (s : List UInt8) : parseP s = (plan0, 4) ∨ ∃ p, planCheck p = 0 ∧ planT p = s ∧ parseP s = (p, 0) := by
  unfold parseP
  cases hr : readP s with
  | none => exact .inl rfl
  | some p =>
    simp only
    by_cases hc : planT p = [] ∨ planT p ≠ s
    · rw [if_pos hc]; exact .inl rfl
    · rw [if_neg hc]
      simp only [not_or, ne_eq, Decidable.not_not] at hc
      refine .inr ⟨p, ?_, hc.2, rfl⟩
      by_cases hk : planCheck p = 0
      · exact hk
      · exact absurd (planT_bad hk) hc.1
theorem parseR_cases (s : List UInt8) : parseR s = (plan0, 4) ∨ ∃ p, planCheck p = 0 ∧ planT p = s ∧ parseR s = (p, 0) := by
  unfold parseR
  split
  · exact .inl rfl
  · by_cases hc : planT (readR s) = [] ∨ planT (readR s) ≠ s
    · rw [if_pos hc]; exact .inl rfl
    · rw [if_neg hc]
      simp only [not_or, ne_eq, Decidable.not_not] at hc
      refine .inr ⟨readR s, ?_, hc.2, rfl⟩
      by_cases hk : planCheck (readR s) = 0
      · exact hk
      · exact absurd (planT_bad hk) hc.1
/-- The program and the reference read every text alike. -/
theorem parse_same (s : List UInt8) : parseP s = parseR s := by
  rcases parseP_cases s with h | ⟨p, hk, rfl, h⟩
  · rcases parseR_cases s with h2 | ⟨p, hk, rfl, h2⟩
    · rw [h, h2]
    · rw [parseP_ok hk, parseR_ok hk]
  · rw [parseP_ok hk, parseR_ok hk]
end Go.Proofs.YtjgondadpjildaaGreatDoor
namespace Go.Proofs.YtjgondadpjildaaGreatDoor
open Go.RowKit
set_option linter.unusedVariables false
set_option linter.unusedSimpArgs false
/-- What the sentinels of strconv hold. -/
structure ErrsAt (w : World) : Prop where
  range : ∃ ev, w.cell? ⟨6, 0, none⟩ = some ev ∧ (ev = .nilIface ∨ ∃ te pe, ev = .iface te pe)
  form : ∃ ev, w.cell? ⟨5, 0, none⟩ = some ev ∧ (ev = .nilIface ∨ ∃ te pe, ev = .iface te pe)
theorem ErrsAt.below {w w' : World} (h : ErrsAt w) (hb : Below w.heap.size w w') : ErrsAt w' := by
  obtain ⟨⟨a, a1, a2⟩, ⟨b, b1, b2⟩⟩ := h
  exact ⟨⟨a, by rw [hb.cell (p := ⟨_, 0, none⟩) (block_lt_of_cell a1)]; exact a1, a2⟩, ⟨b, by rw [hb.cell (p := ⟨_, 0, none⟩) (block_lt_of_cell b1)]; exact b1, b2⟩⟩
/-- The call returns a number, and some error or none. -/
def RetNum (W : World) (n : Int) : Ending → World → Prop := fun e w' => (∃ ev, e = .returned (.tuple #[.int .i64 n, ev])) ∧ Below W.heap.size W w'
theorem parseIntP_any (l : List UInt8) (w : World) (hl : l.length ≤ 4000000000) (hR : ErrsAt w) : Calls Tryz.prog 75 #[.string ⟨l.toArray⟩, .int .i64 10, .int .i64 64] w (RetNum w (numP l)) := by
  unfold numP
  cases hp : Lib.parseIntB 64 l with
  | ok v =>
    refine (Tryz.strconv_ParseInt_10_at64_ok ⟨l.toArray⟩ (by simp [ByteArray.size]; omega) v (by simpa using hp) w).mono fun e w' ⟨h1, h2⟩ => ⟨⟨_, h1⟩, ?_⟩
    rcases h2 with rfl | ⟨t, rfl⟩
    · exact Below.refl _ _
    · exact Lib.bytesWorld_below _ _ _
  | range =>
    obtain ⟨ev, h1, h2⟩ := hR.range
    exact (Tryz.strconv_ParseInt_10_at64_range ⟨l.toArray⟩ (by simp [ByteArray.size]; omega) (by simpa using hp) ev w h1 h2).mono fun e w' ⟨N, h3, _, _, h4⟩ => ⟨⟨_, by simpa using h3⟩, h4⟩
  | _ =>
    obtain ⟨ev, h1, h2⟩ := hR.form
    exact (Tryz.strconv_ParseInt_10_at64_syntax ⟨l.toArray⟩ (by simp [ByteArray.size]; omega) (by simpa using hp) ev w h1 h2).mono fun e w' ⟨N, h3, _, _, h4⟩ => ⟨⟨_, h3⟩, h4⟩
theorem callNum {P : Program} {f : FuncId} {args : Array Value} {W : World} {n : Int} {K : Ending → World → Prop} (h : Calls P f args W (RetNum W n)) (k : ∀ ev w', Below W.heap.size W w' → K (.returned (.tuple #[.int .i64 n, ev])) w') : Calls P f args W K :=
  h.mono fun e w' ⟨⟨ev, he⟩, hb⟩ => by subst he; exact k ev w' hb
end Go.Proofs.YtjgondadpjildaaGreatDoor
