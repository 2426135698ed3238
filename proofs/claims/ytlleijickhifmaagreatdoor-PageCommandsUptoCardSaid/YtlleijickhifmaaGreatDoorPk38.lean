/- What leg.Parse reads of the first words of a valid leg's text, in plain Lean; and that what it accepts is the text of the leg. Plans' texts in plain Lean: cut into lines and words again. No program in sight. The text of a plan, in plain Lean. Plans' texts in plain Lean: the loose reading of a valid plan's text is the plan. No program in sight. Edits in plain Lean: their fields, the first error, the text, the loose reading of a text. No program in sight. Edits in plain Lean: a valid edit's text is read back. No program in sight. Edits in plain Lean: both readings of a text are one; the laws of EditText and EditParses. No program in sight. -/
import Derived.Test.YtlleijickhifmaaGreatDoorPk28
import Derived.Test.YtlleijickhifmaaGreatDoorPk07
import Derived.Lib.ParseIntBCases
import Derived.Test.YtlleijickhifmaaGreatDoorPk17
import Derived.Lib.AtoiAll
namespace Go.Proofs.YtlleijickhifmaaGreatDoor
open Go.RowKit Go.Sort
set_option linter.unusedVariables false
set_option linter.unusedSimpArgs false
abbrev Ws := List (List UInt8)
/-- The reader stands ahead of the words W, cut behind some of them; the leg is l. -/
def AtS (full : Prop) (W : Ws) (l : Leg) (x : PS) : Prop := x.bad = 0 ∧ x.l = l ∧ ∃ j, x.ws = W.take j ∧ (full → W.length ≤ j)
/-- A word is missing at the end. -/
def OutS (n : Nat) (full : Prop) (x : PS) : Prop := ¬ full ∧ x.bad = (n : Int) + 2 ∧ x.ws = []
theorem OutS.needIf {n : Nat} {full : Prop} {x : PS} (h : OutS n full x) (b : Bool) (f : Acc) : OutS n full (x.needIf b n f) := by
  obtain ⟨h1, h2, h3⟩ := h
  have e : x.needIf b n f = x := by
    unfold PS.needIf PS.need
    cases b
    · rfl
    · simp only [if_true]; rw [if_pos (by omega)]
  rw [e]; exact ⟨h1, h2, h3⟩
theorem OutS.may {n : Nat} {full : Prop} {x : PS} (h : OutS n full x) (f : Acc) : OutS n full (x.may f) := by
  obtain ⟨h1, h2, h3⟩ := h
  have e : x.may f = x := by unfold PS.may; rw [if_pos (by omega)]
  rw [e]; exact ⟨h1, h2, h3⟩
theorem AtS.needIf {n : Nat} {full : Prop} {W : Ws} {l l' : Leg} {x : PS} {s : List UInt8} {b : Bool} {f : Acc} (h : AtS full (opt b s ++ W) l x) (h1 : b = true → f s l = (l', true)) (h0 : b = false → l' = l) :
    AtS full W l' (x.needIf b n f) ∨ OutS n full (x.needIf b n f) := by
  obtain ⟨hb, rfl, j, hw, hj⟩ := h
  cases b
  · left
    rw [h0 rfl]
    exact ⟨hb, rfl, j, by simpa [PS.needIf, opt] using hw, by simpa [opt] using hj⟩
  · have hw' : x.ws = (s :: W).take j := by simpa [opt] using hw
    have hj' : full → W.length + 1 ≤ j := fun hf => by have := hj hf; simp [opt] at this; omega
    unfold PS.needIf PS.need
    simp only [if_true]
    rw [if_neg (by omega)]
    cases j with
    | zero =>
      right
      rw [hw']
      exact ⟨fun hf => by have := hj' hf; omega, rfl, by simp⟩
    | succ j =>
      left
      rw [hw']
      simp only [List.take_succ_cons]
      rw [h1 rfl]
      exact ⟨rfl, rfl, j, rfl, fun hf => by have := hj' hf; omega⟩
theorem AtS.may {n : Nat} {full : Prop} {W : Ws} {l l' : Leg} {x : PS} {s : List UInt8} {b : Bool} {f : Acc} (h : AtS full (opt b s ++ W) l x) (h1 : b = true → f s l = (l', true)) (h0 : b = false → l' = l ∧ ∀ s' ∈ W, f s' l = (l, false)) :
    AtS full W l' (x.may f) ∨ (¬ full ∧ AtS full W l (x.may f)) := by
  obtain ⟨hb, rfl, j, hw, hj⟩ := h
  cases b
  · left
    obtain ⟨e, h2⟩ := h0 rfl
    rw [e]
    have hw' : x.ws = W.take j := by simpa [opt] using hw
    have hj' : full → W.length ≤ j := by simpa [opt] using hj
    unfold PS.may
    rw [if_neg (by omega)]
    match hq : x.ws with
    | [] => exact ⟨hb, rfl, j, by rw [← hw', hq], hj'⟩
    | s' :: r =>
      have hm : s' ∈ W := by have : s' ∈ W.take j := by rw [← hw', hq]; simp
                             exact List.mem_of_mem_take this
      simp only
      rw [h2 s' hm, if_neg (by simp)]
      exact ⟨hb, rfl, j, by rw [← hw', hq], hj'⟩
  · have hw' : x.ws = (s :: W).take j := by simpa [opt] using hw
    have hj' : full → W.length + 1 ≤ j := fun hf => by have := hj hf; simp [opt] at this; omega
    unfold PS.may
    rw [if_neg (by omega)]
    cases j with
    | zero =>
      right
      refine ⟨fun hf => by have := hj' hf; omega, ?_⟩
      rw [hw']
      exact ⟨hb, rfl, 0, by simpa using hw', fun hf => by have := hj' hf; omega⟩
    | succ j =>
      left
      rw [hw']
      simp only [List.take_succ_cons]
      rw [h1 rfl]
      exact ⟨rfl, rfl, j, rfl, fun hf => by have := hj' hf; omega⟩
/-- The leg's options, each its own or none. -/
structure OptOf (full : Prop) (l m : Leg) : Prop where
  ty : m.ty = l.ty
  fix : m.fix = l.fix
  center : m.center = l.center
  turn : m.turn = l.turn
  course : m.course = l.course
  dist : m.dist = l.dist
  radius : m.radius = l.radius
  theta : m.theta = l.theta
  over : m.over = l.over ∨ (¬ full ∧ m.over = false)
  win : (m.lo = l.lo ∧ m.hi = l.hi) ∨ (¬ full ∧ m.lo = -200000 ∧ m.hi = 6000000)
  speed : m.speed = l.speed ∨ (¬ full ∧ m.speed = 0)
  rnp : m.rnp = l.rnp ∨ (¬ full ∧ m.rnp = 0)
def needW (l : Leg) : Ws := opt (uB l.ty 1) l.fix ++ (opt (uB l.ty 2) (64 :: l.center) ++ (opt (uB l.ty 4) (if l.turn = 1 then [76] else [82]) ++ (opt (uB l.ty 16) (txOf l).course ++ (opt (uB l.ty 32) (txOf l).dist ++ (opt (uB l.ty 64) (txOf l).radius ++ (opt (uB l.ty 128) (116 :: (txOf l).theta) ++ []))))))
def optW (l : Leg) : Ws := opt l.over [111, 118, 101, 114] ++ (opt (winB l) (txOf l).win ++ (opt (l.speed != 0) (115 :: (txOf l).speed) ++ (opt (l.rnp != 0) (txOf l).rnp ++ [])))
theorem legWords_eq (l : Leg) : legWords l (txOf l) = nameOf l.ty :: (needW l ++ optW l) := by
  simp only [legWords, needW, optW, List.append_assoc, List.append_nil, List.singleton_append, List.cons_append, List.nil_append]
theorem opt_noW {b : Bool} {s x : List UInt8} (h : b = true → (32 : UInt8) ∉ s) (hx : x ∈ opt b s) : (32 : UInt8) ∉ x := by
  cases b
  · cases hx
  · have : x = s := by simpa [opt] using hx
    rw [this]; exact h rfl
theorem legWords_no {l : Leg} (h : LegOk l) : ∀ s ∈ legWords l (txOf l), (32 : UInt8) ∉ s := by
  intro s hs
  have nm : (32 : UInt8) ∉ nameOf l.ty := by
    have h1 : 1 ≤ l.ty ∧ l.ty ≤ 17 := by simpa [knownB] using h.known
    have hd : ∀ k : Fin 17, (32 : UInt8) ∉ nameOf ((k.val + 1 : Nat) : Int) := by decide +kernel
    have h2 := hd ⟨l.ty.toNat - 1, by omega⟩
    have e : ((l.ty.toNat - 1 + 1 : Nat) : Int) = l.ty := by omega
    simp only [e] at h2
    exact h2
  simp only [legWords, List.mem_append, List.mem_singleton] at hs
  rcases hs with (((((((((((hs | hs) | hs) | hs) | hs) | hs) | hs) | hs) | hs) | hs) | hs) | hs)
  · rw [hs]; exact nm
  · exact opt_noW (fun hb => ref_no (refB_iff.2 (by have := h.fix; rwa [hb] at this))) hs
  · exact opt_noW (fun hb => by have := ref_no (refB_iff.2 (by have := h.center; rwa [hb] at this)); simp only [List.mem_cons, not_or]; exact ⟨by decide, this⟩) hs
  · exact opt_noW (fun hb => by split <;> decide) hs
  · exact opt_noW (fun hb => dig_no (exactS_all _)) hs
  · exact opt_noW (fun hb => by simp only [txOf, List.mem_cons, not_or]; exact ⟨by decide, dist_no _⟩) hs
  · exact opt_noW (fun hb => by simp only [txOf, List.mem_cons, not_or]; exact ⟨by decide, dist_no _⟩) hs
  · exact opt_noW (fun hb => by simp only [txOf, List.mem_cons, not_or]; exact ⟨by decide, dig_no (exactS_all _)⟩) hs
  · exact opt_noW (fun hb => by decide) hs
  · exact opt_noW (fun hb => win_no _ _) hs
  · exact opt_noW (fun hb => by simp only [txOf, List.mem_cons, not_or]; exact ⟨by decide, dig_no (dec_all _)⟩) hs
  · exact opt_noW (fun hb => by simp only [txOf, List.mem_cons, not_or]; exact ⟨by decide, dist_no _⟩) hs
theorem cutPre_yes (c : UInt8) (r : List UInt8) : cutPre c (c :: r) = (r, true) := by simp [cutPre]
def nOpen (l : Leg) : Leg := { l with over := false, lo := -200000, hi := 6000000, speed := 0, rnp := 0 }
theorem mem_opt2 {b : Bool} {s x : List UInt8} {W : Ws} (h : x ∈ opt b s ++ W) : x = s ∨ x ∈ W := by
  rcases List.mem_append.1 h with h | h
  · exact .inl (mem_opt h)
  · exact .inr h
theorem mem_nil2 {x : List UInt8} (h : x ∈ ([] : Ws)) : False := by cases h
theorem win_head (l : Leg) : (txOf l).win ≠ [111, 118, 101, 114] := by
  obtain ⟨c, r, e, hc⟩ := winS_first l.lo l.hi
  show winS l.lo l.hi ≠ _
  rw [e]; intro h; injection h with h1 h2; rw [h1] at hc; revert hc; decide
theorem stepB {n : Nat} {full : Prop} {W W' : Ws} {l l' : Leg} {x y : PS} (h : AtS full W l x ∨ OutS n full x) (f : AtS full W l x → AtS full W' l' y ∨ OutS n full y) (g : OutS n full x → OutS n full y) : AtS full W' l' y ∨ OutS n full y := by
  rcases h with h | h
  · exact f h
  · exact .inr (g h)
theorem need_of {n : Nat} {full : Prop} {W : Ws} {l l' : Leg} {x : PS} {s : List UInt8} {b : Bool} {f : Acc} (h : AtS full (opt b s ++ W) l x ∨ OutS n full x) (h1 : b = true → f s l = (l', true)) (h0 : b = false → l' = l) :
    AtS full W l' (x.needIf b n f) ∨ OutS n full (x.needIf b n f) := stepB h (fun h => h.needIf h1 h0) (fun h => h.needIf b f)
/-- The fields that the type of a leg wants. -/
theorem cut_fields {l : Leg} (h : LegOk l) (n : Nat) (full : Prop) (x : PS) (hx : AtS full (needW l ++ optW l) { legOpen with ty := l.ty } x ∨ OutS n full x) :
    AtS full (optW l) (nOpen l) (x.fields l.ty n) ∨ OutS n full (x.fields l.ty n) := by
  unfold PS.fields
  unfold needW at hx
  simp only [List.append_assoc, List.nil_append] at hx
  have f1 : uB l.ty 1 = false → l.fix = [] := fun hb => by
    have := h.fix; rw [hb] at this; unfold checkRefI at this
    cases hl : l.fix with
    | nil => rfl
    | cons a r => rw [hl] at this; simp at this
  have f2 : uB l.ty 2 = false → l.center = [] := fun hb => by
    have := h.center; rw [hb] at this; unfold checkRefI at this
    cases hl : l.center with
    | nil => rfl
    | cons a r => rw [hl] at this; simp at this
  have f3 : uB l.ty 4 = false → l.turn = 0 := fun hb => by have := h.turn; rw [hb] at this; unfold turnE at this; grind
  have g3 : uB l.ty 4 = true → l.turn = 1 ∨ l.turn = 2 := fun hb => by have := h.turn; rw [hb] at this; unfold turnE at this; grind
  have y1 := need_of (l' := ⟨l.ty, l.fix, [], 0, false, 0, 0, 0, 0, -200000, 6000000, 0, 0⟩) (f := accFix) hx
    (fun hb => by have hr : refB l.fix = true := refB_iff.2 (by have := h.fix; rwa [hb] at this)
                  simp only [accFix, hr, legOpen, leg0]) (fun hb => by rw [f1 hb]; rfl)
  have y2 := need_of (l' := ⟨l.ty, l.fix, l.center, 0, false, 0, 0, 0, 0, -200000, 6000000, 0, 0⟩) (f := accCenter) y1
    (fun hb => by have hr : refB l.center = true := refB_iff.2 (by have := h.center; rwa [hb] at this)
                  simp only [accCenter, cutPre_yes, hr, Bool.and_self]) (fun hb => by rw [f2 hb])
  have y3 := need_of (l' := ⟨l.ty, l.fix, l.center, l.turn, false, 0, 0, 0, 0, -200000, 6000000, 0, 0⟩) (f := accTurn) y2
    (fun hb => by rcases g3 hb with e | e <;> rw [e] <;> simp [accTurn]) (fun hb => by rw [f3 hb])
  have y4 := need_of (l' := ⟨l.ty, l.fix, l.center, l.turn, false, l.course, 0, 0, 0, -200000, 6000000, 0, 0⟩) (f := accCourse) y3
    (fun hb => by have hr := num_used h.course hb
                  have hc : courseS (txOf l).course = (l.course, true) := courseS_exactS hr.1 hr.2
                  simp only [accCourse, hc]) (fun hb => by rw [num_free h.course hb])
  have y5 := need_of (l' := ⟨l.ty, l.fix, l.center, l.turn, false, l.course, l.dist, 0, 0, -200000, 6000000, 0, 0⟩) (f := accDist) y4
    (fun hb => by have hr := num_used h.dist hb
                  have hc : legDistS 100 (txOf l).dist = (l.dist, true) := legDist_fwd 100 hr.1 (by omega)
                  simp only [accDist, hc]) (fun hb => by rw [num_free h.dist hb])
  have y6 := need_of (l' := ⟨l.ty, l.fix, l.center, l.turn, false, l.course, l.dist, l.radius, 0, -200000, 6000000, 0, 0⟩) (f := accRadius) y5
    (fun hb => by have hr := num_used h.radius hb
                  have hc : legDistS 114 (txOf l).radius = (l.radius, true) := legDist_fwd 114 hr.1 (by omega)
                  simp only [accRadius, hc]) (fun hb => by rw [num_free h.radius hb])
  exact need_of (l' := nOpen l) (f := accTheta) y6
    (fun hb => by have hr := num_used h.theta hb
                  have hc : courseS (txOf l).theta = (l.theta, true) := courseS_exactS hr.1 hr.2
                  simp only [accTheta, if_true, hc]; rfl) (fun hb => by unfold nOpen; rw [num_free h.theta hb])
theorem cut_options {l : Leg} (h : LegOk l) (n : Nat) (full : Prop) (x : PS) (hx : AtS full (optW l) (nOpen l) x ∨ OutS n full x) :
    (∃ m, AtS full [] m x.options ∧ OptOf full l m) ∨ OutS n full x.options := by
  rcases Or.symm hx with hx | hx
  · exact .inr (((hx.may _).may _).may _ |>.may _)
  left
  obtain ⟨hw, hcl, s0, s1, r0, r1⟩ := limits_of h.limits
  unfold PS.options
  unfold optW at hx
  have tw : ∀ s' ∈ opt (winB l) (txOf l).win ++ (opt (l.speed != 0) (115 :: (txOf l).speed) ++ (opt (l.rnp != 0) (txOf l).rnp ++ [])), (s' == [111, 118, 101, 114]) = false := by
    intro s' hs
    rcases mem_opt2 hs with e | hs
    · rw [e, beq_eq_false_iff_ne]; exact win_head l
    rcases mem_opt2 hs with e | hs
    · rw [e, beq_eq_false_iff_ne]; intro hh; injection hh with h1 h2; revert h1; decide
    rcases mem_opt2 hs with e | hs
    · rw [e, beq_eq_false_iff_ne]; intro hh; injection hh with h1 h2; revert h1; decide
    exact absurd hs (fun h => mem_nil2 h)
  have tv : ∀ s' ∈ opt (l.speed != 0) (115 :: (txOf l).speed) ++ (opt (l.rnp != 0) (txOf l).rnp ++ []), winTaken s' = false := by
    intro s' hs
    rcases mem_opt2 hs with e | hs
    · rw [e]; exact win_not (by decide)
    rcases mem_opt2 hs with e | hs
    · rw [e]; exact win_not (by decide)
    exact absurd hs (fun h => mem_nil2 h)
  have ts : ∀ s' ∈ opt (l.rnp != 0) (txOf l).rnp ++ [], (speedS s').2 = false := by
    intro s' hs
    rcases mem_opt2 hs with e | hs
    · rw [e, speed_no]; intro r hr; injection hr with h1 h2; revert h1; decide
    exact absurd hs (fun h => mem_nil2 h)
  have fw : ∀ (k : Leg), winB l = true → accWin (txOf l).win k = ({ k with lo := l.lo, hi := l.hi }, true) := fun k hb => by
    have hn : ¬ (l.lo = -200000 ∧ l.hi = 6000000) := by rintro ⟨h1, h2⟩; unfold winB at hb; rw [h1, h2] at hb; simp at hb
    have ht : winTaken (txOf l).win = true := win_fwd hw hn
    have hp : parseWinS (txOf l).win = ((l.lo, l.hi), 0) := parseWin_winS hw
    unfold accWin
    rw [if_pos ht, hp]
  have fs : ∀ (k : Leg), (l.speed != 0) = true → accSpeed (115 :: (txOf l).speed) k = ({ k with speed := l.speed }, true) := fun k hb => by
    have hn : l.speed ≠ 0 := by simpa using hb
    have hp : speedS (115 :: (txOf l).speed) = (l.speed, true) := speed_fwd (by omega) s1
    unfold accSpeed
    rw [hp]; rfl
  have fr : ∀ (k : Leg), (l.rnp != 0) = true → accRnp (txOf l).rnp k = ({ k with rnp := l.rnp }, true) := fun k hb => by
    have hn : l.rnp ≠ 0 := by simpa using hb
    have hp : legDistS 110 (txOf l).rnp = (l.rnp, true) := legDist_fwd 110 (by omega) (by omega)
    unfold accRnp
    rw [hp]; rfl
  have nw : winB l = false → l.lo = -200000 ∧ l.hi = 6000000 := fun hb => by unfold winB at hb; simpa using hb
  have ns : (l.speed != 0) = false → l.speed = 0 := fun hb => by simpa using hb
  have nr : (l.rnp != 0) = false → l.rnp = 0 := fun hb => by simpa using hb
  -- over
  have y1 : ∃ m, AtS full (opt (winB l) (txOf l).win ++ (opt (l.speed != 0) (115 :: (txOf l).speed) ++ (opt (l.rnp != 0) (txOf l).rnp ++ []))) m (x.may accOver) ∧ (∃ o, m = { nOpen l with over := o } ∧ (o = l.over ∨ (¬ full ∧ o = false))) := by
    rcases hx.may (n := n) (l' := { nOpen l with over := l.over }) (f := accOver) (fun hb => by rw [hb]; rfl)
      (fun hb => ⟨by rw [hb]; rfl, fun s' hs => by unfold accOver; rw [tw s' hs]; rfl⟩) with k | ⟨k0, k⟩
    · exact ⟨_, k, l.over, rfl, .inl rfl⟩
    · exact ⟨_, k, false, rfl, .inr ⟨k0, rfl⟩⟩
  obtain ⟨m1, y1, o, e1, ho⟩ := y1
  have y2 : ∃ m, AtS full (opt (l.speed != 0) (115 :: (txOf l).speed) ++ (opt (l.rnp != 0) (txOf l).rnp ++ [])) m ((x.may accOver).may accWin) ∧ (∃ lo hi, m = { m1 with lo := lo, hi := hi } ∧ ((lo = l.lo ∧ hi = l.hi) ∨ (¬ full ∧ lo = -200000 ∧ hi = 6000000))) := by
    rcases y1.may (n := n) (l' := { m1 with lo := l.lo, hi := l.hi }) (f := accWin) (fun hb => fw m1 hb)
      (fun hb => ⟨by rw [(nw hb).1, (nw hb).2, e1]; rfl, fun s' hs => by unfold accWin; rw [tv s' hs]; rfl⟩) with k | ⟨k0, k⟩
    · exact ⟨_, k, _, _, rfl, .inl ⟨rfl, rfl⟩⟩
    · exact ⟨_, k, -200000, 6000000, by rw [e1]; rfl, .inr ⟨k0, rfl, rfl⟩⟩
  obtain ⟨m2, y2, lo, hi, e2, hwin⟩ := y2
  have y3 : ∃ m, AtS full (opt (l.rnp != 0) (txOf l).rnp ++ []) m (((x.may accOver).may accWin).may accSpeed) ∧ (∃ sp, m = { m2 with speed := sp } ∧ (sp = l.speed ∨ (¬ full ∧ sp = 0))) := by
    rcases y2.may (n := n) (l' := { m2 with speed := l.speed }) (f := accSpeed) (fun hb => fs m2 hb)
      (fun hb => ⟨by rw [ns hb, e2, e1]; rfl, fun s' hs => by unfold accSpeed; rw [ts s' hs]; rfl⟩) with k | ⟨k0, k⟩
    · exact ⟨_, k, _, rfl, .inl rfl⟩
    · exact ⟨_, k, 0, by rw [e2, e1]; rfl, .inr ⟨k0, rfl⟩⟩
  obtain ⟨m3, y3, sp, e3, hsp⟩ := y3
  have y4 : ∃ m, AtS full [] m ((((x.may accOver).may accWin).may accSpeed).may accRnp) ∧ (∃ rn, m = { m3 with rnp := rn } ∧ (rn = l.rnp ∨ (¬ full ∧ rn = 0))) := by
    rcases y3.may (n := n) (l' := { m3 with rnp := l.rnp }) (f := accRnp) (fun hb => fr m3 hb)
      (fun hb => ⟨by rw [nr hb, e3, e2, e1]; rfl, fun s' hs => absurd hs (fun h => mem_nil2 h)⟩) with k | ⟨k0, k⟩
    · exact ⟨_, k, _, rfl, .inl rfl⟩
    · exact ⟨_, k, 0, by rw [e3, e2, e1]; rfl, .inr ⟨k0, rfl⟩⟩
  obtain ⟨m4, y4, rn, e4, hrn⟩ := y4
  refine ⟨m4, y4, ?_⟩
  rw [e4, e3, e2, e1]
  exact ⟨rfl, rfl, rfl, rfl, rfl, rfl, rfl, rfl, ho, hwin, hsp, hrn⟩
theorem cut_last {l : Leg} (h : LegOk l) (T : List UInt8) (k : Nat) (hk : 1 ≤ k) (full : Prop) (hf : full → (legWords l (txOf l)).length ≤ k) (hT : words T = (legWords l (txOf l)).take k) :
    (∃ m, AtS full [] m (PS.last T) ∧ OptOf full l m) ∨ OutS T.length full (PS.last T) := by
  have hb : PS.begin T = ⟨(needW l ++ optW l).take (k - 1), 1 + ((nameOf l.ty).length + 1), 0, { legOpen with ty := l.ty }⟩ := by
    unfold PS.begin PS.need
    rw [hT, legWords_eq]
    obtain ⟨k', rfl⟩ : ∃ k', k = k' + 1 := ⟨k - 1, by omega⟩
    simp only [List.take_succ_cons, Nat.add_sub_cancel]
    rw [if_neg (by simp)]
    have ht : typeK (nameOf l.ty) legOpen.ty 18 = l.ty := type_fwd h.known
    have h1 : 1 ≤ l.ty ∧ l.ty ≤ 17 := by simpa [knownB] using h.known
    have hne : (l.ty != 0) = true := by simp; omega
    simp only [accName, ht, hne, if_true]
  have hl := congrArg List.length (legWords_eq l)
  have h0 : AtS full (needW l ++ optW l) { legOpen with ty := l.ty } (PS.begin T) := by
    rw [hb]
    exact ⟨rfl, rfl, k - 1, rfl, fun hff => by have := hf hff; simp only [List.length_cons] at hl; omega⟩
  unfold PS.last
  have ety : (PS.begin T).l.ty = l.ty := by rw [hb]
  rw [ety]
  exact cut_options h _ full _ (cut_fields h _ full _ (.inl h0))
theorem optOf_check {full : Prop} {l m : Leg} (h : LegOk l) (hm : OptOf full l m) : legCheck m = 0 ∨ (legCheck m = 2 ∧ climbsB l.ty = true ∧ ¬ full) := by
  have e5 : overB m = false := by
    have := h.over
    unfold overB at this ⊢
    rw [hm.ty]
    rcases hm.over with e | ⟨_, e⟩ <;> rw [e]
    · exact this
    · rfl
  have hc : legCheck m = limitsE m := by
    unfold legCheck legC2 legC3 legC4
    rw [e5, hm.ty, hm.fix, hm.center, hm.turn, hm.course, hm.dist, hm.radius, hm.theta, h.known, h.fix, h.center, h.turn, h.course, h.dist, h.radius, h.theta]
    rfl
  obtain ⟨hw, hcl, s0, s1, r0, r1⟩ := limits_of h.limits
  obtain ⟨w1, w2, w3⟩ := hw
  rw [hc]
  have q2 : ¬ (m.speed < 0 ∨ 1000 < m.speed ∨ m.rnp < 0 ∨ 120000 < m.rnp) := by
    rcases hm.speed with e | ⟨_, e⟩ <;> rcases hm.rnp with e' | ⟨_, e'⟩ <;> omega
  unfold limitsE
  rw [hm.ty, if_neg q2]
  rcases hm.win with ⟨e1, e2⟩ | ⟨e0, e1, e2⟩
  · left
    rw [if_neg (by omega), if_neg (by rintro ⟨a, b⟩; exact hcl a (by omega))]
  · rw [if_neg (by omega)]
    by_cases hcb : climbsB l.ty = true
    · right; rw [if_pos ⟨hcb, e1⟩]; exact ⟨rfl, hcb, e0⟩
    · left; rw [if_neg (by rintro ⟨a, b⟩; exact hcb a)]
theorem badAt_nil {x : PS} (h : x.ws = []) : x.badAt = x.bad := by unfold PS.badAt; rw [if_neg (by rintro ⟨a, b⟩; exact a h)]
/-- What the first words of a text read as. -/
theorem parse_cut {l : Leg} (h : LegOk l) (T : List UInt8) (k : Nat) (hk : 1 ≤ k) (full : Prop) (hf : full → (legWords l (txOf l)).length ≤ k) (hT : words T = (legWords l (txOf l)).take k) :
    (∃ m, OptOf full l m ∧ parseS T = (m, 0, 0)) ∨ (¬ full ∧ parseS T = (leg0, (T.length : Int) + 2, 4)) ∨ (¬ full ∧ climbsB l.ty = true ∧ parseS T = (leg0, 0, 2)) := by
  rcases cut_last h T k hk full hf hT with ⟨m, ⟨a1, a2, j, a3, _⟩, hm⟩ | ⟨a0, a1, a2⟩
  · have hws : (PS.last T).ws = [] := by simpa using a3
    unfold parseS PS.done
    rw [badAt_nil hws, a1, a2]
    rcases optOf_check h hm with e | ⟨e, hc, hn⟩
    · left; refine ⟨m, hm, ?_⟩; rw [e]; rfl
    · right; right; refine ⟨hn, hc, ?_⟩; rw [e]; rfl
  · right; left
    refine ⟨a0, ?_⟩
    unfold parseS PS.done
    rw [badAt_nil a2, a1, if_pos (by omega)]
theorem OptOf.eq {l m : Leg} (h : OptOf True l m) : m = l := by
  obtain ⟨h1, h2, h3, h4, h5, h6, h7, h8, h9, h10, h11, h12⟩ := h
  have h9 : m.over = l.over := by rcases h9 with e | ⟨e, _⟩; exact e; exact absurd trivial e
  have h10 : m.lo = l.lo ∧ m.hi = l.hi := by rcases h10 with e | ⟨e, _⟩; exact e; exact absurd trivial e
  have h11 : m.speed = l.speed := by rcases h11 with e | ⟨e, _⟩; exact e; exact absurd trivial e
  have h12 : m.rnp = l.rnp := by rcases h12 with e | ⟨e, _⟩; exact e; exact absurd trivial e
  obtain ⟨h10, h13⟩ := h10
  cases m; cases l
  simp only at *
  subst h1 h2 h3 h4 h5 h6 h7 h8 h9 h10 h11 h12 h13
  rfl
theorem textS_eq {l : Leg} (h : legCheck l = 0) : textS l = Lib.join (legWords l (txOf l)) [32] := by unfold textS legText; rw [h]; rfl
theorem textS_words {l : Leg} (h : legCheck l = 0) : words (textS l) = legWords l (txOf l) := by
  rw [textS_eq h]
  exact words_join _ (by rw [legWords_eq]; simp) (legWords_no (legOk_of h))
/-- The text of a valid leg reads as the leg. -/
theorem parse_textS {l : Leg} (h : legCheck l = 0) : parseS (textS l) = (l, 0, 0) := by
  have hw := textS_words h
  rcases parse_cut (legOk_of h) (textS l) ((legWords l (txOf l)).length) (by rw [legWords_eq]; simp) True (fun _ => Nat.le_refl _) (by rw [hw, List.take_length]) with ⟨m, hm, e⟩ | ⟨e, _⟩ | ⟨e, _⟩
  · rw [e, hm.eq]
  · exact absurd trivial e
  · exact absurd trivial e
end Go.Proofs.YtlleijickhifmaaGreatDoor
namespace Go.Proofs.YtlleijickhifmaaGreatDoor
open Go.RowKit
set_option linter.unusedVariables false
set_option linter.unusedSimpArgs false
/-- The texts between the bytes c. -/
def splitC (c : UInt8) : List UInt8 → List (List UInt8)
  | [] => [[]]
  | x :: r => if x = c then [] :: splitC c r else match splitC c r with | [] => [[x]] | a :: q => (x :: a) :: q
theorem splitC_append (c : UInt8) (a r : List UInt8) (h : c ∉ a) : splitC c (a ++ c :: r) = a :: splitC c r := by
  induction a with
  | nil => simp [splitC]
  | cons x a ih =>
    simp only [List.mem_cons, not_or] at h
    have hx : ¬ x = c := fun e => h.1 e.symm
    rw [List.cons_append, splitC, if_neg hx, ih h.2]
theorem splitC_one (c : UInt8) (a : List UInt8) (h : c ∉ a) : splitC c a = [a] := by
  induction a with
  | nil => simp [splitC]
  | cons x a ih =>
    simp only [List.mem_cons, not_or] at h
    have hx : ¬ x = c := fun e => h.1 e.symm
    rw [splitC, if_neg hx, ih h.2]
theorem splitC_ne (c : UInt8) (l : List UInt8) : splitC c l ≠ [] := by
  cases l with
  | nil => simp [splitC]
  | cons x r =>
    unfold splitC
    split
    · simp
    · split <;> simp
theorem splitC_words (l : List UInt8) : splitC 32 l = words l := by
  induction l with
  | nil => rfl
  | cons x r ih => unfold splitC words; rw [ih] <;> rfl
theorem splitC_cut (c : UInt8) : ∀ l : List UInt8, splitC c l = if (cutAt c l).2.2 then (cutAt c l).1 :: splitC c (cutAt c l).2.1 else [l]
  | [] => by simp [splitC, cutAt]
  | x :: r => by
    have ih := splitC_cut c r
    by_cases hx : x = c
    · simp [splitC, cutAt, hx]
    · simp only [splitC, cutAt, hx, if_false]
      cases hf : (cutAt c r).2.2
      · simp [hf] at ih; simp [ih]
      · simp [hf] at ih; simp [ih]
theorem splitC_join (c : UInt8) : ∀ ls : List (List UInt8), ls ≠ [] → (∀ s ∈ ls, c ∉ s) → splitC c (Lib.join ls [c]) = ls
  | [], h, _ => absurd rfl h
  | [a], _, h => by
    have : Lib.join [a] [c] = a := by simp [Lib.join]
    rw [this]; exact splitC_one c a (h a (by simp))
  | a :: b :: r, _, h => by
    have e : Lib.join (a :: b :: r) [c] = a ++ c :: Lib.join (b :: r) [c] := by simp [Lib.join]
    rw [e, splitC_append c a _ (h a (by simp)), splitC_join c (b :: r) (by simp) (fun s hs => h s (by simp [hs]))]
theorem cutAt_app (c : UInt8) (a r : List UInt8) (h : c ∉ a) : cutAt c (a ++ c :: r) = (a, r, true) := by
  induction a with
  | nil => simp [cutAt]
  | cons x a ih =>
    simp only [List.mem_cons, not_or] at h
    have hx : ¬ x = c := fun e => h.1 e.symm
    rw [List.cons_append, cutAt, if_neg hx, ih h.2]
/-! No line of a valid plan holds a line's end. -/
theorem alnum_nl {l : List UInt8} (h : l.all alnum = true) : (10 : UInt8) ∉ l := fun hm => by
  have := (List.all_eq_true.1 h) 10 hm
  exact absurd this (by decide)
theorem ref_nl {s : List UInt8} (h : refB s = true) : (10 : UInt8) ∉ s := by
  have h0 : (splitRef s).2.2 = 0 := by simpa [refB] using h
  unfold splitRef splitRef3 at h0
  by_cases hq : (cutAt 47 s).2.2 = true
  · rw [if_pos hq] at h0
    by_cases hn : (nameB (cutAt 47 s).1 6 && (nameB (cutAt 47 s).2.1 6 || shortB (cutAt 47 s).2.1)) = true
    · have hp := cutAt_parts 47 s hq
      simp only [Bool.and_eq_true, Bool.or_eq_true] at hn
      have a1 := alnum_nl (nameB_all hn.1)
      have a2 : (10 : UInt8) ∉ (cutAt 47 s).2.1 := by
        rcases hn.2 with h2 | h2
        · exact alnum_nl (nameB_all h2)
        · unfold shortB at h2; simp only [Bool.and_eq_true] at h2; exact alnum_nl h2.2
      rw [hp]
      simp only [List.mem_append, List.mem_cons, not_or]
      exact ⟨a1, by decide, a2⟩
    · rw [if_neg hn] at h0; cases h0
  · rw [if_neg hq] at h0; cases h0
theorem dig_nl {l : List UInt8} (h : l.all isD = true) : (10 : UInt8) ∉ l := fun hm => by
  have := (List.all_eq_true.1 h) 10 hm
  exact absurd this (by decide)
theorem dist_nl (d : Nat) : (10 : UInt8) ∉ distS d := by
  unfold distS
  have h1 := dig_nl (dec_all (d / 6000))
  have h2 := dig_nl (dec_all (d % 6000))
  split
  · simpa using h1
  · simp only [List.mem_append, List.mem_cons, not_or]
    exact ⟨h1, by decide, h2⟩
theorem alt_nl (a : Int) : (10 : UInt8) ∉ altS a := altS_not (by decide) a
theorem win_nl (lo hi : Int) : (10 : UInt8) ∉ winS lo hi := by
  unfold winS
  have h1 := alt_nl lo
  have h2 := alt_nl hi
  repeat' split
  · decide
  · exact h1
  · simp only [List.mem_append, List.mem_cons, not_or, List.not_mem_nil, not_false_eq_true, and_true]; exact ⟨h1, by decide⟩
  · simp only [List.mem_append, List.mem_cons, not_or, List.not_mem_nil, not_false_eq_true, and_true]; exact ⟨h2, by decide⟩
  · simp only [List.mem_append, List.mem_cons, not_or]; exact ⟨h1, by decide, h2⟩
theorem opt_nlW {b : Bool} {s x : List UInt8} (h : b = true → (10 : UInt8) ∉ s) (hx : x ∈ opt b s) : (10 : UInt8) ∉ x := by
  cases b
  · cases hx
  · have : x = s := by simpa [opt] using hx
    rw [this]; exact h rfl
theorem legWords_nl {l : Leg} (h : LegOk l) : ∀ s ∈ legWords l (txOf l), (10 : UInt8) ∉ s := by
  intro s hs
  have nm : (10 : UInt8) ∉ nameOf l.ty := by
    have h1 : 1 ≤ l.ty ∧ l.ty ≤ 17 := by simpa [knownB] using h.known
    have hd : ∀ k : Fin 17, (10 : UInt8) ∉ nameOf ((k.val + 1 : Nat) : Int) := by decide +kernel
    have h2 := hd ⟨l.ty.toNat - 1, by omega⟩
    have e : ((l.ty.toNat - 1 + 1 : Nat) : Int) = l.ty := by omega
    simp only [e] at h2
    exact h2
  simp only [legWords, List.mem_append, List.mem_singleton] at hs
  rcases hs with (((((((((((hs | hs) | hs) | hs) | hs) | hs) | hs) | hs) | hs) | hs) | hs) | hs)
  · rw [hs]; exact nm
  · exact opt_nlW (fun hb => ref_nl (refB_iff.2 (by have := h.fix; rwa [hb] at this))) hs
  · exact opt_nlW (fun hb => by have := ref_nl (refB_iff.2 (by have := h.center; rwa [hb] at this)); simp only [List.mem_cons, not_or]; exact ⟨by decide, this⟩) hs
  · exact opt_nlW (fun hb => by split <;> decide) hs
  · exact opt_nlW (fun hb => dig_nl (exactS_all _)) hs
  · exact opt_nlW (fun hb => by simp only [txOf, List.mem_cons, not_or]; exact ⟨by decide, dist_nl _⟩) hs
  · exact opt_nlW (fun hb => by simp only [txOf, List.mem_cons, not_or]; exact ⟨by decide, dist_nl _⟩) hs
  · exact opt_nlW (fun hb => by simp only [txOf, List.mem_cons, not_or]; exact ⟨by decide, dig_nl (exactS_all _)⟩) hs
  · exact opt_nlW (fun hb => by decide) hs
  · exact opt_nlW (fun hb => win_nl _ _) hs
  · exact opt_nlW (fun hb => by simp only [txOf, List.mem_cons, not_or]; exact ⟨by decide, dig_nl (dec_all _)⟩) hs
  · exact opt_nlW (fun hb => by simp only [txOf, List.mem_cons, not_or]; exact ⟨by decide, dist_nl _⟩) hs
/-! Numbers. -/
/-- What strconv.ParseInt answers, its error left aside. -/
def numP (l : List UInt8) : Int := match Lib.parseIntB 64 l with | .ok n => n | .range => Lib.intSat 64 l | .syntax => 0
theorem uintM_small (M : Nat) (hM : 1000000000000 < M) : ∀ (l : List UInt8) (a : Nat), l.all isD = true → numV a l ≤ 1000000000000 → Lib.parseUintM M a l = .ok (numV a l)
  | [], a, _, _ => rfl
  | c :: r, a, h, hv => by
    simp only [List.all_cons, Bool.and_eq_true] at h
    have hc : 48 ≤ c.toNat ∧ c.toNat ≤ 57 := by simpa [isD] using h.1
    have hge := numV_ge r (10 * a + (c.toNat - 48))
    simp only [numV_cons] at hv ⊢
    rw [Lib.parseUintM, if_pos hc, if_neg (by omega), if_neg (by omega), Nat.mul_comm a 10]
    exact uintM_small M hM r _ h.2 hv
theorem uintB_dec (u : Nat) (h : u ≤ 1000000000000) : Lib.parseUintB 64 (Lib.decDigits u) = .ok u := by
  have h1 := uintM_small (2 ^ 64 - 1) (by decide) (Lib.decDigits u) 0 (dec_all u) (by have := val_dec u; unfold val at this; omega)
  have h2 : numV 0 (Lib.decDigits u) = u := val_dec u
  rw [Lib.parseUintB, if_neg (dec_ne u), h1, h2]
theorem numP_itoa {n : Int} (h0 : -1000000000 ≤ n) (h1 : n ≤ 1000000000) : numP (Lib.itoa n) = n := by
  unfold numP
  by_cases hn : 0 ≤ n
  · obtain ⟨u, rfl⟩ : ∃ u : Nat, n = u := ⟨n.toNat, by omega⟩
    rw [Lib.itoa_nonneg]
    obtain ⟨c, r, e⟩ : ∃ c r, Lib.decDigits u = c :: r := by
      cases hd : Lib.decDigits u with
      | nil => exact absurd hd (dec_ne u)
      | cons c r => exact ⟨c, r, rfl⟩
    have ha := dec_all u
    rw [e] at ha
    simp only [List.all_cons, Bool.and_eq_true] at ha
    have hc : 48 ≤ c.toNat ∧ c.toNat ≤ 57 := by simpa [isD] using ha.1
    have hu := uintB_dec u (by omega)
    rw [e] at hu ⊢
    rw [Lib.parseIntB_plain 64 c r (by omega) (by omega), hu]
    simp only [Lib.signlessC]
    rw [if_neg (by omega)]
  · obtain ⟨u, rfl⟩ : ∃ u : Nat, n = -(u : Int) := ⟨n.natAbs, by omega⟩
    rw [Lib.itoa_neg u (by omega), Lib.parseIntB_minus, uintB_dec u (by omega)]
    simp only [Lib.signedC]
    rw [if_neg (by omega)]
theorem numP_dash : numP [45] = 0 := by decide +kernel
theorem numP_nil : numP [] = 0 := by decide +kernel
/-- The number that the reference reads: at most nine digits. -/
def numR (l : List UInt8) : Int :=
  if ((cutPre 45 l).1.take 9).all isD then (if (cutPre 45 l).2 then -(val ((cutPre 45 l).1.take 9) : Int) else val ((cutPre 45 l).1.take 9)) else 0
theorem numR_itoa {n : Int} (h0 : -999999999 ≤ n) (h1 : n ≤ 999999999) : numR (Lib.itoa n) = n := by
  unfold numR
  by_cases hn : 0 ≤ n
  · obtain ⟨u, rfl⟩ : ∃ u : Nat, n = u := ⟨n.toNat, by omega⟩
    rw [Lib.itoa_nonneg]
    have hl : (Lib.decDigits u).length ≤ 9 := dec_len (by decide) (by omega)
    have hc : cutPre 45 (Lib.decDigits u) = (Lib.decDigits u, false) := by
      have h := dec_all u
      cases hd : Lib.decDigits u with
      | nil => rfl
      | cons c r =>
        rw [hd] at h
        simp only [List.all_cons, Bool.and_eq_true] at h
        have : c ≠ 45 := by rintro rfl; exact absurd h.1 (by decide)
        simp [cutPre, this]
    rw [hc]
    simp only [List.take_of_length_le hl, dec_all, if_true, Bool.false_eq_true, if_false, val_dec]
  · obtain ⟨u, rfl⟩ : ∃ u : Nat, n = -(u : Int) := ⟨n.natAbs, by omega⟩
    rw [Lib.itoa_neg u (by omega)]
    have hl : (Lib.decDigits u).length ≤ 9 := dec_len (by decide) (by omega)
    simp only [cutPre, if_true, List.take_of_length_le hl, dec_all, val_dec]
theorem numR_dash : numR [45] = 0 := by decide +kernel
theorem numR_nil : numR [] = 0 := by decide +kernel
end Go.Proofs.YtlleijickhifmaaGreatDoor
namespace Go.Proofs.YtlleijickhifmaaGreatDoor
open Go.RowKit
set_option linter.unusedVariables false
set_option linter.unusedSimpArgs false
theorem orE0 {a b : Int} (h : orE a b = 0) : a = 0 ∧ b = 0 := by grind [orE]
def letterOf (s : Int) : List UInt8 := (([63, 68, 69, 65, 80, 77] : List UInt8).take (s.toNat + 1)).drop s.toNat
def headLine (p : Plan) : List UInt8 := [80, 76, 65, 78, 32] ++ dashB p.from_ ++ [32] ++ dashB p.to_ ++ [32] ++ Lib.itoa p.active
def lineOf (tx : Leg → LegTx) (x : Entry) : List UInt8 :=
  if x.gap then [71, 65, 80] else letterOf x.sec ++ [32] ++ dashB x.via ++ [32] ++ pointText x.leg.fix x.ex x.ey ++ [32] ++ pointText x.leg.center x.mx x.my ++ [32] ++ legText x.leg (tx x.leg)
def planText (tx : Leg → LegTx) (p : Plan) : List UInt8 := if planCheck p != 0 then [] else Lib.join (headLine p :: p.es.map (lineOf tx)) [10]
theorem check_each : ∀ (es : List Entry) (prev : Option Entry) (s : Int), checkGo prev s es = 0 → ∀ x ∈ es, x.gap = false → aloneE x = 0
  | [], _, _, _, x, hx, _ => by simp at hx
  | y :: r, prev, s, h, x, hx, hg => by
    simp only [checkGo] at h
    obtain ⟨h1, h2⟩ := orE0 h
    rcases List.mem_cons.1 hx with rfl | hx
    · unfold stepE at h1
      rw [hg] at h1
      exact (orE0 (by simpa using h1)).1
    · exact check_each r _ _ h2 x hx hg
theorem planCheck_ok {p : Plan} (h : planCheck p = 0) : p.es.length ≤ 60 ∧ checkGo none 0 p.es = 0 ∧ -1 ≤ p.active ∧ p.active < 60 := by
  unfold planCheck at h
  split at h
  · simp at h
  · split at h
    · simp at h
    · obtain ⟨h1, h2⟩ := orE0 h
      refine ⟨by omega, h1, ?_⟩
      unfold activeE at h2
      split at h2
      · omega
      · split at h2
        · simp at h2
        · omega
theorem alone_sec {x : Entry} (h : aloneE x = 0) : 1 ≤ x.sec ∧ x.sec ≤ 5 ∧ i64 x.ex ∧ i64 x.ey ∧ i64 x.mx ∧ i64 x.my := by
  obtain ⟨_, h2⟩ := orE0 h
  unfold alone2 at h2
  split at h2
  · simp at h2
  · rename_i h3
    split at h2
    · simp at h2
    · split at h2
      · simp at h2
      · rename_i h4
        have h3 : sectionB x.sec = true := by simpa using h3
        have h5 : pointB x.ex x.ey = true ∧ pointB x.mx x.my = true := by simpa using h4
        simp only [sectionB, pointB, Bool.and_eq_true, decide_eq_true_eq] at h3 h5
        unfold i64
        omega
theorem dashB_len (s : List UInt8) : (dashB s).length ≤ s.length + 1 := by unfold dashB; split <;> simp
theorem pointText_len {s : List UInt8} {x y : Int} (hx : i64 x) (hy : i64 y) : (pointText s x y).length ≤ 43 := by
  unfold pointText
  have := itoa_len x hx.1 hx.2
  have := itoa_len y hy.1 hy.2
  split <;> simp
  omega
theorem letterOf_len (s : Int) : (letterOf s).length ≤ 6 := by unfold letterOf; simp; omega
end Go.Proofs.YtlleijickhifmaaGreatDoor
namespace Go.Proofs.YtlleijickhifmaaGreatDoor
open Go.RowKit
set_option linter.unusedVariables false
set_option linter.unusedSimpArgs false
def undashB (s : List UInt8) : List UInt8 := if s = [45] then [] else s
def unpointP (s : List UInt8) : Int × Int := (numP (cutAt 44 s).1, numP (cutAt 44 s).2.1)
def placeR (s : List UInt8) : Int × Int := if undashB s = [] then (0, 0) else (numR (cutAt 44 s).1, numR (cutAt 44 s).2.1)
/-- Cut at the first k blanks. -/
def cutN : Nat → List UInt8 → List (List UInt8)
  | 0, s => [s]
  | k + 1, s => if (cutAt 32 s).2.2 then (cutAt 32 s).1 :: cutN k (cutAt 32 s).2.1 else [s]
def idxP (w : List UInt8) : Nat := ((List.range 7).find? fun i => w.isPrefixOf (([63, 68, 69, 65, 80, 77] : List UInt8).drop i)).getD 0
def secR (w : List UInt8) : Int := if w = [68] then 1 else if w = [69] then 2 else if w = [65] then 3 else if w = [80] then 4 else if w = [77] then 5 else 0
def zeroEnt : Entry := ⟨false, leg0, 0, 0, 0, 0, 0, []⟩
def entryP (line : List UInt8) : Entry :=
  if line = [71, 65, 80] then gapE else
    match cutN 4 line with
    | [a, b, c, d, e] => ⟨false, (parseS e).1, (unpointP c).1, (unpointP c).2, (unpointP d).1, (unpointP d).2, idxP a, undashB b⟩
    | _ => zeroEnt
def tail32 (s : List UInt8) : List UInt8 := (cutAt 32 s).2.1
def head32 (s : List UInt8) : List UInt8 := (cutAt 32 s).1
def entryR (line : List UInt8) : Entry :=
  if line = [71, 65, 80] then gapE else
    ⟨false, (parseS (tail32 (tail32 (tail32 (tail32 line))))).1, (placeR (head32 (tail32 (tail32 line)))).1, (placeR (head32 (tail32 (tail32 line)))).2,
      (placeR (head32 (tail32 (tail32 (tail32 line))))).1, (placeR (head32 (tail32 (tail32 (tail32 line))))).2, secR (head32 line), undashB (head32 (tail32 line))⟩
def readP (s : List UInt8) : Option Plan :=
  match splitC 32 ((splitC 10 s).headD []) with
  | [_, b, c, d] => some ⟨undashB b, undashB c, (splitC 10 s).tail.map entryP, numP d⟩
  | _ => none
def readR (s : List UInt8) : Plan :=
  ⟨undashB (head32 (tail32 (cutAt 10 s).1)), undashB (head32 (tail32 (tail32 (cutAt 10 s).1))), (splitC 10 s).tail.map entryR, numR (tail32 (tail32 (tail32 (cutAt 10 s).1)))⟩
def planT (p : Plan) : List UInt8 := planText txOf p
/-! What the parts of a valid plan's text are made of. -/
theorem cutAt_falseS (c : UInt8) : ∀ l : List UInt8, (cutAt c l).2.2 = false → (cutAt c l).1 = l
  | [], _ => rfl
  | x :: r, h => by
    by_cases hx : x = c
    · simp [cutAt, hx] at h
    · simp only [cutAt, hx, if_false] at h ⊢
      rw [cutAt_falseS c r h]
theorem alnum_not {l : List UInt8} (h : l.all alnum = true) {c : UInt8} (hc : alnum c = false) : c ∉ l := fun hm => by
  have := (List.all_eq_true.1 h) c hm
  rw [hc] at this; cases this
theorem pairB_parts {l : List UInt8} {c : UInt8} {m : Int} (h : pairB l c m = true) : ∀ x ∈ l, alnum x = true ∨ x = c := by
  unfold pairB pair3 at h
  simp only [Bool.and_eq_true, Bool.or_eq_true, Bool.not_eq_true'] at h
  obtain ⟨h1, h2⟩ := h
  have a1 := List.all_eq_true.1 (nameB_all h1)
  cases hq : (cutAt c l).2.2
  · rw [cutAt_falseS c l hq] at a1
    exact fun x hx => .inl (a1 x hx)
  · rw [hq] at h2
    have h2 : nameB (cutAt c l).2.1 m = true := by simpa using h2
    have a2 := List.all_eq_true.1 (nameB_all h2)
    have hp := cutAt_parts c l hq
    intro x hx
    rw [hp] at hx
    simp only [List.mem_append, List.mem_cons] at hx
    rcases hx with hx | hx | hx
    · exact .inl (a1 x hx)
    · exact .inr hx
    · exact .inl (a2 x hx)
theorem placeB_not {l : List UInt8} (h : placeB l = true) {c : UInt8} (hc : alnum c = false) (h47 : c ≠ 47) : c ∉ l := by
  unfold placeB at h
  rcases Bool.or_eq_true_iff.1 h with h | h
  · have : l = [] := by simpa using h
    rw [this]; simp
  · intro hm
    rcases pairB_parts h c hm with h2 | h2
    · rw [hc] at h2; cases h2
    · exact h47 h2
theorem viaB_not {l : List UInt8} (h : viaB l = true) {c : UInt8} (hc : alnum c = false) (h46 : c ≠ 46) : c ∉ l := by
  unfold viaB at h
  rcases Bool.or_eq_true_iff.1 h with h | h
  · have : l = [] := by simpa using h
    rw [this]; simp
  · intro hm
    rcases pairB_parts h c hm with h2 | h2
    · rw [hc] at h2; cases h2
    · exact h46 h2
theorem undash_dash {s : List UInt8} (h : (45 : UInt8) ∉ s) : undashB (dashB s) = s := by
  unfold undashB dashB
  cases s with
  | nil => rfl
  | cons c r =>
    have : c :: r ≠ [45] := by intro e; rw [e] at h; simp at h
    simp [this]
theorem dash_not {s : List UInt8} {c : UInt8} (h : c ∉ s) (hc : c ≠ 45) : c ∉ dashB s := by
  unfold dashB
  split
  · simpa using hc
  · exact h
theorem itoa_not {c : UInt8} (h : isD c = false) (h45 : c ≠ 45) (n : Int) : c ∉ Lib.itoa n := by
  have hd : ∀ u : Nat, c ∉ Lib.decDigits u := fun u hm => by
    have := (List.all_eq_true.1 (dec_all u)) c hm
    rw [h] at this; cases this
  by_cases hn : 0 ≤ n
  · obtain ⟨u, rfl⟩ : ∃ u : Nat, n = u := ⟨n.toNat, by omega⟩
    rw [Lib.itoa_nonneg]; exact hd u
  · obtain ⟨u, rfl⟩ : ∃ u : Nat, n = -(u : Int) := ⟨n.natAbs, by omega⟩
    rw [Lib.itoa_neg u (by omega)]
    simp only [List.mem_cons, not_or]
    exact ⟨h45, hd u⟩
theorem pointText_not {s : List UInt8} {x y : Int} {c : UInt8} (h : isD c = false) (h45 : c ≠ 45) (h44 : c ≠ 44) : c ∉ pointText s x y := by
  unfold pointText
  split
  · simpa using h45
  · simp only [List.mem_append, List.mem_singleton, not_or]
    exact ⟨⟨itoa_not h h45 x, h44⟩, itoa_not h h45 y⟩
theorem unpoint_pt {s : List UInt8} {x y : Int} (hx : -2000000 ≤ x ∧ x ≤ 2000000) (hy : -2000000 ≤ y ∧ y ≤ 2000000) (h0 : s = [] → x = 0 ∧ y = 0) : unpointP (pointText s x y) = (x, y) := by
  unfold unpointP pointText
  cases s with
  | nil =>
    obtain ⟨rfl, rfl⟩ := h0 rfl
    simp only [List.isEmpty_nil, if_true, cutAt_not (show (44 : UInt8) ∉ [45] by decide), numP_dash, numP_nil]
  | cons c r =>
    have e : Lib.itoa x ++ [44] ++ Lib.itoa y = Lib.itoa x ++ 44 :: Lib.itoa y := by simp
    simp only [List.isEmpty_cons, Bool.false_eq_true, if_false]
    rw [e, cutAt_app 44 _ _ (itoa_not (by decide) (by decide) x)]
    simp only
    rw [numP_itoa (by omega) (by omega), numP_itoa (by omega) (by omega)]
theorem itoa_ne (n : Int) : Lib.itoa n ≠ [] := by
  by_cases hn : 0 ≤ n
  · obtain ⟨u, rfl⟩ : ∃ u : Nat, n = u := ⟨n.toNat, by omega⟩
    rw [Lib.itoa_nonneg]; exact dec_ne u
  · obtain ⟨u, rfl⟩ : ∃ u : Nat, n = -(u : Int) := ⟨n.natAbs, by omega⟩
    rw [Lib.itoa_neg u (by omega)]; simp
theorem place_pt {s : List UInt8} {x y : Int} (hx : -2000000 ≤ x ∧ x ≤ 2000000) (hy : -2000000 ≤ y ∧ y ≤ 2000000) (h0 : s = [] → x = 0 ∧ y = 0) : placeR (pointText s x y) = (x, y) := by
  unfold placeR pointText
  cases s with
  | nil =>
    obtain ⟨rfl, rfl⟩ := h0 rfl
    simp [undashB]
  | cons c r =>
    have e : Lib.itoa x ++ [44] ++ Lib.itoa y = Lib.itoa x ++ 44 :: Lib.itoa y := by simp
    simp only [List.isEmpty_cons, Bool.false_eq_true, if_false]
    rw [e, cutAt_app 44 _ _ (itoa_not (by decide) (by decide) x)]
    have h1 : undashB (Lib.itoa x ++ 44 :: Lib.itoa y) ≠ [] := by
      unfold undashB
      have := itoa_ne y
      split
      · rename_i h
        have h2 := congrArg List.length h
        have h3 := List.length_pos_iff.2 (itoa_ne x)
        simp at h2; omega
      · simp
    rw [if_neg h1]
    simp only
    rw [numR_itoa (by omega) (by omega), numR_itoa (by omega) (by omega)]
theorem letter_ok : ∀ k : Fin 5, letterOf ((k.val + 1 : Nat) : Int) = [([68, 69, 65, 80, 77] : List UInt8).getD k.val 0] ∧ ([68, 69, 65, 80, 77] : List UInt8).getD k.val 0 ≠ 32 ∧ ([68, 69, 65, 80, 77] : List UInt8).getD k.val 0 ≠ 10 ∧
    idxP [([68, 69, 65, 80, 77] : List UInt8).getD k.val 0] = k.val + 1 ∧ secR [([68, 69, 65, 80, 77] : List UInt8).getD k.val 0] = ((k.val + 1 : Nat) : Int) := by decide +kernel
theorem letter_sec {s : Int} (h1 : 1 ≤ s) (h5 : s ≤ 5) : ∃ c : UInt8, letterOf s = [c] ∧ c ≠ 32 ∧ c ≠ 10 ∧ (idxP [c] : Int) = s ∧ secR [c] = s := by
  obtain ⟨a, b, d, e, f⟩ := letter_ok ⟨s.toNat - 1, by omega⟩
  have hs : ((s.toNat - 1 + 1 : Nat) : Int) = s := by omega
  simp only [hs] at a f
  exact ⟨_, a, b, d, by rw [e]; omega, f⟩
/-- What a valid entry by itself gives. -/
theorem alone_parts {x : Entry} (h : aloneE x = 0) : legCheck x.leg = 0 ∧ 1 ≤ x.sec ∧ x.sec ≤ 5 ∧ viaB x.via = true ∧ (-2000000 ≤ x.ex ∧ x.ex ≤ 2000000) ∧ (-2000000 ≤ x.ey ∧ x.ey ≤ 2000000) ∧ (-2000000 ≤ x.mx ∧ x.mx ≤ 2000000) ∧ (-2000000 ≤ x.my ∧ x.my ≤ 2000000) ∧
    (x.leg.fix = [] → x.ex = 0 ∧ x.ey = 0) ∧ (x.leg.center = [] → x.mx = 0 ∧ x.my = 0) := by
  obtain ⟨h1, h2⟩ := orE0 h
  unfold alone2 at h2
  split at h2
  · simp at h2
  · rename_i h3
    split at h2
    · simp at h2
    · rename_i hv
      split at h2
      · simp at h2
      · rename_i h4
        split at h2
        · simp at h2
        · rename_i h6
          have h3 : sectionB x.sec = true := by simpa using h3
          have hv : viaB x.via = true := by simpa using hv
          have h5 : pointB x.ex x.ey = true ∧ pointB x.mx x.my = true := by simpa using h4
          simp only [sectionB, pointB, Bool.and_eq_true, decide_eq_true_eq] at h3 h5
          unfold placedB at h6
          simp only [Bool.or_eq_true, Bool.and_eq_true, Bool.not_eq_true', not_or, not_and, Bool.not_eq_false, beq_iff_eq, List.isEmpty_iff, Bool.and_eq_true] at h6
          refine ⟨h1, by omega, by omega, hv, by omega, by omega, by omega, by omega, fun e => ?_, fun e => ?_⟩
          · have := h6.1 e
            simpa using this
          · have := h6.2 e
            simpa using this
/-- The parts of a leg's line. -/
theorem lineOf_parts {x : Entry} (hg : x.gap = false) (c : UInt8) (hc : letterOf x.sec = [c]) :
    lineOf txOf x = [c] ++ 32 :: (dashB x.via ++ 32 :: (pointText x.leg.fix x.ex x.ey ++ 32 :: (pointText x.leg.center x.mx x.my ++ 32 :: textS x.leg))) := by
  unfold lineOf textS
  rw [hg, hc]
  simp
theorem entryP_back {x : Entry} (hg : x.gap = false) (h : aloneE x = 0) : entryP (lineOf txOf x) = x ∧ entryR (lineOf txOf x) = x := by
  obtain ⟨hl, s1, s5, hv, ex, ey, mx, my, f0, c0⟩ := alone_parts h
  obtain ⟨c, hc, c32, c10, ci, cs⟩ := letter_sec s1 s5
  have n1 : (32 : UInt8) ∉ [c] := by simpa using Ne.symm c32
  have n2 : (32 : UInt8) ∉ dashB x.via := dash_not (viaB_not hv (by decide) (by decide)) (by decide)
  have n3 : (32 : UInt8) ∉ pointText x.leg.fix x.ex x.ey := pointText_not (by decide) (by decide) (by decide)
  have n4 : (32 : UInt8) ∉ pointText x.leg.center x.mx x.my := pointText_not (by decide) (by decide) (by decide)
  have hne : lineOf txOf x ≠ [71, 65, 80] := by
    rw [lineOf_parts hg c hc]
    intro e
    simp at e
  have hu := undash_dash (viaB_not hv (c := 45) (by decide) (by decide))
  have p1 := unpoint_pt (s := x.leg.fix) ex ey f0
  have p2 := unpoint_pt (s := x.leg.center) mx my c0
  have q1 := place_pt (s := x.leg.fix) ex ey f0
  have q2 := place_pt (s := x.leg.center) mx my c0
  have pt := parse_textS hl
  obtain ⟨gap, leg, exx, eyy, mxx, myy, sec, via⟩ := x
  simp only at *
  subst hg
  constructor
  · unfold entryP
    rw [if_neg hne, lineOf_parts rfl c hc]
    simp only [cutN, cutAt_app 32 _ _ n1, cutAt_app 32 _ _ n2, cutAt_app 32 _ _ n3, cutAt_app 32 _ _ n4, if_true, p1, p2, pt, hu, ci]
  · unfold entryR tail32 head32
    rw [if_neg hne, lineOf_parts rfl c hc]
    simp only [cutAt_app 32 _ _ n1, cutAt_app 32 _ _ n2, cutAt_app 32 _ _ n3, cutAt_app 32 _ _ n4, q1, q2, pt, hu, cs]
theorem gap_back {x : Entry} (hg : x.gap = true) (h : x.eqB gapE = true) : entryP (lineOf txOf x) = x ∧ entryR (lineOf txOf x) = x := by
  have e : x = gapE := (Entry.eqB_iff x gapE).1 h
  subst e
  exact ⟨rfl, rfl⟩
theorem join_not {c d : UInt8} (hcd : c ≠ d) : ∀ ls : List (List UInt8), (∀ s ∈ ls, c ∉ s) → c ∉ Lib.join ls [d]
  | [], _ => by simp [Lib.join]
  | [a], h => by
    have : Lib.join [a] [d] = a := by simp [Lib.join]
    rw [this]; exact h a (by simp)
  | a :: b :: r, h => by
    have e : Lib.join (a :: b :: r) [d] = a ++ d :: Lib.join (b :: r) [d] := by simp [Lib.join]
    rw [e]
    simp only [List.mem_append, List.mem_cons, not_or]
    exact ⟨h a (by simp), hcd, join_not hcd (b :: r) (fun s hs => h s (by simp [hs]))⟩
theorem textS_nl {l : Leg} (h : legCheck l = 0) : (10 : UInt8) ∉ textS l := by
  rw [textS_eq h]
  exact join_not (by decide) _ (legWords_nl (legOk_of h))
theorem line_nl {x : Entry} (h : x.gap = false → aloneE x = 0) : (10 : UInt8) ∉ lineOf txOf x := by
  cases hg : x.gap
  · obtain ⟨hl, s1, s5, hv, _⟩ := alone_parts (h hg)
    obtain ⟨c, hc, c32, c10, _⟩ := letter_sec s1 s5
    rw [lineOf_parts hg c hc]
    simp only [List.mem_append, List.mem_cons, List.not_mem_nil, or_false, not_or]
    exact ⟨Ne.symm c10, by decide, dash_not (viaB_not hv (by decide) (by decide)) (by decide), by decide, pointText_not (by decide) (by decide) (by decide), by decide, pointText_not (by decide) (by decide) (by decide), by decide, textS_nl hl⟩
  · unfold lineOf
    rw [hg, if_pos rfl]
    decide
theorem checkGo_each : ∀ (es : List Entry) (prev : Option Entry) (s : Int), checkGo prev s es = 0 → ∀ x ∈ es, x.gap = true → x.eqB gapE = true
  | [], _, _, _, x, hx, _ => by simp at hx
  | y :: r, prev, s, h, x, hx, hg => by
    simp only [checkGo] at h
    obtain ⟨h1, h2⟩ := orE0 h
    rcases List.mem_cons.1 hx with rfl | hx
    · unfold stepE at h1
      rw [hg] at h1
      by_cases he : x.eqB gapE = true
      · exact he
      · simp [he] at h1
    · exact checkGo_each r _ _ h2 x hx hg
theorem head_parts (p : Plan) : headLine p = [80, 76, 65, 78] ++ 32 :: (dashB p.from_ ++ 32 :: (dashB p.to_ ++ 32 :: Lib.itoa p.active)) := by
  unfold headLine; simp
theorem place_of {p : Plan} (h : planCheck p = 0) : placeB p.from_ = true ∧ placeB p.to_ = true := by
  unfold planCheck at h
  split at h
  · simp at h
  · rename_i h1
    simpa using h1
theorem head_nl {p : Plan} (h : planCheck p = 0) : (10 : UInt8) ∉ headLine p := by
  obtain ⟨h1, h2⟩ := place_of h
  rw [head_parts]
  simp only [List.mem_append, List.mem_cons, List.not_mem_nil, or_false, not_or]
  exact ⟨by decide, by decide, dash_not (placeB_not h1 (by decide) (by decide)) (by decide), by decide, dash_not (placeB_not h2 (by decide) (by decide)) (by decide), by decide, itoa_not (by decide) (by decide) _⟩
theorem planT_eq {p : Plan} (h : planCheck p = 0) : planT p = Lib.join (headLine p :: p.es.map (lineOf txOf)) [10] := by
  unfold planT planText
  rw [h]; rfl
theorem planT_lines {p : Plan} (h : planCheck p = 0) : splitC 10 (planT p) = headLine p :: p.es.map (lineOf txOf) := by
  rw [planT_eq h]
  refine splitC_join 10 _ (by simp) (fun s hs => ?_)
  rcases List.mem_cons.1 hs with rfl | hs
  · exact head_nl h
  · obtain ⟨x, hx, rfl⟩ := List.mem_map.1 hs
    exact line_nl (fun hg => check_each _ _ _ (planCheck_ok h).2.1 x hx hg)
theorem planT_head {p : Plan} (h : planCheck p = 0) : (cutAt 10 (planT p)).1 = headLine p := by
  have hs := planT_lines h
  rw [splitC_cut] at hs
  split at hs
  · injection hs
  · rename_i hc
    have hc : (cutAt 10 (planT p)).2.2 = false := by simpa using hc
    rw [cutAt_falseS 10 _ hc]
    injection hs
theorem map_id_of {α : Type} {f : α → α} : ∀ l : List α, (∀ x ∈ l, f x = x) → l.map f = l
  | [], _ => rfl
  | x :: r, h => by rw [List.map_cons, h x (by simp), map_id_of r (fun y hy => h y (by simp [hy]))]
theorem entries_back {p : Plan} (h : planCheck p = 0) : (p.es.map (lineOf txOf)).map entryP = p.es ∧ (p.es.map (lineOf txOf)).map entryR = p.es := by
  have hx : ∀ x ∈ p.es, entryP (lineOf txOf x) = x ∧ entryR (lineOf txOf x) = x := by
    intro x hx
    cases hg : x.gap
    · exact entryP_back hg (check_each _ _ _ (planCheck_ok h).2.1 x hx hg)
    · exact gap_back hg (checkGo_each _ _ _ (planCheck_ok h).2.1 x hx hg)
  simp only [List.map_map]
  exact ⟨map_id_of _ (fun x h => (hx x h).1), map_id_of _ (fun x h => (hx x h).2)⟩
/-- The loose readings of a valid plan's text are the plan. -/
theorem read_back {p : Plan} (h : planCheck p = 0) : readP (planT p) = some p ∧ readR (planT p) = p := by
  obtain ⟨h1, h2⟩ := place_of h
  obtain ⟨_, _, a1, a2⟩ := planCheck_ok h
  obtain ⟨eP, eR⟩ := entries_back h
  have nP : (32 : UInt8) ∉ ([80, 76, 65, 78] : List UInt8) := by decide
  have n1 : (32 : UInt8) ∉ dashB p.from_ := dash_not (placeB_not h1 (by decide) (by decide)) (by decide)
  have n2 : (32 : UInt8) ∉ dashB p.to_ := dash_not (placeB_not h2 (by decide) (by decide)) (by decide)
  have n3 : (32 : UInt8) ∉ Lib.itoa p.active := itoa_not (by decide) (by decide) _
  have u1 := undash_dash (placeB_not h1 (c := 45) (by decide) (by decide))
  have u2 := undash_dash (placeB_not h2 (c := 45) (by decide) (by decide))
  constructor
  · unfold readP
    rw [planT_lines h]
    simp only [List.headD_cons, List.tail_cons]
    rw [head_parts, splitC_append 32 _ _ nP, splitC_append 32 _ _ n1, splitC_append 32 _ _ n2, splitC_one 32 _ n3]
    simp only [u1, u2, eP, numP_itoa (show -1000000000 ≤ p.active by omega) (show p.active ≤ 1000000000 by omega)]
  · unfold readR tail32 head32
    rw [planT_lines h, planT_head h, head_parts]
    simp only [List.tail_cons, cutAt_app 32 _ _ nP, cutAt_app 32 _ _ n1, cutAt_app 32 _ _ n2, u1, u2, eR, numR_itoa (show -999999999 ≤ p.active by omega) (show p.active ≤ 999999999 by omega)]
theorem planT_ne {p : Plan} (h : planCheck p = 0) : planT p ≠ [] := by
  intro e
  have := planT_lines h
  rw [e] at this
  have h2 : headLine p = [] := by injection this with h1 _; exact h1.symm
  rw [head_parts] at h2
  simp at h2
theorem planT_bad {p : Plan} (h : planCheck p ≠ 0) : planT p = [] := by
  unfold planT planText
  rw [if_pos (by simpa using h)]
end Go.Proofs.YtlleijickhifmaaGreatDoor
namespace Go.Proofs.YtlleijickhifmaaGreatDoor
open Go.RowKit
set_option linter.unusedVariables false
set_option linter.unusedSimpArgs false
/-- strconv.Atoi's number, its error left aside. -/
def atoiP (l : List UInt8) : Int := match Lib.atoiAll l with | .ok n => n | .range => Lib.atoiSat l | .syntax => 0
theorem atoiP_small : ∀ n : Fin 61, atoiP (Lib.itoa (n.val : Int)) = (n.val : Int) := by decide +kernel
theorem atoiP_itoa {n : Int} (h0 : 0 ≤ n) (h : n ≤ 60) : atoiP (Lib.itoa n) = n := by
  obtain ⟨u, rfl⟩ : ∃ u : Nat, n = u := ⟨n.toNat, by omega⟩
  exact atoiP_small ⟨u, by omega⟩
structure EditV where
  op : Int
  at_ : Int
  ref : List UInt8
  name : List UInt8
  rway : List UInt8
  trans : List UInt8
  lo : Int
  hi : Int
  speed : Int
  course : Int
  dist : Int
  turn : Int
def edit0 : EditV := ⟨0, 0, [], [], [], [], 0, 0, 0, 0, 0, 0⟩
/-- The fields in the order of the check; the letters are the program's. -/
def edOrder : List UInt8 := [97, 114, 110, 119, 116, 104, 115, 99, 100, 117]
/-- The fields that an operation uses, in the order of its text. -/
def formF (op : Int) : List UInt8 :=
  ([[], [97, 114], [97], [97], [97, 104], [97, 115], [97, 100], [97, 99, 100, 117], [97, 114, 110], [110, 119, 116], [110, 119, 116], [110, 116], [97, 110]] : List (List UInt8)).getD op.toNat []
/-- The word of an operation. -/
def formW (op : Int) : List UInt8 :=
  ([[], [73, 78, 83, 69, 82, 84], [68, 69, 76, 69, 84, 69], [68, 73, 82, 69, 67, 84], [65, 76, 84], [83, 80, 68], [82, 78, 80], [72, 79, 76, 68], [65, 73, 82, 87, 65, 89],
    [68, 69, 80, 65, 82, 84, 85, 82, 69], [65, 82, 82, 73, 86, 65, 76], [65, 80, 80, 82, 79, 65, 67, 72], [68, 73, 86, 69, 82, 84]] : List (List UInt8)).getD op.toNat []
def betweenS (n lo hi : Int) : Int := if n < lo ∨ hi < n then 2 else 0
def namedS (b : Bool) : Int := if b then 0 else 5
def checkF (e : EditV) (c : UInt8) : Int :=
  if c = 97 then betweenS e.at_ 0 60
  else if c = 114 then namedS (refB e.ref)
  else if c = 110 then (if e.op = 12 then namedS (pairB e.name 47 6) else namedS (nameB e.name 8))
  else if c = 119 then namedS (e.rway.isEmpty || nameB e.rway 6)
  else if c = 116 then namedS (e.trans.isEmpty || nameB e.trans 8)
  else if c = 104 then (if e.lo < -200000 ∨ e.hi < e.lo ∨ 6000000 < e.hi then 2 else 0)
  else if c = 115 then betweenS e.speed 0 1000
  else if c = 99 then betweenS e.course 0 129599999
  else if c = 100 then (if e.op = 6 then betweenS e.dist 0 120000 else betweenS e.dist 1 2000000)
  else if c = 117 then (if e.turn = 1 ∨ e.turn = 2 then 0 else 1)
  else 0
def zeroF (e : EditV) (c : UInt8) : Bool :=
  if c = 97 then e.at_ == 0
  else if c = 114 then e.ref.isEmpty
  else if c = 110 then e.name.isEmpty
  else if c = 119 then e.rway.isEmpty
  else if c = 116 then e.trans.isEmpty
  else if c = 104 then e.lo == 0 && e.hi == 0
  else if c = 115 then e.speed == 0
  else if c = 99 then e.course == 0
  else if c = 100 then e.dist == 0
  else e.turn == 0
/-- What the check of one field says. -/
def stE (e : EditV) (c : UInt8) : Int := if (formF e.op).contains c then checkF e c else if zeroF e c then 0 else 1
def chkGo (e : EditV) : List UInt8 → Int
  | [] => 0
  | c :: r => orE (stE e c) (chkGo e r)
/-- The first error of an edit. -/
def editCheck (e : EditV) : Int := if e.op < 1 ∨ 12 < e.op then 17 else chkGo e edOrder
def writeF (e : EditV) (c : UInt8) : List UInt8 :=
  if c = 97 then Lib.itoa e.at_
  else if c = 114 then e.ref
  else if c = 110 then e.name
  else if c = 119 then dashB e.rway
  else if c = 116 then dashB e.trans
  else if c = 104 then (winT e.lo e.hi).1
  else if c = 115 then Lib.itoa e.speed
  else if c = 99 then exactS e.course.toNat
  else if c = 100 then (distT e.dist).1
  else if e.turn = 1 then [76] else [82]
/-- The words of an edit's fields, each behind a blank. -/
def tailT (e : EditV) : List UInt8 → List UInt8
  | [] => []
  | c :: r => 32 :: (writeF e c ++ tailT e r)
/-- The text of an edit. -/
def editText (e : EditV) : List UInt8 := if editCheck e != 0 then [] else formW e.op ++ tailT e (formF e.op)
def readF (e : EditV) (c : UInt8) (s : List UInt8) : EditV :=
  if c = 97 then { e with at_ := atoiP s }
  else if c = 114 then { e with ref := s }
  else if c = 110 then { e with name := s }
  else if c = 119 then (if s = [45] then e else { e with rway := s })
  else if c = 116 then (if s = [45] then e else { e with trans := s })
  else if c = 104 then { e with lo := (parseWinS s).1.1, hi := (parseWinS s).1.2 }
  else if c = 115 then { e with speed := numP s }
  else if c = 99 then { e with course := (parseExS s).1 }
  else if c = 100 then { e with dist := (distP s).1 }
  else { e with turn := if s = [76] then 1 else 2 }
def readGo : EditV → List UInt8 → List (List UInt8) → EditV
  | e, c :: r, s :: ws => readGo (readF e c s) r ws
  | e, _, _ => e
/-- What was read, if its text is the one. -/
def okP (s : List UInt8) (e : EditV) : Option EditV := if editText e = s then some e else none
/-- The operation's reading of a text, if its word and the number of its fields fit and the text is that of what was read. -/
def tryOp (s : List UInt8) (ws : List (List UInt8)) (op : Int) : Option EditV :=
  if op = 0 ∨ formW op ≠ ws.headD [] ∨ (formF op).length ≠ ws.length - 1 then none
  else okP s (readGo { edit0 with op := op } (formF op) ws.tail)
/-- edit.Parse from an operation on; n operations are left. -/
def parseFrom (s : List UInt8) (ws : List (List UInt8)) : Nat → Nat → EditV × Int
  | _, 0 => (edit0, 4)
  | k, n + 1 => match tryOp s ws k with
    | some e => (e, 0)
    | none => parseFrom s ws (k + 1) n
def editParse (s : List UInt8) : EditV × Int := parseFrom s (splitC 32 s) 0 13
/-! The reference's order of reading. -/
def smallS (s : List UInt8) : Int := if s.length ≤ 4 ∧ s.all isD = true then (val s : Int) else 0
def rreadF (e : EditV) (c : UInt8) (s : List UInt8) : EditV :=
  if c = 97 then { e with at_ := smallS s }
  else if c = 114 then { e with ref := s }
  else if c = 110 then { e with name := s }
  else if c = 119 then { e with rway := undashB s }
  else if c = 116 then { e with trans := undashB s }
  else if c = 104 then { e with lo := (rparseWinS s).1.1, hi := (rparseWinS s).1.2 }
  else if c = 115 then { e with speed := smallS s }
  else if c = 99 then { e with course := (parseExS s).1 }
  else if c = 100 then { e with dist := (distP s).1 }
  else { e with turn := if s = [82] then 2 else 1 }
def rreadGo : EditV → List UInt8 → List UInt8 → EditV
  | e, [], _ => e
  | e, c :: r, s => rreadGo (rreadF e c (head32 s)) r (tail32 s)
def opOf (w : List UInt8) : Int := (((List.range 12).map fun (i : Nat) => (i : Int) + 1).foldl (fun o k => if formW k = w then k else o) 0)
def okR (s : List UInt8) (e : EditV) : EditV × Int := if editText e = [] ∨ editText e ≠ s then (edit0, 4) else (e, 0)
def reditParse (s : List UInt8) : EditV × Int := okR s (rreadGo { edit0 with op := opOf (head32 s) } (formF (opOf (head32 s))) (tail32 s))
end Go.Proofs.YtlleijickhifmaaGreatDoor
namespace Go.Proofs.YtlleijickhifmaaGreatDoor
open Go.RowKit
set_option linter.unusedVariables false
set_option linter.unusedSimpArgs false
theorem numE0 {b : Bool} (h : namedS b = 0) : b = true := by cases b <;> simp_all [namedS]
theorem betE {n lo hi : Int} (h : betweenS n lo hi = 0) : lo ≤ n ∧ n ≤ hi := by
  unfold betweenS at h
  split at h <;> omega
theorem orE_both {a b : Int} (h : orE a b = 0) : a = 0 ∧ b = 0 := by
  unfold orE at h
  split at h
  · rename_i h1; subst h; exact absurd h1 (by decide)
  · rename_i h1; exact ⟨by simpa using h1, h⟩
theorem chk_all {e : EditV} : ∀ {l : List UInt8}, chkGo e l = 0 → ∀ c ∈ l, stE e c = 0
  | [], _, c, hc => absurd hc List.not_mem_nil
  | c0 :: r, h, c, hc => by
      obtain ⟨h1, h2⟩ := orE_both h
      rcases List.mem_cons.1 hc with rfl | hc
      · exact h1
      · exact chk_all h2 c hc
/-- What a valid edit is. -/
theorem edit_ok {e : EditV} (h : editCheck e = 0) : (1 ≤ e.op ∧ e.op ≤ 12) ∧ ∀ c ∈ edOrder, stE e c = 0 := by
  unfold editCheck at h
  split at h
  · omega
  · exact ⟨by omega, chk_all h⟩
theorem st_used {e : EditV} {c : UInt8} (h : stE e c = 0) (hu : (formF e.op).contains c = true) : checkF e c = 0 := by
  unfold stE at h; rw [if_pos hu] at h; exact h
theorem st_zero {e : EditV} {c : UInt8} (h : stE e c = 0) (hu : (formF e.op).contains c = false) : zeroF e c = true := by
  unfold stE at h
  rw [if_neg (by rw [hu]; decide)] at h
  cases hz : zeroF e c
  · rw [hz] at h; exact absurd h (by decide)
  · rfl
theorem name_no {l : List UInt8} {m : Int} (h : nameB l m = true) {c : UInt8} (hc : alnum c = false) : c ∉ l := alnum_not (nameB_all h) hc
theorem opt_no {l : List UInt8} {m : Int} (h : (l.isEmpty || nameB l m) = true) {c : UInt8} (hc : alnum c = false) : c ∉ l := by
  rcases Bool.or_eq_true_iff.1 h with h | h
  · have : l = [] := by simpa using h
    rw [this]; simp
  · exact name_no h hc
theorem pair_no {l : List UInt8} {d : UInt8} {m : Int} (h : pairB l d m = true) {c : UInt8} (hc : alnum c = false) (hd : c ≠ d) : c ∉ l := fun hm => by
  rcases pairB_parts h c hm with h2 | h2
  · rw [hc] at h2; cases h2
  · exact hd h2
theorem digits_no {l : List UInt8} (h : l.all isD = true) {c : UInt8} (hc : isD c = false) : c ∉ l := fun hm => by
  have := (List.all_eq_true.1 h) c hm
  rw [hc] at this; cases this
theorem winS_no (lo hi : Int) : (32 : UInt8) ∉ winS lo hi := by
  have a := altS_not (c := 32) (by decide) lo
  have b := altS_not (c := 32) (by decide) hi
  unfold winS
  repeat' split
  all_goals simp [a, b]
theorem distS_no (d : Nat) : (32 : UInt8) ∉ distS d := by
  have a := digits_no (dec_all (d / 6000)) (c := 32) (by decide)
  have b := digits_no (dec_all (d % 6000)) (c := 32) (by decide)
  unfold distS
  split <;> simp [a, b]
/-- No word of a valid edit holds a blank. -/
theorem write_no {e : EditV} {c : UInt8} (hc : c ∈ edOrder) (h : checkF e c = 0) : (32 : UInt8) ∉ writeF e c := by
  simp only [edOrder, List.mem_cons, List.not_mem_nil, or_false] at hc
  rcases hc with rfl | rfl | rfl | rfl | rfl | rfl | rfl | rfl | rfl | rfl
  · exact itoa_not (by decide) (by decide) _
  · exact ref_no (numE0 h)
  · have h : (if e.op = 12 then namedS (pairB e.name 47 6) else namedS (nameB e.name 8)) = 0 := h
    split at h
    · exact pair_no (numE0 h) (by decide) (by decide)
    · exact name_no (numE0 h) (by decide)
  · exact dash_not (opt_no (numE0 h) (by decide)) (by decide)
  · exact dash_not (opt_no (numE0 h) (by decide)) (by decide)
  · show (32 : UInt8) ∉ (winT e.lo e.hi).1
    unfold winT
    split
    · exact winS_no _ _
    · simp
  · exact itoa_not (by decide) (by decide) _
  · exact digits_no (exactS_all _) (by decide)
  · show (32 : UInt8) ∉ (distT e.dist).1
    unfold distT
    split
    · exact distS_no _
    · simp
  · show (32 : UInt8) ∉ (if e.turn = 1 then [76] else [82])
    split <;> decide
/-- The words of a text. -/
theorem split_tail {e : EditV} : ∀ (fs : List UInt8) (w : List UInt8), (32 : UInt8) ∉ w → (∀ c ∈ fs, (32 : UInt8) ∉ writeF e c) → splitC 32 (w ++ tailT e fs) = w :: fs.map (writeF e)
  | [], w, hw, _ => by simpa [tailT] using splitC_one 32 w hw
  | c :: r, w, hw, h => by
      show splitC 32 (w ++ 32 :: (writeF e c ++ tailT e r)) = _
      rw [splitC_append 32 w _ hw, split_tail r (writeF e c) (h c (by simp)) fun d hd => h d (by simp [hd])]
      rfl
theorem formW_no {op : Int} (h : 1 ≤ op ∧ op ≤ 12) : (32 : UInt8) ∉ formW op ∧ formW op ≠ [] := by
  obtain ⟨k, rfl⟩ : ∃ k : Nat, op = k := ⟨op.toNat, by omega⟩
  have : k = 1 ∨ k = 2 ∨ k = 3 ∨ k = 4 ∨ k = 5 ∨ k = 6 ∨ k = 7 ∨ k = 8 ∨ k = 9 ∨ k = 10 ∨ k = 11 ∨ k = 12 := by omega
  rcases this with rfl | rfl | rfl | rfl | rfl | rfl | rfl | rfl | rfl | rfl | rfl | rfl <;> decide
theorem formF_in {op : Int} (h : 1 ≤ op ∧ op ≤ 12) : (∀ c ∈ formF op, c ∈ edOrder) ∧ formF op ≠ [] := by
  obtain ⟨k, rfl⟩ : ∃ k : Nat, op = k := ⟨op.toNat, by omega⟩
  have : k = 1 ∨ k = 2 ∨ k = 3 ∨ k = 4 ∨ k = 5 ∨ k = 6 ∨ k = 7 ∨ k = 8 ∨ k = 9 ∨ k = 10 ∨ k = 11 ∨ k = 12 := by omega
  rcases this with rfl | rfl | rfl | rfl | rfl | rfl | rfl | rfl | rfl | rfl | rfl | rfl <;> decide
theorem used_check {e : EditV} (h : editCheck e = 0) : ∀ c ∈ formF e.op, checkF e c = 0 := fun c hc => by
  obtain ⟨ho, hs⟩ := edit_ok h
  exact st_used (hs c ((formF_in ho).1 c hc)) (List.contains_iff_mem.2 hc)
theorem text_of {e : EditV} (h : editCheck e = 0) : editText e = formW e.op ++ tailT e (formF e.op) := by
  unfold editText; rw [h]; rfl
/-- The words of a valid edit's text. -/
theorem text_words {e : EditV} (h : editCheck e = 0) : splitC 32 (editText e) = formW e.op :: (formF e.op).map (writeF e) := by
  obtain ⟨ho, hs⟩ := edit_ok h
  rw [text_of h]
  exact split_tail _ _ (formW_no ho).1 fun c hc => write_no ((formF_in ho).1 c hc) (used_check h c hc)
theorem text_ne {e : EditV} (h : editCheck e = 0) : editText e ≠ [] := by
  obtain ⟨ho, hs⟩ := edit_ok h
  rw [text_of h]
  have := (formW_no ho).2
  simp [this]
theorem text_valid {e : EditV} (h : editText e ≠ []) : editCheck e = 0 := by
  unfold editText at h
  split at h
  · exact absurd rfl h
  · rename_i h1; simpa using h1
theorem parseEx_back {a : Int} (h0 : 0 ≤ a) (h : a ≤ 129599999) : parseExS (exactS a.toNat) = (a, 0) := by
  have := angP_exactS a.toNat (by omega)
  unfold parseExS
  rw [this]
  simp only [if_true]
  rw [if_pos (by omega), show ((a.toNat : Nat) : Int) = a by omega]
/-! Each word is read back. -/
theorem rb97 {e : EditV} (x : EditV) (h : checkF e 97 = 0) : readF x 97 (writeF e 97) = { x with at_ := e.at_ } := by
  have := betE (show betweenS e.at_ 0 60 = 0 from h)
  show { x with at_ := atoiP (Lib.itoa e.at_) } = _
  rw [atoiP_itoa (by omega) (by omega)]
theorem rb114 {e : EditV} (x : EditV) (h : checkF e 114 = 0) : readF x 114 (writeF e 114) = { x with ref := e.ref } := rfl
theorem rb110 {e : EditV} (x : EditV) (h : checkF e 110 = 0) : readF x 110 (writeF e 110) = { x with name := e.name } := rfl
theorem dash_45 {s : List UInt8} (h : (45 : UInt8) ∉ s) : (dashB s = [45] ↔ s = []) := by
  unfold dashB
  cases s with
  | nil => simp
  | cons c r =>
    have : c :: r ≠ [45] := by intro e; rw [e] at h; simp at h
    simp [this]
theorem rb119 {e : EditV} (x : EditV) (hx : x.rway = []) (h : checkF e 119 = 0) : readF x 119 (writeF e 119) = { x with rway := e.rway } := by
  have hn := opt_no (c := 45) (numE0 (show namedS (e.rway.isEmpty || nameB e.rway 6) = 0 from h)) (by decide)
  show (if dashB e.rway = [45] then x else { x with rway := dashB e.rway }) = _
  by_cases he : e.rway = []
  · rw [if_pos ((dash_45 hn).2 he), he, ← hx]
  · rw [if_neg (fun h => he ((dash_45 hn).1 h))]
    have : dashB e.rway = e.rway := by unfold dashB; cases hq : e.rway with | nil => exact absurd hq he | cons c r => rfl
    rw [this]
theorem rb116 {e : EditV} (x : EditV) (hx : x.trans = []) (h : checkF e 116 = 0) : readF x 116 (writeF e 116) = { x with trans := e.trans } := by
  have hn := opt_no (c := 45) (numE0 (show namedS (e.trans.isEmpty || nameB e.trans 8) = 0 from h)) (by decide)
  show (if dashB e.trans = [45] then x else { x with trans := dashB e.trans }) = _
  by_cases he : e.trans = []
  · rw [if_pos ((dash_45 hn).2 he), he, ← hx]
  · rw [if_neg (fun h => he ((dash_45 hn).1 h))]
    have : dashB e.trans = e.trans := by unfold dashB; cases hq : e.trans with | nil => exact absurd hq he | cons c r => rfl
    rw [this]
theorem win_okE {e : EditV} (h : checkF e 104 = 0) : winOk e.lo e.hi := by
  have h : (if e.lo < -200000 ∨ e.hi < e.lo ∨ 6000000 < e.hi then (2 : Int) else 0) = 0 := h
  split at h
  · omega
  · unfold winOk; omega
theorem rb104 {e : EditV} (x : EditV) (h : checkF e 104 = 0) : readF x 104 (writeF e 104) = { x with lo := e.lo, hi := e.hi } := by
  show { x with lo := (parseWinS (winT e.lo e.hi).1).1.1, hi := (parseWinS (winT e.lo e.hi).1).1.2 } = _
  rw [winT_in (win_okE h), parseWin_winS (win_okE h)]
theorem rb115 {e : EditV} (x : EditV) (h : checkF e 115 = 0) : readF x 115 (writeF e 115) = { x with speed := e.speed } := by
  have := betE (show betweenS e.speed 0 1000 = 0 from h)
  show { x with speed := numP (Lib.itoa e.speed) } = _
  rw [numP_itoa (by omega) (by omega)]
theorem rb99 {e : EditV} (x : EditV) (h : checkF e 99 = 0) : readF x 99 (writeF e 99) = { x with course := e.course } := by
  have := betE (show betweenS e.course 0 129599999 = 0 from h)
  show { x with course := (parseExS (exactS e.course.toNat)).1 } = _
  rw [parseEx_back this.1 this.2]
theorem dist_okE {e : EditV} (h : checkF e 100 = 0) : 0 ≤ e.dist ∧ e.dist ≤ 8000000 := by
  have h : (if e.op = 6 then betweenS e.dist 0 120000 else betweenS e.dist 1 2000000) = 0 := h
  split at h
  · have := betE h; omega
  · have := betE h; omega
theorem rb100 {e : EditV} (x : EditV) (h : checkF e 100 = 0) : readF x 100 (writeF e 100) = { x with dist := e.dist } := by
  have hd := dist_okE h
  show { x with dist := (distP (distT e.dist).1).1 } = _
  rw [distT_in hd, distP_distS (by omega)]
  simp only
  rw [show ((e.dist.toNat : Nat) : Int) = e.dist by omega]
theorem turn_okE {e : EditV} (h : checkF e 117 = 0) : e.turn = 1 ∨ e.turn = 2 := by
  have h : (if e.turn = 1 ∨ e.turn = 2 then (0 : Int) else 1) = 0 := h
  split at h
  · assumption
  · exact absurd h (by decide)
theorem rb117 {e : EditV} (x : EditV) (h : checkF e 117 = 0) : readF x 117 (writeF e 117) = { x with turn := e.turn } := by
  show { x with turn := if (if e.turn = 1 then [76] else [82] : List UInt8) = [76] then 1 else 2 } = _
  rcases turn_okE h with h1 | h1 <;> rw [h1] <;> rfl
/-! What is not used is zero. -/
theorem z97 {e : EditV} (h : zeroF e 97 = true) : e.at_ = 0 := by simpa using (show (e.at_ == 0) = true from h)
theorem z114 {e : EditV} (h : zeroF e 114 = true) : e.ref = [] := by simpa using (show e.ref.isEmpty = true from h)
theorem z110 {e : EditV} (h : zeroF e 110 = true) : e.name = [] := by simpa using (show e.name.isEmpty = true from h)
theorem z119 {e : EditV} (h : zeroF e 119 = true) : e.rway = [] := by simpa using (show e.rway.isEmpty = true from h)
theorem z116 {e : EditV} (h : zeroF e 116 = true) : e.trans = [] := by simpa using (show e.trans.isEmpty = true from h)
theorem z115 {e : EditV} (h : zeroF e 115 = true) : e.speed = 0 := by simpa using (show (e.speed == 0) = true from h)
theorem z99 {e : EditV} (h : zeroF e 99 = true) : e.course = 0 := by simpa using (show (e.course == 0) = true from h)
theorem z100 {e : EditV} (h : zeroF e 100 = true) : e.dist = 0 := by simpa using (show (e.dist == 0) = true from h)
theorem z117 {e : EditV} (h : zeroF e 117 = true) : e.turn = 0 := by simpa using (show (e.turn == 0) = true from h)
theorem z104 {e : EditV} (h : zeroF e 104 = true) : e.lo = 0 ∧ e.hi = 0 := by simpa using (show (e.lo == 0 && e.hi == 0) = true from h)
theorem EditV.ext {a b : EditV} (h1 : a.op = b.op) (h2 : a.at_ = b.at_) (h3 : a.ref = b.ref) (h4 : a.name = b.name) (h5 : a.rway = b.rway) (h6 : a.trans = b.trans) (h7 : a.lo = b.lo) (h8 : a.hi = b.hi) (h9 : a.speed = b.speed) (h10 : a.course = b.course) (h11 : a.dist = b.dist) (h12 : a.turn = b.turn) : a = b := by
  cases a; cases b; simp_all
/-- The loose reading of a valid edit's words is the edit. -/
theorem edit_back {e : EditV} (h : editCheck e = 0) : readGo { edit0 with op := e.op } (formF e.op) ((formF e.op).map (writeF e)) = e := by
  obtain ⟨ho, hs⟩ := edit_ok h
  obtain ⟨k, hk⟩ : ∃ k : Nat, e.op = k := ⟨e.op.toNat, by omega⟩
  have hk12 : k = 1 ∨ k = 2 ∨ k = 3 ∨ k = 4 ∨ k = 5 ∨ k = 6 ∨ k = 7 ∨ k = 8 ∨ k = 9 ∨ k = 10 ∨ k = 11 ∨ k = 12 := by omega
  clear ho
  have s97 := hs 97 (by decide)
  have s114 := hs 114 (by decide)
  have s110 := hs 110 (by decide)
  have s119 := hs 119 (by decide)
  have s116 := hs 116 (by decide)
  have s104 := hs 104 (by decide)
  have s115 := hs 115 (by decide)
  have s99 := hs 99 (by decide)
  have s100 := hs 100 (by decide)
  have s117 := hs 117 (by decide)
  clear hs h
  rcases hk12 with rfl | rfl | rfl | rfl | rfl | rfl | rfl | rfl | rfl | rfl | rfl | rfl
  · rw [hk]
    have hf : ∀ c, (formF e.op).contains c = (formF 1).contains c := fun c => by rw [hk]; rfl
    have t97 := st_used s97 (by rw [hf]; decide)
    have t114 := st_used s114 (by rw [hf]; decide)
    have t110 := z110 (st_zero s110 (by rw [hf]; decide))
    have t119 := z119 (st_zero s119 (by rw [hf]; decide))
    have t116 := z116 (st_zero s116 (by rw [hf]; decide))
    have t104 := z104 (st_zero s104 (by rw [hf]; decide))
    have t115 := z115 (st_zero s115 (by rw [hf]; decide))
    have t99 := z99 (st_zero s99 (by rw [hf]; decide))
    have t100 := z100 (st_zero s100 (by rw [hf]; decide))
    have t117 := z117 (st_zero s117 (by rw [hf]; decide))
    show (readF (readF { edit0 with op := ((1 : Nat) : Int) } 97 (writeF e 97)) 114 (writeF e 114)) = e
    rw [rb97 _ t97, rb114 _ t114]
    exact EditV.ext hk.symm rfl rfl t110.symm t119.symm t116.symm t104.1.symm t104.2.symm t115.symm t99.symm t100.symm t117.symm
  · rw [hk]
    have hf : ∀ c, (formF e.op).contains c = (formF 2).contains c := fun c => by rw [hk]; rfl
    have t97 := st_used s97 (by rw [hf]; decide)
    have t114 := z114 (st_zero s114 (by rw [hf]; decide))
    have t110 := z110 (st_zero s110 (by rw [hf]; decide))
    have t119 := z119 (st_zero s119 (by rw [hf]; decide))
    have t116 := z116 (st_zero s116 (by rw [hf]; decide))
    have t104 := z104 (st_zero s104 (by rw [hf]; decide))
    have t115 := z115 (st_zero s115 (by rw [hf]; decide))
    have t99 := z99 (st_zero s99 (by rw [hf]; decide))
    have t100 := z100 (st_zero s100 (by rw [hf]; decide))
    have t117 := z117 (st_zero s117 (by rw [hf]; decide))
    show (readF { edit0 with op := ((2 : Nat) : Int) } 97 (writeF e 97)) = e
    rw [rb97 _ t97]
    exact EditV.ext hk.symm rfl t114.symm t110.symm t119.symm t116.symm t104.1.symm t104.2.symm t115.symm t99.symm t100.symm t117.symm
  · rw [hk]
    have hf : ∀ c, (formF e.op).contains c = (formF 3).contains c := fun c => by rw [hk]; rfl
    have t97 := st_used s97 (by rw [hf]; decide)
    have t114 := z114 (st_zero s114 (by rw [hf]; decide))
    have t110 := z110 (st_zero s110 (by rw [hf]; decide))
    have t119 := z119 (st_zero s119 (by rw [hf]; decide))
    have t116 := z116 (st_zero s116 (by rw [hf]; decide))
    have t104 := z104 (st_zero s104 (by rw [hf]; decide))
    have t115 := z115 (st_zero s115 (by rw [hf]; decide))
    have t99 := z99 (st_zero s99 (by rw [hf]; decide))
    have t100 := z100 (st_zero s100 (by rw [hf]; decide))
    have t117 := z117 (st_zero s117 (by rw [hf]; decide))
    show (readF { edit0 with op := ((3 : Nat) : Int) } 97 (writeF e 97)) = e
    rw [rb97 _ t97]
    exact EditV.ext hk.symm rfl t114.symm t110.symm t119.symm t116.symm t104.1.symm t104.2.symm t115.symm t99.symm t100.symm t117.symm
  · rw [hk]
    have hf : ∀ c, (formF e.op).contains c = (formF 4).contains c := fun c => by rw [hk]; rfl
    have t97 := st_used s97 (by rw [hf]; decide)
    have t114 := z114 (st_zero s114 (by rw [hf]; decide))
    have t110 := z110 (st_zero s110 (by rw [hf]; decide))
    have t119 := z119 (st_zero s119 (by rw [hf]; decide))
    have t116 := z116 (st_zero s116 (by rw [hf]; decide))
    have t104 := st_used s104 (by rw [hf]; decide)
    have t115 := z115 (st_zero s115 (by rw [hf]; decide))
    have t99 := z99 (st_zero s99 (by rw [hf]; decide))
    have t100 := z100 (st_zero s100 (by rw [hf]; decide))
    have t117 := z117 (st_zero s117 (by rw [hf]; decide))
    show (readF (readF { edit0 with op := ((4 : Nat) : Int) } 97 (writeF e 97)) 104 (writeF e 104)) = e
    rw [rb97 _ t97, rb104 _ t104]
    exact EditV.ext hk.symm rfl t114.symm t110.symm t119.symm t116.symm rfl rfl t115.symm t99.symm t100.symm t117.symm
  · rw [hk]
    have hf : ∀ c, (formF e.op).contains c = (formF 5).contains c := fun c => by rw [hk]; rfl
    have t97 := st_used s97 (by rw [hf]; decide)
    have t114 := z114 (st_zero s114 (by rw [hf]; decide))
    have t110 := z110 (st_zero s110 (by rw [hf]; decide))
    have t119 := z119 (st_zero s119 (by rw [hf]; decide))
    have t116 := z116 (st_zero s116 (by rw [hf]; decide))
    have t104 := z104 (st_zero s104 (by rw [hf]; decide))
    have t115 := st_used s115 (by rw [hf]; decide)
    have t99 := z99 (st_zero s99 (by rw [hf]; decide))
    have t100 := z100 (st_zero s100 (by rw [hf]; decide))
    have t117 := z117 (st_zero s117 (by rw [hf]; decide))
    show (readF (readF { edit0 with op := ((5 : Nat) : Int) } 97 (writeF e 97)) 115 (writeF e 115)) = e
    rw [rb97 _ t97, rb115 _ t115]
    exact EditV.ext hk.symm rfl t114.symm t110.symm t119.symm t116.symm t104.1.symm t104.2.symm rfl t99.symm t100.symm t117.symm
  · rw [hk]
    have hf : ∀ c, (formF e.op).contains c = (formF 6).contains c := fun c => by rw [hk]; rfl
    have t97 := st_used s97 (by rw [hf]; decide)
    have t114 := z114 (st_zero s114 (by rw [hf]; decide))
    have t110 := z110 (st_zero s110 (by rw [hf]; decide))
    have t119 := z119 (st_zero s119 (by rw [hf]; decide))
    have t116 := z116 (st_zero s116 (by rw [hf]; decide))
    have t104 := z104 (st_zero s104 (by rw [hf]; decide))
    have t115 := z115 (st_zero s115 (by rw [hf]; decide))
    have t99 := z99 (st_zero s99 (by rw [hf]; decide))
    have t100 := st_used s100 (by rw [hf]; decide)
    have t117 := z117 (st_zero s117 (by rw [hf]; decide))
    show (readF (readF { edit0 with op := ((6 : Nat) : Int) } 97 (writeF e 97)) 100 (writeF e 100)) = e
    rw [rb97 _ t97, rb100 _ t100]
    exact EditV.ext hk.symm rfl t114.symm t110.symm t119.symm t116.symm t104.1.symm t104.2.symm t115.symm t99.symm rfl t117.symm
  · rw [hk]
    have hf : ∀ c, (formF e.op).contains c = (formF 7).contains c := fun c => by rw [hk]; rfl
    have t97 := st_used s97 (by rw [hf]; decide)
    have t114 := z114 (st_zero s114 (by rw [hf]; decide))
    have t110 := z110 (st_zero s110 (by rw [hf]; decide))
    have t119 := z119 (st_zero s119 (by rw [hf]; decide))
    have t116 := z116 (st_zero s116 (by rw [hf]; decide))
    have t104 := z104 (st_zero s104 (by rw [hf]; decide))
    have t115 := z115 (st_zero s115 (by rw [hf]; decide))
    have t99 := st_used s99 (by rw [hf]; decide)
    have t100 := st_used s100 (by rw [hf]; decide)
    have t117 := st_used s117 (by rw [hf]; decide)
    show (readF (readF (readF (readF { edit0 with op := ((7 : Nat) : Int) } 97 (writeF e 97)) 99 (writeF e 99)) 100 (writeF e 100)) 117 (writeF e 117)) = e
    rw [rb97 _ t97, rb99 _ t99, rb100 _ t100, rb117 _ t117]
    exact EditV.ext hk.symm rfl t114.symm t110.symm t119.symm t116.symm t104.1.symm t104.2.symm t115.symm rfl rfl rfl
  · rw [hk]
    have hf : ∀ c, (formF e.op).contains c = (formF 8).contains c := fun c => by rw [hk]; rfl
    have t97 := st_used s97 (by rw [hf]; decide)
    have t114 := st_used s114 (by rw [hf]; decide)
    have t110 := st_used s110 (by rw [hf]; decide)
    have t119 := z119 (st_zero s119 (by rw [hf]; decide))
    have t116 := z116 (st_zero s116 (by rw [hf]; decide))
    have t104 := z104 (st_zero s104 (by rw [hf]; decide))
    have t115 := z115 (st_zero s115 (by rw [hf]; decide))
    have t99 := z99 (st_zero s99 (by rw [hf]; decide))
    have t100 := z100 (st_zero s100 (by rw [hf]; decide))
    have t117 := z117 (st_zero s117 (by rw [hf]; decide))
    show (readF (readF (readF { edit0 with op := ((8 : Nat) : Int) } 97 (writeF e 97)) 114 (writeF e 114)) 110 (writeF e 110)) = e
    rw [rb97 _ t97, rb114 _ t114, rb110 _ t110]
    exact EditV.ext hk.symm rfl rfl rfl t119.symm t116.symm t104.1.symm t104.2.symm t115.symm t99.symm t100.symm t117.symm
  · rw [hk]
    have hf : ∀ c, (formF e.op).contains c = (formF 9).contains c := fun c => by rw [hk]; rfl
    have t97 := z97 (st_zero s97 (by rw [hf]; decide))
    have t114 := z114 (st_zero s114 (by rw [hf]; decide))
    have t110 := st_used s110 (by rw [hf]; decide)
    have t119 := st_used s119 (by rw [hf]; decide)
    have t116 := st_used s116 (by rw [hf]; decide)
    have t104 := z104 (st_zero s104 (by rw [hf]; decide))
    have t115 := z115 (st_zero s115 (by rw [hf]; decide))
    have t99 := z99 (st_zero s99 (by rw [hf]; decide))
    have t100 := z100 (st_zero s100 (by rw [hf]; decide))
    have t117 := z117 (st_zero s117 (by rw [hf]; decide))
    show (readF (readF (readF { edit0 with op := ((9 : Nat) : Int) } 110 (writeF e 110)) 119 (writeF e 119)) 116 (writeF e 116)) = e
    rw [rb110 _ t110, rb119 _ rfl t119, rb116 _ rfl t116]
    exact EditV.ext hk.symm t97.symm t114.symm rfl rfl rfl t104.1.symm t104.2.symm t115.symm t99.symm t100.symm t117.symm
  · rw [hk]
    have hf : ∀ c, (formF e.op).contains c = (formF 10).contains c := fun c => by rw [hk]; rfl
    have t97 := z97 (st_zero s97 (by rw [hf]; decide))
    have t114 := z114 (st_zero s114 (by rw [hf]; decide))
    have t110 := st_used s110 (by rw [hf]; decide)
    have t119 := st_used s119 (by rw [hf]; decide)
    have t116 := st_used s116 (by rw [hf]; decide)
    have t104 := z104 (st_zero s104 (by rw [hf]; decide))
    have t115 := z115 (st_zero s115 (by rw [hf]; decide))
    have t99 := z99 (st_zero s99 (by rw [hf]; decide))
    have t100 := z100 (st_zero s100 (by rw [hf]; decide))
    have t117 := z117 (st_zero s117 (by rw [hf]; decide))
    show (readF (readF (readF { edit0 with op := ((10 : Nat) : Int) } 110 (writeF e 110)) 119 (writeF e 119)) 116 (writeF e 116)) = e
    rw [rb110 _ t110, rb119 _ rfl t119, rb116 _ rfl t116]
    exact EditV.ext hk.symm t97.symm t114.symm rfl rfl rfl t104.1.symm t104.2.symm t115.symm t99.symm t100.symm t117.symm
  · rw [hk]
    have hf : ∀ c, (formF e.op).contains c = (formF 11).contains c := fun c => by rw [hk]; rfl
    have t97 := z97 (st_zero s97 (by rw [hf]; decide))
    have t114 := z114 (st_zero s114 (by rw [hf]; decide))
    have t110 := st_used s110 (by rw [hf]; decide)
    have t119 := z119 (st_zero s119 (by rw [hf]; decide))
    have t116 := st_used s116 (by rw [hf]; decide)
    have t104 := z104 (st_zero s104 (by rw [hf]; decide))
    have t115 := z115 (st_zero s115 (by rw [hf]; decide))
    have t99 := z99 (st_zero s99 (by rw [hf]; decide))
    have t100 := z100 (st_zero s100 (by rw [hf]; decide))
    have t117 := z117 (st_zero s117 (by rw [hf]; decide))
    show (readF (readF { edit0 with op := ((11 : Nat) : Int) } 110 (writeF e 110)) 116 (writeF e 116)) = e
    rw [rb110 _ t110, rb116 _ rfl t116]
    exact EditV.ext hk.symm t97.symm t114.symm rfl t119.symm rfl t104.1.symm t104.2.symm t115.symm t99.symm t100.symm t117.symm
  · rw [hk]
    have hf : ∀ c, (formF e.op).contains c = (formF 12).contains c := fun c => by rw [hk]; rfl
    have t97 := st_used s97 (by rw [hf]; decide)
    have t114 := z114 (st_zero s114 (by rw [hf]; decide))
    have t110 := st_used s110 (by rw [hf]; decide)
    have t119 := z119 (st_zero s119 (by rw [hf]; decide))
    have t116 := z116 (st_zero s116 (by rw [hf]; decide))
    have t104 := z104 (st_zero s104 (by rw [hf]; decide))
    have t115 := z115 (st_zero s115 (by rw [hf]; decide))
    have t99 := z99 (st_zero s99 (by rw [hf]; decide))
    have t100 := z100 (st_zero s100 (by rw [hf]; decide))
    have t117 := z117 (st_zero s117 (by rw [hf]; decide))
    show (readF (readF { edit0 with op := ((12 : Nat) : Int) } 97 (writeF e 97)) 110 (writeF e 110)) = e
    rw [rb97 _ t97, rb110 _ t110]
    exact EditV.ext hk.symm rfl t114.symm rfl t119.symm t116.symm t104.1.symm t104.2.symm t115.symm t99.symm t100.symm t117.symm
end Go.Proofs.YtlleijickhifmaaGreatDoor
namespace Go.Proofs.YtlleijickhifmaaGreatDoor
open Go.RowKit
set_option linter.unusedVariables false
set_option linter.unusedSimpArgs false
theorem formW_inj : ∀ i j : Fin 13, formW (i.val : Int) = formW (j.val : Int) → i = j := by decide
theorem formW_eq {a b : Nat} (ha : a ≤ 12) (hb : b ≤ 12) (h : formW (a : Int) = formW (b : Int)) : a = b := by
  have := formW_inj ⟨a, by omega⟩ ⟨b, by omega⟩ h
  exact congrArg Fin.val this
theorem formF_len {e : EditV} (h : editCheck e = 0) : (formF e.op).length = (splitC 32 (editText e)).length - 1 := by
  rw [text_words h]; simp
theorem try_own {e : EditV} (h : editCheck e = 0) : tryOp (editText e) (splitC 32 (editText e)) e.op = some e := by
  obtain ⟨ho, hs⟩ := edit_ok h
  have hw := text_words h
  unfold tryOp
  rw [hw]
  simp only [List.headD_cons, List.length_cons, List.length_map, List.tail_cons]
  rw [if_neg (by simp; omega), edit_back h]
  exact if_pos rfl
theorem try_other {s : List UInt8} {ws : List (List UInt8)} {k : Int} (h : formW k ≠ ws.headD []) : tryOp s ws k = none := by
  unfold tryOp; rw [if_pos (.inr (.inl h))]
theorem parse_from {e : EditV} (h : editCheck e = 0) : ∀ (n k : Nat), (k : Int) ≤ e.op → e.op < k + n → parseFrom (editText e) (splitC 32 (editText e)) k n = (e, 0)
  | 0, k, h1, h2 => by omega
  | n + 1, k, h1, h2 => by
      obtain ⟨ho, hs⟩ := edit_ok h
      unfold parseFrom
      by_cases hk : (k : Int) = e.op
      · rw [hk, try_own h]
      · have hne : formW (k : Int) ≠ (splitC 32 (editText e)).headD [] := by
          rw [text_words h, List.headD_cons]
          intro hq
          have e1 : e.op = (e.op.toNat : Int) := by omega
          rw [e1] at hq
          have := formW_eq (by omega) (by omega) hq
          omega
        rw [try_other hne]
        exact parse_from h n (k + 1) (by omega) (by omega)
/-- Parse gives a valid edit back. -/
theorem editParse_ok {e : EditV} (h : editCheck e = 0) : editParse (editText e) = (e, 0) := by
  obtain ⟨ho, hs⟩ := edit_ok h
  exact parse_from h 13 0 (by omega) (by omega)
theorem try_some {s : List UInt8} {k : Nat} {e : EditV} (hk : k ≤ 12) (h : tryOp s (splitC 32 s) k = some e) : editCheck e = 0 ∧ editText e = s := by
  unfold tryOp at h
  split at h
  · cases h
  · rename_i h1
    simp only [not_or, Decidable.not_not] at h1
    obtain ⟨h0, hw, hl⟩ := h1
    unfold okP at h
    split at h
    · rename_i h2
      have h3 := Option.some.inj h
      rw [h3] at h2
      refine ⟨text_valid (fun hn => ?_), h2⟩
      rw [hn] at h2
      rw [← h2] at hw
      have := (formW_no (op := (k : Int)) (by omega)).2
      exact this hw
    · cases h
theorem parseFrom_cases (s : List UInt8) : ∀ (n k : Nat), k + n ≤ 13 → (parseFrom s (splitC 32 s) k n = (edit0, 4) ∨ ∃ e, editCheck e = 0 ∧ editText e = s ∧ parseFrom s (splitC 32 s) k n = (e, 0))
  | 0, k, h => .inl rfl
  | n + 1, k, h => by
      unfold parseFrom
      cases ht : tryOp s (splitC 32 s) k with
      | none => exact parseFrom_cases s n (k + 1) (by omega)
      | some e =>
        obtain ⟨h1, h2⟩ := try_some (by omega) ht
        exact .inr ⟨e, h1, h2, rfl⟩
theorem editParse_cases (s : List UInt8) : editParse s = (edit0, 4) ∨ ∃ e, editCheck e = 0 ∧ editText e = s ∧ editParse s = (e, 0) := parseFrom_cases s 13 0 (by omega)
/-! The reference's reading. -/
theorem small_itoa {n : Int} (h0 : 0 ≤ n) (h : n ≤ 1000) : smallS (Lib.itoa n) = n := by
  obtain ⟨u, rfl⟩ : ∃ u : Nat, n = u := ⟨n.toNat, by omega⟩
  rw [Lib.itoa_nonneg]
  have h1 : (Lib.decDigits u).length ≤ 4 := dec_len (by decide) (by omega)
  unfold smallS
  rw [if_pos ⟨h1, dec_all u⟩, val_dec]
theorem rb_win {e : EditV} (h : checkF e 104 = 0) : rparseWinS (winT e.lo e.hi).1 = ((e.lo, e.hi), 0) := by
  rw [winT_in (win_okE h)]
  have h1 := parseWin_winS (win_okE h)
  obtain ⟨a, b⟩ := rwin_same (winS e.lo e.hi)
  have h2 : (rparseWinS (winS e.lo e.hi)).2 = 0 := a.2 (by rw [h1])
  have h3 := b h2
  rw [h1] at h3
  exact Prod.ext h3 h2
theorem rrb {e : EditV} (x : EditV) {c : UInt8} (hc : c ∈ edOrder) (h : checkF e c = 0) (hr : c = 119 → x.rway = []) (ht : c = 116 → x.trans = []) : rreadF x c (writeF e c) = readF x c (writeF e c) := by
  simp only [edOrder, List.mem_cons, List.not_mem_nil, or_false] at hc
  rcases hc with rfl | rfl | rfl | rfl | rfl | rfl | rfl | rfl | rfl | rfl
  · rw [rb97 x h]
    have := betE (show betweenS e.at_ 0 60 = 0 from h)
    show { x with at_ := smallS (Lib.itoa e.at_) } = _
    rw [small_itoa (by omega) (by omega)]
  · rfl
  · rfl
  · rw [rb119 x (hr rfl) h]
    show { x with rway := undashB (dashB e.rway) } = _
    rw [undash_dash (opt_no (c := 45) (numE0 (show namedS (e.rway.isEmpty || nameB e.rway 6) = 0 from h)) (by decide))]
  · rw [rb116 x (ht rfl) h]
    show { x with trans := undashB (dashB e.trans) } = _
    rw [undash_dash (opt_no (c := 45) (numE0 (show namedS (e.trans.isEmpty || nameB e.trans 8) = 0 from h)) (by decide))]
  · rw [rb104 x h]
    show { x with lo := (rparseWinS (winT e.lo e.hi).1).1.1, hi := (rparseWinS (winT e.lo e.hi).1).1.2 } = _
    rw [rb_win h]
  · rw [rb115 x h]
    have := betE (show betweenS e.speed 0 1000 = 0 from h)
    show { x with speed := smallS (Lib.itoa e.speed) } = _
    rw [small_itoa (by omega) (by omega)]
  · rfl
  · rfl
  · rw [rb117 x h]
    show { x with turn := if (if e.turn = 1 then [76] else [82] : List UInt8) = [82] then 2 else 1 } = _
    rcases turn_okE h with h1 | h1 <;> rw [h1] <;> rfl
/-- The words behind a text's first one. -/
theorem cut_tail (e : EditV) (fs : List UInt8) (w : List UInt8) (hw : (32 : UInt8) ∉ w) : head32 (w ++ tailT e fs) = w ∧ tail32 (w ++ tailT e fs) = (tailT e fs).tail := by
  unfold head32 tail32
  cases fs with
  | nil => simp only [tailT, List.append_nil, cutAt_not hw, List.tail_nil, and_self]
  | cons c r =>
    show (cutAt 32 (w ++ 32 :: (writeF e c ++ tailT e r))).1 = w ∧ (cutAt 32 (w ++ 32 :: (writeF e c ++ tailT e r))).2.1 = (32 :: (writeF e c ++ tailT e r)).tail
    rw [cutAt_app 32 _ _ hw]
    exact ⟨rfl, rfl⟩
theorem rreadGo_cons {e : EditV} (x : EditV) (c : UInt8) (fs : List UInt8) (hc : c ∈ edOrder) (h : checkF e c = 0) : rreadGo x (c :: fs) (tailT e (c :: fs)).tail = rreadGo (rreadF x c (writeF e c)) fs (tailT e fs).tail := by
  obtain ⟨h1, h2⟩ := cut_tail e fs (writeF e c) (write_no hc h)
  show rreadGo (rreadF x c (head32 (writeF e c ++ tailT e fs))) fs (tail32 (writeF e c ++ tailT e fs)) = _
  rw [h1, h2]
/-- The reference's reading of a valid edit's words. -/
theorem redit_back {e : EditV} (h : editCheck e = 0) : rreadGo { edit0 with op := e.op } (formF e.op) (tailT e (formF e.op)).tail = e := by
  have hb := edit_back h
  obtain ⟨ho, hs⟩ := edit_ok h
  have hu := used_check h
  obtain ⟨k, hk⟩ : ∃ k : Nat, e.op = k := ⟨e.op.toNat, by omega⟩
  have hk12 : k = 1 ∨ k = 2 ∨ k = 3 ∨ k = 4 ∨ k = 5 ∨ k = 6 ∨ k = 7 ∨ k = 8 ∨ k = 9 ∨ k = 10 ∨ k = 11 ∨ k = 12 := by omega
  clear ho hs
  rcases hk12 with rfl | rfl | rfl | rfl | rfl | rfl | rfl | rfl | rfl | rfl | rfl | rfl
  · rw [hk] at hb hu ⊢
    have hf : formF ((1 : Nat) : Int) = [97, 114] := rfl
    rw [hf] at hb hu ⊢
    have t97 := hu 97 (by decide)
    have t114 := hu 114 (by decide)
    rw [rreadGo_cons _ 97 _ (by decide) t97, rreadGo_cons _ 114 _ (by decide) t114]
    have q0 := rrb (e := e) { edit0 with op := ((1 : Nat) : Int) } (c := 97) (by decide) t97 (fun h => absurd h (by decide)) (fun h => absurd h (by decide))
    have q1 := rrb (e := e) (readF { edit0 with op := ((1 : Nat) : Int) } 97 (writeF e 97)) (c := 114) (by decide) t114 (fun h => absurd h (by decide)) (fun h => absurd h (by decide))
    rw [q0, q1]
    exact hb
  · rw [hk] at hb hu ⊢
    have hf : formF ((2 : Nat) : Int) = [97] := rfl
    rw [hf] at hb hu ⊢
    have t97 := hu 97 (by decide)
    rw [rreadGo_cons _ 97 _ (by decide) t97]
    have q0 := rrb (e := e) { edit0 with op := ((2 : Nat) : Int) } (c := 97) (by decide) t97 (fun h => absurd h (by decide)) (fun h => absurd h (by decide))
    rw [q0]
    exact hb
  · rw [hk] at hb hu ⊢
    have hf : formF ((3 : Nat) : Int) = [97] := rfl
    rw [hf] at hb hu ⊢
    have t97 := hu 97 (by decide)
    rw [rreadGo_cons _ 97 _ (by decide) t97]
    have q0 := rrb (e := e) { edit0 with op := ((3 : Nat) : Int) } (c := 97) (by decide) t97 (fun h => absurd h (by decide)) (fun h => absurd h (by decide))
    rw [q0]
    exact hb
  · rw [hk] at hb hu ⊢
    have hf : formF ((4 : Nat) : Int) = [97, 104] := rfl
    rw [hf] at hb hu ⊢
    have t97 := hu 97 (by decide)
    have t104 := hu 104 (by decide)
    rw [rreadGo_cons _ 97 _ (by decide) t97, rreadGo_cons _ 104 _ (by decide) t104]
    have q0 := rrb (e := e) { edit0 with op := ((4 : Nat) : Int) } (c := 97) (by decide) t97 (fun h => absurd h (by decide)) (fun h => absurd h (by decide))
    have q1 := rrb (e := e) (readF { edit0 with op := ((4 : Nat) : Int) } 97 (writeF e 97)) (c := 104) (by decide) t104 (fun h => absurd h (by decide)) (fun h => absurd h (by decide))
    rw [q0, q1]
    exact hb
  · rw [hk] at hb hu ⊢
    have hf : formF ((5 : Nat) : Int) = [97, 115] := rfl
    rw [hf] at hb hu ⊢
    have t97 := hu 97 (by decide)
    have t115 := hu 115 (by decide)
    rw [rreadGo_cons _ 97 _ (by decide) t97, rreadGo_cons _ 115 _ (by decide) t115]
    have q0 := rrb (e := e) { edit0 with op := ((5 : Nat) : Int) } (c := 97) (by decide) t97 (fun h => absurd h (by decide)) (fun h => absurd h (by decide))
    have q1 := rrb (e := e) (readF { edit0 with op := ((5 : Nat) : Int) } 97 (writeF e 97)) (c := 115) (by decide) t115 (fun h => absurd h (by decide)) (fun h => absurd h (by decide))
    rw [q0, q1]
    exact hb
  · rw [hk] at hb hu ⊢
    have hf : formF ((6 : Nat) : Int) = [97, 100] := rfl
    rw [hf] at hb hu ⊢
    have t97 := hu 97 (by decide)
    have t100 := hu 100 (by decide)
    rw [rreadGo_cons _ 97 _ (by decide) t97, rreadGo_cons _ 100 _ (by decide) t100]
    have q0 := rrb (e := e) { edit0 with op := ((6 : Nat) : Int) } (c := 97) (by decide) t97 (fun h => absurd h (by decide)) (fun h => absurd h (by decide))
    have q1 := rrb (e := e) (readF { edit0 with op := ((6 : Nat) : Int) } 97 (writeF e 97)) (c := 100) (by decide) t100 (fun h => absurd h (by decide)) (fun h => absurd h (by decide))
    rw [q0, q1]
    exact hb
  · rw [hk] at hb hu ⊢
    have hf : formF ((7 : Nat) : Int) = [97, 99, 100, 117] := rfl
    rw [hf] at hb hu ⊢
    have t97 := hu 97 (by decide)
    have t99 := hu 99 (by decide)
    have t100 := hu 100 (by decide)
    have t117 := hu 117 (by decide)
    rw [rreadGo_cons _ 97 _ (by decide) t97, rreadGo_cons _ 99 _ (by decide) t99, rreadGo_cons _ 100 _ (by decide) t100, rreadGo_cons _ 117 _ (by decide) t117]
    have q0 := rrb (e := e) { edit0 with op := ((7 : Nat) : Int) } (c := 97) (by decide) t97 (fun h => absurd h (by decide)) (fun h => absurd h (by decide))
    have q1 := rrb (e := e) (readF { edit0 with op := ((7 : Nat) : Int) } 97 (writeF e 97)) (c := 99) (by decide) t99 (fun h => absurd h (by decide)) (fun h => absurd h (by decide))
    have q2 := rrb (e := e) (readF (readF { edit0 with op := ((7 : Nat) : Int) } 97 (writeF e 97)) 99 (writeF e 99)) (c := 100) (by decide) t100 (fun h => absurd h (by decide)) (fun h => absurd h (by decide))
    have q3 := rrb (e := e) (readF (readF (readF { edit0 with op := ((7 : Nat) : Int) } 97 (writeF e 97)) 99 (writeF e 99)) 100 (writeF e 100)) (c := 117) (by decide) t117 (fun h => absurd h (by decide)) (fun h => absurd h (by decide))
    rw [q0, q1, q2, q3]
    exact hb
  · rw [hk] at hb hu ⊢
    have hf : formF ((8 : Nat) : Int) = [97, 114, 110] := rfl
    rw [hf] at hb hu ⊢
    have t97 := hu 97 (by decide)
    have t114 := hu 114 (by decide)
    have t110 := hu 110 (by decide)
    rw [rreadGo_cons _ 97 _ (by decide) t97, rreadGo_cons _ 114 _ (by decide) t114, rreadGo_cons _ 110 _ (by decide) t110]
    have q0 := rrb (e := e) { edit0 with op := ((8 : Nat) : Int) } (c := 97) (by decide) t97 (fun h => absurd h (by decide)) (fun h => absurd h (by decide))
    have q1 := rrb (e := e) (readF { edit0 with op := ((8 : Nat) : Int) } 97 (writeF e 97)) (c := 114) (by decide) t114 (fun h => absurd h (by decide)) (fun h => absurd h (by decide))
    have q2 := rrb (e := e) (readF (readF { edit0 with op := ((8 : Nat) : Int) } 97 (writeF e 97)) 114 (writeF e 114)) (c := 110) (by decide) t110 (fun h => absurd h (by decide)) (fun h => absurd h (by decide))
    rw [q0, q1, q2]
    exact hb
  · rw [hk] at hb hu ⊢
    have hf : formF ((9 : Nat) : Int) = [110, 119, 116] := rfl
    rw [hf] at hb hu ⊢
    have t110 := hu 110 (by decide)
    have t119 := hu 119 (by decide)
    have t116 := hu 116 (by decide)
    rw [rreadGo_cons _ 110 _ (by decide) t110, rreadGo_cons _ 119 _ (by decide) t119, rreadGo_cons _ 116 _ (by decide) t116]
    have q0 := rrb (e := e) { edit0 with op := ((9 : Nat) : Int) } (c := 110) (by decide) t110 (fun h => absurd h (by decide)) (fun h => absurd h (by decide))
    have q1 := rrb (e := e) (readF { edit0 with op := ((9 : Nat) : Int) } 110 (writeF e 110)) (c := 119) (by decide) t119 (fun _ => rfl) (fun h => absurd h (by decide))
    have q2 := rrb (e := e) (readF (readF { edit0 with op := ((9 : Nat) : Int) } 110 (writeF e 110)) 119 (writeF e 119)) (c := 116) (by decide) t116 (fun h => absurd h (by decide)) (fun _ => by rw [rb119 _ rfl t119]; rfl)
    rw [q0, q1, q2]
    exact hb
  · rw [hk] at hb hu ⊢
    have hf : formF ((10 : Nat) : Int) = [110, 119, 116] := rfl
    rw [hf] at hb hu ⊢
    have t110 := hu 110 (by decide)
    have t119 := hu 119 (by decide)
    have t116 := hu 116 (by decide)
    rw [rreadGo_cons _ 110 _ (by decide) t110, rreadGo_cons _ 119 _ (by decide) t119, rreadGo_cons _ 116 _ (by decide) t116]
    have q0 := rrb (e := e) { edit0 with op := ((10 : Nat) : Int) } (c := 110) (by decide) t110 (fun h => absurd h (by decide)) (fun h => absurd h (by decide))
    have q1 := rrb (e := e) (readF { edit0 with op := ((10 : Nat) : Int) } 110 (writeF e 110)) (c := 119) (by decide) t119 (fun _ => rfl) (fun h => absurd h (by decide))
    have q2 := rrb (e := e) (readF (readF { edit0 with op := ((10 : Nat) : Int) } 110 (writeF e 110)) 119 (writeF e 119)) (c := 116) (by decide) t116 (fun h => absurd h (by decide)) (fun _ => by rw [rb119 _ rfl t119]; rfl)
    rw [q0, q1, q2]
    exact hb
  · rw [hk] at hb hu ⊢
    have hf : formF ((11 : Nat) : Int) = [110, 116] := rfl
    rw [hf] at hb hu ⊢
    have t110 := hu 110 (by decide)
    have t116 := hu 116 (by decide)
    rw [rreadGo_cons _ 110 _ (by decide) t110, rreadGo_cons _ 116 _ (by decide) t116]
    have q0 := rrb (e := e) { edit0 with op := ((11 : Nat) : Int) } (c := 110) (by decide) t110 (fun h => absurd h (by decide)) (fun h => absurd h (by decide))
    have q1 := rrb (e := e) (readF { edit0 with op := ((11 : Nat) : Int) } 110 (writeF e 110)) (c := 116) (by decide) t116 (fun h => absurd h (by decide)) (fun _ => rfl)
    rw [q0, q1]
    exact hb
  · rw [hk] at hb hu ⊢
    have hf : formF ((12 : Nat) : Int) = [97, 110] := rfl
    rw [hf] at hb hu ⊢
    have t97 := hu 97 (by decide)
    have t110 := hu 110 (by decide)
    rw [rreadGo_cons _ 97 _ (by decide) t97, rreadGo_cons _ 110 _ (by decide) t110]
    have q0 := rrb (e := e) { edit0 with op := ((12 : Nat) : Int) } (c := 97) (by decide) t97 (fun h => absurd h (by decide)) (fun h => absurd h (by decide))
    have q1 := rrb (e := e) (readF { edit0 with op := ((12 : Nat) : Int) } 97 (writeF e 97)) (c := 110) (by decide) t110 (fun h => absurd h (by decide)) (fun h => absurd h (by decide))
    rw [q0, q1]
    exact hb
theorem opOf_word {op : Int} (h : 1 ≤ op ∧ op ≤ 12) : opOf (formW op) = op := by
  obtain ⟨k, rfl⟩ : ∃ k : Nat, op = k := ⟨op.toNat, by omega⟩
  have : k = 1 ∨ k = 2 ∨ k = 3 ∨ k = 4 ∨ k = 5 ∨ k = 6 ∨ k = 7 ∨ k = 8 ∨ k = 9 ∨ k = 10 ∨ k = 11 ∨ k = 12 := by omega
  rcases this with rfl | rfl | rfl | rfl | rfl | rfl | rfl | rfl | rfl | rfl | rfl | rfl <;> decide
theorem reditParse_ok {e : EditV} (h : editCheck e = 0) : reditParse (editText e) = (e, 0) := by
  obtain ⟨ho, hs⟩ := edit_ok h
  have ht := text_of h
  obtain ⟨h1, h2⟩ := cut_tail e (formF e.op) (formW e.op) (formW_no ho).1
  have hne := text_ne h
  unfold reditParse
  rw [← ht] at h1 h2
  rw [h1, h2, opOf_word ho, redit_back h]
  unfold okR
  rw [if_neg (by simp [hne])]
/-- Both readings are one. -/
theorem edit_parse_same (s : List UInt8) : reditParse s = editParse s := by
  rcases editParse_cases s with h | ⟨e, h1, h2, h3⟩
  · rw [h]
    unfold reditParse okR
    split
    · rfl
    · rename_i hn
      simp only [not_or, ne_eq, Decidable.not_not] at hn
      have hv := text_valid hn.1
      have := editParse_ok hv
      rw [hn.2, h] at this
      have h4 : (4 : Int) = 0 := congrArg Prod.snd this
      exact absurd h4 (by decide)
  · rw [h3, ← h2]
    exact reditParse_ok h1
end Go.Proofs.YtlleijickhifmaaGreatDoor
