/- The reference's order of reading, in plain Lean: fields one by one, options word by word; it comes to what the program reads. The reference's Parse returns what the program's returns. -/
import Derived.Test.YtjgondadpjildaaGreatDoorPk32
import Derived.Test.YtjgondadpjildaaGreatDoorPk34
import Derived.Test.YtjgondadpjildaaGreatDoorPk38
import Derived.Lib.SlBytesConst
namespace Go.Proofs.YtjgondadpjildaaGreatDoor
open Go.RowKit Go.Sort
set_option linter.unusedVariables false
set_option linter.unusedSimpArgs false
set_option maxRecDepth 100000
def FLs : List (Int × Int × Acc) := [(70, 1, accFix), (67, 2, accCenter), (84, 4, accTurn), (75, 16, accCourse), (68, 32, accDist), (82, 64, accRadius), (72, 128, accTheta)]
def OLs : List (Int × Acc) := [(111, accOver), (65, accWin), (115, accSpeed), (110, accRnp)]
def runF (t : Int) (n : Nat) : List (Int × Int × Acc) → PS → PS
  | [], x => x
  | (_, m, f) :: q, x => runF t n q (x.needIf (uB t m) n f)
def runO : List (Int × Acc) → PS → PS
  | [], x => x
  | (_, f) :: q, x => runO q (x.may f)
theorem parse_runs (s : List UInt8) : parseS s = (runO OLs (runF (PS.begin s).l.ty s.length FLs (PS.begin s))).done := rfl
theorem needIf_badP {b : Bool} {n : Nat} {f : Acc} {x : PS} (h : x.bad ≠ 0) : x.needIf b n f = x := by
  unfold PS.needIf PS.need
  cases b
  · rfl
  · simp only [if_true]; rw [if_pos h]
theorem may_badP {f : Acc} {x : PS} (h : x.bad ≠ 0) : x.may f = x := by unfold PS.may; rw [if_pos h]
theorem runF_bad (t : Int) (n : Nat) : ∀ (q : List (Int × Int × Acc)) (x : PS), x.bad ≠ 0 → runF t n q x = x
  | [], _, _ => rfl
  | (_, m, f) :: q, x, h => by rw [runF, needIf_badP h]; exact runF_bad t n q x h
theorem runO_bad : ∀ (q : List (Int × Acc)) (x : PS), x.bad ≠ 0 → runO q x = x
  | [], _, _ => rfl
  | (_, f) :: q, x, h => by rw [runO, may_badP h]; exact runO_bad q x h
theorem runO_end : ∀ (q : List (Int × Acc)) (x : PS), x.ws = [] → runO q x = x
  | [], _, _ => rfl
  | (_, f) :: q, x, h => by
    have e : x.may f = x := by
      unfold PS.may
      split
      · rfl
      · rw [h]
    rw [runO, e]; exact runO_end q x h
theorem done_of_bad {x : PS} (h : x.bad ≠ 0) : x.done = (leg0, x.bad, 4) := by
  have e : x.badAt = x.bad := by unfold PS.badAt; rw [if_neg (fun hh => h hh.2)]
  unfold PS.done
  rw [e, if_pos h]
theorem done_left {x : PS} {w : List UInt8} {r : List (List UInt8)} (h : x.bad = 0) (hw : x.ws = w :: r) (hc : 1 ≤ x.col) : x.done = (leg0, x.col, 4) := by
  have e : x.badAt = x.col := by unfold PS.badAt; rw [if_pos ⟨by rw [hw]; simp, h⟩]
  unfold PS.done
  rw [e, if_pos (by omega)]
theorem done_none {x : PS} (h : x.bad = 0) (hw : x.ws = []) : x.done = if legCheck x.l ≠ 0 then (leg0, 0, legCheck x.l) else (x.l, 0, 0) := by
  have e : x.badAt = 0 := by rw [badAt_nil hw, h]
  unfold PS.done
  rw [e, if_neg (by simp)]
/-- Where the reference stands: the state x of the reading, ahead of word k; T is what is still to be read. -/
structure StAt (s : List UInt8) (k : Nat) (l : Leg) (T : PS → PS) (x : PS) : Prop where
  bad : x.bad = 0
  leg : x.l = l
  ws : x.ws = (words s).drop k
  col : (wcol 1 (words s)).drop k = wcol x.col x.ws
  ok : x.Ok s.length
  fin : parseS s = (T x).done
theorem StAt.word {s : List UInt8} {k : Nat} {l : Leg} {T : PS → PS} {x : PS} (h : StAt s k l T x) (hk : k < (words s).length) : ∃ r, x.ws = (words s)[k] :: r ∧ (wcol 1 (words s))[k]? = some ((words s)[k], x.col) ∧ r = (words s).drop (k + 1) ∧ (wcol 1 (words s)).drop (k + 1) = wcol (x.col + ((words s)[k].length + 1)) r := by
  have h1 := h.ws
  rw [List.drop_eq_getElem_cons hk] at h1
  have h2 := h.col
  rw [h1, wcol] at h2
  have hk2 : k < (wcol 1 (words s)).length := by rw [wcol_len]; exact hk
  rw [List.drop_eq_getElem_cons hk2] at h2
  injection h2 with h3 h4
  exact ⟨_, h1, by rw [List.getElem?_eq_getElem hk2, h3], rfl, h4⟩
theorem StAt.step {s : List UInt8} {k : Nat} {l : Leg} {T T' : PS → PS} {x : PS} {f : Acc} (h : StAt s k l T x) (hk : k < (words s).length) (hf : f.Ok s.length) (hy : (f (words s)[k] l).2 = true)
    (hT : ∀ r, x.ws = (words s)[k] :: r → T x = T' ⟨r, x.col + ((words s)[k].length + 1), 0, (f (words s)[k] l).1⟩) : ∃ x', StAt s (k + 1) (f (words s)[k] l).1 T' x' := by
  obtain ⟨r, e1, e2, e3, e4⟩ := h.word hk
  have hok : PS.Ok s.length (x.need s.length f) := h.ok.need hf
  have en : x.need s.length f = ⟨r, x.col + ((words s)[k].length + 1), 0, (f (words s)[k] l).1⟩ := by
    unfold PS.need
    rw [if_neg (by rw [h.bad]; simp), e1]
    simp only
    rw [h.leg, if_pos hy]
  rw [en] at hok
  exact ⟨_, ⟨rfl, rfl, e3, e4, hok, by rw [h.fin, hT r e1]⟩⟩
/-- The first loop's state: j letters are done. -/
def F1 (s : List UInt8) (t : Int) (j k : Nat) (l : Leg) : Prop := ∃ x, StAt s k l (fun x => runO OLs (runF t s.length (FLs.drop j) x)) x ∧ l.over = false ∧ l.ty = t
/-- The second loop's: 'next' options are done. -/
def F2 (s : List UInt8) (j k : Nat) (l : Leg) : Prop := ∃ x, StAt s k l (fun x => runO (OLs.drop j) x) x ∧ (j = 0 → l.over = false)
theorem F1.end {s : List UInt8} {t : Int} {k : Nat} {l : Leg} (h : F1 s t 7 k l) : F2 s 0 k l := by
  obtain ⟨x, h, ho, _⟩ := h
  exact ⟨x, ⟨h.bad, h.leg, h.ws, h.col, h.ok, h.fin⟩, fun _ => ho⟩
theorem F1.skip {s : List UInt8} {t : Int} {j k : Nat} {l : Leg} {c m : Int} {f : Acc} (h : F1 s t j k l) (hj : FLs[j]? = some (c, m, f)) (hu : uB t m = false) : F1 s t (j + 1) k l := by
  obtain ⟨x, h, ho, ht⟩ := h
  have hlt : j < FLs.length := (List.getElem?_eq_some_iff.1 hj).1
  refine ⟨x, ⟨h.bad, h.leg, h.ws, h.col, h.ok, ?_⟩, ho, ht⟩
  rw [h.fin, List.drop_eq_getElem_cons hlt]
  have e : FLs[j] = (c, m, f) := (List.getElem?_eq_some_iff.1 hj).2
  rw [e]
  simp only [runF, hu, PS.needIf, Bool.false_eq_true, if_false]
theorem F1.out {s : List UInt8} {t : Int} {j k : Nat} {l : Leg} {c m : Int} {f : Acc} (h : F1 s t j k l) (hj : FLs[j]? = some (c, m, f)) (hu : uB t m = true) (hk : k = (words s).length) : parseS s = (leg0, (s.length : Int) + 2, 4) := by
  obtain ⟨x, h, ho, ht⟩ := h
  have hlt : j < FLs.length := (List.getElem?_eq_some_iff.1 hj).1
  rw [h.fin, List.drop_eq_getElem_cons hlt]
  have e : FLs[j] = (c, m, f) := (List.getElem?_eq_some_iff.1 hj).2
  have hw : x.ws = [] := by rw [h.ws, hk, List.drop_length]
  have en : x.needIf true s.length f = { x with bad := (s.length : Int) + 2 } := by
    unfold PS.needIf PS.need
    simp only [if_true]
    rw [if_neg (by rw [h.bad]; simp), hw]
  rw [e]
  simp only [runF, hu, en]
  rw [runF_bad _ _ _ _ (by simp only; omega), runO_bad _ _ (by simp only; omega), done_of_bad (by simp only; omega)]
theorem F1.not {s : List UInt8} {t : Int} {j k : Nat} {l : Leg} {c m : Int} {f : Acc} (h : F1 s t j k l) (hj : FLs[j]? = some (c, m, f)) (hu : uB t m = true) (hk : k < (words s).length) (hn : (f (words s)[k] l).2 = false) :
    ∃ col : Int, (wcol 1 (words s))[k]? = some ((words s)[k], col) ∧ parseS s = (leg0, col, 4) := by
  obtain ⟨x, h, ho, ht⟩ := h
  obtain ⟨r, e1, e2, e3, e4⟩ := h.word hk
  refine ⟨x.col, e2, ?_⟩
  have hlt : j < FLs.length := (List.getElem?_eq_some_iff.1 hj).1
  rw [h.fin, List.drop_eq_getElem_cons hlt]
  have e : FLs[j] = (c, m, f) := (List.getElem?_eq_some_iff.1 hj).2
  have en : x.needIf true s.length f = { x with bad := x.col, l := (f (words s)[k] x.l).1 } := by
    unfold PS.needIf PS.need
    simp only [if_true]
    rw [if_neg (by rw [h.bad]; simp), e1]
    simp only
    rw [if_neg (by rw [h.leg, hn]; simp)]
  have hc := h.ok.one
  rw [e]
  simp only [runF, hu, en]
  rw [runF_bad _ _ _ _ (by simp only; omega), runO_bad _ _ (by simp only; omega), done_of_bad (by simp only; omega)]
structure AccKeeps (f : Acc) : Prop where
  ty : ∀ s l, (f s l).1.ty = l.ty
  over : ∀ s l, (f s l).1.over = l.over
theorem F1.yes {s : List UInt8} {t : Int} {j k : Nat} {l : Leg} {c m : Int} {f : Acc} (h : F1 s t j k l) (hj : FLs[j]? = some (c, m, f)) (hu : uB t m = true) (hk : k < (words s).length) (hf : f.Ok s.length) (hkp : AccKeeps f) (hy : (f (words s)[k] l).2 = true) :
    F1 s t (j + 1) (k + 1) (f (words s)[k] l).1 := by
  obtain ⟨x, h, ho, ht⟩ := h
  have hlt : j < FLs.length := (List.getElem?_eq_some_iff.1 hj).1
  have e : FLs[j] = (c, m, f) := (List.getElem?_eq_some_iff.1 hj).2
  obtain ⟨x', hx⟩ := h.step (T' := fun x => runO OLs (runF t s.length (FLs.drop (j + 1)) x)) hk hf hy (fun r hr => by
    rw [List.drop_eq_getElem_cons hlt, e]
    simp only [runF, hu]
    congr 2
    unfold PS.needIf PS.need
    simp only [if_true]
    rw [if_neg (by rw [h.bad]; simp), hr]
    simp only
    rw [h.leg, if_pos hy])
  exact ⟨x', hx, by rw [hkp.over, ho], by rw [hkp.ty, ht]⟩
theorem F2.not {s : List UInt8} {j k : Nat} {l : Leg} {c : Int} {f : Acc} (h : F2 s j k l) (hj : OLs[j]? = some (c, f)) (hk : k < (words s).length) (hn : (f (words s)[k] l).2 = false) (hsame : l.over = false ∨ 0 < j → (f (words s)[k] l).1 = l) : F2 s (j + 1) k l := by
  obtain ⟨x, h, ho⟩ := h
  obtain ⟨r, e1, e2, e3, e4⟩ := h.word hk
  have hlt : j < OLs.length := (List.getElem?_eq_some_iff.1 hj).1
  have e : OLs[j] = (c, f) := (List.getElem?_eq_some_iff.1 hj).2
  have hl : (f (words s)[k] l).1 = l := hsame (by
    rcases Nat.eq_zero_or_pos j with h0 | h0
    · exact .inl (ho h0)
    · exact .inr h0)
  have en : x.may f = x := by
    unfold PS.may
    rw [if_neg (by rw [h.bad]; simp), e1]
    simp only
    rw [if_neg (by rw [h.leg, hn]; simp), h.leg, hl, ← h.leg, ← e1]
  refine ⟨x, ⟨h.bad, h.leg, h.ws, h.col, h.ok, ?_⟩, fun h0 => by omega⟩
  rw [h.fin, List.drop_eq_getElem_cons hlt, e]
  simp only [runO, en]
theorem F2.yes {s : List UInt8} {j k : Nat} {l : Leg} {c : Int} {f : Acc} (h : F2 s j k l) (hj : OLs[j]? = some (c, f)) (hk : k < (words s).length) (hf : f.Ok s.length) (hy : (f (words s)[k] l).2 = true) : F2 s (j + 1) (k + 1) (f (words s)[k] l).1 := by
  obtain ⟨x, h, ho⟩ := h
  have hlt : j < OLs.length := (List.getElem?_eq_some_iff.1 hj).1
  have e : OLs[j] = (c, f) := (List.getElem?_eq_some_iff.1 hj).2
  obtain ⟨x', hx⟩ := h.step (T' := fun x => runO (OLs.drop (j + 1)) x) hk hf hy (fun r hr => by
    rw [List.drop_eq_getElem_cons hlt, e]
    simp only [runO]
    congr 1
    unfold PS.may
    rw [if_neg (by rw [h.bad]; simp), hr]
    simp only
    rw [h.leg, if_pos hy])
  exact ⟨x', hx, fun h0 => by omega⟩
theorem F2.left {s : List UInt8} {k : Nat} {l : Leg} (h : F2 s 4 k l) (hk : k < (words s).length) : ∃ col : Int, (wcol 1 (words s))[k]? = some ((words s)[k], col) ∧ parseS s = (leg0, col, 4) := by
  obtain ⟨x, h, ho⟩ := h
  obtain ⟨r, e1, e2, e3, e4⟩ := h.word hk
  refine ⟨x.col, e2, ?_⟩
  rw [h.fin]
  exact done_left h.bad e1 h.ok.one
theorem F2.fin {s : List UInt8} {j k : Nat} {l : Leg} (h : F2 s j k l) (hk : k = (words s).length) : parseS s = if legCheck l ≠ 0 then (leg0, 0, legCheck l) else (l, 0, 0) := by
  obtain ⟨x, h, ho⟩ := h
  have hw : x.ws = [] := by rw [h.ws, hk, List.drop_length]
  rw [h.fin, runO_end _ _ hw, done_none h.bad hw, h.leg]
theorem F2.small {s : List UInt8} {j k : Nat} {l : Leg} (h : F2 s j k l) (hs : s.length ≤ 4000000000) : l.small := by
  obtain ⟨x, h, ho⟩ := h
  have h1 := h.ok.fix
  have h2 := h.ok.center
  rw [h.leg] at h1 h2
  exact ⟨by omega, by omega⟩
theorem keeps_fix : AccKeeps accFix := ⟨fun _ _ => rfl, fun _ _ => rfl⟩
theorem keeps_center : AccKeeps accCenter := ⟨fun _ _ => rfl, fun _ _ => rfl⟩
theorem keeps_turn : AccKeeps accTurn := ⟨fun _ _ => rfl, fun _ _ => rfl⟩
theorem keeps_course : AccKeeps accCourse := ⟨fun _ _ => rfl, fun _ _ => rfl⟩
theorem keeps_dist : AccKeeps accDist := ⟨fun _ _ => rfl, fun _ _ => rfl⟩
theorem keeps_radius : AccKeeps accRadius := ⟨fun _ _ => rfl, fun _ _ => rfl⟩
theorem keeps_theta : AccKeeps accTheta := ⟨fun s l => by obtain ⟨t, b, h⟩ := accTheta_eq s l; rw [h], fun s l => by obtain ⟨t, b, h⟩ := accTheta_eq s l; rw [h]⟩
/-- What is known of letter j. -/
theorem letter_at (n : Nat) (j : Nat) (hj : j < 7) : ∃ c m f, FLs[j]? = some (c, m, f) ∧ PutIs c f ∧ f.Ok n ∧ AccKeeps f ∧ (∀ t, knownB t = true → hasI (usesStr t) c = uB t m) ∧ ([70, 67, 84, 75, 68, 82, 72] : List Int)[j]? = some c := by
  match j, hj with
  | 0, _ => exact ⟨_, _, _, rfl, put_fix, accFix_ok n, keeps_fix, fun t h => (letters t h).1, rfl⟩
  | 1, _ => exact ⟨_, _, _, rfl, put_center, accCenter_ok n, keeps_center, fun t h => (letters t h).2.1, rfl⟩
  | 2, _ => exact ⟨_, _, _, rfl, put_turn, accTurn_ok n, keeps_turn, fun t h => (letters t h).2.2.1, rfl⟩
  | 3, _ => exact ⟨_, _, _, rfl, put_course, accCourse_ok n, keeps_course, fun t h => (letters t h).2.2.2.2.1, rfl⟩
  | 4, _ => exact ⟨_, _, _, rfl, put_dist, accDist_ok n, keeps_dist, fun t h => (letters t h).2.2.2.2.2.1, rfl⟩
  | 5, _ => exact ⟨_, _, _, rfl, put_radius, accRadius_ok n, keeps_radius, fun t h => (letters t h).2.2.2.2.2.2.1, rfl⟩
  | 6, _ => exact ⟨_, _, _, rfl, put_theta, accTheta_ok n, keeps_theta, fun t h => (letters t h).2.2.2.2.2.2.2.1, rfl⟩
theorem option_at (n : Nat) (j : Nat) (hj : j < 4) : ∃ c f, OLs[j]? = some (c, f) ∧ PutIs c f ∧ f.Ok n ∧ (∀ s l, (f s l).2 = false → (l.over = false ∨ 0 < j) → (f s l).1 = l) ∧ ([111, 65, 115, 110] : List UInt8)[j]?.map (fun b => (b.toNat : Int)) = some c := by
  match j, hj with
  | 0, _ => exact ⟨_, _, rfl, put_over, accOver_ok n, fun s l h h2 => by
      unfold accOver at h ⊢
      simp only at h ⊢
      rcases h2 with h2 | h2
      · rw [h, ← h2]
      · omega, rfl⟩
  | 1, _ => exact ⟨_, _, rfl, put_win, accWin_ok n, fun s l h _ => by
      unfold accWin at h ⊢
      split
      · rename_i hh; rw [if_pos hh] at h; cases h
      · rfl, rfl⟩
  | 2, _ => exact ⟨_, _, rfl, put_speed, accSpeed_ok n, fun s l h _ => by
      unfold accSpeed at h ⊢
      split
      · rename_i hh; rw [if_pos hh] at h; cases h
      · rfl, rfl⟩
  | 3, _ => exact ⟨_, _, rfl, put_rnp, accRnp_ok n, fun s l h _ => by
      unfold accRnp at h ⊢
      split
      · rename_i hh; rw [if_pos hh] at h; cases h
      · rfl, rfl⟩
theorem begin_no {s : List UInt8} {w0 : List UInt8} {r : List (List UInt8)} (hw : words s = w0 :: r) (h : kindS w0 = 0) : parseS s = (leg0, 1, 4) := by
  rw [parse_runs]
  have e : PS.begin s = { (⟨words s, 1, 0, legOpen⟩ : PS) with bad := 1, l := (accName w0 legOpen).1 } := by
    unfold PS.begin PS.need
    rw [if_neg (by simp), hw]
    simp only
    have : (accName w0 legOpen).2 = false := by
      show (typeK w0 legOpen.ty 18 != 0) = false
      have h2 : typeK w0 0 18 = 0 := h
      rw [show legOpen.ty = 0 from rfl, h2]; rfl
    rw [if_neg (by rw [this]; simp)]
  rw [e, runF_bad _ _ _ _ (by simp), runO_bad _ _ (by simp), done_of_bad (by simp)]
theorem begin_yes {s : List UInt8} {w0 : List UInt8} {r : List (List UInt8)} (hw : words s = w0 :: r) (h : kindS w0 ≠ 0) : knownB (kindS w0) = true ∧ F1 s (kindS w0) 0 1 { legOpen with ty := kindS w0 } := by
  have hk : typeK w0 0 18 ≠ 0 := h
  have kn := (typeK_back w0 18 (by omega) hk).1
  refine ⟨kn, ?_⟩
  have e : PS.begin s = ⟨r, 1 + (w0.length + 1), 0, { legOpen with ty := kindS w0 }⟩ := by
    unfold PS.begin PS.need
    rw [if_neg (by simp), hw]
    simp only
    have : (accName w0 legOpen).2 = true := by
      show (typeK w0 legOpen.ty 18 != 0) = true
      rw [show legOpen.ty = 0 from rfl]; simpa using hk
    rw [if_pos this]
    rfl
  refine ⟨PS.begin s, ⟨by rw [e], by rw [e], by rw [e, hw]; rfl, by rw [e, hw]; rfl, begin_ok s, ?_⟩, rfl, rfl⟩
  rw [parse_runs]
  have : (PS.begin s).l.ty = kindS w0 := by rw [e]
  rw [this]; rfl
end Go.Proofs.YtjgondadpjildaaGreatDoor
namespace Go.Proofs.YtjgondadpjildaaGreatDoor
open Go.RowKit Go.Sort
set_option linter.unusedVariables false
set_option linter.unusedSimpArgs false
set_option linter.unnecessarySimpa false
set_option maxRecDepth 100000
theorem touch_new {S : List Nat} {a b c : World} {m : Nat} (h : Touch S a b) (k : Touch [m] b c) (hm : a.heap.size ≤ m) : Touch S a c :=
  ⟨k.os.trans h.os, k.tape.trans h.tape, k.output.trans h.output, Nat.le_trans h.size k.size, fun i hi hn => (k.block i (Nat.lt_of_lt_of_le hi h.size) (by simp; omega)).trans (h.block i hi hn)⟩
theorem touch_setRow {g : Nat} (w : World) (cs : Array Value) : Touch [g] w (w.setRow g cs) :=
  ⟨rfl, rfl, rfl, by simp [World.setRow], fun k _ hn => setRow_other w g k _ (fun e => hn (by simp [e]))⟩
theorem wcol_get : ∀ (l : List (List UInt8)) (c : Int) (k : Nat) (h : k < l.length), ∃ col, (wcol c l)[k]? = some (l[k], col)
  | a :: q, c, 0, _ => ⟨c, rfl⟩
  | a :: q, c, k + 1, h => by
    obtain ⟨col, e⟩ := wcol_get q (c + (a.length + 1)) k (by simpa using h)
    exact ⟨col, by simpa [wcol] using e⟩
abbrev Z13 : Array Value := #[.int .u8 0, .string ⟨#[]⟩, .string ⟨#[]⟩, .int .u8 0, .bool false, .int .i64 0, .int .i64 0, .int .i64 0, .int .i64 0, .int .i64 0, .int .i64 0, .int .i64 0, .int .i64 0]
def fb7 (parts : Array (Nat × Value)) : Sem Value := Instr.buildSlice 125 7 parts
theorem fb7_fold (parts : Array (Nat × Value)) : Instr.buildSlice 125 7 parts = fb7 parts := rfl
abbrev F7 : Array Value := #[.int .u8 70, .int .u8 67, .int .u8 84, .int .u8 75, .int .u8 68, .int .u8 82, .int .u8 72]
theorem run_fb7 (w : World) : (fb7 #[(0, .int .u8 70), (1, .int .u8 67), (2, .int .u8 84), (3, .int .u8 75), (4, .int .u8 68), (5, .int .u8 82), (6, .int .u8 72)]).run Tryz.prog w = .ok (.slice (some ⟨w.heap.size, 0, none⟩) 7 7) (w.alloc (.cells F7 5)) := by
  obtain ⟨i0, hi, hz0, hz1, hz2⟩ := info_parts info_u8
  refine run_buildSlice w 125 5 7 #[(0, .int .u8 70), (1, .int .u8 67), (2, .int .u8 84), (3, .int .u8 75), (4, .int .u8 68), (5, .int .u8 82), (6, .int .u8 72)] F7 i0 _ Tryz.underlying125 hi hz0 (by rw [hz1]; decide) (by rw [hz1]; decide) ?_
  rw [hz1]
  kernel_rfl
attribute [local go_sem ↓] fb7_fold
attribute [local go_sem] run_fb7
set_option maxHeartbeats 16000000 in
theorem rparse_any (s : List UInt8) (w : World) (hl : s.length ≤ 100000) : Calls Tryz.prog 80 #[.string ⟨s.toArray⟩] w (Ret w (parseVal (parseS s))) := by
  have hwl : (words s).length ≤ 100001 := by
    have h1 := words_len s
    have h2 := List.count_le_length (a := (32 : UInt8)) (l := s)
    omega
  have hww : ∀ x ∈ words s, x.length ≤ 4000000000 := fun x hx => by have := mem_words_len s x hx; omega
  have hwlen := wcol_len 1 (words s)
  obtain ⟨w0, q0, hw0⟩ : ∃ a q, words s = a :: q := by
    match h : words s with
    | [] => exact absurd h (words_ne s)
    | a :: q => exact ⟨a, q, rfl⟩
  have hpos : 0 < (words s).length := by rw [hw0]; simp
  have hw0l : w0.length ≤ 4000000000 := hww w0 (by rw [hw0]; simp)
  have HNO := Lib.hid (fun h => begin_no hw0 h)
  have HYES := Lib.hid (fun h => begin_yes hw0 h)
  have HW0 := Lib.hid (show (wcol 1 (words s))[0]? = some (w0, 1) from by rw [hw0]; rfl)
  have HWW := Lib.hid hww
  clear hww hw0
  obtain ⟨out, hout⟩ : ∃ o, o = parseS s := ⟨_, rfl⟩
  rw [← hout]
  have HOUT := Lib.hid hout
  clear hout
  go_enter Tryz.func80, Tryz.ntmps80
  go_upto_region 1 with (fail)
  have R : Blk (w.alloc (.cells Z13 36)) w.heap.size leg0.arr := Blk.new w Z13 36
  have B := alloc_below w (.cells Z13 36)
  generalize w.alloc _ = W0 at R B ⊢
  obtain ⟨g, hg0⟩ : ∃ g, g = w.heap.size := ⟨_, rfl⟩
  rw [← hg0] at R ⊢
  have hg := Nat.le_of_eq hg0.symm
  clear hg0
  go_wp2_with fail
  refine (rsplit_any s W0 (by omega)).mono ?_
  rintro e w1 ⟨v, rfl, hO, hB1⟩
  obtain ⟨A, c, rfl, hc, hS, hA⟩ := hO.form
  obtain ⟨b, rfl, hb, hcell⟩ := hS.at_ (by intro h; rw [h] at hwlen; simp at hwlen; omega)
  have hAb : W0.heap.size ≤ b := hA _ rfl
  rw [hwlen]
  have hwlen' := Lib.hid hwlen
  rw [hwlen] at hc
  have R1 := R.step hB1
  have B1 := below_step B hB1
  have hgb : g < b := by have := R.lt; omega
  have h00 : w1.cell? ⟨b, 0, none⟩ = some (.string ⟨w0.toArray⟩) := by have := hcell 0 _ HW0.out 0 (by omega); simpa [WC.arr] using this
  clear R B hB1 hO hS hA hwlen hAb
  go_wp2_with fail
  with_reducible refine callP (rkind_any w0 w1) ?_
  have HK0 := Lib.hid (fun h => HNO.out h)
  have HK1 := Lib.hid (fun h => HYES.out h)
  clear HNO HYES
  generalize kindS w0 = t at HK0 HK1 ⊢
  go_upto_region 3 with (fail)
  have X : Blk (w1.alloc (.cells #[.int .u8 t, .string ⟨#[]⟩, .string ⟨#[]⟩, .int .u8 0, .bool false, .int .i64 0, .int .i64 0, .int .i64 0, .int .i64 0, .int .i64 (-200000), .int .i64 6000000, .int .i64 0, .int .i64 0] 36)) w1.heap.size ({ legOpen with ty := t } : Leg).arr := Blk.new w1 _ 36
  have R2 := R1.alloc (.cells #[.int .u8 t, .string ⟨#[]⟩, .string ⟨#[]⟩, .int .u8 0, .bool false, .int .i64 0, .int .i64 0, .int .i64 0, .int .i64 0, .int .i64 (-200000), .int .i64 6000000, .int .i64 0, .int .i64 0] 36)
  have A2 := alloc_below w1 (.cells #[.int .u8 t, .string ⟨#[]⟩, .string ⟨#[]⟩, .int .u8 0, .bool false, .int .i64 0, .int .i64 0, .int .i64 0, .int .i64 0, .int .i64 (-200000), .int .i64 6000000, .int .i64 0, .int .i64 0] 36)
  have B2 := below_step B1 A2
  have hcell2 : ∀ i x, (wcol 1 (words s))[i]? = some x → ∀ j, j < 2 → (w1.alloc (.cells #[.int .u8 t, .string ⟨#[]⟩, .string ⟨#[]⟩, .int .u8 0, .bool false, .int .i64 0, .int .i64 0, .int .i64 0, .int .i64 0, .int .i64 (-200000), .int .i64 6000000, .int .i64 0, .int .i64 0] 36)).cell? ⟨b, i * 2 + j, none⟩ = x.arr[j]? := fun i x hx j hj => by rw [A2.cell (p := ⟨b, _, none⟩) hb]; exact hcell i x hx j hj
  have hglt : g < w1.heap.size := R1.lt
  have hb2 : b < w1.heap.size + 1 := by omega
  have hlbw : w.heap.size ≤ w1.heap.size := B1.size
  have hsz2 : (w1.alloc (.cells #[.int .u8 t, .string ⟨#[]⟩, .string ⟨#[]⟩, .int .u8 0, .bool false, .int .i64 0, .int .i64 0, .int .i64 0, .int .i64 0, .int .i64 (-200000), .int .i64 6000000, .int .i64 0, .int .i64 0] 36)).heap.size = w1.heap.size + 1 := by simp
  clear R1 B1 A2 hcell h00
  generalize w1.alloc _ = w2 at X R2 B2 hcell2 hsz2 ⊢
  generalize w1.heap.size = lb at X hb hglt hb2 hlbw hsz2 ⊢
  have HC := Lib.hid hcell2
  clear hcell2
  have c6 := X.cell 0
  by_cases ht : t = 0
  · subst ht
    have HO := Lib.hid (HOUT.out.trans (HK0.out rfl))
    clear HK0 HK1 HOUT HC
    have d2 := R2.plain
    have d3 : blkOf w2 g = leg0.arr := R2.of
    rw [leg0_arr] at d3
    go_wp2
    refine bodyPost_ret (results_leg3 Tryz.results80 _ _ g leg0 rfl (is_leg0 R2)) rfl ?_
    have Bf := below_setRow' B2 hg leg0.arr
    rw [leg0_arr] at Bf
    exact Ret.parse HO.out Bf
  · have ht0 : (t == 0) = false := by simpa using ht
    have hky := HK1.out ht
    have kn := hky.1
    have HF := Lib.hid hky.2
    have KN := Lib.hid kn
    clear HK0 HK1 hky kn ht
    have hus := usesStr_len t
    go_upto_region 7 with (go_at_call 62; ((with_reducible refine callP (ruses_any _ _) ?_)))
    generalize hu : usesStr t = u at hus ⊢
    have HU := Lib.hid hu
    clear hu c6
    have kc := Lib.run_convert_bytes_const (P := Tryz.prog) w2 125 5 F7 7 7 Tryz.underlying125 Tryz.underlying5
    rw [hsz2] at kc
    have hcell7 : ∀ j, (w2.alloc (.cells F7 5 (7, 8))).cell? ⟨lb + 1, j, none⟩ = F7[j]? := fun j => by
      rw [← hsz2]; exact cell_of_row _ _ j F7 5 (7, 8) (heap_alloc_new w2 _)
    have H7 := Lib.hid hcell7
    clear hcell7
    go_wp2
    clear kc
    have X3 := X.alloc (.cells F7 5 (7, 8))
    have R3 := R2.alloc (.cells F7 5 (7, 8))
    have A3 := alloc_below w2 (.cells F7 5 (7, 8))
    have B3 := below_step B2 A3
    have HC3 : Hid (∀ i x, (wcol 1 (words s))[i]? = some x → ∀ j, j < 2 → (w2.alloc (.cells F7 5 (7, 8))).cell? ⟨b, i * 2 + j, none⟩ = x.arr[j]?) := Lib.hid (fun i x hx j hj => by rw [A3.cell (p := ⟨b, _, none⟩) (by show b < _; omega)]; exact HC.out i x hx j hj)
    have hsz3 : (w2.alloc (.cells F7 5 (7, 8))).heap.size = lb + 1 + 1 := by simp [hsz2]
    clear X R2 B2 A3 HC hsz2
    generalize w2.alloc _ = w3 at X3 R3 B3 HC3 hsz3 H7 ⊢
    go_loopw [8, 34] (fun kv jv wr => ∃ (k j : Nat) (l : Leg), kv = .int .i64 k ∧ jv = .int .i64 j ∧ j ≤ 7 ∧ k ≤ (words s).length ∧ F1 s t j k l ∧ Blk wr lb l.arr ∧ Blk wr g leg0.arr ∧ Touch [lb] w3 wr) (fun _ jv _ => 7 - (intOf jv).toNat)
    case atStart => exact ⟨1, 0, _, rfl, rfl, by omega, by omega, HF.out, X3, R3, Touch.refl _ _⟩
    case round =>
      obtain ⟨k, j, l, rfl, rfl, hj, hk, hF, Xl, Rl, T⟩ := hrel
      rename_i wr
      have hBw := T.below B3 (by simp; omega)
      by_cases hj7 : j < 7
      · obtain ⟨cc, m, f, hFL, hput, hfok, hkp, hhas, hcc⟩ := letter_at s.length j hj7
        have q1 : wr.cell? ⟨lb + 1, j, none⟩ = some (.int .u8 cc) := by
          rw [T.cell (by simp) (by omega), H7.out]
          match j, hj7, hcc with
          | 0, _, h | 1, _, h | 2, _, h | 3, _, h | 4, _, h | 5, _, h | 6, _, h => simp at h; subst h; rfl
        have kh := Lib.hid (fun W => rhas_any u cc W (by omega))
        have hbit : hasI u cc = uB t m := by rw [← HU.out]; exact hhas t KN.out
        rw [hbit] at kh
        have HF1 := Lib.hid hF
        have HFL := Lib.hid hFL
        have HKP := Lib.hid hkp
        have HFO := Lib.hid hfok
        clear hF hFL hkp hfok hhas hcc hbit
        cases hu : uB t m
        · have HUB := Lib.hid hu
          rw [hu] at kh
          clear hu
          go_wp2_with (go_at_call 64; ((with_reducible refine callP (kh.out _) ?_)))
          go_roundw
          case rel => exact ⟨k, j + 1, l, rfl, by go_num, by omega, hk, F1.skip HF1.out HFL.out HUB.out, Xl, Rl, T⟩
          case measure => simp [intOf]; omega
        · have HUB := Lib.hid hu
          rw [hu] at kh
          clear hu
          by_cases hkk : k = (words s).length
          · have HO := Lib.hid (HOUT.out.trans (F1.out HF1.out HFL.out HUB.out hkk))
            subst hkk
            have d2 := Rl.plain
            have d3 : blkOf wr g = leg0.arr := Rl.of
            rw [leg0_arr] at d3
            go_wp2_with (go_at_call 64; ((with_reducible refine callP (kh.out _) ?_)))
            refine bodyPost_ret (results_leg3 Tryz.results80 _ _ g leg0 rfl (is_leg0 Rl)) rfl ?_
            have Bf := below_setRow' hBw hg leg0.arr
            rw [leg0_arr] at Bf
            exact Ret.parse HO.out Bf
          · have hkl : k < (words s).length := by omega
            obtain ⟨col, hent⟩ := wcol_get (words s) 1 k hkl
            have hcs := HC3.out k _ hent
            have q2 : wr.cell? ⟨b, k * 2, none⟩ = some (.string ⟨(words s)[k].toArray⟩) := by
              have := hcs 0 (by omega)
              rw [T.cell (by simp; omega) (by omega)]
              simpa [WC.arr] using this
            have hq3 : wr.cell? ⟨b, k * 2 + 1, none⟩ = some (.int .i64 col) := by
              have := hcs 1 (by omega)
              rw [T.cell (by simp; omega) (by omega)]
              simpa [WC.arr] using this
            have hbwr : b < wr.heap.size := by have := T.size; omega
            have HENT := Lib.hid hent
            have hwd := HWW.out (words s)[k] (List.getElem_mem hkl)
            have kp := Lib.hid (hput wr lb (words s)[k] l Xl hwd)
            clear hcs hent hput
            cases hy : (f (words s)[k] l).2
            · have HO := Lib.hid (show out = (leg0, col, 4) from by
                obtain ⟨col', h1, h2⟩ := F1.not HF1.out HFL.out HUB.out hkl hy
                rw [HENT.out] at h1
                injection h1 with h1
                injection h1 with _ h1
                rw [HOUT.out, h2, h1])
              have HY := Lib.hid hy
              clear hy
              generalize (words s)[k] = wd at q2 kp HY hwd
              go_wp2_with (go_at_call 64; ((with_reducible refine callP (kh.out _) ?_)))
              refine kp.out.mono ?_
              rintro e w4 ⟨l', rfl, T4, X4, hl'⟩
              rw [HY.out]
              have R4 := T4.blk (by simp; omega) Rl
              have B4 := T4.below hBw (by simp; omega)
              have q3 : w4.cell? ⟨b, k * 2 + 1, none⟩ = some (.int .i64 col) := by rw [T4.cell (by simp; omega) hbwr]; exact hq3
              clear hq3 q2 q1 hl' kp
              go_upto_region 14 with (fail)
              have R4d : Blk w4.drew g leg0.arr := R4
              have d2 := R4.plain
              have d3 : blkOf w4 g = leg0.arr := R4.of
              have d4 := R4d.plain
              have d5 := R4d.of
              rw [leg0_arr] at d3 d5
              have nbg : ¬ b = g := by omega
              go_region
              rename_i hK
              refine hK _ _ (wp_ret ?_)
              show bodyPost Tryz.prog _ _ Exit.ret _ _
              refine bodyPost_ret (results_leg3 Tryz.results80 _ _ g leg0 rfl (is_leg0 R4d)) rfl ?_
              have Bf := below_setRow' B4.drew hg leg0.arr
              rw [leg0_arr] at Bf
              exact Ret.parse HO.out Bf
            · have HN := Lib.hid (F1.yes HF1.out HFL.out HUB.out hkl HFO.out HKP.out hy)
              have HY := Lib.hid hy
              clear hy
              generalize (words s)[k] = wd at q2 kp HY hwd HN
              go_wp2_with (go_at_call 64; ((with_reducible refine callP (kh.out _) ?_)))
              refine kp.out.mono ?_
              rintro e w4 ⟨l', rfl, T4, X4, hl'⟩
              rw [HY.out]
              have hl2 := Lib.hid (hl' HY.out)
              have R4 := T4.blk (by simp; omega) Rl
              clear hq3 q2 q1 hl' kp
              go_wp2
              go_roundw
              case rel => exact ⟨k + 1, j + 1, l', by go_num, by go_num, by omega, by omega, by rw [hl2.out]; exact HN.out, X4, R4, T.trans T4⟩
              case measure => simp [intOf]; omega
      · have hj77 : j = 7 := by omega
        subst hj77
        rw [show ((7 : Nat) : Int) = 7 from rfl]
        have HF2 := Lib.hid (F1.end hF)
        clear hF HF
        have hws : wr.heap.size = wr.heap.size := rfl
        have HC4 : Hid (∀ i x, (wcol 1 (words s))[i]? = some x → ∀ j, j < 2 → wr.cell? ⟨b, i * 2 + j, none⟩ = x.arr[j]?) := Lib.hid (fun i x hx j hj => by rw [T.cell (by simp; omega) (by omega)]; exact HC3.out i x hx j hj)
        have hbwr : b < wr.heap.size := by have := T.size; omega
        have hlbr : lb < wr.heap.size := by have := T.size; omega
        clear H7 HC3 X3 R3 B3 T hsz3 hws
        generalize hwv : wr = w5 at Xl Rl hBw HC4 hbwr hlbr ⊢
        clear hwv
        go_wp2
        go_loopw [8, 11] (fun kv nv wr => ∃ (k nx : Nat) (l : Leg), kv = .int .i64 k ∧ nv = .int .i64 nx ∧ nx ≤ 4 ∧ k ≤ (words s).length ∧ F2 s nx k l ∧ Blk wr lb l.arr ∧ Blk wr g leg0.arr ∧ Touch [lb] w5 wr) (fun kv _ _ => (words s).length - (intOf kv).toNat)
        case atStart => exact ⟨k, 0, l, rfl, rfl, by omega, hk, HF2.out, Xl, Rl, Touch.refl _ _⟩
        case round =>
          clear HF2 Xl Rl
          obtain ⟨k, nx, l, rfl, rfl, hnx, hk, hF, Xl, Rl, T⟩ := hrel
          rename World => wo
          have hBo := T.below hBw (by simp; omega)
          by_cases hkl : k < (words s).length
          · obtain ⟨col, hent⟩ := wcol_get (words s) 1 k hkl
            have hcs := HC4.out k _ hent
            have q2 : wo.cell? ⟨b, k * 2, none⟩ = some (.string ⟨(words s)[k].toArray⟩) := by
              rw [T.cell (by simp; omega) hbwr]
              simpa [WC.arr] using hcs 0 (by omega)
            have q3 : wo.cell? ⟨b, k * 2 + 1, none⟩ = some (.int .i64 col) := by
              rw [T.cell (by simp; omega) hbwr]
              simpa [WC.arr] using hcs 1 (by omega)
            have hbwo : b < wo.heap.size := by have := T.size; omega
            have hlwo : lb < wo.heap.size := Xl.lt
            have hgwo : g < wo.heap.size := Rl.lt
            have HENT := Lib.hid hent
            have hwd := HWW.out (words s)[k] (List.getElem_mem hkl)
            have HF2 := Lib.hid hF
            have HQ := Lib.hid (And.intro q2 q3)
            clear hcs hent hF q2 q3
            go_wp2
            go_loopw [11, 12] (fun nv fv wr => ∃ (nx : Nat) (fi : Bool) (l : Leg), nv = .int .i64 nx ∧ fv = .bool fi ∧ nx ≤ 4 ∧ F2 s nx (if fi then k + 1 else k) l ∧ Blk wr lb l.arr ∧ Blk wr g leg0.arr ∧ Touch [lb] wo wr) (fun nv _ _ => 4 - (intOf nv).toNat)
            case atStart => exact ⟨nx, false, l, rfl, rfl, hnx, HF2.out, Xl, Rl, Touch.refl _ _⟩
            case round =>
              clear HF2 Xl Rl
              obtain ⟨nx, fi, l, rfl, rfl, hnx, hF, Xl, Rl, T3⟩ := hrel
              rename World => wi
              have hBi := T3.below hBo (by simp; omega)
              have hbwi : b < wi.heap.size := by have := T3.size; omega
              have hwoi := T3.size
              have q2 : wi.cell? ⟨b, k * 2, none⟩ = some (.string ⟨(words s)[k].toArray⟩) := by
                rw [T3.cell (by simp; omega) hbwo]; exact HQ.out.1
              have q3 : wi.cell? ⟨b, k * 2 + 1, none⟩ = some (.int .i64 col) := by
                rw [T3.cell (by simp; omega) hbwo]; exact HQ.out.2
              cases fi
              · have hFk : F2 s nx k l := hF
                clear hF
                by_cases h4 : nx < 4
                · obtain ⟨cc, f, hOL, hput, hfok, hsame, hcc⟩ := option_at s.length nx h4
                  have HN0 := Lib.hid (fun h1 h2 => F2.not hFk hOL hkl h1 h2)
                  have HY0 := Lib.hid (fun h1 => F2.yes hFk hOL hkl hfok h1)
                  have HSM := Lib.hid (fun (h1 : (f (words s)[k] l).2 = false) h2 => hsame (words s)[k] l h1 h2)
                  have HCC := Lib.hid hcc
                  clear hFk hOL hfok hsame hcc q3
                  have i1 : Has_leg wi lb 0 := ⟨_, Xl.is_leg⟩
                  have i2 : of_leg wi lb 0 = l := of_leg_eq Xl.is_leg
                  generalize (words s)[k] = wd at q2 hwd HN0 HY0 HSM HENT HQ
                  go_upto_region 24 with (fail)
                  have Xm := Blk.new wi l.arr 36
                  have X4 := Xl.alloc (.cells l.arr 36)
                  have R4 := Rl.alloc (.cells l.arr 36)
                  have A4 := alloc_below wi (.cells l.arr 36)
                  have T4 : Touch [lb] wo (wi.alloc (.cells l.arr 36)) := T3.trans (Touch.of A4)
                  have q4 : (wi.alloc (.cells l.arr 36)).cell? ⟨b, k * 2, none⟩ = some (.string ⟨wd.toArray⟩) := by rw [A4.cell (p := ⟨b, _, none⟩) hbwi]; exact q2
                  have hlm : lb < wi.heap.size := Xl.lt
                  have hgm : g < wi.heap.size := Rl.lt
                  clear i1 i2 q2 Xl Rl A4 T3
                  generalize wi.alloc _ = w6 at Xm X4 R4 T4 q4 ⊢
                  generalize wi.heap.size = mb at Xm hlm hgm hwoi ⊢
                  have kp : Hid (∀ W, Blk W mb l.arr → Calls Tryz.prog 139 #[.pointer (some ⟨mb, 0, none⟩), .int .u8 cc, .string ⟨wd.toArray⟩] W (RetPut mb W (f wd l))) := Lib.hid (fun W h => hput W mb wd l h hwd)
                  clear hput
                  have Xmd : Blk w6.drew mb l.arr := Xm
                  go_cut [89] (fun v wx => ∃ l' : Leg, v = .bool (f wd l).2 ∧ Touch [mb] w6 wx ∧ Blk wx mb l'.arr ∧ ((f wd l).2 = true → l' = (f wd l).1))
                  case first =>
                    have hcc := HCC.out
                    rcases (by omega : nx = 0 ∨ nx = 1 ∨ nx = 2 ∨ nx = 3) with rfl | rfl | rfl | rfl
                    all_goals
                      simp at hcc
                      subst hcc
                      go_region_with (go_at_call 139; refine (kp.out _ Xmd).mono ?_; rintro e w7 ⟨l', rfl, t7, x7, hl7⟩)
                      all_goals (go_wp2; go_meet; exact ⟨l', rfl, ((Touch.refl [mb] w6).drew).trans t7, x7, hl7⟩)
                  case rest =>
                    obtain ⟨l', rfl, t7, x7, hl7⟩ := hcut
                    have X7 := t7.blk (by simp; omega) X4
                    have R7 := t7.blk (by simp; omega) R4
                    have T7 := touch_new T4 t7 hwoi
                    clear q4 Xm Xmd X4 R4 T4 t7
                    cases hy : (f wd l).2
                    · have HN1 := Lib.hid (HN0.out hy)
                      have HS1 := Lib.hid (HSM.out hy)
                      clear hy hl7
                      go_wp2
                      go_roundw
                      case rel => exact ⟨nx + 1, false, l, by go_num, rfl, by omega, HN1.out (fun h => HS1.out h), X7, R7, T7⟩
                      case measure => simp [intOf]; omega
                    · have HY1 := Lib.hid (HY0.out hy)
                      have hl8 := Lib.hid (hl7 hy)
                      clear hy hl7
                      have i1 : Has_leg wc mb 0 := ⟨_, x7.is_leg⟩
                      have i2 : of_leg wc mb 0 = l' := of_leg_eq x7.is_leg
                      have d2 := X7.plain
                      have d3 : blkOf wc lb = l.arr := X7.of
                      go_wp2
                      go_roundw
                      case rel =>
                        refine ⟨nx + 1, true, l', by go_num, rfl, by omega, by rw [hl8.out]; exact HY1.out, X7.set _, R7.far (by omega) _, ?_⟩
                        exact T7.trans (touch_setRow _ _)
                      case measure => simp [intOf]; omega
                · have h44 : nx = 4 := by omega
                  subst h44
                  have HO := Lib.hid (show out = (leg0, col, 4) from by
                    obtain ⟨col', h1, h2⟩ := F2.left hFk hkl
                    rw [HENT.out] at h1
                    injection h1 with h1
                    injection h1 with _ h1
                    rw [HOUT.out, h2, h1])
                  clear hFk q2
                  go_upto_region 27 with (fail)
                  have R4d : Blk wi.drew g leg0.arr := Rl
                  have d2 := Rl.plain
                  have d3 : blkOf wi g = leg0.arr := Rl.of
                  have d4 := R4d.plain
                  have d5 := R4d.of
                  rw [leg0_arr] at d3 d5
                  have nbg : ¬ b = g := by omega
                  go_region
                  rename_i hK
                  refine hK _ _ (wp_ret ?_)
                  show bodyPost Tryz.prog _ _ Exit.ret _ _
                  refine bodyPost_ret (results_leg3 Tryz.results80 _ _ g leg0 rfl (is_leg0 R4d)) rfl ?_
                  have Bf := below_setRow' hBi.drew hg leg0.arr
                  rw [leg0_arr] at Bf
                  exact Ret.parse HO.out Bf
              · have HF3 : Hid (F2 s nx (k + 1) l) := Lib.hid hF
                clear hF q2 q3
                by_cases h4 : nx < 4
                all_goals
                  go_wp2
                  go_roundw
                  case rel => exact ⟨k + 1, nx, l, by go_num, rfl, hnx, by omega, HF3.out, Xl, Rl, T.trans T3⟩
                  case measure => simp [intOf]; omega
          · have hkk : k = (words s).length := by omega
            have HO := Lib.hid (HOUT.out.trans (F2.fin hF hkk))
            have hsm := F2.small hF (by omega)
            have kc := Lib.hid (fun W => rcheck_any l W hsm)
            clear hF hsm
            subst hkk
            have i1 : Has_leg wo lb 0 := ⟨_, Xl.is_leg⟩
            have i2 : of_leg wo lb 0 = l := of_leg_eq Xl.is_leg
            go_wp2_with fail
            with_reducible refine callR (kc.out _) ?_
            intro w6 b6 _ _ _
            have R6 := Rl.step b6
            have B6 := below_step hBo b6
            have X6 := Xl.step b6
            clear i1 i2
            have i1 : Has_leg w6 lb 0 := ⟨_, X6.is_leg⟩
            have i2 : of_leg w6 lb 0 = l := of_leg_eq X6.is_leg
            have d2 := R6.plain
            have d3 : blkOf w6 g = leg0.arr := R6.of
            rw [leg0_arr] at d3
            by_cases he : legCheck l = 0
            · have HO2 := Lib.hid (HO.out.trans (if_neg (by simp [he])))
              have f4 : splice leg0.arr 0 l.arr = l.arr := rfl
              rw [leg0_arr] at f4
              rw [he]
              clear he HO
              go_wp2
              refine bodyPost_ret (results_leg3 Tryz.results80 _ _ g l rfl (Blk.is_leg (x := l) (R6.set _))) rfl ?_
              exact Ret.parse HO2.out (below_setRow' B6 hg _)
            · have HO2 := Lib.hid (HO.out.trans (if_pos he))
              have he1 : (legCheck l == 0) = false := by simpa using he
              clear he HO
              generalize legCheck l = ec at he1 HO2 ⊢
              go_wp2
              refine bodyPost_ret (results_leg3 Tryz.results80 _ _ g leg0 rfl (is_leg0 R6)) rfl ?_
              have Bf := below_setRow' B6 hg leg0.arr
              rw [leg0_arr] at Bf
              exact Ret.parse HO2.out Bf
end Go.Proofs.YtjgondadpjildaaGreatDoor
