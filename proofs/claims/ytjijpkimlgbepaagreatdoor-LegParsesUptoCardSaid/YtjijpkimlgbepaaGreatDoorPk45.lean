/- What leg.Parse accepts is the text of the leg that it returns, in plain Lean. -/
import Derived.Test.YtjijpkimlgbepaaGreatDoorPk44
namespace Go.Proofs.YtjijpkimlgbepaaGreatDoor
open Go.RowKit Go.Sort
set_option linter.unusedVariables false
set_option linter.unusedSimpArgs false
theorem need_back {n : Nat} {x : PS} {f : Acc} (h1 : 1 ≤ x.col) (h : (x.need n f).bad = 0) : x.bad = 0 ∧ ∃ s, x.ws = s :: (x.need n f).ws ∧ (f s x.l).2 = true ∧ (x.need n f).l = (f s x.l).1 := by
  unfold PS.need at h ⊢
  by_cases hb : x.bad ≠ 0
  · rw [if_pos hb] at h; exact absurd h hb
  · rw [if_neg hb] at h ⊢
    match hw : x.ws with
    | [] => rw [hw] at h; simp only at h; omega
    | s :: r =>
      rw [hw] at h
      simp only at h ⊢
      by_cases ha : (f s x.l).2 = true
      · rw [if_pos ha]; exact ⟨by omega, s, rfl, ha, rfl⟩
      · rw [if_neg ha] at h; simp only at h; omega
theorem may_back {x : PS} {f : Acc} (h : (x.may f).bad = 0) : x.bad = 0 ∧ ((∃ s, x.ws = s :: (x.may f).ws ∧ (f s x.l).2 = true ∧ (x.may f).l = (f s x.l).1) ∨ (x.ws = (x.may f).ws ∧ ((x.may f).l = x.l ∨ ∃ s, (f s x.l).2 = false ∧ (x.may f).l = (f s x.l).1))) := by
  unfold PS.may at h ⊢
  by_cases hb : x.bad ≠ 0
  · rw [if_pos hb] at h; exact absurd h hb
  · rw [if_neg hb] at h ⊢
    match hw : x.ws with
    | [] => refine ⟨by omega, .inr ⟨?_, .inl rfl⟩⟩; simp only [hw]
    | s :: r =>
      rw [hw] at h
      simp only at h ⊢
      by_cases ha : (f s x.l).2 = true
      · rw [if_pos ha]; exact ⟨by omega, .inl ⟨s, rfl, ha, rfl⟩⟩
      · rw [if_neg ha]; refine ⟨by omega, .inr ⟨?_, .inr ⟨s, by simpa using ha, rfl⟩⟩⟩; simp only [hw]
theorem needIf_back {n : Nat} {x : PS} {f : Acc} {b : Bool} (h1 : 1 ≤ x.col) (h : (x.needIf b n f).bad = 0) : x.bad = 0 ∧ ((b = false ∧ x.needIf b n f = x) ∨ (b = true ∧ ∃ s, x.ws = s :: (x.needIf b n f).ws ∧ (f s x.l).2 = true ∧ (x.needIf b n f).l = (f s x.l).1)) := by
  cases b
  · exact ⟨h, .inl ⟨rfl, rfl⟩⟩
  · obtain ⟨a, s, c⟩ := need_back h1 h
    exact ⟨a, .inr ⟨rfl, s, c⟩⟩
/-- One wanted word: what it was, and which field it set. -/
theorem step_back {n : Nat} {x : PS} {f : Acc} {b : Bool} {α : Type} (get : Leg → α) (set : Leg → α → Leg) (txt : α → List UInt8) (hs : ∀ l, set l (get l) = l) (h1 : 1 ≤ x.col) (h : (x.needIf b n f).bad = 0)
    (hf : ∀ s l, (f s l).2 = true → ∃ v, (f s l).1 = set l v ∧ s = txt v) :
    x.bad = 0 ∧ ∃ v, x.ws = opt b (txt v) ++ (x.needIf b n f).ws ∧ (x.needIf b n f).l = set x.l v := by
  obtain ⟨h0, hc⟩ := needIf_back h1 h
  refine ⟨h0, ?_⟩
  rcases hc with ⟨rfl, e⟩ | ⟨rfl, s, e1, e2, e3⟩
  · exact ⟨get x.l, by rw [e]; rfl, by rw [e, hs]⟩
  · obtain ⟨v, v1, v2⟩ := hf s x.l e2
    exact ⟨v, by rw [e1, v2]; rfl, by rw [e3, v1]⟩
theorem acc_col {n : Nat} {x : PS} (h : x.Ok n) : 1 ≤ x.col := h.one
theorem fields_back {n : Nat} {t : Int} {x : PS} (hx : x.Ok n) (h : (x.fields t n).bad = 0) : x.bad = 0 ∧ ∃ fx ce tu co di ra th,
    x.ws = opt (uB t 1) fx ++ (opt (uB t 2) (64 :: ce) ++ (opt (uB t 4) (if tu = 1 then [76] else [82]) ++ (opt (uB t 16) (exactS (Int.toNat co)) ++ (opt (uB t 32) (100 :: distS (Int.toNat di)) ++ (opt (uB t 64) (114 :: distS (Int.toNat ra)) ++ (opt (uB t 128) (116 :: exactS (Int.toNat th)) ++ (x.fields t n).ws)))))) ∧
    (x.fields t n).l = { x.l with fix := fx, center := ce, turn := tu, course := co, dist := di, radius := ra, theta := th } := by
  unfold PS.fields at h ⊢
  have o1 := hx.needIf (uB t 1) (accFix_ok n)
  have o2 := o1.needIf (uB t 2) (accCenter_ok n)
  have o3 := o2.needIf (uB t 4) (accTurn_ok n)
  have o4 := o3.needIf (uB t 16) (accCourse_ok n)
  have o5 := o4.needIf (uB t 32) (accDist_ok n)
  have o6 := o5.needIf (uB t 64) (accRadius_ok n)
  obtain ⟨b7, th, w7, l7⟩ := step_back (·.theta) (fun l v => { l with theta := v }) (fun v => 116 :: exactS (Int.toNat v)) (fun _ => rfl) o6.one h (fun s l e => by
    unfold accTheta at e ⊢
    split at e
    · cases e
    · rename_i c r
      by_cases hc : c = 116
      · rw [if_pos hc] at e
        have := courseS_back e
        exact ⟨(courseS r).1, by simp only [hc, if_true], by rw [hc, this.2.2]⟩
      · rw [if_neg hc] at e; cases e)
  obtain ⟨b6, ra, w6, l6⟩ := step_back (·.radius) (fun l v => { l with radius := v }) (fun v => 114 :: distS (Int.toNat v)) (fun _ => rfl) o5.one b7 (fun s l e => ⟨_, rfl, (legDist_back e).2⟩)
  obtain ⟨b5, di, w5, l5⟩ := step_back (·.dist) (fun l v => { l with dist := v }) (fun v => 100 :: distS (Int.toNat v)) (fun _ => rfl) o4.one b6 (fun s l e => ⟨_, rfl, (legDist_back e).2⟩)
  obtain ⟨b4, co, w4, l4⟩ := step_back (·.course) (fun l v => { l with course := v }) (fun v => exactS (Int.toNat v)) (fun _ => rfl) o3.one b5 (fun s l e => ⟨_, rfl, (courseS_back e).2.2.symm⟩)
  obtain ⟨b3, tu, w3, l3⟩ := step_back (·.turn) (fun l v => { l with turn := v }) (fun v => if v = 1 then [76] else [82]) (fun _ => rfl) o2.one b4 (fun s l e => by
    refine ⟨_, rfl, ?_⟩
    unfold accTurn at e
    simp only [Bool.or_eq_true, beq_iff_eq] at e
    rcases e with e | e <;> rw [e] <;> rfl)
  obtain ⟨b2, ce, w2, l2⟩ := step_back (·.center) (fun l v => { l with center := v }) (fun v => 64 :: v) (fun _ => rfl) o1.one b3 (fun s l e => by
    refine ⟨_, rfl, ?_⟩
    unfold accCenter at e
    simp only [Bool.and_eq_true] at e
    have h2 := e.1
    unfold cutPre at h2 ⊢
    split at h2
    · rename_i c r
      by_cases hc : c = 64
      · simp only [hc, if_true]
      · rw [if_neg hc] at h2; cases h2
    · cases h2)
  obtain ⟨b1, fx, w1, l1⟩ := step_back (·.fix) (fun l v => { l with fix := v }) (fun v => v) (fun _ => rfl) hx.one b2 (fun s l e => ⟨s, rfl, rfl⟩)
  refine ⟨b1, fx, ce, tu, co, di, ra, th, ?_, ?_⟩
  · rw [w1, w2, w3, w4, w5, w6, w7]
  · rw [l7, l6, l5, l4, l3, l2, l1]
/-- One word that may stand. -/
theorem may_step {x : PS} {f : Acc} {α : Type} (get : Leg → α) (set : Leg → α → Leg) (txt : α → List UInt8) (has : α → Bool) (hs : ∀ l, set l (get l) = l) (d : α) (hd : has d = false) (hg : get x.l = d) (h : (x.may f).bad = 0)
    (hf : ∀ s l, (f s l).2 = true → ∃ v, (f s l).1 = set l v ∧ s = txt v ∧ has v = true) (hn : ∀ s l, get l = d → (f s l).2 = false → (f s l).1 = l) :
    x.bad = 0 ∧ ∃ v, x.ws = opt (has v) (txt v) ++ (x.may f).ws ∧ (x.may f).l = set x.l v := by
  obtain ⟨h0, hc⟩ := may_back h
  refine ⟨h0, ?_⟩
  rcases hc with ⟨s, e1, e2, e3⟩ | ⟨e1, e2⟩
  · obtain ⟨v, v1, v2, v3⟩ := hf s x.l e2
    exact ⟨v, by rw [e1, v2, v3]; rfl, by rw [e3, v1]⟩
  · refine ⟨d, by rw [hd, e1]; rfl, ?_⟩
    rw [← hg, hs]
    rcases e2 with e2 | ⟨s, e2, e3⟩
    · exact e2
    · rw [e3]; exact hn s x.l hg e2
theorem options_back {x : PS} (ho : x.l.over = false) (hw : x.l.lo = -200000 ∧ x.l.hi = 6000000) (hs : x.l.speed = 0) (hr : x.l.rnp = 0) (h : x.options.bad = 0) : x.bad = 0 ∧ ∃ o lo hi sp rn,
    x.ws = opt o [111, 118, 101, 114] ++ (opt (lo != -200000 || hi != 6000000) (winS lo hi) ++ (opt (sp != 0) (115 :: Lib.decDigits (Int.toNat sp)) ++ (opt (rn != 0) (110 :: distS (Int.toNat rn)) ++ x.options.ws))) ∧
    x.options.l = { x.l with over := o, lo := lo, hi := hi, speed := sp, rnp := rn } := by
  unfold PS.options at h ⊢
  have back4 := may_back h
  have back3 := may_back back4.1
  have back2 := may_back back3.1
  obtain ⟨b1, o, w1, l1⟩ := may_step (x := x) (f := accOver) (·.over) (fun l v => { l with over := v }) (fun _ => [111, 118, 101, 114]) (fun v => v) (fun _ => rfl) false rfl ho back2.1
    (fun s l e => by
      unfold accOver at e ⊢
      simp only at e ⊢
      exact ⟨true, by rw [e], by simpa using e, rfl⟩)
    (fun s l e0 e => by
      unfold accOver at e ⊢
      simp only at e ⊢
      rw [e, ← e0])
  obtain ⟨b2, ⟨lo, hi⟩, w2, l2⟩ := may_step (x := x.may accOver) (f := accWin) (fun l => (l.lo, l.hi)) (fun l v => { l with lo := v.1, hi := v.2 }) (fun v => winS v.1 v.2) (fun v => v.1 != -200000 || v.2 != 6000000) (fun _ => rfl) (-200000, 6000000) rfl
    (by rw [l1]; simp only [hw.1, hw.2]) back3.1
    (fun s l e => by
      unfold accWin at e ⊢
      by_cases ht : winTaken s = true
      · rw [if_pos ht]
        obtain ⟨_, k2, k3⟩ := win_back ht
        refine ⟨((parseWinS s).1.1, (parseWinS s).1.2), rfl, k2.symm, ?_⟩
        simp only [Bool.or_eq_true, bne_iff_ne, ne_eq]
        rcases Int.decEq (parseWinS s).1.1 (-200000) with h1 | h1
        · exact .inl h1
        · exact .inr fun h2 => k3 ⟨h1, h2⟩
      · rw [if_neg ht] at e; cases e)
    (fun s l e0 e => by
      unfold accWin at e ⊢
      by_cases ht : winTaken s = true
      · rw [if_pos ht] at e; cases e
      · rw [if_neg ht])
  obtain ⟨b3, sp, w3, l3⟩ := may_step (x := (x.may accOver).may accWin) (f := accSpeed) (·.speed) (fun l v => { l with speed := v }) (fun v => 115 :: Lib.decDigits (Int.toNat v)) (fun v => v != 0) (fun _ => rfl) 0 rfl
    (by rw [l2, l1]; exact hs) back4.1
    (fun s l e => by
      unfold accSpeed at e ⊢
      by_cases ht : (speedS s).2 = true
      · rw [if_pos ht]
        obtain ⟨k1, k2⟩ := speed_back ht
        exact ⟨_, rfl, k2, by simp; omega⟩
      · rw [if_neg ht] at e; cases e)
    (fun s l e0 e => by
      unfold accSpeed at e ⊢
      by_cases ht : (speedS s).2 = true
      · rw [if_pos ht] at e; cases e
      · rw [if_neg ht])
  obtain ⟨b4, rn, w4, l4⟩ := may_step (x := ((x.may accOver).may accWin).may accSpeed) (f := accRnp) (·.rnp) (fun l v => { l with rnp := v }) (fun v => 110 :: distS (Int.toNat v)) (fun v => v != 0) (fun _ => rfl) 0 rfl
    (by rw [l3, l2, l1]; exact hr) h
    (fun s l e => by
      unfold accRnp at e ⊢
      by_cases ht : (legDistS 110 s).2 = true
      · rw [if_pos ht]
        obtain ⟨k1, k2⟩ := legDist_back ht
        exact ⟨_, rfl, k2, by simp; omega⟩
      · rw [if_neg ht] at e; cases e)
    (fun s l e0 e => by
      unfold accRnp at e ⊢
      by_cases ht : (legDistS 110 s).2 = true
      · rw [if_pos ht] at e; cases e
      · rw [if_neg ht])
  refine ⟨b1, o, lo, hi, sp, rn, ?_, ?_⟩
  · rw [w1, w2, w3, w4]
  · rw [l4, l3, l2, l1]
theorem begin_back {s : List UInt8} (h : (PS.begin s).bad = 0) : ∃ t, knownB t = true ∧ words s = nameOf t :: (PS.begin s).ws ∧ (PS.begin s).l = { legOpen with ty := t } := by
  unfold PS.begin at h ⊢
  obtain ⟨_, w, e1, e2, e3⟩ := need_back (by simp) h
  have h2 : typeK w 0 18 ≠ 0 := by
    have h3 : (typeK w 0 18 != 0) = true := e2
    simpa using h3
  obtain ⟨k1, k2⟩ := typeK_back w 18 (by omega) h2
  exact ⟨typeK w 0 18, k1, by rw [k2]; exact e1, e3⟩
theorem begin_ok (s : List UInt8) : (PS.begin s).Ok s.length := by
  unfold PS.begin
  exact (PS.begin0_ok s).need (accName_ok _)
theorem fields_ok {n : Nat} {x : PS} (t : Int) (h : x.Ok n) : (x.fields t n).Ok n := by
  unfold PS.fields
  exact ((((((h.needIf _ (accFix_ok n)).needIf _ (accCenter_ok n)).needIf _ (accTurn_ok n)).needIf _ (accCourse_ok n)).needIf _ (accDist_ok n)).needIf _ (accRadius_ok n)).needIf _ (accTheta_ok n)
theorem last_ok (s : List UInt8) : (PS.last s).Ok s.length := by
  unfold PS.last PS.options
  exact ((((fields_ok _ (begin_ok s)).may (accOver_ok _)).may (accWin_ok _)).may (accSpeed_ok _)).may (accRnp_ok _)
/-- The three cases of a reading. -/
theorem parse_cases (s : List UInt8) : (∃ c, parseS s = (leg0, c, 4) ∧ c ≠ 0) ∨ (∃ e, parseS s = (leg0, 0, e) ∧ e ≠ 0) ∨ (legCheck (parseS s).1 = 0 ∧ textS (parseS s).1 = s ∧ parseS s = ((parseS s).1, 0, 0) ∧ (parseS s).1.fix.length ≤ s.length ∧ (parseS s).1.center.length ≤ s.length) := by
  have hk := last_ok s
  unfold parseS PS.done
  by_cases hb : (PS.last s).badAt ≠ 0
  · left; rw [if_pos hb]; exact ⟨_, rfl, hb⟩
  · rw [if_neg hb]
    by_cases hc : legCheck (PS.last s).l ≠ 0
    · right; left; rw [if_pos hc]; exact ⟨_, rfl, hc⟩
    · right; right
      rw [if_neg hc]
      have hc0 : legCheck (PS.last s).l = 0 := by omega
      have h1 := hk.one
      have hws : (PS.last s).ws = [] ∧ (PS.last s).bad = 0 := by
        unfold PS.badAt at hb
        by_cases hq : (PS.last s).ws ≠ [] ∧ (PS.last s).bad = 0
        · rw [if_pos hq] at hb; omega
        · rw [if_neg hq] at hb
          have h0 : (PS.last s).bad = 0 := by omega
          refine ⟨?_, h0⟩
          cases hw : (PS.last s).ws with
          | nil => rfl
          | cons a r => exact absurd ⟨by rw [hw]; simp, h0⟩ hq
      refine ⟨hc0, ?_, rfl, hk.fix, hk.center⟩
      have hws2 := hws
      unfold PS.last at hws2
      have ob := begin_ok s
      have bo : ∀ x : PS, x.options.bad = 0 → x.bad = 0 := fun x h => by
        unfold PS.options at h
        exact (may_back (may_back (may_back (may_back h).1).1).1).1
      have bb := (fields_back ob (bo _ hws2.2)).1
      obtain ⟨t, kt, wb, lb⟩ := begin_back bb
      have ot : (PS.begin s).l.ty = t := by rw [lb]
      rw [ot] at hws2
      obtain ⟨_, fx, ce, tu, co, di, ra, th, wf, lf⟩ := fields_back ob (bo _ hws2.2)
      rw [lb] at lf
      obtain ⟨_, o, lo, hi, sp, rn, wo, lo'⟩ := options_back (x := (PS.begin s).fields t s.length) (by rw [lf]; rfl) (by rw [lf]; exact ⟨rfl, rfl⟩) (by rw [lf]; rfl) (by rw [lf]; rfl) hws2.2
      have hl : (PS.last s).l = ⟨t, fx, ce, tu, o, co, di, ra, th, lo, hi, sp, rn⟩ := by
        unfold PS.last
        rw [ot, lo', lf]
      have hj : s = Lib.join (words s) [32] := (join_words s).symm
      refine Eq.trans ?_ hj.symm
      rw [textS_eq hc0, hl, wb, wf, wo, hws2.1]
      congr 1
      simp only [legWords, winB, txOf, List.append_assoc, List.append_nil, List.singleton_append, List.cons_append, List.nil_append]
end Go.Proofs.YtjijpkimlgbepaaGreatDoor
