/- The plain laws of Join: a joined list is joined to itself, is valid, keeps its legs. No program in sight. -/
import Derived.Test.YtcgmemkkcaipfaaGreatDoorPk12
import Derived.Test.YtcgmemkkcaipfaaGreatDoorPk23
namespace Go.Proofs.YtcgmemkkcaipfaaGreatDoor
open Go.RowKit
set_option linter.unusedVariables false
set_option linter.unusedSimpArgs false
/-- A list whose legs join one another, as Join builds it. -/
inductive ChainR : List Entry → Prop
  | nil : ChainR []
  | first (x : Entry) : x.gap = false → startsB x.leg.ty = true → ChainR [x]
  | join (p : List Entry) (y x : Entry) : ChainR p → p.getLast? = some y → x.gap = false → y.leg.joinsB x.leg = true → y.leg.dupB x.leg = false → ChainR (p ++ [x])
  | gap (p : List Entry) (x : Entry) : ChainR p → p ≠ [] → x.gap = false → startsB x.leg.ty = true → ChainR (p ++ [gapE, x])
theorem ChainR.last {p : List Entry} (h : ChainR p) : ∀ y, p.getLast? = some y → y.gap = false := by
  intro y hy
  cases h with
  | nil => simp at hy
  | first x hx _ => obtain rfl : x = y := by simpa using hy
                    exact hx
  | join p z x _ _ hx _ _ => obtain rfl : x = y := by simpa using hy
                             exact hx
  | gap p x _ _ hx _ => obtain rfl : x = y := by simpa using hy
                        exact hx
theorem joins_ne1 {a b : Leg} (h : a.joinsB b = true) : (b.ty == 1) = false := by
  simp only [Leg.joinsB, followsB, Bool.and_eq_true] at h
  simpa [bne] using h.1.1.2
theorem skip_dup {a b : Leg} (h : a.joinsB b = true) : (a.arrivedB b && skipB b.ty) = a.dupB b := by
  have := joins_ne1 h
  simp [skipB, Leg.dupB, tdB, this, Bool.and_comm]
def joinSt (st : List Entry × Bool) (x : Entry) : List Entry × Bool := joinStep st.1 st.2 x
theorem joinGo_foldl : ∀ (r : List Entry) (out : List Entry) (pb : Bool), joinGo out pb r = (r.foldl joinSt (out, pb)).1
  | [], _, _ => rfl
  | x :: r, out, pb => by rw [joinGo, joinGo_foldl r]; rfl
theorem ne_last {p : List Entry} (h : p ≠ []) : ∃ y, p.getLast? = some y := ⟨_, List.getLast?_eq_some_getLast h⟩
theorem startOf_starts {x : Entry} (h : startsB x.leg.ty = true) : startOf x = (x, true) := by simp [startOf, h]
theorem ChainR.fold {m : List Entry} (h : ChainR m) : m.foldl joinSt ([], false) = (m, false) := by
  induction h with
  | nil => rfl
  | first x hg hs => simp [joinSt, joinStep, hg, joinNew, startOf_starts hs]
  | join p y x hp hy hg hj hd ih =>
    rw [List.foldl_append, ih]
    simp only [List.foldl_cons, List.foldl_nil, joinSt, joinStep, hg, hy, skip_dup hj, hd, hj]
    rfl
  | gap p x hp hne hg hs ih =>
    obtain ⟨y, hy⟩ := ne_last hne
    rw [List.foldl_append, ih]
    simp only [List.foldl_cons, List.foldl_nil, joinSt]
    have h1 : joinStep p false gapE = (p, true) := rfl
    rw [h1]
    simp only [joinStep, hg, hy, joinNew, startOf_starts hs]
    simp [hne]
theorem ChainR.again {m : List Entry} (h : ChainR m) : joinE m = m := by rw [joinE, joinGo_foldl, h.fold]
theorem startOf_ok {x : Entry} (h : (startOf x).2 = true) : (startOf x).1.gap = x.gap ∧ startsB (startOf x).1.leg.ty = true := by
  unfold startOf at h ⊢
  split
  · rename_i h1; exact ⟨rfl, h1⟩
  · rename_i h1
    split
    · exact ⟨rfl, rfl⟩
    · rename_i h2; simp [h1, h2] at h
theorem ChainR.new {out : List Entry} (h : ChainR out) (pb : Bool) (x : Entry) (hg : x.gap = false) : ChainR (joinNew out pb x).1 := by
  unfold joinNew
  split
  · rename_i hs
    obtain ⟨h1, h2⟩ := startOf_ok hs
    rw [hg] at h1
    by_cases ho : out = []
    · subst ho; exact .first _ h1 h2
    · have he : out.isEmpty = false := by simpa using ho
      simp only [he, Bool.false_eq_true, if_false, List.append_assoc]
      exact .gap _ _ h ho h1 h2
  · exact h
theorem ChainR.step {out : List Entry} (h : ChainR out) (pb : Bool) (x : Entry) : ChainR (joinStep out pb x).1 := by
  unfold joinStep
  split
  · exact h
  · rename_i hg
    have hg : x.gap = false := by simpa using hg
    split
    · exact h.new pb x hg
    · rename_i y hy
      split
      · exact h.new pb x hg
      · split
        · exact h
        · rename_i hs
          split
          · rename_i hj
            have hs : (y.leg.arrivedB x.leg && skipB x.leg.ty) = false := by simpa using hs
            exact .join _ _ _ h hy hg hj (by rw [← skip_dup hj]; exact hs)
          · exact h.new pb x hg
theorem joinGo_chain : ∀ (r out : List Entry) (pb : Bool), ChainR out → ChainR (joinGo out pb r)
  | [], _, _, h => h
  | x :: r, out, pb, h => joinGo_chain r _ _ (h.step pb x)
theorem joinE_chain (l : List Entry) : ChainR (joinE l) := joinGo_chain l [] false .nil
/-- Joining a joined list changes nothing. -/
theorem joinE_again (l : List Entry) : joinE (joinE l) = joinE l := (joinE_chain l).again
theorem orE_zeroJ {a b : Int} (h : orE a b = 0) : a = 0 ∧ b = 0 := by grind [orE]
theorem orderE_some {y x : Entry} (hy : y.gap = false) (h : orderE (some y) x = 0) : y.leg.joinsB x.leg = true ∧ y.leg.dupB x.leg = false := by
  simp only [orderE, hy, Bool.false_eq_true, if_false] at h
  split at h
  · rename_i hj
    split at h
    · simp at h
    · rename_i hd
      exact ⟨hj, by simpa [Leg.dupB, tdB] using hd⟩
  · simp at h
theorem check_chain : ∀ (r p : List Entry) (s : Int), ChainR p → checkGo p.getLast? s r = 0 → ChainR (p ++ r)
  | [], p, s, h, _ => by simpa using h
  | [x], p, s, h, hc => by
    simp only [checkGo] at hc
    have hc := (orE_zeroJ hc).1
    unfold stepE at hc
    split at hc
    · split at hc
      · cases hp : p.getLast? <;> simp [hp, gapOrdE] at hc
      · simp at hc
    · rename_i hg
      have hg : x.gap = false := by simpa using hg
      have ho := (orE_zeroJ (orE_zeroJ hc).2).1
      cases hp : p.getLast? with
      | none =>
        obtain rfl : p = [] := by simpa using hp
        simp only [hp, orderE] at ho
        split at ho
        · rename_i hs; exact .first x hg hs
        · simp at ho
      | some y =>
        rw [hp] at ho
        obtain ⟨h1, h2⟩ := orderE_some (h.last y hp) ho
        exact .join p y x h hp hg h1 h2
  | x :: z :: r, p, s, h, hc => by
    simp only [checkGo] at hc
    obtain ⟨hc, hr⟩ := orE_zeroJ hc
    unfold stepE at hc
    split at hc
    · rename_i hg
      split at hc
      · rename_i he
        have he : x = gapE := (Entry.eqB_iff _ _).1 he
        cases hp : p.getLast? with
        | none => simp [hp, gapOrdE] at hc
        | some y =>
          have hne : p ≠ [] := by rintro rfl; simp at hp
          simp only [hg, if_true] at hr
          obtain ⟨hz, hr⟩ := orE_zeroJ hr
          unfold stepE at hz
          split at hz
          · split at hz
            · simp [gapOrdE, hg] at hz
            · simp at hz
          · rename_i hgz
            have hgz : z.gap = false := by simpa using hgz
            have ho := (orE_zeroJ (orE_zeroJ hz).2).1
            simp only [orderE, hg, if_true] at ho
            split at ho
            · rename_i hs
              have := check_chain r (p ++ [gapE, z]) _ (.gap p z h hne hgz hs) (by simpa using hr)
              subst he
              simpa using this
            · simp at ho
      · simp at hc
    · rename_i hg
      have hg : x.gap = false := by simpa using hg
      have ho := (orE_zeroJ (orE_zeroJ hc).2).1
      have hx : ChainR (p ++ [x]) := by
        cases hp : p.getLast? with
        | none =>
          obtain rfl : p = [] := by simpa using hp
          simp only [hp, orderE] at ho
          split at ho
          · rename_i hs; exact .first x hg hs
          · simp at ho
        | some y =>
          rw [hp] at ho
          obtain ⟨h1, h2⟩ := orderE_some (h.last y hp) ho
          exact .join p y x h hp hg h1 h2
      have := check_chain (z :: r) (p ++ [x]) _ hx (by simpa [checkGo] using hr)
      simpa using this
/-- Joining the entries of a valid plan changes nothing. -/
theorem joinE_valid (l : List Entry) (h : checkGo none 0 l = 0) : joinE l = l := (check_chain l [] 0 .nil (by simpa using h)).again

/-- A chain whose legs are valid and whose sections are in order; s is the section of the last. -/
inductive ChainV : List Entry → Int → Prop
  | nil : ChainV [] 0
  | first (x : Entry) : x.gap = false → startsB x.leg.ty = true → aloneE x = 0 → 0 ≤ x.sec → ChainV [x] x.sec
  | join (p : List Entry) (s : Int) (y x : Entry) : ChainV p s → p.getLast? = some y → y.gap = false → x.gap = false → y.leg.joinsB x.leg = true → y.leg.dupB x.leg = false → aloneE x = 0 → s ≤ x.sec → ChainV (p ++ [x]) x.sec
  | gap (p : List Entry) (s : Int) (y x : Entry) : ChainV p s → p.getLast? = some y → y.gap = false → x.gap = false → startsB x.leg.ty = true → aloneE x = 0 → s ≤ x.sec → ChainV (p ++ [gapE, x]) x.sec
theorem step_ok {prev : Option Entry} {s : Int} {b : Bool} {x : Entry} (hg : x.gap = false) (ha : aloneE x = 0) (ho : orderE prev x = 0) (hs : s ≤ x.sec) : stepE prev s b x = 0 := by
  have : ¬ x.sec < s := by omega
  simp [stepE, hg, ha, ho, this, orE]
theorem checkGo_cons {prev : Option Entry} {s : Int} {x : Entry} {r : List Entry} (hg : x.gap = false) (h : stepE prev s r.isEmpty x = 0) (hr : checkGo (some x) x.sec r = 0) : checkGo prev s (x :: r) = 0 := by
  rw [checkGo, h, hg]; simp [orE, hr]
theorem ChainV.check {p : List Entry} {s : Int} (h : ChainV p s) : ∀ r, checkGo p.getLast? s r = 0 → checkGo none 0 (p ++ r) = 0 := by
  induction h with
  | nil => intro r hr; simpa using hr
  | first x hg hs ha h0 =>
    intro r hr
    exact checkGo_cons hg (step_ok hg ha (by simp [orderE, hs]) h0) (by simpa using hr)
  | join p s y x hp hy hyg hg hj hd ha hs ih =>
    intro r hr
    rw [List.append_assoc]
    refine ih _ ?_
    rw [hy]
    refine checkGo_cons hg (step_ok hg ha ?_ hs) (by simpa using hr)
    have hd' : ((x.leg.ty == 2 || x.leg.ty == 4) && y.leg.arrivedB x.leg) = false := hd
    simp only [orderE, hyg, hj, hd']; rfl
  | gap p s y x hp hy hyg hg hst ha hs ih =>
    intro r hr
    rw [List.append_assoc]
    refine ih _ ?_
    rw [hy]
    have h1 : stepE (some y) s false gapE = 0 := by
      have e1 : gapE.eqB gapE = true := (Entry.eqB_iff _ _).2 rfl
      have e2 : gapE.gap = true := rfl
      simp [stepE, e1, e2, gapOrdE, hyg]
    have h2 : checkGo (some gapE) s (x :: r) = 0 := checkGo_cons hg (step_ok hg ha (by simp [orderE, show gapE.gap = true from rfl, hst]) hs) (by simpa using hr)
    show checkGo (some y) s (gapE :: x :: r) = 0
    have e : checkGo (some y) s (gapE :: x :: r) = orE (stepE (some y) s false gapE) (checkGo (some gapE) s (x :: r)) := rfl
    rw [e, h1, h2]; rfl
theorem ChainV.ok {p : List Entry} {s : Int} (h : ChainV p s) : checkGo none 0 p = 0 := by simpa using h.check [] rfl
/-- Single valid legs with sections in order, from the section s on. -/
def singles : Int → List Entry → Bool
  | _, [] => true
  | s, x :: r => if x.gap then singles s r else if aloneE x != 0 || decide (x.sec < s) then false else singles x.sec r
theorem able_uses {t : Int} (h : startAble t = true) : uB t 1 = true := by
  simp only [startAble, Bool.or_eq_true, beq_iff_eq] at h
  rcases h with (h | h) | h <;> subst h <;> decide
theorem able_climbs {t : Int} (h : startAble t = true) : climbsB t = false := by
  simp only [startAble, Bool.or_eq_true, beq_iff_eq] at h
  rcases h with (h | h) | h <;> subst h <;> decide
theorem able_known {t : Int} (h : startAble t = true) : knownB t = true := by
  simp only [startAble, Bool.or_eq_true, beq_iff_eq] at h
  rcases h with (h | h) | h <;> subst h <;> decide
theorem start_alone {x : Entry} (hg : x.gap = false) (ha : aloneE x = 0) (ht : startAble x.leg.ty = true) : aloneE (startForm x) = 0 := by
  obtain ⟨h1, h2⟩ := orE_zeroJ ha
  have hk := able_known ht
  have hu := able_uses ht
  have hc := able_climbs ht
  simp only [legCheck, hk, hu, if_true] at h1
  obtain ⟨f1, h1⟩ := orE_zeroJ h1
  obtain ⟨_, h1⟩ := orE_zeroJ h1
  obtain ⟨_, h1⟩ := orE_zeroJ h1
  obtain ⟨_, h1⟩ := orE_zeroJ h1
  obtain ⟨_, h1⟩ := orE_zeroJ h1
  obtain ⟨_, h1⟩ := orE_zeroJ h1
  obtain ⟨_, h1⟩ := orE_zeroJ h1
  obtain ⟨_, h1⟩ := orE_zeroJ h1
  have u1 : uB 1 1 = true := by decide
  have u2 : uB 1 2 = false := by decide
  have u3 : uB 1 4 = false := by decide
  have u5 : uB 1 16 = false := by decide
  have u6 : uB 1 32 = false := by decide
  have u7 : uB 1 64 = false := by decide
  have u8 : uB 1 128 = false := by decide
  have hl : limitsE (startForm x).leg = 0 := by
    have e1 : (startForm x).leg.lo = x.leg.lo := rfl
    have e2 : (startForm x).leg.hi = x.leg.hi := rfl
    have e3 : (startForm x).leg.speed = x.leg.speed := rfl
    have e4 : (startForm x).leg.rnp = x.leg.rnp := rfl
    have e5 : climbsB (startForm x).leg.ty = false := rfl
    unfold limitsE at h1 ⊢
    rw [e1, e2, e3, e4, e5]
    rw [hc] at h1
    exact h1
  have hleg : legCheck (startForm x).leg = 0 := by
    have e0 : (startForm x).leg.ty = 1 := rfl
    have e1 : (startForm x).leg.fix = x.leg.fix := rfl
    have k1 : knownB 1 = true := by decide
    simp only [legCheck, legC2, legC3, legC4, e0, e1, k1, u1, u2, u3, u5, u6, u7, u8, f1, hl, if_true]
    rfl
  have ha2 : alone2 (startForm x) = 0 := by
    have p0 : pointB 0 0 = true := by decide
    unfold alone2 at h2 ⊢
    have e1 : (startForm x).sec = x.sec := rfl
    have e2 : (startForm x).via = x.via := rfl
    have e3 : pointB (startForm x).ex (startForm x).ey = pointB x.ex x.ey := rfl
    have e4 : pointB (startForm x).mx (startForm x).my = true := p0
    have e5 : placedB (startForm x) = (x.leg.fix.isEmpty && !(x.ex == 0 && x.ey == 0)) := by simp [placedB, startForm]
    rw [e1, e2, e3, e4, e5]
    split at h2
    · simp at h2
    · split at h2
      · simp at h2
      · split at h2
        · simp at h2
        · split at h2
          · simp at h2
          · rename_i a b c d
            have hc : pointB x.ex x.ey = true := by
              cases hh : pointB x.ex x.ey
              · simp [hh] at c
              · rfl
            have hd : (x.leg.fix.isEmpty && !(x.ex == 0 && x.ey == 0)) = false := by
              cases hh : (x.leg.fix.isEmpty && !(x.ex == 0 && x.ey == 0))
              · rfl
              · exact absurd (show placedB x = true by rw [placedB, hh]; rfl) d
            rw [if_neg a, if_neg b, hc, hd]
            rfl
  rw [aloneE, hleg, ha2]; rfl
theorem startOf_alone {x : Entry} (hg : x.gap = false) (ha : aloneE x = 0) (h : (startOf x).2 = true) : aloneE (startOf x).1 = 0 ∧ (startOf x).1.sec = x.sec := by
  unfold startOf at h ⊢
  split
  · exact ⟨ha, rfl⟩
  · rename_i h1
    split
    · rename_i h2; exact ⟨start_alone hg ha h2, rfl⟩
    · rename_i h2; simp [h1, h2] at h
theorem ChainV.last {p : List Entry} {s : Int} (h : ChainV p s) : ∀ y, p.getLast? = some y → y.gap = false := by
  intro y hy
  cases h with
  | nil => simp at hy
  | first x hx => obtain rfl : x = y := by simpa using hy
                  exact hx
  | join p s z x _ _ _ hx => obtain rfl : x = y := by simpa using hy
                             exact hx
  | gap p s z x _ _ _ hx => obtain rfl : x = y := by simpa using hy
                            exact hx
theorem ChainV.new {out : List Entry} {s t : Int} (h : ChainV out s) (hst : s ≤ t) (ht : 0 ≤ t) (pb : Bool) (x : Entry) (hg : x.gap = false) (ha : aloneE x = 0) (hx : t ≤ x.sec) : ∃ s', ChainV (joinNew out pb x).1 s' ∧ s' ≤ x.sec := by
  unfold joinNew
  split
  · rename_i hs
    obtain ⟨h1, h2⟩ := startOf_ok hs
    rw [hg] at h1
    obtain ⟨h3, h4⟩ := startOf_alone hg ha hs
    refine ⟨x.sec, ?_, Int.le_refl _⟩
    by_cases ho : out = []
    · subst ho
      have := ChainV.first _ h1 h2 h3 (by omega)
      rw [h4] at this; exact this
    · have he : out.isEmpty = false := by simpa using ho
      obtain ⟨y, hy⟩ := ne_last ho
      simp only [he, Bool.false_eq_true, if_false, List.append_assoc]
      have := ChainV.gap out s y _ h hy (h.last y hy) h1 h2 h3 (by omega)
      rw [h4] at this; exact this
  · exact ⟨s, h, by omega⟩
theorem ChainV.step {out : List Entry} {s t : Int} (h : ChainV out s) (hst : s ≤ t) (ht : 0 ≤ t) (pb : Bool) (x : Entry) (hg : x.gap = false) (ha : aloneE x = 0) (hx : t ≤ x.sec) : ∃ s', ChainV (joinStep out pb x).1 s' ∧ s' ≤ x.sec := by
  unfold joinStep
  rw [hg]
  simp only [Bool.false_eq_true, if_false]
  split
  · exact h.new hst ht pb x hg ha hx
  · rename_i y hy
    split
    · exact h.new hst ht pb x hg ha hx
    · split
      · exact ⟨s, h, by omega⟩
      · rename_i hs
        split
        · rename_i hj
          have hs : (y.leg.arrivedB x.leg && skipB x.leg.ty) = false := by simpa using hs
          exact ⟨x.sec, .join _ s y x h hy (h.last y hy) hg hj (by rw [← skip_dup hj]; exact hs) ha (by omega), Int.le_refl _⟩
        · exact h.new hst ht pb x hg ha hx
theorem joinGo_valid : ∀ (r out : List Entry) (pb : Bool) (s t : Int), ChainV out s → s ≤ t → 0 ≤ t → singles t r = true → ∃ s', ChainV (joinGo out pb r) s'
  | [], _, _, s, _, h, _, _, _ => ⟨s, h⟩
  | x :: r, out, pb, s, t, h, hst, ht, hv => by
    unfold singles at hv
    unfold joinGo
    split at hv
    · rename_i hg
      have e : joinStep out pb x = (out, true) := by simp [joinStep, hg]
      rw [e]
      exact joinGo_valid r out true s t h hst ht hv
    · rename_i hg
      have hg : x.gap = false := by simpa using hg
      split at hv
      · simp at hv
      · rename_i hc
        have ha : aloneE x = 0 := by
          cases hh : (aloneE x != 0)
          · simpa using hh
          · simp [hh] at hc
        have hx : t ≤ x.sec := by
          rcases Int.lt_or_le x.sec t with hh | hh
          · simp [hh] at hc
          · exact hh
        obtain ⟨s', h1, h2⟩ := h.step hst ht pb x hg ha hx
        exact joinGo_valid r _ _ s' x.sec h1 h2 (by omega) hv
/-- The joined entries of single valid legs with sections in order are valid. -/
theorem joinE_singles {l : List Entry} (h : singles 0 l = true) : checkGo none 0 (joinE l) = 0 := by
  obtain ⟨s, hs⟩ := joinGo_valid l [] false 0 0 .nil (Int.le_refl _) (Int.le_refl _) h
  exact hs.ok

/-- Whether the leg y of a joined list may come of the entry x. -/
def comesB (x y : Entry) : Bool := !x.gap && (x.eqB y || (y.leg.ty == 1 && decide (x.leg.fix = y.leg.fix) && (decide (x.ex = y.ex) && decide (x.ey = y.ey))))
def keepsGo : List Entry → List Entry → Bool
  | _, [] => true
  | [], y :: m => if y.gap then keepsGo [] m else false
  | x :: l, y :: m => if y.gap then keepsGo (x :: l) m else if comesB x y then keepsGo l m else keepsGo l (y :: m)
termination_by l m => l.length + m.length
inductive Emb : List Entry → List Entry → Prop
  | nil (l : List Entry) : Emb l []
  | gap (l m : List Entry) (y : Entry) : y.gap = true → Emb l m → Emb l (y :: m)
  | skip (l m : List Entry) (x : Entry) : Emb l m → Emb (x :: l) m
  | take (l m : List Entry) (x y : Entry) : comesB x y = true → y.gap = false → Emb l m → Emb (x :: l) (y :: m)
theorem Emb.tail {l m : List Entry} {y : Entry} (h : Emb l (y :: m)) : Emb l m := by
  generalize hq : y :: m = q at h
  induction h with
  | nil => cases hq
  | gap l m z hz h ih => injection hq with _ h2; subst h2; exact h
  | skip l m x h ih => exact .skip _ _ _ (ih hq)
  | take l m x z hc hz h ih => injection hq with _ h2; subst h2; exact .skip _ _ _ h
theorem Emb.keeps : ∀ (l m : List Entry), Emb l m → keepsGo l m = true
  | l, [], _ => by unfold keepsGo; rfl
  | [], y :: m, h => by
    unfold keepsGo
    cases h with
    | gap l m y hy h => rw [if_pos hy]; exact Emb.keeps [] m h
  | x :: l, y :: m, h => by
    unfold keepsGo
    split
    · exact Emb.keeps (x :: l) m h.tail
    · rename_i hg
      split
      · refine Emb.keeps l m ?_
        cases h with
        | gap _ _ _ hy _ => exact absurd hy hg
        | skip _ _ _ h => exact h.tail
        | take _ _ _ _ _ _ h => exact h
      · rename_i hc
        refine Emb.keeps l (y :: m) ?_
        cases h with
        | gap _ _ _ hy _ => exact absurd hy hg
        | skip _ _ _ h => exact h
        | take _ _ _ _ hc' _ _ => exact absurd hc' hc
termination_by l m => l.length + m.length
theorem Emb.more {l m : List Entry} (h : Emb l m) (k n : List Entry) (h2 : Emb k n) : Emb (l ++ k) (m ++ n) := by
  induction h with
  | nil l => induction l with
    | nil => exact h2
    | cons x l ih => exact .skip _ _ _ ih
  | gap l m y hy _ ih => exact .gap _ _ _ hy ih
  | skip l m x _ ih => exact .skip _ _ _ ih
  | take l m x y hc hy _ ih => exact .take _ _ _ _ hc hy ih
theorem startOf_comes {x : Entry} (hg : x.gap = false) (h : (startOf x).2 = true) : comesB x (startOf x).1 = true := by
  unfold startOf at h ⊢
  split
  · simp [comesB, hg, (Entry.eqB_iff x x).2 rfl]
  · rename_i h1
    split
    · simp [comesB, hg, startForm]
    · rename_i h2; simp [h1, h2] at h
theorem new_emb (out : List Entry) (pb : Bool) (x : Entry) (hg : x.gap = false) : ∃ n, (joinNew out pb x).1 = out ++ n ∧ Emb [x] n := by
  unfold joinNew
  split
  · rename_i hs
    have hc := startOf_comes hg hs
    have h1 := (startOf_ok hs).1
    rw [hg] at h1
    cases ho : out.isEmpty
    · exact ⟨[gapE, (startOf x).1], by simp, .gap _ _ _ rfl (.take _ _ _ _ hc h1 (.nil _))⟩
    · exact ⟨[(startOf x).1], by simp, .take _ _ _ _ hc h1 (.nil _)⟩
  · exact ⟨[], by simp, .nil _⟩
theorem step_emb (out : List Entry) (pb : Bool) (x : Entry) : ∃ n, (joinStep out pb x).1 = out ++ n ∧ Emb [x] n := by
  unfold joinStep
  split
  · exact ⟨[], by simp, .nil _⟩
  · rename_i hg
    have hg : x.gap = false := by simpa using hg
    split
    · exact new_emb out pb x hg
    · split
      · exact new_emb out pb x hg
      · split
        · exact ⟨[], by simp, .nil _⟩
        · split
          · exact ⟨[x], rfl, .take _ _ _ _ (by simp [comesB, hg, (Entry.eqB_iff x x).2 rfl]) hg (.nil _)⟩
          · exact new_emb out pb x hg
theorem joinGo_emb : ∀ (r out : List Entry) (pb : Bool), ∃ n, joinGo out pb r = out ++ n ∧ Emb r n
  | [], out, _ => ⟨[], by simp [joinGo], .nil _⟩
  | x :: r, out, pb => by
    obtain ⟨n1, h1, e1⟩ := step_emb out pb x
    obtain ⟨n2, h2, e2⟩ := joinGo_emb r (joinStep out pb x).1 (joinStep out pb x).2
    exact ⟨n1 ++ n2, by rw [joinGo, h2, h1, List.append_assoc], e1.more _ _ e2⟩
/-- Every leg of a joined list comes from the list. -/
theorem joinE_keeps (l : List Entry) : keepsGo l (joinE l) = true := by
  obtain ⟨n, h, e⟩ := joinGo_emb l [] false
  rw [joinE, h]; exact e.keeps
/-- The loop of the statement: the legs join one another. -/
def chainsGo : Option Entry → List Entry → Bool
  | _, [] => true
  | none, x :: r => !x.gap && startsB x.leg.ty && chainsGo (some x) r
  | some y, x :: r => !x.gap && y.leg.joinsB x.leg && !(decide (y.leg.fix = x.leg.fix) && endsB y.leg.ty && tdB x.leg.ty) && chainsGo (some x) r
theorem chains_chain : ∀ (r p : List Entry), ChainR p → chainsGo p.getLast? r = true → ChainR (p ++ r)
  | [], p, h, _ => by simpa using h
  | x :: r, p, h, hc => by
    have hx : ChainR (p ++ [x]) ∧ chainsGo (some x) r = true := by
      cases hp : p.getLast? with
      | none =>
        obtain rfl : p = [] := by simpa using hp
        rw [hp] at hc
        simp only [chainsGo, Bool.and_eq_true] at hc
        exact ⟨.first x (by simpa using hc.1.1) hc.1.2, hc.2⟩
      | some y =>
        rw [hp] at hc
        simp only [chainsGo, Bool.and_eq_true] at hc
        obtain ⟨⟨⟨h1, h2⟩, h3⟩, h4⟩ := hc
        refine ⟨.join p y x h hp (by simpa using h1) h2 ?_, h4⟩
        cases hf : decide (y.leg.fix = x.leg.fix) <;> cases he : endsB y.leg.ty <;> cases ht : tdB x.leg.ty <;> simp_all [Leg.dupB, Leg.arrivedB]
    have := chains_chain r (p ++ [x]) hx.1 (by simpa using hx.2)
    simpa using this
theorem joinE_chains {l : List Entry} (h : chainsGo none l = true) : joinE l = l := (chains_chain l [] .nil (by simpa using h)).again
theorem step_len (out : List Entry) (pb : Bool) (x : Entry) : (joinStep out pb x).1.length ≤ out.length + 2 := by
  obtain ⟨n, h, e⟩ := step_emb out pb x
  unfold joinStep joinNew
  split
  · simp
  · split
    · split
      · split <;> simp
      · simp
    · split
      · split
        · split <;> simp
        · simp
      · split
        · simp
        · split
          · simp
          · split
            · split <;> simp
            · simp
theorem joinGo_len : ∀ (r out : List Entry) (pb : Bool), (joinGo out pb r).length ≤ out.length + 2 * r.length
  | [], _, _ => by simp [joinGo]
  | x :: r, out, pb => by
    have h1 := step_len out pb x
    have h2 := joinGo_len r (joinStep out pb x).1 (joinStep out pb x).2
    rw [joinGo, List.length_cons]; omega
theorem joinE_len (l : List Entry) : (joinE l).length ≤ 2 * l.length := by simpa [joinE] using joinGo_len l [] false
/-- The reference's step. -/
def rjoinStep (out : List Entry) (pend : Bool) (x : Entry) : List Entry × Bool :=
  if x.gap then (out, true) else
  match out.getLast? with
  | none => if (rstartOf x).2 then (out ++ [(rstartOf x).1], false) else (out, pend)
  | some y => if !pend && (y.leg.arrivedB x.leg && skipB x.leg.ty) then (out, pend) else if !pend && y.leg.joinsB x.leg then (out ++ [x], pend)
      else if (rstartOf x).2 then (out ++ [gapE, (rstartOf x).1], false) else (out, true)
theorem rstart_eq {x : Entry} (hg : x.gap = false) : (rstartOf x).2 = (startOf x).2 ∧ ((startOf x).2 = true → (rstartOf x).1 = (startOf x).1) := by
  unfold rstartOf startOf
  split
  · exact ⟨rfl, fun _ => rfl⟩
  · split
    · exact ⟨rfl, fun _ => by simp [rstartForm, startForm, stL, hg]⟩
    · exact ⟨rfl, fun h => by simp at h⟩
theorem rjoinStep_eq (out : List Entry) (pend : Bool) (x : Entry) : rjoinStep out pend x = joinStep out pend x := by
  unfold rjoinStep joinStep
  split
  · rfl
  · rename_i hg
    obtain ⟨h1, h2⟩ := rstart_eq (x := x) (by simpa using hg)
    cases hl : out.getLast? with
    | none =>
      obtain rfl : out = [] := by simpa using hl
      simp only [joinNew, h1]
      split
      · rename_i hs; simp [h2 hs]
      · simp
    | some y =>
      have hne : out ≠ [] := by rintro rfl; simp at hl
      have he : out.isEmpty = false := by simpa using hne
      simp only [joinNew, h1, he]
      cases pend <;> cases hs : (startOf x).2 <;> simp [h2, hs]
end Go.Proofs.YtcgmemkkcaipfaaGreatDoor
