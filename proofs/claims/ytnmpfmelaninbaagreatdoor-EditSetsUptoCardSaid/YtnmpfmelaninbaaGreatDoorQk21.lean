/- Lemmas and walks. -/
import Derived.Test.YtnmpfmelaninbaaGreatDoorQk10
import Derived.Test.YtnmpfmelaninbaaGreatDoorQk20
set_option linter.unusedSimpArgs false
set_option linter.unusedVariables false
namespace Go.Proofs.YtnmpfmelaninbaaGreatDoor
open Go.RowKit
inductive ChainR : List Entry → Prop
  | nil : ChainR []
  | first (x : Entry) : x.gap = false → startsB x.leg.ty = true → ChainR [x]
  | join (p : List Entry) (y x : Entry) : ChainR p → p.getLast? = some y → x.gap = false → y.leg.joinsB x.leg = true → y.leg.dupB x.leg = false → ChainR (p ++ [x])
  | gap (p : List Entry) (x : Entry) : ChainR p → p ≠ [] → x.gap = false → startsB x.leg.ty = true → ChainR (p ++ [gapE, x])
theorem ChainR.last {p : List Entry} (h : ChainR p) : ∀ y, p.getLast? = some y → y.gap = false := by
  intro y hy
  cases h with
  | nil => simp at hy
  | first x hx _ => obtain rfl : x = y := by simpa using hy
                    exact hx
  | join p z x _ _ hx _ _ => obtain rfl : x = y := by simpa using hy
                             exact hx
  | gap p x _ _ hx _ => obtain rfl : x = y := by simpa using hy
                        exact hx
theorem joins_ne1 {a b : Leg} (h : a.joinsB b = true) : (b.ty == 1) = false := by
  simp only [Leg.joinsB, followsB, Bool.and_eq_true] at h
  simpa [bne] using h.1.1.2
theorem skip_dup {a b : Leg} (h : a.joinsB b = true) : (a.arrivedB b && skipB b.ty) = a.dupB b := by
  have := joins_ne1 h
  simp [skipB, Leg.dupB, tdB, this, Bool.and_comm]
def joinSt (st : List Entry × Bool) (x : Entry) : List Entry × Bool := joinStep st.1 st.2 x
theorem joinGo_foldl : ∀ (r : List Entry) (out : List Entry) (pb : Bool), joinGo out pb r = (r.foldl joinSt (out, pb)).1
  | [], _, _ => rfl
  | x :: r, out, pb => by rw [joinGo, joinGo_foldl r]; rfl
theorem ne_last {p : List Entry} (h : p ≠ []) : ∃ y, p.getLast? = some y := ⟨_, List.getLast?_eq_some_getLast h⟩
theorem startOf_starts {x : Entry} (h : startsB x.leg.ty = true) : startOf x = (x, true) := by simp [startOf, h]
theorem ChainR.fold {m : List Entry} (h : ChainR m) : m.foldl joinSt ([], false) = (m, false) := by
  induction h with
  | nil => rfl
  | first x hg hs => simp [joinSt, joinStep, hg, joinNew, startOf_starts hs]
  | join p y x hp hy hg hj hd ih =>
    rw [List.foldl_append, ih]
    simp only [List.foldl_cons, List.foldl_nil, joinSt, joinStep, hg, hy, skip_dup hj, hd, hj]
    rfl
  | gap p x hp hne hg hs ih =>
    obtain ⟨y, hy⟩ := ne_last hne
    rw [List.foldl_append, ih]
    simp only [List.foldl_cons, List.foldl_nil, joinSt]
    have h1 : joinStep p false gapE = (p, true) := rfl
    rw [h1]
    simp only [joinStep, hg, hy, joinNew, startOf_starts hs]
    simp [hne]
theorem ChainR.again {m : List Entry} (h : ChainR m) : joinE m = m := by rw [joinE, joinGo_foldl, h.fold]
theorem startOf_ok {x : Entry} (h : (startOf x).2 = true) : (startOf x).1.gap = x.gap ∧ startsB (startOf x).1.leg.ty = true := by
  unfold startOf at h ⊢
  split
  · rename_i h1; exact ⟨rfl, h1⟩
  · rename_i h1
    split
    · exact ⟨rfl, rfl⟩
    · rename_i h2; simp [h1, h2] at h
theorem orE_zeroJ {a b : Int} (h : orE a b = 0) : a = 0 ∧ b = 0 := by grind [orE]
theorem orderE_some {y x : Entry} (hy : y.gap = false) (h : orderE (some y) x = 0) : y.leg.joinsB x.leg = true ∧ y.leg.dupB x.leg = false := by
  simp only [orderE, hy, Bool.false_eq_true, if_false] at h
  split at h
  · rename_i hj
    split at h
    · simp at h
    · rename_i hd
      exact ⟨hj, by simpa [Leg.dupB, tdB] using hd⟩
  · simp at h
theorem check_chain : ∀ (r p : List Entry) (s : Int), ChainR p → checkGo p.getLast? s r = 0 → ChainR (p ++ r)
  | [], p, s, h, _ => by simpa using h
  | [x], p, s, h, hc => by
    simp only [checkGo] at hc
    have hc := (orE_zeroJ hc).1
    unfold stepE at hc
    split at hc
    · split at hc
      · cases hp : p.getLast? <;> simp [hp, gapOrdE] at hc
      · simp at hc
    · rename_i hg
      have hg : x.gap = false := by simpa using hg
      have ho := (orE_zeroJ (orE_zeroJ hc).2).1
      cases hp : p.getLast? with
      | none =>
        obtain rfl : p = [] := by simpa using hp
        simp only [hp, orderE] at ho
        split at ho
        · rename_i hs; exact .first x hg hs
        · simp at ho
      | some y =>
        rw [hp] at ho
        obtain ⟨h1, h2⟩ := orderE_some (h.last y hp) ho
        exact .join p y x h hp hg h1 h2
  | x :: z :: r, p, s, h, hc => by
    simp only [checkGo] at hc
    obtain ⟨hc, hr⟩ := orE_zeroJ hc
    unfold stepE at hc
    split at hc
    · rename_i hg
      split at hc
      · rename_i he
        have he : x = gapE := (Entry.eqB_iff _ _).1 he
        cases hp : p.getLast? with
        | none => simp [hp, gapOrdE] at hc
        | some y =>
          have hne : p ≠ [] := by rintro rfl; simp at hp
          simp only [hg, if_true] at hr
          obtain ⟨hz, hr⟩ := orE_zeroJ hr
          unfold stepE at hz
          split at hz
          · split at hz
            · simp [gapOrdE, hg] at hz
            · simp at hz
          · rename_i hgz
            have hgz : z.gap = false := by simpa using hgz
            have ho := (orE_zeroJ (orE_zeroJ hz).2).1
            simp only [orderE, hg, if_true] at ho
            split at ho
            · rename_i hs
              have := check_chain r (p ++ [gapE, z]) _ (.gap p z h hne hgz hs) (by simpa using hr)
              subst he
              simpa using this
            · simp at ho
      · simp at hc
    · rename_i hg
      have hg : x.gap = false := by simpa using hg
      have ho := (orE_zeroJ (orE_zeroJ hc).2).1
      have hx : ChainR (p ++ [x]) := by
        cases hp : p.getLast? with
        | none =>
          obtain rfl : p = [] := by simpa using hp
          simp only [hp, orderE] at ho
          split at ho
          · rename_i hs; exact .first x hg hs
          · simp at ho
        | some y =>
          rw [hp] at ho
          obtain ⟨h1, h2⟩ := orderE_some (h.last y hp) ho
          exact .join p y x h hp hg h1 h2
      have := check_chain (z :: r) (p ++ [x]) _ hx (by simpa [checkGo] using hr)
      simpa using this
def comesB (x y : Entry) : Bool := !x.gap && (x.eqB y || (y.leg.ty == 1 && decide (x.leg.fix = y.leg.fix) && (decide (x.ex = y.ex) && decide (x.ey = y.ey))))
inductive Emb : List Entry → List Entry → Prop
  | nil (l : List Entry) : Emb l []
  | gap (l m : List Entry) (y : Entry) : y.gap = true → Emb l m → Emb l (y :: m)
  | skip (l m : List Entry) (x : Entry) : Emb l m → Emb (x :: l) m
  | take (l m : List Entry) (x y : Entry) : comesB x y = true → y.gap = false → Emb l m → Emb (x :: l) (y :: m)
theorem Emb.more {l m : List Entry} (h : Emb l m) (k n : List Entry) (h2 : Emb k n) : Emb (l ++ k) (m ++ n) := by
  induction h with
  | nil l => induction l with
    | nil => exact h2
    | cons x l ih => exact .skip _ _ _ ih
  | gap l m y hy _ ih => exact .gap _ _ _ hy ih
  | skip l m x _ ih => exact .skip _ _ _ ih
  | take l m x y hc hy _ ih => exact .take _ _ _ _ hc hy ih
theorem startOf_comes {x : Entry} (hg : x.gap = false) (h : (startOf x).2 = true) : comesB x (startOf x).1 = true := by
  unfold startOf at h ⊢
  split
  · simp [comesB, hg, (Entry.eqB_iff x x).2 rfl]
  · rename_i h1
    split
    · simp [comesB, hg, startForm]
    · rename_i h2; simp [h1, h2] at h
theorem new_emb (out : List Entry) (pb : Bool) (x : Entry) (hg : x.gap = false) : ∃ n, (joinNew out pb x).1 = out ++ n ∧ Emb [x] n := by
  unfold joinNew
  split
  · rename_i hs
    have hc := startOf_comes hg hs
    have h1 := (startOf_ok hs).1
    rw [hg] at h1
    cases ho : out.isEmpty
    · exact ⟨[gapE, (startOf x).1], by simp, .gap _ _ _ rfl (.take _ _ _ _ hc h1 (.nil _))⟩
    · exact ⟨[(startOf x).1], by simp, .take _ _ _ _ hc h1 (.nil _)⟩
  · exact ⟨[], by simp, .nil _⟩
theorem step_emb (out : List Entry) (pb : Bool) (x : Entry) : ∃ n, (joinStep out pb x).1 = out ++ n ∧ Emb [x] n := by
  unfold joinStep
  split
  · exact ⟨[], by simp, .nil _⟩
  · rename_i hg
    have hg : x.gap = false := by simpa using hg
    split
    · exact new_emb out pb x hg
    · split
      · exact new_emb out pb x hg
      · split
        · exact ⟨[], by simp, .nil _⟩
        · split
          · exact ⟨[x], rfl, .take _ _ _ _ (by simp [comesB, hg, (Entry.eqB_iff x x).2 rfl]) hg (.nil _)⟩
          · exact new_emb out pb x hg
theorem joinGo_emb : ∀ (r out : List Entry) (pb : Bool), ∃ n, joinGo out pb r = out ++ n ∧ Emb r n
  | [], out, _ => ⟨[], by simp [joinGo], .nil _⟩
  | x :: r, out, pb => by
    obtain ⟨n1, h1, e1⟩ := step_emb out pb x
    obtain ⟨n2, h2, e2⟩ := joinGo_emb r (joinStep out pb x).1 (joinStep out pb x).2
    exact ⟨n1 ++ n2, by rw [joinGo, h2, h1, List.append_assoc], e1.more _ _ e2⟩
theorem step_len (out : List Entry) (pb : Bool) (x : Entry) : (joinStep out pb x).1.length ≤ out.length + 2 := by
  obtain ⟨n, h, e⟩ := step_emb out pb x
  unfold joinStep joinNew
  split
  · simp
  · split
    · split
      · split <;> simp
      · simp
    · split
      · split
        · split <;> simp
        · simp
      · split
        · simp
        · split
          · simp
          · split
            · split <;> simp
            · simp
theorem joinGo_len : ∀ (r out : List Entry) (pb : Bool), (joinGo out pb r).length ≤ out.length + 2 * r.length
  | [], _, _ => by simp [joinGo]
  | x :: r, out, pb => by
    have h1 := step_len out pb x
    have h2 := joinGo_len r (joinStep out pb x).1 (joinStep out pb x).2
    rw [joinGo, List.length_cons]; omega
theorem joinE_len (l : List Entry) : (joinE l).length ≤ 2 * l.length := by simpa [joinE] using joinGo_len l [] false
end Go.Proofs.YtnmpfmelaninbaaGreatDoor
