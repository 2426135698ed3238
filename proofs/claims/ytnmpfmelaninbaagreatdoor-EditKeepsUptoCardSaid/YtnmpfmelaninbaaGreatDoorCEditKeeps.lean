/- PROVED: an edit other than a direct-to keeps the active leg and the entries ahead of it, and each argument reads behind the call as before: the card of the second form (what is read is of bulk at most 1048576). Its conditions: none of mine. -/
import Derived.Test.YtnmpfmelaninbaaGreatDoorCards
import Derived.Test.YtnmpfmelaninbaaGreatDoorTie
import Derived.Test.YtnmpfmelaninbaaGreatDoorQk52
import Derived.Deep.DeepWitnessRowRef
import Derived.Lay
import Derived.WalkKit
import Derived.ProofKit
import Derived.Test.YtnmpfmelaninbaaGreatDoorQk34
set_option linter.unusedSimpArgs false
set_option linter.unusedVariables false
namespace Go.Proofs.YtnmpfmelaninbaaGreatDoor
open Go.RowKit
theorem snoc_inj {α : Type _} {a b : List α} {x y : α} (h : a ++ [x] = b ++ [y]) : a = b ∧ x = y := by
  obtain ⟨h1, h2⟩ := List.append_inj' h rfl
  exact ⟨h1, by simpa using h2⟩
theorem ChainR.pre {m : List Entry} (h : ChainR m) : ∀ {p q : List Entry} {y : Entry}, m = p ++ q → p.getLast? = some y → y.gap = false → ChainR p := by
  induction h with
  | nil =>
    intro p q y e hy _
    have : p = [] := by
      have := congrArg List.length e
      simp at this
      exact List.eq_nil_of_length_eq_zero (by omega)
    subst this
    simp at hy
  | first x hg hs =>
    intro p q y e hy _
    match p, hy with
    | [], hy => simp at hy
    | [a], _ =>
      obtain ⟨rfl, rfl⟩ : x = a ∧ [] = q := by simpa using e
      exact ChainR.first x hg hs
    | a :: b :: r, _ => simp at e
  | join p0 y0 x hp hy0 hg hj hd ih =>
    intro p q y e hy hyg
    rcases List.eq_nil_or_concat q with rfl | ⟨q', z, rfl⟩
    · rw [List.append_nil] at e
      rw [← e]
      exact ChainR.join p0 y0 x hp hy0 hg hj hd
    · rw [List.concat_eq_append, ← List.append_assoc] at e
      exact ih (snoc_inj e).1 hy hyg
  | gap p0 x hp hne hg hs ih =>
    intro p q y e hy hyg
    rcases List.eq_nil_or_concat q with rfl | ⟨q', z, rfl⟩
    · rw [List.append_nil] at e
      rw [← e]
      exact ChainR.gap p0 x hp hne hg hs
    · have e1 : (p0 ++ [gapE]) ++ [x] = (p ++ q') ++ [z] := by simpa [List.concat_eq_append] using e
      have e2 := (snoc_inj e1).1
      rcases List.eq_nil_or_concat q' with rfl | ⟨q'', z', rfl⟩
      · rw [List.append_nil] at e2
        rw [← e2] at hy
        obtain rfl : gapE = y := by simpa using hy
        exact absurd hyg (by decide)
      · rw [List.concat_eq_append, ← List.append_assoc] at e2
        exact ih (snoc_inj e2).1 hy hyg
theorem join_keep {pre : List Entry} (h : ChainR pre) (rest : List Entry) : ∃ n, joinE (pre ++ rest) = pre ++ n := by
  rw [joinE, joinGo_foldl, List.foldl_append, h.fold, ← joinGo_foldl]
  exact joinGo_pre pre false rest
theorem planChk_gap {p : Plan} (h : planCheck p = 0) {k : Nat} (hk : p.active = k) : (entAt p k).gap = false := by
  obtain ⟨_, _, _, ha⟩ := planChk_ok h
  unfold planCheck at h
  split at h
  · simp at h
  split at h
  · simp at h
  obtain ⟨_, h2⟩ := orE_zeroJ h
  unfold activeE at h2
  rw [if_neg (by omega), if_neg (by omega)] at h2
  have hlt : k < p.es.length := by omega
  rw [hk, Int.toNat_natCast, entAt_get hlt] at h2
  simpa using h2
def setKeep (x y : Entry) : Entry := { x with leg := { x.leg with lo := y.leg.lo, hi := y.leg.hi, speed := y.leg.speed, rnp := y.leg.rnp } }
theorem setKeep_self (x : Entry) : setKeep x x = x := rfl
theorem setKeep_set (e : EditV) (x : Entry) : setKeep (setLeg e x) x = x := by
  unfold setLeg
  split
  · rfl
  · split
    · rfl
    · rfl
def KeepL (p : Plan) (l : List Entry) : Prop :=
  ∃ pre rest, l = pre ++ rest ∧ ChainR pre ∧ (p.active + 1).toNat ≤ pre.length ∧ ∀ (i : Nat) (x : Entry), (i : Int) ≤ p.active → pre[i]? = some x → (if (i : Int) = p.active then setKeep x (entAt p i) else x) = entAt p i
theorem KeepL.take {p : Plan} (hp : planCheck p = 0) (rest : List Entry) : KeepL p (p.es.take (p.active + 1).toNat ++ rest) := by
  obtain ⟨hv, hl, ha0, ha1⟩ := planChk_ok hp
  have hc : ChainR p.es := by simpa using check_chain p.es [] 0 .nil (by simpa using hv)
  refine ⟨_, rest, rfl, ?_, by rw [List.length_take]; omega, ?_⟩
  · by_cases h : p.active = -1
    · rw [h]
      exact .nil
    · obtain ⟨k, hk⟩ : ∃ k : Nat, p.active = k := ⟨p.active.toNat, by omega⟩
      have hlt : k < p.es.length := by omega
      have hg := planChk_gap hp hk
      refine hc.pre (p := p.es.take (p.active + 1).toNat) (q := p.es.drop (p.active + 1).toNat) (y := entAt p k) (List.take_append_drop _ _).symm ?_ hg
      rw [show (p.active + 1).toNat = k + 1 by omega, List.take_add_one, entAt_get hlt]
      simp
  · intro i x hi hx
    rw [List.getElem?_take, if_pos (by omega), entAt_get (by omega)] at hx
    obtain rfl : entAt p i = x := by simpa using hx
    split
    · exact setKeep_self _
    · rfl
theorem KeepL.more {p : Plan} (hp : planCheck p = 0) {k : Nat} (hk : (p.active + 1).toNat ≤ k) (rest : List Entry) : KeepL p (p.es.take k ++ rest) := by
  have e : p.es.take k = p.es.take (p.active + 1).toNat ++ (p.es.take k).drop (p.active + 1).toNat := by
    have := List.take_append_drop (p.active + 1).toNat (p.es.take k)
    rw [List.take_take, Nat.min_eq_left hk] at this
    exact this.symm
  rw [e, List.append_assoc]
  exact KeepL.take hp _
theorem KeepL.set {p : Plan} (hp : planCheck p = 0) (e : EditV) {k : Nat} (hk : k < p.es.length) (ha : p.active ≤ k) (hg : (entAt p k).gap = false) : KeepL p (p.es.set k (setLeg e (entAt p k))) := by
  obtain ⟨hv, hl, ha0, ha1⟩ := planChk_ok hp
  have hc : ChainR p.es := by simpa using check_chain p.es [] 0 .nil (by simpa using hv)
  refine ⟨_, [], (List.append_nil _).symm, ChainR.like hc (LikeL.set (entAt_get hk) (setLeg_like e _ hg)), by rw [List.length_set]; omega, ?_⟩
  intro i x hi hx
  rw [List.getElem?_set] at hx
  split at hx
  · rename_i h
    subst h
    obtain rfl : setLeg e (entAt p k) = x := by simpa [hk] using hx
    rw [if_pos (by omega)]
    exact setKeep_set e _
  · rw [entAt_get (by omega)] at hx
    obtain rfl : entAt p i = x := by simpa using hx
    split
    · exact setKeep_self _
    · rfl
def KeepsP (p q : Plan) : Prop := q.active = p.active ∧ p.active < q.es.length ∧ ∀ i : Nat, (i : Int) ≤ p.active → ∃ x, q.es[i]? = some x ∧ (if (i : Int) = p.active then setKeep x (entAt p i) else x) = entAt p i
theorem KeepL.law {p : Plan} {l : List Entry} (h : KeepL p l) (ha : -1 ≤ p.active) (a b : List UInt8) : KeepsP p ⟨a, b, joinE l, p.active⟩ := by
  obtain ⟨pre, rest, rfl, hc, hl, hk⟩ := h
  obtain ⟨n, hn⟩ := join_keep hc rest
  refine ⟨rfl, ?_, ?_⟩
  · show p.active < ((joinE (pre ++ rest)).length : Int)
    rw [hn, List.length_append]
    omega
  · intro i hi
    have hlt : i < pre.length := by omega
    refine ⟨pre[i], ?_, hk i _ hi (List.getElem?_eq_getElem hlt)⟩
    show (joinE (pre ++ rest))[i]? = _
    rw [hn, List.getElem?_append_left hlt, List.getElem?_eq_getElem hlt]
theorem check_secs : ∀ (l : List Entry) (prev : Option Entry) (s : Int), checkGo prev s l = 0 → ∀ (i j : Nat) (x y : Entry), i ≤ j → l[i]? = some x → l[j]? = some y → x.gap = false → y.gap = false → s ≤ x.sec ∧ x.sec ≤ y.sec
  | [], _, _, _, i, j, x, y, _, hx, _, _, _ => by simp at hx
  | a :: l, prev, s, h, i, j, x, y, hij, hx, hy, gx, gy => by
    rw [checkGo] at h
    obtain ⟨h1, h2⟩ := orE_zeroJ h
    have step : a.gap = false → s ≤ a.sec := by
      intro hg
      unfold stepE at h1
      rw [hg] at h1
      simp only [Bool.false_eq_true, if_false] at h1
      have := (orE_zeroJ (orE_zeroJ h1).2).2
      split at this
      · simp at this
      · omega
    match i, j with
    | 0, 0 =>
      obtain rfl : a = x := by simpa using hx
      obtain rfl : a = y := by simpa using hy
      exact ⟨step gx, Int.le_refl _⟩
    | 0, j + 1 =>
      obtain rfl : a = x := by simpa using hx
      rw [gx] at h2
      have := check_secs l _ _ h2 j j y y (Nat.le_refl _) (by simpa using hy) (by simpa using hy) gy gy
      exact ⟨step gx, this.1⟩
    | i + 1, 0 => omega
    | i + 1, j + 1 =>
      have := check_secs l _ _ h2 i j x y (by omega) (by simpa using hx) (by simpa using hy) gx gy
      refine ⟨?_, this.2⟩
      by_cases hg : a.gap = true
      · rw [hg] at this; exact this.1
      · have hg : a.gap = false := by simpa using hg
        have h3 := step hg
        rw [hg] at this
        have := this.1
        simp only [Bool.false_eq_true, if_false] at this
        omega
theorem keepSec_take (s : Int) : ∀ (l : List Entry) (k : Nat), (∀ i x, i < k → l[i]? = some x → x.gap = true ∨ x.sec < s) → k ≤ l.length → ∃ m, k ≤ m ∧ m ≤ l.length ∧ keepSec s l = l.take m
  | [], k, _, hk => ⟨0, by simpa using hk, Nat.le_refl _, rfl⟩
  | a :: l, k, h, hk => by
    unfold keepSec
    split
    · rename_i hc
      match k with
      | 0 => exact ⟨0, Nat.le_refl _, Nat.zero_le _, rfl⟩
      | k + 1 =>
        simp at hc
        rcases h 0 a (by omega) rfl with h | h
        · rw [hc.1] at h; cases h
        · omega
    · match k with
      | 0 =>
        obtain ⟨m, _, h2, h3⟩ := keepSec_take s l 0 (fun i x hi => by omega) (Nat.zero_le _)
        exact ⟨m + 1, by omega, by simpa using h2, by rw [h3]; rfl⟩
      | k + 1 =>
        obtain ⟨m, h1, h2, h3⟩ := keepSec_take s l k (fun i x hi hx => h (i + 1) x (by omega) (by simpa using hx)) (by simpa using hk)
        exact ⟨m + 1, by omega, by simpa using h2, by rw [h3]; rfl⟩
theorem findGo_ge (from_ : Int) (ref : List UInt8) : ∀ (l : List Entry) (i : Nat), 0 ≤ findGo from_ ref l i → from_ ≤ findGo from_ ref l i ∧ findGo from_ ref l i < i + l.length
  | [], i, h => by simp [findGo] at h
  | x :: r, i, h => by
    rw [findGo] at h ⊢
    split
    · rename_i hc
      rw [if_pos hc] at h
      simp only [Bool.and_eq_true, decide_eq_true_eq] at hc
      exact ⟨hc.1.1.1, by simp; omega⟩
    · rename_i hc
      rw [if_neg hc] at h
      have := findGo_ge from_ ref r (i + 1) h
      exact ⟨this.1, by simp; omega⟩
theorem arriveS_keep {L : Look} {p : Plan} {e : EditV} {kind s : Int} (hp : planCheck p = 0) (h : (arriveS L p e kind s).err = 0) : (arriveS L p e kind s).active = p.active ∧ KeepL p (arriveS L p e kind s).list := by
  obtain ⟨hv, hl, ha0, ha1⟩ := planChk_ok hp
  unfold arriveS at h ⊢
  by_cases h1 : p.to_.isEmpty = true
  · rw [if_pos h1] at h; simp [EdR.bad] at h
  rw [if_neg h1] at h ⊢
  by_cases h2 : p.active ≠ -1 ∧ s ≤ (entAt p p.active.toNat).sec
  · rw [if_pos h2] at h; simp [EdR.bad] at h
  rw [if_neg h2] at h ⊢
  dsimp only at h ⊢
  generalize L.proc (if kind = 2 then rwayS p.to_ e.rway else p.to_) kind e.name e.trans = q at *
  by_cases h3 : q.2 ≠ 0
  · rw [if_pos h3] at h; exact absurd h h3
  rw [if_neg h3] at h ⊢
  generalize bindS L.pt q.1.1 s (withB e.name 46 e.trans) = y at *
  by_cases h4 : y.2 ≠ 0
  · rw [if_pos h4] at h; exact absurd h h4
  rw [if_neg h4] at h ⊢
  generalize L.place (if kind = 2 then rwayS p.to_ e.rway else p.to_) = r at *
  by_cases h5 : r.2 ≠ 0
  · rw [if_pos h5] at h; exact absurd h h5
  rw [if_neg h5] at h ⊢
  generalize oneS L 2 r.1 s [] = t at *
  by_cases h6 : t.2 ≠ 0
  · rw [if_pos h6] at h; exact absurd h h6
  rw [if_neg h6] at h ⊢
  generalize (if kind = 3 then bindS L.pt q.1.2 5 (withB e.name 46 e.trans) else ([], 0)) = m at *
  by_cases h7 : m.2 ≠ 0
  · rw [if_pos h7] at h; exact absurd h h7
  rw [if_neg h7] at h ⊢
  refine ⟨rfl, ?_⟩
  dsimp only
  obtain ⟨n, hn1, hn2, hn⟩ := keepSec_take s p.es (p.active + 1).toNat (fun i x hi hx => by
    by_cases hx0 : x.gap = true
    · exact .inl hx0
    · right
      obtain ⟨k, hk⟩ : ∃ k : Nat, p.active = k := ⟨p.active.toNat, by omega⟩
      have hkl : k < p.es.length := by omega
      have := check_secs p.es none 0 hv i k x (entAt p k) (by omega) hx (entAt_get hkl) (by simpa using hx0) (planChk_gap hp hk)
      rw [hk, Int.toNat_natCast] at h2
      omega) (by omega)
  rw [hn]
  have hlen : (p.es.take n).length = n := by rw [List.length_take]; omega
  have hkeep : ∀ b : Bool, ((b = true → p.active < (n : Int) - 1) → ∃ n', (p.active + 1).toNat ≤ n' ∧ n' ≤ p.es.length ∧ (if b then (p.es.take n).dropLast else p.es.take n) = p.es.take n') := by
    intro b hb
    cases b
    · exact ⟨n, hn1, hn2, rfl⟩
    · refine ⟨n - 1, by have := hb rfl; omega, by omega, ?_⟩
      show (p.es.take n).dropLast = _
      rw [List.dropLast_eq_take, hlen, List.take_take]
      congr 1
      omega
  have hkk : ∀ (c : Bool) (k0 : List Entry), k0 = (if c then (p.es.take n).dropLast else p.es.take n) → (c = true → p.active < (n : Int) - 1) → ∀ j : Int, (0 ≤ j → p.active ≤ j) → ∀ rest, KeepL p ((if 0 ≤ j then k0.take (j.toNat + 1) else k0 ++ [gapE]) ++ rest) := by
    intro c k0 e hc j hj rest
    obtain ⟨n', h1, h2, h3⟩ := hkeep c hc
    rw [e, h3]
    split
    · rename_i hj0
      rw [List.take_take]
      exact KeepL.more hp (by have := hj hj0; omega) rest
    · rw [List.append_assoc]
      exact KeepL.more hp h1 _
  have hgo : ∀ (c : Bool), (c = true → p.active < (n : Int) - 1) → ∀ rest, KeepL p ((if 0 ≤ (match y.1 with | [] => (-1 : Int) | z :: _ => if z.leg.fix.isEmpty then -1 else searchE (if c then (p.es.take n).dropLast else p.es.take n) p.active z.leg.fix) then (if c then (p.es.take n).dropLast else p.es.take n).take ((match y.1 with | [] => (-1 : Int) | z :: _ => if z.leg.fix.isEmpty then -1 else searchE (if c then (p.es.take n).dropLast else p.es.take n) p.active z.leg.fix).toNat + 1) else (if c then (p.es.take n).dropLast else p.es.take n) ++ [gapE]) ++ rest) := by
    intro c hc rest
    refine hkk c _ rfl hc _ ?_ rest
    split
    · intro hj
      omega
    · split
      · intro hj
        omega
      · intro hj
        exact (findGo_ge _ _ _ _ hj).1
  rw [List.append_assoc, List.append_assoc]
  refine hgo _ (fun hc => ?_) _
  simp only [Bool.and_eq_true, decide_eq_true_eq] at hc
  have := hc.1.1.2
  rw [hlen] at this
  exact this
theorem keeps_law {L : Look} {p : Plan} {e : EditV} (h : (applyS L p e).2 = 0) (ho : e.op ≠ 3) : KeepsP p (applyS L p e).1 := by
  obtain ⟨hp, he, hr, hq⟩ := applyS_ok h
  obtain ⟨hv, hl, ha0, ha1⟩ := planChk_ok hp
  obtain ⟨t0, _⟩ := edit_at he
  rw [hq]
  have key : (runS L p e).active = p.active ∧ KeepL p (runS L p e).list := by
    clear hq h
    unfold runS at hr ⊢
    split at hr
    · simp [EdR.bad] at hr
    rename_i hc
    rw [if_neg hc]
    split at hr
    · rename_i h1
      rw [if_pos h1]
      unfold insertS at hr ⊢
      split at hr
      · simp [EdR.bad] at hr
      rename_i h2
      rw [if_neg h2]
      have hm : (p.active + 1).toNat ≤ e.at_.toNat := by omega
      split at hr
      · rename_i h3
        rw [if_pos h3]
        refine ⟨rfl, ?_⟩
        simp only [keepR, List.append_assoc]
        exact KeepL.more hp hm _
      · rename_i h3
        rw [if_neg h3]
        split at hr
        · rename_i h4; exact absurd hr h4
        · rename_i h4
          rw [if_neg h4]
          refine ⟨rfl, ?_⟩
          simp only [keepR, List.append_assoc]
          exact KeepL.more hp hm _
    rename_i h1
    rw [if_neg h1]
    split at hr
    · rename_i h1
      rw [if_pos h1]
      unfold deleteS at hr ⊢
      split at hr
      · simp [EdR.bad] at hr
      rename_i h2
      rw [if_neg h2]
      have hm : (p.active + 1).toNat ≤ e.at_.toNat := by omega
      split
      · refine ⟨rfl, ?_⟩
        simp only [keepR]
        exact KeepL.more hp hm _
      · refine ⟨rfl, ?_⟩
        simp only [keepR, List.append_assoc]
        exact KeepL.more hp hm _
    rename_i h2
    rw [if_neg h2, if_neg ho]
    split at hr
    · rename_i h1
      rw [if_pos h1]
      unfold setS at hr ⊢
      split at hr
      · simp [EdR.bad] at hr
      rename_i h2
      rw [if_neg h2]
      split at hr
      · simp [EdR.bad] at hr
      rename_i h3
      rw [if_neg h3]
      refine ⟨rfl, ?_⟩
      simp only [keepR]
      have hlt : e.at_.toNat < p.es.length := by
        have hf : (formF e.op).contains 97 = true := formF_at (Or.inr h1)
        rcases Int.lt_trichotomy e.at_ p.es.length with h | h | h
        · omega
        · exact absurd ⟨hf, .inr ⟨h, by omega⟩⟩ hc
        · exact absurd ⟨hf, .inl h⟩ hc
      exact KeepL.set hp e hlt (by omega) (by simpa using h3)
    rename_i h1
    rw [if_neg h1]
    split at hr
    · rename_i h1
      rw [if_pos h1]
      unfold holdS at hr ⊢
      split at hr
      · simp [EdR.bad] at hr
      rename_i h2
      rw [if_neg h2]
      split at hr
      · simp [EdR.bad] at hr
      rename_i h3
      rw [if_neg h3]
      split at hr
      · simp [EdR.bad] at hr
      rename_i h4
      rw [if_neg h4]
      refine ⟨rfl, ?_⟩
      simp only [keepR, List.append_assoc]
      exact KeepL.more hp (by omega) _
    rename_i h1
    rw [if_neg h1]
    split at hr
    · rename_i h1
      rw [if_pos h1]
      unfold joinS at hr ⊢
      split at hr
      · simp [EdR.bad] at hr
      rename_i h2
      rw [if_neg h2]
      split at hr
      · simp [EdR.bad] at hr
      rename_i h3
      rw [if_neg h3]
      split at hr
      · rename_i h4; exact absurd hr h4
      rename_i h4
      rw [if_neg h4]
      dsimp only at hr ⊢
      split at hr
      · rename_i h5; exact absurd hr h5
      rename_i h5
      rw [if_neg h5]
      split
      · refine ⟨rfl, ?_⟩
        simp only [keepR, List.append_assoc]
        exact KeepL.more hp (by omega) _
      · refine ⟨rfl, ?_⟩
        simp only [keepR, List.append_assoc]
        exact KeepL.more hp (by omega) _
    rename_i h1
    rw [if_neg h1]
    split at hr
    · rename_i h1
      rw [if_pos h1]
      unfold departS at hr ⊢
      split at hr
      · simp [EdR.bad] at hr
      rename_i h2
      have h2 : p.active = -1 := by simpa using h2
      have hany : ∀ l : List Entry, KeepL p l := fun l => ⟨[], l, rfl, .nil, by rw [h2]; exact Nat.le_refl _, fun i x hi => by omega⟩
      rw [if_neg (by simpa using h2)]
      split at hr
      · simp [EdR.bad] at hr
      rename_i h3
      rw [if_neg h3]
      dsimp only at hr ⊢
      split at hr
      · rename_i h4; exact absurd hr h4
      rename_i h4
      rw [if_neg h4]
      split at hr
      · rename_i h5; exact absurd hr h5
      rename_i h5
      rw [if_neg h5]
      split at hr
      · rename_i h6; exact absurd hr h6
      rename_i h6
      rw [if_neg h6]
      split at hr
      · rename_i h7; exact absurd hr h7
      rename_i h7
      rw [if_neg h7]
      split
      · exact ⟨rfl, hany _⟩
      · exact ⟨rfl, hany _⟩
    rename_i h1
    rw [if_neg h1]
    split at hr
    · rename_i h1
      rw [if_pos h1]
      exact arriveS_keep hp hr
    rename_i h1
    rw [if_neg h1]
    split at hr
    · rename_i h1
      rw [if_pos h1]
      exact arriveS_keep hp hr
    rename_i h1
    rw [if_neg h1]
    unfold divertS at hr ⊢
    split at hr
    · simp [EdR.bad] at hr
    rename_i h2
    rw [if_neg h2]
    split at hr
    · simp [EdR.bad] at hr
    rename_i h3
    rw [if_neg h3]
    split at hr
    · rename_i h4; exact absurd hr h4
    rename_i h4
    rw [if_neg h4]
    dsimp only at hr ⊢
    split at hr
    · rename_i h5; exact absurd hr h5
    rename_i h5
    rw [if_neg h5]
    exact ⟨rfl, KeepL.more hp (by omega) _⟩
  rw [key.1]
  exact key.2.law ha0 _ _
theorem direct_head {L : Look} {p : Plan} {e : EditV} (h : (applyS L p e).2 = 0) (ho : e.op = 3) : (applyS L p e).1.active = 0 ∧ ∃ x r, (applyS L p e).1.es = x :: r ∧ x.leg.ty = 4 := by
  obtain ⟨hp, he, hr, hq⟩ := applyS_ok h
  rw [hq]
  have hd : runS L p e = directS p e := by
    unfold runS at hr ⊢
    split at hr
    · simp [EdR.bad] at hr
    · rename_i hc
      rw [if_neg hc, if_neg (by omega), if_neg (by omega), if_pos ho]
  rw [hd] at hr ⊢
  clear hq hd h
  unfold directS at hr ⊢
  by_cases h2 : e.at_ < p.active
  · rw [if_pos h2] at hr; simp [EdR.bad] at hr
  rw [if_neg h2] at hr ⊢
  by_cases h3 : (!endsE (entAt p e.at_.toNat)) = true
  · rw [if_pos h3] at hr; simp [EdR.bad] at hr
  rw [if_neg h3] at hr ⊢
  refine ⟨rfl, ?_⟩
  dsimp only
  have hgap : (entAt p e.at_.toNat).gap = false := by
    cases hg : (entAt p e.at_.toNat).gap with
    | false => rfl
    | true => exact absurd (by simp [endsE, hg]) h3
  split
  · obtain ⟨n, hn⟩ := joinE_head (D := ⟨false, toLeg 4 (entAt p e.at_.toNat).leg.fix, (entAt p e.at_.toNat).ex, (entAt p e.at_.toNat).ey, 0, 0, (entAt p e.at_.toNat).sec, (entAt p e.at_.toNat).via⟩) (r := p.es.drop e.at_.toNat) rfl (by show startsB 4 = true; decide)
    exact ⟨_, n, hn, rfl⟩
  · obtain ⟨n, hn⟩ := joinE_head (D := directE (entAt p e.at_.toNat)) (r := p.es.drop (e.at_.toNat + 1)) hgap (by show startsB 4 = true; decide)
    exact ⟨_, n, hn, rfl⟩
end Go.Proofs.YtnmpfmelaninbaaGreatDoor
namespace Go.Proofs.YtnmpfmelaninbaaGreatDoor
open Go.RowKit Go.Sort
set_option maxRecDepth 100000
theorem splice_entK (x : Entry) (a b : Int) : splice x.arr 10 (Win.arr ⟨a, b⟩) = ({ x with leg := { x.leg with lo := a, hi := b } } : Entry).arr := rfl
theorem setKeep_arr (x y : Entry) : ((({ x with leg := { x.leg with lo := y.leg.lo, hi := y.leg.hi } } : Entry).arr.setIfInBounds 12 (.int .i64 y.leg.speed)).setIfInBounds 13 (.int .i64 y.leg.rnp)) = (setKeep x y).arr := rfl
theorem Has_ent_drewK (W : World) (b o : Nat) : Has_ent W.drew b o = Has_ent W b o := propext ⟨fun h => h, fun h => h⟩
theorem of_ent_drewK (W : World) (b o : Nat) : of_ent W.drew b o = of_ent W b o := rfl
theorem Blk.ent_win {W : World} {g : Nat} {x : Entry} (h : Blk W g x.arr) : Is_win W g 10 ⟨x.leg.lo, x.leg.hi⟩ := fun j hj => by
  rw [h.cell]
  match j, hj with
  | 0, _ => rfl
  | 1, _ => rfl
theorem Has_ent_farK (W : World) (b o g : Nat) (cs : Array Value) (h : ¬ b = g) : Has_ent (W.setRow g cs) b o = Has_ent W b o := by
  have e : ∀ j, (W.setRow g cs).cell? ⟨b, o + j, none⟩ = W.cell? ⟨b, o + j, none⟩ := fun j => cell_far W b g (o + j) cs h
  simp only [Has_ent, Is_ent, e]
theorem of_ent_farK (W : World) (b o g : Nat) (cs : Array Value) (h : ¬ b = g) (hh : Has_ent W b o) : of_ent (W.setRow g cs) b o = of_ent W b o :=
  of_ent_eq fun j hj => by rw [cell_far W b g (o + j) cs h]; exact of_ent_spec hh j hj
theorem Plain_drewK (w : World) (g : Nat) : Plain w.drew g = Plain w g := propext ⟨fun h => h, fun h => h⟩
theorem blkOf_drewK (w : World) (g : Nat) : blkOf w.drew g = blkOf w g := rfl
theorem Plain_newK (w : World) (cs : Array Value) (t : TypeId) : Plain (w.alloc (.cells cs t)) w.heap.size = True := eq_true (Blk.new w cs t).plain
theorem blkOf_newK (w : World) (cs : Array Value) (t : TypeId) : blkOf (w.alloc (.cells cs t)) w.heap.size = cs := (Blk.new w cs t).of
theorem Plain_new2K (w : World) (a : Obj) (cs : Array Value) (t : TypeId) : Plain ((w.alloc a).alloc (.cells cs t)) (w.heap.size + 1) = True := eq_true (by have := (Blk.new (w.alloc a) cs t).plain; simpa using this)
theorem blkOf_new2K (w : World) (a : Obj) (cs : Array Value) (t : TypeId) : blkOf ((w.alloc a).alloc (.cells cs t)) (w.heap.size + 1) = cs := by have := (Blk.new (w.alloc a) cs t).of; simpa using this
theorem setRow_drewK (w : World) (g : Nat) (cs : Array Value) : w.drew.setRow g cs = (w.setRow g cs).drew := rfl
theorem Plain_old2K (w : World) (b : Obj) (cs : Array Value) (t : TypeId) : Plain ((w.alloc (.cells cs t)).alloc b) w.heap.size = True := eq_true (Plain_alloc _ _ b (by simp) (Blk.new w cs t).plain)
theorem Has_win_drwK (W : World) (b o : Nat) : Has_win W.drew b o = Has_win W b o := propext ⟨fun h => h, fun h => h⟩
theorem of_win_drwK (W : World) (b o : Nat) : of_win W.drew b o = of_win W b o := rfl
abbrev Z20 : Array Value := #[.bool false, .int .u8 0, .string ⟨#[]⟩, .string ⟨#[]⟩, .int .u8 0, .bool false, .int .i64 0, .int .i64 0, .int .i64 0, .int .i64 0, .int .i64 0, .int .i64 0, .int .i64 0, .int .i64 0, .int .i64 0, .int .i64 0, .int .i64 0, .int .i64 0, .int .u8 0, .string ⟨#[]⟩]
theorem splice_Z20 (x : Entry) : splice Z20 0 x.arr = x.arr := rfl
theorem two_rowsK (w : World) (x y : Array Value) (t : TypeId) : Blk ((((w.alloc (.cells Z20 t)).alloc (.cells Z20 t)).setRow (w.heap.size + 1) x).setRow w.heap.size y).drew w.heap.size y ∧
    Blk ((((w.alloc (.cells Z20 t)).alloc (.cells Z20 t)).setRow (w.heap.size + 1) x).setRow w.heap.size y).drew (w.heap.size + 1) x ∧
    Below w.heap.size w ((((w.alloc (.cells Z20 t)).alloc (.cells Z20 t)).setRow (w.heap.size + 1) x).setRow w.heap.size y).drew := by
  have a1 : Blk ((w.alloc (.cells Z20 t)).alloc (.cells Z20 t)) w.heap.size Z20 := (Blk.new w Z20 t).alloc _
  have a2 : Blk ((w.alloc (.cells Z20 t)).alloc (.cells Z20 t)) (w.heap.size + 1) Z20 := by have := Blk.new (w.alloc (.cells Z20 t)) Z20 t; simpa using this
  have b0 := below_step (alloc_below w (.cells Z20 t)) (alloc_below (w.alloc (.cells Z20 t)) (.cells Z20 t))
  have b1 := below_setRow' (below_setRow' b0 (show w.heap.size ≤ w.heap.size + 1 by omega) x) (Nat.le_refl _) y
  have c1 := (a1.far (g' := w.heap.size + 1) (by omega) x).set y
  have c2 := (a2.set x).far (g' := w.heap.size) (by omega) y
  exact ⟨c1, c2, b1.drew⟩
theorem two_rowsK' (w : World) (x y : Array Value) (t : TypeId) : Blk ((((w.alloc (.cells Z20 t)).alloc (.cells Z20 t)).setRow w.heap.size y).setRow (w.heap.size + 1) x).drew w.heap.size y ∧
    Blk ((((w.alloc (.cells Z20 t)).alloc (.cells Z20 t)).setRow w.heap.size y).setRow (w.heap.size + 1) x).drew (w.heap.size + 1) x ∧
    Below w.heap.size w ((((w.alloc (.cells Z20 t)).alloc (.cells Z20 t)).setRow w.heap.size y).setRow (w.heap.size + 1) x).drew := by
  have a1 : Blk ((w.alloc (.cells Z20 t)).alloc (.cells Z20 t)) w.heap.size Z20 := (Blk.new w Z20 t).alloc _
  have a2 : Blk ((w.alloc (.cells Z20 t)).alloc (.cells Z20 t)) (w.heap.size + 1) Z20 := by have := Blk.new (w.alloc (.cells Z20 t)) Z20 t; simpa using this
  have b0 := below_step (alloc_below w (.cells Z20 t)) (alloc_below (w.alloc (.cells Z20 t)) (.cells Z20 t))
  have b1 := below_setRow' (below_setRow' b0 (Nat.le_refl _) y) (show w.heap.size ≤ w.heap.size + 1 by omega) x
  have c1 := (a1.set y).far (g' := w.heap.size + 1) (by omega) x
  have c2 := (a2.far (g' := w.heap.size) (by omega) y).set x
  exact ⟨c1, c2, b1.drew⟩
attribute [local go_sem ↓] run_neq_ent
attribute [local go_sem] Has_ent_drewK of_ent_drewK Has_ent_farK of_ent_farK Has_win_drwK of_win_drwK splice_Z20 Plain_old2K Plain_drewK blkOf_drewK Plain_newK blkOf_newK Plain_new2K blkOf_new2K setRow_drewK 
set_option maxHeartbeats 16000000 in
theorem lawEdKeeps_any (d : DBs) (G : GDB) (p : Plan) (A : Option Addr) (c : Nat) (e : EditV) (w : World) (hO : Open23 w) (hD : GdAt w d G) (hS : G.short) (hp : p.small) (hc : p.es.length ≤ c) (hE : Ents w A p.es) (hpf : p.from_.length ≤ 1000000000) (hpt : p.to_.length ≤ 1000000000)
    (he : e.ref.length ≤ 1000000000 ∧ e.name.length ≤ 1000000000 ∧ e.rway.length ≤ 1000000000 ∧ e.trans.length ≤ 1000000000) :
    Calls Tryz.prog 6 #[.agg d.cells, .agg (p.arr A c), .agg e.arr] w (Ret w (.bool true)) := by
  have hsz := hD.db.ok.size
  go_enter Tryz.func6, Tryz.ntmps6
  go_upto_region 1 with (fail)
  obtain ⟨D0, P0, E0, B0⟩ := blk3 w d.cells (p.arr A c) e.arr 43 46 26
  generalize ((w.alloc _).alloc _).alloc _ = W at D0 P0 E0 B0 ⊢
  generalize w.heap.size + 1 + 1 = ge at E0 ⊢
  generalize w.heap.size + 1 = gp at P0 ⊢
  obtain ⟨gd, hgd⟩ : ∃ g, g = w.heap.size := ⟨_, rfl⟩
  rw [← hgd] at D0 ⊢
  clear hgd
  go_upto_region 3 with (go_at_call 12; (with_reducible refine callR (awake23_any W (hO.below B0)) ?_); intro w1 b1 _ _ _)
  have D1 := D0.step b1
  have P1 := P0.step b1
  have E1 := E0.step b1
  have B1 := below_step B0 b1
  clear D0 P0 E0 B0 b1
  have k1 : Has_db w1 gd 0 := ⟨_, D1.is_db hsz⟩
  have k2 : of_db w1 gd 0 = d.cells := of_db_eq (D1.is_db hsz)
  have kf := Lib.hid (few23_any d G w1 (hD.below B1))
  go_upto_if 16 with (go_at_call 19; (with_reducible refine callBoo kf.out ?_); intro bf w2 b2)
  have D2 := D1.step b2
  have P2 := P1.step b2
  have E2 := E1.step b2
  have B2 := below_step B1 b2
  clear D1 P1 E1 B1 b2 k1 k2 kf
  cases bf with
  | false =>
    go_wp2
    go_ret
    exact Ret.bool rfl B2
  | true =>
  have k1 : Has_db w2 gd 0 := ⟨_, D2.is_db hsz⟩
  have k2 : of_db w2 gd 0 = d.cells := of_db_eq (D2.is_db hsz)
  have i1 : Has_plan w2 gp 0 := ⟨_, P2.is_plan rfl⟩
  have i2 : of_plan w2 gp 0 = p.arr A c := of_plan_eq (P2.is_plan rfl)
  have j1 : Has_edt w2 ge 0 := ⟨_, E2.is_edt⟩
  have j2 : of_edt w2 ge 0 = e := of_edt_eq E2.is_edt
  have KA := Lib.hid (eapplyG_any d G p A c e w2 (hO.below B2).laid (hO.below B2).forms (hO.below B2).gap (hD.below B2) hS hp hc (hE.below (B := 0) B2) hpf hpt he)
  have HK := Lib.hid (fun h ho => @keeps_law (lookG G) p e h ho)
  have HH := Lib.hid (fun h ho => @direct_head (lookG G) p e h ho)
  have HA := Lib.hid (fun h => (planChk_ok (@applyS_ok (lookG G) p e h).1).2)
  generalize applyS (lookG G) p e = R at KA HK HH HA
  obtain ⟨q, er⟩ := R
  generalize d.cells = cs at *
  go_upto_region 6 with (go_at_call 20; (with_reducible refine callAp KA.out ?_); intro Aq cq w3 hcq hEq _ b3)
  have bA := alloc_below5 w3 (.cells (q.arr Aq cq) 46)
  have Q0 := Blk.new w3 (q.arr Aq cq) 46
  have P3 := P2.step (below_step b3 bA)
  have E3 := E2.step (below_step b3 bA)
  have B3 := below_step B2 (below_step b3 bA)
  have F0 := hEq.below (B := 0) bA
  clear k1 k2 i1 i2 j1 j2 KA D2 P2 E2 B2 b3 bA hEq
  generalize w3.alloc _ = W3 at Q0 P3 E3 B3 F0 ⊢
  generalize w3.heap.size = gq at Q0 ⊢
  by_cases hz : er = 0
  case neg =>
    have hz' : (er != 0) = true := by simpa using hz
    clear HK HH HA
    go_wp2
    go_ret
    exact Ret.bool rfl B3
  subst hz
  have c0 : W3.cell? ⟨ge, 0, none⟩ = some (.int .u8 e.op) := E3.cell 0
  have q3 : W3.cell? ⟨gq, 3, none⟩ = some (.int .i64 q.active) := Q0.cell 3
  have q2 : W3.cell? ⟨gq, 2, none⟩ = some (.slice Aq q.es.length cq) := Q0.cell 2
  by_cases ho : e.op = 3
  · obtain ⟨ha0, y, r, hqe, hty⟩ := HH.out rfl ho
    have hl0 : 0 < q.es.length := by rw [hqe]; simp
    obtain ⟨b0, o0, hAq, hcl⟩ := F0.entE hl0
    have hI := hcl W3 (Below.refl _ _)
    have hy0 : q.es[0] = y := by simp [hqe]
    rw [hy0, Nat.zero_mul, Nat.add_zero] at hI
    have y1 : W3.cell? ⟨b0, o0 + 1, none⟩ = some (.int .u8 4) := by have := hI 1 (by decide); rw [← hty]; exact this
    rw [ho] at c0
    rw [ha0] at q3
    rw [hAq] at q2
    have hln : (0 : Int) < (q.es.length : Int) := by omega
    have hlc : 0 < cq := by omega
    clear hI hcl hy0 hqe HK HH HA ho ha0 hAq
    go_wp2
    go_ret
    exact Ret.bool rfl B3
  · obtain ⟨hqa, hql, hke⟩ := HK.out rfl ho
    obtain ⟨hn60, ha1, hap⟩ := HA.out rfl
    have HN60 := Lib.hid hn60
    have HAP := Lib.hid hap
    have HKE := Lib.hid hke
    have ho' : (e.op == 3) = false := by simpa using ho
    have p3 : W3.cell? ⟨gp, 3, none⟩ = some (.int .i64 p.active) := P3.cell 3
    rw [hqa] at q3
    have hne : (p.active != p.active) = false := by simp
    have hle : ¬ (q.es.length : Int) ≤ p.active := by omega
    have HP := Lib.hid P3
    have HQ := Lib.hid Q0
    have HF := Lib.hid F0
    have HB := Lib.hid B3
    clear hke HK HH HA ho hqa P3 Q0 F0 E3 B3
    go_wp2
    clear q3 q2 c0 p3 hne hle ho'
    go_loopw [9] (fun iv wr => ∃ k : Nat, (k : Int) ≤ p.active + 1 ∧ iv = .int .i64 k ∧ Below W3.heap.size W3 wr) (fun iv _ => (p.active + 1).toNat - (intOf iv).toNat)
    case atStart => exact ⟨0, by omega, rfl, Below.refl _ _⟩
    case round =>
      obtain ⟨k, hk, rfl, BW⟩ := hrel
      have PW := HP.out.step BW
      have p3 : wr.cell? ⟨gp, 3, none⟩ = some (.int .i64 p.active) := PW.cell 3
      by_cases hlt : (k : Int) ≤ p.active
      · obtain ⟨y, hy, hyk⟩ := HKE.out k hlt
        have hkq : k < q.es.length := (List.getElem?_eq_some_iff.1 hy).1
        have hkp : k < p.es.length := by omega
        obtain ⟨b, off, hA, hcl⟩ := hE.ent hkp
        obtain ⟨b2, o2, hA2, hcl2⟩ := (show Ents W3 Aq q.es from HF.out).entE hkq
        have hI := hcl wr (below_step HB.out BW)
        have hI2 := hcl2 wr BW
        have hyy : q.es[k] = y := (List.getElem?_eq_some_iff.1 hy).2
        rw [hyy] at hI2
        have QW := HQ.out.step BW
        have c2 : wr.cell? ⟨gp, 2, none⟩ = some (.slice (some ⟨b, off, none⟩) p.es.length c) := by have := PW.cell 2; rw [← hA]; exact this
        have d2 : wr.cell? ⟨gq, 2, none⟩ = some (.slice (some ⟨b2, o2, none⟩) q.es.length cq) := by have := QW.cell 2; rw [← hA2]; exact this
        have hlp : (k : Int) < (p.es.length : Int) := by omega
        have hlq : (k : Int) < (q.es.length : Int) := by omega
        have hkc : k < c := by omega
        have hkcq : k < cq := by omega
        generalize entAt p k = u at hI hyk
        have i1 : Has_ent wr b (off + k * 20) := ⟨_, hI⟩
        have i2 : of_ent wr b (off + k * 20) = u := of_ent_eq hI
        have n1 : Has_ent wr b2 (o2 + k * 20) := ⟨_, hI2⟩
        have n2 : of_ent wr b2 (o2 + k * 20) = y := of_ent_eq hI2
        have hbg : b < wr.heap.size := block_lt_of_cell ((hI 0 (by omega)).trans rfl)
        have hbg2 : b2 < wr.heap.size := block_lt_of_cell ((hI2 0 (by omega)).trans rfl)
        have hgp : gp < wr.heap.size := PW.lt
        have hgq : gq < wr.heap.size := QW.lt
        have hb1 : b < wr.heap.size + 1 := by omega
        have hb2 : b2 < wr.heap.size + 1 := by omega
        have hp1 : gp < wr.heap.size + 1 := by omega
        have hq1 : gq < wr.heap.size + 1 := by omega
        have hn0 : ¬ b = wr.heap.size := by omega
        have hn1 : ¬ b = wr.heap.size + 1 := by omega
        have hn2 : ¬ b2 = wr.heap.size := by omega
        have hn3 : ¬ b2 = wr.heap.size + 1 := by omega
        have hn4 : ¬ gp = wr.heap.size := by omega
        have hn5 : ¬ gp = wr.heap.size + 1 := by omega
        have hn6 : ¬ gq = wr.heap.size := by omega
        have hn7 : ¬ gq = wr.heap.size + 1 := by omega
        have HLT := Lib.hid hlt
        have hk60 : k < 60 := by have := HN60.out; have := HAP.out; omega
        have HYK := Lib.hid hyk
        have HPW := Lib.hid PW
        have HBW := Lib.hid BW
        clear hcl hcl2 hI hI2 hy hyy hyk hA hA2 PW QW BW
        go_upto_region 15 with (fail)
        go_cut [10, 11] (fun a v wx => ∃ g1 g2, a = .pointer (some ⟨g1, 0, none⟩) ∧ v = .pointer (some ⟨g2, 0, none⟩) ∧ g1 ≠ g2 ∧ wr.heap.size ≤ g1 ∧ Blk wx g1 y.arr ∧ Blk wx g2 u.arr ∧ Below wr.heap.size wr wx)
        case first =>
          clear HPW p3
          go_region
          all_goals
            go_wp2
            go_meet
            first
              | (obtain ⟨h1, h2, h3⟩ := two_rowsK' wr u.arr y.arr 57; exact ⟨_, _, rfl, rfl, by omega, by omega, h1, h2, h3⟩)
              | (obtain ⟨h1, h2, h3⟩ := two_rowsK wr y.arr u.arr 57; exact ⟨_, _, rfl, rfl, by omega, by omega, h2, h1, h3⟩)
        case rest =>
        obtain ⟨g1, g2, rfl, rfl, hgn, hg1, Y1, U1, BC⟩ := hcut
        have PW2 := HPW.out.step BC
        have p3 : wc.cell? ⟨gp, 3, none⟩ = some (.int .i64 p.active) := PW2.cell 3
        have HBC := Lib.hid BC
        clear i1 i2 n1 n2 c2 d2 HPW PW2 BC hbg hbg2 hgp hgq hkq hkp hb1 hb2 hp1 hq1 hn0 hn1 hn2 hn3 hn4 hn5 hn6 hn7 hlt
        have HYK2 := Lib.hid (show (if (k : Int) = p.active then setKeep y u else y) = u from HYK.out)
        clear HYK
        go_upto_if 79 with (fail)
        go_cut [10] (fun a wx => a = .pointer (some ⟨g1, 0, none⟩) ∧ Blk wx g1 u.arr ∧ Blk wx g2 u.arr ∧ Below wr.heap.size wr wx)
        case first =>
          by_cases hka : (k : Int) = p.active
          · have hyk : setKeep y u = u := (if_pos hka).symm.trans HYK2.out
            have HY := Lib.hid (show (({ y with leg := { y.leg with lo := u.leg.lo, hi := u.leg.hi } } : Entry).arr.setIfInBounds 12 (.int .i64 u.leg.speed)).setIfInBounds 13 (.int .i64 u.leg.rnp) = u.arr by rw [setKeep_arr, hyk])
            have HKA := Lib.hid hka
            clear hyk HYK2
            have w1 : Has_win wc g2 10 := ⟨_, U1.ent_win⟩
            have w2 : of_win wc g2 10 = ⟨u.leg.lo, u.leg.hi⟩ := of_win_eq U1.ent_win
            have u12 : wc.cell? ⟨g2, 12, none⟩ = some (.int .i64 u.leg.speed) := U1.cell 12
            have u13 : wc.cell? ⟨g2, 13, none⟩ = some (.int .i64 u.leg.rnp) := U1.cell 13
            have q1 : Plain wc g1 := Y1.plain
            have q2 : blkOf wc g1 = y.arr := Y1.of
            have q3 := splice_entK y u.leg.lo u.leg.hi
            have hgn2 : ¬ g2 = g1 := fun h => hgn h.symm
            have hY1 := Lib.hid Y1
            have hU1 := Lib.hid U1
            generalize hE1 : ({ y with leg := { y.leg with lo := u.leg.lo, hi := u.leg.hi } } : Entry) = e1 at q3 HY
            have Z1 := Y1.set e1.arr
            have Z2 := Z1.setCell 12 (.int .i64 u.leg.speed)
            have a12 : (wc.setRow g1 e1.arr).cell? ⟨g1, 12, none⟩ = some (.int .i64 e1.leg.speed) := Z1.cell 12
            have fr12 := Z1.frozen 12
            have a13 : ((wc.setRow g1 e1.arr).setCell ⟨g1, 12, none⟩ (.int .i64 u.leg.speed)).cell? ⟨g1, 13, none⟩ = some (.int .i64 e1.leg.rnp) := Z2.cell 13
            have fr13 := Z2.frozen 13
            have HZ := Lib.hid (Z2.setCell 13 (.int .i64 u.leg.rnp))
            have HW := Lib.hid (below_setCell (below_setCell (below_setRow' HBC.out hg1 e1.arr) hg1 12 (.int .i64 u.leg.speed)) hg1 13 (.int .i64 u.leg.rnp))
            have HU2 := Lib.hid (((U1.far hgn2 e1.arr).setFar hgn2 12 (.int .i64 u.leg.speed)).setFar hgn2 13 (.int .i64 u.leg.rnp))
            clear Y1 U1 Z1 Z2 hE1
            have hke : ((k : Int) == p.active) = true := by simpa using hka
            clear hka
            go_upto_region 17 with (fail)
            go_region
            all_goals
              go_wp2
              go_meet
              have hz := HZ.out
              rw [HY.out] at hz
              exact ⟨rfl, hz, HU2.out, HW.out.drew⟩
          · have hyk : y = u := (if_neg hka).symm.trans HYK2.out
            subst hyk
            have hke : ((k : Int) == p.active) = false := by simpa using hka
            clear HYK2
            go_wp2
            go_meet
            exact ⟨rfl, Y1, U1, HBC.out⟩
        case rest =>
        obtain ⟨rfl, Y2, U2, BD⟩ := hcut
        have k1 : Has_ent wc g1 0 := ⟨_, Y2.is_ent⟩
        have k2 : of_ent wc g1 0 = u := of_ent_eq Y2.is_ent
        have k3 : Has_ent wc g2 0 := ⟨_, U2.is_ent⟩
        have k4 : of_ent wc g2 0 = u := of_ent_eq U2.is_ent
        have hself : u.eqB u = true := (Entry.eqB_iff _ _).2 rfl
        have HBD := Lib.hid (below_step HBW.out BD)
        clear Y1 U1 Y2 U2 BD HBC HBW p3 HYK2
        go_wp2
        go_roundw
        case rel => exact ⟨k + 1, by have := HLT.out; omega, by go_num, HBD.out⟩
        case measure => have := HLT.out; simp [intOf]; omega
      · go_wp2
        go_ret
        exact Ret.bool rfl (below_step HB.out BW)
end Go.Proofs.YtnmpfmelaninbaaGreatDoor
namespace Go.Proofs.YtnmpfmelaninbaaGreatDoor.editKeeps
open Go.ChangeShapes Go.WideShapes Go.ChangeAt Go.RowKit
set_option linter.unusedVariables false
set_option linter.unusedSimpArgs false
theorem own : ownKnob Tryz.prog.godebug = none := by kernel_rfl
theorem laidOut : laidOutB Tryz.prog = true := by kernel_rfl
theorem opens {W : World} (h : laidMetH Tryz.prog Rows.editKeepsUptoRow.laid W) (hsh : W.ShapedOpen Tryz.prog) : Open23 W :=
  ⟨laid23_of (l := Rows.editKeepsUptoRow.laid) h hsh (by first | exact List.mem_of_getElem? (i := 0) rfl | exact List.mem_of_getElem? (i := 1) rfl | exact List.mem_of_getElem? (i := 2) rfl | exact List.mem_of_getElem? (i := 3) rfl | exact List.mem_of_getElem? (i := 4) rfl | exact List.mem_of_getElem? (i := 5) rfl | exact List.mem_of_getElem? (i := 6) rfl | exact List.mem_of_getElem? (i := 7) rfl | exact List.mem_of_getElem? (i := 8) rfl | exact List.mem_of_getElem? (i := 9) rfl | exact List.mem_of_getElem? (i := 10) rfl | exact List.mem_of_getElem? (i := 11) rfl | exact List.mem_of_getElem? (i := 12) rfl | exact List.mem_of_getElem? (i := 13) rfl) (by first | exact List.mem_of_getElem? (i := 0) rfl | exact List.mem_of_getElem? (i := 1) rfl | exact List.mem_of_getElem? (i := 2) rfl | exact List.mem_of_getElem? (i := 3) rfl | exact List.mem_of_getElem? (i := 4) rfl | exact List.mem_of_getElem? (i := 5) rfl | exact List.mem_of_getElem? (i := 6) rfl | exact List.mem_of_getElem? (i := 7) rfl | exact List.mem_of_getElem? (i := 8) rfl | exact List.mem_of_getElem? (i := 9) rfl | exact List.mem_of_getElem? (i := 10) rfl | exact List.mem_of_getElem? (i := 11) rfl | exact List.mem_of_getElem? (i := 12) rfl | exact List.mem_of_getElem? (i := 13) rfl), errs_of (l := Rows.editKeepsUptoRow.laid) h (by first | exact List.mem_of_getElem? (i := 0) rfl | exact List.mem_of_getElem? (i := 1) rfl | exact List.mem_of_getElem? (i := 2) rfl | exact List.mem_of_getElem? (i := 3) rfl | exact List.mem_of_getElem? (i := 4) rfl | exact List.mem_of_getElem? (i := 5) rfl | exact List.mem_of_getElem? (i := 6) rfl | exact List.mem_of_getElem? (i := 7) rfl | exact List.mem_of_getElem? (i := 8) rfl | exact List.mem_of_getElem? (i := 9) rfl | exact List.mem_of_getElem? (i := 10) rfl | exact List.mem_of_getElem? (i := 11) rfl | exact List.mem_of_getElem? (i := 12) rfl | exact List.mem_of_getElem? (i := 13) rfl) (by first | exact List.mem_of_getElem? (i := 0) rfl | exact List.mem_of_getElem? (i := 1) rfl | exact List.mem_of_getElem? (i := 2) rfl | exact List.mem_of_getElem? (i := 3) rfl | exact List.mem_of_getElem? (i := 4) rfl | exact List.mem_of_getElem? (i := 5) rfl | exact List.mem_of_getElem? (i := 6) rfl | exact List.mem_of_getElem? (i := 7) rfl | exact List.mem_of_getElem? (i := 8) rfl | exact List.mem_of_getElem? (i := 9) rfl | exact List.mem_of_getElem? (i := 10) rfl | exact List.mem_of_getElem? (i := 11) rfl | exact List.mem_of_getElem? (i := 12) rfl | exact List.mem_of_getElem? (i := 13) rfl), forms_of (l := Rows.editKeepsUptoRow.laid) h (by first | exact List.mem_of_getElem? (i := 0) rfl | exact List.mem_of_getElem? (i := 1) rfl | exact List.mem_of_getElem? (i := 2) rfl | exact List.mem_of_getElem? (i := 3) rfl | exact List.mem_of_getElem? (i := 4) rfl | exact List.mem_of_getElem? (i := 5) rfl | exact List.mem_of_getElem? (i := 6) rfl | exact List.mem_of_getElem? (i := 7) rfl | exact List.mem_of_getElem? (i := 8) rfl | exact List.mem_of_getElem? (i := 9) rfl | exact List.mem_of_getElem? (i := 10) rfl | exact List.mem_of_getElem? (i := 11) rfl | exact List.mem_of_getElem? (i := 12) rfl | exact List.mem_of_getElem? (i := 13) rfl), gap_of (l := Rows.editKeepsUptoRow.laid) h (by first | exact List.mem_of_getElem? (i := 0) rfl | exact List.mem_of_getElem? (i := 1) rfl | exact List.mem_of_getElem? (i := 2) rfl | exact List.mem_of_getElem? (i := 3) rfl | exact List.mem_of_getElem? (i := 4) rfl | exact List.mem_of_getElem? (i := 5) rfl | exact List.mem_of_getElem? (i := 6) rfl | exact List.mem_of_getElem? (i := 7) rfl | exact List.mem_of_getElem? (i := 8) rfl | exact List.mem_of_getElem? (i := 9) rfl | exact List.mem_of_getElem? (i := 10) rfl | exact List.mem_of_getElem? (i := 11) rfl | exact List.mem_of_getElem? (i := 12) rfl | exact List.mem_of_getElem? (i := 13) rfl) (by first | exact List.mem_of_getElem? (i := 0) rfl | exact List.mem_of_getElem? (i := 1) rfl | exact List.mem_of_getElem? (i := 2) rfl | exact List.mem_of_getElem? (i := 3) rfl | exact List.mem_of_getElem? (i := 4) rfl | exact List.mem_of_getElem? (i := 5) rfl | exact List.mem_of_getElem? (i := 6) rfl | exact List.mem_of_getElem? (i := 7) rfl | exact List.mem_of_getElem? (i := 8) rfl | exact List.mem_of_getElem? (i := 9) rfl | exact List.mem_of_getElem? (i := 10) rfl | exact List.mem_of_getElem? (i := 11) rfl | exact List.mem_of_getElem? (i := 12) rfl | exact List.mem_of_getElem? (i := 13) rfl)⟩
set_option maxRecDepth 100000 in
theorem contract (H : Type) (enc : TypeId × Value → H) (W : World) (base : Nat) (args : Array Value) (ds gs : List (DataW H)) (before : List MemPlace)
    (hval : ∀ (j : Nat) t v, Tryz.f6.params[j]? = some t → args[j]? = some v → Value.okWide Tryz.prog W .any base t v)
    (hW : DataW.Whole enc Tryz.prog Tryz.f6.params.toList Rows.editKeepsSpec.vars false W args.toList ds gs before) (hL : laidMetH Tryz.prog Rows.editKeepsUptoRow.laid W) (hsh : W.ShapedOpen Tryz.prog) (hk : Rows.uptoSmall H (ds ++ gs) = true) :
    Calls Tryz.prog 6 args W fun e W' => ∃ v, e = .returned v ∧ Rows.editKeepsSpec.post enc Tryz.prog Tryz.f6 false true false false W args v W' := by
  have OP := opens hL hsh
  have hW' := hW
  obtain ⟨p, q, hA0, hV, rfl, hfz, hnd⟩ := hW
  have hA : DataW.TrodAll enc Tryz.prog W 0 (fun _ => true) true Tryz.f6.params.toList args.toList ds p := hA0
  rw [Tryz.params6] at hA hval
  obtain ⟨v0, vs0, d0, ds0, pl0, ql0, hargs, rfl, rfl, h0, r0⟩ := trodAll_cons hA
  obtain ⟨v1, vs1, d1, ds1, pl1, ql1, rfl, rfl, rfl, h1, r1⟩ := trodAll_cons r0
  obtain ⟨v2, vs2, d2, ds2, pl2, ql2, rfl, rfl, rfl, h2, r2⟩ := trodAll_cons r1
  obtain ⟨rfl, rfl, rfl⟩ := trodAll_nil r2
  obtain rfl : args = #[v0, v1, v2] := by cases args; simp_all
  obtain ⟨rfl, rfl⟩ := trodVars_none hV
  have hb := of_decide_eq_true hk
  simp only [List.append_nil, Rows.uptoBulkAll] at hb
  have hk0 := h0
  obtain ⟨d0, G0, rfl, D0, S0⟩ := open_gdbT (hval 0 43 v0 rfl rfl) h0 (by omega)
  have hk1 := h1
  obtain ⟨p1, A1, c1, rfl, q1, E1, b1, s1, f1, t1⟩ := open_planB (hval 1 46 v1 rfl rfl) h1
  have hk2 := h2
  obtain ⟨e2, rfl, s2⟩ := open_edtT (hval 2 26 v2 rfl rfl) h2
  have walk := lawEdKeeps_any d0 G0 p1 A1 c1 e2 W OP D0 S0 (s1 (by omega)) q1 E1 (by omega) (by omega) ⟨by have := s2.1; omega, by have := s2.2.1; omega, by have := s2.2.2.1; omega, by have := s2.2.2.2; omega⟩
  refine walk.mono fun e W' ⟨he, hg⟩ => ?_
  subst he
  have hl0 : ∀ x ∈ pl0, x.block < W.heap.size := fun x hx => by simpa using hW'.lt x (by simp [hx])
  have hl1 : ∀ x ∈ pl1, x.block < W.heap.size := fun x hx => by simpa using hW'.lt x (by simp [hx])
  have hl2 : ∀ x ∈ pl2, x.block < W.heap.size := fun x hx => by simpa using hW'.lt x (by simp [hx])
  refine ⟨_, rfl, _, _, _, [], (pl0 ++ (pl1 ++ (pl2 ++ []))), [], hW', ?_, ?_, rfl, ?_, fun h => by cases h⟩
  · exact trodAll_cons_mk (shut_bool Tryz.underlying4 _) trodAll_mk0
  · exact (trodAll_cons_mk (Below.trod laidOut (by kernel_rfl) (of_decide_eq_true (by kernel_rfl)) hk0 hg hl0) (trodAll_cons_mk (Below.trod laidOut (by kernel_rfl) (of_decide_eq_true (by kernel_rfl)) hk1 hg hl1) (trodAll_cons_mk (Below.trod laidOut (by kernel_rfl) (of_decide_eq_true (by kernel_rfl)) hk2 hg hl2) trodAll_mk0)))
  · exact hg.frame _
theorem reads (os : Os) {H : Type} (enc : TypeId × Value → H) : ∃ places, DataW.whole enc Tryz.prog ((World.laidAll Tryz.prog os Rows.editKeepsUptoRow.laid).forCall (fun _ _ => 0) ⟨#[], #[.agg #[.string ⟨#[]⟩, .int .i64 0, .int .i64 0, .int .i64 0, .int .i64 0, .int .i64 0, .slice none 0 0, .slice none 0 0, .slice none 0 0], .agg #[.string ⟨#[]⟩, .string ⟨#[]⟩, .slice none 0 0, .int .i64 0], .agg #[.int .u8 0, .int .i64 0, .string ⟨#[]⟩, .string ⟨#[]⟩, .string ⟨#[]⟩, .string ⟨#[]⟩, .int .i64 0, .int .i64 0, .int .i64 0, .int .i64 0, .int .i64 0, .int .u8 0]], []⟩).memory Tryz.f6.params.toList Rows.editKeepsSpec.vars false (#[.agg #[.string ⟨#[]⟩, .int .i64 0, .int .i64 0, .int .i64 0, .int .i64 0, .int .i64 0, .slice none 0 0, .slice none 0 0, .slice none 0 0], .agg #[.string ⟨#[]⟩, .string ⟨#[]⟩, .slice none 0 0, .int .i64 0], .agg #[.int .u8 0, .int .i64 0, .string ⟨#[]⟩, .string ⟨#[]⟩, .string ⟨#[]⟩, .string ⟨#[]⟩, .int .i64 0, .int .i64 0, .int .i64 0, .int .i64 0, .int .i64 0, .int .u8 0]] : Array Value).toList 8 = some ([.agg [.agg [.lit (.string []), .lit (.int .i64 0), .lit (.int .i64 0), .lit (.int .i64 0), .agg [.lit (.int .i64 0), .lit (.int .i64 0)]], .nil, .nil, .nil], .agg [.lit (.string []), .lit (.string []), .nil, .lit (.int .i64 0)], .agg [.lit (.int .u8 0), .lit (.int .i64 0), .lit (.string []), .lit (.string []), .lit (.string []), .lit (.string []), .agg [.lit (.int .i64 0), .lit (.int .i64 0)], .lit (.int .i64 0), .lit (.int .i64 0), .lit (.int .i64 0), .lit (.int .u8 0)]], [], places) :=
  ⟨[], by kernel_rfl⟩
set_option maxRecDepth 100000 in
theorem liftedUpto (os : Os) (started : os.Started) (H : Type) (enc : TypeId × Value → H) (F : Stop.Interp) :
    ReturnsInHanded {} Tryz.checked os 6 .any ((Rows.OpenSpec.upto Rows.editKeepsSpec).preRow enc Tryz.prog Tryz.f6 Rows.editKeepsUptoRow.domain false Rows.editKeepsUptoRow.laid) (((Rows.OpenSpec.upto Rows.editKeepsSpec).at F).post enc Tryz.prog Tryz.f6 false true false false) := by
  obtain ⟨places, hx⟩ := reads os enc
  refine returnsInHanded_of_row (C := Tryz.checked) (s := Rows.OpenSpec.upto Rows.editKeepsSpec) own started (by kernel_rfl) Tryz.func6
    (witness_row_atRef (enc := enc) (C := Tryz.checked) false (World.laidAll Tryz.prog os Rows.editKeepsUptoRow.laid) #[.agg #[.string ⟨#[]⟩, .int .i64 0, .int .i64 0, .int .i64 0, .int .i64 0, .int .i64 0, .slice none 0 0, .slice none 0 0, .slice none 0 0], .agg #[.string ⟨#[]⟩, .string ⟨#[]⟩, .slice none 0 0, .int .i64 0], .agg #[.int .u8 0, .int .i64 0, .string ⟨#[]⟩, .string ⟨#[]⟩, .string ⟨#[]⟩, .string ⟨#[]⟩, .int .i64 0, .int .i64 0, .int .i64 0, .int .i64 0, .int .i64 0, .int .u8 0]] (World.laidAll_os _ _ _) (by kernel_rfl) (by kernel_rfl) (by kernel_rfl)
      (OpenSpec.preRow_of_cond 8 hx (by kernel_rfl) (fun k hk => by cases hk; kernel_rfl) (by kernel_rfl) (laidMet_laidAll _ (by kernel_rfl) (by kernel_rfl)))) ?_
  intro W base args ds gs before hval hW _ hcond _ hL hsh _
  exact contract H enc W base args ds gs before hval hW hL hsh (hcond _ rfl)
set_option maxHeartbeats 40000000 in
theorem saidUpto : Rows.EditKeepsUptoSaid :=
  OpenClaim.holds_of_cond 6 Tryz.f6 rfl rfl rfl rfl rfl rfl rfl ⟨rfl, rfl, rfl, rfl, rfl⟩ rfl rfl rfl rfl rfl (by as_aux_lemma => kernel_rfl) Tryz.func6 (by
      unfold joinedFacts
      simp only [Bool.and_eq_true]
      repeat' apply And.intro
      all_goals (as_aux_lemma => kernel_rfl))
    (of_decide_eq_true (by as_aux_lemma => kernel_rfl)) (by unfold Func.isWrapper; first | (rw [if_pos (by decide +kernel)]; kernel_rfl) | (rw [if_neg (by decide +kernel)]; exact ⟨rfl, rfl⟩))
    (fun os started H enc _ F => by rw [OpenClaim.pre_eq_preRow]; exact liftedUpto os started H enc F)
theorem plain (f : FuncId) (fn : Func) (hf : Tryz.pinned.checked.prog.funcNamed "flightdeck/flightdecklaw23.EditKeeps" = some f) (hfn : Tryz.pinned.checked.prog.funcs[f]? = some fn) :
    true = Tryz.pinned.checked.prog.looks [] ∧ ∀ (j : Nat) t, fn.params[j]? = some t → Tryz.pinned.checked.prog.wantsStandIn t = false := by
  obtain rfl : f = 6 := Option.some.inj ((show Tryz.prog.funcNamed "flightdeck/flightdecklaw23.EditKeeps" = some 6 by kernel_rfl).symm.trans hf) |>.symm
  obtain rfl : fn = Tryz.f6 := (Option.some.inj (Tryz.func6.symm.trans hfn)).symm
  refine ⟨by kernel_rfl, fun j t ht => ?_⟩
  rw [Tryz.params6] at ht
  have hm := Array.mem_of_getElem? ht
  have h : t = 43 ∨ t = 46 ∨ t = 26 := by simpa using hm
  rcases h with rfl | rfl | rfl
  · exact (show Tryz.prog.wantsStandIn 43 = false by kernel_rfl)
  · exact (show Tryz.prog.wantsStandIn 46 = false by kernel_rfl)
  · exact (show Tryz.prog.wantsStandIn 26 = false by kernel_rfl)
end Go.Proofs.YtnmpfmelaninbaaGreatDoor.editKeeps
namespace Go.Proofs.YtnmpfmelaninbaaGreatDoor
set_option maxHeartbeats 40000000 in
/-- The card of the second form. -/
theorem editKeeps_card : Rows.EditKeepsUptoCardSaid :=
  Claim7.holds_tied_plain_at .later [] _ _ _ _ editKeeps.saidUpto (fun _ h => by cases h) (by as_aux_lemma => kernel_rfl) (fun _ h => by cases h) editKeepsUpto_row_tie rfl ⟨rfl, rfl⟩ (by as_aux_lemma => kernel_rfl) rfl editKeeps.plain (by as_aux_lemma => kernel_rfl)
end Go.Proofs.YtnmpfmelaninbaaGreatDoor
