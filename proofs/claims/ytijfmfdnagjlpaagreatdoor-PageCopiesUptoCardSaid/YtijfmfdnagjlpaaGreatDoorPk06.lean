/- Slices of entries in memory. Decimal numbers as lists of bytes: plain digits, their value, and that the two are inverse. No program in sight. The texts of altitudes, windows and distances, and what such texts mean; the two are inverse. No program in sight. '==' and '!=' on points, windows, legs and entries. The first error of a plan, in plain Lean. Structs out of and into memory as rules of the walk itself. -/
import Derived.Test.YtijfmfdnagjlpaaGreatDoorPk05
import Derived.Lib.ItoaNum
import Derived.Lib.ItoaLen
import Derived.Lib.ParseIntBTie
import Derived.Lib.ParseIntBCases
import Derived.Test.YtijfmfdnagjlpaaGreatDoorPk01
import Derived.Test.YtijfmfdnagjlpaaGreatDoorPk04
import Derived.Deep.MidRow
import Derived.Deep.WholeRow
import Derived.Deep.Light
import Derived.Laws.StructEq
namespace Go.Proofs.YtijfmfdnagjlpaaGreatDoor
open Go.RowKit
set_option linter.unusedVariables false
set_option linter.unusedSimpArgs false

theorem Entry.leg_sub (x : Entry) : ∀ j, j < 13 → x.arr[1 + j]? = x.leg.arr[j]? := by
  intro j hj
  match j, hj with
  | 0, _ | 1, _ | 2, _ | 3, _ | 4, _ | 5, _ | 6, _ | 7, _ | 8, _ | 9, _ | 10, _ | 11, _ | 12, _ => rfl
theorem infoEntry : (Tryz.prog.info? 87).map (·.size) = some 20 := by kernel_rfl
theorem infoLeg : (Tryz.prog.info? 84).map (·.size) = some 13 := by kernel_rfl
theorem infoPlan : (Tryz.prog.info? 26).map (·.size) = some 4 := by kernel_rfl

/-- The slice (its address A) reads as the entries es. -/
structure Ents (w : World) (A : Option Addr) (es : List Entry) : Prop where
  at_ : es ≠ [] → ∃ b off, A = some ⟨b, off, none⟩ ∧ b < w.heap.size ∧ ∀ i x, es[i]? = some x → ∀ j, j < 20 → w.cell? ⟨b, off + i * 20 + j, none⟩ = x.arr[j]?
theorem Ents.get {w : World} {A : Option Addr} {es : List Entry} (h : Ents w A es) {k : Nat} (hk : k < es.length) :
    ∃ b off, A = some ⟨b, off, none⟩ ∧ b < w.heap.size ∧ ∀ j, j < 20 → w.cell? ⟨b, off + k * 20 + j, none⟩ = es[k].arr[j]? := by
  obtain ⟨b, off, rfl, hb, hc⟩ := h.at_ (by rintro rfl; simp at hk)
  exact ⟨b, off, rfl, hb, hc k _ (List.getElem?_eq_getElem hk)⟩
theorem Ents.below {w w' : World} {A : Option Addr} {es : List Entry} {B : Nat} (h : Ents w A es) (hb : Below w.heap.size w w') : Ents w' A es where
  at_ hne := by
    obtain ⟨b, off, rfl, hlt, hc⟩ := h.at_ hne
    exact ⟨b, off, rfl, Nat.lt_of_lt_of_le hlt hb.size, fun i x hx j hj => by rw [hb.cell (p := ⟨b, _, none⟩) hlt]; exact hc i x hx j hj⟩
/-- The cells of element k in a later world. -/
theorem Ents.cells {w W : World} {b off : Nat} {es : List Entry} (h : Ents w (some ⟨b, off, none⟩) es) (hB : Below w.heap.size w W) {k : Nat} (hk : k < es.length) :
    ∀ j, j < 20 → W.cell? ⟨b, off + k * 20 + j, none⟩ = es[k].arr[j]? := by
  obtain ⟨b', off', hA, hb, hc⟩ := h.get hk
  obtain ⟨rfl, rfl⟩ : b = b' ∧ off = off' := by simpa using hA
  exact fun j hj => by rw [hB.cell (p := ⟨b, _, none⟩) hb]; exact hc j hj
theorem Ents.nil (w : World) (A : Option Addr) : Ents w A [] := ⟨fun h => absurd rfl h⟩

structure Plan where
  from_ : List UInt8
  to_ : List UInt8
  es : List Entry
  active : Int
def Plan.arr (p : Plan) (A : Option Addr) (c : Nat) : Array Value := #[.string ⟨p.from_.toArray⟩, .string ⟨p.to_.toArray⟩, .slice A p.es.length c, .int .i64 p.active]
abbrev Plan.val (p : Plan) (A : Option Addr) (c : Nat) : Value := .agg (p.arr A c)
theorem Plan.arr0 (p : Plan) (A : Option Addr) (c : Nat) : (p.arr A c)[0]? = some (.string ⟨p.from_.toArray⟩) := rfl
theorem Plan.arr1 (p : Plan) (A : Option Addr) (c : Nat) : (p.arr A c)[1]? = some (.string ⟨p.to_.toArray⟩) := rfl
theorem Plan.arr2 (p : Plan) (A : Option Addr) (c : Nat) : (p.arr A c)[2]? = some (.slice A p.es.length c) := rfl
theorem Plan.arr3 (p : Plan) (A : Option Addr) (c : Nat) : (p.arr A c)[3]? = some (.int .i64 p.active) := rfl
attribute [go_sem] Plan.arr0 Plan.arr1 Plan.arr2 Plan.arr3
structure Plan.small (p : Plan) : Prop where
  from_ : p.from_.length ≤ 4000000000
  to_ : p.to_.length ≤ 4000000000
  len : p.es.length ≤ 4000000000
  each : ∀ x ∈ p.es, x.small

def findGo (at_ : Int) (ref : List UInt8) : List Entry → Nat → Int
  | [], _ => -1
  | x :: r, i => if decide (at_ ≤ i) && !x.gap && endsB x.leg.ty && x.leg.fix == ref then i else findGo at_ ref r (i + 1)
def findE (p : Plan) (at_ : Int) (ref : List UInt8) : Int := findGo at_ ref p.es 0
end Go.Proofs.YtijfmfdnagjlpaaGreatDoor
namespace Go.Proofs.YtijfmfdnagjlpaaGreatDoor
set_option linter.unusedVariables false
set_option linter.unusedSimpArgs false
def isD (c : UInt8) : Bool := decide (48 ≤ c.toNat) && decide (c.toNat ≤ 57)
def dg (n : Nat) : UInt8 := UInt8.ofNat (48 + n)
theorem dg_toNat {n : Nat} (h : n < 10) : (dg n).toNat = 48 + n := by
  unfold dg; rw [UInt8.toNat_ofNat']; omega
theorem dg_of {c : UInt8} (h : isD c = true) : dg (c.toNat - 48) = c := by
  have h1 : 48 ≤ c.toNat ∧ c.toNat ≤ 57 := by simpa [isD] using h
  apply UInt8.toNat_inj.1
  rw [dg_toNat (by omega)]; omega
theorem isD_dg {n : Nat} (h : n < 10) : isD (dg n) = true := by simp [isD, dg_toNat h]; omega
/-- The value of digits, the ones ahead of them standing for a. -/
def numV (a : Nat) (l : List UInt8) : Nat := l.foldl (fun n c => 10 * n + (c.toNat - 48)) a
theorem numV_nil (a : Nat) : numV a [] = a := rfl
theorem numV_cons (a : Nat) (c : UInt8) (r : List UInt8) : numV a (c :: r) = numV (10 * a + (c.toNat - 48)) r := by unfold numV; rw [List.foldl_cons]
def val (l : List UInt8) : Nat := numV 0 l
theorem numV_append (a : Nat) (l r : List UInt8) : numV a (l ++ r) = numV (numV a l) r := by
  induction l generalizing a with
  | nil => rfl
  | cons c l ih => rw [List.cons_append, numV_cons, numV_cons]; exact ih _
theorem numV_lt : ∀ (l : List UInt8) (hl : l.all isD = true) (a p : Nat), a < p → numV a l < p * 10 ^ l.length
  | [], _, a, p, h => by simpa [numV_nil] using h
  | c :: l, hl, a, p, h => by
    simp only [List.all_cons, Bool.and_eq_true] at hl
    have hc : 48 ≤ c.toNat ∧ c.toNat ≤ 57 := by simpa [isD] using hl.1
    have := numV_lt l hl.2 (10 * a + (c.toNat - 48)) (10 * p) (by omega)
    rw [List.length_cons, Nat.pow_succ, Nat.mul_comm (10 ^ l.length) 10, ← Nat.mul_assoc, Nat.mul_comm p 10]
    rw [numV_cons]
    exact this
theorem numV_ge (l : List UInt8) : ∀ a : Nat, a ≤ numV a l := by
  induction l with
  | nil => intro a; simp [numV_nil]
  | cons c l ih => intro a; have := ih (10 * a + (c.toNat - 48)); simp only [numV_cons]; omega
theorem numV_ge_pow (l : List UInt8) : ∀ (a k : Nat), 10 ^ k ≤ a → 10 ^ (k + l.length) ≤ numV a l := by
  induction l with
  | nil => intro a k h; simp only [numV_nil, List.length_nil, Nat.add_zero]; exact h
  | cons c l ih =>
    intro a k h
    have hp : 10 ^ (k + 1) ≤ 10 * a + (c.toNat - 48) := by rw [Nat.pow_succ]; omega
    have := ih (10 * a + (c.toNat - 48)) (k + 1) hp
    rw [show k + (c :: l).length = k + 1 + l.length by simp; omega]
    simp only [numV_cons]
    exact this
theorem val_lt (l : List UInt8) (hl : l.all isD = true) : val l < 10 ^ l.length := by
  have := numV_lt l hl 0 1 (by decide); rw [Nat.one_mul] at this; exact this
theorem val_snoc (l : List UInt8) (c : UInt8) : val (l ++ [c]) = 10 * val l + (c.toNat - 48) := by unfold val; rw [numV_append, numV_cons, numV_nil]
/-- A number without a sign and without a zero ahead of another digit. -/
def plainB : List UInt8 → Bool
  | [] => false
  | c :: r => (r.isEmpty || c != 48) && (c :: r).all isD
theorem plainB_all {l : List UInt8} (h : plainB l = true) : l.all isD = true := by
  cases l with
  | nil => rfl
  | cons c r => simp only [plainB, Bool.and_eq_true] at h; exact h.2
theorem plainB_ne {l : List UInt8} (h : plainB l = true) : l ≠ [] := by rintro rfl; simp [plainB] at h
theorem dec_small {u : Nat} (h : u < 10) : Lib.decDigits u = [dg u] := Lib.decDigits_one h
theorem dec_big {u : Nat} (h : ¬ u < 10) : Lib.decDigits u = Lib.decDigits (u / 10) ++ [dg (u % 10)] := by rw [Lib.decDigits, dif_neg h]; rfl
theorem val_dec (u : Nat) : val (Lib.decDigits u) = u := by
  induction u using Nat.strongRecOn with
  | ind u ih =>
    by_cases h : u < 10
    · rw [dec_small h]; simp [val, numV_cons, numV_nil, dg_toNat h]
    · rw [dec_big h, val_snoc, ih _ (by omega), dg_toNat (by omega)]; omega
theorem dec_all (u : Nat) : (Lib.decDigits u).all isD = true := by
  induction u using Nat.strongRecOn with
  | ind u ih =>
    by_cases h : u < 10
    · rw [dec_small h]; simp [isD_dg h]
    · rw [dec_big h, List.all_append, ih _ (by omega)]; simp [isD_dg (show u % 10 < 10 by omega)]
theorem dec_ne (u : Nat) : Lib.decDigits u ≠ [] := by
  intro h
  have := Lib.decDigits_length u
  have := Lib.nDigits_pos u
  rw [h] at *; simp at *; omega
theorem dec_head (u : Nat) (h : 0 < u) : ∃ c r, Lib.decDigits u = c :: r ∧ c ≠ 48 := by
  induction u using Nat.strongRecOn with
  | ind u ih =>
    by_cases hu : u < 10
    · refine ⟨dg u, [], dec_small hu, ?_⟩
      intro e
      have := congrArg UInt8.toNat e
      rw [dg_toNat hu] at this
      simp at this; omega
    · obtain ⟨c, r, h1, h2⟩ := ih (u / 10) (by omega) (by omega)
      exact ⟨c, r ++ [dg (u % 10)], by rw [dec_big hu, h1]; rfl, h2⟩
theorem plain_dec (u : Nat) : plainB (Lib.decDigits u) = true := by
  by_cases h : u = 0
  · subst h; rw [dec_small (by decide)]; decide
  · obtain ⟨c, r, h1, h2⟩ := dec_head u (by omega)
    have := dec_all u
    rw [h1] at this ⊢
    simp [plainB, h2] at this ⊢
    exact this
theorem snoc_ind {P : List UInt8 → Prop} (h0 : P []) (h1 : ∀ l c, P l → P (l ++ [c])) (l : List UInt8) : P l := by
  rw [← List.reverse_reverse l]
  induction l.reverse with
  | nil => exact h0
  | cons a r ih => rw [List.reverse_cons]; exact h1 _ _ ih
theorem val_pos (c : UInt8) (r : List UInt8) (hd : isD c = true) (h : c ≠ 48) : 0 < val (c :: r) := by
  have h1 : 48 ≤ c.toNat ∧ c.toNat ≤ 57 := by simpa [isD] using hd
  have h2 : c.toNat ≠ 48 := fun e => h (UInt8.toNat_inj.1 e)
  have := numV_ge r (10 * 0 + (c.toNat - 48))
  simp only [val, numV_cons, numV_nil]; omega
theorem dec_val (l : List UInt8) : plainB l = true → Lib.decDigits (val l) = l := by
  induction l using snoc_ind with
  | h0 => intro h; simp [plainB] at h
  | h1 l c ih =>
    intro h
    have ha := plainB_all h
    rw [List.all_append] at ha
    simp only [List.all_cons, List.all_nil, Bool.and_true, Bool.and_eq_true] at ha
    have hc : 48 ≤ c.toNat ∧ c.toNat ≤ 57 := by simpa [isD] using ha.2
    rw [val_snoc]
    cases l with
    | nil =>
      rw [dec_small (by simp [val, numV_cons, numV_nil]; omega)]
      simp [val, numV_cons, numV_nil, dg_of ha.2]
    | cons a r =>
      have hn : a ≠ 48 := by
        intro e; subst e
        simp [plainB] at h
      have ha' := ha.1
      simp only [List.all_cons, Bool.and_eq_true] at ha'
      have hp : plainB (a :: r) = true := by simp only [plainB, List.all_cons, Bool.and_eq_true]; exact ⟨by simp [hn], ha'⟩
      have := val_pos a r ha'.1 hn
      rw [dec_big (by omega), show (10 * val (a :: r) + (c.toNat - 48)) / 10 = val (a :: r) by omega, ih hp, show (10 * val (a :: r) + (c.toNat - 48)) % 10 = c.toNat - 48 by omega, dg_of ha.2]
theorem dec_len {u k : Nat} (hk : 0 < k) (h : u < 10 ^ k) : (Lib.decDigits u).length ≤ k := by
  rcases Nat.lt_or_ge k (Lib.decDigits u).length with hlt | hge
  · by_cases h0 : u = 0
    · subst h0; rw [dec_small (by decide)] at hlt; simp at hlt; omega
    · obtain ⟨c, r, h1, h2⟩ := dec_head u (by omega)
      have hd := dec_all u
      rw [h1] at hd hlt
      simp only [List.all_cons, Bool.and_eq_true] at hd
      have hv := val_pos c r hd.1 h2
      have e : val (c :: r) = u := by rw [← h1, val_dec]
      have hc : 48 ≤ c.toNat ∧ c.toNat ≤ 57 := by simpa [isD] using hd.1
      have h3 : c.toNat ≠ 48 := fun e => h2 (UInt8.toNat_inj.1 e)
      have := numV_ge_pow r (10 * 0 + (c.toNat - 48)) 0 (by simp; omega)
      rw [show numV (10 * 0 + (c.toNat - 48)) r = u from e] at this
      have h4 : 10 ^ k ≤ 10 ^ (0 + r.length) := Nat.pow_le_pow_right (by decide) (by simp at hlt; omega)
      omega
  · exact hge
theorem parseUintM_digits (M : Nat) (hM : M ≤ 18446744073709551615) : ∀ (l : List UInt8) (a : Nat), l.all isD = true → numV a l ≤ M → Lib.parseUintM M a l = .ok (numV a l)
  | [], a, _, _ => rfl
  | c :: r, a, h, hm => by
    simp only [List.all_cons, Bool.and_eq_true] at h
    have hc : 48 ≤ c.toNat ∧ c.toNat ≤ 57 := by simpa [isD] using h.1
    have hge := numV_ge r (10 * a + (c.toNat - 48))
    simp only [numV_cons] at hm ⊢
    rw [Lib.parseUintM, if_pos hc, if_neg (by omega), if_neg (by omega), Nat.mul_comm a 10]
    exact parseUintM_digits M hM r _ h.2 hm
theorem parseInt_plain (l : List UInt8) (hne : l ≠ []) (h : l.all isD = true) (hv : val l < 9223372036854775808) : Lib.parseIntB 64 l = .ok (val l : Int) := by
  cases l with
  | nil => exact absurd rfl hne
  | cons c r =>
    have h' := h
    simp only [List.all_cons, Bool.and_eq_true] at h'
    have hc : 48 ≤ c.toNat ∧ c.toNat ≤ 57 := by simpa [isD] using h'.1
    rw [Lib.parseIntB_plain 64 c r (by omega) (by omega), Lib.parseUintB, if_neg (by simp), parseUintM_digits _ (by decide) _ _ h (by unfold val at hv; omega)]
    simp only [Lib.signlessC]
    unfold val at hv
    rw [if_neg (by omega)]
    rfl
end Go.Proofs.YtijfmfdnagjlpaaGreatDoor
namespace Go.Proofs.YtijfmfdnagjlpaaGreatDoor
set_option linter.unusedVariables false
set_option linter.unusedSimpArgs false
/-- An altitude without its sign. -/
def altN (m : Nat) : List UInt8 := Lib.decDigits (m / 100) ++ if m % 100 = 0 then [] else 46 :: (Lib.decDigits (m % 100 / 10) ++ Lib.decDigits (m % 10))
def altS (a : Int) : List UInt8 := (if a < 0 then [45] else []) ++ altN a.natAbs
def altT (a : Int) : List UInt8 × Int := if -200000 ≤ a ∧ a ≤ 6000000 then (altS a, 0) else ([], 2)
theorem altT_out {a : Int} (h : ¬ (-200000 ≤ a ∧ a ≤ 6000000)) : altT a = ([], 2) := by unfold altT; rw [if_neg h]
theorem altT_in {a : Int} (h : -200000 ≤ a ∧ a ≤ 6000000) : altT a = (altS a, 0) := by unfold altT; rw [if_pos h]
theorem altS_pos {a : Int} (h : 0 ≤ a) : altS a = altN a.toNat := by unfold altS; rw [if_neg (by omega), show a.natAbs = a.toNat by omega]; rfl
theorem altS_neg {m : Int} (h : 0 < m) : altS (-m) = 45 :: altN m.toNat := by unfold altS; rw [if_pos (by omega), show (-m).natAbs = m.toNat by omega]; rfl
theorem altN_whole {m : Int} (h0 : 0 ≤ m) (h : m % 100 = 0) : altN m.toNat = Lib.decDigits (m / 100).toNat := by
  unfold altN; rw [if_pos (by omega), show m.toNat / 100 = (m / 100).toNat by omega]; simp
theorem altN_part {m : Int} (h0 : 0 ≤ m) (h : ¬ m % 100 = 0) : altN m.toNat = Lib.decDigits (m / 100).toNat ++ (46 :: (Lib.decDigits (m % 100 / 10).toNat ++ Lib.decDigits (m % 10).toNat)) := by
  unfold altN; rw [if_neg (by omega), show m.toNat / 100 = (m / 100).toNat by omega, show m.toNat % 100 / 10 = (m % 100 / 10).toNat by omega, show m.toNat % 10 = (m % 10).toNat by omega]
theorem altN_len {m : Nat} (h : m ≤ 6000000) : (altN m).length ≤ 12 := by
  have h1 : (Lib.decDigits (m / 100)).length ≤ 6 := dec_len (by decide) (by omega)
  have h2 : (Lib.decDigits (m % 100 / 10)).length ≤ 1 := dec_len (by decide) (by omega)
  have h3 : (Lib.decDigits (m % 10)).length ≤ 1 := dec_len (by decide) (by omega)
  unfold altN
  split <;> simp <;> omega
theorem altS_len {a : Int} (h0 : -200000 ≤ a) (h : a ≤ 6000000) : (altS a).length ≤ 13 := by
  have := altN_len (m := a.natAbs) (by omega)
  unfold altS
  split <;> simp <;> omega
/-- A window's text. -/
def winS (lo hi : Int) : List UInt8 :=
  if lo = -200000 ∧ hi = 6000000 then [45] else if lo = hi then altS lo else if hi = 6000000 then altS lo ++ [43] else if lo = -200000 then altS hi ++ [45] else altS lo ++ (58 :: altS hi)
def winOk (lo hi : Int) : Prop := -200000 ≤ lo ∧ lo ≤ hi ∧ hi ≤ 6000000
instance (lo hi : Int) : Decidable (winOk lo hi) := by unfold winOk; infer_instance
def winT (lo hi : Int) : List UInt8 × Int := if winOk lo hi then (winS lo hi, 0) else ([], 1)
theorem winT_in {lo hi : Int} (h : winOk lo hi) : winT lo hi = (winS lo hi, 0) := by unfold winT; rw [if_pos h]
theorem winT_out {lo hi : Int} (h : ¬ winOk lo hi) : winT lo hi = ([], 1) := by unfold winT; rw [if_neg h]
theorem winS_len {lo hi : Int} (h : winOk lo hi) : (winS lo hi).length ≤ 27 := by
  obtain ⟨h1, h2, h3⟩ := h
  have a := altS_len h1 (by omega)
  have b := altS_len (a := hi) (by omega) h3
  unfold winS
  repeat' split
  all_goals simp
  all_goals omega
/-- A distance's text: miles, and the rest of a mile. -/
def distS (d : Nat) : List UInt8 := Lib.decDigits (d / 6000) ++ if d % 6000 = 0 then [] else 43 :: Lib.decDigits (d % 6000)
def distT (d : Int) : List UInt8 × Int := if 0 ≤ d ∧ d ≤ 8000000 then (distS d.toNat, 0) else ([], 2)
theorem distT_in {d : Int} (h : 0 ≤ d ∧ d ≤ 8000000) : distT d = (distS d.toNat, 0) := by unfold distT; rw [if_pos h]
theorem distT_out {d : Int} (h : ¬ (0 ≤ d ∧ d ≤ 8000000)) : distT d = ([], 2) := by unfold distT; rw [if_neg h]
theorem distS_whole {d : Int} (h0 : 0 ≤ d) (h : d % 6000 = 0) : distS d.toNat = Lib.decDigits (d / 6000).toNat := by
  unfold distS; rw [if_pos (by omega), show d.toNat / 6000 = (d / 6000).toNat by omega]; simp
theorem distS_part {d : Int} (h0 : 0 ≤ d) (h : ¬ d % 6000 = 0) : distS d.toNat = Lib.decDigits (d / 6000).toNat ++ (43 :: Lib.decDigits (d % 6000).toNat) := by
  unfold distS; rw [if_neg (by omega), show d.toNat / 6000 = (d / 6000).toNat by omega, show d.toNat % 6000 = (d % 6000).toNat by omega]
theorem distS_len {d : Nat} (h : d ≤ 8000000) : (distS d).length ≤ 10 := by
  have h1 : (Lib.decDigits (d / 6000)).length ≤ 4 := dec_len (by decide) (by omega)
  have h2 : (Lib.decDigits (d % 6000)).length ≤ 4 := dec_len (by decide) (by omega)
  unfold distS
  split <;> simp <;> omega
/-! What such texts mean. -/
def cutPre (c : UInt8) (l : List UInt8) : List UInt8 × Bool := match l with | x :: r => if x = c then (r, true) else (l, false) | [] => ([], false)
def cutSuf (c : UInt8) (l : List UInt8) : List UInt8 × Bool := if l.getLast? = some c then (l.dropLast, true) else (l, false)
/-- Two digits that are not both zero. -/
def hundB : List UInt8 → Bool
  | [a, b] => isD a && isD b && !(a == 48 && b == 48)
  | _ => false
def feetV (feet : List UInt8) : Int := if feet.length < 10 then (val feet : Int) else 1099511627776
def altP3 (minus : Bool) (feet hund : List UInt8) (point : Bool) : Int × Bool :=
  if plainB feet = true ∧ (point = false ∨ hundB hund = true) then
    (if minus then (-(feetV feet * 100 + if point then (val hund : Int) else 0), decide (feetV feet * 100 + (if point then (val hund : Int) else 0) ≠ 0)) else (feetV feet * 100 + (if point then (val hund : Int) else 0), true))
  else (0, false)
def altP (s : List UInt8) : Int × Bool := altP3 (cutPre 45 s).2 (cutAt 46 (cutPre 45 s).1).1 (cutAt 46 (cutPre 45 s).1).2.1 (cutAt 46 (cutPre 45 s).1).2.2
def winP (s : List UInt8) : (Int × Int) × Bool :=
  if s = [45] then ((-200000, 6000000), true)
  else if (cutAt 58 s).2.2 then (((altP (cutAt 58 s).1).1, (altP (cutAt 58 s).2.1).1), (altP (cutAt 58 s).1).2 && (altP (cutAt 58 s).2.1).2)
  else if (cutSuf 43 s).2 then (((altP (cutSuf 43 s).1).1, 6000000), (altP (cutSuf 43 s).1).2)
  else if (cutSuf 45 s).2 then ((-200000, (altP (cutSuf 45 s).1).1), (altP (cutSuf 45 s).1).2)
  else (((altP s).1, (altP s).1), (altP s).2)
def rangedB (a : Int) : Bool := decide (-200000 ≤ a) && decide (a ≤ 6000000)
def parseWinS (s : List UInt8) : (Int × Int) × Int :=
  if (winP s).2 = true then
    if rangedB (winP s).1.1 = true ∧ rangedB (winP s).1.2 = true then
      if (winP s).1.2 < (winP s).1.1 then ((0, 0), 9) else if winS (winP s).1.1 (winP s).1.2 = s then ((winP s).1, 0) else ((0, 0), 4)
    else ((0, 0), 2)
  else ((0, 0), 4)
def restOk (r : List UInt8) : Bool := plainB r && !(r == [48]) && decide (r.length ≤ 4)
def distP3 (miles rest : List UInt8) (two : Bool) : Int × Int :=
  if plainB miles = true ∧ (two = false ∨ restOk rest = true) then
    if two = true ∧ 6000 ≤ val rest then (0, 4)
    else if 9 < miles.length then (0, 2)
    else if 8000000 < val miles * 6000 + (if two then val rest else 0) then (0, 2) else (((val miles * 6000 + (if two then val rest else 0) : Nat) : Int), 0)
  else (0, 4)
def distP (s : List UInt8) : Int × Int := distP3 (cutAt 43 s).1 (cutAt 43 s).2.1 (cutAt 43 s).2.2
/-! The two are inverse. -/
theorem isD_ne {c d : UInt8} (h : isD c = true) (hd : isD d = false) : c ≠ d := by rintro rfl; rw [h] at hd; cases hd
theorem cutAt_digits {c : UInt8} (hc : isD c = false) (l r : List UInt8) (h : l.all isD = true) : cutAt c (l ++ c :: r) = (l, r, true) := by
  induction l with
  | nil => simp [cutAt]
  | cons x l ih =>
    simp only [List.all_cons, Bool.and_eq_true] at h
    have := isD_ne h.1 hc
    simp [cutAt, this, ih h.2]
theorem cutAt_plain {c : UInt8} (hc : isD c = false) (l : List UInt8) (h : l.all isD = true) : cutAt c l = (l, [], false) := by
  refine cutAt_none c l ?_
  rw [List.all_eq_true] at h ⊢
  intro x hx
  simpa using isD_ne (h x hx) hc
theorem distP_distS {d : Nat} (h : d ≤ 8000000) : distP (distS d) = ((d : Int), 0) := by
  have ha := dec_all (d / 6000)
  have hp := plain_dec (d / 6000)
  have hv := val_dec (d / 6000)
  have hl : (Lib.decDigits (d / 6000)).length ≤ 4 := dec_len (by decide) (by omega)
  unfold distP distS
  by_cases hk : d % 6000 = 0
  · rw [if_pos hk, List.append_nil, cutAt_plain (by decide) _ ha]
    show distP3 (Lib.decDigits (d / 6000)) [] false = _
    unfold distP3
    rw [if_pos ⟨hp, .inl rfl⟩, if_neg (by simp), if_neg (by omega), hv]
    simp only [Bool.false_eq_true, if_false]
    rw [if_neg (by omega)]
    simp; omega
  · rw [if_neg hk, cutAt_digits (by decide) _ _ ha]
    have hp2 := plain_dec (d % 6000)
    have hv2 := val_dec (d % 6000)
    have hl2 : (Lib.decDigits (d % 6000)).length ≤ 4 := dec_len (by decide) (by omega)
    have hr : restOk (Lib.decDigits (d % 6000)) = true := by
      unfold restOk
      rw [hp2]
      have : ¬ Lib.decDigits (d % 6000) = [48] := by
        intro e
        rw [e] at hv2
        have : val [48] = 0 := by decide
        omega
      simp [this, hl2]
    show distP3 (Lib.decDigits (d / 6000)) (Lib.decDigits (d % 6000)) true = _
    unfold distP3
    rw [if_pos ⟨hp, .inr hr⟩, if_neg (by omega), if_neg (by omega), hv, hv2]
    simp only [if_true]
    rw [if_neg (by omega)]
    simp; omega
theorem distP3_bd {a r : List UInt8} {b : Bool} (h : (distP3 a r b).2 = 0) : 0 ≤ (distP3 a r b).1 ∧ (distP3 a r b).1 ≤ 8000000 := by
  unfold distP3 at h ⊢
  generalize (if b = true then val r else 0) = k at h ⊢
  by_cases h1 : plainB a = true ∧ (b = false ∨ restOk r = true)
  · rw [if_pos h1] at h ⊢
    by_cases h2 : b = true ∧ 6000 ≤ val r
    · rw [if_pos h2] at h; simp at h
    · rw [if_neg h2] at h ⊢
      by_cases h3 : 9 < a.length
      · rw [if_pos h3] at h; simp at h
      · rw [if_neg h3] at h ⊢
        by_cases h4 : 8000000 < val a * 6000 + k
        · rw [if_pos h4] at h; simp at h
        · rw [if_neg h4]
          simp only
          omega
  · rw [if_neg h1] at h; simp at h
theorem distS_distP {s : List UInt8} (h : (distP s).2 = 0) : 0 ≤ (distP s).1 ∧ (distP s).1 ≤ 8000000 := distP3_bd h
theorem altN_digits {m : Nat} : ∃ c r, altN m = c :: r ∧ isD c = true := by
  have h1 := dec_all (m / 100)
  have h2 := dec_ne (m / 100)
  unfold altN
  match h : Lib.decDigits (m / 100) with
  | [] => exact absurd h h2
  | c :: r =>
    rw [h] at h1
    simp only [List.all_cons, Bool.and_eq_true] at h1
    exact ⟨c, _, rfl, h1.1⟩
theorem cutPre_altS {a : Int} : cutPre 45 (altS a) = (altN a.natAbs, decide (a < 0)) := by
  unfold altS
  by_cases h : a < 0
  · rw [if_pos h]; simp [cutPre, h]
  · rw [if_neg h]
    obtain ⟨c, r, h1, h2⟩ := altN_digits (m := a.natAbs)
    rw [h1]
    have := isD_ne h2 (d := 45) (by decide)
    simp [cutPre, this, h]
theorem altP_altS {a : Int} (h0 : -200000 ≤ a) (h1 : a ≤ 6000000) : altP (altS a) = (a, true) := by
  unfold altP
  rw [cutPre_altS]
  simp only
  have hm : a.natAbs ≤ 6000000 := by omega
  obtain ⟨m, hmm⟩ : ∃ m, m = a.natAbs := ⟨_, rfl⟩
  rw [← hmm] at hm ⊢
  have ha := dec_all (m / 100)
  have hp := plain_dec (m / 100)
  have hv := val_dec (m / 100)
  have hl : (Lib.decDigits (m / 100)).length ≤ 6 := dec_len (by decide) (by omega)
  have hf : feetV (Lib.decDigits (m / 100)) = ((m / 100 : Nat) : Int) := by unfold feetV; rw [if_pos (by omega), hv]
  unfold altN
  by_cases hk : m % 100 = 0
  · rw [if_pos hk, List.append_nil, cutAt_plain (by decide) _ ha]
    show altP3 _ (Lib.decDigits (m / 100)) [] false = _
    unfold altP3
    rw [if_pos ⟨hp, .inl rfl⟩, hf]
    by_cases hn : a < 0
    · simp [hn]; omega
    · simp [hn]; omega
  · rw [if_neg hk, cutAt_digits (by decide) _ _ ha]
    have e1 : Lib.decDigits (m % 100 / 10) = [dg (m % 100 / 10)] := dec_small (by omega)
    have e2 : Lib.decDigits (m % 10) = [dg (m % 10)] := dec_small (by omega)
    rw [e1, e2]
    have d1 := isD_dg (n := m % 100 / 10) (by omega)
    have d2 := isD_dg (n := m % 10) (by omega)
    have n1 := dg_toNat (n := m % 100 / 10) (by omega)
    have n2 := dg_toNat (n := m % 10) (by omega)
    have hh : hundB ([dg (m % 100 / 10)] ++ [dg (m % 10)]) = true := by
      simp only [List.cons_append, List.nil_append, hundB, d1, d2, Bool.true_and, Bool.not_eq_true', Bool.and_eq_false_iff, beq_eq_false_iff_ne]
      by_cases hz : m % 100 / 10 = 0
      · right
        intro e
        have := congrArg UInt8.toNat e
        rw [n2] at this
        simp at this; omega
      · left
        intro e
        have := congrArg UInt8.toNat e
        rw [n1] at this
        simp at this; omega
    have hvv : val ([dg (m % 100 / 10)] ++ [dg (m % 10)]) = m % 100 := by
      rw [val_snoc, n2]
      simp only [val, numV_cons, numV_nil, n1]
      omega
    show altP3 _ (Lib.decDigits (m / 100)) ([dg (m % 100 / 10)] ++ [dg (m % 10)]) true = _
    unfold altP3
    rw [if_pos ⟨hp, .inr hh⟩, hf, hvv]
    by_cases hn : a < 0
    · simp [hn]; omega
    · simp [hn]; omega
/-- The bytes of an altitude: digits, a sign, a point. -/
def altC (c : UInt8) : Bool := isD c || c == 45 || c == 46
theorem all_mono {p q : UInt8 → Bool} (h : ∀ c, p c = true → q c = true) {l : List UInt8} (hl : l.all p = true) : l.all q = true := by
  rw [List.all_eq_true] at hl ⊢
  exact fun x hx => h x (hl x hx)
theorem altN_all (m : Nat) : (altN m).all altC = true := by
  have h : ∀ u, (Lib.decDigits u).all altC = true := fun u => all_mono (fun c hc => by simp [altC, hc]) (dec_all u)
  unfold altN
  split
  · simp only [List.append_nil, h]
  · simp only [List.all_append, List.all_cons, h, Bool.and_true]; decide
theorem altS_all (a : Int) : (altS a).all altC = true := by
  unfold altS
  rw [List.all_append, altN_all]
  split <;> decide
theorem dec_last (u : Nat) : ∃ c, (Lib.decDigits u).getLast? = some c ∧ isD c = true := by
  have h1 := dec_all u
  have h2 := dec_ne u
  rw [List.all_eq_true] at h1
  exact ⟨_, List.getLast?_eq_some_getLast h2, h1 _ (List.getLast_mem h2)⟩
theorem altN_last (m : Nat) : ∃ c, (altN m).getLast? = some c ∧ isD c = true := by
  unfold altN
  split
  · rw [List.append_nil]; exact dec_last _
  · obtain ⟨c, h1, h2⟩ := dec_last (m % 10)
    refine ⟨c, ?_, h2⟩
    rw [List.getLast?_append]
    rw [show (46 :: (Lib.decDigits (m % 100 / 10) ++ Lib.decDigits (m % 10)) : List UInt8) = (46 :: Lib.decDigits (m % 100 / 10)) ++ Lib.decDigits (m % 10) from rfl, List.getLast?_append, h1]
    rfl
theorem altS_last (a : Int) : ∃ c, (altS a).getLast? = some c ∧ isD c = true := by
  obtain ⟨c, h1, h2⟩ := altN_last a.natAbs
  refine ⟨c, ?_, h2⟩
  unfold altS
  rw [List.getLast?_append, h1]; rfl
theorem altC_ne {c d : UInt8} (h : altC c = true) (hd : altC d = false) : c ≠ d := by rintro rfl; rw [h] at hd; cases hd
theorem altS_ne (a : Int) : altS a ≠ [] := by
  obtain ⟨c, h1, _⟩ := altS_last a
  intro e
  rw [e] at h1
  cases h1
theorem cutAt_not {c : UInt8} {l : List UInt8} (h : c ∉ l) : cutAt c l = (l, [], false) := by
  refine cutAt_none c l ?_
  rw [List.all_eq_true]
  intro x hx
  simp only [bne_iff_ne]
  rintro rfl
  exact h hx
theorem altS_not {c : UInt8} (hc : altC c = false) (a : Int) : c ∉ altS a := by
  intro hm
  have := List.all_eq_true.1 (altS_all a) c hm
  rw [hc] at this
  cases this
theorem cutAt_of {c : UInt8} (l r : List UInt8) (h : c ∉ l) : cutAt c (l ++ c :: r) = (l, r, true) := by
  induction l with
  | nil => simp [cutAt]
  | cons x l ih =>
    simp only [List.mem_cons, not_or] at h
    have h1 : ¬ x = c := fun e => h.1 e.symm
    simp [cutAt, h1, ih h.2]
theorem cutSuf_snoc (c : UInt8) (l : List UInt8) : cutSuf c (l ++ [c]) = (l, true) := by
  unfold cutSuf
  rw [if_pos (by simp), List.dropLast_concat]
theorem cutSuf_no {c d : UInt8} {l : List UInt8} (h : l.getLast? = some d) (hd : d ≠ c) : cutSuf c l = (l, false) := by
  unfold cutSuf
  rw [if_neg (by rw [h]; simpa using hd)]
theorem winP_winS {lo hi : Int} (h : winOk lo hi) : winP (winS lo hi) = ((lo, hi), true) := by
  obtain ⟨h1, h2, h3⟩ := h
  have pl := altP_altS h1 (show lo ≤ 6000000 by omega)
  have ph := altP_altS (show -200000 ≤ hi by omega) h3
  unfold winS
  by_cases c1 : lo = -200000 ∧ hi = 6000000
  · rw [if_pos c1]; obtain ⟨rfl, rfl⟩ := c1; rfl
  · rw [if_neg c1]
    by_cases c2 : lo = hi
    · rw [if_pos c2]
      subst c2
      obtain ⟨d, hd, hdd⟩ := altS_last lo
      unfold winP
      rw [if_neg (by intro e; rw [e] at hd; simp at hd; subst hd; revert hdd; decide), cutAt_not (altS_not (by decide) lo), cutSuf_no hd (isD_ne hdd (by decide)), cutSuf_no hd (isD_ne hdd (by decide)), pl]
      simp
    · rw [if_neg c2]
      by_cases c3 : hi = 6000000
      · rw [if_pos c3]
        unfold winP
        rw [if_neg (by intro e; have := congrArg List.getLast? e; simp at this), cutAt_not (by simp; exact altS_not (by decide) lo), cutSuf_snoc, pl]
        simp [c3]
      · rw [if_neg c3]
        by_cases c4 : lo = -200000
        · rw [if_pos c4]
          have hn := altS_ne hi
          unfold winP
          rw [if_neg (by intro e; apply hn; simpa using e), cutAt_not (by simp; exact altS_not (by decide) hi), cutSuf_no (c := 43) (d := 45) (by simp) (by decide), cutSuf_snoc, ph]
          simp [c4]
        · rw [if_neg c4]
          unfold winP
          rw [if_neg (by intro e; have := altS_ne hi; have := altS_ne lo; have := congrArg List.length e; simp at this; have := List.length_pos_iff.2 (altS_ne lo); have := List.length_pos_iff.2 (altS_ne hi); omega), cutAt_of _ _ (altS_not (by decide) lo), pl, ph]
          simp
theorem parseWin_winS {lo hi : Int} (h : winOk lo hi) : parseWinS (winS lo hi) = ((lo, hi), 0) := by
  unfold parseWinS
  rw [winP_winS h]
  obtain ⟨h1, h2, h3⟩ := h
  simp only
  rw [if_pos trivial, if_pos (by simp [rangedB]; omega), if_neg (by omega), if_pos trivial]
theorem parseWin_ok {s : List UInt8} (h : (parseWinS s).2 = 0) : winOk (parseWinS s).1.1 (parseWinS s).1.2 ∧ winS (parseWinS s).1.1 (parseWinS s).1.2 = s := by
  unfold parseWinS at h ⊢
  split at h
  · rename_i h1
    rw [if_pos h1]
    split at h
    · rename_i h2
      rw [if_pos h2]
      split at h
      · simp at h
      · rename_i h3
        rw [if_neg h3]
        split at h
        · rename_i h4
          rw [if_pos h4]
          simp [rangedB] at h2
          refine ⟨⟨?_, ?_, ?_⟩, h4⟩ <;> simp only <;> omega
        · simp at h
    · simp at h
  · simp at h
end Go.Proofs.YtijfmfdnagjlpaaGreatDoor
namespace Go.Proofs.YtijfmfdnagjlpaaGreatDoor
open Go.RowKit
set_option linter.unusedVariables false
set_option linter.unusedSimpArgs false
structure Pt where
  x : Int
  y : Int

def Pt.arr (x : Pt) : Array Value := #[.int .i64 x.x, .int .i64 x.y]
abbrev Pt.val (x : Pt) : Value := .agg x.arr
theorem Pt.arr_size (x : Pt) : x.arr.size = 2 := rfl
theorem Pt.arr_sz (x : Pt) : x.arr.size = 2 := by simp [Pt.arr]
theorem Pt.arr_one (x : Pt) : x.arr.all (·.oneCell') = true := by simp [Pt.arr, Value.oneCell']
theorem Pt.arr0 (x : Pt) : x.arr[0]? = some (.int .i64 x.x) := rfl
theorem Pt.arr1 (x : Pt) : x.arr[1]? = some (.int .i64 x.y) := rfl
attribute [go_sem] Pt.arr0 Pt.arr1
structure Win where
  lo : Int
  hi : Int

def Win.arr (x : Win) : Array Value := #[.int .i64 x.lo, .int .i64 x.hi]
abbrev Win.val (x : Win) : Value := .agg x.arr
theorem Win.arr_size (x : Win) : x.arr.size = 2 := rfl
theorem Win.arr_sz (x : Win) : x.arr.size = 2 := by simp [Win.arr]
theorem Win.arr_one (x : Win) : x.arr.all (·.oneCell') = true := by simp [Win.arr, Value.oneCell']
theorem Win.arr0 (x : Win) : x.arr[0]? = some (.int .i64 x.lo) := rfl
theorem Win.arr1 (x : Win) : x.arr[1]? = some (.int .i64 x.hi) := rfl
attribute [go_sem] Win.arr0 Win.arr1
def Pt.eqB (a b : Pt) : Bool := decide (a.x = b.x) && (decide (a.y = b.y))
theorem Pt.eqB_iff (a b : Pt) : a.eqB b = true ↔ a = b := by
  obtain ⟨_, _⟩ := a
  obtain ⟨_, _⟩ := b
  simp [Pt.eqB]
set_option maxHeartbeats 1000000 in
set_option maxRecDepth 100000 in
theorem run_eq_pt (d : Nat) (a b : Pt) (w : World) : (Op.equalIn (d + 2) 28 (.agg a.arr) (.agg b.arr)).run Tryz.prog w = .ok (a.eqB b) w := by
  unfold Pt.arr
  simp [go_sem]
  simp only [ite_ok, Bool.and_true]
  rfl
theorem run_neq_pt (a b : Pt) (w : World) : (binOp .neq 28 (.agg a.arr) (.agg b.arr)).run Tryz.prog w = .ok (.bool (!a.eqB b)) w := by
  simp only [binOp]
  simp [Op.equal, Op.maxDepth, run_eq_pt 9998]
theorem run_eql_pt (a b : Pt) (w : World) : (binOp .eql 28 (.agg a.arr) (.agg b.arr)).run Tryz.prog w = .ok (.bool (a.eqB b)) w := by
  simp only [binOp]
  simp [Op.equal, Op.maxDepth, run_eq_pt 9998]
def Win.eqB (a b : Win) : Bool := decide (a.lo = b.lo) && (decide (a.hi = b.hi))
theorem Win.eqB_iff (a b : Win) : a.eqB b = true ↔ a = b := by
  obtain ⟨_, _⟩ := a
  obtain ⟨_, _⟩ := b
  simp [Win.eqB]
set_option maxHeartbeats 1000000 in
set_option maxRecDepth 100000 in
theorem run_eq_win (d : Nat) (a b : Win) (w : World) : (Op.equalIn (d + 2) 81 (.agg a.arr) (.agg b.arr)).run Tryz.prog w = .ok (a.eqB b) w := by
  unfold Win.arr
  simp [go_sem]
  simp only [ite_ok, Bool.and_true]
  rfl
theorem run_neq_win (a b : Win) (w : World) : (binOp .neq 81 (.agg a.arr) (.agg b.arr)).run Tryz.prog w = .ok (.bool (!a.eqB b)) w := by
  simp only [binOp]
  simp [Op.equal, Op.maxDepth, run_eq_win 9998]
theorem run_eql_win (a b : Win) (w : World) : (binOp .eql 81 (.agg a.arr) (.agg b.arr)).run Tryz.prog w = .ok (.bool (a.eqB b)) w := by
  simp only [binOp]
  simp [Op.equal, Op.maxDepth, run_eq_win 9998]
def Leg.eqB (a b : Leg) : Bool := decide (a.ty = b.ty) && (decide (a.fix = b.fix) && (decide (a.center = b.center) && (decide (a.turn = b.turn) && (decide (a.over = b.over) && (decide (a.course = b.course) && (decide (a.dist = b.dist) && (decide (a.radius = b.radius) && (decide (a.theta = b.theta) && (decide (a.lo = b.lo) && (decide (a.hi = b.hi) && (decide (a.speed = b.speed) && (decide (a.rnp = b.rnp)))))))))))))
theorem Leg.eqB_iff (a b : Leg) : a.eqB b = true ↔ a = b := by
  obtain ⟨_, _, _, _, _, _, _, _, _, _, _, _, _⟩ := a
  obtain ⟨_, _, _, _, _, _, _, _, _, _, _, _, _⟩ := b
  simp [Leg.eqB]
set_option maxHeartbeats 1000000 in
set_option maxRecDepth 100000 in
theorem run_eq_leg (d : Nat) (a b : Leg) (w : World) : (Op.equalIn (d + 3) 84 (.agg a.arr) (.agg b.arr)).run Tryz.prog w = .ok (a.eqB b) w := by
  unfold Leg.arr
  simp [go_sem]
  simp only [ite_ok, Bool.and_true]
  rfl
theorem run_neq_leg (a b : Leg) (w : World) : (binOp .neq 84 (.agg a.arr) (.agg b.arr)).run Tryz.prog w = .ok (.bool (!a.eqB b)) w := by
  simp only [binOp]
  simp [Op.equal, Op.maxDepth, run_eq_leg 9997]
theorem run_eql_leg (a b : Leg) (w : World) : (binOp .eql 84 (.agg a.arr) (.agg b.arr)).run Tryz.prog w = .ok (.bool (a.eqB b)) w := by
  simp only [binOp]
  simp [Op.equal, Op.maxDepth, run_eq_leg 9997]
def Entry.eqB (a b : Entry) : Bool := decide (a.gap = b.gap) && (decide (a.leg.ty = b.leg.ty) && (decide (a.leg.fix = b.leg.fix) && (decide (a.leg.center = b.leg.center) && (decide (a.leg.turn = b.leg.turn) && (decide (a.leg.over = b.leg.over) && (decide (a.leg.course = b.leg.course) && (decide (a.leg.dist = b.leg.dist) && (decide (a.leg.radius = b.leg.radius) && (decide (a.leg.theta = b.leg.theta) && (decide (a.leg.lo = b.leg.lo) && (decide (a.leg.hi = b.leg.hi) && (decide (a.leg.speed = b.leg.speed) && (decide (a.leg.rnp = b.leg.rnp) && (decide (a.ex = b.ex) && (decide (a.ey = b.ey) && (decide (a.mx = b.mx) && (decide (a.my = b.my) && (decide (a.sec = b.sec) && (decide (a.via = b.via))))))))))))))))))))
theorem Entry.eqB_iff (a b : Entry) : a.eqB b = true ↔ a = b := by
  obtain ⟨_, ⟨_, _, _, _, _, _, _, _, _, _, _, _, _⟩, _, _, _, _, _, _⟩ := a
  obtain ⟨_, ⟨_, _, _, _, _, _, _, _, _, _, _, _, _⟩, _, _, _, _, _, _⟩ := b
  simp [Entry.eqB, and_assoc]
set_option maxHeartbeats 1000000 in
set_option maxRecDepth 100000 in
theorem run_eq_ent (d : Nat) (a b : Entry) (w : World) : (Op.equalIn (d + 4) 87 (.agg a.arr) (.agg b.arr)).run Tryz.prog w = .ok (a.eqB b) w := by
  unfold Entry.arr
  simp [go_sem]
  simp only [ite_ok, Bool.and_true]
  rfl
theorem run_neq_ent (a b : Entry) (w : World) : (binOp .neq 87 (.agg a.arr) (.agg b.arr)).run Tryz.prog w = .ok (.bool (!a.eqB b)) w := by
  simp only [binOp]
  simp [Op.equal, Op.maxDepth, run_eq_ent 9996]
theorem run_eql_ent (a b : Entry) (w : World) : (binOp .eql 87 (.agg a.arr) (.agg b.arr)).run Tryz.prog w = .ok (.bool (a.eqB b)) w := by
  simp only [binOp]
  simp [Op.equal, Op.maxDepth, run_eq_ent 9996]
end Go.Proofs.YtijfmfdnagjlpaaGreatDoor
namespace Go.Proofs.YtijfmfdnagjlpaaGreatDoor
open Go.RowKit
set_option linter.unusedVariables false
set_option linter.unusedSimpArgs false
def gapE : Entry := ⟨true, ⟨0, [], [], 0, false, 0, 0, 0, 0, 0, 0, 0, 0⟩, 0, 0, 0, 0, 0, []⟩
def Leg.arrivedB (y x : Leg) : Bool := endsB y.ty && y.fix == x.fix
def orderE (prev : Option Entry) (x : Entry) : Int :=
  match prev with
  | none => if startsB x.leg.ty then 0 else 9
  | some y => if y.gap then (if startsB x.leg.ty then 0 else 9) else if y.leg.joinsB x.leg then (if (x.leg.ty == 2 || x.leg.ty == 4) && y.leg.arrivedB x.leg then 7 else 0) else 9
def gapOrdE (prev : Option Entry) (last : Bool) : Int :=
  match prev with
  | none => 9
  | some y => if last || y.gap then 9 else 0
def stepE (prev : Option Entry) (s : Int) (last : Bool) (x : Entry) : Int :=
  if x.gap then (if x.eqB gapE then gapOrdE prev last else 1) else orE (aloneE x) (orE (orderE prev x) (if x.sec < s then 9 else 0))
def checkGo : Option Entry → Int → List Entry → Int
  | _, _, [] => 0
  | prev, s, x :: r => orE (stepE prev s r.isEmpty x) (checkGo (some x) (if x.gap then s else x.sec) r)
def activeE (p : Plan) : Int :=
  if p.active = -1 then 0 else if p.active < 0 ∨ (p.es.length : Int) ≤ p.active then 2 else if ((p.es[p.active.toNat]?).map (·.gap)).getD true then 2 else 0
def planCheck (p : Plan) : Int :=
  if !placeB p.from_ || !placeB p.to_ then 5 else if 60 < p.es.length then 3 else orE (checkGo none 0 p.es) (activeE p)
def prevOf (es : List Entry) : Nat → Option Entry
  | 0 => none
  | k + 1 => es[k]?
theorem run_gap (x : Entry) : ∀ w, (binOp .neq 87 (.agg x.arr) (.agg #[.bool true, .int .u8 0, .string ⟨#[]⟩, .string ⟨#[]⟩, .int .u8 0, .bool false, .int .i64 0, .int .i64 0, .int .i64 0, .int .i64 0, .int .i64 0, .int .i64 0, .int .i64 0, .int .i64 0, .int .i64 0, .int .i64 0, .int .i64 0, .int .i64 0, .int .u8 0, .string ⟨#[]⟩])).run Tryz.prog w = .ok (.bool (!x.eqB gapE)) w := fun w => run_neq_ent x gapE w
theorem st_gap1 {prev : Option Entry} {s : Int} {l : Bool} {x : Entry} {R T : Int} (h : x.gap = true) (he : (!x.eqB gapE) = true) : 1 = orE (orE (stepE prev s l x) R) T := by grind [stepE, orE]
theorem st_gap9 {prev : Option Entry} {s : Int} {l : Bool} {x : Entry} {R T : Int} (h : x.gap = true) (he : (!x.eqB gapE) = false) (hp : gapOrdE prev l = 9) : 9 = orE (orE (stepE prev s l x) R) T := by grind [stepE, orE]
theorem st_gap0 {prev : Option Entry} {s : Int} {l : Bool} {x : Entry} {R T : Int} (h : x.gap = true) (he : (!x.eqB gapE) = false) (hp : gapOrdE prev l = 0) : orE (orE (stepE prev s l x) R) T = orE R T := by grind [stepE, orE]
theorem st_one {prev : Option Entry} {s : Int} {l : Bool} {x : Entry} {R T : Int} (h : x.gap = false) (he : (aloneE x != 0) = true) : aloneE x = orE (orE (stepE prev s l x) R) T := by grind [stepE, orE]
theorem st_ord {prev : Option Entry} {s : Int} {l : Bool} {x : Entry} {R T v : Int} (h : x.gap = false) (he : (aloneE x != 0) = false) (ho : orderE prev x = v) (hv : v ≠ 0) : v = orE (orE (stepE prev s l x) R) T := by grind [stepE, orE]
theorem st_sec {prev : Option Entry} {s : Int} {l : Bool} {x : Entry} {R T : Int} (h : x.gap = false) (he : (aloneE x != 0) = false) (ho : orderE prev x = 0) (hs : x.sec < s) : 9 = orE (orE (stepE prev s l x) R) T := by grind [stepE, orE]
theorem st_ok {prev : Option Entry} {s : Int} {l : Bool} {x : Entry} {R T : Int} (h : x.gap = false) (he : (aloneE x != 0) = false) (ho : orderE prev x = 0) (hs : ¬ x.sec < s) : orE (orE (stepE prev s l x) R) T = orE R T := by grind [stepE, orE]
theorem drop_last (es : List Entry) (k : Nat) (h : k < es.length) : (es.drop (k + 1)).isEmpty = decide ((k : Int) = (es.length : Int) - 1) := by
  rw [Bool.eq_iff_iff]
  simp
  omega
theorem ord_start {y : Entry} {x : Entry} (hy : y.gap = true) (h : (!startsB x.leg.ty) = true) : orderE (some y) x = 9 := by grind [orderE]
theorem ord_start0 {y : Entry} {x : Entry} (hy : y.gap = true) (h : (!startsB x.leg.ty) = false) : orderE (some y) x = 0 := by grind [orderE]
theorem ord_none {x : Entry} (h : (!startsB x.leg.ty) = true) : orderE none x = 9 := by grind [orderE]
theorem ord_none0 {x : Entry} (h : (!startsB x.leg.ty) = false) : orderE none x = 0 := by grind [orderE]
theorem ord_join {y : Entry} {x : Entry} (hy : y.gap = false) (h : (!y.leg.joinsB x.leg) = true) : orderE (some y) x = 9 := by grind [orderE]
def tdB (t : Int) : Bool := t == 2 || t == 4
def Leg.dupB (y x : Leg) : Bool := tdB x.ty && y.arrivedB x
theorem ord_arr {y : Entry} {x : Entry} (hy : y.gap = false) (h : (!y.leg.joinsB x.leg) = false) (ha : y.leg.dupB x.leg = true) : orderE (some y) x = 7 := by grind [orderE, tdB, Leg.dupB]
theorem ord_ok {y : Entry} {x : Entry} (hy : y.gap = false) (h : (!y.leg.joinsB x.leg) = false) (ha : y.leg.dupB x.leg = false) : orderE (some y) x = 0 := by grind [orderE, tdB, Leg.dupB]
end Go.Proofs.YtijfmfdnagjlpaaGreatDoor
namespace Go.Proofs.YtijfmfdnagjlpaaGreatDoor
open Go.RowKit
set_option linter.unusedVariables false
set_option linter.unusedSimpArgs false
theorem info_pt : (Tryz.prog.info? 28).map (·.size) = some 2 := by kernel_rfl
def Is_pt (w : World) (b o : Nat) (x : Pt) : Prop := ∀ j, j < 2 → w.cell? ⟨b, o + j, none⟩ = x.arr[j]?
def Has_pt (w : World) (b o : Nat) : Prop := ∃ x, Is_pt w b o x
theorem Pt.arr_inj {x y : Pt} (h : ∀ j, j < 2 → x.arr[j]? = y.arr[j]?) : x = y := by
  refine (Pt.eqB_iff x y).1 ?_
  have hh : ∀ j, j < 2 → x.arr[j]? = y.arr[j]? := h
  have e0 := h 0 (by omega)
  have e1 := h 1 (by omega)
  simp [Pt.arr0, Pt.arr1] at e0 e1
  simp [Pt.eqB, *]
open Classical in
noncomputable def of_pt (w : World) (b o : Nat) : Pt := if h : Has_pt w b o then h.choose else ⟨0, 0⟩
theorem of_pt_spec {w : World} {b o : Nat} (h : Has_pt w b o) : Is_pt w b o (of_pt w b o) := by
  unfold of_pt
  rw [dif_pos h]
  exact h.choose_spec
theorem of_pt_eq {w : World} {b o : Nat} {x : Pt} (h : Is_pt w b o x) : of_pt w b o = x :=
  Pt.arr_inj fun j hj => (of_pt_spec ⟨x, h⟩ j hj).symm.trans (h j hj)
theorem Has_pt_drewN (w : World) (b o n : Nat) : Has_pt (w.drewN n) b o = Has_pt w b o := propext ⟨fun h => h, fun h => h⟩
theorem of_pt_drewN (w : World) (b o n : Nat) : of_pt (w.drewN n) b o = of_pt w b o := rfl
theorem Is_pt.below {w w' : World} {B b o : Nat} {x : Pt} (h : Is_pt w b o x) (hb : Below B w w') (hlt : b < B) : Is_pt w' b o x := fun j hj => by rw [hb.cell (p := ⟨b, _, none⟩) hlt]; exact h j hj
theorem Is_pt_new (w : World) (x : Pt) (t : TypeId) : Is_pt (w.alloc (.cells x.arr t)) w.heap.size 0 x := fun j _ => by rw [Nat.zero_add]; exact cell_of_row _ _ j x.arr t (0, 0) (heap_alloc_new w _)
theorem Has_pt_new (w : World) (x : Pt) (t : TypeId) : Has_pt (w.alloc (.cells x.arr t)) w.heap.size 0 = True := eq_true ⟨x, Is_pt_new w x t⟩
theorem of_pt_new (w : World) (x : Pt) (t : TypeId) : of_pt (w.alloc (.cells x.arr t)) w.heap.size 0 = x := of_pt_eq (Is_pt_new w x t)
theorem Has_pt_alloc (w : World) (b o : Nat) (ob : Obj) (h : b < w.heap.size) : Has_pt (w.alloc ob) b o = Has_pt w b o := by
  have e : ∀ j, (w.alloc ob).cell? ⟨b, o + j, none⟩ = w.cell? ⟨b, o + j, none⟩ := fun j => World.cell?_alloc_lt w ob ⟨b, o + j, none⟩ h
  simp only [Has_pt, Is_pt, e]
theorem of_pt_alloc (w : World) (b o : Nat) (ob : Obj) (h : b < w.heap.size) (hh : Has_pt w b o) : of_pt (w.alloc ob) b o = of_pt w b o :=
  of_pt_eq fun j hj => by rw [World.cell?_alloc_lt w ob ⟨b, o + j, none⟩ h]; exact of_pt_spec hh j hj
def load_pt (v : Value) : Sem Value := Instr.loadAt 28 v
theorem load_pt_fold (v : Value) : Instr.loadAt 28 v = load_pt v := rfl
theorem run_load_pt (w : World) (b o : Nat) (h : Has_pt w b o) : (load_pt (.pointer (some ⟨b, o, none⟩))).run Tryz.prog w = .ok (.agg (of_pt w b o).arr) w := by
  have hs := of_pt_spec h
  generalize of_pt w b o = x at hs
  have := run_load_agg (P := Tryz.prog) w ⟨b, o, none⟩ 28 x.arr.toList _ (fun j v hv => by
    rw [addr_add, hs j (by have := (List.getElem?_eq_some_iff.1 hv).1; simpa [Pt.arr_size] using this)]
    simpa using hv) Tryz.underlying28 rfl info_pt
  simp only [load_pt, Instr.loadAt, Instr.sureAddr, Sem.run_bind, Sem.run_pure, Result.andThen_ok]
  simpa using this
def store_pt (p v : Value) : Sem Unit := Instr.storeAt 28 p v
theorem store_pt_fold (p v : Value) : Instr.storeAt 28 p v = store_pt p v := rfl
theorem run_store_pt (w : World) (c c' : Array Value) (hc : c.size = 2) (hc' : c'.size = 2) (h1 : c'.all (·.oneCell') = true) :
    (store_pt (.pointer (some ⟨w.heap.size, 0, none⟩)) (.agg c')).run Tryz.prog (w.alloc (.cells c 28)) = .ok () (w.alloc (.cells c' 28)) :=
  run_storeAt_new (P := Tryz.prog) w 28 c c' (by rw [hc']; exact info_pt) (by rw [hc, hc']) h1
attribute [go_sem ↓] load_pt_fold store_pt_fold
attribute [go_sem] run_load_pt run_store_pt Has_pt_drewN of_pt_drewN Has_pt_new of_pt_new Has_pt_alloc of_pt_alloc
theorem info_win : (Tryz.prog.info? 81).map (·.size) = some 2 := by kernel_rfl
def Is_win (w : World) (b o : Nat) (x : Win) : Prop := ∀ j, j < 2 → w.cell? ⟨b, o + j, none⟩ = x.arr[j]?
def Has_win (w : World) (b o : Nat) : Prop := ∃ x, Is_win w b o x
theorem Win.arr_inj {x y : Win} (h : ∀ j, j < 2 → x.arr[j]? = y.arr[j]?) : x = y := by
  refine (Win.eqB_iff x y).1 ?_
  have hh : ∀ j, j < 2 → x.arr[j]? = y.arr[j]? := h
  have e0 := h 0 (by omega)
  have e1 := h 1 (by omega)
  simp [Win.arr0, Win.arr1] at e0 e1
  simp [Win.eqB, *]
open Classical in
noncomputable def of_win (w : World) (b o : Nat) : Win := if h : Has_win w b o then h.choose else ⟨0, 0⟩
theorem of_win_spec {w : World} {b o : Nat} (h : Has_win w b o) : Is_win w b o (of_win w b o) := by
  unfold of_win
  rw [dif_pos h]
  exact h.choose_spec
theorem of_win_eq {w : World} {b o : Nat} {x : Win} (h : Is_win w b o x) : of_win w b o = x :=
  Win.arr_inj fun j hj => (of_win_spec ⟨x, h⟩ j hj).symm.trans (h j hj)
theorem Has_win_drewN (w : World) (b o n : Nat) : Has_win (w.drewN n) b o = Has_win w b o := propext ⟨fun h => h, fun h => h⟩
theorem of_win_drewN (w : World) (b o n : Nat) : of_win (w.drewN n) b o = of_win w b o := rfl
theorem Is_win.below {w w' : World} {B b o : Nat} {x : Win} (h : Is_win w b o x) (hb : Below B w w') (hlt : b < B) : Is_win w' b o x := fun j hj => by rw [hb.cell (p := ⟨b, _, none⟩) hlt]; exact h j hj
theorem Is_win_new (w : World) (x : Win) (t : TypeId) : Is_win (w.alloc (.cells x.arr t)) w.heap.size 0 x := fun j _ => by rw [Nat.zero_add]; exact cell_of_row _ _ j x.arr t (0, 0) (heap_alloc_new w _)
theorem Has_win_new (w : World) (x : Win) (t : TypeId) : Has_win (w.alloc (.cells x.arr t)) w.heap.size 0 = True := eq_true ⟨x, Is_win_new w x t⟩
theorem of_win_new (w : World) (x : Win) (t : TypeId) : of_win (w.alloc (.cells x.arr t)) w.heap.size 0 = x := of_win_eq (Is_win_new w x t)
theorem Has_win_alloc (w : World) (b o : Nat) (ob : Obj) (h : b < w.heap.size) : Has_win (w.alloc ob) b o = Has_win w b o := by
  have e : ∀ j, (w.alloc ob).cell? ⟨b, o + j, none⟩ = w.cell? ⟨b, o + j, none⟩ := fun j => World.cell?_alloc_lt w ob ⟨b, o + j, none⟩ h
  simp only [Has_win, Is_win, e]
theorem of_win_alloc (w : World) (b o : Nat) (ob : Obj) (h : b < w.heap.size) (hh : Has_win w b o) : of_win (w.alloc ob) b o = of_win w b o :=
  of_win_eq fun j hj => by rw [World.cell?_alloc_lt w ob ⟨b, o + j, none⟩ h]; exact of_win_spec hh j hj
def load_win (v : Value) : Sem Value := Instr.loadAt 81 v
theorem load_win_fold (v : Value) : Instr.loadAt 81 v = load_win v := rfl
theorem run_load_win (w : World) (b o : Nat) (h : Has_win w b o) : (load_win (.pointer (some ⟨b, o, none⟩))).run Tryz.prog w = .ok (.agg (of_win w b o).arr) w := by
  have hs := of_win_spec h
  generalize of_win w b o = x at hs
  have := run_load_agg (P := Tryz.prog) w ⟨b, o, none⟩ 81 x.arr.toList _ (fun j v hv => by
    rw [addr_add, hs j (by have := (List.getElem?_eq_some_iff.1 hv).1; simpa [Win.arr_size] using this)]
    simpa using hv) Tryz.underlying81 rfl info_win
  simp only [load_win, Instr.loadAt, Instr.sureAddr, Sem.run_bind, Sem.run_pure, Result.andThen_ok]
  simpa using this
def store_win (p v : Value) : Sem Unit := Instr.storeAt 81 p v
theorem store_win_fold (p v : Value) : Instr.storeAt 81 p v = store_win p v := rfl
theorem run_store_win (w : World) (c c' : Array Value) (hc : c.size = 2) (hc' : c'.size = 2) (h1 : c'.all (·.oneCell') = true) :
    (store_win (.pointer (some ⟨w.heap.size, 0, none⟩)) (.agg c')).run Tryz.prog (w.alloc (.cells c 81)) = .ok () (w.alloc (.cells c' 81)) :=
  run_storeAt_new (P := Tryz.prog) w 81 c c' (by rw [hc']; exact info_win) (by rw [hc, hc']) h1
attribute [go_sem ↓] load_win_fold store_win_fold
attribute [go_sem] run_load_win run_store_win Has_win_drewN of_win_drewN Has_win_new of_win_new Has_win_alloc of_win_alloc
theorem info_leg : (Tryz.prog.info? 84).map (·.size) = some 13 := by kernel_rfl
def Is_leg (w : World) (b o : Nat) (x : Leg) : Prop := ∀ j, j < 13 → w.cell? ⟨b, o + j, none⟩ = x.arr[j]?
def Has_leg (w : World) (b o : Nat) : Prop := ∃ x, Is_leg w b o x
theorem Leg.arr_inj {x y : Leg} (h : ∀ j, j < 13 → x.arr[j]? = y.arr[j]?) : x = y := by
  refine (Leg.eqB_iff x y).1 ?_
  have hh : ∀ j, j < 13 → x.arr[j]? = y.arr[j]? := h
  have e0 := h 0 (by omega)
  have e1 := h 1 (by omega)
  have e2 := h 2 (by omega)
  have e3 := h 3 (by omega)
  have e4 := h 4 (by omega)
  have e5 := h 5 (by omega)
  have e6 := h 6 (by omega)
  have e7 := h 7 (by omega)
  have e8 := h 8 (by omega)
  have e9 := h 9 (by omega)
  have e10 := h 10 (by omega)
  have e11 := h 11 (by omega)
  have e12 := h 12 (by omega)
  simp [Leg.arr0, Leg.arr1, Leg.arr2, Leg.arr3, Leg.arr4, Leg.arr5, Leg.arr6, Leg.arr7, Leg.arr8, Leg.arr9, Leg.arr10, Leg.arr11, Leg.arr12] at e0 e1 e2 e3 e4 e5 e6 e7 e8 e9 e10 e11 e12
  simp [Leg.eqB, *]
open Classical in
noncomputable def of_leg (w : World) (b o : Nat) : Leg := if h : Has_leg w b o then h.choose else ⟨0, [], [], 0, false, 0, 0, 0, 0, 0, 0, 0, 0⟩
theorem of_leg_spec {w : World} {b o : Nat} (h : Has_leg w b o) : Is_leg w b o (of_leg w b o) := by
  unfold of_leg
  rw [dif_pos h]
  exact h.choose_spec
theorem of_leg_eq {w : World} {b o : Nat} {x : Leg} (h : Is_leg w b o x) : of_leg w b o = x :=
  Leg.arr_inj fun j hj => (of_leg_spec ⟨x, h⟩ j hj).symm.trans (h j hj)
theorem Has_leg_drewN (w : World) (b o n : Nat) : Has_leg (w.drewN n) b o = Has_leg w b o := propext ⟨fun h => h, fun h => h⟩
theorem of_leg_drewN (w : World) (b o n : Nat) : of_leg (w.drewN n) b o = of_leg w b o := rfl
theorem Is_leg.below {w w' : World} {B b o : Nat} {x : Leg} (h : Is_leg w b o x) (hb : Below B w w') (hlt : b < B) : Is_leg w' b o x := fun j hj => by rw [hb.cell (p := ⟨b, _, none⟩) hlt]; exact h j hj
theorem Is_leg_new (w : World) (x : Leg) (t : TypeId) : Is_leg (w.alloc (.cells x.arr t)) w.heap.size 0 x := fun j _ => by rw [Nat.zero_add]; exact cell_of_row _ _ j x.arr t (0, 0) (heap_alloc_new w _)
theorem Has_leg_new (w : World) (x : Leg) (t : TypeId) : Has_leg (w.alloc (.cells x.arr t)) w.heap.size 0 = True := eq_true ⟨x, Is_leg_new w x t⟩
theorem of_leg_new (w : World) (x : Leg) (t : TypeId) : of_leg (w.alloc (.cells x.arr t)) w.heap.size 0 = x := of_leg_eq (Is_leg_new w x t)
theorem Has_leg_alloc (w : World) (b o : Nat) (ob : Obj) (h : b < w.heap.size) : Has_leg (w.alloc ob) b o = Has_leg w b o := by
  have e : ∀ j, (w.alloc ob).cell? ⟨b, o + j, none⟩ = w.cell? ⟨b, o + j, none⟩ := fun j => World.cell?_alloc_lt w ob ⟨b, o + j, none⟩ h
  simp only [Has_leg, Is_leg, e]
theorem of_leg_alloc (w : World) (b o : Nat) (ob : Obj) (h : b < w.heap.size) (hh : Has_leg w b o) : of_leg (w.alloc ob) b o = of_leg w b o :=
  of_leg_eq fun j hj => by rw [World.cell?_alloc_lt w ob ⟨b, o + j, none⟩ h]; exact of_leg_spec hh j hj
def load_leg (v : Value) : Sem Value := Instr.loadAt 84 v
theorem load_leg_fold (v : Value) : Instr.loadAt 84 v = load_leg v := rfl
theorem run_load_leg (w : World) (b o : Nat) (h : Has_leg w b o) : (load_leg (.pointer (some ⟨b, o, none⟩))).run Tryz.prog w = .ok (.agg (of_leg w b o).arr) w := by
  have hs := of_leg_spec h
  generalize of_leg w b o = x at hs
  have := run_load_agg (P := Tryz.prog) w ⟨b, o, none⟩ 84 x.arr.toList _ (fun j v hv => by
    rw [addr_add, hs j (by have := (List.getElem?_eq_some_iff.1 hv).1; simpa [Leg.arr_size] using this)]
    simpa using hv) Tryz.underlying84 rfl info_leg
  simp only [load_leg, Instr.loadAt, Instr.sureAddr, Sem.run_bind, Sem.run_pure, Result.andThen_ok]
  simpa using this
def store_leg (p v : Value) : Sem Unit := Instr.storeAt 84 p v
theorem store_leg_fold (p v : Value) : Instr.storeAt 84 p v = store_leg p v := rfl
theorem run_store_leg (w : World) (c c' : Array Value) (hc : c.size = 13) (hc' : c'.size = 13) (h1 : c'.all (·.oneCell') = true) :
    (store_leg (.pointer (some ⟨w.heap.size, 0, none⟩)) (.agg c')).run Tryz.prog (w.alloc (.cells c 84)) = .ok () (w.alloc (.cells c' 84)) :=
  run_storeAt_new (P := Tryz.prog) w 84 c c' (by rw [hc']; exact info_leg) (by rw [hc, hc']) h1
attribute [go_sem ↓] load_leg_fold store_leg_fold
attribute [go_sem] run_load_leg run_store_leg Has_leg_drewN of_leg_drewN Has_leg_new of_leg_new Has_leg_alloc of_leg_alloc
theorem info_ent : (Tryz.prog.info? 87).map (·.size) = some 20 := by kernel_rfl
def Is_ent (w : World) (b o : Nat) (x : Entry) : Prop := ∀ j, j < 20 → w.cell? ⟨b, o + j, none⟩ = x.arr[j]?
def Has_ent (w : World) (b o : Nat) : Prop := ∃ x, Is_ent w b o x
theorem Entry.arr_inj {x y : Entry} (h : ∀ j, j < 20 → x.arr[j]? = y.arr[j]?) : x = y := by
  refine (Entry.eqB_iff x y).1 ?_
  have hh : ∀ j, j < 20 → x.arr[j]? = y.arr[j]? := h
  have e0 := h 0 (by omega)
  have e1 := h 1 (by omega)
  have e2 := h 2 (by omega)
  have e3 := h 3 (by omega)
  have e4 := h 4 (by omega)
  have e5 := h 5 (by omega)
  have e6 := h 6 (by omega)
  have e7 := h 7 (by omega)
  have e8 := h 8 (by omega)
  have e9 := h 9 (by omega)
  have e10 := h 10 (by omega)
  have e11 := h 11 (by omega)
  have e12 := h 12 (by omega)
  have e13 := h 13 (by omega)
  have e14 := h 14 (by omega)
  have e15 := h 15 (by omega)
  have e16 := h 16 (by omega)
  have e17 := h 17 (by omega)
  have e18 := h 18 (by omega)
  have e19 := h 19 (by omega)
  simp [Entry.arr0, Entry.arr1, Entry.arr2, Entry.arr3, Entry.arr4, Entry.arr5, Entry.arr6, Entry.arr7, Entry.arr8, Entry.arr9, Entry.arr10, Entry.arr11, Entry.arr12, Entry.arr13, Entry.arr14, Entry.arr15, Entry.arr16, Entry.arr17, Entry.arr18, Entry.arr19] at e0 e1 e2 e3 e4 e5 e6 e7 e8 e9 e10 e11 e12 e13 e14 e15 e16 e17 e18 e19
  simp [Entry.eqB, *]
open Classical in
noncomputable def of_ent (w : World) (b o : Nat) : Entry := if h : Has_ent w b o then h.choose else ⟨false, ⟨0, [], [], 0, false, 0, 0, 0, 0, 0, 0, 0, 0⟩, 0, 0, 0, 0, 0, []⟩
theorem of_ent_spec {w : World} {b o : Nat} (h : Has_ent w b o) : Is_ent w b o (of_ent w b o) := by
  unfold of_ent
  rw [dif_pos h]
  exact h.choose_spec
theorem of_ent_eq {w : World} {b o : Nat} {x : Entry} (h : Is_ent w b o x) : of_ent w b o = x :=
  Entry.arr_inj fun j hj => (of_ent_spec ⟨x, h⟩ j hj).symm.trans (h j hj)
theorem Has_ent_drewN (w : World) (b o n : Nat) : Has_ent (w.drewN n) b o = Has_ent w b o := propext ⟨fun h => h, fun h => h⟩
theorem of_ent_drewN (w : World) (b o n : Nat) : of_ent (w.drewN n) b o = of_ent w b o := rfl
theorem Is_ent.below {w w' : World} {B b o : Nat} {x : Entry} (h : Is_ent w b o x) (hb : Below B w w') (hlt : b < B) : Is_ent w' b o x := fun j hj => by rw [hb.cell (p := ⟨b, _, none⟩) hlt]; exact h j hj
theorem Is_ent_new (w : World) (x : Entry) (t : TypeId) : Is_ent (w.alloc (.cells x.arr t)) w.heap.size 0 x := fun j _ => by rw [Nat.zero_add]; exact cell_of_row _ _ j x.arr t (0, 0) (heap_alloc_new w _)
theorem Has_ent_new (w : World) (x : Entry) (t : TypeId) : Has_ent (w.alloc (.cells x.arr t)) w.heap.size 0 = True := eq_true ⟨x, Is_ent_new w x t⟩
theorem of_ent_new (w : World) (x : Entry) (t : TypeId) : of_ent (w.alloc (.cells x.arr t)) w.heap.size 0 = x := of_ent_eq (Is_ent_new w x t)
theorem Has_ent_alloc (w : World) (b o : Nat) (ob : Obj) (h : b < w.heap.size) : Has_ent (w.alloc ob) b o = Has_ent w b o := by
  have e : ∀ j, (w.alloc ob).cell? ⟨b, o + j, none⟩ = w.cell? ⟨b, o + j, none⟩ := fun j => World.cell?_alloc_lt w ob ⟨b, o + j, none⟩ h
  simp only [Has_ent, Is_ent, e]
theorem of_ent_alloc (w : World) (b o : Nat) (ob : Obj) (h : b < w.heap.size) (hh : Has_ent w b o) : of_ent (w.alloc ob) b o = of_ent w b o :=
  of_ent_eq fun j hj => by rw [World.cell?_alloc_lt w ob ⟨b, o + j, none⟩ h]; exact of_ent_spec hh j hj
def load_ent (v : Value) : Sem Value := Instr.loadAt 87 v
theorem load_ent_fold (v : Value) : Instr.loadAt 87 v = load_ent v := rfl
theorem run_load_ent (w : World) (b o : Nat) (h : Has_ent w b o) : (load_ent (.pointer (some ⟨b, o, none⟩))).run Tryz.prog w = .ok (.agg (of_ent w b o).arr) w := by
  have hs := of_ent_spec h
  generalize of_ent w b o = x at hs
  have := run_load_agg (P := Tryz.prog) w ⟨b, o, none⟩ 87 x.arr.toList _ (fun j v hv => by
    rw [addr_add, hs j (by have := (List.getElem?_eq_some_iff.1 hv).1; simpa [Entry.arr_size] using this)]
    simpa using hv) Tryz.underlying87 rfl info_ent
  simp only [load_ent, Instr.loadAt, Instr.sureAddr, Sem.run_bind, Sem.run_pure, Result.andThen_ok]
  simpa using this
def store_ent (p v : Value) : Sem Unit := Instr.storeAt 87 p v
theorem store_ent_fold (p v : Value) : Instr.storeAt 87 p v = store_ent p v := rfl
theorem run_store_ent (w : World) (c c' : Array Value) (hc : c.size = 20) (hc' : c'.size = 20) (h1 : c'.all (·.oneCell') = true) :
    (store_ent (.pointer (some ⟨w.heap.size, 0, none⟩)) (.agg c')).run Tryz.prog (w.alloc (.cells c 87)) = .ok () (w.alloc (.cells c' 87)) :=
  run_storeAt_new (P := Tryz.prog) w 87 c c' (by rw [hc']; exact info_ent) (by rw [hc, hc']) h1
attribute [go_sem ↓] load_ent_fold store_ent_fold
attribute [go_sem] run_load_ent run_store_ent Has_ent_drewN of_ent_drewN Has_ent_new of_ent_new Has_ent_alloc of_ent_alloc
end Go.Proofs.YtijfmfdnagjlpaaGreatDoor
