/- The reference's Check of a leg: the same first error. The reference's Check of a leg, walked. The errors of an entry by itself, of the program and of the reference. Slices of entries in memory. Decimal numbers as lists of bytes: plain digits, their value, and that the two are inverse. No program in sight. The texts of altitudes, windows and distances, and what such texts mean; the two are inverse. No program in sight. -/
import Derived.Test.YtlleijickhifmaaGreatDoorPk04
import Derived.Deep.Light
import Derived.Test.YtlleijickhifmaaGreatDoorPk02
import Derived.Test.YtlleijickhifmaaGreatDoorPk03
import Derived.Deep.MidRow
import Derived.Deep.WholeRow
import Derived.Lib.ItoaNum
import Derived.Lib.ItoaLen
import Derived.Lib.ParseIntBTie
import Derived.Lib.ParseIntBCases
import Derived.Test.YtlleijickhifmaaGreatDoorPk01
namespace Go.Proofs.YtlleijickhifmaaGreatDoor
open Go.RowKit
set_option linter.unusedVariables false
set_option linter.unusedSimpArgs false

def hasI (l : List UInt8) (c : Int) : Bool := l.any fun x => (x.toNat : Int) == c
theorem hasI_drop (l : List UInt8) (c : Int) (k : Nat) (h : k < l.length) : hasI (l.drop k) c = (((l[k].toNat : Int) == c) || hasI (l.drop (k+1)) c) := by
  unfold hasI; rw [List.drop_eq_getElem_cons h, List.any_cons]
/-- The letters of the reference's table are the bits of the program's. -/
theorem letters_tab : ∀ k : Fin 17, hasI (usesStr (k.val + 1 : Nat)) 70 = uB (k.val + 1 : Nat) 1 ∧ hasI (usesStr (k.val + 1 : Nat)) 67 = uB (k.val + 1 : Nat) 2 ∧ hasI (usesStr (k.val + 1 : Nat)) 84 = uB (k.val + 1 : Nat) 4 ∧ hasI (usesStr (k.val + 1 : Nat)) 111 = uB (k.val + 1 : Nat) 8 ∧
    hasI (usesStr (k.val + 1 : Nat)) 75 = uB (k.val + 1 : Nat) 16 ∧ hasI (usesStr (k.val + 1 : Nat)) 68 = uB (k.val + 1 : Nat) 32 ∧ hasI (usesStr (k.val + 1 : Nat)) 82 = uB (k.val + 1 : Nat) 64 ∧ hasI (usesStr (k.val + 1 : Nat)) 72 = uB (k.val + 1 : Nat) 128 ∧ hasI (usesStr (k.val + 1 : Nat)) 97 = climbsB (k.val + 1 : Nat) := by
  decide +kernel
theorem letters (t : Int) (h : knownB t = true) : hasI (usesStr t) 70 = uB t 1 ∧ hasI (usesStr t) 67 = uB t 2 ∧ hasI (usesStr t) 84 = uB t 4 ∧ hasI (usesStr t) 111 = uB t 8 ∧
    hasI (usesStr t) 75 = uB t 16 ∧ hasI (usesStr t) 68 = uB t 32 ∧ hasI (usesStr t) 82 = uB t 64 ∧ hasI (usesStr t) 72 = uB t 128 ∧ hasI (usesStr t) 97 = climbsB t := by
  have h1 : 1 ≤ t ∧ t ≤ 17 := by simpa [knownB] using h
  have := letters_tab ⟨t.toNat - 1, by omega⟩
  have e : ((t.toNat - 1 + 1 : Nat) : Int) = t := by omega
  simp only [e] at this
  exact this
theorem len_ite {c : Prop} [Decidable c] {a b : List UInt8} {n : Nat} (ha : a.length ≤ n) (hb : b.length ≤ n) : (if c then a else b).length ≤ n := by split <;> assumption
theorem usesStr_len (t : Int) : (usesStr t).length ≤ 5 := by
  unfold usesStr
  repeat' (refine len_ite ?_ ?_)
  all_goals decide
end Go.Proofs.YtlleijickhifmaaGreatDoor
namespace Go.Proofs.YtlleijickhifmaaGreatDoor
open Go.RowKit
set_option linter.unusedVariables false
set_option linter.unusedSimpArgs false
theorem turn_f (l : Leg) (h : (turnE (uB l.ty 4) l.turn != 0) = true) : 1 = legC2 l := by grind [legC2, orE, turnE]
theorem turn_g (l : Leg) (h : (turnE (uB l.ty 4) l.turn != 0) = false) : legC2 l = legC3 l := by grind [legC2, orE, turnE]
theorem over_f (l : Leg) (h : overB l = true) : 1 = legC3 l := by grind [legC3, orE]
theorem over_g (l : Leg) (h : overB l = false) : legC3 l = legC4 l := by grind [legC3, orE]
end Go.Proofs.YtlleijickhifmaaGreatDoor
namespace Go.Proofs.YtlleijickhifmaaGreatDoor
open Go.RowKit
set_option linter.unusedVariables false
set_option linter.unusedSimpArgs false
def placedB (x : Entry) : Bool := (x.leg.fix.isEmpty && !(x.ex == 0 && x.ey == 0)) || (x.leg.center.isEmpty && !(x.mx == 0 && x.my == 0))
def alone2 (x : Entry) : Int :=
  if !sectionB x.sec then 17 else if !viaB x.via then 5 else if !pointB x.ex x.ey || !pointB x.mx x.my then 2 else if placedB x then 1 else 0
def aloneE (x : Entry) : Int := orE (legCheck x.leg) (alone2 x)
end Go.Proofs.YtlleijickhifmaaGreatDoor
namespace Go.Proofs.YtlleijickhifmaaGreatDoor
open Go.RowKit
set_option linter.unusedVariables false
set_option linter.unusedSimpArgs false

theorem Entry.leg_sub (x : Entry) : ∀ j, j < 13 → x.arr[1 + j]? = x.leg.arr[j]? := by
  intro j hj
  match j, hj with
  | 0, _ | 1, _ | 2, _ | 3, _ | 4, _ | 5, _ | 6, _ | 7, _ | 8, _ | 9, _ | 10, _ | 11, _ | 12, _ => rfl
theorem infoEntry : (Tryz.prog.info? 80).map (·.size) = some 20 := by kernel_rfl
theorem infoLeg : (Tryz.prog.info? 77).map (·.size) = some 13 := by kernel_rfl
theorem infoPlan : (Tryz.prog.info? 26).map (·.size) = some 4 := by kernel_rfl

/-- The slice (its address A) reads as the entries es. -/
structure Ents (w : World) (A : Option Addr) (es : List Entry) : Prop where
  at_ : es ≠ [] → ∃ b off, A = some ⟨b, off, none⟩ ∧ b < w.heap.size ∧ ∀ i x, es[i]? = some x → ∀ j, j < 20 → w.cell? ⟨b, off + i * 20 + j, none⟩ = x.arr[j]?
theorem Ents.get {w : World} {A : Option Addr} {es : List Entry} (h : Ents w A es) {k : Nat} (hk : k < es.length) :
    ∃ b off, A = some ⟨b, off, none⟩ ∧ b < w.heap.size ∧ ∀ j, j < 20 → w.cell? ⟨b, off + k * 20 + j, none⟩ = es[k].arr[j]? := by
  obtain ⟨b, off, rfl, hb, hc⟩ := h.at_ (by rintro rfl; simp at hk)
  exact ⟨b, off, rfl, hb, hc k _ (List.getElem?_eq_getElem hk)⟩
theorem Ents.below {w w' : World} {A : Option Addr} {es : List Entry} {B : Nat} (h : Ents w A es) (hb : Below w.heap.size w w') : Ents w' A es where
  at_ hne := by
    obtain ⟨b, off, rfl, hlt, hc⟩ := h.at_ hne
    exact ⟨b, off, rfl, Nat.lt_of_lt_of_le hlt hb.size, fun i x hx j hj => by rw [hb.cell (p := ⟨b, _, none⟩) hlt]; exact hc i x hx j hj⟩
/-- The cells of element k in a later world. -/
theorem Ents.cells {w W : World} {b off : Nat} {es : List Entry} (h : Ents w (some ⟨b, off, none⟩) es) (hB : Below w.heap.size w W) {k : Nat} (hk : k < es.length) :
    ∀ j, j < 20 → W.cell? ⟨b, off + k * 20 + j, none⟩ = es[k].arr[j]? := by
  obtain ⟨b', off', hA, hb, hc⟩ := h.get hk
  obtain ⟨rfl, rfl⟩ : b = b' ∧ off = off' := by simpa using hA
  exact fun j hj => by rw [hB.cell (p := ⟨b, _, none⟩) hb]; exact hc j hj
theorem Ents.nil (w : World) (A : Option Addr) : Ents w A [] := ⟨fun h => absurd rfl h⟩

structure Plan where
  from_ : List UInt8
  to_ : List UInt8
  es : List Entry
  active : Int
def Plan.arr (p : Plan) (A : Option Addr) (c : Nat) : Array Value := #[.string ⟨p.from_.toArray⟩, .string ⟨p.to_.toArray⟩, .slice A p.es.length c, .int .i64 p.active]
abbrev Plan.val (p : Plan) (A : Option Addr) (c : Nat) : Value := .agg (p.arr A c)
theorem Plan.arr0 (p : Plan) (A : Option Addr) (c : Nat) : (p.arr A c)[0]? = some (.string ⟨p.from_.toArray⟩) := rfl
theorem Plan.arr1 (p : Plan) (A : Option Addr) (c : Nat) : (p.arr A c)[1]? = some (.string ⟨p.to_.toArray⟩) := rfl
theorem Plan.arr2 (p : Plan) (A : Option Addr) (c : Nat) : (p.arr A c)[2]? = some (.slice A p.es.length c) := rfl
theorem Plan.arr3 (p : Plan) (A : Option Addr) (c : Nat) : (p.arr A c)[3]? = some (.int .i64 p.active) := rfl
attribute [go_sem] Plan.arr0 Plan.arr1 Plan.arr2 Plan.arr3
structure Plan.small (p : Plan) : Prop where
  from_ : p.from_.length ≤ 4000000000
  to_ : p.to_.length ≤ 4000000000
  len : p.es.length ≤ 4000000000
  each : ∀ x ∈ p.es, x.small

def findGo (at_ : Int) (ref : List UInt8) : List Entry → Nat → Int
  | [], _ => -1
  | x :: r, i => if decide (at_ ≤ i) && !x.gap && endsB x.leg.ty && x.leg.fix == ref then i else findGo at_ ref r (i + 1)
def findE (p : Plan) (at_ : Int) (ref : List UInt8) : Int := findGo at_ ref p.es 0
end Go.Proofs.YtlleijickhifmaaGreatDoor
namespace Go.Proofs.YtlleijickhifmaaGreatDoor
set_option linter.unusedVariables false
set_option linter.unusedSimpArgs false
def isD (c : UInt8) : Bool := decide (48 ≤ c.toNat) && decide (c.toNat ≤ 57)
def dg (n : Nat) : UInt8 := UInt8.ofNat (48 + n)
theorem dg_toNat {n : Nat} (h : n < 10) : (dg n).toNat = 48 + n := by
  unfold dg; rw [UInt8.toNat_ofNat']; omega
theorem dg_of {c : UInt8} (h : isD c = true) : dg (c.toNat - 48) = c := by
  have h1 : 48 ≤ c.toNat ∧ c.toNat ≤ 57 := by simpa [isD] using h
  apply UInt8.toNat_inj.1
  rw [dg_toNat (by omega)]; omega
theorem isD_dg {n : Nat} (h : n < 10) : isD (dg n) = true := by simp [isD, dg_toNat h]; omega
/-- The value of digits, the ones ahead of them standing for a. -/
def numV (a : Nat) (l : List UInt8) : Nat := l.foldl (fun n c => 10 * n + (c.toNat - 48)) a
theorem numV_nil (a : Nat) : numV a [] = a := rfl
theorem numV_cons (a : Nat) (c : UInt8) (r : List UInt8) : numV a (c :: r) = numV (10 * a + (c.toNat - 48)) r := by unfold numV; rw [List.foldl_cons]
def val (l : List UInt8) : Nat := numV 0 l
theorem numV_append (a : Nat) (l r : List UInt8) : numV a (l ++ r) = numV (numV a l) r := by
  induction l generalizing a with
  | nil => rfl
  | cons c l ih => rw [List.cons_append, numV_cons, numV_cons]; exact ih _
theorem numV_lt : ∀ (l : List UInt8) (hl : l.all isD = true) (a p : Nat), a < p → numV a l < p * 10 ^ l.length
  | [], _, a, p, h => by simpa [numV_nil] using h
  | c :: l, hl, a, p, h => by
    simp only [List.all_cons, Bool.and_eq_true] at hl
    have hc : 48 ≤ c.toNat ∧ c.toNat ≤ 57 := by simpa [isD] using hl.1
    have := numV_lt l hl.2 (10 * a + (c.toNat - 48)) (10 * p) (by omega)
    rw [List.length_cons, Nat.pow_succ, Nat.mul_comm (10 ^ l.length) 10, ← Nat.mul_assoc, Nat.mul_comm p 10]
    rw [numV_cons]
    exact this
theorem numV_ge (l : List UInt8) : ∀ a : Nat, a ≤ numV a l := by
  induction l with
  | nil => intro a; simp [numV_nil]
  | cons c l ih => intro a; have := ih (10 * a + (c.toNat - 48)); simp only [numV_cons]; omega
theorem numV_ge_pow (l : List UInt8) : ∀ (a k : Nat), 10 ^ k ≤ a → 10 ^ (k + l.length) ≤ numV a l := by
  induction l with
  | nil => intro a k h; simp only [numV_nil, List.length_nil, Nat.add_zero]; exact h
  | cons c l ih =>
    intro a k h
    have hp : 10 ^ (k + 1) ≤ 10 * a + (c.toNat - 48) := by rw [Nat.pow_succ]; omega
    have := ih (10 * a + (c.toNat - 48)) (k + 1) hp
    rw [show k + (c :: l).length = k + 1 + l.length by simp; omega]
    simp only [numV_cons]
    exact this
theorem val_lt (l : List UInt8) (hl : l.all isD = true) : val l < 10 ^ l.length := by
  have := numV_lt l hl 0 1 (by decide); rw [Nat.one_mul] at this; exact this
theorem val_snoc (l : List UInt8) (c : UInt8) : val (l ++ [c]) = 10 * val l + (c.toNat - 48) := by unfold val; rw [numV_append, numV_cons, numV_nil]
/-- A number without a sign and without a zero ahead of another digit. -/
def plainB : List UInt8 → Bool
  | [] => false
  | c :: r => (r.isEmpty || c != 48) && (c :: r).all isD
theorem plainB_all {l : List UInt8} (h : plainB l = true) : l.all isD = true := by
  cases l with
  | nil => rfl
  | cons c r => simp only [plainB, Bool.and_eq_true] at h; exact h.2
theorem plainB_ne {l : List UInt8} (h : plainB l = true) : l ≠ [] := by rintro rfl; simp [plainB] at h
theorem dec_small {u : Nat} (h : u < 10) : Lib.decDigits u = [dg u] := Lib.decDigits_one h
theorem dec_big {u : Nat} (h : ¬ u < 10) : Lib.decDigits u = Lib.decDigits (u / 10) ++ [dg (u % 10)] := by rw [Lib.decDigits, dif_neg h]; rfl
theorem val_dec (u : Nat) : val (Lib.decDigits u) = u := by
  induction u using Nat.strongRecOn with
  | ind u ih =>
    by_cases h : u < 10
    · rw [dec_small h]; simp [val, numV_cons, numV_nil, dg_toNat h]
    · rw [dec_big h, val_snoc, ih _ (by omega), dg_toNat (by omega)]; omega
theorem dec_all (u : Nat) : (Lib.decDigits u).all isD = true := by
  induction u using Nat.strongRecOn with
  | ind u ih =>
    by_cases h : u < 10
    · rw [dec_small h]; simp [isD_dg h]
    · rw [dec_big h, List.all_append, ih _ (by omega)]; simp [isD_dg (show u % 10 < 10 by omega)]
theorem dec_ne (u : Nat) : Lib.decDigits u ≠ [] := by
  intro h
  have := Lib.decDigits_length u
  have := Lib.nDigits_pos u
  rw [h] at *; simp at *; omega
theorem dec_head (u : Nat) (h : 0 < u) : ∃ c r, Lib.decDigits u = c :: r ∧ c ≠ 48 := by
  induction u using Nat.strongRecOn with
  | ind u ih =>
    by_cases hu : u < 10
    · refine ⟨dg u, [], dec_small hu, ?_⟩
      intro e
      have := congrArg UInt8.toNat e
      rw [dg_toNat hu] at this
      simp at this; omega
    · obtain ⟨c, r, h1, h2⟩ := ih (u / 10) (by omega) (by omega)
      exact ⟨c, r ++ [dg (u % 10)], by rw [dec_big hu, h1]; rfl, h2⟩
theorem plain_dec (u : Nat) : plainB (Lib.decDigits u) = true := by
  by_cases h : u = 0
  · subst h; rw [dec_small (by decide)]; decide
  · obtain ⟨c, r, h1, h2⟩ := dec_head u (by omega)
    have := dec_all u
    rw [h1] at this ⊢
    simp [plainB, h2] at this ⊢
    exact this
theorem snoc_ind {P : List UInt8 → Prop} (h0 : P []) (h1 : ∀ l c, P l → P (l ++ [c])) (l : List UInt8) : P l := by
  rw [← List.reverse_reverse l]
  induction l.reverse with
  | nil => exact h0
  | cons a r ih => rw [List.reverse_cons]; exact h1 _ _ ih
theorem val_pos (c : UInt8) (r : List UInt8) (hd : isD c = true) (h : c ≠ 48) : 0 < val (c :: r) := by
  have h1 : 48 ≤ c.toNat ∧ c.toNat ≤ 57 := by simpa [isD] using hd
  have h2 : c.toNat ≠ 48 := fun e => h (UInt8.toNat_inj.1 e)
  have := numV_ge r (10 * 0 + (c.toNat - 48))
  simp only [val, numV_cons, numV_nil]; omega
theorem dec_val (l : List UInt8) : plainB l = true → Lib.decDigits (val l) = l := by
  induction l using snoc_ind with
  | h0 => intro h; simp [plainB] at h
  | h1 l c ih =>
    intro h
    have ha := plainB_all h
    rw [List.all_append] at ha
    simp only [List.all_cons, List.all_nil, Bool.and_true, Bool.and_eq_true] at ha
    have hc : 48 ≤ c.toNat ∧ c.toNat ≤ 57 := by simpa [isD] using ha.2
    rw [val_snoc]
    cases l with
    | nil =>
      rw [dec_small (by simp [val, numV_cons, numV_nil]; omega)]
      simp [val, numV_cons, numV_nil, dg_of ha.2]
    | cons a r =>
      have hn : a ≠ 48 := by
        intro e; subst e
        simp [plainB] at h
      have ha' := ha.1
      simp only [List.all_cons, Bool.and_eq_true] at ha'
      have hp : plainB (a :: r) = true := by simp only [plainB, List.all_cons, Bool.and_eq_true]; exact ⟨by simp [hn], ha'⟩
      have := val_pos a r ha'.1 hn
      rw [dec_big (by omega), show (10 * val (a :: r) + (c.toNat - 48)) / 10 = val (a :: r) by omega, ih hp, show (10 * val (a :: r) + (c.toNat - 48)) % 10 = c.toNat - 48 by omega, dg_of ha.2]
theorem dec_len {u k : Nat} (hk : 0 < k) (h : u < 10 ^ k) : (Lib.decDigits u).length ≤ k := by
  rcases Nat.lt_or_ge k (Lib.decDigits u).length with hlt | hge
  · by_cases h0 : u = 0
    · subst h0; rw [dec_small (by decide)] at hlt; simp at hlt; omega
    · obtain ⟨c, r, h1, h2⟩ := dec_head u (by omega)
      have hd := dec_all u
      rw [h1] at hd hlt
      simp only [List.all_cons, Bool.and_eq_true] at hd
      have hv := val_pos c r hd.1 h2
      have e : val (c :: r) = u := by rw [← h1, val_dec]
      have hc : 48 ≤ c.toNat ∧ c.toNat ≤ 57 := by simpa [isD] using hd.1
      have h3 : c.toNat ≠ 48 := fun e => h2 (UInt8.toNat_inj.1 e)
      have := numV_ge_pow r (10 * 0 + (c.toNat - 48)) 0 (by simp; omega)
      rw [show numV (10 * 0 + (c.toNat - 48)) r = u from e] at this
      have h4 : 10 ^ k ≤ 10 ^ (0 + r.length) := Nat.pow_le_pow_right (by decide) (by simp at hlt; omega)
      omega
  · exact hge
theorem parseUintM_digits (M : Nat) (hM : M ≤ 18446744073709551615) : ∀ (l : List UInt8) (a : Nat), l.all isD = true → numV a l ≤ M → Lib.parseUintM M a l = .ok (numV a l)
  | [], a, _, _ => rfl
  | c :: r, a, h, hm => by
    simp only [List.all_cons, Bool.and_eq_true] at h
    have hc : 48 ≤ c.toNat ∧ c.toNat ≤ 57 := by simpa [isD] using h.1
    have hge := numV_ge r (10 * a + (c.toNat - 48))
    simp only [numV_cons] at hm ⊢
    rw [Lib.parseUintM, if_pos hc, if_neg (by omega), if_neg (by omega), Nat.mul_comm a 10]
    exact parseUintM_digits M hM r _ h.2 hm
theorem parseInt_plain (l : List UInt8) (hne : l ≠ []) (h : l.all isD = true) (hv : val l < 9223372036854775808) : Lib.parseIntB 64 l = .ok (val l : Int) := by
  cases l with
  | nil => exact absurd rfl hne
  | cons c r =>
    have h' := h
    simp only [List.all_cons, Bool.and_eq_true] at h'
    have hc : 48 ≤ c.toNat ∧ c.toNat ≤ 57 := by simpa [isD] using h'.1
    rw [Lib.parseIntB_plain 64 c r (by omega) (by omega), Lib.parseUintB, if_neg (by simp), parseUintM_digits _ (by decide) _ _ h (by unfold val at hv; omega)]
    simp only [Lib.signlessC]
    unfold val at hv
    rw [if_neg (by omega)]
    rfl
end Go.Proofs.YtlleijickhifmaaGreatDoor
namespace Go.Proofs.YtlleijickhifmaaGreatDoor
set_option linter.unusedVariables false
set_option linter.unusedSimpArgs false
/-- An altitude without its sign. -/
def altN (m : Nat) : List UInt8 := Lib.decDigits (m / 100) ++ if m % 100 = 0 then [] else 46 :: (Lib.decDigits (m % 100 / 10) ++ Lib.decDigits (m % 10))
def altS (a : Int) : List UInt8 := (if a < 0 then [45] else []) ++ altN a.natAbs
def altT (a : Int) : List UInt8 × Int := if -200000 ≤ a ∧ a ≤ 6000000 then (altS a, 0) else ([], 2)
theorem altT_out {a : Int} (h : ¬ (-200000 ≤ a ∧ a ≤ 6000000)) : altT a = ([], 2) := by unfold altT; rw [if_neg h]
theorem altT_in {a : Int} (h : -200000 ≤ a ∧ a ≤ 6000000) : altT a = (altS a, 0) := by unfold altT; rw [if_pos h]
theorem altS_pos {a : Int} (h : 0 ≤ a) : altS a = altN a.toNat := by unfold altS; rw [if_neg (by omega), show a.natAbs = a.toNat by omega]; rfl
theorem altS_neg {m : Int} (h : 0 < m) : altS (-m) = 45 :: altN m.toNat := by unfold altS; rw [if_pos (by omega), show (-m).natAbs = m.toNat by omega]; rfl
theorem altN_whole {m : Int} (h0 : 0 ≤ m) (h : m % 100 = 0) : altN m.toNat = Lib.decDigits (m / 100).toNat := by
  unfold altN; rw [if_pos (by omega), show m.toNat / 100 = (m / 100).toNat by omega]; simp
theorem altN_part {m : Int} (h0 : 0 ≤ m) (h : ¬ m % 100 = 0) : altN m.toNat = Lib.decDigits (m / 100).toNat ++ (46 :: (Lib.decDigits (m % 100 / 10).toNat ++ Lib.decDigits (m % 10).toNat)) := by
  unfold altN; rw [if_neg (by omega), show m.toNat / 100 = (m / 100).toNat by omega, show m.toNat % 100 / 10 = (m % 100 / 10).toNat by omega, show m.toNat % 10 = (m % 10).toNat by omega]
theorem altN_len {m : Nat} (h : m ≤ 6000000) : (altN m).length ≤ 12 := by
  have h1 : (Lib.decDigits (m / 100)).length ≤ 6 := dec_len (by decide) (by omega)
  have h2 : (Lib.decDigits (m % 100 / 10)).length ≤ 1 := dec_len (by decide) (by omega)
  have h3 : (Lib.decDigits (m % 10)).length ≤ 1 := dec_len (by decide) (by omega)
  unfold altN
  split <;> simp <;> omega
theorem altS_len {a : Int} (h0 : -200000 ≤ a) (h : a ≤ 6000000) : (altS a).length ≤ 13 := by
  have := altN_len (m := a.natAbs) (by omega)
  unfold altS
  split <;> simp <;> omega
/-- A window's text. -/
def winS (lo hi : Int) : List UInt8 :=
  if lo = -200000 ∧ hi = 6000000 then [45] else if lo = hi then altS lo else if hi = 6000000 then altS lo ++ [43] else if lo = -200000 then altS hi ++ [45] else altS lo ++ (58 :: altS hi)
def winOk (lo hi : Int) : Prop := -200000 ≤ lo ∧ lo ≤ hi ∧ hi ≤ 6000000
instance (lo hi : Int) : Decidable (winOk lo hi) := by unfold winOk; infer_instance
def winT (lo hi : Int) : List UInt8 × Int := if winOk lo hi then (winS lo hi, 0) else ([], 1)
theorem winT_in {lo hi : Int} (h : winOk lo hi) : winT lo hi = (winS lo hi, 0) := by unfold winT; rw [if_pos h]
theorem winT_out {lo hi : Int} (h : ¬ winOk lo hi) : winT lo hi = ([], 1) := by unfold winT; rw [if_neg h]
theorem winS_len {lo hi : Int} (h : winOk lo hi) : (winS lo hi).length ≤ 27 := by
  obtain ⟨h1, h2, h3⟩ := h
  have a := altS_len h1 (by omega)
  have b := altS_len (a := hi) (by omega) h3
  unfold winS
  repeat' split
  all_goals simp
  all_goals omega
/-- A distance's text: miles, and the rest of a mile. -/
def distS (d : Nat) : List UInt8 := Lib.decDigits (d / 6000) ++ if d % 6000 = 0 then [] else 43 :: Lib.decDigits (d % 6000)
def distT (d : Int) : List UInt8 × Int := if 0 ≤ d ∧ d ≤ 8000000 then (distS d.toNat, 0) else ([], 2)
theorem distT_in {d : Int} (h : 0 ≤ d ∧ d ≤ 8000000) : distT d = (distS d.toNat, 0) := by unfold distT; rw [if_pos h]
theorem distT_out {d : Int} (h : ¬ (0 ≤ d ∧ d ≤ 8000000)) : distT d = ([], 2) := by unfold distT; rw [if_neg h]
theorem distS_whole {d : Int} (h0 : 0 ≤ d) (h : d % 6000 = 0) : distS d.toNat = Lib.decDigits (d / 6000).toNat := by
  unfold distS; rw [if_pos (by omega), show d.toNat / 6000 = (d / 6000).toNat by omega]; simp
theorem distS_part {d : Int} (h0 : 0 ≤ d) (h : ¬ d % 6000 = 0) : distS d.toNat = Lib.decDigits (d / 6000).toNat ++ (43 :: Lib.decDigits (d % 6000).toNat) := by
  unfold distS; rw [if_neg (by omega), show d.toNat / 6000 = (d / 6000).toNat by omega, show d.toNat % 6000 = (d % 6000).toNat by omega]
theorem distS_len {d : Nat} (h : d ≤ 8000000) : (distS d).length ≤ 10 := by
  have h1 : (Lib.decDigits (d / 6000)).length ≤ 4 := dec_len (by decide) (by omega)
  have h2 : (Lib.decDigits (d % 6000)).length ≤ 4 := dec_len (by decide) (by omega)
  unfold distS
  split <;> simp <;> omega
/-! What such texts mean. -/
def cutPre (c : UInt8) (l : List UInt8) : List UInt8 × Bool := match l with | x :: r => if x = c then (r, true) else (l, false) | [] => ([], false)
def cutSuf (c : UInt8) (l : List UInt8) : List UInt8 × Bool := if l.getLast? = some c then (l.dropLast, true) else (l, false)
/-- Two digits that are not both zero. -/
def hundB : List UInt8 → Bool
  | [a, b] => isD a && isD b && !(a == 48 && b == 48)
  | _ => false
def feetV (feet : List UInt8) : Int := if feet.length < 10 then (val feet : Int) else 1099511627776
def altP3 (minus : Bool) (feet hund : List UInt8) (point : Bool) : Int × Bool :=
  if plainB feet = true ∧ (point = false ∨ hundB hund = true) then
    (if minus then (-(feetV feet * 100 + if point then (val hund : Int) else 0), decide (feetV feet * 100 + (if point then (val hund : Int) else 0) ≠ 0)) else (feetV feet * 100 + (if point then (val hund : Int) else 0), true))
  else (0, false)
def altP (s : List UInt8) : Int × Bool := altP3 (cutPre 45 s).2 (cutAt 46 (cutPre 45 s).1).1 (cutAt 46 (cutPre 45 s).1).2.1 (cutAt 46 (cutPre 45 s).1).2.2
def winP (s : List UInt8) : (Int × Int) × Bool :=
  if s = [45] then ((-200000, 6000000), true)
  else if (cutAt 58 s).2.2 then (((altP (cutAt 58 s).1).1, (altP (cutAt 58 s).2.1).1), (altP (cutAt 58 s).1).2 && (altP (cutAt 58 s).2.1).2)
  else if (cutSuf 43 s).2 then (((altP (cutSuf 43 s).1).1, 6000000), (altP (cutSuf 43 s).1).2)
  else if (cutSuf 45 s).2 then ((-200000, (altP (cutSuf 45 s).1).1), (altP (cutSuf 45 s).1).2)
  else (((altP s).1, (altP s).1), (altP s).2)
def rangedB (a : Int) : Bool := decide (-200000 ≤ a) && decide (a ≤ 6000000)
def parseWinS (s : List UInt8) : (Int × Int) × Int :=
  if (winP s).2 = true then
    if rangedB (winP s).1.1 = true ∧ rangedB (winP s).1.2 = true then
      if (winP s).1.2 < (winP s).1.1 then ((0, 0), 9) else if winS (winP s).1.1 (winP s).1.2 = s then ((winP s).1, 0) else ((0, 0), 4)
    else ((0, 0), 2)
  else ((0, 0), 4)
def restOk (r : List UInt8) : Bool := plainB r && !(r == [48]) && decide (r.length ≤ 4)
def distP3 (miles rest : List UInt8) (two : Bool) : Int × Int :=
  if plainB miles = true ∧ (two = false ∨ restOk rest = true) then
    if two = true ∧ 6000 ≤ val rest then (0, 4)
    else if 9 < miles.length then (0, 2)
    else if 8000000 < val miles * 6000 + (if two then val rest else 0) then (0, 2) else (((val miles * 6000 + (if two then val rest else 0) : Nat) : Int), 0)
  else (0, 4)
def distP (s : List UInt8) : Int × Int := distP3 (cutAt 43 s).1 (cutAt 43 s).2.1 (cutAt 43 s).2.2
/-! The two are inverse. -/
theorem isD_ne {c d : UInt8} (h : isD c = true) (hd : isD d = false) : c ≠ d := by rintro rfl; rw [h] at hd; cases hd
theorem cutAt_digits {c : UInt8} (hc : isD c = false) (l r : List UInt8) (h : l.all isD = true) : cutAt c (l ++ c :: r) = (l, r, true) := by
  induction l with
  | nil => simp [cutAt]
  | cons x l ih =>
    simp only [List.all_cons, Bool.and_eq_true] at h
    have := isD_ne h.1 hc
    simp [cutAt, this, ih h.2]
theorem cutAt_plain {c : UInt8} (hc : isD c = false) (l : List UInt8) (h : l.all isD = true) : cutAt c l = (l, [], false) := by
  refine cutAt_none c l ?_
  rw [List.all_eq_true] at h ⊢
  intro x hx
  simpa using isD_ne (h x hx) hc
theorem distP_distS {d : Nat} (h : d ≤ 8000000) : distP (distS d) = ((d : Int), 0) := by
  have ha := dec_all (d / 6000)
  have hp := plain_dec (d / 6000)
  have hv := val_dec (d / 6000)
  have hl : (Lib.decDigits (d / 6000)).length ≤ 4 := dec_len (by decide) (by omega)
  unfold distP distS
  by_cases hk : d % 6000 = 0
  · rw [if_pos hk, List.append_nil, cutAt_plain (by decide) _ ha]
    show distP3 (Lib.decDigits (d / 6000)) [] false = _
    unfold distP3
    rw [if_pos ⟨hp, .inl rfl⟩, if_neg (by simp), if_neg (by omega), hv]
    simp only [Bool.false_eq_true, if_false]
    rw [if_neg (by omega)]
    simp; omega
  · rw [if_neg hk, cutAt_digits (by decide) _ _ ha]
    have hp2 := plain_dec (d % 6000)
    have hv2 := val_dec (d % 6000)
    have hl2 : (Lib.decDigits (d % 6000)).length ≤ 4 := dec_len (by decide) (by omega)
    have hr : restOk (Lib.decDigits (d % 6000)) = true := by
      unfold restOk
      rw [hp2]
      have : ¬ Lib.decDigits (d % 6000) = [48] := by
        intro e
        rw [e] at hv2
        have : val [48] = 0 := by decide
        omega
      simp [this, hl2]
    show distP3 (Lib.decDigits (d / 6000)) (Lib.decDigits (d % 6000)) true = _
    unfold distP3
    rw [if_pos ⟨hp, .inr hr⟩, if_neg (by omega), if_neg (by omega), hv, hv2]
    simp only [if_true]
    rw [if_neg (by omega)]
    simp; omega
theorem distP3_bd {a r : List UInt8} {b : Bool} (h : (distP3 a r b).2 = 0) : 0 ≤ (distP3 a r b).1 ∧ (distP3 a r b).1 ≤ 8000000 := by
  unfold distP3 at h ⊢
  generalize (if b = true then val r else 0) = k at h ⊢
  by_cases h1 : plainB a = true ∧ (b = false ∨ restOk r = true)
  · rw [if_pos h1] at h ⊢
    by_cases h2 : b = true ∧ 6000 ≤ val r
    · rw [if_pos h2] at h; simp at h
    · rw [if_neg h2] at h ⊢
      by_cases h3 : 9 < a.length
      · rw [if_pos h3] at h; simp at h
      · rw [if_neg h3] at h ⊢
        by_cases h4 : 8000000 < val a * 6000 + k
        · rw [if_pos h4] at h; simp at h
        · rw [if_neg h4]
          simp only
          omega
  · rw [if_neg h1] at h; simp at h
theorem distS_distP {s : List UInt8} (h : (distP s).2 = 0) : 0 ≤ (distP s).1 ∧ (distP s).1 ≤ 8000000 := distP3_bd h
theorem altN_digits {m : Nat} : ∃ c r, altN m = c :: r ∧ isD c = true := by
  have h1 := dec_all (m / 100)
  have h2 := dec_ne (m / 100)
  unfold altN
  match h : Lib.decDigits (m / 100) with
  | [] => exact absurd h h2
  | c :: r =>
    rw [h] at h1
    simp only [List.all_cons, Bool.and_eq_true] at h1
    exact ⟨c, _, rfl, h1.1⟩
theorem cutPre_altS {a : Int} : cutPre 45 (altS a) = (altN a.natAbs, decide (a < 0)) := by
  unfold altS
  by_cases h : a < 0
  · rw [if_pos h]; simp [cutPre, h]
  · rw [if_neg h]
    obtain ⟨c, r, h1, h2⟩ := altN_digits (m := a.natAbs)
    rw [h1]
    have := isD_ne h2 (d := 45) (by decide)
    simp [cutPre, this, h]
theorem altP_altS {a : Int} (h0 : -200000 ≤ a) (h1 : a ≤ 6000000) : altP (altS a) = (a, true) := by
  unfold altP
  rw [cutPre_altS]
  simp only
  have hm : a.natAbs ≤ 6000000 := by omega
  obtain ⟨m, hmm⟩ : ∃ m, m = a.natAbs := ⟨_, rfl⟩
  rw [← hmm] at hm ⊢
  have ha := dec_all (m / 100)
  have hp := plain_dec (m / 100)
  have hv := val_dec (m / 100)
  have hl : (Lib.decDigits (m / 100)).length ≤ 6 := dec_len (by decide) (by omega)
  have hf : feetV (Lib.decDigits (m / 100)) = ((m / 100 : Nat) : Int) := by unfold feetV; rw [if_pos (by omega), hv]
  unfold altN
  by_cases hk : m % 100 = 0
  · rw [if_pos hk, List.append_nil, cutAt_plain (by decide) _ ha]
    show altP3 _ (Lib.decDigits (m / 100)) [] false = _
    unfold altP3
    rw [if_pos ⟨hp, .inl rfl⟩, hf]
    by_cases hn : a < 0
    · simp [hn]; omega
    · simp [hn]; omega
  · rw [if_neg hk, cutAt_digits (by decide) _ _ ha]
    have e1 : Lib.decDigits (m % 100 / 10) = [dg (m % 100 / 10)] := dec_small (by omega)
    have e2 : Lib.decDigits (m % 10) = [dg (m % 10)] := dec_small (by omega)
    rw [e1, e2]
    have d1 := isD_dg (n := m % 100 / 10) (by omega)
    have d2 := isD_dg (n := m % 10) (by omega)
    have n1 := dg_toNat (n := m % 100 / 10) (by omega)
    have n2 := dg_toNat (n := m % 10) (by omega)
    have hh : hundB ([dg (m % 100 / 10)] ++ [dg (m % 10)]) = true := by
      simp only [List.cons_append, List.nil_append, hundB, d1, d2, Bool.true_and, Bool.not_eq_true', Bool.and_eq_false_iff, beq_eq_false_iff_ne]
      by_cases hz : m % 100 / 10 = 0
      · right
        intro e
        have := congrArg UInt8.toNat e
        rw [n2] at this
        simp at this; omega
      · left
        intro e
        have := congrArg UInt8.toNat e
        rw [n1] at this
        simp at this; omega
    have hvv : val ([dg (m % 100 / 10)] ++ [dg (m % 10)]) = m % 100 := by
      rw [val_snoc, n2]
      simp only [val, numV_cons, numV_nil, n1]
      omega
    show altP3 _ (Lib.decDigits (m / 100)) ([dg (m % 100 / 10)] ++ [dg (m % 10)]) true = _
    unfold altP3
    rw [if_pos ⟨hp, .inr hh⟩, hf, hvv]
    by_cases hn : a < 0
    · simp [hn]; omega
    · simp [hn]; omega
/-- The bytes of an altitude: digits, a sign, a point. -/
def altC (c : UInt8) : Bool := isD c || c == 45 || c == 46
theorem all_mono {p q : UInt8 → Bool} (h : ∀ c, p c = true → q c = true) {l : List UInt8} (hl : l.all p = true) : l.all q = true := by
  rw [List.all_eq_true] at hl ⊢
  exact fun x hx => h x (hl x hx)
theorem altN_all (m : Nat) : (altN m).all altC = true := by
  have h : ∀ u, (Lib.decDigits u).all altC = true := fun u => all_mono (fun c hc => by simp [altC, hc]) (dec_all u)
  unfold altN
  split
  · simp only [List.append_nil, h]
  · simp only [List.all_append, List.all_cons, h, Bool.and_true]; decide
theorem altS_all (a : Int) : (altS a).all altC = true := by
  unfold altS
  rw [List.all_append, altN_all]
  split <;> decide
theorem dec_last (u : Nat) : ∃ c, (Lib.decDigits u).getLast? = some c ∧ isD c = true := by
  have h1 := dec_all u
  have h2 := dec_ne u
  rw [List.all_eq_true] at h1
  exact ⟨_, List.getLast?_eq_some_getLast h2, h1 _ (List.getLast_mem h2)⟩
theorem altN_last (m : Nat) : ∃ c, (altN m).getLast? = some c ∧ isD c = true := by
  unfold altN
  split
  · rw [List.append_nil]; exact dec_last _
  · obtain ⟨c, h1, h2⟩ := dec_last (m % 10)
    refine ⟨c, ?_, h2⟩
    rw [List.getLast?_append]
    rw [show (46 :: (Lib.decDigits (m % 100 / 10) ++ Lib.decDigits (m % 10)) : List UInt8) = (46 :: Lib.decDigits (m % 100 / 10)) ++ Lib.decDigits (m % 10) from rfl, List.getLast?_append, h1]
    rfl
theorem altS_last (a : Int) : ∃ c, (altS a).getLast? = some c ∧ isD c = true := by
  obtain ⟨c, h1, h2⟩ := altN_last a.natAbs
  refine ⟨c, ?_, h2⟩
  unfold altS
  rw [List.getLast?_append, h1]; rfl
theorem altC_ne {c d : UInt8} (h : altC c = true) (hd : altC d = false) : c ≠ d := by rintro rfl; rw [h] at hd; cases hd
theorem altS_ne (a : Int) : altS a ≠ [] := by
  obtain ⟨c, h1, _⟩ := altS_last a
  intro e
  rw [e] at h1
  cases h1
theorem cutAt_not {c : UInt8} {l : List UInt8} (h : c ∉ l) : cutAt c l = (l, [], false) := by
  refine cutAt_none c l ?_
  rw [List.all_eq_true]
  intro x hx
  simp only [bne_iff_ne]
  rintro rfl
  exact h hx
theorem altS_not {c : UInt8} (hc : altC c = false) (a : Int) : c ∉ altS a := by
  intro hm
  have := List.all_eq_true.1 (altS_all a) c hm
  rw [hc] at this
  cases this
theorem cutAt_of {c : UInt8} (l r : List UInt8) (h : c ∉ l) : cutAt c (l ++ c :: r) = (l, r, true) := by
  induction l with
  | nil => simp [cutAt]
  | cons x l ih =>
    simp only [List.mem_cons, not_or] at h
    have h1 : ¬ x = c := fun e => h.1 e.symm
    simp [cutAt, h1, ih h.2]
theorem cutSuf_snoc (c : UInt8) (l : List UInt8) : cutSuf c (l ++ [c]) = (l, true) := by
  unfold cutSuf
  rw [if_pos (by simp), List.dropLast_concat]
theorem cutSuf_no {c d : UInt8} {l : List UInt8} (h : l.getLast? = some d) (hd : d ≠ c) : cutSuf c l = (l, false) := by
  unfold cutSuf
  rw [if_neg (by rw [h]; simpa using hd)]
theorem winP_winS {lo hi : Int} (h : winOk lo hi) : winP (winS lo hi) = ((lo, hi), true) := by
  obtain ⟨h1, h2, h3⟩ := h
  have pl := altP_altS h1 (show lo ≤ 6000000 by omega)
  have ph := altP_altS (show -200000 ≤ hi by omega) h3
  unfold winS
  by_cases c1 : lo = -200000 ∧ hi = 6000000
  · rw [if_pos c1]; obtain ⟨rfl, rfl⟩ := c1; rfl
  · rw [if_neg c1]
    by_cases c2 : lo = hi
    · rw [if_pos c2]
      subst c2
      obtain ⟨d, hd, hdd⟩ := altS_last lo
      unfold winP
      rw [if_neg (by intro e; rw [e] at hd; simp at hd; subst hd; revert hdd; decide), cutAt_not (altS_not (by decide) lo), cutSuf_no hd (isD_ne hdd (by decide)), cutSuf_no hd (isD_ne hdd (by decide)), pl]
      simp
    · rw [if_neg c2]
      by_cases c3 : hi = 6000000
      · rw [if_pos c3]
        unfold winP
        rw [if_neg (by intro e; have := congrArg List.getLast? e; simp at this), cutAt_not (by simp; exact altS_not (by decide) lo), cutSuf_snoc, pl]
        simp [c3]
      · rw [if_neg c3]
        by_cases c4 : lo = -200000
        · rw [if_pos c4]
          have hn := altS_ne hi
          unfold winP
          rw [if_neg (by intro e; apply hn; simpa using e), cutAt_not (by simp; exact altS_not (by decide) hi), cutSuf_no (c := 43) (d := 45) (by simp) (by decide), cutSuf_snoc, ph]
          simp [c4]
        · rw [if_neg c4]
          unfold winP
          rw [if_neg (by intro e; have := altS_ne hi; have := altS_ne lo; have := congrArg List.length e; simp at this; have := List.length_pos_iff.2 (altS_ne lo); have := List.length_pos_iff.2 (altS_ne hi); omega), cutAt_of _ _ (altS_not (by decide) lo), pl, ph]
          simp
theorem parseWin_winS {lo hi : Int} (h : winOk lo hi) : parseWinS (winS lo hi) = ((lo, hi), 0) := by
  unfold parseWinS
  rw [winP_winS h]
  obtain ⟨h1, h2, h3⟩ := h
  simp only
  rw [if_pos trivial, if_pos (by simp [rangedB]; omega), if_neg (by omega), if_pos trivial]
theorem parseWin_ok {s : List UInt8} (h : (parseWinS s).2 = 0) : winOk (parseWinS s).1.1 (parseWinS s).1.2 ∧ winS (parseWinS s).1.1 (parseWinS s).1.2 = s := by
  unfold parseWinS at h ⊢
  split at h
  · rename_i h1
    rw [if_pos h1]
    split at h
    · rename_i h2
      rw [if_pos h2]
      split at h
      · simp at h
      · rename_i h3
        rw [if_neg h3]
        split at h
        · rename_i h4
          rw [if_pos h4]
          simp [rangedB] at h2
          refine ⟨⟨?_, ?_, ?_⟩, h4⟩ <;> simp only <;> omega
        · simp at h
    · simp at h
  · simp at h
end Go.Proofs.YtlleijickhifmaaGreatDoor
