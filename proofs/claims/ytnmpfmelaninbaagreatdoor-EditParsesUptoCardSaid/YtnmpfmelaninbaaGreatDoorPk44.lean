/- The reference of layer 21: its decimal numbers, the line of an entry, the text of a plan; walks. -/
import Derived.Test.YtnmpfmelaninbaaGreatDoorPk42
import Derived.Test.YtnmpfmelaninbaaGreatDoorPk43
import Derived.Test.YtnmpfmelaninbaaGreatDoorPk12
namespace Go.Proofs.YtnmpfmelaninbaaGreatDoor
open Go.RowKit Go.Sort
set_option linter.unusedVariables false
set_option linter.unusedSimpArgs false
set_option maxRecDepth 100000
attribute [local go_sem] ba_cat cat_len
theorem rNumber_pos (k : Nat) : ∀ (n : Int) (w : World), n.toNat ≤ k → 0 ≤ n → n ≤ 9223372036854775807 → Calls Tryz.prog 42 #[.int .i64 n] w (Ret w (.string ⟨(Lib.decDigits n.toNat).toArray⟩)) := by
  induction k using Nat.strongRecOn with
  | ind k ih =>
    intro n w hk h0 h1
    by_cases hlt : n < 10
    · have e1 := conv1 w n h0
      have HE := Lib.hid (dec_small (u := n.toNat) (by omega))
      clear ih
      go_enter Tryz.func42, Tryz.ntmps42
      go_wp2
      go_ret
      exact Ret.str (by rw [HE.out]) (alloc_below _ _)
    · have i1 := Lib.hid (fun w => ih (n / 10).toNat (by omega) (n / 10) w (Nat.le_refl _) (by omega) (by omega))
      have HE := Lib.hid (show Lib.decDigits n.toNat = Lib.decDigits (n / 10).toNat ++ [dg (n % 10).toNat] by rw [dec_big (by omega), show n.toNat / 10 = (n / 10).toNat by omega, show n.toNat % 10 = (n % 10).toNat by omega])
      have hl1 : (Lib.decDigits (n / 10).toNat).length ≤ 19 := dec_len (by decide) (by omega)
      have e1 := conv1g (n % 10) (by omega)
      clear ih
      go_enter Tryz.func42, Tryz.ntmps42
      go_wp2
      have q1 : n.tdiv 10 = n / 10 := Int.tdiv_eq_ediv_of_nonneg h0
      have q2 : n.tmod 10 = n % 10 := Int.tmod_eq_emod_of_nonneg h0
      have q3 : IntKind.i64.wrap (n / 10) = n / 10 := IntWalk.i64_in _ (by omega)
      have q4 : IntKind.i64.wrap (n % 10) = n % 10 := IntWalk.i64_in _ (by omega)
      have q5 : IntKind.i64.wrap (48 + n % 10) = 48 + n % 10 := IntWalk.i64_in _ (by omega)
      have q6 : IntKind.u8.wrap (48 + n % 10) = 48 + n % 10 := by simp only [IntKind.wrap, IntKind.bits, IntKind.signed]; simp; omega
      have q7 : ¬ 9223372036854775807 < (Lib.decDigits (n / 10).toNat).length + 1 := by omega
      go_region_with (go_at_call 42; ((with_reducible refine callR (i1.out _) ?_); intro w1 hb1 hc1 hf1 hz1))
      all_goals go_wp2
      all_goals go_ret
      all_goals refine Ret.str (by rw [HE.out]; rfl) ?_
      all_goals first
        | exact below_step (below_step (Below.refl _ _).drew hb1) (alloc_below _ _)
        | exact below_step (alloc_below _ _).drew hb1
        | (go_grown; done)
theorem rNumber_any (n : Int) (w : World) (h0 : -9223372036854775808 ≤ n) (h1 : n ≤ 9223372036854775807) : Calls Tryz.prog 42 #[.int .i64 n] w (Ret w (.string ⟨(Lib.itoa n).toArray⟩)) := by
  by_cases hn : 0 ≤ n
  · have := rNumber_pos n.toNat n w (Nat.le_refl _) hn h1
    obtain ⟨u, rfl⟩ : ∃ u : Nat, n = u := ⟨n.toNat, by omega⟩
    rw [Lib.itoa_nonneg]
    exact this
  · obtain ⟨d, r, hd, hr, hdb, hrb, hrel⟩ : ∃ d r : Nat, n.tdiv 10 = -(d : Int) ∧ n.tmod 10 = -(r : Int) ∧ d ≤ 922337203685477580 ∧ r < 10 ∧ n.natAbs = 10 * d + r := by
      obtain ⟨m, hm, hm2⟩ : ∃ m : Nat, n = -(m : Int) ∧ m ≤ 9223372036854775808 := ⟨n.natAbs, by omega, by omega⟩
      subst hm
      refine ⟨m / 10, m % 10, ?_, ?_, by omega, by omega, by omega⟩
      · rw [Int.neg_tdiv]; rfl
      · rw [Int.neg_tmod]; rfl
    have HI : Hid (Lib.itoa n = 45 :: Lib.decDigits n.natAbs) := Lib.hid (by
      have e : n = -((n.natAbs : Nat) : Int) := by omega
      rw [e, Lib.itoa_neg n.natAbs (by omega)]
      simp)
    have hneg : n < 0 := by omega
    generalize Lib.itoa n = out at HI ⊢
    by_cases hz : d = 0
    · subst hz
      have HE := Lib.hid (show Lib.decDigits n.natAbs = [dg r] by rw [dec_small (by omega)]; congr 2; omega)
      have e1 := conv1 w (r : Int) (by omega)
      rw [Int.toNat_natCast] at e1
      have q1 : n.tdiv 10 = 0 := by simpa using hd
      clear hd hn
      go_enter Tryz.func42, Tryz.ntmps42
      go_wp2
      go_ret
      exact Ret.str (by rw [HI.out, HE.out]; simp [cat]) (alloc_below _ _)
    · have hl1 : (Lib.decDigits d).length ≤ 19 := dec_len (by decide) (by omega)
      have HE := Lib.hid (show Lib.decDigits n.natAbs = Lib.decDigits d ++ [dg r] by rw [dec_big (by omega), show n.natAbs / 10 = d by omega, show n.natAbs % 10 = r by omega])
      have i1 := Lib.hid (fun w => rNumber_pos d (d : Int) w (by omega) (by omega) (by omega))
      rw [Int.toNat_natCast] at i1
      have e1 := fun W => conv1 W (r : Int) (by omega)
      rw [Int.toNat_natCast] at e1
      clear hn
      go_enter Tryz.func42, Tryz.ntmps42
      go_wp2_with (go_at_call 42; ((with_reducible refine callR (i1.out _) ?_); intro w1 hb1 hc1 hf1 hz1))
      go_ret
      exact Ret.str (by rw [HI.out, HE.out]; simp [cat]) (below_step hb1 (alloc_below _ _))
end Go.Proofs.YtnmpfmelaninbaaGreatDoor
