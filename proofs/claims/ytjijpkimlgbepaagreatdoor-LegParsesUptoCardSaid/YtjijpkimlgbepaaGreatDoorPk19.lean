/- Decimal numbers: the contracts of the functions that write and read them. -/
import Derived.Test.YtjijpkimlgbepaaGreatDoorPk07
import Derived.Test.YtjijpkimlgbepaaGreatDoorPk18
namespace Go.Proofs.YtjijpkimlgbepaaGreatDoor
open Go.RowKit Go.Sort
set_option linter.unusedVariables false
set_option linter.unusedSimpArgs false
set_option maxRecDepth 100000
attribute [local go_sem] ba_cat cat_len
theorem enc_dg (n : Nat) (h : n < 10) : Utf8.encode (48 + (n : Int)) = ⟨[dg n].toArray⟩ := by
  match n, h with
  | 0, _ | 1, _ | 2, _ | 3, _ | 4, _ | 5, _ | 6, _ | 7, _ | 8, _ | 9, _ => rfl
theorem enc_dgI (n : Int) (h0 : 0 ≤ n) (h : n < 10) : Utf8.encode (48 + n) = ⟨[dg n.toNat].toArray⟩ := by
  rw [← enc_dg n.toNat (by omega), Int.toNat_of_nonneg h0]
theorem decimal_any (n : Int) (w : World) (h0 : 0 ≤ n) (h1 : n ≤ 9223372036854775807) : Calls Tryz.prog 40 #[.int .i64 n] w (RetP w (.string ⟨(Lib.decDigits n.toNat).toArray⟩)) := by
  have hlen : (Lib.decDigits n.toNat).length ≤ 19 := dec_len (by decide) (by omega)
  go_enter Tryz.func40, Tryz.ntmps40
  go_wp2
  go_loop [0, 3] (fun x s => ∃ (u : Int) (l : List UInt8), 0 ≤ u ∧ u ≤ 9223372036854775807 ∧ x = .int .i64 u ∧ s = .string ⟨l.toArray⟩ ∧ Lib.decDigits n.toNat = Lib.decDigits u.toNat ++ l) (fun x _ => (intOf x).toNat)
  case atStart => exact ⟨n, [], by omega, by omega, rfl, rfl, by simp⟩
  case round =>
    obtain ⟨u, l, hu0, hu, rfl, rfl, hq⟩ := hrel
    have hl : l.length ≤ 19 := by have := congrArg List.length hq; simp only [List.length_append] at this; omega
    have HQ := Lib.hid hq; clear hq
    clear hlen h0 h1
    by_cases hlt : u < 10
    · have e1 := enc_dgI u hu0 hlt
      go_wp2
      go_ret
      exact RetP.str (by rw [HQ.out, dec_small (by omega)]; rfl) rfl
    · have e1 := enc_dgI (u % 10) (by omega) (by omega)
      go_wp2
      go_round
      case rel => exact ⟨u / 10, _, by omega, by omega, rfl, rfl, by rw [HQ.out, dec_big (by omega), show u.toNat / 10 = (u / 10).toNat by omega, show u.toNat % 10 = (u % 10).toNat by omega]; simp [cat]⟩
      case measure => simp [intOf]; omega
theorem digits8_any (k : Nat) : ∀ (n : Int) (w : World), n.toNat ≤ k → 0 ≤ n → n ≤ 9223372036854775807 → Calls Tryz.prog 105 #[.int .i64 n] w (RetP w (.string ⟨(Lib.decDigits n.toNat).toArray⟩)) := by
  induction k using Nat.strongRecOn with
  | ind k ih =>
    intro n w hk h0 h1
    by_cases hlt : n < 10
    · have e1 : Utf8.encode (48 + n) = ⟨[dg n.toNat].toArray⟩ := by rw [← enc_dg n.toNat (by omega), Int.toNat_of_nonneg h0]
      have HE := Lib.hid (dec_small (u := n.toNat) (by omega))
      go_enter Tryz.func105, Tryz.ntmps105
      go_wp2
      go_ret
      exact RetP.str (by rw [HE.out]) rfl
    · have i1 := fun w => ih (n / 10).toNat (by omega) (n / 10) w (Nat.le_refl _) (by omega) (by omega)
      have i2 := fun w => ih (n % 10).toNat (by omega) (n % 10) w (Nat.le_refl _) (by omega) (by omega)
      have HE := Lib.hid (show Lib.decDigits n.toNat = Lib.decDigits (n / 10).toNat ++ Lib.decDigits (n % 10).toNat by rw [dec_big (by omega), dec_small (u := (n % 10).toNat) (by omega), show n.toNat / 10 = (n / 10).toNat by omega, show n.toNat % 10 = (n % 10).toNat by omega])
      have hl1 : (Lib.decDigits (n / 10).toNat).length ≤ 19 := dec_len (by decide) (by omega)
      have hl2 : (Lib.decDigits (n % 10).toNat).length ≤ 19 := dec_len (by decide) (by omega)
      clear ih
      go_enter Tryz.func105, Tryz.ntmps105
      go_wp2_with (go_at_call 105; first | (with_reducible refine callP (i1 _) ?_) | (with_reducible refine callP (i2 _) ?_))
      go_ret
      exact RetP.str (by rw [HE.out]; rfl) rfl
end Go.Proofs.YtjijpkimlgbepaaGreatDoor
