/- Lemmas and walks. -/
import Derived.Test.YtgoeedohgomodaaGreatDoorPk22
set_option linter.unusedSimpArgs false
set_option linter.unusedVariables false
namespace Go.Proofs.YtgoeedohgomodaaGreatDoor
open Go.RowKit
set_option maxRecDepth 100000
theorem quarter_any (a : Int) (h0 : 0 ≤ a) (h1 : a ≤ 32400000) (w : World) : Calls Tryz.prog 243 #[.int .i64 a] w (RetP w (.int .i64 (quarterS a))) := by
  by_cases h : a ≤ 16200000
  · have HQ := Lib.hid (show quarterS a = sineS a by unfold quarterS; rw [if_pos h])
    have k := Lib.hid (sine_any a h0 h)
    generalize quarterS a = out at HQ ⊢
    generalize sineS a = v at HQ k
    go_enter Tryz.func243, Tryz.ntmps243
    go_wp2_with (go_at_call 248; (with_reducible refine callP (k.out _) ?_))
    go_ret
    exact RetP.int HQ.out.symm rfl
  · have HQ := Lib.hid (show quarterS a = cosineS (32400000 - a) by unfold quarterS; rw [if_neg h])
    have k := Lib.hid (cosine_any (32400000 - a) (by omega) (by omega))
    generalize quarterS a = out at HQ ⊢
    generalize cosineS (32400000 - a) = v at HQ k
    go_enter Tryz.func243, Tryz.ntmps243
    go_wp2_with (go_at_call 249; (with_reducible refine callP (k.out _) ?_))
    go_ret
    exact RetP.int HQ.out.symm rfl
theorem tsin_any (a : Int) (h0 : -9223372036854775808 ≤ a) (h1 : a ≤ 9223372036854775807) (w : World) : Calls Tryz.prog 236 #[.int .i64 a] w (RetP w (.int .i64 (sinS a))) := by
  have nb := normS_in a
  have cn := Lib.hid (gnorm_any a h0 h1)
  have HS := Lib.hid (show sinS a = sinN (normS a) from rfl)
  generalize normS a = b at *
  generalize sinS a = out at *
  clear h0 h1
  obtain ⟨n0, n1⟩ := nb
  by_cases c0 : b ≤ 32400000
  · have HQ := Lib.hid (show sinN b = quarterS (b) by unfold sinN; rw [if_pos c0])
    have k := Lib.hid (quarter_any (b) (by omega) (by omega))
    have qi := quarterS_in (a := b) (by omega) (by omega)
    generalize quarterS (b) = v at *
    go_enter Tryz.func236, Tryz.ntmps236
    go_wp2_with (first | (go_at_call 242; (with_reducible refine callP (cn.out _) ?_)) | (go_at_call 243; (with_reducible refine callP (k.out _) ?_)))
    go_ret
    exact RetP.int (by rw [HS.out, HQ.out]) rfl
  by_cases c1 : b ≤ 64800000
  · have HQ := Lib.hid (show sinN b = quarterS (64800000 - b) by unfold sinN; rw [if_neg c0, if_pos c1])
    have k := Lib.hid (quarter_any (64800000 - b) (by omega) (by omega))
    have qi := quarterS_in (a := 64800000 - b) (by omega) (by omega)
    generalize quarterS (64800000 - b) = v at *
    go_enter Tryz.func236, Tryz.ntmps236
    go_wp2_with (first | (go_at_call 242; (with_reducible refine callP (cn.out _) ?_)) | (go_at_call 243; (with_reducible refine callP (k.out _) ?_)))
    go_ret
    exact RetP.int (by rw [HS.out, HQ.out]) rfl
  by_cases c2 : b ≤ 97200000
  · have HQ := Lib.hid (show sinN b = -quarterS (b - 64800000) by unfold sinN; rw [if_neg c0, if_neg c1, if_pos c2])
    have k := Lib.hid (quarter_any (b - 64800000) (by omega) (by omega))
    have qi := quarterS_in (a := b - 64800000) (by omega) (by omega)
    generalize quarterS (b - 64800000) = v at *
    go_enter Tryz.func236, Tryz.ntmps236
    go_wp2_with (first | (go_at_call 242; (with_reducible refine callP (cn.out _) ?_)) | (go_at_call 243; (with_reducible refine callP (k.out _) ?_)))
    go_ret
    exact RetP.int (by rw [HS.out, HQ.out]) rfl
  have HQ := Lib.hid (show sinN b = -quarterS (129600000 - b) by unfold sinN; rw [if_neg c0, if_neg c1, if_neg c2])
  have k := Lib.hid (quarter_any (129600000 - b) (by omega) (by omega))
  have qi := quarterS_in (a := 129600000 - b) (by omega) (by omega)
  generalize quarterS (129600000 - b) = v at *
  go_enter Tryz.func236, Tryz.ntmps236
  go_wp2_with (first | (go_at_call 242; (with_reducible refine callP (cn.out _) ?_)) | (go_at_call 243; (with_reducible refine callP (k.out _) ?_)))
  go_ret
  exact RetP.int (by rw [HS.out, HQ.out]) rfl
theorem tcos_any (a : Int) (h0 : -9223372036854775808 ≤ a) (h1 : a ≤ 9223372036854775807) (w : World) : Calls Tryz.prog 237 #[.int .i64 a] w (RetP w (.int .i64 (cosS a))) := by
  have kt := Lib.hid (turn_any a 32400000 h0 h1 (by decide) (by decide))
  have nb : 0 ≤ turnS a 32400000 ∧ turnS a 32400000 < 129600000 := normS_in _
  have ks := Lib.hid (tsin_any (turnS a 32400000) (by omega) (by omega))
  have HS := Lib.hid (show cosS a = sinS (turnS a 32400000) from rfl)
  generalize turnS a 32400000 = t at *
  generalize cosS a = out at *
  generalize sinS t = v at *
  clear h0 h1
  go_enter Tryz.func237, Tryz.ntmps237
  go_wp2_with (first | (go_at_call 244; (with_reducible refine callP (kt.out _) ?_)) | (go_at_call 236; (with_reducible refine callP (ks.out _) ?_)))
  go_ret
  exact RetP.int HS.out.symm rfl
end Go.Proofs.YtgoeedohgomodaaGreatDoor
