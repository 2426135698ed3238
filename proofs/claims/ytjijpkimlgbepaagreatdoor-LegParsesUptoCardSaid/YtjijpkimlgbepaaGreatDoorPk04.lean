/- The reference's SplitRef. -/
import Derived.Test.YtjijpkimlgbepaaGreatDoorPk03
namespace Go.Proofs.YtjijpkimlgbepaaGreatDoor
open Go.RowKit
set_option linter.unusedVariables false
set_option linter.unusedSimpArgs false
set_option maxHeartbeats 400000 in
theorem rsplitRef_any (l : List UInt8) (w : World) (hl : l.length ≤ 4000000000) : Calls Tryz.prog 66 #[.string ⟨l.toArray⟩] w (RetQ w (refVal (splitRef l))) := by
  go_enter Tryz.func66, Tryz.ntmps66
  go_wp2
  go_loop [5] (fun i => ∃ k : Nat, k ≤ l.length ∧ i = .int .i64 k ∧ (l.take k).all (· != 47) = true) (fun i => l.length - (intOf i).toNat)
  case atStart => exact ⟨0, by omega, rfl, by simp⟩
  case round =>
    obtain ⟨k, hk, rfl, hq⟩ := hrel
    have HQ := Lib.hid hq; clear hq
    by_cases hlt : k < l.length
    · by_cases hc : l[k] = 47
      · have hs := Lib.hid (show splitRef l = splitRef3 (l.take k, l.drop (k+1), true) by rw [splitRef, cutAt_at 47 l k hlt HQ.out hc])
        have h1 : ((l[k].toNat : Int) == 47) = true := u8_eq (d := 47) hc
        have e1 := IntWalk.i64_in ((k : Int) + 1) (by omega)
        have e2 : (0 : Int) ≤ (k : Int) + 1 := by omega
        have e3 : ((k : Int) + 1).toNat = k + 1 := by omega
        clear hc
        go_wp2
        go_quiet (fail)
        have L1 : (l.take k).length ≤ 4000000000 := by rw [List.length_take]; omega
        have L2 : (l.drop (k+1)).length ≤ 4000000000 := by rw [List.length_drop]; omega
        go_wp2_with (first
          | (go_at_call 98; refine callP (rname_any _ _ _ (by omega)) ?_)
          | (go_at_call 99; refine callP (region_any _ _ (by omega)) ?_))
        all_goals (go_ret3; exact RetQ.tuple3 (by rw [hs.out]; grind [splitRef3]) ⟨_, rfl⟩)
      · have h1 : ((l[k].toNat : Int) == 47) = false := u8_ne (d := 47) hc
        go_wp2
        go_round
        case rel => exact ⟨k + 1, by omega, by go_num, take_all_succ _ l k hlt HQ.out (by simp [hc])⟩
        case measure => simp [intOf]; omega
    · have hs := Lib.hid (show splitRef l = splitRef3 (l, [], false) by rw [splitRef, cutAt_none 47 l (by have := HQ.out; rwa [List.take_of_length_le (by omega)] at this)])
      go_wp2
      go_ret3
      exact RetQ.tuple3 (by rw [hs.out]; rfl) ⟨0, rfl⟩
end Go.Proofs.YtjijpkimlgbepaaGreatDoor
