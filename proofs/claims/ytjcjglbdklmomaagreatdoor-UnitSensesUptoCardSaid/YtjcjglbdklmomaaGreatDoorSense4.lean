/- Layer 57: the reference's first error of an input. -/
import Derived.Test.YtjcjglbdklmomaaGreatDoorSense3
namespace Go.Proofs.YtjcjglbdklmomaaGreatDoor
open Go.RowKit
set_option linter.unusedVariables false
set_option linter.unusedSimpArgs false
set_option maxHeartbeats 4000000 in
set_option maxRecDepth 100000 in
theorem rcheckSense_any (s : Sense) (A : Option Addr) (c : Nat) (w : World) (h : s.ok w A c) : Calls Tryz.prog 8 #[s.val A c] w (Ret w (.int .i64 (senseCheck s))) := by
  have hO0 := Own1.mk0 w (s.arr A c) 26
  have hn := h.len
  have hcp := h.cap
  have hcl := h.cmd
  by_cases ht : inB s.tick 0 1099511627776 = true
  case neg =>
    have ht : inB s.tick 0 1099511627776 = false := by simpa using ht
    go_enter Tryz.func8, Tryz.ntmps8
    go_upto_region 1 with (fail)
    generalize w.alloc _ = W at hO0 ⊢
    have hc := hO0.cell
    have hlt := hO0.lt
    go_wp2_with (go_at_call 16; refine callP (out_any _ _ _ _) ?_)
    go_ret; exact Ret.int (by simp [senseCheck, ht]) hO0.below
  by_cases h4 : s.reps.length ≤ 4
  case neg =>
    go_enter Tryz.func8, Tryz.ntmps8
    go_upto_region 1 with (fail)
    generalize w.alloc _ = W at hO0 ⊢
    have hc := hO0.cell
    have hlt := hO0.lt
    go_wp2_with (go_at_call 16; refine callP (out_any _ _ _ _) ?_)
    all_goals first | (go_ret; exact Ret.int (by simp [senseCheck, ht]; omega) hO0.below) | (exfalso; omega)
  have h4' : decide (4 < (s.reps.length : Int)) = false := by simp; omega
  go_enter Tryz.func8, Tryz.ntmps8
  go_upto_region 1 with (fail)
  generalize w.alloc _ = W at hO0 ⊢
  have hc := hO0.cell
  have hlt := hO0.lt
  have HS := Lib.hid (show senseCheck s = restCheck s s.reps by unfold senseCheck restCheck; simp [ht]; omega)
  go_wp2_with (go_at_call 16; refine callP (out_any _ _ _ _) ?_)
  clear hc hlt
  go_loopw [17] (fun i wr => ∃ k : Nat, k ≤ s.reps.length ∧ i = .int .i64 k ∧ senseCheck s = restCheck s (s.reps.drop k) ∧ Own1 w (s.arr A c) wr) (fun i _ => s.reps.length - (intOf i).toNat)
  case atStart => exact ⟨0, by omega, rfl, HS.out, hO0⟩
  case round =>
    obtain ⟨k, hk, rfl, hq, hO⟩ := hrel
    have HQ := Lib.hid hq; clear hq HS hO0
    by_cases hlt : k < s.reps.length
    · obtain ⟨b, off, hA, hb, he⟩ := reps_at h.reps hlt
      subst hA
      have hd := Lib.hid (List.drop_eq_getElem_cons hlt)
      generalize s.reps[k] = x at he hd
      have e1 : ∀ j, j < 8 → wr.cell? ⟨b, off + k * 8 + j, none⟩ = x.arr[j]? := fun j hj => by rw [hO.below.cell (p := ⟨b, _, none⟩) hb]; exact he j hj
      clear he
      have hO1 := hO.alloc (.cells x.arr 68)
      have HR := Lib.hid (show senseCheck s = if (repCheck x != 0) = true then repCheck x else restCheck s (s.reps.drop (k + 1)) by rw [HQ.out, hd.out, restCheck_cons])
      go_wp2_with (first
        | ((with_reducible refine at_load 68 (.tmp 19) rfl ?_); refine wpList_load_arr rfl 68 (.tmp 19) rfl b (off + k * 8) rfl x.arr _ _ rfl e1 Tryz.underlying68 rfl info_rep ?_)
        | ((with_reducible refine at_store 68 (.tmp 4) (.tmp 20) rfl ?_); refine wpList_store_new rfl 68 (.tmp 4) (.tmp 20) rfl _ x.arr rfl rfl 8 info_rep (x).arr_size rfl (x).arr_one ?_)
        | (go_at_call 17; refine callO hO1 (rcheck41_any x _) ?_; intro w2 hO2 hc2 hlt2; clear e1 hO hO1))
      · go_ret; refine Ret.int ?_ hO2.below; rw [HR.out, if_pos (by assumption)]
      · go_roundw
        case rel => exact ⟨k + 1, by omega, by go_num, by rw [HR.out, if_neg (by simpa using ‹(repCheck x != 0) = false›)], hO2⟩
        case measure => simp [intOf]; omega
    · have HT := Lib.hid (show senseCheck s = senseTail s by rw [HQ.out, List.drop_of_length_le (by omega), restCheck_nil])
      clear HQ
      have hc := hO.cell
      have hlt2 := hO.lt
      have HL := Lib.hid hlt; clear hlt
      go_upto_region 16 with (go_at_call 16; refine callP (out_any _ _ _ _) ?_)
      all_goals try (go_ret; refine Ret.int ?_ hO.below; rw [HT.out]; go_light; simp [senseTail, *]; try omega; done)
      have HU := Lib.hid (show senseCheck s = if cmdB s.cmd then 0 else 4 by rw [HT.out]; go_light; simp [senseTail, *]; omega)
      clear HT
      have HB := hO.below
      rename (!inB s.fuel 0 3000000000) = false => q1
      rename (s.cmd.length : Int) ≤ 120 => q2
      clear q1 q2
      go_wp2
      go_loop [6] (fun i => ∃ k2 : Nat, k2 ≤ s.cmd.length ∧ i = .int .i64 k2 ∧ cmdB s.cmd = cmdB (s.cmd.drop k2)) (fun i => s.cmd.length - (intOf i).toNat)
      case atStart => exact ⟨0, by omega, rfl, rfl⟩
      case round =>
        obtain ⟨k2, hk2, rfl, hq⟩ := hrel
        have HQ := Lib.hid hq; clear hq
        by_cases hlt : k2 < s.cmd.length
        · have hd := Lib.hid (all_drop57 (fun c => decide (32 ≤ c.toNat) && decide (c.toNat ≤ 126)) s.cmd k2 hlt)
          go_wp2
          all_goals first
            | (go_ret; refine Ret.int ?_ HB; rw [HU.out, HQ.out]; unfold cmdB; rw [hd.out]; go_light; grind)
            | (go_round
               case rel => exact ⟨k2 + 1, by omega, by go_num, by rw [HQ.out]; unfold cmdB; rw [hd.out]; go_light; grind⟩
               case measure => simp [intOf]; omega)
        · go_wp2
          go_ret
          exact Ret.int (by rw [HU.out, HQ.out, List.drop_of_length_le (by omega)]; rfl) HB
end Go.Proofs.YtjcjglbdklmomaaGreatDoor
