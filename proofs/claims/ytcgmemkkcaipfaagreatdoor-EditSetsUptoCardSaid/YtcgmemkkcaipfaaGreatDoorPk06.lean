/- leg.Check: the first error of a leg. -/
import Derived.Test.YtcgmemkkcaipfaaGreatDoorPk05
import Derived.Deep.DeepCutAuto
import Derived.Deep.Light
namespace Go.Proofs.YtcgmemkkcaipfaaGreatDoor
open Go.RowKit
set_option linter.unusedVariables false
set_option linter.unusedSimpArgs false

theorem checkRef_any (s : List UInt8) (b : Bool) (w : World) (hL : Laid w) (hl : s.length ≤ 4000000000) : Calls Tryz.prog 149 #[.string ⟨s.toArray⟩, .bool b] w (RetQ w (.int .i64 (checkRefI s b))) := by
  cases b
  all_goals
    go_enter Tryz.func149, Tryz.ntmps149
    go_wp2_with (go_at_call 95; refine callQ (splitRef_any _ _ hL hl) ?_; intro n1)
    all_goals (go_ret; exact RetQ.int (by grind [checkRefI]) (by first | exact ⟨_, rfl⟩ | exact ⟨0, rfl⟩))
theorem checkNumber_any (n : Int) (b : Bool) (lo hi : Int) (w : World) : Calls Tryz.prog 150 #[.int .i64 n, .bool b, .int .i64 lo, .int .i64 hi] w (RetP w (.int .i64 (checkNum n b lo hi))) := by
  cases b
  all_goals
    go_enter Tryz.func150, Tryz.ntmps150
    go_wp2
    all_goals (go_ret; exact RetP.int (by grind [checkNum]) rfl)
attribute [local go_sem] bit_eq bit_ne
set_option maxHeartbeats 4000000 in
set_option maxRecDepth 100000 in
theorem check_any (l : Leg) (w : World) (hL : Laid w) (hl : l.small) : Calls Tryz.prog 86 #[l.val] w (Ret w (.int .i64 (legCheck l))) := by
  have h1 := hl.fix
  have h2 := hl.center
  by_cases hk : knownB l.ty = true
  · have hk1 : 1 ≤ l.ty ∧ l.ty ≤ 17 := by simpa [knownB] using hk
    have hk0 := hk1.1
    have hk2 := hk1.2
    have hk3 : 0 ≤ l.ty ∧ l.ty < 18 := by omega
    clear hk1
    have hO0 := Own1.mk0 w l.arr 46
    go_enter Tryz.func86, Tryz.ntmps86
    go_upto_region 1 with (fail)
    generalize w.alloc _ = W at hO0 ⊢
    have hc := hO0.cell
    have hlt := hO0.lt
    have hL1 := hL.below hO0.below
    have hu : W.cell? ⟨3, l.ty.toNat, none⟩ = some (.int .u16 (usesOf l.ty)) := hL1.uses _ (by omega)
    go_upto_if 39 with (first
      | (go_at_call 148; refine callP (known_any _ _) ?_)
      | (go_at_call 149; refine callQ (checkRef_any _ _ _ (by first | exact hL1 | exact hL1.drewN _) (by assumption)) ?_; intro n1))
    · go_ret; exact Ret.int (by go_light; simp [legCheck, orE, *]) (below_drewN hO0.below _)
    · go_ret; exact Ret.int (by go_light; simp [legCheck, orE, *]) (below_drewN hO0.below _)
    have HS := Lib.hid (show legCheck l = legC2 l by go_light; simp [legCheck, orE, *])
    go_cut [3] (fun s wx => s = .int .u16 (usesOf l.ty) ∧ legCheck l = legC3 l ∧ Own1 w l.arr wx)
    case first =>
      go_wp2
      all_goals first
        | (go_ret; refine Ret.int ?_ (below_drewN hO0.below _); rw [HS.out]; first | exact turn_a l (by assumption) (by assumption) | exact turn_b l (by assumption) (by assumption))
        | (go_meet; refine ⟨rfl, ?_, hO0.drewN _⟩; rw [HS.out]; first | exact turn_c l (by assumption) (by assumption) | exact turn_d l (by assumption) (by assumption) | exact turn_e l (by assumption) (by assumption))
    case rest =>
      obtain ⟨rfl, ht, hO⟩ := hcut
      clear HS hc hlt hu hL1 hO0
      have HS := Lib.hid ht; clear ht
      have hc := hO.cell
      have hlt := hO.lt
      have hB := hO.below
      go_upto_region 15 with (fail)
      go_cut [57] (fun s wx => s = .bool (overB l) ∧ wx = wc)
      case first =>
        go_wp2
        all_goals (go_meet; exact ⟨by go_light; simp [overB, *], rfl⟩)
      case rest =>
        obtain ⟨rfl, rfl⟩ := hcut
        go_upto_region 29 with (go_at_call 150; refine callP (checkNumber_any _ _ _ _ _) ?_)
        all_goals try (go_ret; exact Ret.int (by rw [HS.out]; go_light; simp [legC3, legC4, orE, *]) hB; done)
        have HS2 := Lib.hid (show legCheck l = limitsE l by rw [HS.out]; go_light; simp [legC3, legC4, orE, *])
        go_cut [3, 4, 5, 6, 7, 8, 9, 10] (fun _ _ _ _ _ _ _ s wx => s = .bool (climbsB l.ty) ∧ wx = wc)
        case first =>
          go_wp2
          all_goals (go_meet; exact ⟨by go_light; simp [climbsB, *], rfl⟩)
        case rest =>
          obtain ⟨rfl, rfl⟩ := hcut
          clear HS
          go_wp2
          all_goals (go_ret; exact Ret.int (by have HS := HS2.out; clear hO hc hL hl h1 h2; go_light; grind [limitsE]) hB)
  · have hk : knownB l.ty = false := by simpa using hk
    go_enter Tryz.func86, Tryz.ntmps86
    go_wp2_with (go_at_call 148; refine callP (known_any _ _) ?_)
    go_ret
    exact Ret.int (by grind [legCheck]) (by go_grown)
end Go.Proofs.YtcgmemkkcaipfaaGreatDoor
