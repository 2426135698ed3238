/- Lemmas and walks. -/
import Derived.Test.YtgoeedohgomodaaGreatDoorPk02
import Derived.Deep.DeepCutAuto
import Derived.Deep.Light
set_option linter.unusedSimpArgs false
set_option linter.unusedVariables false
namespace Go.Proofs.YtgoeedohgomodaaGreatDoor
open Go.RowKit
set_option maxHeartbeats 400000 in
theorem known_any (t : Int) (w : World) : Calls Tryz.prog 147 #[.int .u8 t] w (RetP w (.bool (knownB t))) := by
  go_enter Tryz.func147, Tryz.ntmps147
  go_wp2
  all_goals (go_ret; exact RetP.bool (by grind [knownB]) rfl)
set_option maxHeartbeats 400000 in
theorem starts_any (t : Int) (w : World) : Calls Tryz.prog 53 #[.int .u8 t] w (RetP w (.bool (startsB t))) := by
  go_enter Tryz.func53, Tryz.ntmps53
  go_wp2
  all_goals (go_ret; exact RetP.bool (by grind [startsB]) rfl)
set_option maxHeartbeats 400000 in
theorem ends_any (t : Int) (w : World) : Calls Tryz.prog 47 #[.int .u8 t] w (RetP w (.bool (endsB t))) := by
  go_enter Tryz.func47, Tryz.ntmps47
  go_wp2
  all_goals (go_ret; exact RetP.bool (by grind [endsB]) rfl)
set_option maxHeartbeats 400000 in
theorem from_any (t : Int) (w : World) : Calls Tryz.prog 103 #[.int .u8 t] w (RetP w (.bool (fromB t))) := by
  go_enter Tryz.func103, Tryz.ntmps103
  go_wp2
  all_goals (go_ret; exact RetP.bool (by grind [fromB]) rfl)
set_option maxHeartbeats 1000000 in
theorem follows_any (a b : Int) (w : World) : Calls Tryz.prog 102 #[.int .u8 a, .int .u8 b] w (RetP w (.bool (followsB a b))) := by
  go_enter Tryz.func102, Tryz.ntmps102
  go_wp2_with (go_at_call 147; refine callP (known_any _ _) ?_)
  all_goals (go_ret; exact RetP.bool (by grind [followsB, knownB]) rfl)
set_option maxHeartbeats 400000 in
theorem joins_any (a b : Leg) (w : World) : Calls Tryz.prog 54 #[a.val, b.val] w (Ret w (.bool (a.joinsB b))) := by
  go_enter Tryz.func54, Tryz.ntmps54
  go_wp2_with (first
    | (go_at_call 102; refine callP (follows_any _ _ _) ?_)
    | (go_at_call 103; refine callP (from_any _ _) ?_))
  all_goals (go_ret; exact Ret.bool (by grind [Leg.joinsB]) (by go_grown))
end Go.Proofs.YtgoeedohgomodaaGreatDoor
namespace Go.Proofs.YtgoeedohgomodaaGreatDoor
open Go.RowKit

def orE (a b : Int) : Int := if (a != 0) = true then a else b
def usesOf (t : Int) : Int := usesTab.getD t.toNat 0
def uB (t m : Int) : Bool := bits BinOp.and IntKind.u16 (usesOf t) m != 0
def checkRefI (s : List UInt8) (used : Bool) : Int := if used then (if (splitRef s).2.2 = 0 then 0 else 5) else if s.isEmpty then 0 else 1
def checkNum (n : Int) (used : Bool) (lo hi : Int) : Int := if used then (if n < lo ∨ hi < n then 2 else 0) else if n = 0 then 0 else 1
def turnE (used : Bool) (turn : Int) : Int := if used then (if turn = 1 ∨ turn = 2 then 0 else 1) else if turn = 0 then 0 else 1
def climbsB (t : Int) : Bool := t == 7 || t == 11 || t == 14
def limitsE (l : Leg) : Int :=
  if l.lo < -200000 ∨ l.hi < l.lo ∨ 6000000 < l.hi then 2 else if climbsB l.ty = true ∧ l.lo = -200000 then 2
  else if l.speed < 0 ∨ 1000 < l.speed ∨ l.rnp < 0 ∨ 120000 < l.rnp then 2 else 0
def legC4 (l : Leg) : Int := orE (checkNum l.course (uB l.ty 16) 0 129599999) (orE (checkNum l.dist (uB l.ty 32) 1 2000000) (orE (checkNum l.radius (uB l.ty 64) 1 2000000) (orE (checkNum l.theta (uB l.ty 128) 0 129599999) (limitsE l))))
def overB (l : Leg) : Bool := l.over && !uB l.ty 8
def legC3 (l : Leg) : Int := orE (if overB l then 1 else 0) (legC4 l)
def legC2 (l : Leg) : Int := orE (turnE (uB l.ty 4) l.turn) (legC3 l)
def legCheck (l : Leg) : Int := if knownB l.ty then orE (checkRefI l.fix (uB l.ty 1)) (orE (checkRefI l.center (uB l.ty 2)) (legC2 l)) else 17

theorem bit_eq (t m : Int) : (bits BinOp.and IntKind.u16 (usesOf t) m == 0) = !uB t m := by simp [uB, bne]
theorem bit_ne (t m : Int) : (bits BinOp.and IntKind.u16 (usesOf t) m != 0) = uB t m := rfl
theorem turn_a (l : Leg) (h : uB l.ty 4 = true) (h2 : (l.turn != 1) = true ∧ (l.turn != 2) = true) : 1 = legC2 l := by grind [legC2, orE, turnE]
theorem turn_b (l : Leg) (h : uB l.ty 4 = false) (h2 : (l.turn != 0) = true) : 1 = legC2 l := by grind [legC2, orE, turnE]
theorem turn_c (l : Leg) (h : uB l.ty 4 = true) (h2 : (l.turn != 1) = false ∨ (l.turn != 2) = false) : legC2 l = legC3 l := by grind [legC2, orE, turnE]
theorem turn_d (l : Leg) (h : uB l.ty 4 = false) (h2 : (l.turn != 0) = false) : legC2 l = legC3 l := by grind [legC2, orE, turnE]
theorem turn_e (l : Leg) (h : uB l.ty 4 = true) (h2 : l.turn = 1) : legC2 l = legC3 l := by grind [legC2, orE, turnE]
end Go.Proofs.YtgoeedohgomodaaGreatDoor
namespace Go.Proofs.YtgoeedohgomodaaGreatDoor
open Go.RowKit

theorem checkRef_any (s : List UInt8) (b : Bool) (w : World) (hL : Laid w) (hl : s.length ≤ 4000000000) : Calls Tryz.prog 148 #[.string ⟨s.toArray⟩, .bool b] w (RetQ w (.int .i64 (checkRefI s b))) := by
  cases b
  all_goals
    go_enter Tryz.func148, Tryz.ntmps148
    go_wp2_with (go_at_call 62; refine callQ (splitRef_any _ _ hL hl) ?_; intro n1)
    all_goals (go_ret; exact RetQ.int (by grind [checkRefI]) (by first | exact ⟨_, rfl⟩ | exact ⟨0, rfl⟩))
theorem checkNumber_any (n : Int) (b : Bool) (lo hi : Int) (w : World) : Calls Tryz.prog 149 #[.int .i64 n, .bool b, .int .i64 lo, .int .i64 hi] w (RetP w (.int .i64 (checkNum n b lo hi))) := by
  cases b
  all_goals
    go_enter Tryz.func149, Tryz.ntmps149
    go_wp2
    all_goals (go_ret; exact RetP.int (by grind [checkNum]) rfl)
attribute [local go_sem] bit_eq bit_ne
set_option maxHeartbeats 4000000 in
set_option maxRecDepth 100000 in
theorem check_any (l : Leg) (w : World) (hL : Laid w) (hl : l.small) : Calls Tryz.prog 98 #[l.val] w (Ret w (.int .i64 (legCheck l))) := by
  have h1 := hl.fix
  have h2 := hl.center
  by_cases hk : knownB l.ty = true
  · have hk1 : 1 ≤ l.ty ∧ l.ty ≤ 17 := by simpa [knownB] using hk
    have hk0 := hk1.1
    have hk2 := hk1.2
    have hk3 : 0 ≤ l.ty ∧ l.ty < 18 := by omega
    clear hk1
    have hO0 := Own1.mk0 w l.arr 64
    go_enter Tryz.func98, Tryz.ntmps98
    go_upto_region 1 with (fail)
    generalize w.alloc _ = W at hO0 ⊢
    have hc := hO0.cell
    have hlt := hO0.lt
    have hL1 := hL.below hO0.below
    have hu : W.cell? ⟨0, l.ty.toNat, none⟩ = some (.int .u16 (usesOf l.ty)) := hL1.uses _ (by omega)
    go_upto_if 39 with (first
      | (go_at_call 147; refine callP (known_any _ _) ?_)
      | (go_at_call 148; refine callQ (checkRef_any _ _ _ (by first | exact hL1 | exact hL1.drewN _) (by assumption)) ?_; intro n1))
    · go_ret; exact Ret.int (by go_light; simp [legCheck, orE, *]) (below_drewN hO0.below _)
    · go_ret; exact Ret.int (by go_light; simp [legCheck, orE, *]) (below_drewN hO0.below _)
    have HS := Lib.hid (show legCheck l = legC2 l by go_light; simp [legCheck, orE, *])
    go_cut [3] (fun s wx => s = .int .u16 (usesOf l.ty) ∧ legCheck l = legC3 l ∧ Own1 w l.arr wx)
    case first =>
      go_wp2
      all_goals first
        | (go_ret; refine Ret.int ?_ (below_drewN hO0.below _); rw [HS.out]; first | exact turn_a l (by assumption) (by assumption) | exact turn_b l (by assumption) (by assumption))
        | (go_meet; refine ⟨rfl, ?_, hO0.drewN _⟩; rw [HS.out]; first | exact turn_c l (by assumption) (by assumption) | exact turn_d l (by assumption) (by assumption) | exact turn_e l (by assumption) (by assumption))
    case rest =>
      obtain ⟨rfl, ht, hO⟩ := hcut
      clear HS hc hlt hu hL1 hO0
      have HS := Lib.hid ht; clear ht
      have hc := hO.cell
      have hlt := hO.lt
      have hB := hO.below
      go_upto_region 15 with (fail)
      go_cut [57] (fun s wx => s = .bool (overB l) ∧ wx = wc)
      case first =>
        go_wp2
        all_goals (go_meet; exact ⟨by go_light; simp [overB, *], rfl⟩)
      case rest =>
        obtain ⟨rfl, rfl⟩ := hcut
        go_upto_region 29 with (go_at_call 149; refine callP (checkNumber_any _ _ _ _ _) ?_)
        all_goals try (go_ret; exact Ret.int (by rw [HS.out]; go_light; simp [legC3, legC4, orE, *]) hB; done)
        have HS2 := Lib.hid (show legCheck l = limitsE l by rw [HS.out]; go_light; simp [legC3, legC4, orE, *])
        go_cut [3, 4, 5, 6, 7, 8, 9, 10] (fun _ _ _ _ _ _ _ s wx => s = .bool (climbsB l.ty) ∧ wx = wc)
        case first =>
          go_wp2
          all_goals (go_meet; exact ⟨by go_light; simp [climbsB, *], rfl⟩)
        case rest =>
          obtain ⟨rfl, rfl⟩ := hcut
          clear HS
          go_wp2
          all_goals (go_ret; exact Ret.int (by have HS := HS2.out; clear hO hc hL hl h1 h2; go_light; grind [limitsE]) hB)
  · have hk : knownB l.ty = false := by simpa using hk
    go_enter Tryz.func98, Tryz.ntmps98
    go_wp2_with (go_at_call 147; refine callP (known_any _ _) ?_)
    go_ret
    exact Ret.int (by grind [legCheck]) (by go_grown)
end Go.Proofs.YtgoeedohgomodaaGreatDoor
