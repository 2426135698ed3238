/- The predicates of the types of legs, of the program and of the reference. The first error of a leg, in plain Lean. leg.Check: the first error of a leg. The reference's Check of a leg: the same first error. The reference's Check of a leg, walked. -/
import Derived.Test.YtlggdgpdfepppaaGreatDoorQk02
import Derived.Deep.DeepCutAuto
import Derived.Deep.Light
namespace Go.Proofs.YtlggdgpdfepppaaGreatDoor
open Go.RowKit
set_option linter.unusedVariables false
set_option linter.unusedSimpArgs false
set_option maxHeartbeats 400000 in
theorem known_any (t : Int) (w : World) : Calls Tryz.prog 82 #[.int .u8 t] w (RetP w (.bool (knownB t))) := by
  go_enter Tryz.func82, Tryz.ntmps82
  go_wp2
  all_goals (go_ret; exact RetP.bool (by grind [knownB]) rfl)
set_option maxHeartbeats 400000 in
theorem starts_any (t : Int) (w : World) : Calls Tryz.prog 30 #[.int .u8 t] w (RetP w (.bool (startsB t))) := by
  go_enter Tryz.func30, Tryz.ntmps30
  go_wp2
  all_goals (go_ret; exact RetP.bool (by grind [startsB]) rfl)
set_option maxHeartbeats 400000 in
theorem ends_any (t : Int) (w : World) : Calls Tryz.prog 59 #[.int .u8 t] w (RetP w (.bool (endsB t))) := by
  go_enter Tryz.func59, Tryz.ntmps59
  go_wp2
  all_goals (go_ret; exact RetP.bool (by grind [endsB]) rfl)
set_option maxHeartbeats 400000 in
theorem from_any (t : Int) (w : World) : Calls Tryz.prog 58 #[.int .u8 t] w (RetP w (.bool (fromB t))) := by
  go_enter Tryz.func58, Tryz.ntmps58
  go_wp2
  all_goals (go_ret; exact RetP.bool (by grind [fromB]) rfl)
set_option maxHeartbeats 400000 in
theorem rstarts_any (t : Int) (w : World) : Calls Tryz.prog 49 #[.int .u8 t] w (RetP w (.bool (startsB t))) := by
  go_enter Tryz.func49, Tryz.ntmps49
  go_wp2
  all_goals (go_ret; exact RetP.bool (by grind [startsB]) rfl)
set_option maxHeartbeats 400000 in
theorem rends_any (t : Int) (w : World) : Calls Tryz.prog 51 #[.int .u8 t] w (RetP w (.bool (endsB t))) := by
  go_enter Tryz.func51, Tryz.ntmps51
  go_wp2
  all_goals (go_ret; exact RetP.bool (by grind [endsB]) rfl)
set_option maxHeartbeats 400000 in
theorem rfrom_any (t : Int) (w : World) : Calls Tryz.prog 79 #[.int .u8 t] w (RetP w (.bool (fromB t))) := by
  go_enter Tryz.func79, Tryz.ntmps79
  go_wp2
  all_goals (go_ret; exact RetP.bool (by grind [fromB]) rfl)
set_option maxHeartbeats 1000000 in
theorem follows_any (a b : Int) (w : World) : Calls Tryz.prog 57 #[.int .u8 a, .int .u8 b] w (RetP w (.bool (followsB a b))) := by
  go_enter Tryz.func57, Tryz.ntmps57
  go_wp2_with (go_at_call 82; refine callP (known_any _ _) ?_)
  all_goals (go_ret; exact RetP.bool (by grind [followsB, knownB]) rfl)
def usesStr (t : Int) : List UInt8 :=
  if t = 1 then [70] else if t = 2 ∨ t = 4 then [70, 111] else if t = 3 then [70, 111, 75] else if t = 5 ∨ t = 6 then [70, 67, 84, 82]
  else if t = 7 then [75, 97] else if t = 8 then [67, 75, 68] else if t = 9 then [75] else if t = 10 then [67, 75, 72] else if t = 11 then [70, 75, 97]
  else if t = 12 then [70, 75, 68] else if t = 13 then [70, 75] else if t = 14 then [70, 84, 75, 68, 97] else if t = 15 ∨ t = 16 ∨ t = 17 then [70, 84, 75, 68] else []
set_option maxHeartbeats 1000000 in
theorem ruses_any (t : Int) (w : World) : Calls Tryz.prog 107 #[.int .u8 t] w (RetP w (.string ⟨(usesStr t).toArray⟩)) := by
  go_enter Tryz.func107, Tryz.ntmps107
  go_wp2
  all_goals (go_ret; exact RetP.str (by grind [usesStr]) rfl)
theorem usesStr_empty (t : Int) : (usesStr t).isEmpty = !knownB t := by grind (splits := 30) [usesStr, knownB]
set_option maxHeartbeats 1000000 in
theorem rfollows_any (a b : Int) (w : World) : Calls Tryz.prog 78 #[.int .u8 a, .int .u8 b] w (RetP w (.bool (followsB a b))) := by
  have ha := Lib.hid (usesStr_empty a)
  have hb := Lib.hid (usesStr_empty b)
  go_enter Tryz.func78, Tryz.ntmps78
  go_wp2_with (go_at_call 107; refine callP (ruses_any _ _) ?_)
  all_goals (go_ret; exact RetP.bool (by have ha := ha.out; have hb := hb.out; grind [followsB, knownB]) rfl)
set_option maxHeartbeats 400000 in
theorem joins_any (a b : Leg) (w : World) : Calls Tryz.prog 31 #[a.val, b.val] w (Ret w (.bool (a.joinsB b))) := by
  go_enter Tryz.func31, Tryz.ntmps31
  go_wp2_with (first
    | (go_at_call 57; refine callP (follows_any _ _ _) ?_)
    | (go_at_call 58; refine callP (from_any _ _) ?_))
  all_goals (go_ret; exact Ret.bool (by grind [Leg.joinsB]) (by go_grown))
set_option maxHeartbeats 400000 in
theorem rjoins_any (a b : Leg) (w : World) : Calls Tryz.prog 50 #[a.val, b.val] w (Ret w (.bool (a.joinsB b))) := by
  go_enter Tryz.func50, Tryz.ntmps50
  go_wp2_with (first
    | (go_at_call 78; refine callP (rfollows_any _ _ _) ?_)
    | (go_at_call 79; refine callP (rfrom_any _ _) ?_))
  all_goals (go_ret; exact Ret.bool (by grind [Leg.joinsB]) (by go_grown))
end Go.Proofs.YtlggdgpdfepppaaGreatDoor
namespace Go.Proofs.YtlggdgpdfepppaaGreatDoor
open Go.RowKit
set_option linter.unusedVariables false
set_option linter.unusedSimpArgs false

def orE (a b : Int) : Int := if (a != 0) = true then a else b
def usesOf (t : Int) : Int := usesTab.getD t.toNat 0
def uB (t m : Int) : Bool := bits BinOp.and IntKind.u16 (usesOf t) m != 0
def checkRefI (s : List UInt8) (used : Bool) : Int := if used then (if (splitRef s).2.2 = 0 then 0 else 5) else if s.isEmpty then 0 else 1
def checkNum (n : Int) (used : Bool) (lo hi : Int) : Int := if used then (if n < lo ∨ hi < n then 2 else 0) else if n = 0 then 0 else 1
def turnE (used : Bool) (turn : Int) : Int := if used then (if turn = 1 ∨ turn = 2 then 0 else 1) else if turn = 0 then 0 else 1
def climbsB (t : Int) : Bool := t == 7 || t == 11 || t == 14
def limitsE (l : Leg) : Int :=
  if l.lo < -200000 ∨ l.hi < l.lo ∨ 6000000 < l.hi then 2 else if climbsB l.ty = true ∧ l.lo = -200000 then 2
  else if l.speed < 0 ∨ 1000 < l.speed ∨ l.rnp < 0 ∨ 120000 < l.rnp then 2 else 0
def legC4 (l : Leg) : Int := orE (checkNum l.course (uB l.ty 16) 0 129599999) (orE (checkNum l.dist (uB l.ty 32) 1 2000000) (orE (checkNum l.radius (uB l.ty 64) 1 2000000) (orE (checkNum l.theta (uB l.ty 128) 0 129599999) (limitsE l))))
def overB (l : Leg) : Bool := l.over && !uB l.ty 8
def legC3 (l : Leg) : Int := orE (if overB l then 1 else 0) (legC4 l)
def legC2 (l : Leg) : Int := orE (turnE (uB l.ty 4) l.turn) (legC3 l)
def legCheck (l : Leg) : Int := if knownB l.ty then orE (checkRefI l.fix (uB l.ty 1)) (orE (checkRefI l.center (uB l.ty 2)) (legC2 l)) else 17

theorem bit_eq (t m : Int) : (bits BinOp.and IntKind.u16 (usesOf t) m == 0) = !uB t m := by simp [uB, bne]
theorem bit_ne (t m : Int) : (bits BinOp.and IntKind.u16 (usesOf t) m != 0) = uB t m := rfl
theorem turn_a (l : Leg) (h : uB l.ty 4 = true) (h2 : (l.turn != 1) = true ∧ (l.turn != 2) = true) : 1 = legC2 l := by grind [legC2, orE, turnE]
theorem turn_b (l : Leg) (h : uB l.ty 4 = false) (h2 : (l.turn != 0) = true) : 1 = legC2 l := by grind [legC2, orE, turnE]
theorem turn_c (l : Leg) (h : uB l.ty 4 = true) (h2 : (l.turn != 1) = false ∨ (l.turn != 2) = false) : legC2 l = legC3 l := by grind [legC2, orE, turnE]
theorem turn_d (l : Leg) (h : uB l.ty 4 = false) (h2 : (l.turn != 0) = false) : legC2 l = legC3 l := by grind [legC2, orE, turnE]
theorem turn_e (l : Leg) (h : uB l.ty 4 = true) (h2 : l.turn = 1) : legC2 l = legC3 l := by grind [legC2, orE, turnE]
end Go.Proofs.YtlggdgpdfepppaaGreatDoor
namespace Go.Proofs.YtlggdgpdfepppaaGreatDoor
open Go.RowKit
set_option linter.unusedVariables false
set_option linter.unusedSimpArgs false

theorem checkRef_any (s : List UInt8) (b : Bool) (w : World) (hL : Laid w) (hl : s.length ≤ 4000000000) : Calls Tryz.prog 83 #[.string ⟨s.toArray⟩, .bool b] w (RetQ w (.int .i64 (checkRefI s b))) := by
  cases b
  all_goals
    go_enter Tryz.func83, Tryz.ntmps83
    go_wp2_with (go_at_call 112; refine callQ (splitRef_any _ _ hL hl) ?_; intro n1)
    all_goals (go_ret; exact RetQ.int (by grind [checkRefI]) (by first | exact ⟨_, rfl⟩ | exact ⟨0, rfl⟩))
theorem checkNumber_any (n : Int) (b : Bool) (lo hi : Int) (w : World) : Calls Tryz.prog 84 #[.int .i64 n, .bool b, .int .i64 lo, .int .i64 hi] w (RetP w (.int .i64 (checkNum n b lo hi))) := by
  cases b
  all_goals
    go_enter Tryz.func84, Tryz.ntmps84
    go_wp2
    all_goals (go_ret; exact RetP.int (by grind [checkNum]) rfl)
attribute [local go_sem] bit_eq bit_ne
set_option maxHeartbeats 4000000 in
set_option maxRecDepth 100000 in
theorem check_any (l : Leg) (w : World) (hL : Laid w) (hl : l.small) : Calls Tryz.prog 53 #[l.val] w (Ret w (.int .i64 (legCheck l))) := by
  have h1 := hl.fix
  have h2 := hl.center
  by_cases hk : knownB l.ty = true
  · have hk1 : 1 ≤ l.ty ∧ l.ty ≤ 17 := by simpa [knownB] using hk
    have hk0 := hk1.1
    have hk2 := hk1.2
    have hk3 : 0 ≤ l.ty ∧ l.ty < 18 := by omega
    clear hk1
    have hO0 := Own1.mk0 w l.arr 77
    go_enter Tryz.func53, Tryz.ntmps53
    go_upto_region 1 with (fail)
    generalize w.alloc _ = W at hO0 ⊢
    have hc := hO0.cell
    have hlt := hO0.lt
    have hL1 := hL.below hO0.below
    have hu : W.cell? ⟨0, l.ty.toNat, none⟩ = some (.int .u16 (usesOf l.ty)) := hL1.uses _ (by omega)
    go_upto_if 39 with (first
      | (go_at_call 82; refine callP (known_any _ _) ?_)
      | (go_at_call 83; refine callQ (checkRef_any _ _ _ (by first | exact hL1 | exact hL1.drewN _) (by assumption)) ?_; intro n1))
    · go_ret; exact Ret.int (by go_light; simp [legCheck, orE, *]) (below_drewN hO0.below _)
    · go_ret; exact Ret.int (by go_light; simp [legCheck, orE, *]) (below_drewN hO0.below _)
    have HS := Lib.hid (show legCheck l = legC2 l by go_light; simp [legCheck, orE, *])
    go_cut [3] (fun s wx => s = .int .u16 (usesOf l.ty) ∧ legCheck l = legC3 l ∧ Own1 w l.arr wx)
    case first =>
      go_wp2
      all_goals first
        | (go_ret; refine Ret.int ?_ (below_drewN hO0.below _); rw [HS.out]; first | exact turn_a l (by assumption) (by assumption) | exact turn_b l (by assumption) (by assumption))
        | (go_meet; refine ⟨rfl, ?_, hO0.drewN _⟩; rw [HS.out]; first | exact turn_c l (by assumption) (by assumption) | exact turn_d l (by assumption) (by assumption) | exact turn_e l (by assumption) (by assumption))
    case rest =>
      obtain ⟨rfl, ht, hO⟩ := hcut
      clear HS hc hlt hu hL1 hO0
      have HS := Lib.hid ht; clear ht
      have hc := hO.cell
      have hlt := hO.lt
      have hB := hO.below
      go_upto_region 15 with (fail)
      go_cut [57] (fun s wx => s = .bool (overB l) ∧ wx = wc)
      case first =>
        go_wp2
        all_goals (go_meet; exact ⟨by go_light; simp [overB, *], rfl⟩)
      case rest =>
        obtain ⟨rfl, rfl⟩ := hcut
        go_upto_region 29 with (go_at_call 84; refine callP (checkNumber_any _ _ _ _ _) ?_)
        all_goals try (go_ret; exact Ret.int (by rw [HS.out]; go_light; simp [legC3, legC4, orE, *]) hB; done)
        have HS2 := Lib.hid (show legCheck l = limitsE l by rw [HS.out]; go_light; simp [legC3, legC4, orE, *])
        go_cut [3, 4, 5, 6, 7, 8, 9, 10] (fun _ _ _ _ _ _ _ s wx => s = .bool (climbsB l.ty) ∧ wx = wc)
        case first =>
          go_wp2
          all_goals (go_meet; exact ⟨by go_light; simp [climbsB, *], rfl⟩)
        case rest =>
          obtain ⟨rfl, rfl⟩ := hcut
          clear HS
          go_wp2
          all_goals (go_ret; exact Ret.int (by have HS := HS2.out; clear hO hc hL hl h1 h2; go_light; grind [limitsE]) hB)
  · have hk : knownB l.ty = false := by simpa using hk
    go_enter Tryz.func53, Tryz.ntmps53
    go_wp2_with (go_at_call 82; refine callP (known_any _ _) ?_)
    go_ret
    exact Ret.int (by grind [legCheck]) (by go_grown)
end Go.Proofs.YtlggdgpdfepppaaGreatDoor
namespace Go.Proofs.YtlggdgpdfepppaaGreatDoor
open Go.RowKit
set_option linter.unusedVariables false
set_option linter.unusedSimpArgs false

def hasI (l : List UInt8) (c : Int) : Bool := l.any fun x => (x.toNat : Int) == c
theorem hasI_drop (l : List UInt8) (c : Int) (k : Nat) (h : k < l.length) : hasI (l.drop k) c = (((l[k].toNat : Int) == c) || hasI (l.drop (k+1)) c) := by
  unfold hasI; rw [List.drop_eq_getElem_cons h, List.any_cons]
theorem rhas_any (l : List UInt8) (c : Int) (w : World) (hl : l.length ≤ 4000000000) : Calls Tryz.prog 109 #[.string ⟨l.toArray⟩, .int .u8 c] w (RetP w (.bool (hasI l c))) := by
  go_enter Tryz.func109, Tryz.ntmps109
  go_wp2
  go_loop [5] (fun i => ∃ k : Nat, k ≤ l.length ∧ i = .int .i64 k ∧ hasI l c = hasI (l.drop k) c) (fun i => l.length - (intOf i).toNat)
  case atStart => exact ⟨0, by omega, rfl, rfl⟩
  case round =>
    obtain ⟨k, hk, rfl, hq⟩ := hrel
    have HQ := Lib.hid hq; clear hq
    by_cases hlt : k < l.length
    · have hd := Lib.hid (hasI_drop l c k hlt)
      go_wp2
      · go_ret
        exact RetP.bool (by rw [HQ.out, hd.out]; simp [*]) rfl
      · go_round
        case rel => exact ⟨k + 1, by omega, by go_num, by rw [HQ.out, hd.out]; simp [*]⟩
        case measure => simp [intOf]; omega
    · go_wp2
      go_ret
      exact RetP.bool (by rw [HQ.out, List.drop_of_length_le (by omega)]; rfl) rfl
theorem rref_any (s : List UInt8) (b : Bool) (w : World) (hl : s.length ≤ 4000000000) : Calls Tryz.prog 108 #[.string ⟨s.toArray⟩, .bool b] w (RetQ w (.int .i64 (checkRefI s b))) := by
  cases b
  all_goals
    go_enter Tryz.func108, Tryz.ntmps108
    go_wp2_with (go_at_call 142; refine callQ (rsplitRef_any _ _ hl) ?_; intro n1)
    all_goals (go_ret; exact RetQ.int (by grind [checkRefI]) (by first | exact ⟨_, rfl⟩ | exact ⟨0, rfl⟩))
theorem rnumber_any (n : Int) (lo hi : Int) (b : Bool) (w : World) : Calls Tryz.prog 110 #[.int .i64 n, .int .i64 lo, .int .i64 hi, .bool b] w (RetP w (.int .i64 (checkNum n b lo hi))) := by
  cases b
  all_goals
    go_enter Tryz.func110, Tryz.ntmps110
    go_wp2
    all_goals (go_ret; exact RetP.int (by grind [checkNum]) rfl)
theorem letters_tab : ∀ k : Fin 17, hasI (usesStr (k.val + 1 : Nat)) 70 = uB (k.val + 1 : Nat) 1 ∧ hasI (usesStr (k.val + 1 : Nat)) 67 = uB (k.val + 1 : Nat) 2 ∧ hasI (usesStr (k.val + 1 : Nat)) 84 = uB (k.val + 1 : Nat) 4 ∧ hasI (usesStr (k.val + 1 : Nat)) 111 = uB (k.val + 1 : Nat) 8 ∧
    hasI (usesStr (k.val + 1 : Nat)) 75 = uB (k.val + 1 : Nat) 16 ∧ hasI (usesStr (k.val + 1 : Nat)) 68 = uB (k.val + 1 : Nat) 32 ∧ hasI (usesStr (k.val + 1 : Nat)) 82 = uB (k.val + 1 : Nat) 64 ∧ hasI (usesStr (k.val + 1 : Nat)) 72 = uB (k.val + 1 : Nat) 128 ∧ hasI (usesStr (k.val + 1 : Nat)) 97 = climbsB (k.val + 1 : Nat) := by
  decide +kernel
theorem letters (t : Int) (h : knownB t = true) : hasI (usesStr t) 70 = uB t 1 ∧ hasI (usesStr t) 67 = uB t 2 ∧ hasI (usesStr t) 84 = uB t 4 ∧ hasI (usesStr t) 111 = uB t 8 ∧
    hasI (usesStr t) 75 = uB t 16 ∧ hasI (usesStr t) 68 = uB t 32 ∧ hasI (usesStr t) 82 = uB t 64 ∧ hasI (usesStr t) 72 = uB t 128 ∧ hasI (usesStr t) 97 = climbsB t := by
  have h1 : 1 ≤ t ∧ t ≤ 17 := by simpa [knownB] using h
  have := letters_tab ⟨t.toNat - 1, by omega⟩
  have e : ((t.toNat - 1 + 1 : Nat) : Int) = t := by omega
  simp only [e] at this
  exact this
theorem len_ite {c : Prop} [Decidable c] {a b : List UInt8} {n : Nat} (ha : a.length ≤ n) (hb : b.length ≤ n) : (if c then a else b).length ≤ n := by split <;> assumption
theorem usesStr_len (t : Int) : (usesStr t).length ≤ 5 := by
  unfold usesStr
  repeat' (refine len_ite ?_ ?_)
  all_goals decide
end Go.Proofs.YtlggdgpdfepppaaGreatDoor
namespace Go.Proofs.YtlggdgpdfepppaaGreatDoor
open Go.RowKit
set_option linter.unusedVariables false
set_option linter.unusedSimpArgs false
theorem turn_f (l : Leg) (h : (turnE (uB l.ty 4) l.turn != 0) = true) : 1 = legC2 l := by grind [legC2, orE, turnE]
theorem turn_g (l : Leg) (h : (turnE (uB l.ty 4) l.turn != 0) = false) : legC2 l = legC3 l := by grind [legC2, orE, turnE]
theorem over_f (l : Leg) (h : overB l = true) : 1 = legC3 l := by grind [legC3, orE]
theorem over_g (l : Leg) (h : overB l = false) : legC3 l = legC4 l := by grind [legC3, orE]
set_option maxHeartbeats 4000000 in
set_option maxRecDepth 100000 in
theorem rcheck_any (l : Leg) (w : World) (hl : l.small) : Calls Tryz.prog 74 #[l.val] w (Ret w (.int .i64 (legCheck l))) := by
  have h1 := hl.fix
  have h2 := hl.center
  have he := usesStr_empty l.ty
  have hu := usesStr_len l.ty
  by_cases hk : knownB l.ty = true
  · obtain ⟨lF, lC, lT, lo, lK, lD, lR, lH, la⟩ := letters l.ty hk
    have he1 : (usesStr l.ty).isEmpty = false := by rw [he, hk]; rfl
    have hne : ¬ usesStr l.ty = [] := by intro e; rw [e] at he1; simp at he1
    clear he
    have hO0 := Own1.mk0 w l.arr 77
    go_enter Tryz.func74, Tryz.ntmps74
    go_upto_region 1 with (fail)
    generalize w.alloc _ = W at hO0 ⊢
    have hc := hO0.cell
    have hlt := hO0.lt
    go_upto_region 4 with (go_at_call 107; refine callP (ruses_any _ _) ?_)
    go_quiet (first | ((go_at_call 109; exact quietP (rhas_any _ _ _ (by omega)))) | ((go_at_call 108; exact quietQ (rref_any _ _ _ (by assumption)))))
    go_upto_region 7 with (fail)
    · go_ret; exact Ret.int (by go_light; simp [legCheck, orE, *]) (below_drewN hO0.below _)
    go_quiet (first | ((go_at_call 109; exact quietP' (rhas_any _ _ _ (by omega)))) | ((go_at_call 108; exact quietQ' (rref_any _ _ _ (by assumption)))) | ((go_at_call 110; exact quietP' (rnumber_any _ _ _ _ _))))
    go_upto_region 10 with (fail)
    · go_ret; exact Ret.int (by go_light; simp [legCheck, orE, *]) (below_drewN hO0.below _)
    have HS := Lib.hid (show legCheck l = legC2 l by go_light; simp [legCheck, orE, *])
    generalize hW1 : W.drewN _ = W1
    have hO1 : Own1 w l.arr W1 := hW1 ▸ hO0.drewN _
    clear hW1 hc hlt hO0
    have hc := hO1.cell
    have hlt := hO1.lt
    go_cut [4, 5, 51] (fun _ _ s wx => s = .bool (turnE (uB l.ty 4) l.turn != 0) ∧ Own1 w l.arr wx)
    case first =>
      cases hT : uB l.ty 4
      all_goals
        by_cases t1 : l.turn = 1
        · have b1 : (l.turn == 1) = true := by simp [t1]
          have b2 : (l.turn != 0) = true := by simp [t1]
          have hx := Lib.hid t1; clear t1
          go_quiet (first | ((go_at_call 109; exact quietP (rhas_any _ _ _ (by omega)))) | ((go_at_call 110; exact quietP (rnumber_any _ _ _ _ _))))
          go_wp2
          go_meet
          exact ⟨by rw [hT, hx.out]; rfl, hO1.drewN _⟩
        · have b1 : (l.turn == 1) = false := by simp [t1]
          have hx := Lib.hid t1; clear t1
          by_cases t2 : l.turn = 2
          · have b2 : (l.turn == 2) = true := by simp [t2]
            have b3 : (l.turn != 0) = true := by simp [t2]
            have hy := Lib.hid t2; clear t2
            go_quiet (first | ((go_at_call 109; exact quietP (rhas_any _ _ _ (by omega)))) | ((go_at_call 110; exact quietP (rnumber_any _ _ _ _ _))))
            go_wp2
            go_meet
            exact ⟨by rw [hT, hy.out]; rfl, hO1.drewN _⟩
          · have b2 : (l.turn == 2) = false := by simp [t2]
            have hy := Lib.hid t2; clear t2
            by_cases t0 : l.turn = 0
            · have b3 : (l.turn != 0) = false := by simp [t0]
              have hz := Lib.hid t0; clear t0
              go_quiet (first | ((go_at_call 109; exact quietP (rhas_any _ _ _ (by omega)))) | ((go_at_call 110; exact quietP (rnumber_any _ _ _ _ _))))
              go_wp2
              go_meet
              exact ⟨by rw [hT, hz.out]; rfl, hO1.drewN _⟩
            · have b3 : (l.turn != 0) = true := by simp [t0]
              have hz := Lib.hid t0; clear t0
              go_quiet (first | ((go_at_call 109; exact quietP (rhas_any _ _ _ (by omega)))) | ((go_at_call 110; exact quietP (rnumber_any _ _ _ _ _))))
              go_wp2
              go_meet
              exact ⟨by have hx := hx.out; have hy := hy.out; have hz := hz.out; simp [turnE, hT, hx, hy, hz], hO1.drewN _⟩
    case rest =>
      obtain ⟨rfl, hO⟩ := hcut
      clear hO1 hc hlt
      have hc := hO.cell
      have hlt := hO.lt
      go_upto_region 12 with (fail)
      · go_ret; exact Ret.int (by rw [HS.out]; exact turn_f l (by assumption)) hO.below
      have HS2 := Lib.hid (HS.out.trans (turn_g l (by assumption)))
      clear HS
      go_cut [58] (fun s wx => s = .bool (overB l) ∧ wx = wc)
      case first =>
        go_wp2_with (go_at_call 109; refine callP (rhas_any _ _ _ (by omega)) ?_)
        all_goals (go_meet; exact ⟨by go_light; simp [overB, *], rfl⟩)
      case rest =>
        obtain ⟨rfl, rfl⟩ := hcut
        go_upto_region 14 with (fail)
        · go_ret; exact Ret.int (by rw [HS2.out]; exact over_f l (by assumption)) hO.below
        have HS3 := Lib.hid (HS2.out.trans (over_g l (by assumption)))
        clear HS2
        go_quiet (first | ((go_at_call 109; exact quietP (rhas_any _ _ _ (by omega)))) | ((go_at_call 110; exact quietP (rnumber_any _ _ _ _ _))))
        go_upto_region 17 with (fail)
        · go_ret; exact Ret.int (by rw [HS3.out]; go_light; simp [legC4, orE, *]) (below_drewN hO.below _)
        go_quiet (first | ((go_at_call 109; exact quietP' (rhas_any _ _ _ (by omega)))) | ((go_at_call 110; exact quietP' (rnumber_any _ _ _ _ _))))
        go_upto_region 20 with (fail)
        · go_ret; exact Ret.int (by rw [HS3.out]; go_light; simp [legC4, orE, *]) (below_drewN hO.below _)
        go_quiet (first | ((go_at_call 109; exact quietP' (rhas_any _ _ _ (by omega)))) | ((go_at_call 110; exact quietP' (rnumber_any _ _ _ _ _))))
        go_upto_region 23 with (fail)
        · go_ret; exact Ret.int (by rw [HS3.out]; go_light; simp [legC4, orE, *]) (below_drewN hO.below _)
        go_quiet (first | ((go_at_call 109; exact quietP' (rhas_any _ _ _ (by omega)))) | ((go_at_call 110; exact quietP' (rnumber_any _ _ _ _ _))))
        go_upto_region 26 with (fail)
        · go_ret; exact Ret.int (by rw [HS3.out]; go_light; simp [legC4, orE, *]) (below_drewN hO.below _)
        have HS4 := Lib.hid (show legCheck l = limitsE l by rw [HS3.out]; go_light; simp [legC4, orE, *])
        clear HS3
        go_wp2_with (go_at_call 109; refine callP (rhas_any _ _ _ (by omega)) ?_)
        all_goals (go_ret; exact Ret.int (by have HS := HS4.out; clear hO hc hl h1 h2 lF lC lT lo lK lD lR lH la; go_light; grind [limitsE]) (below_drewN hO.below _))
  · have hk : knownB l.ty = false := by simpa using hk
    have he1 : (usesStr l.ty).isEmpty = true := by rw [he, hk]; rfl
    have hne : usesStr l.ty = [] := by simpa using he1
    go_enter Tryz.func74, Tryz.ntmps74
    go_wp2_with (go_at_call 107; refine callP (ruses_any _ _) ?_)
    go_ret
    exact Ret.int (by simp [legCheck, hk]) (by go_grown)
end Go.Proofs.YtlggdgpdfepppaaGreatDoor
