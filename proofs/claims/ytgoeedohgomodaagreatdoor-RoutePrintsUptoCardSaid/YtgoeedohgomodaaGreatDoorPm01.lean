/- Lemmas and walks. -/
import Derived.Test.YtgoeedohgomodaaGreatDoorPk01
import Derived.Test.YtgoeedohgomodaaGreatDoorRows
import Derived.Test.YtgoeedohgomodaaGreatDoorShelf
import Derived.WalkKit
import Derived.ProofKit
import Derived.WalkLawsBesides
import Derived.WalkSpells
import Derived.Outline
import Derived.Handy
import Derived.Lib.Hide
import Derived.Laws.Rows
import Derived.Deep.QuietTactic
import Derived.BigQuiet
import Derived.Lib.LaidTab
import Derived.Deep.DeepCutAuto
import Derived.Test.YtgoeedohgomodaaGreatDoorPk02
import Derived.Test.YtgoeedohgomodaaGreatDoorPk05
import Derived.Deep.Light
import Derived.Test.YtgoeedohgomodaaGreatDoorPk06
import Derived.Test.YtgoeedohgomodaaGreatDoorPk03
import Derived.Deep.MidRow
import Derived.Deep.WholeRow
set_option linter.unusedSimpArgs false
set_option linter.unusedVariables false
namespace Go.Proofs.YtgoeedohgomodaaGreatDoor
open Go.RowKit

attribute [go_sem] ba_get ba_extract
section
variable {P : Program}
theorem quietP {f : FuncId} {args : Array Value} {w : World} {n : Nat} {v : Value} (h : Calls P f args (w.drewN n) (RetP (w.drewN n) v)) : Calls P f args (w.drewN n) fun e w'' => e = .returned v ∧ ∃ m, w'' = w.drewN m :=
  h.mono fun _ _ ⟨he, hw⟩ => ⟨he, n, hw.symm⟩
theorem quietP' {f : FuncId} {args : Array Value} {w : World} {a n : Nat} {v : Value} (h : Calls P f args (w.drewN (a + n)) (RetP (w.drewN (a + n)) v)) : Calls P f args (w.drewN (a + n)) fun e w'' => e = .returned v ∧ ∃ m, w'' = w.drewN (a + m) :=
  h.mono fun _ _ ⟨he, hw⟩ => ⟨he, n, hw.symm⟩
theorem quietQ' {f : FuncId} {args : Array Value} {w : World} {a n : Nat} {v : Value} (h : Calls P f args (w.drewN (a + n)) (RetQ (w.drewN (a + n)) v)) : Calls P f args (w.drewN (a + n)) fun e w'' => e = .returned v ∧ ∃ m, w'' = w.drewN (a + m) :=
  h.mono fun _ _ ⟨he, m, hw⟩ => ⟨he, n + m, by rw [hw, World.drewN_drewN, Nat.add_assoc]⟩
end
end Go.Proofs.YtgoeedohgomodaaGreatDoor
namespace Go.Proofs.YtgoeedohgomodaaGreatDoor
open Go.RowKit
set_option maxHeartbeats 400000 in
theorem region_any (l : List UInt8) (w : World) (hl : l.length ≤ 4611686018427387904) : Calls Tryz.prog 109 #[.string ⟨l.toArray⟩] w (RetP w (.bool (shortB l))) := by
  by_cases h2 : l.length = 2
  · have hs := Lib.hid (show shortB l = l.all alnum by simp [shortB, h2])
    have h1 : ((l.length : Int) != 2) = false := by simp; omega
    have h3 := Lib.hid h2
    have hlo : 2 ≤ l.length := by omega
    have hhi : l.length ≤ 2 := by omega
    clear h2
    go_enter Tryz.func109, Tryz.ntmps109
    go_wp2
    go_loop [3] (fun i => ∃ k : Nat, k ≤ l.length ∧ i = .int .i64 k ∧ shortB l = (l.drop k).all alnum) (fun i => l.length - (intOf i).toNat)
    case atStart => exact ⟨0, by omega, rfl, by rw [hs.out]; rfl⟩
    case round =>
      obtain ⟨k, hk, rfl, hq⟩ := hrel
      have HQ := Lib.hid hq; clear hq
      by_cases hlt : k < l.length
      · have hd := Lib.hid (all_drop alnum l k hlt)
        go_wp2
        all_goals first
          | (go_ret; exact RetP.bool (by rw [HQ.out, hd.out]; grind [up, alnum]) rfl)
          | (go_round
             case rel => exact ⟨k + 1, by omega, by go_num, by rw [HQ.out, hd.out]; grind [up, alnum]⟩
             case measure => simp [intOf]; omega)
      · go_wp2
        go_ret
        exact RetP.bool (by rw [HQ.out, List.drop_of_length_le (by omega)]; rfl) rfl
  · have h1 : ((l.length : Int) != 2) = true := by simp; omega
    go_enter Tryz.func109, Tryz.ntmps109
    go_wp2
    go_ret
    exact RetP.bool (by grind [shortB]) rfl

end Go.Proofs.YtgoeedohgomodaaGreatDoor
namespace Go.Proofs.YtgoeedohgomodaaGreatDoor
open Go.RowKit
set_option maxHeartbeats 400000 in
theorem rsplitRef_any (l : List UInt8) (w : World) (hl : l.length ≤ 4000000000) : Calls Tryz.prog 66 #[.string ⟨l.toArray⟩] w (RetQ w (refVal (splitRef l))) := by
  go_enter Tryz.func66, Tryz.ntmps66
  go_wp2
  go_loop [5] (fun i => ∃ k : Nat, k ≤ l.length ∧ i = .int .i64 k ∧ (l.take k).all (· != 47) = true) (fun i => l.length - (intOf i).toNat)
  case atStart => exact ⟨0, by omega, rfl, by simp⟩
  case round =>
    obtain ⟨k, hk, rfl, hq⟩ := hrel
    have HQ := Lib.hid hq; clear hq
    by_cases hlt : k < l.length
    · by_cases hc : l[k] = 47
      · have hs := Lib.hid (show splitRef l = splitRef3 (l.take k, l.drop (k+1), true) by rw [splitRef, cutAt_at 47 l k hlt HQ.out hc])
        have h1 : ((l[k].toNat : Int) == 47) = true := u8_eq (d := 47) hc
        have e1 := IntWalk.i64_in ((k : Int) + 1) (by omega)
        have e2 : (0 : Int) ≤ (k : Int) + 1 := by omega
        have e3 : ((k : Int) + 1).toNat = k + 1 := by omega
        clear hc
        go_wp2
        go_quiet (fail)
        have L1 : (l.take k).length ≤ 4000000000 := by rw [List.length_take]; omega
        have L2 : (l.drop (k+1)).length ≤ 4000000000 := by rw [List.length_drop]; omega
        go_wp2_with (first
          | (go_at_call 65; refine callP (rname_any _ _ _ (by omega)) ?_)
          | (go_at_call 109; refine callP (region_any _ _ (by omega)) ?_))
        all_goals (go_ret3; exact RetQ.tuple3 (by rw [hs.out]; grind [splitRef3]) ⟨_, rfl⟩)
      · have h1 : ((l[k].toNat : Int) == 47) = false := u8_ne (d := 47) hc
        go_wp2
        go_round
        case rel => exact ⟨k + 1, by omega, by go_num, take_all_succ _ l k hlt HQ.out (by simp [hc])⟩
        case measure => simp [intOf]; omega
    · have hs := Lib.hid (show splitRef l = splitRef3 (l, [], false) by rw [splitRef, cutAt_none 47 l (by have := HQ.out; rwa [List.take_of_length_le (by omega)] at this)])
      go_wp2
      go_ret3
      exact RetQ.tuple3 (by rw [hs.out]; rfl) ⟨0, rfl⟩
end Go.Proofs.YtgoeedohgomodaaGreatDoor
namespace Go.Proofs.YtgoeedohgomodaaGreatDoor
open Go.RowKit

set_option maxHeartbeats 400000 in
theorem rpair_any (l : List UInt8) (c : UInt8) (most : Int) (w : World) (hl : l.length ≤ 4000000000) :
    Calls Tryz.prog 137 #[.string ⟨l.toArray⟩, .int .u8 c.toNat, .int .i64 most] w (RetP w (.bool (pairB l c most))) := by
  go_enter Tryz.func137, Tryz.ntmps137
  go_wp2
  go_loop [7] (fun i => ∃ k : Nat, k ≤ l.length ∧ i = .int .i64 k ∧ (l.take k).all (· != c) = true) (fun i => l.length - (intOf i).toNat)
  case atStart => exact ⟨0, by omega, rfl, by simp⟩
  case round =>
    obtain ⟨k, hk, rfl, hq⟩ := hrel
    have HQ := Lib.hid hq; clear hq
    by_cases hlt : k < l.length
    · by_cases hc : l[k] = c
      · have hs := Lib.hid (show pairB l c most = pair3 (l.take k, l.drop (k+1), true) most by rw [pairB, cutAt_at c l k hlt HQ.out hc])
        have h1 : ((l[k].toNat : Int) == (c.toNat : Int)) = true := u8_eq hc
        clear hc
        have L1 : (l.take k).length ≤ 4000000000 := by rw [List.length_take]; omega
        have L2 : (l.drop (k+1)).length ≤ 4000000000 := by rw [List.length_drop]; omega
        go_wp2_with (go_at_call 65; refine callP (rname_any _ _ _ (by omega)) ?_)
        all_goals (go_ret; exact RetP.bool (by rw [hs.out]; grind [pair3]) rfl)
      · have h1 : ((l[k].toNat : Int) == (c.toNat : Int)) = false := u8_ne hc
        go_wp2
        go_round
        case rel => exact ⟨k + 1, by omega, by go_num, take_all_succ _ l k hlt HQ.out (by simp [hc])⟩
        case measure => simp [intOf]; omega
    · have hs := Lib.hid (show pairB l c most = pair3 (l, [], false) most by rw [pairB, cutAt_none c l (by have := HQ.out; rwa [List.take_of_length_le (by omega)] at this)])
      go_wp2_with (go_at_call 65; refine callP (rname_any _ _ _ (by omega)) ?_)
      go_ret
      exact RetP.bool (by rw [hs.out]; grind [pair3]) rfl
set_option maxHeartbeats 400000 in
theorem rplace_any (l : List UInt8) (w : World) (hl : l.length ≤ 4000000000) : Calls Tryz.prog 88 #[.string ⟨l.toArray⟩] w (RetP w (.bool (placeB l))) := by
  go_enter Tryz.func88, Tryz.ntmps88
  go_wp2_with (go_at_call 137; refine callP (rpair_any l 47 _ _ (by omega)) ?_)
  all_goals (go_ret; exact RetP.bool (by grind [placeB]) rfl)
set_option maxHeartbeats 400000 in
theorem rvia_any (l : List UInt8) (w : World) (hl : l.length ≤ 4000000000) : Calls Tryz.prog 140 #[.string ⟨l.toArray⟩] w (RetP w (.bool (viaB l))) := by
  go_enter Tryz.func140, Tryz.ntmps140
  go_wp2_with (go_at_call 137; refine callP (rpair_any l 46 _ _ (by omega)) ?_)
  all_goals (go_ret; exact RetP.bool (by grind [viaB]) rfl)
theorem rsection_any (s : Int) (w : World) : Calls Tryz.prog 139 #[.int .u8 s] w (RetP w (.bool (sectionB s))) := by
  go_enter Tryz.func139, Tryz.ntmps139
  go_wp2
  all_goals (go_ret; exact RetP.bool (by grind [sectionB]) rfl)
theorem rvalid_any (x y : Int) (w : World) : Calls Tryz.prog 141 #[.agg #[.int .i64 x, .int .i64 y]] w (Ret w (.bool (pointB x y))) := by
  go_enter Tryz.func141, Tryz.ntmps141
  go_wp2
  all_goals (go_ret; exact Ret.bool (by grind [pointB]) (by go_grown))
end Go.Proofs.YtgoeedohgomodaaGreatDoor
namespace Go.Proofs.YtgoeedohgomodaaGreatDoor
open Go.RowKit
set_option maxHeartbeats 400000 in
theorem rstarts_any (t : Int) (w : World) : Calls Tryz.prog 90 #[.int .u8 t] w (RetP w (.bool (startsB t))) := by
  go_enter Tryz.func90, Tryz.ntmps90
  go_wp2
  all_goals (go_ret; exact RetP.bool (by grind [startsB]) rfl)
set_option maxHeartbeats 400000 in
theorem rends_any (t : Int) (w : World) : Calls Tryz.prog 92 #[.int .u8 t] w (RetP w (.bool (endsB t))) := by
  go_enter Tryz.func92, Tryz.ntmps92
  go_wp2
  all_goals (go_ret; exact RetP.bool (by grind [endsB]) rfl)
set_option maxHeartbeats 400000 in
theorem rfrom_any (t : Int) (w : World) : Calls Tryz.prog 143 #[.int .u8 t] w (RetP w (.bool (fromB t))) := by
  go_enter Tryz.func143, Tryz.ntmps143
  go_wp2
  all_goals (go_ret; exact RetP.bool (by grind [fromB]) rfl)
def usesStr (t : Int) : List UInt8 :=
  if t = 1 then [70] else if t = 2 ∨ t = 4 then [70, 111] else if t = 3 then [70, 111, 75] else if t = 5 ∨ t = 6 then [70, 67, 84, 82]
  else if t = 7 then [75, 97] else if t = 8 then [67, 75, 68] else if t = 9 then [75] else if t = 10 then [67, 75, 72] else if t = 11 then [70, 75, 97]
  else if t = 12 then [70, 75, 68] else if t = 13 then [70, 75] else if t = 14 then [70, 84, 75, 68, 97] else if t = 15 ∨ t = 16 ∨ t = 17 then [70, 84, 75, 68] else []
set_option maxHeartbeats 1000000 in
theorem ruses_any (t : Int) (w : World) : Calls Tryz.prog 183 #[.int .u8 t] w (RetP w (.string ⟨(usesStr t).toArray⟩)) := by
  go_enter Tryz.func183, Tryz.ntmps183
  go_wp2
  all_goals (go_ret; exact RetP.str (by grind [usesStr]) rfl)
theorem usesStr_empty (t : Int) : (usesStr t).isEmpty = !knownB t := by grind (splits := 30) [usesStr, knownB]
set_option maxHeartbeats 1000000 in
theorem rfollows_any (a b : Int) (w : World) : Calls Tryz.prog 142 #[.int .u8 a, .int .u8 b] w (RetP w (.bool (followsB a b))) := by
  have ha := Lib.hid (usesStr_empty a)
  have hb := Lib.hid (usesStr_empty b)
  go_enter Tryz.func142, Tryz.ntmps142
  go_wp2_with (go_at_call 183; refine callP (ruses_any _ _) ?_)
  all_goals (go_ret; exact RetP.bool (by have ha := ha.out; have hb := hb.out; grind [followsB, knownB]) rfl)
set_option maxHeartbeats 400000 in
theorem rjoins_any (a b : Leg) (w : World) : Calls Tryz.prog 91 #[a.val, b.val] w (Ret w (.bool (a.joinsB b))) := by
  go_enter Tryz.func91, Tryz.ntmps91
  go_wp2_with (first
    | (go_at_call 142; refine callP (rfollows_any _ _ _) ?_)
    | (go_at_call 143; refine callP (rfrom_any _ _) ?_))
  all_goals (go_ret; exact Ret.bool (by grind [Leg.joinsB]) (by go_grown))
end Go.Proofs.YtgoeedohgomodaaGreatDoor
namespace Go.Proofs.YtgoeedohgomodaaGreatDoor
open Go.RowKit

def hasI (l : List UInt8) (c : Int) : Bool := l.any fun x => (x.toNat : Int) == c
theorem hasI_drop (l : List UInt8) (c : Int) (k : Nat) (h : k < l.length) : hasI (l.drop k) c = (((l[k].toNat : Int) == c) || hasI (l.drop (k+1)) c) := by
  unfold hasI; rw [List.drop_eq_getElem_cons h, List.any_cons]
theorem rhas_any (l : List UInt8) (c : Int) (w : World) (hl : l.length ≤ 4000000000) : Calls Tryz.prog 185 #[.string ⟨l.toArray⟩, .int .u8 c] w (RetP w (.bool (hasI l c))) := by
  go_enter Tryz.func185, Tryz.ntmps185
  go_wp2
  go_loop [5] (fun i => ∃ k : Nat, k ≤ l.length ∧ i = .int .i64 k ∧ hasI l c = hasI (l.drop k) c) (fun i => l.length - (intOf i).toNat)
  case atStart => exact ⟨0, by omega, rfl, rfl⟩
  case round =>
    obtain ⟨k, hk, rfl, hq⟩ := hrel
    have HQ := Lib.hid hq; clear hq
    by_cases hlt : k < l.length
    · have hd := Lib.hid (hasI_drop l c k hlt)
      go_wp2
      · go_ret
        exact RetP.bool (by rw [HQ.out, hd.out]; simp [*]) rfl
      · go_round
        case rel => exact ⟨k + 1, by omega, by go_num, by rw [HQ.out, hd.out]; simp [*]⟩
        case measure => simp [intOf]; omega
    · go_wp2
      go_ret
      exact RetP.bool (by rw [HQ.out, List.drop_of_length_le (by omega)]; rfl) rfl
theorem rref_any (s : List UInt8) (b : Bool) (w : World) (hl : s.length ≤ 4000000000) : Calls Tryz.prog 184 #[.string ⟨s.toArray⟩, .bool b] w (RetQ w (.int .i64 (checkRefI s b))) := by
  cases b
  all_goals
    go_enter Tryz.func184, Tryz.ntmps184
    go_wp2_with (go_at_call 66; refine callQ (rsplitRef_any _ _ hl) ?_; intro n1)
    all_goals (go_ret; exact RetQ.int (by grind [checkRefI]) (by first | exact ⟨_, rfl⟩ | exact ⟨0, rfl⟩))
theorem rnumber_any (n : Int) (lo hi : Int) (b : Bool) (w : World) : Calls Tryz.prog 186 #[.int .i64 n, .int .i64 lo, .int .i64 hi, .bool b] w (RetP w (.int .i64 (checkNum n b lo hi))) := by
  cases b
  all_goals
    go_enter Tryz.func186, Tryz.ntmps186
    go_wp2
    all_goals (go_ret; exact RetP.int (by grind [checkNum]) rfl)
theorem letters_tab : ∀ k : Fin 17, hasI (usesStr (k.val + 1 : Nat)) 70 = uB (k.val + 1 : Nat) 1 ∧ hasI (usesStr (k.val + 1 : Nat)) 67 = uB (k.val + 1 : Nat) 2 ∧ hasI (usesStr (k.val + 1 : Nat)) 84 = uB (k.val + 1 : Nat) 4 ∧ hasI (usesStr (k.val + 1 : Nat)) 111 = uB (k.val + 1 : Nat) 8 ∧
    hasI (usesStr (k.val + 1 : Nat)) 75 = uB (k.val + 1 : Nat) 16 ∧ hasI (usesStr (k.val + 1 : Nat)) 68 = uB (k.val + 1 : Nat) 32 ∧ hasI (usesStr (k.val + 1 : Nat)) 82 = uB (k.val + 1 : Nat) 64 ∧ hasI (usesStr (k.val + 1 : Nat)) 72 = uB (k.val + 1 : Nat) 128 ∧ hasI (usesStr (k.val + 1 : Nat)) 97 = climbsB (k.val + 1 : Nat) := by
  decide +kernel
theorem letters (t : Int) (h : knownB t = true) : hasI (usesStr t) 70 = uB t 1 ∧ hasI (usesStr t) 67 = uB t 2 ∧ hasI (usesStr t) 84 = uB t 4 ∧ hasI (usesStr t) 111 = uB t 8 ∧
    hasI (usesStr t) 75 = uB t 16 ∧ hasI (usesStr t) 68 = uB t 32 ∧ hasI (usesStr t) 82 = uB t 64 ∧ hasI (usesStr t) 72 = uB t 128 ∧ hasI (usesStr t) 97 = climbsB t := by
  have h1 : 1 ≤ t ∧ t ≤ 17 := by simpa [knownB] using h
  have := letters_tab ⟨t.toNat - 1, by omega⟩
  have e : ((t.toNat - 1 + 1 : Nat) : Int) = t := by omega
  simp only [e] at this
  exact this
theorem len_ite {c : Prop} [Decidable c] {a b : List UInt8} {n : Nat} (ha : a.length ≤ n) (hb : b.length ≤ n) : (if c then a else b).length ≤ n := by split <;> assumption
theorem usesStr_len (t : Int) : (usesStr t).length ≤ 5 := by
  unfold usesStr
  repeat' (refine len_ite ?_ ?_)
  all_goals decide
end Go.Proofs.YtgoeedohgomodaaGreatDoor
namespace Go.Proofs.YtgoeedohgomodaaGreatDoor
open Go.RowKit
theorem turn_f (l : Leg) (h : (turnE (uB l.ty 4) l.turn != 0) = true) : 1 = legC2 l := by grind [legC2, orE, turnE]
theorem turn_g (l : Leg) (h : (turnE (uB l.ty 4) l.turn != 0) = false) : legC2 l = legC3 l := by grind [legC2, orE, turnE]
theorem over_f (l : Leg) (h : overB l = true) : 1 = legC3 l := by grind [legC3, orE]
theorem over_g (l : Leg) (h : overB l = false) : legC3 l = legC4 l := by grind [legC3, orE]
set_option maxHeartbeats 4000000 in
set_option maxRecDepth 100000 in
theorem rcheck_any (l : Leg) (w : World) (hl : l.small) : Calls Tryz.prog 138 #[l.val] w (Ret w (.int .i64 (legCheck l))) := by
  have h1 := hl.fix
  have h2 := hl.center
  have he := usesStr_empty l.ty
  have hu := usesStr_len l.ty
  by_cases hk : knownB l.ty = true
  · obtain ⟨lF, lC, lT, lo, lK, lD, lR, lH, la⟩ := letters l.ty hk
    have he1 : (usesStr l.ty).isEmpty = false := by rw [he, hk]; rfl
    have hne : ¬ usesStr l.ty = [] := by intro e; rw [e] at he1; simp at he1
    clear he
    have hO0 := Own1.mk0 w l.arr 64
    go_enter Tryz.func138, Tryz.ntmps138
    go_upto_region 1 with (fail)
    generalize w.alloc _ = W at hO0 ⊢
    have hc := hO0.cell
    have hlt := hO0.lt
    go_upto_region 4 with (go_at_call 183; refine callP (ruses_any _ _) ?_)
    go_quiet (first | ((go_at_call 185; exact quietP (rhas_any _ _ _ (by omega)))) | ((go_at_call 184; exact quietQ (rref_any _ _ _ (by assumption)))))
    go_upto_region 7 with (fail)
    · go_ret; exact Ret.int (by go_light; simp [legCheck, orE, *]) (below_drewN hO0.below _)
    go_quiet (first | ((go_at_call 185; exact quietP' (rhas_any _ _ _ (by omega)))) | ((go_at_call 184; exact quietQ' (rref_any _ _ _ (by assumption)))) | ((go_at_call 186; exact quietP' (rnumber_any _ _ _ _ _))))
    go_upto_region 10 with (fail)
    · go_ret; exact Ret.int (by go_light; simp [legCheck, orE, *]) (below_drewN hO0.below _)
    have HS := Lib.hid (show legCheck l = legC2 l by go_light; simp [legCheck, orE, *])
    generalize hW1 : W.drewN _ = W1
    have hO1 : Own1 w l.arr W1 := hW1 ▸ hO0.drewN _
    clear hW1 hc hlt hO0
    have hc := hO1.cell
    have hlt := hO1.lt
    go_cut [4, 5, 51] (fun _ _ s wx => s = .bool (turnE (uB l.ty 4) l.turn != 0) ∧ Own1 w l.arr wx)
    case first =>
      cases hT : uB l.ty 4
      all_goals
        by_cases t1 : l.turn = 1
        · have b1 : (l.turn == 1) = true := by simp [t1]
          have b2 : (l.turn != 0) = true := by simp [t1]
          have hx := Lib.hid t1; clear t1
          go_quiet (first | ((go_at_call 185; exact quietP (rhas_any _ _ _ (by omega)))) | ((go_at_call 186; exact quietP (rnumber_any _ _ _ _ _))))
          go_wp2
          go_meet
          exact ⟨by rw [hT, hx.out]; rfl, hO1.drewN _⟩
        · have b1 : (l.turn == 1) = false := by simp [t1]
          have hx := Lib.hid t1; clear t1
          by_cases t2 : l.turn = 2
          · have b2 : (l.turn == 2) = true := by simp [t2]
            have b3 : (l.turn != 0) = true := by simp [t2]
            have hy := Lib.hid t2; clear t2
            go_quiet (first | ((go_at_call 185; exact quietP (rhas_any _ _ _ (by omega)))) | ((go_at_call 186; exact quietP (rnumber_any _ _ _ _ _))))
            go_wp2
            go_meet
            exact ⟨by rw [hT, hy.out]; rfl, hO1.drewN _⟩
          · have b2 : (l.turn == 2) = false := by simp [t2]
            have hy := Lib.hid t2; clear t2
            by_cases t0 : l.turn = 0
            · have b3 : (l.turn != 0) = false := by simp [t0]
              have hz := Lib.hid t0; clear t0
              go_quiet (first | ((go_at_call 185; exact quietP (rhas_any _ _ _ (by omega)))) | ((go_at_call 186; exact quietP (rnumber_any _ _ _ _ _))))
              go_wp2
              go_meet
              exact ⟨by rw [hT, hz.out]; rfl, hO1.drewN _⟩
            · have b3 : (l.turn != 0) = true := by simp [t0]
              have hz := Lib.hid t0; clear t0
              go_quiet (first | ((go_at_call 185; exact quietP (rhas_any _ _ _ (by omega)))) | ((go_at_call 186; exact quietP (rnumber_any _ _ _ _ _))))
              go_wp2
              go_meet
              exact ⟨by have hx := hx.out; have hy := hy.out; have hz := hz.out; simp [turnE, hT, hx, hy, hz], hO1.drewN _⟩
    case rest =>
      obtain ⟨rfl, hO⟩ := hcut
      clear hO1 hc hlt
      have hc := hO.cell
      have hlt := hO.lt
      go_upto_region 12 with (fail)
      · go_ret; exact Ret.int (by rw [HS.out]; exact turn_f l (by assumption)) hO.below
      have HS2 := Lib.hid (HS.out.trans (turn_g l (by assumption)))
      clear HS
      go_cut [58] (fun s wx => s = .bool (overB l) ∧ wx = wc)
      case first =>
        go_wp2_with (go_at_call 185; refine callP (rhas_any _ _ _ (by omega)) ?_)
        all_goals (go_meet; exact ⟨by go_light; simp [overB, *], rfl⟩)
      case rest =>
        obtain ⟨rfl, rfl⟩ := hcut
        go_upto_region 14 with (fail)
        · go_ret; exact Ret.int (by rw [HS2.out]; exact over_f l (by assumption)) hO.below
        have HS3 := Lib.hid (HS2.out.trans (over_g l (by assumption)))
        clear HS2
        go_quiet (first | ((go_at_call 185; exact quietP (rhas_any _ _ _ (by omega)))) | ((go_at_call 186; exact quietP (rnumber_any _ _ _ _ _))))
        go_upto_region 17 with (fail)
        · go_ret; exact Ret.int (by rw [HS3.out]; go_light; simp [legC4, orE, *]) (below_drewN hO.below _)
        go_quiet (first | ((go_at_call 185; exact quietP' (rhas_any _ _ _ (by omega)))) | ((go_at_call 186; exact quietP' (rnumber_any _ _ _ _ _))))
        go_upto_region 20 with (fail)
        · go_ret; exact Ret.int (by rw [HS3.out]; go_light; simp [legC4, orE, *]) (below_drewN hO.below _)
        go_quiet (first | ((go_at_call 185; exact quietP' (rhas_any _ _ _ (by omega)))) | ((go_at_call 186; exact quietP' (rnumber_any _ _ _ _ _))))
        go_upto_region 23 with (fail)
        · go_ret; exact Ret.int (by rw [HS3.out]; go_light; simp [legC4, orE, *]) (below_drewN hO.below _)
        go_quiet (first | ((go_at_call 185; exact quietP' (rhas_any _ _ _ (by omega)))) | ((go_at_call 186; exact quietP' (rnumber_any _ _ _ _ _))))
        go_upto_region 26 with (fail)
        · go_ret; exact Ret.int (by rw [HS3.out]; go_light; simp [legC4, orE, *]) (below_drewN hO.below _)
        have HS4 := Lib.hid (show legCheck l = limitsE l by rw [HS3.out]; go_light; simp [legC4, orE, *])
        clear HS3
        go_wp2_with (go_at_call 185; refine callP (rhas_any _ _ _ (by omega)) ?_)
        all_goals (go_ret; exact Ret.int (by have HS := HS4.out; clear hO hc hl h1 h2 lF lC lT lo lK lD lR lH la; go_light; grind [limitsE]) (below_drewN hO.below _))
  · have hk : knownB l.ty = false := by simpa using hk
    have he1 : (usesStr l.ty).isEmpty = true := by rw [he, hk]; rfl
    have hne : usesStr l.ty = [] := by simpa using he1
    go_enter Tryz.func138, Tryz.ntmps138
    go_wp2_with (go_at_call 183; refine callP (ruses_any _ _) ?_)
    go_ret
    exact Ret.int (by simp [legCheck, hk]) (by go_grown)
end Go.Proofs.YtgoeedohgomodaaGreatDoor
namespace Go.Proofs.YtgoeedohgomodaaGreatDoor
open Go.RowKit
set_option maxHeartbeats 2000000 in
set_option maxRecDepth 100000 in
theorem single_any (x : Entry) (w : World) (hx : x.small) : Calls Tryz.prog 89 #[x.val] w (Ret w (.int .i64 (aloneE x))) := by
  have hO0 := Own1.mk0 w x.arr 69
  go_enter Tryz.func89, Tryz.ntmps89
  go_upto_region 1 with (fail)
  generalize w.alloc _ = W at hO0 ⊢
  have hc0 := hO0.cell
  have hlt0 := hO0.lt
  go_wp2_with (first
    | (go_at_call 138; refine callO (by assumption) (rcheck_any x.leg _ hx.leg) ?_; intro w1 hO1 hc1 hlt1)
    | (go_at_call 139; refine callP (rsection_any _ _) ?_)
    | (go_at_call 140; refine callP (rvia_any _ _ hx.via) ?_)
    | (go_at_call 141; refine callO (by assumption) (rvalid_any _ _ _) ?_; intro w3 hO3 hc3 hlt3))
  all_goals (go_ret; refine Ret.int ?_ (Own1.below (cs := x.arr) (by first | assumption | exact Own1.drewN (by assumption) _ | exact Own1.alloc (by assumption) _)); go_light; first | (simp [aloneE, alone2, placedB, orE, *]; done) | grind [aloneE, alone2, placedB, orE])
end Go.Proofs.YtgoeedohgomodaaGreatDoor
