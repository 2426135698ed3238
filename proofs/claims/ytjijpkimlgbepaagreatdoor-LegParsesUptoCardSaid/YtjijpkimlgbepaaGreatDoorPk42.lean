/- From the rows' premises to the walks' of layer 16: what the listed variables hold. The names of the types, of the program and of the reference; what a leg's check says behind a change of its window. The statements' functions LegChecks, LegTypes, LegOrder return true. -/
import Derived.Test.YtjijpkimlgbepaaGreatDoorPk07
import Derived.Test.YtjijpkimlgbepaaGreatDoorPk41
import Derived.Test.YtjijpkimlgbepaaGreatDoorPk18
import Derived.Test.YtjijpkimlgbepaaGreatDoorPk40
import Derived.Test.YtjijpkimlgbepaaGreatDoorPk12
import Derived.Test.YtjijpkimlgbepaaGreatDoorPk17
namespace Go.Proofs.YtjijpkimlgbepaaGreatDoor
open Go.RowKit Go.ChangeShapes Go.WideShapes Go.Deep
set_option linter.unusedVariables false
set_option linter.unusedSimpArgs false
theorem gOpen16 : Tryz.prog.globalNamed "flightdeck/flightdecklaw16.open" = some 0 := by kernel_rfl
def winData (a b : Int) : DataW Unit := .agg [.lit (.int .i64 a), .lit (.int .i64 b)]
theorem open16_of {w : World} {l : List (String × DataW Unit)} (h : laidMet Tryz.prog l w) (hm : ("flightdeck/flightdecklaw16.open", winData (-200000) 6000000) ∈ l) : Open16 w := by
  obtain ⟨ps, hv, _, _⟩ := h
  obtain ⟨g', t', cs, fuel, p, hg', ht', hvar, hd⟩ := laidVars_mem hv _ _ hm
  obtain rfl := Option.some.inj (gOpen16.symm.trans hg')
  obtain rfl : 24 = t' := Option.some.inj ((show (Tryz.prog.globals[0]?).map (·.type) = some 24 by kernel_rfl).symm.trans ht')
  obtain ⟨xs, n, _, hx, hlen, hxl, hf⟩ := DataW.trod_struct Tryz.underlying24 hd
  rw [cells_win] at hlen
  obtain ⟨c0, c1, hcs⟩ := list2 hlen
  obtain ⟨y0, y1, rfl⟩ := list2 hxl
  have g0 := fld hf 0 2 0 1 rfl cells_i64
  have g1 := fld hf 1 2 1 1 rfl cells_i64
  rw [hcs] at g0 g1
  simp only [List.drop_succ_cons, List.drop_zero, List.take_succ_cons, List.take_zero, List.getElem?_cons_succ, List.getElem?_cons_zero] at g0 g1
  obtain ⟨a, e0, k0, _⟩ := DataW.trod_int Tryz.underlying2 g0
  obtain ⟨b, e1, k1, _⟩ := DataW.trod_int Tryz.underlying2 g1
  simp only [List.cons.injEq, and_true] at e0 e1
  unfold winData at hx
  simp only [Prod.mk.injEq, DataW.agg.injEq, List.map_cons, List.map_nil, List.cons.injEq, and_true] at hx
  obtain ⟨⟨h1, h2⟩, _⟩ := hx
  rw [k0] at h1
  rw [k1] at h2
  simp only [DataW.lit.injEq, Lit.int.injEq, true_and] at h1 h2
  have hca : cs = #[.int .i64 (-200000), .int .i64 6000000] := by
    apply Array.toList_inj.1
    rw [hcs, e0, e1, ← h1, ← h2]
  refine ⟨fun j hj => ?_⟩
  rw [World.var?_cell gOpen16 hvar (0 + j), hca, Nat.zero_add]
  rfl
end Go.Proofs.YtjijpkimlgbepaaGreatDoor
namespace Go.Proofs.YtjijpkimlgbepaaGreatDoor
open Go.RowKit
set_option linter.unusedVariables false
set_option linter.unusedSimpArgs false
theorem nameOf_no (t : Int) (h : knownB t = false) : nameOf t = [] := by
  have h1 : ¬ (1 ≤ t ∧ t ≤ 17) := by intro hh; have : knownB t = true := by simpa [knownB] using hh
                                     rw [h] at this; cases this
  unfold nameOf
  rcases Nat.lt_or_ge t.toNat 1 with h2 | h2
  · have : t.toNat = 0 := by omega
    rw [this]; rfl
  · rw [List.getD_eq_getElem?_getD, List.getElem?_eq_none (by simp [namesTab]; omega)]; rfl
theorem nameOf_some (t : Int) (h : knownB t = true) : (nameOf t).isEmpty = false := by
  have h1 : 1 ≤ t ∧ t ≤ 17 := by simpa [knownB] using h
  obtain ⟨n, rfl⟩ : ∃ n : Nat, t = n := ⟨t.toNat, by omega⟩
  have : ∀ k : Fin 17, (nameOf ((k.val + 1 : Nat) : Int)).isEmpty = false := by decide +kernel
  have h2 := this ⟨n - 1, by omega⟩
  have e : n - 1 + 1 = n := by omega
  simp only [e] at h2
  exact h2
set_option maxHeartbeats 1000000 in
theorem name16_any (t : Int) (w : World) (hL : Laid w) : Calls Tryz.prog 22 #[.int .u8 t] w (RetP w (.string ⟨(nameOf t).toArray⟩)) := by
  by_cases hk : knownB t = true
  · have hk1 : 1 ≤ t ∧ t ≤ 17 := by simpa [knownB] using hk
    have hk0 := hk1.1
    have hk2 := hk1.2
    have hk3 : 0 ≤ t ∧ t < 18 := by omega
    clear hk1
    have hu : w.cell? ⟨2, t.toNat, none⟩ = some (.string ⟨(nameOf t).toArray⟩) := hL.names _ (by omega)
    go_enter Tryz.func22, Tryz.ntmps22
    go_wp2_with (go_at_call 30; refine callP (known_any _ _) ?_)
    go_ret
    exact RetP.str rfl rfl
  · have hk : knownB t = false := by simpa using hk
    go_enter Tryz.func22, Tryz.ntmps22
    go_wp2_with (go_at_call 30; refine callP (known_any _ _) ?_)
    go_ret
    exact RetP.str (by rw [nameOf_no t hk]) rfl
set_option maxHeartbeats 1000000 in
theorem rname16_any (t : Int) (w : World) : Calls Tryz.prog 24 #[.int .u8 t] w (RetP w (.string ⟨(nameOf t).toArray⟩)) := by
  by_cases hk : knownB t = true
  · have hk1 : 1 ≤ t ∧ t ≤ 17 := by simpa [knownB] using hk
    have h17 : t = 1 ∨ t = 2 ∨ t = 3 ∨ t = 4 ∨ t = 5 ∨ t = 6 ∨ t = 7 ∨ t = 8 ∨ t = 9 ∨ t = 10 ∨ t = 11 ∨ t = 12 ∨ t = 13 ∨ t = 14 ∨ t = 15 ∨ t = 16 ∨ t = 17 := by omega
    clear hk hk1
    rcases h17 with rfl | rfl | rfl | rfl | rfl | rfl | rfl | rfl | rfl | rfl | rfl | rfl | rfl | rfl | rfl | rfl | rfl
    all_goals
      go_enter Tryz.func24, Tryz.ntmps24
      go_wp2
      go_ret
      exact RetP.str (by decide) rfl
  · have hk : knownB t = false := by simpa using hk
    have h1 : ¬ (1 ≤ t ∧ t ≤ 17) := by intro hh; have : knownB t = true := by simpa [knownB] using hh
                                       rw [hk] at this; cases this
    by_cases h2 : t < 1
    · go_enter Tryz.func24, Tryz.ntmps24
      go_wp2
      go_ret
      exact RetP.str (by rw [nameOf_no t hk]) rfl
    · have h3 : 17 < t := by omega
      go_enter Tryz.func24, Tryz.ntmps24
      go_wp2
      go_ret
      exact RetP.str (by rw [nameOf_no t hk]) rfl
/-- The leg with another window. -/
def Leg.winTo (l : Leg) (lo hi : Int) : Leg := { l with lo := lo, hi := hi }
theorem winTo_check (l : Leg) (lo hi : Int) (h : legCheck l = 0) : legCheck (l.winTo lo hi) = limitsE (l.winTo lo hi) := by
  have k := legOk_of h
  have e1 : knownB (l.winTo lo hi).ty = true := k.known
  have e2 : checkRefI (l.winTo lo hi).fix (uB (l.winTo lo hi).ty 1) = 0 := k.fix
  have e3 : checkRefI (l.winTo lo hi).center (uB (l.winTo lo hi).ty 2) = 0 := k.center
  have e4 : turnE (uB (l.winTo lo hi).ty 4) (l.winTo lo hi).turn = 0 := k.turn
  have e5 : overB (l.winTo lo hi) = false := k.over
  have e6 : checkNum (l.winTo lo hi).course (uB (l.winTo lo hi).ty 16) 0 129599999 = 0 := k.course
  have e7 : checkNum (l.winTo lo hi).dist (uB (l.winTo lo hi).ty 32) 1 2000000 = 0 := k.dist
  have e8 : checkNum (l.winTo lo hi).radius (uB (l.winTo lo hi).ty 64) 1 2000000 = 0 := k.radius
  have e9 : checkNum (l.winTo lo hi).theta (uB (l.winTo lo hi).ty 128) 0 129599999 = 0 := k.theta
  unfold legCheck legC2 legC3 legC4
  rw [e1, e2, e3, e4, e5, e6, e7, e8, e9]
  rfl
theorem winTo_bad (l : Leg) (lo hi : Int) (h : legCheck l = 0) (hb : lo < -200000 ∨ 6000000 < hi ∨ hi < lo) : legCheck (l.winTo lo hi) = 2 := by
  rw [winTo_check l lo hi h]
  unfold limitsE Leg.winTo
  rw [if_pos (by simp only; omega)]
theorem winTo_good (l : Leg) (lo hi : Int) (h : legCheck l = 0) (h1 : -200000 < lo) (h2 : hi ≤ 6000000) (h3 : lo ≤ hi) : legCheck (l.winTo lo hi) = 0 := by
  rw [winTo_check l lo hi h]
  obtain ⟨_, _, s0, s1, r0, r1⟩ := limits_of (legOk_of h).limits
  unfold limitsE Leg.winTo
  rw [if_neg (by simp only; omega), if_neg (by simp only; omega), if_neg (by simp only; omega)]
theorem winTo_low (l : Leg) (hi : Int) (h : legCheck l = 0) (h2 : hi ≤ 6000000) (h3 : -200000 ≤ hi) : legCheck (l.winTo (-200000) hi) = if climbsB l.ty then 2 else 0 := by
  rw [winTo_check l (-200000) hi h]
  obtain ⟨_, _, s0, s1, r0, r1⟩ := limits_of (legOk_of h).limits
  unfold limitsE Leg.winTo
  rw [if_neg (by simp only; omega)]
  cases hc : climbsB l.ty
  · rw [if_neg (by simp [hc]), if_neg (by simp only; omega)]; rfl
  · rw [if_pos (by simp [hc])]; rfl
end Go.Proofs.YtjijpkimlgbepaaGreatDoor
namespace Go.Proofs.YtjijpkimlgbepaaGreatDoor
open Go.RowKit Go.Sort
set_option linter.unusedVariables false
set_option linter.unusedSimpArgs false
theorem awake_in {W : World} (hL : Laid W) (hO : Open16 W) (d : Nat) (os : Array Obj) : Calls Tryz.prog 11 #[] (grow (redrawn W d) os) fun e w'' => e = .returned (.bool true) ∧ ∃ q : Regrown, w'' = grow (redrawn W q.d) q.os :=
  Calls.regrown_ret (awake16_any _ (hL.below (below_regrown W d os)) (hO.below (below_regrown W d os)))
set_option maxHeartbeats 2000000 in
set_option maxRecDepth 100000 in
theorem lawLegChecks_any (l : Leg) (w : World) (hL : Laid w) (hO : Open16 w) (hl : l.small) : Calls Tryz.prog 3 #[l.val] w (Ret w (.bool true)) := by
  go_enter Tryz.func3, Tryz.ntmps3
  go_upto_region 1 with (fail)
  have X0 := Blk.new w l.arr 26
  have B0 := alloc_below w (.cells l.arr 26)
  have L0 := hL.below B0
  have O0 := hO.below B0
  generalize w.alloc _ = W at X0 B0 L0 O0 ⊢
  generalize w.heap.size = g at X0 ⊢
  have c0 := fun d os => awake_in L0 O0 d os
  have j1 : ∀ d os, Has_leg (grow (redrawn W d) os) g 0 := fun d os => ⟨_, (X0.step (below_regrown W d os)).is_leg⟩
  have j2 : ∀ d os, of_leg (grow (redrawn W d) os) g 0 = l := fun d os => of_leg_eq (X0.step (below_regrown W d os)).is_leg
  have c1 : ∀ d os, Calls Tryz.prog 12 #[.agg l.arr] (grow (redrawn W d) os) fun e w'' => e = .returned (.int .i64 (legCheck l)) ∧ ∃ q : Regrown, w'' = grow (redrawn W q.d) q.os := fun d os => Calls.regrown_ret (check_any l _ (L0.below (below_regrown W d os)) hl)
  have c2 : ∀ d os, Calls Tryz.prog 13 #[.agg l.arr] (grow (redrawn W d) os) fun e w'' => e = .returned (.int .i64 (legCheck l)) ∧ ∃ q : Regrown, w'' = grow (redrawn W q.d) q.os := fun d os => Calls.regrown_ret (rcheck_any l _ hl)
  refine wp_region_quiet_below (by kernel_rfl) (by kernel_rfl) ?_
  repeat (quiet_step (with_reducible first | exact c0 _ _ | exact c1 _ _ | exact c2 _ _))
  refine wpQuiet_nil ?_
  intro _ hw'
  obtain ⟨⟨dq, osq⟩, hw''⟩ := hw'
  subst hw''
  have B2 := below_regrown W dq osq
  clear j1 j2 c0 c1 c2
  generalize grow (redrawn W dq) osq = w3 at B2 ⊢
  go_wp2
  go_ret
  exact Ret.bool (by simp) (below_step B0 B2)
set_option maxHeartbeats 2000000 in
set_option maxRecDepth 100000 in
theorem lawLegTypes_any (a b : Int) (w : World) (hL : Laid w) (hO : Open16 w) : Calls Tryz.prog 10 #[.int .u8 a, .int .u8 b] w (Ret w (.bool true)) := by
  go_enter Tryz.func10, Tryz.ntmps10
  go_wp2_with (first
    | (go_at_call 11; ((with_reducible refine callR (awake16_any w hL hO) ?_); intro w1 hb1 hc1 hf1 hz1; clear hc1 hf1 hz1; have L1 := hL.below hb1))
    | (go_at_call 22; ((with_reducible refine callP (name16_any a _ L1) ?_)))
    | (go_at_call 24; ((with_reducible refine callP (rname16_any a _) ?_)))
    | (go_at_call 23; ((with_reducible refine callP (ends_any _ _) ?_)))
    | (go_at_call 25; ((with_reducible refine callP (rends_any _ _) ?_)))
    | (go_at_call 19; ((with_reducible refine callP (from_any _ _) ?_)))
    | (go_at_call 26; ((with_reducible refine callP (rfrom_any _ _) ?_)))
    | (go_at_call 27; ((with_reducible refine callP (starts_any _ _) ?_)))
    | (go_at_call 28; ((with_reducible refine callP (rstarts_any _ _) ?_)))
    | (go_at_call 18; ((with_reducible refine callP (follows_any _ _ _) ?_)))
    | (go_at_call 29; ((with_reducible refine callP (rfollows_any _ _ _) ?_))))
  all_goals (go_ret; exact Ret.bool (by simp) hb1)
theorem order_laws (a b : Int) (h : followsB a b = true) : (b == 1) = false ∧ (a == 13) = false ∧ knownB a = true ∧ knownB b = true ∧ (fromB b && !endsB a) = false ∧ (decide (14 ≤ a) && decide (14 ≤ b)) = false ∧ ((a != 9) || (b == 3)) = true := by
  unfold followsB at h
  unfold fromB endsB
  have hk : knownB a = true ∧ knownB b = true := by
    cases h1 : knownB a <;> cases h2 : knownB b <;> simp [h1, h2] at h ⊢
  obtain ⟨k1, k2⟩ := hk
  have e1 : 1 ≤ a ∧ a ≤ 17 := by simpa [knownB] using k1
  have e2 : 1 ≤ b ∧ b ≤ 17 := by simpa [knownB] using k2
  rw [k1, k2] at h
  have ha : ∀ i j : Fin 17, (true && true && ((j.val + 1 : Nat) : Int) != 1 && (
      if ((i.val + 1 : Nat) : Int) ≤ 6 then true else if ((i.val + 1 : Nat) : Int) = 9 then ((j.val + 1 : Nat) : Int) == 3 else if ((i.val + 1 : Nat) : Int) = 13 then false
      else if 14 ≤ ((i.val + 1 : Nat) : Int) then ((j.val + 1 : Nat) : Int) == 2 || ((j.val + 1 : Nat) : Int) == 3 || ((j.val + 1 : Nat) : Int) == 4 || (decide (7 ≤ ((j.val + 1 : Nat) : Int)) && decide (((j.val + 1 : Nat) : Int) ≤ 13))
      else ((j.val + 1 : Nat) : Int) == 3 || ((j.val + 1 : Nat) : Int) == 4 || (decide (7 ≤ ((j.val + 1 : Nat) : Int)) && decide (((j.val + 1 : Nat) : Int) ≤ 10)))) = true →
      (((j.val + 1 : Nat) : Int) == 1) = false ∧ (((i.val + 1 : Nat) : Int) == 13) = false ∧
      ((decide (11 ≤ ((j.val + 1 : Nat) : Int)) && decide (((j.val + 1 : Nat) : Int) ≤ 17)) && !((decide (1 ≤ ((i.val + 1 : Nat) : Int)) && decide (((i.val + 1 : Nat) : Int) ≤ 6)) || (decide (14 ≤ ((i.val + 1 : Nat) : Int)) && decide (((i.val + 1 : Nat) : Int) ≤ 17)))) = false ∧
      (decide (14 ≤ ((i.val + 1 : Nat) : Int)) && decide (14 ≤ ((j.val + 1 : Nat) : Int))) = false ∧ ((((i.val + 1 : Nat) : Int) != 9) || (((j.val + 1 : Nat) : Int) == 3)) = true := by decide +kernel
  have h2 := ha ⟨a.toNat - 1, by omega⟩ ⟨b.toNat - 1, by omega⟩
  have ea : ((a.toNat - 1 + 1 : Nat) : Int) = a := by omega
  have eb : ((b.toNat - 1 + 1 : Nat) : Int) = b := by omega
  simp only [ea, eb] at h2
  obtain ⟨q1, q2, q3, q4, q5⟩ := h2 h
  exact ⟨q1, q2, k1, k2, q3, q4, q5⟩
set_option maxHeartbeats 2000000 in
set_option maxRecDepth 100000 in
theorem lawLegOrder_any (a b : Int) (w : World) (hL : Laid w) (hO : Open16 w) : Calls Tryz.prog 9 #[.int .u8 a, .int .u8 b] w (Ret w (.bool true)) := by
  cases hF : followsB a b
  · have HF := Lib.hid hF; clear hF
    go_enter Tryz.func9, Tryz.ntmps9
    go_wp2_with (first
      | (go_at_call 11; ((with_reducible refine callR (awake16_any w hL hO) ?_); intro w1 hb1 hc1 hf1 hz1; clear hc1 hf1 hz1))
      | (go_at_call 18; ((with_reducible refine callP (follows_any _ _ _) ?_); rw [HF.out])))
    go_ret
    exact Ret.bool rfl hb1
  · obtain ⟨q1, q2, k1, k2, q3, q4, q5⟩ := order_laws a b hF
    have n1 : (nameOf a).isEmpty = false := nameOf_some a k1
    have n2 : (nameOf b).isEmpty = false := nameOf_some b k2
    have HF := Lib.hid hF; clear hF k1 k2
    obtain ⟨fb, hfb⟩ : ∃ x, fromB b = x := ⟨_, rfl⟩
    obtain ⟨ea, hea⟩ : ∃ x, endsB a = x := ⟨_, rfl⟩
    have c3 := fun W => from_any b W
    have c4 := fun W => ends_any a W
    rw [hfb] at q3 c3
    rw [hea] at q3 c4
    clear hfb hea
    go_enter Tryz.func9, Tryz.ntmps9
    go_upto_region 7 with (first
      | (go_at_call 11; ((with_reducible refine callR (awake16_any w hL hO) ?_); intro w1 hb1 hc1 hf1 hz1; clear hc1 hf1 hz1; have L1 := hL.below hb1))
      | (go_at_call 18; ((with_reducible refine callP (follows_any _ _ _) ?_); rw [HF.out]))
      | (go_at_call 22; ((with_reducible refine callP (name16_any _ _ L1) ?_))))
    clear q1 q2 n1 n2
    go_cut [41] (fun sv wx => sv = .bool false ∧ wx = w1)
    case first =>
      by_cases g1 : 14 ≤ a
      · have g2 : ¬ 14 ≤ b := fun h => by simp [g1, h] at q4
        clear q4 q5
        cases fb
        · go_wp2_with (first | (go_at_call 19; ((with_reducible refine callP (c3 _) ?_))) | (go_at_call 23; ((with_reducible refine callP (c4 _) ?_))))
          all_goals (go_meet; exact ⟨by first | rfl | (simp; omega), rfl⟩)
        · cases ea
          · simp at q3
          · go_wp2_with (first | (go_at_call 19; ((with_reducible refine callP (c3 _) ?_))) | (go_at_call 23; ((with_reducible refine callP (c4 _) ?_))))
            all_goals (go_meet; exact ⟨by first | rfl | (simp; omega), rfl⟩)
      · clear q4 q5
        cases fb
        · go_wp2_with (first | (go_at_call 19; ((with_reducible refine callP (c3 _) ?_))) | (go_at_call 23; ((with_reducible refine callP (c4 _) ?_))))
          all_goals (go_meet; exact ⟨by first | rfl | (simp; omega), rfl⟩)
        · cases ea
          · simp at q3
          · go_wp2_with (first | (go_at_call 19; ((with_reducible refine callP (c3 _) ?_))) | (go_at_call 23; ((with_reducible refine callP (c4 _) ?_))))
            all_goals (go_meet; exact ⟨by first | rfl | (simp; omega), rfl⟩)
    case rest =>
      obtain ⟨rfl, rfl⟩ := hcut
      have Q5 := Lib.hid q5
      clear q3 q4 q5 c3 c4
      go_wp2
      all_goals (go_ret; refine Ret.bool ?_ hb1; have q5 := Q5.out; first | rfl | (simp_all; done) | grind)
end Go.Proofs.YtjijpkimlgbepaaGreatDoor
