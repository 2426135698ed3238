/- The statements' functions PlanChecks, PlanJoins, PlanJoinAgain return true. -/
import Derived.Test.YtgafmifamkbmbaaDoorAwake
import Derived.Test.YtgafmifamkbmbaaDoorPlanRC
namespace Go.Proofs.YtgafmifamkbmbaaDoor
open Go.RowKit Go.Sort
set_option linter.unusedVariables false
set_option linter.unusedSimpArgs false
set_option maxHeartbeats 2000000 in
set_option maxRecDepth 100000 in
theorem lawChecks_any (p : Plan) (A : Option Addr) (c : Nat) (w : World) (hL : Laid w) (hs : p.small) (hc : p.es.length ≤ c) (hE : Ents w A p.es) :
    Calls Tryd.prog 3 #[p.val A c] w (Ret w (.bool true)) := by
  go_enter Tryd.func3, Tryd.ntmps3
  go_upto_region 1 with (fail)
  have P0 := Blk.new w (p.arr A c) 24
  have B0 := allocB w (.cells (p.arr A c) 24)
  have L0 := hL.below B0
  have E0 := hE.below (B := 0) B0
  generalize w.alloc _ = W at P0 B0 L0 E0 ⊢
  generalize w.heap.size = g at P0 ⊢
  go_upto_region 3 with (go_at_call 9; refine callR (awake_any W L0) ?_; intro w1 hb1 hc1 hf1 hz1)
  have P1 := P0.step hb1
  have B1 := below_step B0 hb1
  have L1 := L0.below hb1
  have E1 := E0.below (B := 0) hb1
  clear hc1 hf1 hz1 hb1 P0 B0 L0 E0
  have j1 : ∀ d os, Has_plan (grow (redrawn w1 d) os) g 0 := fun d os => ⟨_, (P1.step (below_regrown w1 d os)).is_plan rfl⟩
  have j2 : ∀ d os, of_plan (grow (redrawn w1 d) os) g 0 = p.arr A c := fun d os => of_plan_eq ((P1.step (below_regrown w1 d os)).is_plan rfl)
  have c1 : ∀ d os, Calls Tryd.prog 10 #[.agg (p.arr A c)] (grow (redrawn w1 d) os) fun e w'' => e = .returned (.int .i64 (planCheck p)) ∧ ∃ q : Regrown, w'' = grow (redrawn w1 q.d) q.os := fun d os => Calls.regrown_ret (planCheck_any p A c _ (L1.below (below_regrown w1 d os)) hs hc (E1.below (B := 0) (below_regrown w1 d os)))
  have c2 : ∀ d os, Calls Tryd.prog 11 #[.agg (p.arr A c)] (grow (redrawn w1 d) os) fun e w'' => e = .returned (.int .i64 (planCheck p)) ∧ ∃ q : Regrown, w'' = grow (redrawn w1 q.d) q.os := fun d os => Calls.regrown_ret (rplanCheck_any p A c _ hs hc (E1.below (B := 0) (below_regrown w1 d os)))
  refine wp_region_quiet_below (by kernel_rfl) (by kernel_rfl) ?_
  repeat (quiet_step (with_reducible first | exact c1 _ _ | exact c2 _ _))
  refine wpQuiet_nil ?_
  intro _ hw'
  obtain ⟨⟨dq, osq⟩, hw''⟩ := hw'
  subst hw''
  have B2 := below_regrown w1 dq osq
  clear j1 j2 c1 c2
  generalize grow (redrawn w1 dq) osq = w3 at B2 ⊢
  go_wp2
  go_ret
  exact Ret.bool (by simp) (below_step B1 B2)
set_option maxHeartbeats 2000000 in
set_option maxRecDepth 100000 in
theorem lawJoins_any (l : List Entry) (A : Option Addr) (c : Nat) (w : World) (hL : Laid w) (hl : l.length ≤ 4000000000) (hc : l.length ≤ c) (hE : Ents w A l) :
    Calls Tryd.prog 4 #[.slice A l.length c] w (Ret w (.bool true)) := by
  go_enter Tryd.func4, Tryd.ntmps4
  by_cases h : (120 : Int) < ((l.length : Nat) : Int)
  · go_wp2_with (go_at_call 9; refine callR (awake_any w hL) ?_; intro w1 hb1 hc1 hf1 hz1)
    go_ret
    exact Ret.bool rfl hb1
  · have hl2 : l.length ≤ 400000 := by omega
    go_upto_region 3 with (go_at_call 9; refine callR (awake_any w hL) ?_; intro w1 hb1 hc1 hf1 hz1)
    have E1 := hE.below (B := 0) hb1
    clear hc1 hf1 hz1
    go_wp2_with (first
      | (go_at_call 13; refine callOut (join_any l A c w1 hl2 hc E1) ?_; intro v2 w2 O2 B2
         obtain ⟨A2, c2, hv2, hc2, hE2, _⟩ := O2.form
         subst hv2)
      | (go_at_call 14; refine callOut (rjoin_any l A c w2 hl2 hc (E1.below (B := 0) B2)) ?_; intro v3 w3 O3 B3
         obtain ⟨A3, c3, hv3, hc3, hE3, _⟩ := O3.form
         subst hv3)
      | (go_at_call 12; refine callQ (equal_any (joinE l) (joinE l) A2 A3 c2 c3 w3 (by have := joinE_len l; omega) (by have := joinE_len l; omega) hc2 hc3 (hE2.below (B := 0) B3) hE3) ?_; intro n4))
    go_ret
    exact Ret.bool (by simp [(eqGo_iff (joinE l) (joinE l)).2 rfl]) (below_drewN (below_step hb1 (below_step B2 B3)) _)
theorem checkGo_of {l : List Entry} (h : planCheck ⟨[], [], l, -1⟩ = 0) : checkGo none 0 l = 0 := (planCheck_ok h).2.1
theorem minus1 : IntKind.i64.wrap (-1) = -1 := by decide
set_option maxHeartbeats 2000000 in
set_option maxRecDepth 100000 in
theorem lawJoinAgain_any (l : List Entry) (A : Option Addr) (c : Nat) (w : World) (hL : Laid w) (hl : l.length ≤ 4000000000) (hs : ∀ x ∈ l, x.small) (hc : l.length ≤ c) (hE : Ents w A l) :
    Calls Tryd.prog 5 #[.slice A l.length c] w (Ret w (.bool true)) := by
  have hlit : (#[.string ⟨#[]⟩, .string ⟨#[]⟩, .slice A l.length c, .int .i64 (-1)] : Array Value) = (Plan.mk [] [] l (-1)).arr A c := rfl
  have hsm : (Plan.mk [] [] l (-1)).small := ⟨by simp, by simp, hl, hs⟩
  go_enter Tryd.func5, Tryd.ntmps5
  by_cases h : (120 : Int) < ((l.length : Nat) : Int)
  · go_wp2_with (go_at_call 9; with_reducible refine callR (awake_any w hL) ?_; intro w1 hb1 hc1 hf1 hz1)
    go_ret
    exact Ret.bool rfl hb1
  · have hl2 : l.length ≤ 400000 := by omega
    have hjl := joinE_len l
    go_upto_region 5 with (go_at_call 9; with_reducible refine callR (awake_any w hL) ?_; intro w1 hb1 hc1 hf1 hz1)
    have E1 := hE.below (B := 0) hb1
    have L1 := hL.below hb1
    clear hc1 hf1 hz1
    go_upto_region 6 with (go_at_call 13; with_reducible refine callOut (join_any l A c w1 hl2 hc E1) ?_; intro v2 w2 O2 B2)
    obtain ⟨A2, c2, hv2, hc2, hE2, _⟩ := O2.form
    subst hv2
    have E2 := E1.below (B := 0) B2
    have L2 := L1.below B2
    have hag := joinE_again l
    by_cases hk : planCheck ⟨[], [], l, -1⟩ = 0
    · have hj : joinE l = l := joinE_valid l (checkGo_of hk)
      have HJ := Lib.hid (show eqGo (joinE l) l = true from (eqGo_iff _ _).2 hj)
      have hcall := Lib.hid (planCheck_any ⟨[], [], l, -1⟩ A c w2 L2 hsm hc E2)
      rw [hk] at hcall
      clear hk hj
      go_wp2_with (first
        | (go_at_call 10; with_reducible refine callR hcall.out ?_; intro w3 hb3 hc3 hf3 hz3)
        | (go_at_call 12; with_reducible refine callQ (equal_any (joinE l) l A2 A c2 c w3 (by omega) hl hc2 hc (hE2.below (B := 0) hb3) (E2.below (B := 0) hb3)) ?_; intro n4; rw [HJ.out])
        | (go_at_call 13; with_reducible refine callOut (join_any (joinE l) A2 c2 _ (by omega) hc2 (hE2.below (B := 0) (below_drewN hb3 n4))) ?_; intro v5 w5 O5 B5
           rw [hag] at O5
           obtain ⟨A5, c5, hv5, hc5, hE5, _⟩ := O5.form
           subst hv5)
        | (go_at_call 12; with_reducible refine callQ (equal_any (joinE l) (joinE l) A5 A2 c5 c2 w5 (by omega) (by omega) hc5 hc2 hE5 ((hE2.below (B := 0) (below_drewN hb3 n4)).below (B := 0) B5)) ?_; intro n6))
      go_ret
      exact Ret.bool ((eqGo_iff _ _).2 rfl) (below_drewN (below_step hb1 (below_step B2 (below_step (below_drewN hb3 n4) B5))) _)
    · have hcall := Lib.hid (planCheck_any ⟨[], [], l, -1⟩ A c w2 L2 hsm hc E2)
      have hk2 : (planCheck ⟨[], [], l, -1⟩ == 0) = false := by simpa using hk
      clear hk
      go_wp2_with (first
        | (go_at_call 10; with_reducible refine callR hcall.out ?_; intro w3 hb3 hc3 hf3 hz3)
        | (go_at_call 13; with_reducible refine callOut (join_any (joinE l) A2 c2 w3 (by omega) hc2 (hE2.below (B := 0) hb3)) ?_; intro v5 w5 O5 B5
           rw [hag] at O5
           obtain ⟨A5, c5, hv5, hc5, hE5, _⟩ := O5.form
           subst hv5)
        | (go_at_call 12; with_reducible refine callQ (equal_any (joinE l) (joinE l) A5 A2 c5 c2 w5 (by omega) (by omega) hc5 hc2 hE5 ((hE2.below (B := 0) hb3).below (B := 0) B5)) ?_; intro n6))
      go_ret
      exact Ret.bool ((eqGo_iff _ _).2 rfl) (below_drewN (below_step hb1 (below_step B2 (below_step hb3 B5))) _)
end Go.Proofs.YtgafmifamkbmbaaDoor
