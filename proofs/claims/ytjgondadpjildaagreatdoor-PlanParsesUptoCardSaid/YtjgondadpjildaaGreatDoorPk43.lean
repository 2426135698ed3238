/- The statements' functions PlanText and PlanParses return true. -/
import Derived.Test.YtjgondadpjildaaGreatDoorPk40
import Derived.Test.YtjgondadpjildaaGreatDoorPk42
import Derived.Test.YtjgondadpjildaaGreatDoorPk41
namespace Go.Proofs.YtjgondadpjildaaGreatDoor
open Go.RowKit Go.Sort
set_option linter.unusedVariables false
set_option linter.unusedSimpArgs false
set_option maxRecDepth 100000
theorem checkRef_len {s : List UInt8} {b : Bool} (h : checkRefI s b = 0) : s.length ≤ 13 := by
  cases b
  · unfold checkRefI at h
    by_cases he : s = []
    · rw [he]; simp
    · simp [he] at h
  · exact ref_lenT (refB_iff.2 h)
theorem planCheck_small {p : Plan} (h : planCheck p = 0) : p.small := by
  obtain ⟨hlen, hgo, a1, a2⟩ := planCheck_ok h
  obtain ⟨h1, h2⟩ := place_of h
  have pl : ∀ s : List UInt8, placeB s = true → s.length ≤ 13 := fun s hs => by
    unfold placeB at hs
    rcases Bool.or_eq_true_iff.1 hs with hs | hs
    · have : s = [] := by simpa using hs
      rw [this]; simp
    · exact pairB_lenT (m := 6) hs
  refine ⟨by have := pl _ h1; omega, by have := pl _ h2; omega, by omega, fun x hx => ?_⟩
  cases hg : x.gap
  · obtain ⟨hl, _, _, hv, _⟩ := alone_parts (check_each _ _ _ hgo x hx hg)
    have hO := legOk_of hl
    have f := checkRef_len hO.fix
    have c := checkRef_len hO.center
    refine ⟨⟨by omega, by omega⟩, ?_⟩
    unfold viaB at hv
    rcases Bool.or_eq_true_iff.1 hv with hv | hv
    · have : x.via = [] := by simpa using hv
      rw [this]; simp
    · have := pairB_lenT (m := 8) hv; omega
  · have := (Entry.eqB_iff _ _).1 (checkGo_each _ _ _ hgo x hx hg)
    rw [this]
    exact ⟨⟨by decide, by decide⟩, by decide⟩
theorem sameB_self' (p : Plan) : sameB p p = true := by simp [sameB, (eqGo_iff p.es p.es).2 rfl]
attribute [local go_sem] run_storeC_plan
set_option maxHeartbeats 4000000 in
theorem lawText_any (p : Plan) (A : Option Addr) (c : Nat) (w : World) (hL : Laid w) (hR : ErrsAt w) (hs : p.small) (hc : p.es.length ≤ c) (hE : Ents w A p.es) :
    Calls Tryz.prog 6 #[p.val A c] w (Ret w (.bool true)) := by
  go_enter Tryz.func6, Tryz.ntmps6
  go_upto_region 1 with (fail)
  have X0 := Blk.new w (p.arr A c) 52
  have B0 := alloc_below w (.cells (p.arr A c) 52)
  have L0 := hL.below B0
  have R0 := hR.below B0
  have E0 := hE.below (B := 0) B0
  generalize w.alloc _ = W at X0 B0 L0 R0 E0 ⊢
  generalize w.heap.size = g at X0 ⊢
  go_upto_region 3 with (go_at_call 7; refine callR (awake_any W L0) ?_; intro w1 b1 _ _ _)
  have X1 := X0.step b1
  have B1 := below_step B0 b1
  have L1 := L0.below b1
  have R1 := R0.below b1
  have E1 := E0.below (B := 0) b1
  clear X0 B0 L0 R0 E0 b1
  have i1 : Has_plan w1 g 0 := ⟨_, X1.is_plan rfl⟩
  have i2 : of_plan w1 g 0 = p.arr A c := of_plan_eq (X1.is_plan rfl)
  have k1 := Lib.hid (plant_any p A c w1 L1 hs hc E1)
  obtain ⟨TX, hTX⟩ : ∃ T, T = planT p := ⟨_, rfl⟩
  rw [← hTX] at k1
  have HTX := Lib.hid hTX
  clear hTX
  go_upto_region 4 with (go_at_call 16; refine callR k1.out ?_; intro w2 b2 _ _ _)
  have X2 := X1.step b2
  have B2 := below_step B1 b2
  have L2 := L1.below b2
  have R2 := R1.below b2
  have E2 := E1.below (B := 0) b2
  clear X1 B1 L1 R1 E1 b2 i1 i2 k1
  have i1 : Has_plan w2 g 0 := ⟨_, X2.is_plan rfl⟩
  have i2 : of_plan w2 g 0 = p.arr A c := of_plan_eq (X2.is_plan rfl)
  have k2 := Lib.hid (rptext_any p A c w2 hs hc E2)
  rw [← HTX.out] at k2
  go_upto_region 6 with (go_at_call 17; refine callR k2.out ?_; intro w3 b3 _ _ _)
  have X3 := X2.step b3
  have B3 := below_step B2 b3
  have L3 := L2.below b3
  have R3 := R2.below b3
  have E3 := E2.below (B := 0) b3
  clear X2 B2 L2 R2 E2 b3 i1 i2 k2
  have i1 : Has_plan w3 g 0 := ⟨_, X3.is_plan rfl⟩
  have i2 : of_plan w3 g 0 = p.arr A c := of_plan_eq (X3.is_plan rfl)
  have k3 := Lib.hid (planCheck_any p A c w3 L3 hs hc E3)
  by_cases hk : planCheck p = 0
  · rw [hk] at k3
    have HK := Lib.hid hk
    have hTl : TX.length ≤ 24400 := by rw [HTX.out]; exact planT_len hk
    have HP := Lib.hid (show parseP TX = (p, 0) by rw [HTX.out]; exact parseP_ok hk)
    clear hk
    go_upto_region 8 with (go_at_call 15; refine callR k3.out ?_; intro w4 b4 _ _ _)
    have X4 := X3.step b4
    have B4 := below_step B3 b4
    have L4 := L3.below b4
    have R4 := R3.below b4
    have E4 := E3.below (B := 0) b4
    clear X3 B3 L3 R3 E3 b4 i1 i2 k3
    go_wp2_with fail
    refine (parse21_any TX w4 L4 R4 (by omega)).mono ?_
    rintro e w5 ⟨A2, c2, rfl, hc2, hE2, b5⟩
    rw [HP.out] at hc2 hE2 ⊢
    have X5 := X4.step b5
    have B5 := below_step B4 b5
    have E5 := E4.below (B := 0) b5
    clear X4 B4 L4 R4 E4 b5
    simp only at hc2 hE2 ⊢
    have Y6 := Blk.new w5 (p.arr A2 c2) 52
    have A6 := alloc_below w5 (.cells (p.arr A2 c2) 52)
    go_upto_region 9 with (fail)
    have X6 := X5.step A6
    have B6 := below_step B5 A6
    have E6 := E5.below (B := 0) A6
    have F6 := hE2.below (B := 0) A6
    clear X5 B5 E5 hE2 A6
    generalize w5.alloc _ = w6 at *
    generalize w5.heap.size = q at *
    have i1 : Has_plan w6 g 0 := ⟨_, X6.is_plan rfl⟩
    have i2 : of_plan w6 g 0 = p.arr A c := of_plan_eq (X6.is_plan rfl)
    have i3 : Has_plan w6 q 0 := ⟨_, Y6.is_plan rfl⟩
    have i4 : of_plan w6 q 0 = p.arr A2 c2 := of_plan_eq (Y6.is_plan rfl)
    have hl := hs.len
    have k6 := Lib.hid (same_any p p A A2 c c2 w6 (by omega) (by omega) hc hc2 E6 F6)
    rw [sameB_self'] at k6
    go_wp2_with (go_at_call 18; refine callR k6.out ?_; intro w7 b7 _ _ _)
    go_ret
    exact Ret.bool rfl (below_step B6 b7)
  · have hk0 : (planCheck p == 0) = false := by simpa using hk
    have hT : TX = [] := by rw [HTX.out]; exact planT_bad hk
    subst hT
    clear hk
    generalize planCheck p = e at k3 hk0
    go_wp2_with (go_at_call 15; refine callR k3.out ?_; intro w4 b4 _ _ _)
    go_ret
    exact Ret.bool rfl (below_step B3 b4)
set_option maxHeartbeats 4000000 in
theorem lawParses_any (s : List UInt8) (w : World) (hL : Laid w) (hR : ErrsAt w) (hl : s.length ≤ 2000000) :
    Calls Tryz.prog 5 #[.string ⟨s.toArray⟩] w (Ret w (.bool true)) := by
  go_enter Tryz.func5, Tryz.ntmps5
  go_upto_region 3 with (go_at_call 7; refine callR (awake_any w hL) ?_; intro w1 b1 _ _ _)
  have L1 := hL.below b1
  have R1 := hR.below b1
  by_cases hbig : 40000 < s.length
  · go_wp2
    go_ret
    exact Ret.bool rfl b1
  go_upto_region 5 with (fail)
  go_wp2_with fail
  refine (parse21_any s w1 L1 R1 (by omega)).mono ?_
  rintro e w2 ⟨A2, c2, rfl, hc2, hE2, b2⟩
  have B2 := below_step b1 b2
  have L2 := L1.below b2
  clear b1 L1 R1 b2
  obtain ⟨p, er, hp⟩ : ∃ p er, parseP s = (p, er) := ⟨_, _, rfl⟩
  have hq : parseR s = (p, er) := by rw [← parse_same]; exact hp
  have HP := Lib.hid hp
  have HQ := Lib.hid hq
  rw [hp] at hc2 hE2 ⊢
  simp only at hc2 hE2 ⊢
  clear hp hq
  have Y3 := Blk.new w2 (p.arr A2 c2) 52
  have A3 := alloc_below w2 (.cells (p.arr A2 c2) 52)
  go_upto_region 6 with (fail)
  have B3 := below_step B2 A3
  have L3 := L2.below A3
  have E3 := hE2.below (B := 0) A3
  clear B2 L2 hE2 A3
  generalize w2.alloc _ = w3 at *
  generalize w2.heap.size = q at *
  go_wp2_with fail
  refine (rparse21_any s w3 (by omega)).mono ?_
  rintro e w4 ⟨A4, c4, rfl, hc4, hE4, b4⟩
  rw [HQ.out] at hc4 hE4 ⊢
  simp only at hc4 hE4 ⊢
  have Y4 := Y3.step b4
  have B4 := below_step B3 b4
  have L4 := L3.below b4
  have E4 := E3.below (B := 0) b4
  clear Y3 B3 L3 E3 b4
  have Z5 := Blk.new w4 (p.arr A4 c4) 52
  have A5 := alloc_below w4 (.cells (p.arr A4 c4) 52)
  go_upto_region 7 with (fail)
  have Y5 := Y4.step A5
  have B5 := below_step B4 A5
  have L5 := L4.below A5
  have E5 := E4.below (B := 0) A5
  have F5 := hE4.below (B := 0) A5
  clear Y4 B4 L4 E4 hE4 A5
  generalize w4.alloc _ = w5 at *
  generalize w4.heap.size = q2 at *
  have i1 : Has_plan w5 q 0 := ⟨_, Y5.is_plan rfl⟩
  have i2 : of_plan w5 q 0 = p.arr A2 c2 := of_plan_eq (Y5.is_plan rfl)
  have i3 : Has_plan w5 q2 0 := ⟨_, Z5.is_plan rfl⟩
  have i4 : of_plan w5 q2 0 = p.arr A4 c4 := of_plan_eq (Z5.is_plan rfl)
  rcases parseP_cases s with hcase | ⟨p', hk, hT, hcase⟩
  · rw [HP.out] at hcase
    obtain ⟨hp0, he0⟩ := Prod.mk.inj hcase
    subst hp0; subst he0
    have k5 := Lib.hid (rsame_any plan0 plan0 A2 A4 c2 c4 w5 (by decide) (by decide) hc2 hc4 E5 F5)
    rw [sameB_self'] at k5
    clear hcase
    go_wp2_with (go_at_call 14; refine callR k5.out ?_; intro w6 b6 _ _ _)
    go_ret
    exact Ret.bool rfl (below_step B5 b6)
  · rw [HP.out] at hcase
    obtain ⟨hp0, he0⟩ := Prod.mk.inj hcase
    subst hp0; subst he0
    have hlen := (planCheck_ok hk).1
    have hs := planCheck_small hk
    have k5 := Lib.hid (rsame_any p p A2 A4 c2 c4 w5 (by omega) (by omega) hc2 hc4 E5 F5)
    rw [sameB_self'] at k5
    clear hcase
    have HK := Lib.hid hk
    have HT := Lib.hid hT
    clear hk hT
    go_upto_region 9 with (go_at_call 14; refine callR k5.out ?_; intro w6 b6 _ _ _)
    have Y6 := Y5.step b6
    have B6 := below_step B5 b6
    have L6 := L5.below b6
    have E6 := E5.below (B := 0) b6
    clear Y5 Z5 B5 L5 E5 F5 b6 i1 i2 i3 i4 k5
    have i1 : Has_plan w6 q 0 := ⟨_, Y6.is_plan rfl⟩
    have i2 : of_plan w6 q 0 = p.arr A2 c2 := of_plan_eq (Y6.is_plan rfl)
    have k6 := Lib.hid (planCheck_any p A2 c2 w6 L6 hs hc2 E6)
    rw [HK.out] at k6
    have KT := Lib.hid (fun w7 (b7 : Below w6.heap.size w6 w7) => plant_any p A2 c2 w7 (L6.below b7) hs hc2 (E6.below (B := 0) b7))
    rw [HT.out] at KT
    have HY := Lib.hid Y6
    go_wp2_with (first
      | (go_at_call 15; refine callR k6.out ?_; intro w7 b7 _ _ _
         have j1 : Has_plan w7 q 0 := ⟨_, (HY.out.step b7).is_plan rfl⟩
         have j2 : of_plan w7 q 0 = p.arr A2 c2 := of_plan_eq ((HY.out.step b7).is_plan rfl))
      | (go_at_call 16; refine callR (KT.out w7 b7) ?_; intro w8 b8 _ _ _))
    go_ret
    exact Ret.bool rfl (below_step (below_step B6 b7) b8)
end Go.Proofs.YtjgondadpjildaaGreatDoor
