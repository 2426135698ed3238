/- The reference's Check of a leg, walked. -/
import Derived.Test.YtjgondadpjildaaGreatDoorPk09
namespace Go.Proofs.YtjgondadpjildaaGreatDoor
open Go.RowKit
set_option linter.unusedVariables false
set_option linter.unusedSimpArgs false
theorem turn_f (l : Leg) (h : (turnE (uB l.ty 4) l.turn != 0) = true) : 1 = legC2 l := by grind [legC2, orE, turnE]
theorem turn_g (l : Leg) (h : (turnE (uB l.ty 4) l.turn != 0) = false) : legC2 l = legC3 l := by grind [legC2, orE, turnE]
theorem over_f (l : Leg) (h : overB l = true) : 1 = legC3 l := by grind [legC3, orE]
theorem over_g (l : Leg) (h : overB l = false) : legC3 l = legC4 l := by grind [legC3, orE]
set_option maxHeartbeats 4000000 in
set_option maxRecDepth 100000 in
theorem rcheck_any (l : Leg) (w : World) (hl : l.small) : Calls Tryz.prog 28 #[l.val] w (Ret w (.int .i64 (legCheck l))) := by
  have h1 := hl.fix
  have h2 := hl.center
  have he := usesStr_empty l.ty
  have hu := usesStr_len l.ty
  by_cases hk : knownB l.ty = true
  · obtain ⟨lF, lC, lT, lo, lK, lD, lR, lH, la⟩ := letters l.ty hk
    have he1 : (usesStr l.ty).isEmpty = false := by rw [he, hk]; rfl
    have hne : ¬ usesStr l.ty = [] := by intro e; rw [e] at he1; simp at he1
    clear he
    have hO0 := Own1.mk0 w l.arr 36
    go_enter Tryz.func28, Tryz.ntmps28
    go_upto_region 1 with (fail)
    generalize w.alloc _ = W at hO0 ⊢
    have hc := hO0.cell
    have hlt := hO0.lt
    go_upto_region 4 with (go_at_call 62; refine callP (ruses_any _ _) ?_)
    go_quiet (first | ((go_at_call 64; exact quietP (rhas_any _ _ _ (by omega)))) | ((go_at_call 63; exact quietQ (rref_any _ _ _ (by assumption)))))
    go_upto_region 7 with (fail)
    · go_ret; exact Ret.int (by go_light; simp [legCheck, orE, *]) (below_drewN hO0.below _)
    go_quiet (first | ((go_at_call 64; exact quietP' (rhas_any _ _ _ (by omega)))) | ((go_at_call 63; exact quietQ' (rref_any _ _ _ (by assumption)))) | ((go_at_call 65; exact quietP' (rnumber_any _ _ _ _ _))))
    go_upto_region 10 with (fail)
    · go_ret; exact Ret.int (by go_light; simp [legCheck, orE, *]) (below_drewN hO0.below _)
    have HS := Lib.hid (show legCheck l = legC2 l by go_light; simp [legCheck, orE, *])
    generalize hW1 : W.drewN _ = W1
    have hO1 : Own1 w l.arr W1 := hW1 ▸ hO0.drewN _
    clear hW1 hc hlt hO0
    have hc := hO1.cell
    have hlt := hO1.lt
    go_cut [4, 5, 51] (fun _ _ s wx => s = .bool (turnE (uB l.ty 4) l.turn != 0) ∧ Own1 w l.arr wx)
    case first =>
      cases hT : uB l.ty 4
      all_goals
        by_cases t1 : l.turn = 1
        · have b1 : (l.turn == 1) = true := by simp [t1]
          have b2 : (l.turn != 0) = true := by simp [t1]
          have hx := Lib.hid t1; clear t1
          go_quiet (first | ((go_at_call 64; exact quietP (rhas_any _ _ _ (by omega)))) | ((go_at_call 65; exact quietP (rnumber_any _ _ _ _ _))))
          go_wp2
          go_meet
          exact ⟨by rw [hT, hx.out]; rfl, hO1.drewN _⟩
        · have b1 : (l.turn == 1) = false := by simp [t1]
          have hx := Lib.hid t1; clear t1
          by_cases t2 : l.turn = 2
          · have b2 : (l.turn == 2) = true := by simp [t2]
            have b3 : (l.turn != 0) = true := by simp [t2]
            have hy := Lib.hid t2; clear t2
            go_quiet (first | ((go_at_call 64; exact quietP (rhas_any _ _ _ (by omega)))) | ((go_at_call 65; exact quietP (rnumber_any _ _ _ _ _))))
            go_wp2
            go_meet
            exact ⟨by rw [hT, hy.out]; rfl, hO1.drewN _⟩
          · have b2 : (l.turn == 2) = false := by simp [t2]
            have hy := Lib.hid t2; clear t2
            by_cases t0 : l.turn = 0
            · have b3 : (l.turn != 0) = false := by simp [t0]
              have hz := Lib.hid t0; clear t0
              go_quiet (first | ((go_at_call 64; exact quietP (rhas_any _ _ _ (by omega)))) | ((go_at_call 65; exact quietP (rnumber_any _ _ _ _ _))))
              go_wp2
              go_meet
              exact ⟨by rw [hT, hz.out]; rfl, hO1.drewN _⟩
            · have b3 : (l.turn != 0) = true := by simp [t0]
              have hz := Lib.hid t0; clear t0
              go_quiet (first | ((go_at_call 64; exact quietP (rhas_any _ _ _ (by omega)))) | ((go_at_call 65; exact quietP (rnumber_any _ _ _ _ _))))
              go_wp2
              go_meet
              exact ⟨by have hx := hx.out; have hy := hy.out; have hz := hz.out; simp [turnE, hT, hx, hy, hz], hO1.drewN _⟩
    case rest =>
      obtain ⟨rfl, hO⟩ := hcut
      clear hO1 hc hlt
      have hc := hO.cell
      have hlt := hO.lt
      go_upto_region 12 with (fail)
      · go_ret; exact Ret.int (by rw [HS.out]; exact turn_f l (by assumption)) hO.below
      have HS2 := Lib.hid (HS.out.trans (turn_g l (by assumption)))
      clear HS
      go_cut [58] (fun s wx => s = .bool (overB l) ∧ wx = wc)
      case first =>
        go_wp2_with (go_at_call 64; refine callP (rhas_any _ _ _ (by omega)) ?_)
        all_goals (go_meet; exact ⟨by go_light; simp [overB, *], rfl⟩)
      case rest =>
        obtain ⟨rfl, rfl⟩ := hcut
        go_upto_region 14 with (fail)
        · go_ret; exact Ret.int (by rw [HS2.out]; exact over_f l (by assumption)) hO.below
        have HS3 := Lib.hid (HS2.out.trans (over_g l (by assumption)))
        clear HS2
        go_quiet (first | ((go_at_call 64; exact quietP (rhas_any _ _ _ (by omega)))) | ((go_at_call 65; exact quietP (rnumber_any _ _ _ _ _))))
        go_upto_region 17 with (fail)
        · go_ret; exact Ret.int (by rw [HS3.out]; go_light; simp [legC4, orE, *]) (below_drewN hO.below _)
        go_quiet (first | ((go_at_call 64; exact quietP' (rhas_any _ _ _ (by omega)))) | ((go_at_call 65; exact quietP' (rnumber_any _ _ _ _ _))))
        go_upto_region 20 with (fail)
        · go_ret; exact Ret.int (by rw [HS3.out]; go_light; simp [legC4, orE, *]) (below_drewN hO.below _)
        go_quiet (first | ((go_at_call 64; exact quietP' (rhas_any _ _ _ (by omega)))) | ((go_at_call 65; exact quietP' (rnumber_any _ _ _ _ _))))
        go_upto_region 23 with (fail)
        · go_ret; exact Ret.int (by rw [HS3.out]; go_light; simp [legC4, orE, *]) (below_drewN hO.below _)
        go_quiet (first | ((go_at_call 64; exact quietP' (rhas_any _ _ _ (by omega)))) | ((go_at_call 65; exact quietP' (rnumber_any _ _ _ _ _))))
        go_upto_region 26 with (fail)
        · go_ret; exact Ret.int (by rw [HS3.out]; go_light; simp [legC4, orE, *]) (below_drewN hO.below _)
        have HS4 := Lib.hid (show legCheck l = limitsE l by rw [HS3.out]; go_light; simp [legC4, orE, *])
        clear HS3
        go_wp2_with (go_at_call 64; refine callP (rhas_any _ _ _ (by omega)) ?_)
        all_goals (go_ret; exact Ret.int (by have HS := HS4.out; clear hO hc hl h1 h2 lF lC lT lo lK lD lR lH la; go_light; grind [limitsE]) (below_drewN hO.below _))
  · have hk : knownB l.ty = false := by simpa using hk
    have he1 : (usesStr l.ty).isEmpty = true := by rw [he, hk]; rfl
    have hne : usesStr l.ty = [] := by simpa using he1
    go_enter Tryz.func28, Tryz.ntmps28
    go_wp2_with (go_at_call 62; refine callP (ruses_any _ _) ?_)
    go_ret
    exact Ret.int (by simp [legCheck, hk]) (by go_grown)
end Go.Proofs.YtjgondadpjildaaGreatDoor
