/- The reference's Check of a leg: the same first error. The reference's Check of a leg, walked. -/
import Derived.Test.YtcgmemkkcaipfaaGreatDoorPk05
import Derived.Deep.Light
namespace Go.Proofs.YtcgmemkkcaipfaaGreatDoor
open Go.RowKit
set_option linter.unusedVariables false
set_option linter.unusedSimpArgs false

def hasI (l : List UInt8) (c : Int) : Bool := l.any fun x => (x.toNat : Int) == c
theorem hasI_drop (l : List UInt8) (c : Int) (k : Nat) (h : k < l.length) : hasI (l.drop k) c = (((l[k].toNat : Int) == c) || hasI (l.drop (k+1)) c) := by
  unfold hasI; rw [List.drop_eq_getElem_cons h, List.any_cons]
theorem rhas_any (l : List UInt8) (c : Int) (w : World) (hl : l.length ≤ 4000000000) : Calls Tryz.prog 181 #[.string ⟨l.toArray⟩, .int .u8 c] w (RetP w (.bool (hasI l c))) := by
  go_enter Tryz.func181, Tryz.ntmps181
  go_wp2
  go_loop [5] (fun i => ∃ k : Nat, k ≤ l.length ∧ i = .int .i64 k ∧ hasI l c = hasI (l.drop k) c) (fun i => l.length - (intOf i).toNat)
  case atStart => exact ⟨0, by omega, rfl, rfl⟩
  case round =>
    obtain ⟨k, hk, rfl, hq⟩ := hrel
    have HQ := Lib.hid hq; clear hq
    by_cases hlt : k < l.length
    · have hd := Lib.hid (hasI_drop l c k hlt)
      go_wp2
      · go_ret
        exact RetP.bool (by rw [HQ.out, hd.out]; simp [*]) rfl
      · go_round
        case rel => exact ⟨k + 1, by omega, by go_num, by rw [HQ.out, hd.out]; simp [*]⟩
        case measure => simp [intOf]; omega
    · go_wp2
      go_ret
      exact RetP.bool (by rw [HQ.out, List.drop_of_length_le (by omega)]; rfl) rfl
theorem rref_any (s : List UInt8) (b : Bool) (w : World) (hl : s.length ≤ 4000000000) : Calls Tryz.prog 180 #[.string ⟨s.toArray⟩, .bool b] w (RetQ w (.int .i64 (checkRefI s b))) := by
  cases b
  all_goals
    go_enter Tryz.func180, Tryz.ntmps180
    go_wp2_with (go_at_call 65; refine callQ (rsplitRef_any _ _ hl) ?_; intro n1)
    all_goals (go_ret; exact RetQ.int (by grind [checkRefI]) (by first | exact ⟨_, rfl⟩ | exact ⟨0, rfl⟩))
theorem rnumber_any (n : Int) (lo hi : Int) (b : Bool) (w : World) : Calls Tryz.prog 182 #[.int .i64 n, .int .i64 lo, .int .i64 hi, .bool b] w (RetP w (.int .i64 (checkNum n b lo hi))) := by
  cases b
  all_goals
    go_enter Tryz.func182, Tryz.ntmps182
    go_wp2
    all_goals (go_ret; exact RetP.int (by grind [checkNum]) rfl)
/-- The letters of the reference's table are the bits of the program's. -/
theorem letters_tab : ∀ k : Fin 17, hasI (usesStr (k.val + 1 : Nat)) 70 = uB (k.val + 1 : Nat) 1 ∧ hasI (usesStr (k.val + 1 : Nat)) 67 = uB (k.val + 1 : Nat) 2 ∧ hasI (usesStr (k.val + 1 : Nat)) 84 = uB (k.val + 1 : Nat) 4 ∧ hasI (usesStr (k.val + 1 : Nat)) 111 = uB (k.val + 1 : Nat) 8 ∧
    hasI (usesStr (k.val + 1 : Nat)) 75 = uB (k.val + 1 : Nat) 16 ∧ hasI (usesStr (k.val + 1 : Nat)) 68 = uB (k.val + 1 : Nat) 32 ∧ hasI (usesStr (k.val + 1 : Nat)) 82 = uB (k.val + 1 : Nat) 64 ∧ hasI (usesStr (k.val + 1 : Nat)) 72 = uB (k.val + 1 : Nat) 128 ∧ hasI (usesStr (k.val + 1 : Nat)) 97 = climbsB (k.val + 1 : Nat) := by
  decide +kernel
theorem letters (t : Int) (h : knownB t = true) : hasI (usesStr t) 70 = uB t 1 ∧ hasI (usesStr t) 67 = uB t 2 ∧ hasI (usesStr t) 84 = uB t 4 ∧ hasI (usesStr t) 111 = uB t 8 ∧
    hasI (usesStr t) 75 = uB t 16 ∧ hasI (usesStr t) 68 = uB t 32 ∧ hasI (usesStr t) 82 = uB t 64 ∧ hasI (usesStr t) 72 = uB t 128 ∧ hasI (usesStr t) 97 = climbsB t := by
  have h1 : 1 ≤ t ∧ t ≤ 17 := by simpa [knownB] using h
  have := letters_tab ⟨t.toNat - 1, by omega⟩
  have e : ((t.toNat - 1 + 1 : Nat) : Int) = t := by omega
  simp only [e] at this
  exact this
theorem len_ite {c : Prop} [Decidable c] {a b : List UInt8} {n : Nat} (ha : a.length ≤ n) (hb : b.length ≤ n) : (if c then a else b).length ≤ n := by split <;> assumption
theorem usesStr_len (t : Int) : (usesStr t).length ≤ 5 := by
  unfold usesStr
  repeat' (refine len_ite ?_ ?_)
  all_goals decide
end Go.Proofs.YtcgmemkkcaipfaaGreatDoor
namespace Go.Proofs.YtcgmemkkcaipfaaGreatDoor
open Go.RowKit
set_option linter.unusedVariables false
set_option linter.unusedSimpArgs false
theorem turn_f (l : Leg) (h : (turnE (uB l.ty 4) l.turn != 0) = true) : 1 = legC2 l := by grind [legC2, orE, turnE]
theorem turn_g (l : Leg) (h : (turnE (uB l.ty 4) l.turn != 0) = false) : legC2 l = legC3 l := by grind [legC2, orE, turnE]
theorem over_f (l : Leg) (h : overB l = true) : 1 = legC3 l := by grind [legC3, orE]
theorem over_g (l : Leg) (h : overB l = false) : legC3 l = legC4 l := by grind [legC3, orE]
set_option maxHeartbeats 4000000 in
set_option maxRecDepth 100000 in
theorem rcheck_any (l : Leg) (w : World) (hl : l.small) : Calls Tryz.prog 127 #[l.val] w (Ret w (.int .i64 (legCheck l))) := by
  have h1 := hl.fix
  have h2 := hl.center
  have he := usesStr_empty l.ty
  have hu := usesStr_len l.ty
  by_cases hk : knownB l.ty = true
  · obtain ⟨lF, lC, lT, lo, lK, lD, lR, lH, la⟩ := letters l.ty hk
    have he1 : (usesStr l.ty).isEmpty = false := by rw [he, hk]; rfl
    have hne : ¬ usesStr l.ty = [] := by intro e; rw [e] at he1; simp at he1
    clear he
    have hO0 := Own1.mk0 w l.arr 46
    go_enter Tryz.func127, Tryz.ntmps127
    go_upto_region 1 with (fail)
    generalize w.alloc _ = W at hO0 ⊢
    have hc := hO0.cell
    have hlt := hO0.lt
    go_upto_region 4 with (go_at_call 179; refine callP (ruses_any _ _) ?_)
    go_quiet (first | ((go_at_call 181; exact quietP (rhas_any _ _ _ (by omega)))) | ((go_at_call 180; exact quietQ (rref_any _ _ _ (by assumption)))))
    go_upto_region 7 with (fail)
    · go_ret; exact Ret.int (by go_light; simp [legCheck, orE, *]) (below_drewN hO0.below _)
    go_quiet (first | ((go_at_call 181; exact quietP' (rhas_any _ _ _ (by omega)))) | ((go_at_call 180; exact quietQ' (rref_any _ _ _ (by assumption)))) | ((go_at_call 182; exact quietP' (rnumber_any _ _ _ _ _))))
    go_upto_region 10 with (fail)
    · go_ret; exact Ret.int (by go_light; simp [legCheck, orE, *]) (below_drewN hO0.below _)
    have HS := Lib.hid (show legCheck l = legC2 l by go_light; simp [legCheck, orE, *])
    generalize hW1 : W.drewN _ = W1
    have hO1 : Own1 w l.arr W1 := hW1 ▸ hO0.drewN _
    clear hW1 hc hlt hO0
    have hc := hO1.cell
    have hlt := hO1.lt
    go_cut [4, 5, 51] (fun _ _ s wx => s = .bool (turnE (uB l.ty 4) l.turn != 0) ∧ Own1 w l.arr wx)
    case first =>
      cases hT : uB l.ty 4
      all_goals
        by_cases t1 : l.turn = 1
        · have b1 : (l.turn == 1) = true := by simp [t1]
          have b2 : (l.turn != 0) = true := by simp [t1]
          have hx := Lib.hid t1; clear t1
          go_quiet (first | ((go_at_call 181; exact quietP (rhas_any _ _ _ (by omega)))) | ((go_at_call 182; exact quietP (rnumber_any _ _ _ _ _))))
          go_wp2
          go_meet
          exact ⟨by rw [hT, hx.out]; rfl, hO1.drewN _⟩
        · have b1 : (l.turn == 1) = false := by simp [t1]
          have hx := Lib.hid t1; clear t1
          by_cases t2 : l.turn = 2
          · have b2 : (l.turn == 2) = true := by simp [t2]
            have b3 : (l.turn != 0) = true := by simp [t2]
            have hy := Lib.hid t2; clear t2
            go_quiet (first | ((go_at_call 181; exact quietP (rhas_any _ _ _ (by omega)))) | ((go_at_call 182; exact quietP (rnumber_any _ _ _ _ _))))
            go_wp2
            go_meet
            exact ⟨by rw [hT, hy.out]; rfl, hO1.drewN _⟩
          · have b2 : (l.turn == 2) = false := by simp [t2]
            have hy := Lib.hid t2; clear t2
            by_cases t0 : l.turn = 0
            · have b3 : (l.turn != 0) = false := by simp [t0]
              have hz := Lib.hid t0; clear t0
              go_quiet (first | ((go_at_call 181; exact quietP (rhas_any _ _ _ (by omega)))) | ((go_at_call 182; exact quietP (rnumber_any _ _ _ _ _))))
              go_wp2
              go_meet
              exact ⟨by rw [hT, hz.out]; rfl, hO1.drewN _⟩
            · have b3 : (l.turn != 0) = true := by simp [t0]
              have hz := Lib.hid t0; clear t0
              go_quiet (first | ((go_at_call 181; exact quietP (rhas_any _ _ _ (by omega)))) | ((go_at_call 182; exact quietP (rnumber_any _ _ _ _ _))))
              go_wp2
              go_meet
              exact ⟨by have hx := hx.out; have hy := hy.out; have hz := hz.out; simp [turnE, hT, hx, hy, hz], hO1.drewN _⟩
    case rest =>
      obtain ⟨rfl, hO⟩ := hcut
      clear hO1 hc hlt
      have hc := hO.cell
      have hlt := hO.lt
      go_upto_region 12 with (fail)
      · go_ret; exact Ret.int (by rw [HS.out]; exact turn_f l (by assumption)) hO.below
      have HS2 := Lib.hid (HS.out.trans (turn_g l (by assumption)))
      clear HS
      go_cut [58] (fun s wx => s = .bool (overB l) ∧ wx = wc)
      case first =>
        go_wp2_with (go_at_call 181; refine callP (rhas_any _ _ _ (by omega)) ?_)
        all_goals (go_meet; exact ⟨by go_light; simp [overB, *], rfl⟩)
      case rest =>
        obtain ⟨rfl, rfl⟩ := hcut
        go_upto_region 14 with (fail)
        · go_ret; exact Ret.int (by rw [HS2.out]; exact over_f l (by assumption)) hO.below
        have HS3 := Lib.hid (HS2.out.trans (over_g l (by assumption)))
        clear HS2
        go_quiet (first | ((go_at_call 181; exact quietP (rhas_any _ _ _ (by omega)))) | ((go_at_call 182; exact quietP (rnumber_any _ _ _ _ _))))
        go_upto_region 17 with (fail)
        · go_ret; exact Ret.int (by rw [HS3.out]; go_light; simp [legC4, orE, *]) (below_drewN hO.below _)
        go_quiet (first | ((go_at_call 181; exact quietP' (rhas_any _ _ _ (by omega)))) | ((go_at_call 182; exact quietP' (rnumber_any _ _ _ _ _))))
        go_upto_region 20 with (fail)
        · go_ret; exact Ret.int (by rw [HS3.out]; go_light; simp [legC4, orE, *]) (below_drewN hO.below _)
        go_quiet (first | ((go_at_call 181; exact quietP' (rhas_any _ _ _ (by omega)))) | ((go_at_call 182; exact quietP' (rnumber_any _ _ _ _ _))))
        go_upto_region 23 with (fail)
        · go_ret; exact Ret.int (by rw [HS3.out]; go_light; simp [legC4, orE, *]) (below_drewN hO.below _)
        go_quiet (first | ((go_at_call 181; exact quietP' (rhas_any _ _ _ (by omega)))) | ((go_at_call 182; exact quietP' (rnumber_any _ _ _ _ _))))
        go_upto_region 26 with (fail)
        · go_ret; exact Ret.int (by rw [HS3.out]; go_light; simp [legC4, orE, *]) (below_drewN hO.below _)
        have HS4 := Lib.hid (show legCheck l = limitsE l by rw [HS3.out]; go_light; simp [legC4, orE, *])
        clear HS3
        go_wp2_with (go_at_call 181; refine callP (rhas_any _ _ _ (by omega)) ?_)
        all_goals (go_ret; exact Ret.int (by have HS := HS4.out; clear hO hc hl h1 h2 lF lC lT lo lK lD lR lH la; go_light; grind [limitsE]) (below_drewN hO.below _))
  · have hk : knownB l.ty = false := by simpa using hk
    have he1 : (usesStr l.ty).isEmpty = true := by rw [he, hk]; rfl
    have hne : usesStr l.ty = [] := by simpa using he1
    go_enter Tryz.func127, Tryz.ntmps127
    go_wp2_with (go_at_call 179; refine callP (ruses_any _ _) ?_)
    go_ret
    exact Ret.int (by simp [legCheck, hk]) (by go_grown)
end Go.Proofs.YtcgmemkkcaipfaaGreatDoor
