/- The reference's readers of words: kind, isRef, speed, ParseDist, distance: the same as the program's. What the reference reads an altitude as, in plain Lean: form, range and number; the same windows as the program's. -/
import Derived.Test.YtjgondadpjildaaGreatDoorPk23
import Derived.Test.YtjgondadpjildaaGreatDoorPk21
import Derived.Test.YtjgondadpjildaaGreatDoorPk29
namespace Go.Proofs.YtjgondadpjildaaGreatDoor
open Go.RowKit Go.Sort
set_option linter.unusedVariables false
set_option linter.unusedSimpArgs false
set_option maxRecDepth 100000
def kindS (s : List UInt8) : Int := typeK s 0 18
theorem RetQ.num {w w' : World} {n : Int} {b : Bool} {x : Int × Bool} (h : x = (n, b)) (hw : ∃ k, w' = w.drewN k) : RetQ w (numVal x) (.returned (.tuple #[.int .i64 n, .bool b])) w' := ⟨by rw [h], hw⟩
theorem kind_at {s : List UInt8} {k : Nat} (h1 : 1 ≤ k) (h2 : k ≤ 17) (h : nameOf (k : Int) = s) : kindS s = k := by
  unfold kindS
  rw [← h]
  exact type_fwd (by simp [knownB]; omega)
theorem kind_no {s : List UInt8} (h : ∀ j : Nat, 1 ≤ j → j < 18 → nameOf (j : Int) ≠ s) : kindS s = 0 := by
  unfold kindS
  rcases Int.decEq (typeK s 0 18) 0 with h2 | h2
  · obtain ⟨k1, k2⟩ := typeK_back s 18 (by omega) h2
    have k3 : 1 ≤ typeK s 0 18 ∧ typeK s 0 18 ≤ 17 := by simpa [knownB] using k1
    have := h (typeK s 0 18).toNat (by omega) (by omega)
    rw [show (((typeK s 0 18).toNat : Nat) : Int) = typeK s 0 18 by omega] at this
    exact absurd k2 this
  · exact h2
set_option maxHeartbeats 1000000 in
theorem rkind_any (s : List UInt8) (w : World) : Calls Tryz.prog 138 #[.string ⟨s.toArray⟩] w (RetP w (.int .u8 (kindS s))) := by
  have HA := Lib.hid (fun (k : Nat) h1 h2 h3 => kind_at (s := s) (k := k) h1 h2 h3)
  have HN := Lib.hid (fun h => kind_no (s := s) h)
  generalize kindS s = out at HA HN ⊢
  go_enter Tryz.func138, Tryz.ntmps138
  go_wp2
  go_loop [3] (fun t => ∃ k : Nat, 1 ≤ k ∧ k ≤ 18 ∧ t = .int .u8 k ∧ ∀ j : Nat, 1 ≤ j → j < k → nameOf (j : Int) ≠ s) (fun t => 18 - (intOf t).toNat)
  case atStart => exact ⟨1, by omega, by omega, rfl, fun j h1 h2 => by omega⟩
  case round =>
    obtain ⟨k, hk1, hk2, rfl, hq⟩ := hrel
    have HQ := Lib.hid hq; clear hq
    by_cases hlt : k ≤ 17
    · have kc := Lib.hid (fun w => rname16_any (k : Int) w)
      have HT := Lib.hid (fun h => HA.out k hk1 hlt h)
      by_cases he : nameOf (k : Int) = s
      · have HE := Lib.hid he; clear he
        rw [HE.out] at kc
        go_wp2_with (go_at_call 149; ((with_reducible refine callP (kc.out _) ?_)))
        go_ret
        exact RetP.int (HT.out HE.out).symm rfl
      · have HE := Lib.hid he
        have HNE := Lib.hid he
        generalize hnm : nameOf (k : Int) = nm at kc he HE HT
        have HNM := Lib.hid hnm; clear hnm
        have e1 : (nm == s) = false := by simpa using he
        have e2 : decide (nm = s) = false := by simpa using he
        have q1 : IntKind.u8.wrap ((k : Int) + 1) = (k : Int) + 1 := by simp only [IntKind.wrap, IntKind.bits, IntKind.signed]; simp; omega
        go_wp2_with (go_at_call 149; ((with_reducible refine callP (kc.out _) ?_)))
        go_round
        case rel => exact ⟨k + 1, by omega, by omega, by go_num, fun j h1 h2 => by
          rcases Nat.lt_or_ge j k with h3 | h3
          · exact HQ.out j h1 h3
          · obtain rfl : j = k := by omega
            exact HNE.out⟩
        case measure => simp [intOf]; omega
    · go_wp2
      go_ret
      exact RetP.int (HN.out fun j h1 h2 => HQ.out j h1 (by omega)).symm rfl
theorem risRef_any (s : List UInt8) (w : World) (hs : s.length ≤ 4000000000) : Calls Tryz.prog 195 #[.string ⟨s.toArray⟩] w (RetQ w (.bool (refB s))) := by
  have k := Lib.hid (fun w => rsplitRef_any s w hs)
  have HR := Lib.hid (show refB s = ((splitRef s).2.2 == 0) from rfl)
  generalize refB s = out at HR ⊢
  generalize splitRef s = q at k HR
  obtain ⟨a, b, e⟩ := q
  simp only at HR
  go_enter Tryz.func195, Tryz.ntmps195
  go_wp2_with (go_at_call 104; ((with_reducible refine callQ (k.out _) ?_); intro n1))
  go_ret
  exact RetQ.bool (by rw [HR.out]) ⟨_, rfl⟩
set_option maxHeartbeats 4000000 in
theorem rspeed_any (l : List UInt8) (w : World) : Calls Tryz.prog 199 #[.string ⟨l.toArray⟩] w (RetP w (numVal (speedS l))) := by
  by_cases h25 : 2 ≤ l.length ∧ l.length ≤ 5
  · match l, h25 with
    | x :: y :: r, h25 =>
      have hr : r.length ≤ 3 := by have := h25.2; simp at this; omega
      clear h25
      by_cases hx : x = 115 ∧ ¬ y = 48
      · obtain ⟨rfl, hy⟩ := hx
        have HB := Lib.hid (show speedB (115 :: y :: r) = (y :: r).all isD by rw [speedB_two]; simp [hy, hr])
        have hy1 : ((y.toNat : Int) == 48) = false := u8_ne (d := 48) hy
        clear hy
        have HS := Lib.hid (fun h => speedS_ok (l := 115 :: y :: r) h)
        have HN := Lib.hid (fun h => speedS_no (l := 115 :: y :: r) h)
        simp only [List.tail_cons] at HS
        generalize hs : speedS (115 :: y :: r) = out at HS HN ⊢
        clear hs
        go_enter Tryz.func199, Tryz.ntmps199
        go_wp2
        go_loop [4, 5] (fun n i => ∃ k : Nat, k ≤ r.length + 1 ∧ i = .int .i64 ((k : Int) + 1) ∧ n = .int .i64 (val ((y :: r).take k) : Nat) ∧ ((y :: r).take k).all isD = true) (fun _ i => r.length + 2 - (intOf i).toNat)
        case atStart => exact ⟨0, by omega, rfl, by simp [val, numV_nil], by simp⟩
        case round =>
          obtain ⟨k, hk, rfl, rfl, ha⟩ := hrel
          have hv := val_take_lt (y :: r) k (by omega) ha
          by_cases hlt : k < r.length + 1
          · have hlt' : k < (y :: r).length := by simpa using hlt
            have HS2 := Lib.hid (val_take_succ (y :: r) k hlt')
            have HA := Lib.hid (take_all_succ isD (y :: r) k hlt' ha)
            have HF := Lib.hid (fun hd => all_take_false (l := y :: r) hlt' hd)
            have hidx : ∀ h, (115 :: y :: r)[k + 1]'h = (y :: r)[k] := fun h => rfl
            have hc0 : 0 ≤ (y :: r)[k].toNat ∧ (y :: r)[k].toNat ≤ 255 := ⟨by omega, by have := UInt8.toNat_lt (y :: r)[k]; omega⟩
            have hc1 := hc0.2
            clear ha hc0
            generalize val ((y :: r).take k) = m at hv HS2 ⊢
            generalize hcc : (y :: r)[k] = c at HS2 HA HF hidx hc1
            clear hcc
            go_wp2
            all_goals first
              | (go_ret2
                 refine RetP.num ?_ rfl
                 exact HN.out (by rw [HB.out]; exact HF.out (by grind [isD])))
              | (go_round
                 case rel => exact ⟨k + 1, by omega, by go_num, by rw [HS2.out]; congr 1; omega, HA.out (by grind [isD])⟩
                 case measure => simp [intOf]; omega)
          · rw [List.take_of_length_le (by simp; omega)] at ha
            have HA := Lib.hid ha; clear ha
            have HT := Lib.hid (List.take_of_length_le (l := y :: r) (i := k) (by simp; omega))
            generalize (y :: r).take k = t at hv HT ⊢
            go_wp2
            go_ret2
            refine RetP.num ?_ rfl
            rw [HT.out]
            exact HS.out (by rw [HB.out]; exact HA.out)
      · have HO := Lib.hid (speedS_no (l := x :: y :: r) (by rw [speedB_two]; grind))
        have HX := Lib.hid hx; clear hx
        generalize speedS (x :: y :: r) = out at HO ⊢
        by_cases hx1 : x = 115
        · subst hx1
          have hy : y = 48 := by
            rcases Decidable.em (y = 48) with h | h
            · exact h
            · exact absurd ⟨rfl, h⟩ HX.out
          subst hy
          go_enter Tryz.func199, Tryz.ntmps199
          go_wp2
          go_ret2
          exact RetP.num HO.out rfl
        · have e1 : ((x.toNat : Int) == 115) = false := u8_ne (d := 115) hx1
          have e2 : ((x.toNat : Int) != 115) = true := by simp only [bne, e1]; rfl
          clear hx1
          go_enter Tryz.func199, Tryz.ntmps199
          go_wp2
          go_ret2
          exact RetP.num HO.out rfl
  · have HO := Lib.hid (speedS_no (l := l) (by
      unfold speedB
      split
      · rename_i x y r
        simp only [List.length_cons] at h25
        rw [show decide (r.length ≤ 3) = false by simp; omega]; simp
      · rfl))
    generalize speedS l = out at HO ⊢
    by_cases h2 : l.length < 2
    · go_enter Tryz.func199, Tryz.ntmps199
      go_wp2
      go_ret2
      exact RetP.num HO.out rfl
    · have h5 : 5 < l.length := by omega
      clear h25
      go_enter Tryz.func199, Tryz.ntmps199
      go_wp2
      all_goals try (exfalso; omega)
      go_ret2
      exact RetP.num HO.out rfl
set_option maxHeartbeats 4000000 in
theorem rparseDist_any (l : List UInt8) (w : World) (hl : l.length ≤ 4000000000) : Calls Tryz.prog 233 #[.string ⟨l.toArray⟩] w (RetQ w (intsVal (distP l))) := by
  have HE := Lib.hid (show distP l = distP3 (cutAt 43 l).1 (cutAt 43 l).2.1 (cutAt 43 l).2.2 from rfl)
  have HAT := Lib.hid (fun k h1 h2 h3 => cutAt_at 43 l k h1 h2 h3)
  have HNO := Lib.hid (fun h => cutAt_none 43 l h)
  have hl2 := cutAt_len 43 l
  generalize cutAt 43 l = q at HE HAT HNO hl2
  obtain ⟨miles, rest, two⟩ := q
  simp only at HE hl2
  obtain ⟨l2, l3⟩ := hl2
  generalize distP l = out at HE ⊢
  go_enter Tryz.func233, Tryz.ntmps233
  go_wp2
  go_loopw [4, 5, 6, 7] (fun a b m i wr => ∃ (k : Nat) (wh pt : List UInt8) (mo : Bool), k ≤ l.length ∧ i = .int .i64 k ∧ a = .string ⟨wh.toArray⟩ ∧ b = .string ⟨pt.toArray⟩ ∧ m = .bool mo ∧ (∃ n, wr = w.drewN n) ∧
      ((mo = false ∧ wh = l ∧ pt = [] ∧ (l.take k).all (· != 43) = true) ∨ (mo = true ∧ two = true ∧ wh = miles ∧ pt = rest)))
    (fun _ _ _ i _ => l.length - (intOf i).toNat)
  case atStart => exact ⟨0, l, [], false, by omega, rfl, rfl, rfl, rfl, ⟨0, rfl⟩, .inl ⟨rfl, rfl, rfl, by simp⟩⟩
  case round =>
    obtain ⟨k, wh, pt, mo, hk, rfl, rfl, rfl, rfl, ⟨nd, rfl⟩, hcase⟩ := hrel
    by_cases hlt : k < l.length
    · rcases hcase with ⟨rfl, rfl, rfl, ha⟩ | ⟨rfl, h2, rfl, rfl⟩
      · by_cases hc : wh[k] = 43
        · have e1 : ((wh[k].toNat : Int) == 43) = true := by rw [hc]; rfl
          have HC := Lib.hid (HAT.out k hlt ha hc)
          clear hc ha
          have q1 : IntKind.i64.wrap ((k : Int) + 1) = (k : Int) + 1 := IntWalk.i64_in _ (by omega)
          have q2 : 0 ≤ (k : Int) + 1 := by omega
          have q3 : ((k : Int) + 1).toNat = k + 1 := by omega
          go_upto_region 6 with (fail)
          go_quiet (fail)
          clear q1 q2 q3
          go_wp2
          go_roundw
          case rel =>
            refine ⟨k + 1, miles, rest, true, by omega, by go_num, ?_, ?_, rfl, ⟨_, rfl⟩, .inr ⟨rfl, ?_, rfl, rfl⟩⟩
            · have := HC.out; injection this with a1 a2; rw [a1]
            · have := HC.out; injection this with a1 a2; injection a2 with a2 a3; rw [a2]
            · have := HC.out; injection this with a1 a2; injection a2 with a2 a3
          case measure => simp [intOf]; omega
        · have e1 : ((wh[k].toNat : Int) == 43) = false := u8_ne (d := 43) hc
          have HA := Lib.hid (take_all_succ (· != 43) wh k hlt ha (by simpa using hc))
          clear hc ha
          go_wp2
          go_roundw
          case rel => exact ⟨k + 1, _, _, false, by omega, by go_num, rfl, rfl, rfl, ⟨nd, rfl⟩, .inl ⟨rfl, rfl, rfl, HA.out⟩⟩
          case measure => simp [intOf]; omega
      · have H2 := Lib.hid h2; clear h2
        by_cases hc : l[k] = 43
        · have e1 : ((l[k].toNat : Int) == 43) = true := by rw [hc]; rfl
          clear hc
          go_wp2
          go_roundw
          case rel => exact ⟨k + 1, _, _, true, by omega, by go_num, rfl, rfl, rfl, ⟨nd, rfl⟩, .inr ⟨rfl, H2.out, rfl, rfl⟩⟩
          case measure => simp [intOf]; omega
        · have e1 : ((l[k].toNat : Int) == 43) = false := u8_ne (d := 43) hc
          clear hc
          go_wp2
          go_roundw
          case rel => exact ⟨k + 1, _, _, true, by omega, by go_num, rfl, rfl, rfl, ⟨nd, rfl⟩, .inr ⟨rfl, H2.out, rfl, rfl⟩⟩
          case measure => simp [intOf]; omega
    · have hfin : wh = miles ∧ pt = rest ∧ mo = two := by
        rcases hcase with ⟨rfl, rfl, rfl, ha⟩ | ⟨rfl, h2, rfl, rfl⟩
        · rw [List.take_of_length_le (by omega)] at ha
          have := HNO.out ha
          injection this with a1 a2
          injection a2 with a2 a3
          exact ⟨a1.symm, a2.symm, a3.symm⟩
        · exact ⟨rfl, rfl, h2.symm⟩
      clear hcase HAT HNO
      obtain ⟨rfl, rfl, rfl⟩ := hfin
      generalize hW : w.drewN nd = W
      have HW := Lib.hid hW; clear hW
      have HX : Hid (∀ a b : Int, out = (a, b) → RetQ w (intsVal out) (.returned (.tuple #[.int .i64 a, .int .i64 b])) W) := Lib.hid (fun a b h => ⟨by rw [h], nd, HW.out.symm⟩)
      clear HW
      cases hp : plainB wh
      · have HO := Lib.hid (HE.out.trans (distP3_bad1 hp))
        have k1 := Lib.hid (rplain_any wh W (by omega))
        rw [hp] at k1
        clear hp HE
        go_wp2_with fail
        with_reducible refine callP k1.out ?_
        go_wp2
        go_ret2
        exact HX.out _ _ HO.out
      · have HP := Lib.hid hp
        have k1 := Lib.hid (rplain_any wh W (by omega))
        have k3 := Lib.hid (rvalue8_any wh W (by omega) (plainB_all hp))
        rw [hp] at k1
        clear hp
        have HL := Lib.hid (fun h8 : val wh ≤ 8000000 => show wh.length ≤ 7 from by have h := dec_val wh HP.out; have := dec_len (u := val wh) (k := 7) (by decide) (by omega); rwa [h] at this)
        cases mo
        · have HO := Lib.hid (HE.out.trans (distP3_one HP.out))
          clear HE
          by_cases h8 : val wh ≤ 8000000
          · have HV := Lib.hid (show valS wh = ((val wh : Int), true) from by unfold valS; rw [if_pos (by omega)])
            rw [HV.out] at k3
            have hl7 := HL.out h8
            generalize hvv : val wh = v at h8 k3 HO
            clear hvv HV HL
            go_wp2_with fail
            with_reducible refine callP k1.out ?_
            go_wp2_with fail
            with_reducible refine callP k3.out ?_
            go_wp2
            all_goals (go_ret2; refine HX.out _ _ ?_; rw [HO.out]; (repeat' split) <;> first | rfl | (exfalso; omega) | (refine Prod.ext ?_ rfl; simp))
          · have HO2 := Lib.hid (show out = (0, 2) from by rw [HO.out]; split; rfl; rw [if_pos (by omega)])
            by_cases hv : val wh ≤ 4611686018427387904
            · have HV := Lib.hid (show valS wh = ((val wh : Int), true) from by unfold valS; rw [if_pos (by omega)])
              rw [HV.out] at k3
              generalize hvv : val wh = v at h8 k3 hv
              clear hvv HV HL HO
              go_wp2_with fail
              with_reducible refine callP k1.out ?_
              go_wp2_with fail
              with_reducible refine callP k3.out ?_
              go_wp2
              all_goals (go_ret2; exact HX.out _ _ HO2.out)
            · have HV := Lib.hid (show valS wh = (0, false) from by unfold valS; rw [if_neg (by omega)])
              rw [HV.out] at k3
              clear HV HL HO h8 hv
              go_wp2_with fail
              with_reducible refine callP k1.out ?_
              go_wp2_with fail
              with_reducible refine callP k3.out ?_
              go_wp2
              all_goals (go_ret2; exact HX.out _ _ HO2.out)
        · cases hr : restOk pt
          · have HO := Lib.hid (HE.out.trans (distP3_bad2 hr))
            have k2 := Lib.hid (rplain_any pt W (by omega))
            clear HE HL k3
            cases h1 : plainB pt
            · rw [h1] at k2
              clear hr h1
              go_wp2_with fail
              with_reducible refine callP k1.out ?_
              go_wp2_with fail
              with_reducible refine callP k2.out ?_
              go_wp2
              go_ret2
              exact HX.out _ _ HO.out
            · rw [h1] at k2
              by_cases h2 : pt = [48]
              · subst h2
                clear hr h1
                go_wp2_with fail
                with_reducible refine callP k1.out ?_
                go_wp2_with fail
                with_reducible refine callP k2.out ?_
                go_wp2
                go_ret2
                exact HX.out _ _ HO.out
              · have h4 : 4 < pt.length := by
                  unfold restOk at hr
                  rw [h1] at hr
                  have h3 : (pt == [48]) = false := by simpa using h2
                  rw [h3] at hr
                  simp at hr
                  omega
                have H2 := Lib.hid h2
                clear hr h1 
                go_wp2_with fail
                with_reducible refine callP k1.out ?_
                go_wp2_with fail
                with_reducible refine callP k2.out ?_
                go_wp2
                go_ret2
                exact HX.out _ _ HO.out
          · have HO := Lib.hid (HE.out.trans (distP3_two HP.out hr))
            have hr2 : plainB pt = true ∧ ¬ pt = [48] ∧ pt.length ≤ 4 := by
              unfold restOk at hr
              simp only [Bool.and_eq_true, Bool.not_eq_true', beq_eq_false_iff_ne, decide_eq_true_eq, ne_eq] at hr
              exact ⟨hr.1.1, hr.1.2, hr.2⟩
            obtain ⟨r1, r2, r3⟩ := hr2
            have k2 := Lib.hid (rplain_any pt W (by omega))
            rw [r1] at k2
            have k4 := Lib.hid (rvalue8_any pt W (by omega) (plainB_all r1))
            have hv4 : val pt < 10000 := by
              have h1 := val_lt pt (plainB_all r1)
              have h2 : 10 ^ pt.length ≤ 10 ^ 4 := Nat.pow_le_pow_right (by decide) r3
              omega
            have HV4 := Lib.hid (show valS pt = ((val pt : Int), true) from by unfold valS; rw [if_pos (by omega)])
            rw [HV4.out] at k4
            have e48 : (pt == [48]) = false := by simpa using r2
            have H2 := Lib.hid r2
            clear HE hr HV4 r1 r2
            generalize hpp : val pt = u at hv4 k4 HO
            clear hpp
            by_cases h8 : val wh ≤ 8000000
            · have HV := Lib.hid (show valS wh = ((val wh : Int), true) from by unfold valS; rw [if_pos (by omega)])
              rw [HV.out] at k3
              have hl7 := HL.out h8
              generalize hvv : val wh = v at h8 k3 HO
              clear hvv HV HL
              go_wp2_with (first | (with_reducible refine callP k1.out ?_) | (with_reducible refine callP k2.out ?_) | (with_reducible refine callP k4.out ?_) | (with_reducible refine callP k3.out ?_))
              all_goals (go_ret2; refine HX.out _ _ ?_; rw [HO.out]; (repeat' split) <;> first | rfl | (exfalso; omega) | (refine Prod.ext ?_ rfl; simp))
            · have HO2 := Lib.hid (show out = (0, 4) ∨ ¬ 6000 ≤ u ∧ out = (0, 2) from by
                rw [HO.out]
                by_cases h : 6000 ≤ u
                · left; rw [if_pos h]
                · right; refine ⟨h, ?_⟩; rw [if_neg h]; split; rfl; rw [if_pos (by omega)])
              have HO3 := Lib.hid (show 6000 ≤ u → out = (0, 4) from fun h => by rw [HO.out, if_pos h])
              have HO4 := Lib.hid (show ¬ 6000 ≤ u → out = (0, 2) from fun h => by rw [HO.out, if_neg h]; split; rfl; rw [if_pos (by omega)])
              by_cases hv : val wh ≤ 4611686018427387904
              · have HV := Lib.hid (show valS wh = ((val wh : Int), true) from by unfold valS; rw [if_pos (by omega)])
                rw [HV.out] at k3
                generalize hvv : val wh = v at h8 k3 hv
                clear hvv HV HL HO HO2
                go_wp2_with (first | (with_reducible refine callP k1.out ?_) | (with_reducible refine callP k2.out ?_) | (with_reducible refine callP k4.out ?_) | (with_reducible refine callP k3.out ?_))
                all_goals (go_ret2; refine HX.out _ _ ?_; rcases Nat.lt_or_ge u 6000 with h6 | h6 <;> first | exact HO4.out (Nat.not_le.2 h6) | exact HO3.out h6 | (exfalso; omega))
              · have HV := Lib.hid (show valS wh = (0, false) from by unfold valS; rw [if_neg (by omega)])
                rw [HV.out] at k3
                clear HV HL HO HO2 h8 hv
                go_wp2_with (first | (with_reducible refine callP k1.out ?_) | (with_reducible refine callP k2.out ?_) | (with_reducible refine callP k4.out ?_) | (with_reducible refine callP k3.out ?_))
                all_goals (go_ret2; refine HX.out _ _ ?_; rcases Nat.lt_or_ge u 6000 with h6 | h6 <;> first | exact HO4.out (Nat.not_le.2 h6) | exact HO3.out h6 | (exfalso; omega))
theorem distP_err {s : List UInt8} (h : (distP s).2 ≠ 0) : (distP s).1 = 0 := by
  unfold distP distP3 at h ⊢
  revert h
  repeat' split
  all_goals simp
set_option maxHeartbeats 4000000 in
theorem rdistance_any (c : UInt8) (l : List UInt8) (w : World) (hl : l.length ≤ 4000000000) : Calls Tryz.prog 197 #[.string ⟨l.toArray⟩, .int .u8 (c.toNat : Int)] w (RetQ w (numVal (legDistS c l))) := by
  match l, hl with
  | [], hl =>
    have HO := Lib.hid (show legDistS c [] = (0, false) from rfl)
    generalize legDistS c [] = out at HO ⊢
    go_enter Tryz.func197, Tryz.ntmps197
    go_wp2
    go_ret2
    exact RetQ.num HO.out ⟨0, rfl⟩
  | [x], hl =>
    have HO := Lib.hid (show legDistS c [x] = (0, false) from by
      unfold legDistS
      simp only
      rw [if_neg]
      rintro ⟨_, h, _⟩
      revert h; decide)
    generalize legDistS c [x] = out at HO ⊢
    go_enter Tryz.func197, Tryz.ntmps197
    go_wp2
    go_ret2
    exact RetQ.num HO.out ⟨0, rfl⟩
  | x :: y :: r, hl =>
    by_cases hx : x = c
    · subst hx
      have k1 := Lib.hid (fun W => rparseDist_any (y :: r) W (by simp at hl ⊢; omega))
      have HE := Lib.hid (show legDistS x (x :: y :: r) = if (distP (y :: r)).2 = 0 ∧ (distP (y :: r)).1 ≠ 0 then ((distP (y :: r)).1, distS (distP (y :: r)).1.toNat == y :: r) else (0, false) from by unfold legDistS; simp)
      have HB := Lib.hid (fun h => distS_distP (s := y :: r) h)
      have HZ := Lib.hid (fun h => distP_err (s := y :: r) h)
      have hl2 : (y :: r).length ≤ 4000000000 := by simp at hl ⊢; omega
      generalize legDistS x (x :: y :: r) = out at HE ⊢
      generalize hdp : distP (y :: r) = q at k1 HE HB HZ
      obtain ⟨d, e⟩ := q
      simp only at HE HB HZ
      clear hdp
      by_cases he : e = 0
      · subst he
        have hd := HB.out rfl
        have hd1 := hd.1
        have hd2 := hd.2
        have k2 := Lib.hid (fun W => rdist16_any d W hd1 hd2)
        clear hd
        by_cases h0 : d = 0
        · subst h0
          have HO := Lib.hid (show out = (0, false) from by rw [HE.out]; simp)
          clear HE k2
          go_enter Tryz.func197, Tryz.ntmps197
          go_wp2_with fail
          with_reducible refine callQ (k1.out _) ?_
          intro n1
          go_upto_region 4 with (fail)
          go_quiet (fail)
          go_wp2
          go_ret2
          exact RetQ.num HO.out ⟨_, by rw [World.drewN_drewN]⟩
        · have HO := Lib.hid (show out = (d, distS d.toNat == y :: r) from by rw [HE.out, if_pos ⟨rfl, h0⟩])
          clear HE
          have e3 : (d != 0) = true := by simpa using h0
          have e4 : (d == 0) = false := by simpa using h0
          clear h0
          generalize distS d.toNat = D at k2 HO
          go_enter Tryz.func197, Tryz.ntmps197
          go_wp2_with fail
          with_reducible refine callQ (k1.out _) ?_
          intro n1
          go_upto_region 4 with (fail)
          go_quiet ((go_at_call 151; exact quietP' (k2.out _)))
          go_wp2
          go_ret2
          exact RetQ.num (by rw [HO.out]) ⟨_, by rw [World.drewN_drewN]⟩
      · have HO := Lib.hid (show out = (0, false) from by rw [HE.out, if_neg (fun h => he h.1)])
        have hd0 : d = 0 := HZ.out he
        subst hd0
        have hd0 : (0 : Int) = 0 := rfl
        have e3 : (e == 0) = false := by simpa using he
        clear HE HB HZ he
        go_enter Tryz.func197, Tryz.ntmps197
        go_wp2_with fail
        with_reducible refine callQ (k1.out _) ?_
        intro n1
        go_upto_region 4 with (fail)
        go_quiet (fail)
        go_wp2
        go_ret2
        exact RetQ.num (by rw [HO.out]) ⟨_, by rw [World.drewN_drewN]⟩
    · have HO := Lib.hid (show legDistS c (x :: y :: r) = (0, false) from by unfold legDistS; simp [hx])
      have e1 : ((x.toNat : Int) == (c.toNat : Int)) = false := u8_ne hx
      have e2 : ((x.toNat : Int) != (c.toNat : Int)) = true := by simp only [bne, e1]; rfl
      clear hx
      generalize legDistS c (x :: y :: r) = out at HO ⊢
      go_enter Tryz.func197, Tryz.ntmps197
      go_wp2
      go_ret2
      exact RetQ.num HO.out ⟨0, rfl⟩
end Go.Proofs.YtjgondadpjildaaGreatDoor
namespace Go.Proofs.YtjgondadpjildaaGreatDoor
open Go.RowKit Go.Sort
set_option linter.unusedVariables false
set_option linter.unusedSimpArgs false
def pointP (t : List UInt8) : Bool := decide (3 < t.length) && (t[t.length - 3]? == some 46)
def whS (t : List UInt8) : List UInt8 := if pointP t then t.take (t.length - 3) else t
def ptS (t : List UInt8) : List UInt8 := if pointP t then t.drop (t.length - 2) else [48, 48]
def badP (t : List UInt8) : Bool := pointP t && !hundB (ptS t)
def raltN (neg : Bool) (n : Int) : Int × Bool × Bool := (if neg then -n else n, true, decide (-200000 ≤ (if neg then -n else n)) && decide ((if neg then -n else n) ≤ 6000000))
def raltT (neg : Bool) (t : List UInt8) : Int × Bool × Bool :=
  if badP t then (0, false, false)
  else if !plainB (whS t) || (neg && (whS t == [48] && ptS t == [48, 48])) then (0, false, false)
  else if 1125899906842624 < val (whS t) then (0, true, false)
  else raltN neg (100 * (val (whS t) : Int) + (val (ptS t) : Int))
def raltP (s : List UInt8) : Int × Bool × Bool := raltT (cutPre 45 s).2 (cutPre 45 s).1
theorem hund_two {p : List UInt8} (h : hundB p = true) : ∃ a b, p = [a, b] ∧ isD a = true ∧ isD b = true ∧ ¬ (a = 48 ∧ b = 48) := by
  unfold hundB at h
  split at h
  · rename_i a b
    simp only [Bool.and_eq_true, Bool.not_eq_true', Bool.and_eq_false_iff, beq_eq_false_iff_ne] at h
    refine ⟨a, b, rfl, h.1.1, h.1.2, ?_⟩
    rintro ⟨h1, h2⟩
    rcases h.2 with h3 | h3
    · exact h3 h1
    · exact h3 h2
  · cases h
theorem no_point {l : List UInt8} (h : l.all isD = true) : (46 : UInt8) ∉ l := fun hm => by
  have := (List.all_eq_true.1 h) 46 hm
  exact absurd this (by decide)
/-- A text with a point ahead of its last two bytes, and no point ahead of that: so it is cut. -/
theorem point_cut {t : List UInt8} (hp : pointP t = true) (hw : (46 : UInt8) ∉ whS t) : cutAt 46 t = (whS t, ptS t, true) := by
  unfold pointP at hp
  simp only [Bool.and_eq_true, decide_eq_true_eq, beq_iff_eq] at hp
  have hpt : pointP t = true := by unfold pointP; simp [hp.1, hp.2]
  unfold whS ptS at *
  rw [if_pos hpt] at hw ⊢
  rw [if_pos hpt]
  have hlt : t.length - 3 < t.length := by omega
  have hk : t[t.length - 3] = 46 := by
    have := hp.2
    rw [List.getElem?_eq_getElem hlt] at this
    simpa using this
  have := cutAt_at 46 t (t.length - 3) hlt (by
    rw [List.all_eq_true]; intro x hx
    simp only [bne_iff_ne, ne_eq]
    rintro rfl; exact hw hx) hk
  rw [this, show t.length - 3 + 1 = t.length - 2 by omega]
theorem cut_point {t f p : List UInt8} (h : cutAt 46 t = (f, p, true)) (hp : p.length = 2) (hf : f ≠ []) : pointP t = true ∧ whS t = f ∧ ptS t = p := by
  have h1 : t = f ++ 46 :: p := by have := cutAt_parts 46 t (by rw [h]); rw [h] at this; exact this
  have hl : 0 < f.length := List.length_pos_iff.2 hf
  have e3 : t.length = f.length + 3 := by rw [h1]; simp; omega
  have hpt : pointP t = true := by
    unfold pointP
    rw [e3]
    simp only [Nat.add_sub_cancel, Bool.and_eq_true, decide_eq_true_eq, beq_iff_eq]
    refine ⟨by omega, ?_⟩
    rw [h1, List.getElem?_append_right (Nat.le_refl _), Nat.sub_self]; rfl
  refine ⟨hpt, ?_, ?_⟩
  · unfold whS
    rw [if_pos hpt, e3, Nat.add_sub_cancel, h1, List.take_left]
  · unfold ptS
    rw [if_pos hpt, e3, show f.length + 3 - 2 = f.length + 1 by omega, h1, show f.length + 1 = (f ++ [46]).length by simp, show f ++ 46 :: p = (f ++ [46]) ++ p by simp, List.drop_left]
theorem plain_val_big {f : List UInt8} (hp : plainB f = true) (h : 10 ≤ f.length) : 1000000000 ≤ val f := by
  rcases Nat.lt_or_ge (val f) 1000000000 with h1 | h1
  · have h2 := dec_len (u := val f) (k := 9) (by decide) h1
    rw [dec_val f hp] at h2
    omega
  · exact h1
theorem plain_zero {f : List UInt8} (hp : plainB f = true) (h : val f = 0) : f = [48] := by
  have := dec_val f hp
  rw [h] at this
  rw [← this, dec_small (by decide)]; rfl
theorem val_twoP {a b : UInt8} (ha : isD a = true) (hb : isD b = true) : val [a, b] ≤ 99 ∧ (¬ (a = 48 ∧ b = 48) → 0 < val [a, b]) := by
  have h1 : 48 ≤ a.toNat ∧ a.toNat ≤ 57 := by simpa [isD] using ha
  have h2 : 48 ≤ b.toNat ∧ b.toNat ≤ 57 := by simpa [isD] using hb
  have e : val [a, b] = 10 * (a.toNat - 48) + (b.toNat - 48) := by simp [val, numV_cons, numV_nil]
  refine ⟨by omega, fun hn => ?_⟩
  rcases Nat.eq_zero_or_pos (val [a, b]) with h0 | h0
  · exfalso
    apply hn
    constructor
    · apply UInt8.toNat_inj.1; show a.toNat = 48; omega
    · apply UInt8.toNat_inj.1; show b.toNat = 48; omega
  · exact h0
/-- Form and range are those of the program's reading; so is the number. -/
theorem ralt_altP (s : List UInt8) : ((raltP s).2.1 && (raltP s).2.2) = ((altP s).2 && rangedB (altP s).1) ∧ (((altP s).2 && rangedB (altP s).1) = true → (raltP s).1 = (altP s).1) := by
  unfold raltP altP
  generalize (cutPre 45 s).2 = neg
  generalize (cutPre 45 s).1 = t
  obtain ⟨f, p, b, hc⟩ : ∃ f p b, cutAt 46 t = (f, p, b) := ⟨_, _, _, rfl⟩
  rw [hc]
  simp only
  have hcases : (pointP t = true ∧ (46 : UInt8) ∉ whS t ∧ f = whS t ∧ p = ptS t ∧ b = true) ∨ (pointP t = true ∧ (46 : UInt8) ∈ whS t) ∨ (pointP t = false ∧ b = false ∧ f = t) ∨ (pointP t = false ∧ b = true) := by
    cases hp : pointP t
    · cases b
      · right; right; left
        have := cutAt_miss 46 t (by rw [hc])
        rw [hc] at this
        exact ⟨rfl, rfl, this.1⟩
      · right; right; right; exact ⟨rfl, rfl⟩
    · by_cases hm : (46 : UInt8) ∈ whS t
      · right; left; exact ⟨rfl, hm⟩
      · left
        have := point_cut hp hm
        rw [hc] at this
        injection this with a1 a2
        injection a2 with a2 a3
        exact ⟨rfl, hm, a1, a2, a3⟩
  have fail1 : ∀ {x : Int × Bool × Bool}, x = (0, false, false) → (x.2.1 && x.2.2) = false := by rintro x rfl; rfl
  rcases hcases with ⟨hp, hm, rfl, rfl, rfl⟩ | ⟨hp, hm⟩ | ⟨hp, rfl, rfl⟩ | ⟨hp, rfl⟩
  · -- a point, and plain ahead of it or not
    unfold raltT altP3 badP
    rw [hp]
    cases hh : hundB (ptS t)
    · simp
    · obtain ⟨a, c, e, ha, hcc, hn⟩ := hund_two hh
      have hv := val_twoP ha hcc
      rw [← e] at hv
      have hv2 := hv.2 hn
      have hne : (ptS t == [48, 48]) = false := by rw [e, beq_eq_false_iff_ne]; intro h; injection h with h1 h2; injection h2 with h2 _; exact hn ⟨h1, h2⟩
      cases hpl : plainB (whS t)
      · simp
      · simp only [Bool.not_true, Bool.and_false, Bool.false_or, hne, if_true, Bool.false_eq_true, if_false, and_true, or_true, true_and]
        unfold feetV raltN rangedB
        by_cases h10 : (whS t).length < 10
        · have hb := val_lt _ (plainB_all hpl)
          have h2 : 10 ^ (whS t).length ≤ 10 ^ 9 := Nat.pow_le_pow_right (by decide) (by omega)
          rw [if_pos h10, if_neg (by omega)]
          cases neg
          · simp only [Bool.false_eq_true, if_false, Bool.true_and]
            exact ⟨by congr 2 <;> congr 1 <;> omega, fun _ => by omega⟩
          · simp only [if_true, Bool.true_and]
            have hne : decide ((val (whS t) : Int) * 100 + (val (ptS t) : Int) ≠ 0) = true := by simp; omega
            rw [hne, Bool.true_and]
            exact ⟨by congr 2 <;> congr 1 <;> omega, fun _ => by omega⟩
        · have hb := plain_val_big hpl (by omega)
          rw [if_neg h10]
          cases neg
          · simp only [Bool.false_eq_true, if_false, Bool.true_and]
            split
            · refine ⟨?_, fun h => ?_⟩
              · simp; omega
              · simp at h; omega
            · refine ⟨?_, fun h => ?_⟩
              · rw [Bool.eq_iff_iff]; simp; omega
              · simp at h; omega
          · simp only [if_true, Bool.true_and]
            split
            · refine ⟨?_, fun h => ?_⟩
              · rw [Bool.eq_iff_iff]; simp; omega
              · simp at h; omega
            · refine ⟨?_, fun h => ?_⟩
              · rw [Bool.eq_iff_iff]; simp; omega
              · simp at h; omega
  · -- a point in what stands ahead of the point
    have hnp : plainB (whS t) = false := by
      cases h : plainB (whS t)
      · rfl
      · exact absurd hm (no_point (plainB_all h))
    have h1 : raltT neg t = (0, false, false) := by
      unfold raltT
      rw [hnp]
      split
      · rfl
      · simp
    have h2 : (altP3 neg f p b).2 = false := by
      unfold altP3
      rw [if_neg]
      rintro ⟨hf, hb⟩
      cases b
      · have := cutAt_miss 46 t (by rw [hc])
        rw [hc] at this
        have hft : f = t := this.1
        rw [hft] at hf
        apply no_point (plainB_all hf)
        unfold whS at hm
        rw [if_pos hp] at hm
        exact List.mem_of_mem_take hm
      · rcases hb with hb | hb
        · cases hb
        · obtain ⟨a, c, e, _, _, _⟩ := hund_two hb
          have := cut_point hc (by rw [e]; rfl) (plainB_ne hf)
          rw [this.2.1] at hm
          exact no_point (plainB_all hf) hm
    rw [h1, h2]
    exact ⟨rfl, fun h => by cases h⟩
  · -- no point at all
    have hw : whS f = f := by unfold whS; rw [hp]; rfl
    have hpt : ptS f = [48, 48] := by unfold ptS; rw [hp]; rfl
    have hbp : badP f = false := by unfold badP; rw [hp]; rfl
    unfold raltT altP3
    rw [hw, hpt, hbp]
    have hv0 : val [48, 48] = 0 := by decide
    rw [hv0]
    cases hpl : plainB f
    · simp
    · simp only [Bool.not_true, Bool.false_eq_true, if_false, Bool.false_or, if_true, and_self, true_or, true_and, Int.add_zero, beq_self_eq_true, Bool.and_true, Int.natCast_zero]
      cases hz : (neg && f == [48])
      · simp only [Bool.false_eq_true, if_false]
        unfold feetV raltN rangedB
        have hnz : neg = true → val f ≠ 0 := fun hn h => by
          rw [hn, plain_zero hpl h] at hz; simp at hz
        by_cases h10 : f.length < 10
        · have hb := val_lt _ (plainB_all hpl)
          have h2 : 10 ^ f.length ≤ 10 ^ 9 := Nat.pow_le_pow_right (by decide) (by omega)
          rw [if_pos h10, if_neg (by omega)]
          cases neg
          · simp only [Bool.false_eq_true, if_false, Bool.true_and]
            exact ⟨by congr 2 <;> congr 1 <;> omega, fun _ => by omega⟩
          · simp only [if_true, Bool.true_and]
            have hnz := hnz rfl
            have hne : decide ((val f : Int) * 100 ≠ 0) = true := by simp; omega
            rw [hne, Bool.true_and]
            exact ⟨by congr 2 <;> congr 1 <;> omega, fun _ => by omega⟩
        · have hb := plain_val_big hpl (by omega)
          rw [if_neg h10]
          cases neg
          · simp only [Bool.false_eq_true, if_false, Bool.true_and]
            split
            · refine ⟨?_, fun h => ?_⟩
              · rw [Bool.eq_iff_iff]; simp
              · simp at h
            · refine ⟨?_, fun h => ?_⟩
              · rw [Bool.eq_iff_iff]; simp; omega
              · simp at h
          · simp only [if_true, Bool.true_and]
            split
            · refine ⟨?_, fun h => ?_⟩
              · rw [Bool.eq_iff_iff]; simp
              · simp at h
            · refine ⟨?_, fun h => ?_⟩
              · rw [Bool.eq_iff_iff]; simp; omega
              · simp at h
      · simp only [if_true]
        simp only [Bool.and_eq_true, beq_iff_eq] at hz
        obtain ⟨rfl, rfl⟩ := hz
        decide
  · -- a point, but not ahead of two bytes
    have hb2 : (altP3 neg f p true).2 = false := by
      unfold altP3
      rw [if_neg]
      rintro ⟨hf, hb⟩
      rcases hb with hb | hb
      · cases hb
      · obtain ⟨a, c, e, _, _, _⟩ := hund_two hb
        have := cut_point hc (by rw [e]; rfl) (plainB_ne hf)
        rw [this.1] at hp; cases hp
    have h1 : raltT neg t = (0, false, false) := by
      have hm : (46 : UInt8) ∈ t := by
        have := cutAt_parts 46 t (by rw [hc])
        rw [this]; simp
      have hnp : plainB t = false := by
        cases h : plainB t
        · rfl
        · exact absurd hm (no_point (plainB_all h))
      unfold raltT badP whS
      rw [hp]
      simp [hnp]
    rw [h1, hb2]
    exact ⟨rfl, fun h => by cases h⟩
end Go.Proofs.YtjgondadpjildaaGreatDoor
