/- The reference's readers of words: kind, isRef, speed, ParseDist, distance: the same as the program's. The reference's altForm: form, number and range of an altitude's text. Printed by wip/mkrp2.py. The reference's ParseWindow: the same windows as the program's. Printed by wip/mkrp3.py. -/
import Derived.Test.YtnmpfmelaninbaaGreatDoorPk42
import Derived.Test.YtnmpfmelaninbaaGreatDoorPk12
import Derived.Test.YtnmpfmelaninbaaGreatDoorPk13
namespace Go.Proofs.YtnmpfmelaninbaaGreatDoor
open Go.RowKit Go.Sort
set_option linter.unusedVariables false
set_option linter.unusedSimpArgs false
set_option maxRecDepth 100000
def kindS (s : List UInt8) : Int := typeK s 0 18
theorem RetQ.num {w w' : World} {n : Int} {b : Bool} {x : Int × Bool} (h : x = (n, b)) (hw : ∃ k, w' = w.drewN k) : RetQ w (numVal x) (.returned (.tuple #[.int .i64 n, .bool b])) w' := ⟨by rw [h], hw⟩
theorem kind_at {s : List UInt8} {k : Nat} (h1 : 1 ≤ k) (h2 : k ≤ 17) (h : nameOf (k : Int) = s) : kindS s = k := by
  unfold kindS
  rw [← h]
  exact type_fwd (by simp [knownB]; omega)
theorem kind_no {s : List UInt8} (h : ∀ j : Nat, 1 ≤ j → j < 18 → nameOf (j : Int) ≠ s) : kindS s = 0 := by
  unfold kindS
  rcases Int.decEq (typeK s 0 18) 0 with h2 | h2
  · obtain ⟨k1, k2⟩ := typeK_back s 18 (by omega) h2
    have k3 : 1 ≤ typeK s 0 18 ∧ typeK s 0 18 ≤ 17 := by simpa [knownB] using k1
    have := h (typeK s 0 18).toNat (by omega) (by omega)
    rw [show (((typeK s 0 18).toNat : Nat) : Int) = typeK s 0 18 by omega] at this
    exact absurd k2 this
  · exact h2
set_option maxHeartbeats 4000000 in
theorem rparseDist_any (l : List UInt8) (w : World) (hl : l.length ≤ 4000000000) : Calls Tryz.prog 53 #[.string ⟨l.toArray⟩] w (RetQ w (intsVal (distP l))) := by
  have HE := Lib.hid (show distP l = distP3 (cutAt 43 l).1 (cutAt 43 l).2.1 (cutAt 43 l).2.2 from rfl)
  have HAT := Lib.hid (fun k h1 h2 h3 => cutAt_at 43 l k h1 h2 h3)
  have HNO := Lib.hid (fun h => cutAt_none 43 l h)
  have hl2 := cutAt_len 43 l
  generalize cutAt 43 l = q at HE HAT HNO hl2
  obtain ⟨miles, rest, two⟩ := q
  simp only at HE hl2
  obtain ⟨l2, l3⟩ := hl2
  generalize distP l = out at HE ⊢
  go_enter Tryz.func53, Tryz.ntmps53
  go_wp2
  go_loopw [4, 5, 6, 7] (fun a b m i wr => ∃ (k : Nat) (wh pt : List UInt8) (mo : Bool), k ≤ l.length ∧ i = .int .i64 k ∧ a = .string ⟨wh.toArray⟩ ∧ b = .string ⟨pt.toArray⟩ ∧ m = .bool mo ∧ (∃ n, wr = w.drewN n) ∧
      ((mo = false ∧ wh = l ∧ pt = [] ∧ (l.take k).all (· != 43) = true) ∨ (mo = true ∧ two = true ∧ wh = miles ∧ pt = rest)))
    (fun _ _ _ i _ => l.length - (intOf i).toNat)
  case atStart => exact ⟨0, l, [], false, by omega, rfl, rfl, rfl, rfl, ⟨0, rfl⟩, .inl ⟨rfl, rfl, rfl, by simp⟩⟩
  case round =>
    obtain ⟨k, wh, pt, mo, hk, rfl, rfl, rfl, rfl, ⟨nd, rfl⟩, hcase⟩ := hrel
    by_cases hlt : k < l.length
    · rcases hcase with ⟨rfl, rfl, rfl, ha⟩ | ⟨rfl, h2, rfl, rfl⟩
      · by_cases hc : wh[k] = 43
        · have e1 : ((wh[k].toNat : Int) == 43) = true := by rw [hc]; rfl
          have HC := Lib.hid (HAT.out k hlt ha hc)
          clear hc ha
          have q1 : IntKind.i64.wrap ((k : Int) + 1) = (k : Int) + 1 := IntWalk.i64_in _ (by omega)
          have q2 : 0 ≤ (k : Int) + 1 := by omega
          have q3 : ((k : Int) + 1).toNat = k + 1 := by omega
          go_upto_region 6 with (fail)
          go_quiet (fail)
          clear q1 q2 q3
          go_wp2
          go_roundw
          case rel =>
            refine ⟨k + 1, miles, rest, true, by omega, by go_num, ?_, ?_, rfl, ⟨_, rfl⟩, .inr ⟨rfl, ?_, rfl, rfl⟩⟩
            · have := HC.out; injection this with a1 a2; rw [a1]
            · have := HC.out; injection this with a1 a2; injection a2 with a2 a3; rw [a2]
            · have := HC.out; injection this with a1 a2; injection a2 with a2 a3
          case measure => simp [intOf]; omega
        · have e1 : ((wh[k].toNat : Int) == 43) = false := u8_ne (d := 43) hc
          have HA := Lib.hid (take_all_succ (· != 43) wh k hlt ha (by simpa using hc))
          clear hc ha
          go_wp2
          go_roundw
          case rel => exact ⟨k + 1, _, _, false, by omega, by go_num, rfl, rfl, rfl, ⟨nd, rfl⟩, .inl ⟨rfl, rfl, rfl, HA.out⟩⟩
          case measure => simp [intOf]; omega
      · have H2 := Lib.hid h2; clear h2
        by_cases hc : l[k] = 43
        · have e1 : ((l[k].toNat : Int) == 43) = true := by rw [hc]; rfl
          clear hc
          go_wp2
          go_roundw
          case rel => exact ⟨k + 1, _, _, true, by omega, by go_num, rfl, rfl, rfl, ⟨nd, rfl⟩, .inr ⟨rfl, H2.out, rfl, rfl⟩⟩
          case measure => simp [intOf]; omega
        · have e1 : ((l[k].toNat : Int) == 43) = false := u8_ne (d := 43) hc
          clear hc
          go_wp2
          go_roundw
          case rel => exact ⟨k + 1, _, _, true, by omega, by go_num, rfl, rfl, rfl, ⟨nd, rfl⟩, .inr ⟨rfl, H2.out, rfl, rfl⟩⟩
          case measure => simp [intOf]; omega
    · have hfin : wh = miles ∧ pt = rest ∧ mo = two := by
        rcases hcase with ⟨rfl, rfl, rfl, ha⟩ | ⟨rfl, h2, rfl, rfl⟩
        · rw [List.take_of_length_le (by omega)] at ha
          have := HNO.out ha
          injection this with a1 a2
          injection a2 with a2 a3
          exact ⟨a1.symm, a2.symm, a3.symm⟩
        · exact ⟨rfl, rfl, h2.symm⟩
      clear hcase HAT HNO
      obtain ⟨rfl, rfl, rfl⟩ := hfin
      generalize hW : w.drewN nd = W
      have HW := Lib.hid hW; clear hW
      have HX : Hid (∀ a b : Int, out = (a, b) → RetQ w (intsVal out) (.returned (.tuple #[.int .i64 a, .int .i64 b])) W) := Lib.hid (fun a b h => ⟨by rw [h], nd, HW.out.symm⟩)
      clear HW
      cases hp : plainB wh
      · have HO := Lib.hid (HE.out.trans (distP3_bad1 hp))
        have k1 := Lib.hid (rplain_any wh W (by omega))
        rw [hp] at k1
        clear hp HE
        go_wp2_with fail
        with_reducible refine callP k1.out ?_
        go_wp2
        go_ret2
        exact HX.out _ _ HO.out
      · have HP := Lib.hid hp
        have k1 := Lib.hid (rplain_any wh W (by omega))
        have k3 := Lib.hid (rvalue8_any wh W (by omega) (plainB_all hp))
        rw [hp] at k1
        clear hp
        have HL := Lib.hid (fun h8 : val wh ≤ 8000000 => show wh.length ≤ 7 from by have h := dec_val wh HP.out; have := dec_len (u := val wh) (k := 7) (by decide) (by omega); rwa [h] at this)
        cases mo
        · have HO := Lib.hid (HE.out.trans (distP3_one HP.out))
          clear HE
          by_cases h8 : val wh ≤ 8000000
          · have HV := Lib.hid (show valS wh = ((val wh : Int), true) from by unfold valS; rw [if_pos (by omega)])
            rw [HV.out] at k3
            have hl7 := HL.out h8
            generalize hvv : val wh = v at h8 k3 HO
            clear hvv HV HL
            go_wp2_with fail
            with_reducible refine callP k1.out ?_
            go_wp2_with fail
            with_reducible refine callP k3.out ?_
            go_wp2
            all_goals (go_ret2; refine HX.out _ _ ?_; rw [HO.out]; (repeat' split) <;> first | rfl | (exfalso; omega) | (refine Prod.ext ?_ rfl; simp))
          · have HO2 := Lib.hid (show out = (0, 2) from by rw [HO.out]; split; rfl; rw [if_pos (by omega)])
            by_cases hv : val wh ≤ 4611686018427387904
            · have HV := Lib.hid (show valS wh = ((val wh : Int), true) from by unfold valS; rw [if_pos (by omega)])
              rw [HV.out] at k3
              generalize hvv : val wh = v at h8 k3 hv
              clear hvv HV HL HO
              go_wp2_with fail
              with_reducible refine callP k1.out ?_
              go_wp2_with fail
              with_reducible refine callP k3.out ?_
              go_wp2
              all_goals (go_ret2; exact HX.out _ _ HO2.out)
            · have HV := Lib.hid (show valS wh = (0, false) from by unfold valS; rw [if_neg (by omega)])
              rw [HV.out] at k3
              clear HV HL HO h8 hv
              go_wp2_with fail
              with_reducible refine callP k1.out ?_
              go_wp2_with fail
              with_reducible refine callP k3.out ?_
              go_wp2
              all_goals (go_ret2; exact HX.out _ _ HO2.out)
        · cases hr : restOk pt
          · have HO := Lib.hid (HE.out.trans (distP3_bad2 hr))
            have k2 := Lib.hid (rplain_any pt W (by omega))
            clear HE HL k3
            cases h1 : plainB pt
            · rw [h1] at k2
              clear hr h1
              go_wp2_with fail
              with_reducible refine callP k1.out ?_
              go_wp2_with fail
              with_reducible refine callP k2.out ?_
              go_wp2
              go_ret2
              exact HX.out _ _ HO.out
            · rw [h1] at k2
              by_cases h2 : pt = [48]
              · subst h2
                clear hr h1
                go_wp2_with fail
                with_reducible refine callP k1.out ?_
                go_wp2_with fail
                with_reducible refine callP k2.out ?_
                go_wp2
                go_ret2
                exact HX.out _ _ HO.out
              · have h4 : 4 < pt.length := by
                  unfold restOk at hr
                  rw [h1] at hr
                  have h3 : (pt == [48]) = false := by simpa using h2
                  rw [h3] at hr
                  simp at hr
                  omega
                have H2 := Lib.hid h2
                clear hr h1 
                go_wp2_with fail
                with_reducible refine callP k1.out ?_
                go_wp2_with fail
                with_reducible refine callP k2.out ?_
                go_wp2
                go_ret2
                exact HX.out _ _ HO.out
          · have HO := Lib.hid (HE.out.trans (distP3_two HP.out hr))
            have hr2 : plainB pt = true ∧ ¬ pt = [48] ∧ pt.length ≤ 4 := by
              unfold restOk at hr
              simp only [Bool.and_eq_true, Bool.not_eq_true', beq_eq_false_iff_ne, decide_eq_true_eq, ne_eq] at hr
              exact ⟨hr.1.1, hr.1.2, hr.2⟩
            obtain ⟨r1, r2, r3⟩ := hr2
            have k2 := Lib.hid (rplain_any pt W (by omega))
            rw [r1] at k2
            have k4 := Lib.hid (rvalue8_any pt W (by omega) (plainB_all r1))
            have hv4 : val pt < 10000 := by
              have h1 := val_lt pt (plainB_all r1)
              have h2 : 10 ^ pt.length ≤ 10 ^ 4 := Nat.pow_le_pow_right (by decide) r3
              omega
            have HV4 := Lib.hid (show valS pt = ((val pt : Int), true) from by unfold valS; rw [if_pos (by omega)])
            rw [HV4.out] at k4
            have e48 : (pt == [48]) = false := by simpa using r2
            have H2 := Lib.hid r2
            clear HE hr HV4 r1 r2
            generalize hpp : val pt = u at hv4 k4 HO
            clear hpp
            by_cases h8 : val wh ≤ 8000000
            · have HV := Lib.hid (show valS wh = ((val wh : Int), true) from by unfold valS; rw [if_pos (by omega)])
              rw [HV.out] at k3
              have hl7 := HL.out h8
              generalize hvv : val wh = v at h8 k3 HO
              clear hvv HV HL
              go_wp2_with (first | (with_reducible refine callP k1.out ?_) | (with_reducible refine callP k2.out ?_) | (with_reducible refine callP k4.out ?_) | (with_reducible refine callP k3.out ?_))
              all_goals (go_ret2; refine HX.out _ _ ?_; rw [HO.out]; (repeat' split) <;> first | rfl | (exfalso; omega) | (refine Prod.ext ?_ rfl; simp))
            · have HO2 := Lib.hid (show out = (0, 4) ∨ ¬ 6000 ≤ u ∧ out = (0, 2) from by
                rw [HO.out]
                by_cases h : 6000 ≤ u
                · left; rw [if_pos h]
                · right; refine ⟨h, ?_⟩; rw [if_neg h]; split; rfl; rw [if_pos (by omega)])
              have HO3 := Lib.hid (show 6000 ≤ u → out = (0, 4) from fun h => by rw [HO.out, if_pos h])
              have HO4 := Lib.hid (show ¬ 6000 ≤ u → out = (0, 2) from fun h => by rw [HO.out, if_neg h]; split; rfl; rw [if_pos (by omega)])
              by_cases hv : val wh ≤ 4611686018427387904
              · have HV := Lib.hid (show valS wh = ((val wh : Int), true) from by unfold valS; rw [if_pos (by omega)])
                rw [HV.out] at k3
                generalize hvv : val wh = v at h8 k3 hv
                clear hvv HV HL HO HO2
                go_wp2_with (first | (with_reducible refine callP k1.out ?_) | (with_reducible refine callP k2.out ?_) | (with_reducible refine callP k4.out ?_) | (with_reducible refine callP k3.out ?_))
                all_goals (go_ret2; refine HX.out _ _ ?_; rcases Nat.lt_or_ge u 6000 with h6 | h6 <;> first | exact HO4.out (Nat.not_le.2 h6) | exact HO3.out h6 | (exfalso; omega))
              · have HV := Lib.hid (show valS wh = (0, false) from by unfold valS; rw [if_neg (by omega)])
                rw [HV.out] at k3
                clear HV HL HO HO2 h8 hv
                go_wp2_with (first | (with_reducible refine callP k1.out ?_) | (with_reducible refine callP k2.out ?_) | (with_reducible refine callP k4.out ?_) | (with_reducible refine callP k3.out ?_))
                all_goals (go_ret2; refine HX.out _ _ ?_; rcases Nat.lt_or_ge u 6000 with h6 | h6 <;> first | exact HO4.out (Nat.not_le.2 h6) | exact HO3.out h6 | (exfalso; omega))
theorem distP_err {s : List UInt8} (h : (distP s).2 ≠ 0) : (distP s).1 = 0 := by
  unfold distP distP3 at h ⊢
  revert h
  repeat' split
  all_goals simp
end Go.Proofs.YtnmpfmelaninbaaGreatDoor
namespace Go.Proofs.YtnmpfmelaninbaaGreatDoor
open Go.RowKit Go.Sort
set_option linter.unusedVariables false
set_option linter.unusedSimpArgs false
set_option maxRecDepth 100000
abbrev ralVal (x : Int × Bool × Bool) : Value := .tuple #[.int .i64 x.1, .bool x.2.1, .bool x.2.2]
theorem RetQ.ral {w w' : World} {n : Int} {a b : Bool} {x : Int × Bool × Bool} (h : x = (n, a, b)) (hw : ∃ k, w' = w.drewN k) : RetQ w (ralVal x) (.returned (.tuple #[.int .i64 n, .bool a, .bool b])) w' := ⟨by rw [h], hw⟩
theorem cutPre_cases {c : UInt8} {s t : List UInt8} {b : Bool} (h : cutPre c s = (t, b)) : (b = false ∧ t = s ∧ ∀ r, s ≠ c :: r) ∨ (b = true ∧ s = c :: t) := by
  unfold cutPre at h
  split at h
  · rename_i x r
    by_cases hx : x = c
    · rw [if_pos hx] at h
      injection h with h1 h2
      right; exact ⟨h2.symm, by rw [h1, hx]⟩
    · rw [if_neg hx] at h
      injection h with h1 h2
      left; exact ⟨h2.symm, h1.symm, fun q e => by injection e with e1 e2; exact hx e1⟩
  · injection h with h1 h2
    left; exact ⟨h2.symm, h1.symm, fun q e => by cases e⟩
theorem pointP_short {t : List UInt8} (h : ¬ 3 < t.length) : pointP t = false := by unfold pointP; simp [h]
theorem pointP_long {t : List UInt8} (h : 3 < t.length) : pointP t = (t[t.length - 3] == 46) := by
  unfold pointP
  rw [List.getElem?_eq_getElem (by omega)]
  simp [h]
theorem two_last {t : List UInt8} (h : 3 < t.length) : ∃ a b, t.drop (t.length - 2) = [a, b] := by
  have hl : (t.drop (t.length - 2)).length = 2 := by simp; omega
  match t.drop (t.length - 2), hl with
  | [a, b], _ => exact ⟨a, b, rfl⟩
theorem val_pair {a b : UInt8} (ha : isD a = true) (hb : isD b = true) : (val [a, b] : Int) = 10 * ((a.toNat : Int) - 48) + ((b.toNat : Int) - 48) := by
  have h1 : 48 ≤ a.toNat ∧ a.toNat ≤ 57 := by simpa [isD] using ha
  have h2 : 48 ≤ b.toNat ∧ b.toNat ≤ 57 := by simpa [isD] using hb
  have e : val [a, b] = 10 * (a.toNat - 48) + (b.toNat - 48) := by simp [val, numV_cons, numV_nil]
  rw [e]; omega
def raltW (neg : Bool) (wh pt : List UInt8) : Int × Bool × Bool :=
  if !plainB wh || (neg && (wh == [48] && pt == [48, 48])) then (0, false, false)
  else if 1125899906842624 < val wh then (0, true, false)
  else raltN neg (100 * (val wh : Int) + (val pt : Int))
theorem raltT_none (neg : Bool) {t : List UInt8} (h : pointP t = false) : raltT neg t = raltW neg t [48, 48] := by unfold raltT raltW badP whS ptS; rw [h]; rfl
theorem raltT_bad (neg : Bool) {t : List UInt8} (h : pointP t = true) (hh : hundB (t.drop (t.length - 2)) = false) : raltT neg t = (0, false, false) := by
  unfold raltT badP ptS; rw [h]; simp [hh]
theorem raltT_point (neg : Bool) {t : List UInt8} (h : pointP t = true) (hh : hundB (t.drop (t.length - 2)) = true) : raltT neg t = raltW neg (t.take (t.length - 3)) (t.drop (t.length - 2)) := by
  unfold raltT raltW badP whS ptS; rw [h]; simp [hh]
theorem raltW_unplain {neg : Bool} {wh pt : List UInt8} (h : plainB wh = false) : raltW neg wh pt = (0, false, false) := by unfold raltW; rw [h]; rfl
theorem raltW_zero {wh pt : List UInt8} (h1 : wh = [48]) (h2 : pt = [48, 48]) : raltW true wh pt = (0, false, false) := by subst h1; subst h2; rfl
theorem raltW_big {neg : Bool} {wh pt : List UInt8} (h : plainB wh = true) (hz : (neg && (wh == [48] && pt == [48, 48])) = false) (hb : 1125899906842624 < val wh) : raltW neg wh pt = (0, true, false) := by unfold raltW; rw [h, hz, if_neg (by simp), if_pos hb]
theorem raltW_num {neg : Bool} {wh pt : List UInt8} (h : plainB wh = true) (hz : (neg && (wh == [48] && pt == [48, 48])) = false) (hb : ¬ 1125899906842624 < val wh) : raltW neg wh pt = raltN neg (100 * (val wh : Int) + (val pt : Int)) := by unfold raltW; rw [h, hz, if_neg (by simp), if_neg hb]
set_option maxHeartbeats 16000000 in
theorem raltForm_any (s : List UInt8) (w : World) (hl : s.length ≤ 4000000000) : Calls Tryz.prog 107 #[.string ⟨s.toArray⟩] w (RetQ w (ralVal (raltP s))) := by
  obtain ⟨t, neg, hc⟩ : ∃ t neg, cutPre 45 s = (t, neg) := ⟨_, _, rfl⟩
  have HE := Lib.hid (show raltP s = raltT neg t by unfold raltP; rw [hc])
  generalize raltP s = out at HE ⊢
  rcases cutPre_cases hc with ⟨rfl, rfl, hno⟩ | ⟨rfl, rfl⟩
  · skip
    have hl2 := hl
    clear hc
    go_enter Tryz.func107, Tryz.ntmps107
    go_upto_region 1 with (fail)
    go_cut [5] (fun v wx => v = .bool false ∧ w = wx)
    case first =>
      rcases t with _ | ⟨x, r⟩
      · go_wp2
        all_goals (go_meet; exact ⟨rfl, rfl⟩)
      · have hx : ((x.toNat : Int) == 45) = false := u8_ne (d := 45) (fun e => hno r (by rw [e]))
        clear hno
        go_wp2
        all_goals (go_meet; exact ⟨rfl, rfl⟩)
    case rest =>
      obtain ⟨rfl, rfl⟩ := hcut
      clear hno
      go_upto_region 6 with (fail)
      go_cut [34] (fun v wx => v = .bool (pointP t) ∧ w = wx)
      case first =>
        by_cases h3 : 3 < t.length
        · have HPB := Lib.hid (pointP_long h3)
          have q1 : IntKind.i64.wrap ((t.length : Int) - 3) = (t.length : Int) - 3 := IntWalk.i64_in _ (by omega)
          have q2 : 0 ≤ (t.length : Int) - 3 := by omega
          have q3 : ((t.length : Int) - 3).toNat = t.length - 3 := by omega
          have q4 : (t.length : Int) - 3 < (t.length : Int) := by omega
          by_cases hd : t[t.length - 3] = 46
          · have e1 : ((t[t.length - 3].toNat : Int) == 46) = true := by rw [hd]; rfl
            have HD := Lib.hid hd; clear hd
            go_wp2
            all_goals (go_meet; exact ⟨by rw [HPB.out, HD.out]; rfl, rfl⟩)
          · have e1 : ((t[t.length - 3].toNat : Int) == 46) = false := u8_ne (d := 46) hd
            have HD := Lib.hid (show (t[t.length - 3] == 46) = false by simpa using hd); clear hd
            go_wp2
            all_goals (go_meet; exact ⟨by rw [HPB.out, HD.out], rfl⟩)
        · have HPB := Lib.hid (pointP_short h3)
          go_wp2
          all_goals (go_meet; exact ⟨by rw [HPB.out], rfl⟩)
      case rest =>
        obtain ⟨rfl, rfl⟩ := hcut
        go_upto_if 34 with (fail)
        cases hp : pointP t
        · have HE2 := Lib.hid (HE.out.trans (raltT_none false hp))
          have HW : Hid (∃ n, w = w.drewN n) := Lib.hid ⟨0, rfl⟩
          obtain ⟨W, hW⟩ : ∃ W, W = w := ⟨_, rfl⟩
          go_upto_region 10 with (fail)
          obtain ⟨wh, hwh⟩ : ∃ wh, wh = t := ⟨_, rfl⟩
          rw [← hwh] at HE2 hl2 ⊢
          rw [← hW] at HW ⊢
          have HW : Hid (∃ n, W = w.drewN n) := Lib.hid ⟨0, hW⟩
          clear hW hwh hp
          have hwl : wh.length ≤ 4611686018427387904 := by omega
          have HX : Hid (∀ (n : Int) (a b : Bool), out = (n, a, b) → RetQ w (ralVal out) (.returned (.tuple #[.int .i64 n, .bool a, .bool b])) W) := Lib.hid (fun n a b h => RetQ.ral h HW.out)
          have HX2 : Hid (∀ (n : Int) (a b : Bool) (k : Nat), out = (n, a, b) → RetQ w (ralVal out) (.returned (.tuple #[.int .i64 n, .bool a, .bool b])) (W.drewN k)) := Lib.hid (fun n a b k h => RetQ.ral h (by obtain ⟨j, hj⟩ := HW.out; exact ⟨j + k, by rw [hj, World.drewN_drewN]⟩))
          cases hpl : plainB wh
          · have HO := Lib.hid (HE2.out.trans (raltW_unplain hpl))
            have k1 := Lib.hid (rplain_any wh W hwl)
            rw [hpl] at k1
            clear hpl HE2
            go_wp2_with fail
            with_reducible refine callP k1.out ?_
            go_wp2
            go_ret3
            exact HX.out _ _ _ HO.out
          · have HPL := Lib.hid hpl
            have k1 := Lib.hid (rplain_any wh W hwl)
            have k3 := Lib.hid (rvalue8_any wh W hwl (plainB_all hpl))
            rw [hpl] at k1
            clear hpl
            have HZ := Lib.hid (show (false && (wh == [48] && [48, 48] == [48, 48])) = false from rfl)
            by_cases hv : val wh ≤ 4611686018427387904
            · have HV := Lib.hid (show valS wh = ((val wh : Int), true) from by unfold valS; rw [if_pos hv])
              rw [HV.out] at k3
              by_cases hb : 1125899906842624 < val wh
              · have HO := Lib.hid (HE2.out.trans (raltW_big HPL.out HZ.out hb))
                generalize hvv : val wh = v at hv hb k3
                clear hvv HV HE2
                go_wp2_with (first | (with_reducible refine callP k1.out ?_) | (with_reducible refine callP k3.out ?_))
                go_ret3
                exact HX.out _ _ _ HO.out
              · have HO := Lib.hid (HE2.out.trans (raltW_num HPL.out HZ.out hb))
                generalize hvv : val wh = v at hv hb k3 HO
                clear hvv HV HE2
                have r6 : IntKind.i64.wrap (100 * (v : Int)) = 100 * (v : Int) := IntWalk.i64_in _ (by omega)
                have HVP := Lib.hid (show (val [48, 48] : Int) = 0 from by decide)
                go_upto_region 15 with (first | (with_reducible refine callP k1.out ?_) | (with_reducible refine callP k3.out ?_))
                go_quiet (fail)
                clear r6
                go_wp2
                all_goals (go_ret3; refine HX2.out _ _ _ _ ?_; rw [HO.out, HVP.out, Int.add_zero]; unfold raltN; first | rfl | (simp; omega) | (refine Prod.ext ?_ (Prod.ext rfl ?_) <;> (simp; try omega)))
            · have HV := Lib.hid (show valS wh = (0, false) from by unfold valS; rw [if_neg hv])
              rw [HV.out] at k3
              have HO := Lib.hid (HE2.out.trans (raltW_big HPL.out HZ.out (by omega)))
              clear HV HE2 hv
              go_wp2_with (first | (with_reducible refine callP k1.out ?_) | (with_reducible refine callP k3.out ?_))
              go_ret3
              exact HX.out _ _ _ HO.out
        · have h3 : 3 < t.length := by
            rcases Nat.lt_or_ge 3 t.length with h | h
            · exact h
            · rw [pointP_short (by omega)] at hp; cases hp
          obtain ⟨a, b, hab⟩ := two_last h3
          have q1 : IntKind.i64.wrap ((t.length : Int) - 3) = (t.length : Int) - 3 := IntWalk.i64_in _ (by omega)
          have q2 : 0 ≤ (t.length : Int) - 3 := by omega
          have q3 : ((t.length : Int) - 3).toNat = t.length - 3 := by omega
          have q4 : (t.length : Int) - 3 ≤ (t.length : Int) := by omega
          have p1 : IntKind.i64.wrap ((t.length : Int) - 2) = (t.length : Int) - 2 := IntWalk.i64_in _ (by omega)
          have p2 : 0 ≤ (t.length : Int) - 2 := by omega
          have p3 : ((t.length : Int) - 2).toNat = t.length - 2 := by omega
          have p4 : (t.length : Int) - 2 ≤ (t.length : Int) := by omega
          have hwl : (t.take (t.length - 3)).length ≤ 4611686018427387904 := by simp; omega
          have hbad := fun hh => HE.out.trans (raltT_bad false hp hh)
          have hok := fun hh => HE.out.trans (raltT_point false hp hh)
          rw [hab] at hbad hok
          have HBAD := Lib.hid hbad
          have HOK := Lib.hid hok
          have HAB := Lib.hid hab
          have HP := Lib.hid hp
          clear hbad hok hp
          go_upto_region 7 with (fail)
          go_quiet (fail)
          rename_i nq
          clear q1 q2 q3 q4 p1 p2 p3 p4
          go_upto_region 8 with (fail)
          have HW : Hid (∃ n, w.drewN nq = w.drewN n) := Lib.hid ⟨nq, rfl⟩
          generalize w.drewN nq = W at HW ⊢
          have HX : Hid (∀ (n : Int) (a b : Bool), out = (n, a, b) → RetQ w (ralVal out) (.returned (.tuple #[.int .i64 n, .bool a, .bool b])) W) := Lib.hid (fun n a b h => RetQ.ral h HW.out)
          have HX2 : Hid (∀ (n : Int) (a b : Bool) (k : Nat), out = (n, a, b) → RetQ w (ralVal out) (.returned (.tuple #[.int .i64 n, .bool a, .bool b])) (W.drewN k)) := Lib.hid (fun n a b k h => RetQ.ral h (by obtain ⟨j, hj⟩ := HW.out; exact ⟨j + k, by rw [hj, World.drewN_drewN]⟩))
          obtain ⟨wh, hwh⟩ : ∃ wh, wh = t.take (t.length - 3) := ⟨_, rfl⟩
          rw [← hwh] at HOK hwl ⊢
          clear hwh
          cases hh : hundB [a, b]
          · have HO := Lib.hid (HBAD.out hh)
            have HH := Lib.hid hh
            clear hh
            go_wp2_with fail
            all_goals first
              | (go_ret3; exact HX.out _ _ _ HO.out)
              | (exfalso; have hh := HH.out; clear HE HX HX2 HW HO HBAD HOK HAB HP; simp [hundB, isD] at hh; simp at *; first | omega | grind)
          · have HE2 := Lib.hid (HOK.out hh)
            obtain ⟨a', b', e, isa, isb, hn⟩ := hund_two hh
            injection e with e1 e2
            injection e2 with e2 _
            rw [← e1] at isa hn
            rw [← e2] at isb hn
            clear e1 e2 hh
            have npq : ([a, b] == [48, 48]) = false := by rw [beq_eq_false_iff_ne]; intro h; injection h with h1 h2; injection h2 with h2 _; exact hn ⟨h1, h2⟩
            have ha : 48 ≤ a.toNat ∧ a.toNat ≤ 57 := by simpa [isD] using isa
            have hb' : 48 ≤ b.toNat ∧ b.toNat ≤ 57 := by simpa [isD] using isb
            obtain ⟨ha1, ha2⟩ := ha
            obtain ⟨hb1, hb2⟩ := hb'
            have HN := Lib.hid hn
            clear hn
            go_upto_region 10 with (fail)
            all_goals try (exfalso; have hn := HN.out; simp at *; first | omega | grind)
            cases hpl : plainB wh
            · have HO := Lib.hid (HE2.out.trans (raltW_unplain hpl))
              have k1 := Lib.hid (rplain_any wh W hwl)
              rw [hpl] at k1
              clear hpl HE2
              go_wp2_with fail
              with_reducible refine callP k1.out ?_
              go_wp2
              go_ret3
              exact HX.out _ _ _ HO.out
            · have HPL := Lib.hid hpl
              have k1 := Lib.hid (rplain_any wh W hwl)
              have k3 := Lib.hid (rvalue8_any wh W hwl (plainB_all hpl))
              rw [hpl] at k1
              clear hpl
              have HZ := Lib.hid (show (false && (wh == [48] && [a, b] == [48, 48])) = false from rfl)
              by_cases hv : val wh ≤ 4611686018427387904
              · have HV := Lib.hid (show valS wh = ((val wh : Int), true) from by unfold valS; rw [if_pos hv])
                rw [HV.out] at k3
                by_cases hb : 1125899906842624 < val wh
                · have HO := Lib.hid (HE2.out.trans (raltW_big HPL.out HZ.out hb))
                  generalize hvv : val wh = v at hv hb k3
                  clear hvv HV HE2
                  go_wp2_with (first | (with_reducible refine callP k1.out ?_) | (with_reducible refine callP k3.out ?_))
                  go_ret3
                  exact HX.out _ _ _ HO.out
                · have HO := Lib.hid (HE2.out.trans (raltW_num HPL.out HZ.out hb))
                  generalize hvv : val wh = v at hv hb k3 HO
                  clear hvv HV HE2
                  have HVP := Lib.hid (val_pair isa isb)
                  have r1 : IntKind.u8.wrap ((a.toNat : Int) - 48) = (a.toNat : Int) - 48 := by simp only [IntKind.wrap, IntKind.bits, IntKind.signed]; simp; omega
                  have r2 : IntKind.u8.wrap ((b.toNat : Int) - 48) = (b.toNat : Int) - 48 := by simp only [IntKind.wrap, IntKind.bits, IntKind.signed]; simp; omega
                  have r3 : IntKind.i64.wrap ((a.toNat : Int) - 48) = (a.toNat : Int) - 48 := IntWalk.i64_in _ (by omega)
                  have r4 : IntKind.i64.wrap ((b.toNat : Int) - 48) = (b.toNat : Int) - 48 := IntWalk.i64_in _ (by omega)
                  have r5 : IntKind.i64.wrap (10 * ((a.toNat : Int) - 48)) = 10 * ((a.toNat : Int) - 48) := IntWalk.i64_in _ (by omega)
                  have r6 : IntKind.i64.wrap (100 * (v : Int)) = 100 * (v : Int) := IntWalk.i64_in _ (by omega)
                  have r7 : IntKind.i64.wrap (100 * (v : Int) + 10 * ((a.toNat : Int) - 48)) = 100 * (v : Int) + 10 * ((a.toNat : Int) - 48) := IntWalk.i64_in _ (by omega)
                  have r8 : IntKind.i64.wrap (100 * (v : Int) + 10 * ((a.toNat : Int) - 48) + ((b.toNat : Int) - 48)) = 100 * (v : Int) + 10 * ((a.toNat : Int) - 48) + ((b.toNat : Int) - 48) := IntWalk.i64_in _ (by omega)
                  go_upto_region 15 with (first | (with_reducible refine callP k1.out ?_) | (with_reducible refine callP k3.out ?_))
                  go_quiet (fail)
                  clear r1 r2 r3 r4 r5 r6 r7 r8
                  go_wp2
                  all_goals (go_ret3; refine HX2.out _ _ _ _ ?_; rw [HO.out, HVP.out]; unfold raltN; (try rw [← Int.add_assoc]); first | rfl | (simp; omega) | (refine Prod.ext ?_ (Prod.ext rfl ?_) <;> (simp; try omega)))
              · have HV := Lib.hid (show valS wh = (0, false) from by unfold valS; rw [if_neg hv])
                rw [HV.out] at k3
                have HO := Lib.hid (HE2.out.trans (raltW_big HPL.out HZ.out (by omega)))
                clear HV HE2 hv
                go_wp2_with (first | (with_reducible refine callP k1.out ?_) | (with_reducible refine callP k3.out ?_))
                go_ret3
                exact HX.out _ _ _ HO.out
  · skip
    have hl2 : t.length ≤ 4000000000 := by simp at hl; omega
    clear hc
    go_enter Tryz.func107, Tryz.ntmps107
    go_upto_region 1 with (fail)
    go_cut [5] (fun v wx => v = .bool true ∧ w = wx)
    case first =>
      go_wp2
      all_goals first | (go_meet; exact ⟨rfl, rfl⟩) | (exfalso; simp at *; done) | (exfalso; omega)
    case rest =>
      obtain ⟨rfl, rfl⟩ := hcut
      go_upto_region 6 with (fail)
      go_cut [34] (fun v wx => v = .bool (pointP t) ∧ w = wx)
      case first =>
        by_cases h3 : 3 < t.length
        · have HPB := Lib.hid (pointP_long h3)
          have q1 : IntKind.i64.wrap ((t.length : Int) - 3) = (t.length : Int) - 3 := IntWalk.i64_in _ (by omega)
          have q2 : 0 ≤ (t.length : Int) - 3 := by omega
          have q3 : ((t.length : Int) - 3).toNat = t.length - 3 := by omega
          have q4 : (t.length : Int) - 3 < (t.length : Int) := by omega
          by_cases hd : t[t.length - 3] = 46
          · have e1 : ((t[t.length - 3].toNat : Int) == 46) = true := by rw [hd]; rfl
            have HD := Lib.hid hd; clear hd
            go_wp2
            all_goals (go_meet; exact ⟨by rw [HPB.out, HD.out]; rfl, rfl⟩)
          · have e1 : ((t[t.length - 3].toNat : Int) == 46) = false := u8_ne (d := 46) hd
            have HD := Lib.hid (show (t[t.length - 3] == 46) = false by simpa using hd); clear hd
            go_wp2
            all_goals (go_meet; exact ⟨by rw [HPB.out, HD.out], rfl⟩)
        · have HPB := Lib.hid (pointP_short h3)
          go_wp2
          all_goals (go_meet; exact ⟨by rw [HPB.out], rfl⟩)
      case rest =>
        obtain ⟨rfl, rfl⟩ := hcut
        go_upto_if 34 with (fail)
        cases hp : pointP t
        · have HE2 := Lib.hid (HE.out.trans (raltT_none true hp))
          have HW : Hid (∃ n, w = w.drewN n) := Lib.hid ⟨0, rfl⟩
          obtain ⟨W, hW⟩ : ∃ W, W = w := ⟨_, rfl⟩
          go_upto_region 10 with (fail)
          obtain ⟨wh, hwh⟩ : ∃ wh, wh = t := ⟨_, rfl⟩
          rw [← hwh] at HE2 hl2 ⊢
          rw [← hW] at HW ⊢
          have HW : Hid (∃ n, W = w.drewN n) := Lib.hid ⟨0, hW⟩
          clear hW hwh hp
          have hwl : wh.length ≤ 4611686018427387904 := by omega
          have HX : Hid (∀ (n : Int) (a b : Bool), out = (n, a, b) → RetQ w (ralVal out) (.returned (.tuple #[.int .i64 n, .bool a, .bool b])) W) := Lib.hid (fun n a b h => RetQ.ral h HW.out)
          have HX2 : Hid (∀ (n : Int) (a b : Bool) (k : Nat), out = (n, a, b) → RetQ w (ralVal out) (.returned (.tuple #[.int .i64 n, .bool a, .bool b])) (W.drewN k)) := Lib.hid (fun n a b k h => RetQ.ral h (by obtain ⟨j, hj⟩ := HW.out; exact ⟨j + k, by rw [hj, World.drewN_drewN]⟩))
          cases hpl : plainB wh
          · have HO := Lib.hid (HE2.out.trans (raltW_unplain hpl))
            have k1 := Lib.hid (rplain_any wh W hwl)
            rw [hpl] at k1
            clear hpl HE2
            go_wp2_with fail
            with_reducible refine callP k1.out ?_
            go_wp2
            go_ret3
            exact HX.out _ _ _ HO.out
          · have HPL := Lib.hid hpl
            have k1 := Lib.hid (rplain_any wh W hwl)
            have k3 := Lib.hid (rvalue8_any wh W hwl (plainB_all hpl))
            rw [hpl] at k1
            clear hpl
            by_cases h48 : wh = [48]
            · have HO := Lib.hid (HE2.out.trans (raltW_zero h48 rfl))
              have e48 : (wh == [48]) = true := by simpa using h48
              have H48 := Lib.hid h48; clear h48 HE2 k3
              go_wp2_with fail
              with_reducible refine callP k1.out ?_
              go_wp2
              go_ret3
              exact HX.out _ _ _ HO.out
            · have e48 : (wh == [48]) = false := by simpa using h48
              have HZ := Lib.hid (show (true && (wh == [48] && [48, 48] == [48, 48])) = false from by rw [e48]; rfl)
              have H48 := Lib.hid h48; clear h48
              by_cases hv : val wh ≤ 4611686018427387904
              · have HV := Lib.hid (show valS wh = ((val wh : Int), true) from by unfold valS; rw [if_pos hv])
                rw [HV.out] at k3
                by_cases hb : 1125899906842624 < val wh
                · have HO := Lib.hid (HE2.out.trans (raltW_big HPL.out HZ.out hb))
                  generalize hvv : val wh = v at hv hb k3
                  clear hvv HV HE2
                  go_wp2_with (first | (with_reducible refine callP k1.out ?_) | (with_reducible refine callP k3.out ?_))
                  go_ret3
                  exact HX.out _ _ _ HO.out
                · have HO := Lib.hid (HE2.out.trans (raltW_num HPL.out HZ.out hb))
                  generalize hvv : val wh = v at hv hb k3 HO
                  clear hvv HV HE2
                  have r6 : IntKind.i64.wrap (100 * (v : Int)) = 100 * (v : Int) := IntWalk.i64_in _ (by omega)
                  have HVP := Lib.hid (show (val [48, 48] : Int) = 0 from by decide)
                  go_upto_region 15 with (first | (with_reducible refine callP k1.out ?_) | (with_reducible refine callP k3.out ?_))
                  go_quiet (fail)
                  clear r6
                  go_wp2
                  all_goals (go_ret3; refine HX2.out _ _ _ _ ?_; rw [HO.out, HVP.out, Int.add_zero]; unfold raltN; first | rfl | (simp; omega) | (refine Prod.ext ?_ (Prod.ext rfl ?_) <;> (simp; try omega)))
              · have HV := Lib.hid (show valS wh = (0, false) from by unfold valS; rw [if_neg hv])
                rw [HV.out] at k3
                have HO := Lib.hid (HE2.out.trans (raltW_big HPL.out HZ.out (by omega)))
                clear HV HE2 hv
                go_wp2_with (first | (with_reducible refine callP k1.out ?_) | (with_reducible refine callP k3.out ?_))
                go_ret3
                exact HX.out _ _ _ HO.out
        · have h3 : 3 < t.length := by
            rcases Nat.lt_or_ge 3 t.length with h | h
            · exact h
            · rw [pointP_short (by omega)] at hp; cases hp
          obtain ⟨a, b, hab⟩ := two_last h3
          have q1 : IntKind.i64.wrap ((t.length : Int) - 3) = (t.length : Int) - 3 := IntWalk.i64_in _ (by omega)
          have q2 : 0 ≤ (t.length : Int) - 3 := by omega
          have q3 : ((t.length : Int) - 3).toNat = t.length - 3 := by omega
          have q4 : (t.length : Int) - 3 ≤ (t.length : Int) := by omega
          have p1 : IntKind.i64.wrap ((t.length : Int) - 2) = (t.length : Int) - 2 := IntWalk.i64_in _ (by omega)
          have p2 : 0 ≤ (t.length : Int) - 2 := by omega
          have p3 : ((t.length : Int) - 2).toNat = t.length - 2 := by omega
          have p4 : (t.length : Int) - 2 ≤ (t.length : Int) := by omega
          have hwl : (t.take (t.length - 3)).length ≤ 4611686018427387904 := by simp; omega
          have hbad := fun hh => HE.out.trans (raltT_bad true hp hh)
          have hok := fun hh => HE.out.trans (raltT_point true hp hh)
          rw [hab] at hbad hok
          have HBAD := Lib.hid hbad
          have HOK := Lib.hid hok
          have HAB := Lib.hid hab
          have HP := Lib.hid hp
          clear hbad hok hp
          go_upto_region 7 with (fail)
          go_quiet (fail)
          rename_i nq
          clear q1 q2 q3 q4 p1 p2 p3 p4
          go_upto_region 8 with (fail)
          have HW : Hid (∃ n, w.drewN nq = w.drewN n) := Lib.hid ⟨nq, rfl⟩
          generalize w.drewN nq = W at HW ⊢
          have HX : Hid (∀ (n : Int) (a b : Bool), out = (n, a, b) → RetQ w (ralVal out) (.returned (.tuple #[.int .i64 n, .bool a, .bool b])) W) := Lib.hid (fun n a b h => RetQ.ral h HW.out)
          have HX2 : Hid (∀ (n : Int) (a b : Bool) (k : Nat), out = (n, a, b) → RetQ w (ralVal out) (.returned (.tuple #[.int .i64 n, .bool a, .bool b])) (W.drewN k)) := Lib.hid (fun n a b k h => RetQ.ral h (by obtain ⟨j, hj⟩ := HW.out; exact ⟨j + k, by rw [hj, World.drewN_drewN]⟩))
          obtain ⟨wh, hwh⟩ : ∃ wh, wh = t.take (t.length - 3) := ⟨_, rfl⟩
          rw [← hwh] at HOK hwl ⊢
          clear hwh
          cases hh : hundB [a, b]
          · have HO := Lib.hid (HBAD.out hh)
            have HH := Lib.hid hh
            clear hh
            go_wp2_with fail
            all_goals first
              | (go_ret3; exact HX.out _ _ _ HO.out)
              | (exfalso; have hh := HH.out; clear HE HX HX2 HW HO HBAD HOK HAB HP; simp [hundB, isD] at hh; simp at *; first | omega | grind)
          · have HE2 := Lib.hid (HOK.out hh)
            obtain ⟨a', b', e, isa, isb, hn⟩ := hund_two hh
            injection e with e1 e2
            injection e2 with e2 _
            rw [← e1] at isa hn
            rw [← e2] at isb hn
            clear e1 e2 hh
            have npq : ([a, b] == [48, 48]) = false := by rw [beq_eq_false_iff_ne]; intro h; injection h with h1 h2; injection h2 with h2 _; exact hn ⟨h1, h2⟩
            have ha : 48 ≤ a.toNat ∧ a.toNat ≤ 57 := by simpa [isD] using isa
            have hb' : 48 ≤ b.toNat ∧ b.toNat ≤ 57 := by simpa [isD] using isb
            obtain ⟨ha1, ha2⟩ := ha
            obtain ⟨hb1, hb2⟩ := hb'
            have HN := Lib.hid hn
            clear hn
            go_upto_region 10 with (fail)
            all_goals try (exfalso; have hn := HN.out; simp at *; first | omega | grind)
            cases hpl : plainB wh
            · have HO := Lib.hid (HE2.out.trans (raltW_unplain hpl))
              have k1 := Lib.hid (rplain_any wh W hwl)
              rw [hpl] at k1
              clear hpl HE2
              go_wp2_with fail
              with_reducible refine callP k1.out ?_
              go_wp2
              go_ret3
              exact HX.out _ _ _ HO.out
            · have HPL := Lib.hid hpl
              have k1 := Lib.hid (rplain_any wh W hwl)
              have k3 := Lib.hid (rvalue8_any wh W hwl (plainB_all hpl))
              rw [hpl] at k1
              clear hpl
              have HZ := Lib.hid (show (true && (wh == [48] && [a, b] == [48, 48])) = false from by rw [npq]; simp)
              by_cases h48 : wh = [48]
              · have e48 : (wh == [48]) = true := by simpa using h48
                have H48 := Lib.hid h48; clear h48
                by_cases hv : val wh ≤ 4611686018427387904
                · have HV := Lib.hid (show valS wh = ((val wh : Int), true) from by unfold valS; rw [if_pos hv])
                  rw [HV.out] at k3
                  by_cases hb : 1125899906842624 < val wh
                  · have HO := Lib.hid (HE2.out.trans (raltW_big HPL.out HZ.out hb))
                    generalize hvv : val wh = v at hv hb k3
                    clear hvv HV HE2
                    go_wp2_with (first | (with_reducible refine callP k1.out ?_) | (with_reducible refine callP k3.out ?_))
                    go_ret3
                    exact HX.out _ _ _ HO.out
                  · have HO := Lib.hid (HE2.out.trans (raltW_num HPL.out HZ.out hb))
                    generalize hvv : val wh = v at hv hb k3 HO
                    clear hvv HV HE2
                    have HVP := Lib.hid (val_pair isa isb)
                    have r1 : IntKind.u8.wrap ((a.toNat : Int) - 48) = (a.toNat : Int) - 48 := by simp only [IntKind.wrap, IntKind.bits, IntKind.signed]; simp; omega
                    have r2 : IntKind.u8.wrap ((b.toNat : Int) - 48) = (b.toNat : Int) - 48 := by simp only [IntKind.wrap, IntKind.bits, IntKind.signed]; simp; omega
                    have r3 : IntKind.i64.wrap ((a.toNat : Int) - 48) = (a.toNat : Int) - 48 := IntWalk.i64_in _ (by omega)
                    have r4 : IntKind.i64.wrap ((b.toNat : Int) - 48) = (b.toNat : Int) - 48 := IntWalk.i64_in _ (by omega)
                    have r5 : IntKind.i64.wrap (10 * ((a.toNat : Int) - 48)) = 10 * ((a.toNat : Int) - 48) := IntWalk.i64_in _ (by omega)
                    have r6 : IntKind.i64.wrap (100 * (v : Int)) = 100 * (v : Int) := IntWalk.i64_in _ (by omega)
                    have r7 : IntKind.i64.wrap (100 * (v : Int) + 10 * ((a.toNat : Int) - 48)) = 100 * (v : Int) + 10 * ((a.toNat : Int) - 48) := IntWalk.i64_in _ (by omega)
                    have r8 : IntKind.i64.wrap (100 * (v : Int) + 10 * ((a.toNat : Int) - 48) + ((b.toNat : Int) - 48)) = 100 * (v : Int) + 10 * ((a.toNat : Int) - 48) + ((b.toNat : Int) - 48) := IntWalk.i64_in _ (by omega)
                    go_upto_region 15 with (first | (with_reducible refine callP k1.out ?_) | (with_reducible refine callP k3.out ?_))
                    go_quiet (fail)
                    clear r1 r2 r3 r4 r5 r6 r7 r8
                    go_wp2
                    all_goals (go_ret3; refine HX2.out _ _ _ _ ?_; rw [HO.out, HVP.out]; unfold raltN; (try rw [← Int.add_assoc]); first | rfl | (simp; omega) | (refine Prod.ext ?_ (Prod.ext rfl ?_) <;> (simp; try omega)))
                · have HV := Lib.hid (show valS wh = (0, false) from by unfold valS; rw [if_neg hv])
                  rw [HV.out] at k3
                  have HO := Lib.hid (HE2.out.trans (raltW_big HPL.out HZ.out (by omega)))
                  clear HV HE2 hv
                  go_wp2_with (first | (with_reducible refine callP k1.out ?_) | (with_reducible refine callP k3.out ?_))
                  go_ret3
                  exact HX.out _ _ _ HO.out
              · have e48 : (wh == [48]) = false := by simpa using h48
                have H48 := Lib.hid h48; clear h48
                by_cases hv : val wh ≤ 4611686018427387904
                · have HV := Lib.hid (show valS wh = ((val wh : Int), true) from by unfold valS; rw [if_pos hv])
                  rw [HV.out] at k3
                  by_cases hb : 1125899906842624 < val wh
                  · have HO := Lib.hid (HE2.out.trans (raltW_big HPL.out HZ.out hb))
                    generalize hvv : val wh = v at hv hb k3
                    clear hvv HV HE2
                    go_wp2_with (first | (with_reducible refine callP k1.out ?_) | (with_reducible refine callP k3.out ?_))
                    go_ret3
                    exact HX.out _ _ _ HO.out
                  · have HO := Lib.hid (HE2.out.trans (raltW_num HPL.out HZ.out hb))
                    generalize hvv : val wh = v at hv hb k3 HO
                    clear hvv HV HE2
                    have HVP := Lib.hid (val_pair isa isb)
                    have r1 : IntKind.u8.wrap ((a.toNat : Int) - 48) = (a.toNat : Int) - 48 := by simp only [IntKind.wrap, IntKind.bits, IntKind.signed]; simp; omega
                    have r2 : IntKind.u8.wrap ((b.toNat : Int) - 48) = (b.toNat : Int) - 48 := by simp only [IntKind.wrap, IntKind.bits, IntKind.signed]; simp; omega
                    have r3 : IntKind.i64.wrap ((a.toNat : Int) - 48) = (a.toNat : Int) - 48 := IntWalk.i64_in _ (by omega)
                    have r4 : IntKind.i64.wrap ((b.toNat : Int) - 48) = (b.toNat : Int) - 48 := IntWalk.i64_in _ (by omega)
                    have r5 : IntKind.i64.wrap (10 * ((a.toNat : Int) - 48)) = 10 * ((a.toNat : Int) - 48) := IntWalk.i64_in _ (by omega)
                    have r6 : IntKind.i64.wrap (100 * (v : Int)) = 100 * (v : Int) := IntWalk.i64_in _ (by omega)
                    have r7 : IntKind.i64.wrap (100 * (v : Int) + 10 * ((a.toNat : Int) - 48)) = 100 * (v : Int) + 10 * ((a.toNat : Int) - 48) := IntWalk.i64_in _ (by omega)
                    have r8 : IntKind.i64.wrap (100 * (v : Int) + 10 * ((a.toNat : Int) - 48) + ((b.toNat : Int) - 48)) = 100 * (v : Int) + 10 * ((a.toNat : Int) - 48) + ((b.toNat : Int) - 48) := IntWalk.i64_in _ (by omega)
                    go_upto_region 15 with (first | (with_reducible refine callP k1.out ?_) | (with_reducible refine callP k3.out ?_))
                    go_quiet (fail)
                    clear r1 r2 r3 r4 r5 r6 r7 r8
                    go_wp2
                    all_goals (go_ret3; refine HX2.out _ _ _ _ ?_; rw [HO.out, HVP.out]; unfold raltN; (try rw [← Int.add_assoc]); first | rfl | (simp; omega) | (refine Prod.ext ?_ (Prod.ext rfl ?_) <;> (simp; try omega)))
                · have HV := Lib.hid (show valS wh = (0, false) from by unfold valS; rw [if_neg hv])
                  rw [HV.out] at k3
                  have HO := Lib.hid (HE2.out.trans (raltW_big HPL.out HZ.out (by omega)))
                  clear HV HE2 hv
                  go_wp2_with (first | (with_reducible refine callP k1.out ?_) | (with_reducible refine callP k3.out ?_))
                  go_ret3
                  exact HX.out _ _ _ HO.out
end Go.Proofs.YtnmpfmelaninbaaGreatDoor
namespace Go.Proofs.YtnmpfmelaninbaaGreatDoor
open Go.RowKit Go.Sort
set_option linter.unusedVariables false
set_option linter.unusedSimpArgs false
set_option maxRecDepth 100000
attribute [local go_sem] wmk spl_win
theorem rwinO_f {ra rb : Int × Bool × Bool} {k : Int} {s : List UInt8} (h : (ra.2.1 && rb.2.1) = false) : rwinO ra rb k s = ((0, 0), 4) := by unfold rwinO; rw [h]; rfl
theorem rwinO_i {ra rb : Int × Bool × Bool} {k : Int} {s : List UInt8} (h : (ra.2.1 && rb.2.1) = true) (h2 : (ra.2.2 && rb.2.2) = false) : rwinO ra rb k s = ((0, 0), 2) := by unfold rwinO; rw [h, h2]; rfl
theorem rwinO_o {ra rb : Int × Bool × Bool} {k : Int} {s : List UInt8} (h : (ra.2.1 && rb.2.1) = true) (h2 : (ra.2.2 && rb.2.2) = true) (h3 : rb.1 < ra.1) : rwinO ra rb k s = ((0, 0), 9) := by unfold rwinO; rw [h, h2, if_pos h3]; rfl
theorem rwinO_w {ra rb : Int × Bool × Bool} {k : Int} {s : List UInt8} (h : (ra.2.1 && rb.2.1) = true) (h2 : (ra.2.2 && rb.2.2) = true) (h3 : ¬ rb.1 < ra.1) : rwinO ra rb k s = if winS (if k = 2 then -200000 else ra.1) (if k = 1 then 6000000 else rb.1) = s then (((if k = 2 then -200000 else ra.1), (if k = 1 then 6000000 else rb.1)), 0) else ((0, 0), 4) := by unfold rwinO; rw [h, h2, if_neg h3]; rfl
theorem cutSuf_last {c d : UInt8} {s : List UInt8} (hs : 0 < s.length) (h : s[s.length - 1]'(by omega) = d) : cutSuf c s = if d = c then (s.take (s.length - 1), true) else (s, false) := by
  unfold cutSuf
  have hl : s.getLast? = some d := by rw [List.getLast?_eq_getElem?, List.getElem?_eq_getElem (by omega), h]
  rw [hl]
  by_cases hc : d = c
  · rw [if_pos (by rw [hc]), if_pos hc, List.dropLast_eq_take]
  · rw [if_neg (by intro h; injection h with h; exact hc h), if_neg hc]
set_option maxHeartbeats 16000000 in
theorem rparseWindow_any (s : List UInt8) (w : World) (hl : s.length ≤ 4000000000) : Calls Tryz.prog 51 #[.string ⟨s.toArray⟩] w (Ret w (winEVal (rparseWinS s))) := by
  by_cases h45 : s = [45]
  · subst h45
    have HO := Lib.hid (show rparseWinS [45] = ((-200000, 6000000), 0) from rfl)
    generalize rparseWinS [45] = out at HO ⊢
    go_enter Tryz.func51, Tryz.ntmps51
    go_upto_region 1 with (fail)
    have R := Blk.new w #[.int .i64 0, .int .i64 0] 24
    have BW := alloc_below w (.cells #[.int .i64 0, .int .i64 0] 24)
    generalize w.alloc _ = W at R BW ⊢
    obtain ⟨g, hg0⟩ : ∃ g, g = w.heap.size := ⟨_, rfl⟩
    rw [← hg0] at R ⊢
    have hg := Nat.le_of_eq hg0.symm
    clear hg0
    have d2 := R.plain
    have d3 := R.of
    go_wp2
    refine bodyPost_ret (results_win Tryz.results51 _ _ g ⟨-200000, 6000000⟩ rfl (Blk.is_win (x := ⟨-200000, 6000000⟩) (R.set _))) rfl ?_
    exact Ret.winE HO.out (below_setRow' BW hg _)
  · have HE := Lib.hid (show rparseWinS s = if (cutAt 58 s).2.2 then rwinO (raltP (cutAt 58 s).1) (raltP (cutAt 58 s).2.1) 3 s
      else if (cutSuf 43 s).2 then rwinO (raltP (cutSuf 43 s).1) (raltP (cutSuf 43 s).1) 1 s
      else if (cutSuf 45 s).2 then rwinO (raltP (cutSuf 45 s).1) (raltP (cutSuf 45 s).1) 2 s else rwinO (raltP s) (raltP s) 0 s from by unfold rparseWinS; rw [if_neg h45])
    have q45 : (s == [45]) = false := by simpa using h45
    have H45 := Lib.hid h45; clear h45
    have HAT := Lib.hid (fun k h1 h2 h3 => cutAt_at 58 s k h1 h2 h3)
    have HNO := Lib.hid (fun h => cutAt_none 58 s h)
    have hl2 := cutAt_len 58 s
    generalize cutAt 58 s = q at HE HAT HNO hl2
    obtain ⟨miles, rest, two⟩ := q
    simp only at HE hl2
    obtain ⟨l2, l3⟩ := hl2
    generalize rparseWinS s = out at HE ⊢
    have l4 : miles.length ≤ 4000000000 := by omega
    have l5 : rest.length ≤ 4000000000 := by omega
    go_enter Tryz.func51, Tryz.ntmps51
    go_upto_region 1 with (fail)
    have R := Blk.new w #[.int .i64 0, .int .i64 0] 24
    have BW := alloc_below w (.cells #[.int .i64 0, .int .i64 0] 24)
    generalize w.alloc _ = W0 at R BW ⊢
    obtain ⟨g, hg0⟩ : ∃ g, g = w.heap.size := ⟨_, rfl⟩
    rw [← hg0] at R ⊢
    have hg := Nat.le_of_eq hg0.symm
    clear hg0
    go_wp2
    go_loopw [4, 5, 6, 7] (fun a b m i wr => ∃ (k : Nat) (wh pt : List UInt8) (mo : Bool), k ≤ s.length ∧ i = .int .i64 k ∧ a = .string ⟨wh.toArray⟩ ∧ b = .string ⟨pt.toArray⟩ ∧ m = .int .i64 (if mo then 3 else 0) ∧ (∃ n, wr = W0.drewN n) ∧
        ((mo = false ∧ wh = s ∧ pt = s ∧ (s.take k).all (· != 58) = true) ∨ (mo = true ∧ two = true ∧ wh = miles ∧ pt = rest)))
      (fun _ _ _ i _ => s.length - (intOf i).toNat)
    case atStart => exact ⟨0, s, s, false, by omega, rfl, rfl, rfl, rfl, ⟨0, rfl⟩, .inl ⟨rfl, rfl, rfl, by simp⟩⟩
    case round =>
      obtain ⟨k, wh, pt, mo, hk, rfl, rfl, rfl, rfl, ⟨nd, rfl⟩, hcase⟩ := hrel
      by_cases hlt : k < s.length
      · rcases hcase with ⟨rfl, rfl, rfl, ha⟩ | ⟨rfl, h2, rfl, rfl⟩
        · by_cases hc : pt[k] = 58
          · have e1 : ((pt[k].toNat : Int) == 58) = true := by rw [hc]; rfl
            have HC := Lib.hid (HAT.out k hlt ha hc)
            clear hc ha
            have q1 : IntKind.i64.wrap ((k : Int) + 1) = (k : Int) + 1 := IntWalk.i64_in _ (by omega)
            have q2 : 0 ≤ (k : Int) + 1 := by omega
            have q3 : ((k : Int) + 1).toNat = k + 1 := by omega
            go_upto_region 8 with (fail)
            go_quiet (fail)
            clear q1 q2 q3
            go_wp2
            go_roundw
            case rel =>
              refine ⟨k + 1, miles, rest, true, by omega, by go_num, ?_, ?_, rfl, ⟨_, rfl⟩, .inr ⟨rfl, ?_, rfl, rfl⟩⟩
              · have := HC.out; injection this with a1 a2; rw [a1]
              · have := HC.out; injection this with a1 a2; injection a2 with a2 a3; rw [a2]
              · have := HC.out; injection this with a1 a2; injection a2 with a2 a3
            case measure => simp [intOf]; omega
          · have e1 : ((pt[k].toNat : Int) == 58) = false := u8_ne (d := 58) hc
            have HA := Lib.hid (take_all_succ (· != 58) pt k hlt ha (by simpa using hc))
            clear hc ha
            go_wp2
            go_roundw
            case rel => exact ⟨k + 1, _, _, false, by omega, by go_num, rfl, rfl, rfl, ⟨nd, rfl⟩, .inl ⟨rfl, rfl, rfl, HA.out⟩⟩
            case measure => simp [intOf]; omega
        · have H2 := Lib.hid h2; clear h2
          by_cases hc : s[k] = 58
          · have e1 : ((s[k].toNat : Int) == 58) = true := by rw [hc]; rfl
            clear hc
            go_wp2
            go_roundw
            case rel => exact ⟨k + 1, _, _, true, by omega, by go_num, rfl, rfl, rfl, ⟨nd, rfl⟩, .inr ⟨rfl, H2.out, rfl, rfl⟩⟩
            case measure => simp [intOf]; omega
          · have e1 : ((s[k].toNat : Int) == 58) = false := u8_ne (d := 58) hc
            clear hc
            go_wp2
            go_roundw
            case rel => exact ⟨k + 1, _, _, true, by omega, by go_num, rfl, rfl, rfl, ⟨nd, rfl⟩, .inr ⟨rfl, H2.out, rfl, rfl⟩⟩
            case measure => simp [intOf]; omega
      · have RR : Blk (W0.drewN nd) g #[.int .i64 0, .int .i64 0] := R
        have BB := below_drewN BW nd
        clear R BW
        generalize W0.drewN nd = W at RR BB ⊢
        have R := RR; have BW := BB; clear RR BB
        cases two
        · have hm : mo = false ∧ wh = s ∧ pt = s := by
            rcases hcase with ⟨a1, a2, a3, _⟩ | ⟨_, a2, _⟩
            · exact ⟨a1, a2, a3⟩
            · cases a2
          clear hcase HAT HNO
          obtain ⟨rfl, hw, hp⟩ := hm
          have hw' := hw.symm; have hp' := hp.symm
          clear hw hp
          subst hw'; subst hp'
          have HE2 := Lib.hid (show out = if (cutSuf 43 s).2 then rwinO (raltP (cutSuf 43 s).1) (raltP (cutSuf 43 s).1) 1 s
            else if (cutSuf 45 s).2 then rwinO (raltP (cutSuf 45 s).1) (raltP (cutSuf 45 s).1) 2 s else rwinO (raltP s) (raltP s) 0 s from HE.out)
          clear HE
          by_cases h0 : 0 < s.length
          · have q1 : IntKind.i64.wrap ((s.length : Int) - 1) = (s.length : Int) - 1 := IntWalk.i64_in _ (by omega)
            have q2 : 0 ≤ (s.length : Int) - 1 := by omega
            have q3 : ((s.length : Int) - 1).toNat = s.length - 1 := by omega
            have q4 : (s.length : Int) - 1 < (s.length : Int) := by omega
            have q5 : (s.length : Int) - 1 ≤ (s.length : Int) := by omega
            obtain ⟨d, hd⟩ : ∃ d, s[s.length - 1] = d := ⟨_, rfl⟩
            have HS43 := Lib.hid (cutSuf_last (c := 43) h0 hd)
            have HS45 := Lib.hid (cutSuf_last (c := 45) h0 hd)
            have lt1 : (s.take (s.length - 1)).length ≤ 4000000000 := by simp; omega
            by_cases h43 : d = 43
            · have HE := Lib.hid (show out = rwinO (raltP (s.take (s.length - 1))) (raltP (s.take (s.length - 1))) 1 s from by rw [HE2.out, HS43.out, if_pos h43]; rfl)
              have e1 : ((s[s.length - 1].toNat : Int) == 43) = true := by rw [hd, h43]; rfl
              clear hd h43 HS43 HS45 HE2
              go_upto_region 10 with (fail)
              go_quiet (fail)
              rename_i nq
              have RR : Blk (W.drewN nq) g #[.int .i64 0, .int .i64 0] := R
              have BB := below_drewN BW nq
              clear R BW e1 q1
              generalize W.drewN nq = W at RR BB ⊢
              have R := RR; have BW := BB; clear RR BB
              generalize s.take (s.length - 1) = A at lt1 HE ⊢
              go_upto_region 13 with (fail)
              have k1 := Lib.hid (fun W => raltForm_any A W (by first | assumption | omega))
              have i1 := Lib.hid (fun h => ralt_in (s := A) h)
              generalize raltP A = ra at k1 HE i1
              obtain ⟨x, fa, ia⟩ := ra
              simp only at i1
              go_wp2_with fail
              with_reducible refine callQ (k1.out _) ?_
              intro n1
              go_wp2_with fail
              with_reducible refine callQ (k1.out _) ?_
              intro n2
              have RR : Blk ((W.drewN n1).drewN n2) g #[.int .i64 0, .int .i64 0] := R
              have BB := below_drewN (below_drewN BW n1) n2
              clear R BW k1
              generalize (W.drewN n1).drewN n2 = W2 at RR BB ⊢
              have R := RR; have BW := BB; clear RR BB
              have hlt := R.lt
              have d2 := R.plain
              have d3 := R.of
              cases fa
              · skip
                have HO := Lib.hid (HE.out.trans (rwinO_f rfl))
                clear HE i1
                go_wp2
                refine bodyPost_ret (results_win Tryz.results51 _ _ g ⟨0, 0⟩ rfl (Blk.is_win (x := ⟨0, 0⟩) (R.set _))) rfl ?_
                exact Ret.winE HO.out (below_setRow' BW hg _)
              · cases ia
                · skip
                  have HO := Lib.hid (HE.out.trans (rwinO_i rfl rfl))
                  clear HE i1
                  go_wp2
                  refine bodyPost_ret (results_win Tryz.results51 _ _ g ⟨0, 0⟩ rfl (Blk.is_win (x := ⟨0, 0⟩) (R.set _))) rfl ?_
                  exact Ret.winE HO.out (below_setRow' BW hg _)
                · skip
                  by_cases hxy : x < x
                  · have HO := Lib.hid (HE.out.trans (rwinO_o rfl rfl hxy))
                    clear i1
                    go_wp2
                    refine bodyPost_ret (results_win Tryz.results51 _ _ g ⟨0, 0⟩ rfl (Blk.is_win (x := ⟨0, 0⟩) (R.set _))) rfl ?_
                    exact Ret.winE HO.out (below_setRow' BW hg _)
                  · have HO : Hid (out = if winS x 6000000 = s then ((x, 6000000), 0) else ((0, 0), 4)) := Lib.hid (HE.out.trans (rwinO_w rfl rfl hxy))
                    have x1 := i1.out rfl
                    have x2 := x1.2
                    have x3 := x1.1
                    have kw' := Lib.hid (fun W => rwinText_in x 6000000 W ⟨by omega, by omega, by omega⟩)
                    clear i1 x1 HE
                    generalize winS x 6000000 = D at kw' HO
                    go_upto_region 22 with (fail)
                    have X := Blk.new W2 #[.int .i64 x, .int .i64 x] 24
                    have R3 := R.alloc (.cells #[.int .i64 x, .int .i64 x] 24)
                    have B3 := below_step BW (alloc_below W2 (.cells #[.int .i64 x, .int .i64 x] 24))
                    clear d2 d3 R
                    have hg2 : w.heap.size ≤ W2.heap.size := BW.size
                    clear BW
                    generalize W2.alloc _ = W3 at X R3 B3 ⊢
                    generalize W2.heap.size = g2 at X hlt hg2 ⊢
                    have c1 := X.cell
                    have f1 := X.frozen
                    go_upto_region 24 with (fail)
                    clear c1 f1
                    have X4 : Blk (W3.setCell ⟨g2, 1, none⟩ (.int .i64 6000000)) g2 (Win.arr ⟨x, 6000000⟩) := X.setCell 1 _
                    have R4 := R3.setFar (g' := g2) (by omega) 1 (.int .i64 6000000)
                    have B4 := below_setCell B3 hg2 1 (.int .i64 6000000)
                    clear X R3 B3
                    generalize W3.setCell ⟨g2, 1, none⟩ (.int .i64 6000000) = W4 at X4 R4 B4 ⊢
                    have c4 : Has_win W4 g2 0 := ⟨⟨x, 6000000⟩, X4.is_win⟩
                    have c5 : of_win W4 g2 0 = ⟨x, 6000000⟩ := of_win_eq X4.is_win
                    have kw2 := kw'.out
                    simp only [wmk] at kw2
                    have kw := Lib.hid kw2
                    clear kw2 kw'
                    go_wp2_with fail
                    with_reducible refine callR (kw.out _) ?_
                    intro w5 b5 _ _ _
                    have X5 := X4.step b5
                    have R5 := R4.step b5
                    have B5 := below_step B4 b5
                    clear X4 R4 B4 c4 c5
                    have c4 : Has_win w5 g2 0 := ⟨⟨x, 6000000⟩, X5.is_win⟩
                    have c5 : of_win w5 g2 0 = ⟨x, 6000000⟩ := of_win_eq X5.is_win
                    have d2 := R5.plain
                    have d3 := R5.of
                    by_cases hT : D = s
                    · have HO3 := Lib.hid (HO.out.trans (if_pos hT))
                      subst hT
                      go_wp2
                      refine bodyPost_ret (results_win Tryz.results51 _ _ g ⟨x, 6000000⟩ rfl (Blk.is_win (x := ⟨x, 6000000⟩) (R5.set _))) rfl ?_
                      exact Ret.winE HO3.out (below_setRow' B5 hg _)
                    · have HO3 := Lib.hid (HO.out.trans (if_neg hT))
                      have hT1 : (D == s) = false := by simpa using hT
                      go_wp2
                      refine bodyPost_ret (results_win Tryz.results51 _ _ g ⟨0, 0⟩ rfl (Blk.is_win (x := ⟨0, 0⟩) (R5.set _))) rfl ?_
                      exact Ret.winE HO3.out (below_setRow' B5 hg _)
            · by_cases hm5 : d = 45
              · have HE := Lib.hid (show out = rwinO (raltP (s.take (s.length - 1))) (raltP (s.take (s.length - 1))) 2 s from by rw [HE2.out, HS43.out, if_neg h43, HS45.out, if_pos hm5]; rfl)
                have e0 : ((s[s.length - 1].toNat : Int) == 43) = false := by rw [hd, hm5]; rfl
                have e1 : ((s[s.length - 1].toNat : Int) == 45) = true := by rw [hd, hm5]; rfl
                clear hd h43 hm5 HS43 HS45 HE2
                go_upto_region 12 with (fail)
                go_quiet (fail)
                rename_i nq
                have RR : Blk (W.drewN nq) g #[.int .i64 0, .int .i64 0] := R
                have BB := below_drewN BW nq
                clear R BW e0 e1 q1
                generalize W.drewN nq = W at RR BB ⊢
                have R := RR; have BW := BB; clear RR BB
                generalize s.take (s.length - 1) = A at lt1 HE ⊢
                go_upto_region 13 with (fail)
                have k1 := Lib.hid (fun W => raltForm_any A W (by first | assumption | omega))
                have i1 := Lib.hid (fun h => ralt_in (s := A) h)
                generalize raltP A = ra at k1 HE i1
                obtain ⟨x, fa, ia⟩ := ra
                simp only at i1
                go_wp2_with fail
                with_reducible refine callQ (k1.out _) ?_
                intro n1
                go_wp2_with fail
                with_reducible refine callQ (k1.out _) ?_
                intro n2
                have RR : Blk ((W.drewN n1).drewN n2) g #[.int .i64 0, .int .i64 0] := R
                have BB := below_drewN (below_drewN BW n1) n2
                clear R BW k1
                generalize (W.drewN n1).drewN n2 = W2 at RR BB ⊢
                have R := RR; have BW := BB; clear RR BB
                have hlt := R.lt
                have d2 := R.plain
                have d3 := R.of
                cases fa
                · skip
                  have HO := Lib.hid (HE.out.trans (rwinO_f rfl))
                  clear HE i1
                  go_wp2
                  refine bodyPost_ret (results_win Tryz.results51 _ _ g ⟨0, 0⟩ rfl (Blk.is_win (x := ⟨0, 0⟩) (R.set _))) rfl ?_
                  exact Ret.winE HO.out (below_setRow' BW hg _)
                · cases ia
                  · skip
                    have HO := Lib.hid (HE.out.trans (rwinO_i rfl rfl))
                    clear HE i1
                    go_wp2
                    refine bodyPost_ret (results_win Tryz.results51 _ _ g ⟨0, 0⟩ rfl (Blk.is_win (x := ⟨0, 0⟩) (R.set _))) rfl ?_
                    exact Ret.winE HO.out (below_setRow' BW hg _)
                  · skip
                    by_cases hxy : x < x
                    · have HO := Lib.hid (HE.out.trans (rwinO_o rfl rfl hxy))
                      clear i1
                      go_wp2
                      refine bodyPost_ret (results_win Tryz.results51 _ _ g ⟨0, 0⟩ rfl (Blk.is_win (x := ⟨0, 0⟩) (R.set _))) rfl ?_
                      exact Ret.winE HO.out (below_setRow' BW hg _)
                    · have HO : Hid (out = if winS (-200000) x = s then (((-200000), x), 0) else ((0, 0), 4)) := Lib.hid (HE.out.trans (rwinO_w rfl rfl hxy))
                      have x1 := i1.out rfl
                      have x2 := x1.2
                      have x3 := x1.1
                      have kw' := Lib.hid (fun W => rwinText_in (-200000) x W ⟨by omega, by omega, by omega⟩)
                      clear i1 x1 HE
                      generalize winS (-200000) x = D at kw' HO
                      go_upto_region 22 with (fail)
                      have X := Blk.new W2 #[.int .i64 x, .int .i64 x] 24
                      have R3 := R.alloc (.cells #[.int .i64 x, .int .i64 x] 24)
                      have B3 := below_step BW (alloc_below W2 (.cells #[.int .i64 x, .int .i64 x] 24))
                      clear d2 d3 R
                      have hg2 : w.heap.size ≤ W2.heap.size := BW.size
                      clear BW
                      generalize W2.alloc _ = W3 at X R3 B3 ⊢
                      generalize W2.heap.size = g2 at X hlt hg2 ⊢
                      have c1 := X.cell
                      have f1 := X.frozen
                      go_upto_region 26 with (fail)
                      clear c1 f1
                      have X4 : Blk (W3.setCell ⟨g2, 0, none⟩ (.int .i64 (-200000))) g2 (Win.arr ⟨(-200000), x⟩) := X.setCell 0 _
                      have R4 := R3.setFar (g' := g2) (by omega) 0 (.int .i64 (-200000))
                      have B4 := below_setCell B3 hg2 0 (.int .i64 (-200000))
                      clear X R3 B3
                      generalize W3.setCell ⟨g2, 0, none⟩ (.int .i64 (-200000)) = W4 at X4 R4 B4 ⊢
                      have c4 : Has_win W4 g2 0 := ⟨⟨(-200000), x⟩, X4.is_win⟩
                      have c5 : of_win W4 g2 0 = ⟨(-200000), x⟩ := of_win_eq X4.is_win
                      have kw2 := kw'.out
                      simp only [wmk] at kw2
                      have kw := Lib.hid kw2
                      clear kw2 kw'
                      go_wp2_with fail
                      with_reducible refine callR (kw.out _) ?_
                      intro w5 b5 _ _ _
                      have X5 := X4.step b5
                      have R5 := R4.step b5
                      have B5 := below_step B4 b5
                      clear X4 R4 B4 c4 c5
                      have c4 : Has_win w5 g2 0 := ⟨⟨(-200000), x⟩, X5.is_win⟩
                      have c5 : of_win w5 g2 0 = ⟨(-200000), x⟩ := of_win_eq X5.is_win
                      have d2 := R5.plain
                      have d3 := R5.of
                      by_cases hT : D = s
                      · have HO3 := Lib.hid (HO.out.trans (if_pos hT))
                        subst hT
                        go_wp2
                        refine bodyPost_ret (results_win Tryz.results51 _ _ g ⟨(-200000), x⟩ rfl (Blk.is_win (x := ⟨(-200000), x⟩) (R5.set _))) rfl ?_
                        exact Ret.winE HO3.out (below_setRow' B5 hg _)
                      · have HO3 := Lib.hid (HO.out.trans (if_neg hT))
                        have hT1 : (D == s) = false := by simpa using hT
                        go_wp2
                        refine bodyPost_ret (results_win Tryz.results51 _ _ g ⟨0, 0⟩ rfl (Blk.is_win (x := ⟨0, 0⟩) (R5.set _))) rfl ?_
                        exact Ret.winE HO3.out (below_setRow' B5 hg _)
              · have HE := Lib.hid (show out = rwinO (raltP s) (raltP s) 0 s from by rw [HE2.out, HS43.out, if_neg h43, HS45.out, if_neg hm5]; rfl)
                have e0 : ((s[s.length - 1].toNat : Int) == 43) = false := by rw [hd]; exact u8_ne (d := 43) h43
                have e1 : ((s[s.length - 1].toNat : Int) == 45) = false := by rw [hd]; exact u8_ne (d := 45) hm5
                clear hd h43 hm5 HS43 HS45 HE2
                go_upto_region 13 with (fail)
                clear e0 e1 q1
                have k1 := Lib.hid (fun W => raltForm_any s W (by first | assumption | omega))
                have i1 := Lib.hid (fun h => ralt_in (s := s) h)
                generalize raltP s = ra at k1 HE i1
                obtain ⟨x, fa, ia⟩ := ra
                simp only at i1
                go_wp2_with fail
                with_reducible refine callQ (k1.out _) ?_
                intro n1
                go_wp2_with fail
                with_reducible refine callQ (k1.out _) ?_
                intro n2
                have RR : Blk ((W.drewN n1).drewN n2) g #[.int .i64 0, .int .i64 0] := R
                have BB := below_drewN (below_drewN BW n1) n2
                clear R BW k1
                generalize (W.drewN n1).drewN n2 = W2 at RR BB ⊢
                have R := RR; have BW := BB; clear RR BB
                have hlt := R.lt
                have d2 := R.plain
                have d3 := R.of
                cases fa
                · skip
                  have HO := Lib.hid (HE.out.trans (rwinO_f rfl))
                  clear HE i1
                  go_wp2
                  refine bodyPost_ret (results_win Tryz.results51 _ _ g ⟨0, 0⟩ rfl (Blk.is_win (x := ⟨0, 0⟩) (R.set _))) rfl ?_
                  exact Ret.winE HO.out (below_setRow' BW hg _)
                · cases ia
                  · skip
                    have HO := Lib.hid (HE.out.trans (rwinO_i rfl rfl))
                    clear HE i1
                    go_wp2
                    refine bodyPost_ret (results_win Tryz.results51 _ _ g ⟨0, 0⟩ rfl (Blk.is_win (x := ⟨0, 0⟩) (R.set _))) rfl ?_
                    exact Ret.winE HO.out (below_setRow' BW hg _)
                  · skip
                    by_cases hxy : x < x
                    · have HO := Lib.hid (HE.out.trans (rwinO_o rfl rfl hxy))
                      clear i1
                      go_wp2
                      refine bodyPost_ret (results_win Tryz.results51 _ _ g ⟨0, 0⟩ rfl (Blk.is_win (x := ⟨0, 0⟩) (R.set _))) rfl ?_
                      exact Ret.winE HO.out (below_setRow' BW hg _)
                    · have HO : Hid (out = if winS x x = s then ((x, x), 0) else ((0, 0), 4)) := Lib.hid (HE.out.trans (rwinO_w rfl rfl hxy))
                      have x1 := i1.out rfl
                      have x2 := x1.2
                      have x3 := x1.1
                      have kw' := Lib.hid (fun W => rwinText_in x x W ⟨by omega, by omega, by omega⟩)
                      clear i1 x1 HE
                      generalize winS x x = D at kw' HO
                      go_upto_region 22 with (fail)
                      have X := Blk.new W2 #[.int .i64 x, .int .i64 x] 24
                      have R3 := R.alloc (.cells #[.int .i64 x, .int .i64 x] 24)
                      have B3 := below_step BW (alloc_below W2 (.cells #[.int .i64 x, .int .i64 x] 24))
                      clear d2 d3 R
                      have hg2 : w.heap.size ≤ W2.heap.size := BW.size
                      clear BW
                      generalize W2.alloc _ = W3 at X R3 B3 ⊢
                      generalize W2.heap.size = g2 at X hlt hg2 ⊢
                      have X4 : Blk W3 g2 (Win.arr ⟨x, x⟩) := X
                      have R4 := R3; have B4 := B3
                      clear X R3 B3
                      have c4 : Has_win W3 g2 0 := ⟨⟨x, x⟩, X4.is_win⟩
                      have c5 : of_win W3 g2 0 = ⟨x, x⟩ := of_win_eq X4.is_win
                      have kw2 := kw'.out
                      simp only [wmk] at kw2
                      have kw := Lib.hid kw2
                      clear kw2 kw'
                      go_wp2_with fail
                      with_reducible refine callR (kw.out _) ?_
                      intro w5 b5 _ _ _
                      have X5 := X4.step b5
                      have R5 := R4.step b5
                      have B5 := below_step B4 b5
                      clear X4 R4 B4 c4 c5
                      have c4 : Has_win w5 g2 0 := ⟨⟨x, x⟩, X5.is_win⟩
                      have c5 : of_win w5 g2 0 = ⟨x, x⟩ := of_win_eq X5.is_win
                      have d2 := R5.plain
                      have d3 := R5.of
                      by_cases hT : D = s
                      · have HO3 := Lib.hid (HO.out.trans (if_pos hT))
                        subst hT
                        go_wp2
                        refine bodyPost_ret (results_win Tryz.results51 _ _ g ⟨x, x⟩ rfl (Blk.is_win (x := ⟨x, x⟩) (R5.set _))) rfl ?_
                        exact Ret.winE HO3.out (below_setRow' B5 hg _)
                      · have HO3 := Lib.hid (HO.out.trans (if_neg hT))
                        have hT1 : (D == s) = false := by simpa using hT
                        go_wp2
                        refine bodyPost_ret (results_win Tryz.results51 _ _ g ⟨0, 0⟩ rfl (Blk.is_win (x := ⟨0, 0⟩) (R5.set _))) rfl ?_
                        exact Ret.winE HO3.out (below_setRow' B5 hg _)
          · have hp0 : s = [] := List.length_eq_zero_iff.1 (by omega)
            subst hp0
            have HE := Lib.hid (show out = rwinO (raltP []) (raltP []) 0 [] from HE2.out)
            clear HE2
            go_upto_region 13 with (fail)
            have HO := Lib.hid (show out = ((0, 0), 4) from HE.out.trans (by decide))
            have k1 := Lib.hid (fun W => raltForm_any [] W (by simp))
            rw [show raltP [] = (0, false, false) from by decide] at k1
            clear HE
            go_wp2_with fail
            with_reducible refine callQ (k1.out _) ?_
            intro n1
            go_wp2_with fail
            with_reducible refine callQ (k1.out _) ?_
            intro n2
            have RR : Blk ((W.drewN n1).drewN n2) g #[.int .i64 0, .int .i64 0] := R
            have BB := below_drewN (below_drewN BW n1) n2
            clear R BW k1
            generalize (W.drewN n1).drewN n2 = W2 at RR BB ⊢
            have d2 := RR.plain
            have d3 := RR.of
            go_wp2
            refine bodyPost_ret (results_win Tryz.results51 _ _ g ⟨0, 0⟩ rfl (Blk.is_win (x := ⟨0, 0⟩) (RR.set _))) rfl ?_
            exact Ret.winE HO.out (below_setRow' BB hg _)
        · have hm : mo = true ∧ wh = miles ∧ pt = rest := by
            rcases hcase with ⟨a1, a2, a3, a4⟩ | ⟨a1, _, a2, a3⟩
            · exfalso
              rw [List.take_of_length_le (by omega)] at a4
              have := HNO.out a4
              injection this with b1 b2
              injection b2 with b2 b3
              cases b3
            · exact ⟨a1, a2, a3⟩
          clear hcase HAT HNO
          obtain ⟨rfl, rfl, rfl⟩ := hm
          have HE := Lib.hid (show out = rwinO (raltP wh) (raltP pt) 3 s from HE.out)
          simp only [if_true]
          go_upto_region 13 with (fail)
          have k1 := Lib.hid (fun W => raltForm_any wh W (by first | assumption | omega))
          have i1 := Lib.hid (fun h => ralt_in (s := wh) h)
          have k2 := Lib.hid (fun W => raltForm_any pt W (by first | assumption | omega))
          have i2 := Lib.hid (fun h => ralt_in (s := pt) h)
          generalize raltP wh = ra at k1 HE i1
          obtain ⟨x, fa, ia⟩ := ra
          generalize raltP pt = rb at k2 HE i2
          obtain ⟨y, fb, ib⟩ := rb
          simp only at i1 i2
          go_wp2_with fail
          with_reducible refine callQ (k1.out _) ?_
          intro n1
          go_wp2_with fail
          with_reducible refine callQ (k2.out _) ?_
          intro n2
          have RR : Blk ((W.drewN n1).drewN n2) g #[.int .i64 0, .int .i64 0] := R
          have BB := below_drewN (below_drewN BW n1) n2
          clear R BW k1 k2
          generalize (W.drewN n1).drewN n2 = W2 at RR BB ⊢
          have R := RR; have BW := BB; clear RR BB
          have hlt := R.lt
          have d2 := R.plain
          have d3 := R.of
          cases fa
          · skip
            have HO := Lib.hid (HE.out.trans (rwinO_f rfl))
            clear HE i1 i2
            go_wp2
            refine bodyPost_ret (results_win Tryz.results51 _ _ g ⟨0, 0⟩ rfl (Blk.is_win (x := ⟨0, 0⟩) (R.set _))) rfl ?_
            exact Ret.winE HO.out (below_setRow' BW hg _)
          · cases fb
            · skip
              have HO := Lib.hid (HE.out.trans (rwinO_f rfl))
              clear HE i1 i2
              go_wp2
              refine bodyPost_ret (results_win Tryz.results51 _ _ g ⟨0, 0⟩ rfl (Blk.is_win (x := ⟨0, 0⟩) (R.set _))) rfl ?_
              exact Ret.winE HO.out (below_setRow' BW hg _)
            · cases ia
              · skip
                have HO := Lib.hid (HE.out.trans (rwinO_i rfl rfl))
                clear HE i1 i2
                go_wp2
                refine bodyPost_ret (results_win Tryz.results51 _ _ g ⟨0, 0⟩ rfl (Blk.is_win (x := ⟨0, 0⟩) (R.set _))) rfl ?_
                exact Ret.winE HO.out (below_setRow' BW hg _)
              · cases ib
                · skip
                  have HO := Lib.hid (HE.out.trans (rwinO_i rfl rfl))
                  clear HE i1 i2
                  go_wp2
                  refine bodyPost_ret (results_win Tryz.results51 _ _ g ⟨0, 0⟩ rfl (Blk.is_win (x := ⟨0, 0⟩) (R.set _))) rfl ?_
                  exact Ret.winE HO.out (below_setRow' BW hg _)
                · skip
                  by_cases hxy : y < x
                  · have HO := Lib.hid (HE.out.trans (rwinO_o rfl rfl hxy))
                    clear i1 i2
                    go_wp2
                    refine bodyPost_ret (results_win Tryz.results51 _ _ g ⟨0, 0⟩ rfl (Blk.is_win (x := ⟨0, 0⟩) (R.set _))) rfl ?_
                    exact Ret.winE HO.out (below_setRow' BW hg _)
                  · have HO : Hid (out = if winS x y = s then ((x, y), 0) else ((0, 0), 4)) := Lib.hid (HE.out.trans (rwinO_w rfl rfl hxy))
                    have x1 := i1.out rfl
                    have x2 := x1.2
                    have x3 := x1.1
                    have y1 := i2.out rfl
                    have y2 := y1.2
                    have y3 := y1.1
                    have kw' := Lib.hid (fun W => rwinText_in x y W ⟨by omega, by omega, by omega⟩)
                    clear i1 x1 HE i2 y1
                    generalize winS x y = D at kw' HO
                    go_upto_region 22 with (fail)
                    have X := Blk.new W2 #[.int .i64 x, .int .i64 y] 24
                    have R3 := R.alloc (.cells #[.int .i64 x, .int .i64 y] 24)
                    have B3 := below_step BW (alloc_below W2 (.cells #[.int .i64 x, .int .i64 y] 24))
                    clear d2 d3 R
                    have hg2 : w.heap.size ≤ W2.heap.size := BW.size
                    clear BW
                    generalize W2.alloc _ = W3 at X R3 B3 ⊢
                    generalize W2.heap.size = g2 at X hlt hg2 ⊢
                    have X4 : Blk W3 g2 (Win.arr ⟨x, y⟩) := X
                    have R4 := R3; have B4 := B3
                    clear X R3 B3
                    have c4 : Has_win W3 g2 0 := ⟨⟨x, y⟩, X4.is_win⟩
                    have c5 : of_win W3 g2 0 = ⟨x, y⟩ := of_win_eq X4.is_win
                    have kw2 := kw'.out
                    simp only [wmk] at kw2
                    have kw := Lib.hid kw2
                    clear kw2 kw'
                    go_wp2_with fail
                    with_reducible refine callR (kw.out _) ?_
                    intro w5 b5 _ _ _
                    have X5 := X4.step b5
                    have R5 := R4.step b5
                    have B5 := below_step B4 b5
                    clear X4 R4 B4 c4 c5
                    have c4 : Has_win w5 g2 0 := ⟨⟨x, y⟩, X5.is_win⟩
                    have c5 : of_win w5 g2 0 = ⟨x, y⟩ := of_win_eq X5.is_win
                    have d2 := R5.plain
                    have d3 := R5.of
                    by_cases hT : D = s
                    · have HO3 := Lib.hid (HO.out.trans (if_pos hT))
                      subst hT
                      go_wp2
                      refine bodyPost_ret (results_win Tryz.results51 _ _ g ⟨x, y⟩ rfl (Blk.is_win (x := ⟨x, y⟩) (R5.set _))) rfl ?_
                      exact Ret.winE HO3.out (below_setRow' B5 hg _)
                    · have HO3 := Lib.hid (HO.out.trans (if_neg hT))
                      have hT1 : (D == s) = false := by simpa using hT
                      go_wp2
                      refine bodyPost_ret (results_win Tryz.results51 _ _ g ⟨0, 0⟩ rfl (Blk.is_win (x := ⟨0, 0⟩) (R5.set _))) rfl ?_
                      exact Ret.winE HO3.out (below_setRow' B5 hg _)
end Go.Proofs.YtnmpfmelaninbaaGreatDoor
