/- The reference's altForm: form, number and range of an altitude's text. Printed by wip/mkrp2.py. The reference's windows are the program's, in plain Lean. -/
import Derived.Test.YtjgondadpjildaaGreatDoorPk35
import Derived.Test.YtjgondadpjildaaGreatDoorPk32
namespace Go.Proofs.YtjgondadpjildaaGreatDoor
open Go.RowKit Go.Sort
set_option linter.unusedVariables false
set_option linter.unusedSimpArgs false
set_option maxRecDepth 100000
abbrev ralVal (x : Int × Bool × Bool) : Value := .tuple #[.int .i64 x.1, .bool x.2.1, .bool x.2.2]
theorem RetQ.ral {w w' : World} {n : Int} {a b : Bool} {x : Int × Bool × Bool} (h : x = (n, a, b)) (hw : ∃ k, w' = w.drewN k) : RetQ w (ralVal x) (.returned (.tuple #[.int .i64 n, .bool a, .bool b])) w' := ⟨by rw [h], hw⟩
theorem cutPre_cases {c : UInt8} {s t : List UInt8} {b : Bool} (h : cutPre c s = (t, b)) : (b = false ∧ t = s ∧ ∀ r, s ≠ c :: r) ∨ (b = true ∧ s = c :: t) := by
  unfold cutPre at h
  split at h
  · rename_i x r
    by_cases hx : x = c
    · rw [if_pos hx] at h
      injection h with h1 h2
      right; exact ⟨h2.symm, by rw [h1, hx]⟩
    · rw [if_neg hx] at h
      injection h with h1 h2
      left; exact ⟨h2.symm, h1.symm, fun q e => by injection e with e1 e2; exact hx e1⟩
  · injection h with h1 h2
    left; exact ⟨h2.symm, h1.symm, fun q e => by cases e⟩
theorem pointP_short {t : List UInt8} (h : ¬ 3 < t.length) : pointP t = false := by unfold pointP; simp [h]
theorem pointP_long {t : List UInt8} (h : 3 < t.length) : pointP t = (t[t.length - 3] == 46) := by
  unfold pointP
  rw [List.getElem?_eq_getElem (by omega)]
  simp [h]
theorem two_last {t : List UInt8} (h : 3 < t.length) : ∃ a b, t.drop (t.length - 2) = [a, b] := by
  have hl : (t.drop (t.length - 2)).length = 2 := by simp; omega
  match t.drop (t.length - 2), hl with
  | [a, b], _ => exact ⟨a, b, rfl⟩
theorem val_pair {a b : UInt8} (ha : isD a = true) (hb : isD b = true) : (val [a, b] : Int) = 10 * ((a.toNat : Int) - 48) + ((b.toNat : Int) - 48) := by
  have h1 : 48 ≤ a.toNat ∧ a.toNat ≤ 57 := by simpa [isD] using ha
  have h2 : 48 ≤ b.toNat ∧ b.toNat ≤ 57 := by simpa [isD] using hb
  have e : val [a, b] = 10 * (a.toNat - 48) + (b.toNat - 48) := by simp [val, numV_cons, numV_nil]
  rw [e]; omega
def raltW (neg : Bool) (wh pt : List UInt8) : Int × Bool × Bool :=
  if !plainB wh || (neg && (wh == [48] && pt == [48, 48])) then (0, false, false)
  else if 1125899906842624 < val wh then (0, true, false)
  else raltN neg (100 * (val wh : Int) + (val pt : Int))
theorem raltT_none (neg : Bool) {t : List UInt8} (h : pointP t = false) : raltT neg t = raltW neg t [48, 48] := by unfold raltT raltW badP whS ptS; rw [h]; rfl
theorem raltT_bad (neg : Bool) {t : List UInt8} (h : pointP t = true) (hh : hundB (t.drop (t.length - 2)) = false) : raltT neg t = (0, false, false) := by
  unfold raltT badP ptS; rw [h]; simp [hh]
theorem raltT_point (neg : Bool) {t : List UInt8} (h : pointP t = true) (hh : hundB (t.drop (t.length - 2)) = true) : raltT neg t = raltW neg (t.take (t.length - 3)) (t.drop (t.length - 2)) := by
  unfold raltT raltW badP whS ptS; rw [h]; simp [hh]
theorem raltW_unplain {neg : Bool} {wh pt : List UInt8} (h : plainB wh = false) : raltW neg wh pt = (0, false, false) := by unfold raltW; rw [h]; rfl
theorem raltW_zero {wh pt : List UInt8} (h1 : wh = [48]) (h2 : pt = [48, 48]) : raltW true wh pt = (0, false, false) := by subst h1; subst h2; rfl
theorem raltW_big {neg : Bool} {wh pt : List UInt8} (h : plainB wh = true) (hz : (neg && (wh == [48] && pt == [48, 48])) = false) (hb : 1125899906842624 < val wh) : raltW neg wh pt = (0, true, false) := by unfold raltW; rw [h, hz, if_neg (by simp), if_pos hb]
theorem raltW_num {neg : Bool} {wh pt : List UInt8} (h : plainB wh = true) (hz : (neg && (wh == [48] && pt == [48, 48])) = false) (hb : ¬ 1125899906842624 < val wh) : raltW neg wh pt = raltN neg (100 * (val wh : Int) + (val pt : Int)) := by unfold raltW; rw [h, hz, if_neg (by simp), if_neg hb]
set_option maxHeartbeats 16000000 in
theorem raltForm_any (s : List UInt8) (w : World) (hl : s.length ≤ 4000000000) : Calls Tryz.prog 234 #[.string ⟨s.toArray⟩] w (RetQ w (ralVal (raltP s))) := by
  obtain ⟨t, neg, hc⟩ : ∃ t neg, cutPre 45 s = (t, neg) := ⟨_, _, rfl⟩
  have HE := Lib.hid (show raltP s = raltT neg t by unfold raltP; rw [hc])
  generalize raltP s = out at HE ⊢
  rcases cutPre_cases hc with ⟨rfl, rfl, hno⟩ | ⟨rfl, rfl⟩
  · skip
    have hl2 := hl
    clear hc
    go_enter Tryz.func234, Tryz.ntmps234
    go_upto_region 1 with (fail)
    go_cut [5] (fun v wx => v = .bool false ∧ w = wx)
    case first =>
      rcases t with _ | ⟨x, r⟩
      · go_wp2
        all_goals (go_meet; exact ⟨rfl, rfl⟩)
      · have hx : ((x.toNat : Int) == 45) = false := u8_ne (d := 45) (fun e => hno r (by rw [e]))
        clear hno
        go_wp2
        all_goals (go_meet; exact ⟨rfl, rfl⟩)
    case rest =>
      obtain ⟨rfl, rfl⟩ := hcut
      clear hno
      go_upto_region 6 with (fail)
      go_cut [34] (fun v wx => v = .bool (pointP t) ∧ w = wx)
      case first =>
        by_cases h3 : 3 < t.length
        · have HPB := Lib.hid (pointP_long h3)
          have q1 : IntKind.i64.wrap ((t.length : Int) - 3) = (t.length : Int) - 3 := IntWalk.i64_in _ (by omega)
          have q2 : 0 ≤ (t.length : Int) - 3 := by omega
          have q3 : ((t.length : Int) - 3).toNat = t.length - 3 := by omega
          have q4 : (t.length : Int) - 3 < (t.length : Int) := by omega
          by_cases hd : t[t.length - 3] = 46
          · have e1 : ((t[t.length - 3].toNat : Int) == 46) = true := by rw [hd]; rfl
            have HD := Lib.hid hd; clear hd
            go_wp2
            all_goals (go_meet; exact ⟨by rw [HPB.out, HD.out]; rfl, rfl⟩)
          · have e1 : ((t[t.length - 3].toNat : Int) == 46) = false := u8_ne (d := 46) hd
            have HD := Lib.hid (show (t[t.length - 3] == 46) = false by simpa using hd); clear hd
            go_wp2
            all_goals (go_meet; exact ⟨by rw [HPB.out, HD.out], rfl⟩)
        · have HPB := Lib.hid (pointP_short h3)
          go_wp2
          all_goals (go_meet; exact ⟨by rw [HPB.out], rfl⟩)
      case rest =>
        obtain ⟨rfl, rfl⟩ := hcut
        go_upto_if 34 with (fail)
        cases hp : pointP t
        · have HE2 := Lib.hid (HE.out.trans (raltT_none false hp))
          have HW : Hid (∃ n, w = w.drewN n) := Lib.hid ⟨0, rfl⟩
          obtain ⟨W, hW⟩ : ∃ W, W = w := ⟨_, rfl⟩
          go_upto_region 10 with (fail)
          obtain ⟨wh, hwh⟩ : ∃ wh, wh = t := ⟨_, rfl⟩
          rw [← hwh] at HE2 hl2 ⊢
          rw [← hW] at HW ⊢
          have HW : Hid (∃ n, W = w.drewN n) := Lib.hid ⟨0, hW⟩
          clear hW hwh hp
          have hwl : wh.length ≤ 4611686018427387904 := by omega
          have HX : Hid (∀ (n : Int) (a b : Bool), out = (n, a, b) → RetQ w (ralVal out) (.returned (.tuple #[.int .i64 n, .bool a, .bool b])) W) := Lib.hid (fun n a b h => RetQ.ral h HW.out)
          have HX2 : Hid (∀ (n : Int) (a b : Bool) (k : Nat), out = (n, a, b) → RetQ w (ralVal out) (.returned (.tuple #[.int .i64 n, .bool a, .bool b])) (W.drewN k)) := Lib.hid (fun n a b k h => RetQ.ral h (by obtain ⟨j, hj⟩ := HW.out; exact ⟨j + k, by rw [hj, World.drewN_drewN]⟩))
          cases hpl : plainB wh
          · have HO := Lib.hid (HE2.out.trans (raltW_unplain hpl))
            have k1 := Lib.hid (rplain_any wh W hwl)
            rw [hpl] at k1
            clear hpl HE2
            go_wp2_with fail
            with_reducible refine callP k1.out ?_
            go_wp2
            go_ret3
            exact HX.out _ _ _ HO.out
          · have HPL := Lib.hid hpl
            have k1 := Lib.hid (rplain_any wh W hwl)
            have k3 := Lib.hid (rvalue8_any wh W hwl (plainB_all hpl))
            rw [hpl] at k1
            clear hpl
            have HZ := Lib.hid (show (false && (wh == [48] && [48, 48] == [48, 48])) = false from rfl)
            by_cases hv : val wh ≤ 4611686018427387904
            · have HV := Lib.hid (show valS wh = ((val wh : Int), true) from by unfold valS; rw [if_pos hv])
              rw [HV.out] at k3
              by_cases hb : 1125899906842624 < val wh
              · have HO := Lib.hid (HE2.out.trans (raltW_big HPL.out HZ.out hb))
                generalize hvv : val wh = v at hv hb k3
                clear hvv HV HE2
                go_wp2_with (first | (with_reducible refine callP k1.out ?_) | (with_reducible refine callP k3.out ?_))
                go_ret3
                exact HX.out _ _ _ HO.out
              · have HO := Lib.hid (HE2.out.trans (raltW_num HPL.out HZ.out hb))
                generalize hvv : val wh = v at hv hb k3 HO
                clear hvv HV HE2
                have r6 : IntKind.i64.wrap (100 * (v : Int)) = 100 * (v : Int) := IntWalk.i64_in _ (by omega)
                have HVP := Lib.hid (show (val [48, 48] : Int) = 0 from by decide)
                go_upto_region 15 with (first | (with_reducible refine callP k1.out ?_) | (with_reducible refine callP k3.out ?_))
                go_quiet (fail)
                clear r6
                go_wp2
                all_goals (go_ret3; refine HX2.out _ _ _ _ ?_; rw [HO.out, HVP.out, Int.add_zero]; unfold raltN; first | rfl | (simp; omega) | (refine Prod.ext ?_ (Prod.ext rfl ?_) <;> (simp; try omega)))
            · have HV := Lib.hid (show valS wh = (0, false) from by unfold valS; rw [if_neg hv])
              rw [HV.out] at k3
              have HO := Lib.hid (HE2.out.trans (raltW_big HPL.out HZ.out (by omega)))
              clear HV HE2 hv
              go_wp2_with (first | (with_reducible refine callP k1.out ?_) | (with_reducible refine callP k3.out ?_))
              go_ret3
              exact HX.out _ _ _ HO.out
        · have h3 : 3 < t.length := by
            rcases Nat.lt_or_ge 3 t.length with h | h
            · exact h
            · rw [pointP_short (by omega)] at hp; cases hp
          obtain ⟨a, b, hab⟩ := two_last h3
          have q1 : IntKind.i64.wrap ((t.length : Int) - 3) = (t.length : Int) - 3 := IntWalk.i64_in _ (by omega)
          have q2 : 0 ≤ (t.length : Int) - 3 := by omega
          have q3 : ((t.length : Int) - 3).toNat = t.length - 3 := by omega
          have q4 : (t.length : Int) - 3 ≤ (t.length : Int) := by omega
          have p1 : IntKind.i64.wrap ((t.length : Int) - 2) = (t.length : Int) - 2 := IntWalk.i64_in _ (by omega)
          have p2 : 0 ≤ (t.length : Int) - 2 := by omega
          have p3 : ((t.length : Int) - 2).toNat = t.length - 2 := by omega
          have p4 : (t.length : Int) - 2 ≤ (t.length : Int) := by omega
          have hwl : (t.take (t.length - 3)).length ≤ 4611686018427387904 := by simp; omega
          have hbad := fun hh => HE.out.trans (raltT_bad false hp hh)
          have hok := fun hh => HE.out.trans (raltT_point false hp hh)
          rw [hab] at hbad hok
          have HBAD := Lib.hid hbad
          have HOK := Lib.hid hok
          have HAB := Lib.hid hab
          have HP := Lib.hid hp
          clear hbad hok hp
          go_upto_region 7 with (fail)
          go_quiet (fail)
          rename_i nq
          clear q1 q2 q3 q4 p1 p2 p3 p4
          go_upto_region 8 with (fail)
          have HW : Hid (∃ n, w.drewN nq = w.drewN n) := Lib.hid ⟨nq, rfl⟩
          generalize w.drewN nq = W at HW ⊢
          have HX : Hid (∀ (n : Int) (a b : Bool), out = (n, a, b) → RetQ w (ralVal out) (.returned (.tuple #[.int .i64 n, .bool a, .bool b])) W) := Lib.hid (fun n a b h => RetQ.ral h HW.out)
          have HX2 : Hid (∀ (n : Int) (a b : Bool) (k : Nat), out = (n, a, b) → RetQ w (ralVal out) (.returned (.tuple #[.int .i64 n, .bool a, .bool b])) (W.drewN k)) := Lib.hid (fun n a b k h => RetQ.ral h (by obtain ⟨j, hj⟩ := HW.out; exact ⟨j + k, by rw [hj, World.drewN_drewN]⟩))
          obtain ⟨wh, hwh⟩ : ∃ wh, wh = t.take (t.length - 3) := ⟨_, rfl⟩
          rw [← hwh] at HOK hwl ⊢
          clear hwh
          cases hh : hundB [a, b]
          · have HO := Lib.hid (HBAD.out hh)
            have HH := Lib.hid hh
            clear hh
            go_wp2_with fail
            all_goals first
              | (go_ret3; exact HX.out _ _ _ HO.out)
              | (exfalso; have hh := HH.out; clear HE HX HX2 HW HO HBAD HOK HAB HP; simp [hundB, isD] at hh; simp at *; first | omega | grind)
          · have HE2 := Lib.hid (HOK.out hh)
            obtain ⟨a', b', e, isa, isb, hn⟩ := hund_two hh
            injection e with e1 e2
            injection e2 with e2 _
            rw [← e1] at isa hn
            rw [← e2] at isb hn
            clear e1 e2 hh
            have npq : ([a, b] == [48, 48]) = false := by rw [beq_eq_false_iff_ne]; intro h; injection h with h1 h2; injection h2 with h2 _; exact hn ⟨h1, h2⟩
            have ha : 48 ≤ a.toNat ∧ a.toNat ≤ 57 := by simpa [isD] using isa
            have hb' : 48 ≤ b.toNat ∧ b.toNat ≤ 57 := by simpa [isD] using isb
            obtain ⟨ha1, ha2⟩ := ha
            obtain ⟨hb1, hb2⟩ := hb'
            have HN := Lib.hid hn
            clear hn
            go_upto_region 10 with (fail)
            all_goals try (exfalso; have hn := HN.out; simp at *; first | omega | grind)
            cases hpl : plainB wh
            · have HO := Lib.hid (HE2.out.trans (raltW_unplain hpl))
              have k1 := Lib.hid (rplain_any wh W hwl)
              rw [hpl] at k1
              clear hpl HE2
              go_wp2_with fail
              with_reducible refine callP k1.out ?_
              go_wp2
              go_ret3
              exact HX.out _ _ _ HO.out
            · have HPL := Lib.hid hpl
              have k1 := Lib.hid (rplain_any wh W hwl)
              have k3 := Lib.hid (rvalue8_any wh W hwl (plainB_all hpl))
              rw [hpl] at k1
              clear hpl
              have HZ := Lib.hid (show (false && (wh == [48] && [a, b] == [48, 48])) = false from rfl)
              by_cases hv : val wh ≤ 4611686018427387904
              · have HV := Lib.hid (show valS wh = ((val wh : Int), true) from by unfold valS; rw [if_pos hv])
                rw [HV.out] at k3
                by_cases hb : 1125899906842624 < val wh
                · have HO := Lib.hid (HE2.out.trans (raltW_big HPL.out HZ.out hb))
                  generalize hvv : val wh = v at hv hb k3
                  clear hvv HV HE2
                  go_wp2_with (first | (with_reducible refine callP k1.out ?_) | (with_reducible refine callP k3.out ?_))
                  go_ret3
                  exact HX.out _ _ _ HO.out
                · have HO := Lib.hid (HE2.out.trans (raltW_num HPL.out HZ.out hb))
                  generalize hvv : val wh = v at hv hb k3 HO
                  clear hvv HV HE2
                  have HVP := Lib.hid (val_pair isa isb)
                  have r1 : IntKind.u8.wrap ((a.toNat : Int) - 48) = (a.toNat : Int) - 48 := by simp only [IntKind.wrap, IntKind.bits, IntKind.signed]; simp; omega
                  have r2 : IntKind.u8.wrap ((b.toNat : Int) - 48) = (b.toNat : Int) - 48 := by simp only [IntKind.wrap, IntKind.bits, IntKind.signed]; simp; omega
                  have r3 : IntKind.i64.wrap ((a.toNat : Int) - 48) = (a.toNat : Int) - 48 := IntWalk.i64_in _ (by omega)
                  have r4 : IntKind.i64.wrap ((b.toNat : Int) - 48) = (b.toNat : Int) - 48 := IntWalk.i64_in _ (by omega)
                  have r5 : IntKind.i64.wrap (10 * ((a.toNat : Int) - 48)) = 10 * ((a.toNat : Int) - 48) := IntWalk.i64_in _ (by omega)
                  have r6 : IntKind.i64.wrap (100 * (v : Int)) = 100 * (v : Int) := IntWalk.i64_in _ (by omega)
                  have r7 : IntKind.i64.wrap (100 * (v : Int) + 10 * ((a.toNat : Int) - 48)) = 100 * (v : Int) + 10 * ((a.toNat : Int) - 48) := IntWalk.i64_in _ (by omega)
                  have r8 : IntKind.i64.wrap (100 * (v : Int) + 10 * ((a.toNat : Int) - 48) + ((b.toNat : Int) - 48)) = 100 * (v : Int) + 10 * ((a.toNat : Int) - 48) + ((b.toNat : Int) - 48) := IntWalk.i64_in _ (by omega)
                  go_upto_region 15 with (first | (with_reducible refine callP k1.out ?_) | (with_reducible refine callP k3.out ?_))
                  go_quiet (fail)
                  clear r1 r2 r3 r4 r5 r6 r7 r8
                  go_wp2
                  all_goals (go_ret3; refine HX2.out _ _ _ _ ?_; rw [HO.out, HVP.out]; unfold raltN; (try rw [← Int.add_assoc]); first | rfl | (simp; omega) | (refine Prod.ext ?_ (Prod.ext rfl ?_) <;> (simp; try omega)))
              · have HV := Lib.hid (show valS wh = (0, false) from by unfold valS; rw [if_neg hv])
                rw [HV.out] at k3
                have HO := Lib.hid (HE2.out.trans (raltW_big HPL.out HZ.out (by omega)))
                clear HV HE2 hv
                go_wp2_with (first | (with_reducible refine callP k1.out ?_) | (with_reducible refine callP k3.out ?_))
                go_ret3
                exact HX.out _ _ _ HO.out
  · skip
    have hl2 : t.length ≤ 4000000000 := by simp at hl; omega
    clear hc
    go_enter Tryz.func234, Tryz.ntmps234
    go_upto_region 1 with (fail)
    go_cut [5] (fun v wx => v = .bool true ∧ w = wx)
    case first =>
      go_wp2
      all_goals first | (go_meet; exact ⟨rfl, rfl⟩) | (exfalso; simp at *; done) | (exfalso; omega)
    case rest =>
      obtain ⟨rfl, rfl⟩ := hcut
      go_upto_region 6 with (fail)
      go_cut [34] (fun v wx => v = .bool (pointP t) ∧ w = wx)
      case first =>
        by_cases h3 : 3 < t.length
        · have HPB := Lib.hid (pointP_long h3)
          have q1 : IntKind.i64.wrap ((t.length : Int) - 3) = (t.length : Int) - 3 := IntWalk.i64_in _ (by omega)
          have q2 : 0 ≤ (t.length : Int) - 3 := by omega
          have q3 : ((t.length : Int) - 3).toNat = t.length - 3 := by omega
          have q4 : (t.length : Int) - 3 < (t.length : Int) := by omega
          by_cases hd : t[t.length - 3] = 46
          · have e1 : ((t[t.length - 3].toNat : Int) == 46) = true := by rw [hd]; rfl
            have HD := Lib.hid hd; clear hd
            go_wp2
            all_goals (go_meet; exact ⟨by rw [HPB.out, HD.out]; rfl, rfl⟩)
          · have e1 : ((t[t.length - 3].toNat : Int) == 46) = false := u8_ne (d := 46) hd
            have HD := Lib.hid (show (t[t.length - 3] == 46) = false by simpa using hd); clear hd
            go_wp2
            all_goals (go_meet; exact ⟨by rw [HPB.out, HD.out], rfl⟩)
        · have HPB := Lib.hid (pointP_short h3)
          go_wp2
          all_goals (go_meet; exact ⟨by rw [HPB.out], rfl⟩)
      case rest =>
        obtain ⟨rfl, rfl⟩ := hcut
        go_upto_if 34 with (fail)
        cases hp : pointP t
        · have HE2 := Lib.hid (HE.out.trans (raltT_none true hp))
          have HW : Hid (∃ n, w = w.drewN n) := Lib.hid ⟨0, rfl⟩
          obtain ⟨W, hW⟩ : ∃ W, W = w := ⟨_, rfl⟩
          go_upto_region 10 with (fail)
          obtain ⟨wh, hwh⟩ : ∃ wh, wh = t := ⟨_, rfl⟩
          rw [← hwh] at HE2 hl2 ⊢
          rw [← hW] at HW ⊢
          have HW : Hid (∃ n, W = w.drewN n) := Lib.hid ⟨0, hW⟩
          clear hW hwh hp
          have hwl : wh.length ≤ 4611686018427387904 := by omega
          have HX : Hid (∀ (n : Int) (a b : Bool), out = (n, a, b) → RetQ w (ralVal out) (.returned (.tuple #[.int .i64 n, .bool a, .bool b])) W) := Lib.hid (fun n a b h => RetQ.ral h HW.out)
          have HX2 : Hid (∀ (n : Int) (a b : Bool) (k : Nat), out = (n, a, b) → RetQ w (ralVal out) (.returned (.tuple #[.int .i64 n, .bool a, .bool b])) (W.drewN k)) := Lib.hid (fun n a b k h => RetQ.ral h (by obtain ⟨j, hj⟩ := HW.out; exact ⟨j + k, by rw [hj, World.drewN_drewN]⟩))
          cases hpl : plainB wh
          · have HO := Lib.hid (HE2.out.trans (raltW_unplain hpl))
            have k1 := Lib.hid (rplain_any wh W hwl)
            rw [hpl] at k1
            clear hpl HE2
            go_wp2_with fail
            with_reducible refine callP k1.out ?_
            go_wp2
            go_ret3
            exact HX.out _ _ _ HO.out
          · have HPL := Lib.hid hpl
            have k1 := Lib.hid (rplain_any wh W hwl)
            have k3 := Lib.hid (rvalue8_any wh W hwl (plainB_all hpl))
            rw [hpl] at k1
            clear hpl
            by_cases h48 : wh = [48]
            · have HO := Lib.hid (HE2.out.trans (raltW_zero h48 rfl))
              have e48 : (wh == [48]) = true := by simpa using h48
              have H48 := Lib.hid h48; clear h48 HE2 k3
              go_wp2_with fail
              with_reducible refine callP k1.out ?_
              go_wp2
              go_ret3
              exact HX.out _ _ _ HO.out
            · have e48 : (wh == [48]) = false := by simpa using h48
              have HZ := Lib.hid (show (true && (wh == [48] && [48, 48] == [48, 48])) = false from by rw [e48]; rfl)
              have H48 := Lib.hid h48; clear h48
              by_cases hv : val wh ≤ 4611686018427387904
              · have HV := Lib.hid (show valS wh = ((val wh : Int), true) from by unfold valS; rw [if_pos hv])
                rw [HV.out] at k3
                by_cases hb : 1125899906842624 < val wh
                · have HO := Lib.hid (HE2.out.trans (raltW_big HPL.out HZ.out hb))
                  generalize hvv : val wh = v at hv hb k3
                  clear hvv HV HE2
                  go_wp2_with (first | (with_reducible refine callP k1.out ?_) | (with_reducible refine callP k3.out ?_))
                  go_ret3
                  exact HX.out _ _ _ HO.out
                · have HO := Lib.hid (HE2.out.trans (raltW_num HPL.out HZ.out hb))
                  generalize hvv : val wh = v at hv hb k3 HO
                  clear hvv HV HE2
                  have r6 : IntKind.i64.wrap (100 * (v : Int)) = 100 * (v : Int) := IntWalk.i64_in _ (by omega)
                  have HVP := Lib.hid (show (val [48, 48] : Int) = 0 from by decide)
                  go_upto_region 15 with (first | (with_reducible refine callP k1.out ?_) | (with_reducible refine callP k3.out ?_))
                  go_quiet (fail)
                  clear r6
                  go_wp2
                  all_goals (go_ret3; refine HX2.out _ _ _ _ ?_; rw [HO.out, HVP.out, Int.add_zero]; unfold raltN; first | rfl | (simp; omega) | (refine Prod.ext ?_ (Prod.ext rfl ?_) <;> (simp; try omega)))
              · have HV := Lib.hid (show valS wh = (0, false) from by unfold valS; rw [if_neg hv])
                rw [HV.out] at k3
                have HO := Lib.hid (HE2.out.trans (raltW_big HPL.out HZ.out (by omega)))
                clear HV HE2 hv
                go_wp2_with (first | (with_reducible refine callP k1.out ?_) | (with_reducible refine callP k3.out ?_))
                go_ret3
                exact HX.out _ _ _ HO.out
        · have h3 : 3 < t.length := by
            rcases Nat.lt_or_ge 3 t.length with h | h
            · exact h
            · rw [pointP_short (by omega)] at hp; cases hp
          obtain ⟨a, b, hab⟩ := two_last h3
          have q1 : IntKind.i64.wrap ((t.length : Int) - 3) = (t.length : Int) - 3 := IntWalk.i64_in _ (by omega)
          have q2 : 0 ≤ (t.length : Int) - 3 := by omega
          have q3 : ((t.length : Int) - 3).toNat = t.length - 3 := by omega
          have q4 : (t.length : Int) - 3 ≤ (t.length : Int) := by omega
          have p1 : IntKind.i64.wrap ((t.length : Int) - 2) = (t.length : Int) - 2 := IntWalk.i64_in _ (by omega)
          have p2 : 0 ≤ (t.length : Int) - 2 := by omega
          have p3 : ((t.length : Int) - 2).toNat = t.length - 2 := by omega
          have p4 : (t.length : Int) - 2 ≤ (t.length : Int) := by omega
          have hwl : (t.take (t.length - 3)).length ≤ 4611686018427387904 := by simp; omega
          have hbad := fun hh => HE.out.trans (raltT_bad true hp hh)
          have hok := fun hh => HE.out.trans (raltT_point true hp hh)
          rw [hab] at hbad hok
          have HBAD := Lib.hid hbad
          have HOK := Lib.hid hok
          have HAB := Lib.hid hab
          have HP := Lib.hid hp
          clear hbad hok hp
          go_upto_region 7 with (fail)
          go_quiet (fail)
          rename_i nq
          clear q1 q2 q3 q4 p1 p2 p3 p4
          go_upto_region 8 with (fail)
          have HW : Hid (∃ n, w.drewN nq = w.drewN n) := Lib.hid ⟨nq, rfl⟩
          generalize w.drewN nq = W at HW ⊢
          have HX : Hid (∀ (n : Int) (a b : Bool), out = (n, a, b) → RetQ w (ralVal out) (.returned (.tuple #[.int .i64 n, .bool a, .bool b])) W) := Lib.hid (fun n a b h => RetQ.ral h HW.out)
          have HX2 : Hid (∀ (n : Int) (a b : Bool) (k : Nat), out = (n, a, b) → RetQ w (ralVal out) (.returned (.tuple #[.int .i64 n, .bool a, .bool b])) (W.drewN k)) := Lib.hid (fun n a b k h => RetQ.ral h (by obtain ⟨j, hj⟩ := HW.out; exact ⟨j + k, by rw [hj, World.drewN_drewN]⟩))
          obtain ⟨wh, hwh⟩ : ∃ wh, wh = t.take (t.length - 3) := ⟨_, rfl⟩
          rw [← hwh] at HOK hwl ⊢
          clear hwh
          cases hh : hundB [a, b]
          · have HO := Lib.hid (HBAD.out hh)
            have HH := Lib.hid hh
            clear hh
            go_wp2_with fail
            all_goals first
              | (go_ret3; exact HX.out _ _ _ HO.out)
              | (exfalso; have hh := HH.out; clear HE HX HX2 HW HO HBAD HOK HAB HP; simp [hundB, isD] at hh; simp at *; first | omega | grind)
          · have HE2 := Lib.hid (HOK.out hh)
            obtain ⟨a', b', e, isa, isb, hn⟩ := hund_two hh
            injection e with e1 e2
            injection e2 with e2 _
            rw [← e1] at isa hn
            rw [← e2] at isb hn
            clear e1 e2 hh
            have npq : ([a, b] == [48, 48]) = false := by rw [beq_eq_false_iff_ne]; intro h; injection h with h1 h2; injection h2 with h2 _; exact hn ⟨h1, h2⟩
            have ha : 48 ≤ a.toNat ∧ a.toNat ≤ 57 := by simpa [isD] using isa
            have hb' : 48 ≤ b.toNat ∧ b.toNat ≤ 57 := by simpa [isD] using isb
            obtain ⟨ha1, ha2⟩ := ha
            obtain ⟨hb1, hb2⟩ := hb'
            have HN := Lib.hid hn
            clear hn
            go_upto_region 10 with (fail)
            all_goals try (exfalso; have hn := HN.out; simp at *; first | omega | grind)
            cases hpl : plainB wh
            · have HO := Lib.hid (HE2.out.trans (raltW_unplain hpl))
              have k1 := Lib.hid (rplain_any wh W hwl)
              rw [hpl] at k1
              clear hpl HE2
              go_wp2_with fail
              with_reducible refine callP k1.out ?_
              go_wp2
              go_ret3
              exact HX.out _ _ _ HO.out
            · have HPL := Lib.hid hpl
              have k1 := Lib.hid (rplain_any wh W hwl)
              have k3 := Lib.hid (rvalue8_any wh W hwl (plainB_all hpl))
              rw [hpl] at k1
              clear hpl
              have HZ := Lib.hid (show (true && (wh == [48] && [a, b] == [48, 48])) = false from by rw [npq]; simp)
              by_cases h48 : wh = [48]
              · have e48 : (wh == [48]) = true := by simpa using h48
                have H48 := Lib.hid h48; clear h48
                by_cases hv : val wh ≤ 4611686018427387904
                · have HV := Lib.hid (show valS wh = ((val wh : Int), true) from by unfold valS; rw [if_pos hv])
                  rw [HV.out] at k3
                  by_cases hb : 1125899906842624 < val wh
                  · have HO := Lib.hid (HE2.out.trans (raltW_big HPL.out HZ.out hb))
                    generalize hvv : val wh = v at hv hb k3
                    clear hvv HV HE2
                    go_wp2_with (first | (with_reducible refine callP k1.out ?_) | (with_reducible refine callP k3.out ?_))
                    go_ret3
                    exact HX.out _ _ _ HO.out
                  · have HO := Lib.hid (HE2.out.trans (raltW_num HPL.out HZ.out hb))
                    generalize hvv : val wh = v at hv hb k3 HO
                    clear hvv HV HE2
                    have HVP := Lib.hid (val_pair isa isb)
                    have r1 : IntKind.u8.wrap ((a.toNat : Int) - 48) = (a.toNat : Int) - 48 := by simp only [IntKind.wrap, IntKind.bits, IntKind.signed]; simp; omega
                    have r2 : IntKind.u8.wrap ((b.toNat : Int) - 48) = (b.toNat : Int) - 48 := by simp only [IntKind.wrap, IntKind.bits, IntKind.signed]; simp; omega
                    have r3 : IntKind.i64.wrap ((a.toNat : Int) - 48) = (a.toNat : Int) - 48 := IntWalk.i64_in _ (by omega)
                    have r4 : IntKind.i64.wrap ((b.toNat : Int) - 48) = (b.toNat : Int) - 48 := IntWalk.i64_in _ (by omega)
                    have r5 : IntKind.i64.wrap (10 * ((a.toNat : Int) - 48)) = 10 * ((a.toNat : Int) - 48) := IntWalk.i64_in _ (by omega)
                    have r6 : IntKind.i64.wrap (100 * (v : Int)) = 100 * (v : Int) := IntWalk.i64_in _ (by omega)
                    have r7 : IntKind.i64.wrap (100 * (v : Int) + 10 * ((a.toNat : Int) - 48)) = 100 * (v : Int) + 10 * ((a.toNat : Int) - 48) := IntWalk.i64_in _ (by omega)
                    have r8 : IntKind.i64.wrap (100 * (v : Int) + 10 * ((a.toNat : Int) - 48) + ((b.toNat : Int) - 48)) = 100 * (v : Int) + 10 * ((a.toNat : Int) - 48) + ((b.toNat : Int) - 48) := IntWalk.i64_in _ (by omega)
                    go_upto_region 15 with (first | (with_reducible refine callP k1.out ?_) | (with_reducible refine callP k3.out ?_))
                    go_quiet (fail)
                    clear r1 r2 r3 r4 r5 r6 r7 r8
                    go_wp2
                    all_goals (go_ret3; refine HX2.out _ _ _ _ ?_; rw [HO.out, HVP.out]; unfold raltN; (try rw [← Int.add_assoc]); first | rfl | (simp; omega) | (refine Prod.ext ?_ (Prod.ext rfl ?_) <;> (simp; try omega)))
                · have HV := Lib.hid (show valS wh = (0, false) from by unfold valS; rw [if_neg hv])
                  rw [HV.out] at k3
                  have HO := Lib.hid (HE2.out.trans (raltW_big HPL.out HZ.out (by omega)))
                  clear HV HE2 hv
                  go_wp2_with (first | (with_reducible refine callP k1.out ?_) | (with_reducible refine callP k3.out ?_))
                  go_ret3
                  exact HX.out _ _ _ HO.out
              · have e48 : (wh == [48]) = false := by simpa using h48
                have H48 := Lib.hid h48; clear h48
                by_cases hv : val wh ≤ 4611686018427387904
                · have HV := Lib.hid (show valS wh = ((val wh : Int), true) from by unfold valS; rw [if_pos hv])
                  rw [HV.out] at k3
                  by_cases hb : 1125899906842624 < val wh
                  · have HO := Lib.hid (HE2.out.trans (raltW_big HPL.out HZ.out hb))
                    generalize hvv : val wh = v at hv hb k3
                    clear hvv HV HE2
                    go_wp2_with (first | (with_reducible refine callP k1.out ?_) | (with_reducible refine callP k3.out ?_))
                    go_ret3
                    exact HX.out _ _ _ HO.out
                  · have HO := Lib.hid (HE2.out.trans (raltW_num HPL.out HZ.out hb))
                    generalize hvv : val wh = v at hv hb k3 HO
                    clear hvv HV HE2
                    have HVP := Lib.hid (val_pair isa isb)
                    have r1 : IntKind.u8.wrap ((a.toNat : Int) - 48) = (a.toNat : Int) - 48 := by simp only [IntKind.wrap, IntKind.bits, IntKind.signed]; simp; omega
                    have r2 : IntKind.u8.wrap ((b.toNat : Int) - 48) = (b.toNat : Int) - 48 := by simp only [IntKind.wrap, IntKind.bits, IntKind.signed]; simp; omega
                    have r3 : IntKind.i64.wrap ((a.toNat : Int) - 48) = (a.toNat : Int) - 48 := IntWalk.i64_in _ (by omega)
                    have r4 : IntKind.i64.wrap ((b.toNat : Int) - 48) = (b.toNat : Int) - 48 := IntWalk.i64_in _ (by omega)
                    have r5 : IntKind.i64.wrap (10 * ((a.toNat : Int) - 48)) = 10 * ((a.toNat : Int) - 48) := IntWalk.i64_in _ (by omega)
                    have r6 : IntKind.i64.wrap (100 * (v : Int)) = 100 * (v : Int) := IntWalk.i64_in _ (by omega)
                    have r7 : IntKind.i64.wrap (100 * (v : Int) + 10 * ((a.toNat : Int) - 48)) = 100 * (v : Int) + 10 * ((a.toNat : Int) - 48) := IntWalk.i64_in _ (by omega)
                    have r8 : IntKind.i64.wrap (100 * (v : Int) + 10 * ((a.toNat : Int) - 48) + ((b.toNat : Int) - 48)) = 100 * (v : Int) + 10 * ((a.toNat : Int) - 48) + ((b.toNat : Int) - 48) := IntWalk.i64_in _ (by omega)
                    go_upto_region 15 with (first | (with_reducible refine callP k1.out ?_) | (with_reducible refine callP k3.out ?_))
                    go_quiet (fail)
                    clear r1 r2 r3 r4 r5 r6 r7 r8
                    go_wp2
                    all_goals (go_ret3; refine HX2.out _ _ _ _ ?_; rw [HO.out, HVP.out]; unfold raltN; (try rw [← Int.add_assoc]); first | rfl | (simp; omega) | (refine Prod.ext ?_ (Prod.ext rfl ?_) <;> (simp; try omega)))
                · have HV := Lib.hid (show valS wh = (0, false) from by unfold valS; rw [if_neg hv])
                  rw [HV.out] at k3
                  have HO := Lib.hid (HE2.out.trans (raltW_big HPL.out HZ.out (by omega)))
                  clear HV HE2 hv
                  go_wp2_with (first | (with_reducible refine callP k1.out ?_) | (with_reducible refine callP k3.out ?_))
                  go_ret3
                  exact HX.out _ _ _ HO.out
end Go.Proofs.YtjgondadpjildaaGreatDoor
namespace Go.Proofs.YtjgondadpjildaaGreatDoor
open Go.RowKit Go.Sort
set_option linter.unusedVariables false
set_option linter.unusedSimpArgs false
set_option maxRecDepth 100000
def rwinO (ra rb : Int × Bool × Bool) (kind : Int) (s : List UInt8) : (Int × Int) × Int :=
  if !(ra.2.1 && rb.2.1) then ((0, 0), 4)
  else if !(ra.2.2 && rb.2.2) then ((0, 0), 2)
  else if rb.1 < ra.1 then ((0, 0), 9)
  else if winS (if kind = 2 then -200000 else ra.1) (if kind = 1 then 6000000 else rb.1) = s then (((if kind = 2 then -200000 else ra.1), (if kind = 1 then 6000000 else rb.1)), 0) else ((0, 0), 4)
def rparseWinS (s : List UInt8) : (Int × Int) × Int :=
  if s = [45] then ((-200000, 6000000), 0)
  else if (cutAt 58 s).2.2 then rwinO (raltP (cutAt 58 s).1) (raltP (cutAt 58 s).2.1) 3 s
  else if (cutSuf 43 s).2 then rwinO (raltP (cutSuf 43 s).1) (raltP (cutSuf 43 s).1) 1 s
  else if (cutSuf 45 s).2 then rwinO (raltP (cutSuf 45 s).1) (raltP (cutSuf 45 s).1) 2 s
  else rwinO (raltP s) (raltP s) 0 s
theorem raltN_in {neg : Bool} {n : Int} (h : (raltN neg n).2.2 = true) : -200000 ≤ (raltN neg n).1 ∧ (raltN neg n).1 ≤ 6000000 := by
  unfold raltN at h ⊢
  simp only [Bool.and_eq_true, decide_eq_true_eq] at h
  exact h
theorem ralt_in {s : List UInt8} (h : (raltP s).2.2 = true) : -200000 ≤ (raltP s).1 ∧ (raltP s).1 ≤ 6000000 := by
  unfold raltP raltT at h ⊢
  revert h
  repeat' split
  · intro h; cases h
  · intro h; cases h
  · intro h; cases h
  · exact raltN_in
theorem ralt_form {s : List UInt8} (h : (raltP s).2.2 = true) : (raltP s).2.1 = true := by
  unfold raltP raltT raltN at h ⊢
  revert h
  repeat' split
  all_goals simp
/-- The reference's windows are the program's. -/
theorem rwin_same (s : List UInt8) : ((rparseWinS s).2 = 0 ↔ (parseWinS s).2 = 0) ∧ ((rparseWinS s).2 = 0 → (rparseWinS s).1 = (parseWinS s).1) := by
  have key : ∀ (a b : List UInt8) (kind : Int) (q : (Int × Int) × Bool), q = (((if kind = 2 then -200000 else (altP a).1), (if kind = 1 then 6000000 else (altP b).1)), (altP a).2 && (altP b).2) → ((kind = 1 ∨ kind = 2) → a = b) →
      ((rwinO (raltP a) (raltP b) kind s).2 = 0 ↔ (parseWinO s q).2 = 0) ∧ ((rwinO (raltP a) (raltP b) kind s).2 = 0 → (rwinO (raltP a) (raltP b) kind s).1 = (parseWinO s q).1) := by
    intro a b kind q hq hk
    obtain ⟨a1, a2⟩ := ralt_altP a
    obtain ⟨b1, b2⟩ := ralt_altP b
    have a3 := fun h => ralt_form (s := a) h
    have b3 := fun h => ralt_form (s := b) h
    have a4 := fun h => ralt_in (s := a) h
    have b4 := fun h => ralt_in (s := b) h
    subst hq
    unfold rwinO parseWinO
    simp only
    have rlo : rangedB (-200000) = true := by decide
    have rhi : rangedB 6000000 = true := by decide
    by_cases h12 : kind = 1 ∨ kind = 2
    · have hab := hk h12
      subst hab
      cases ha : ((raltP a).2.1 && (raltP a).2.2)
      · rw [ha] at a1
        have hne : ¬ ((altP a).2 = true ∧ rangedB (altP a).1 = true) := by rintro ⟨h1, h2⟩; rw [h1, h2] at a1; cases a1
        have h1 : ((if !((raltP a).2.1 && (raltP a).2.1) then ((0, 0), 4) else if !((raltP a).2.2 && (raltP a).2.2) then ((0, 0), 2) else if (raltP a).1 < (raltP a).1 then ((0, 0), 9) else if winS (if kind = 2 then -200000 else (raltP a).1) (if kind = 1 then 6000000 else (raltP a).1) = s then (((if kind = 2 then -200000 else (raltP a).1), (if kind = 1 then 6000000 else (raltP a).1)), 0) else ((0, 0), 4)) : (Int × Int) × Int).2 ≠ 0 := by
          cases h5 : (raltP a).2.1
          · simp
          · rw [h5] at ha
            have h6 : (raltP a).2.2 = false := by simpa using ha
            rw [h6]; simp
        have h2 : ((if ((altP a).2 && (altP a).2) = true then (if rangedB (if kind = 2 then -200000 else (altP a).1) = true ∧ rangedB (if kind = 1 then 6000000 else (altP a).1) = true then (if (if kind = 1 then 6000000 else (altP a).1) < (if kind = 2 then -200000 else (altP a).1) then ((0, 0), 9) else if winS (if kind = 2 then -200000 else (altP a).1) (if kind = 1 then 6000000 else (altP a).1) = s then ((((if kind = 2 then -200000 else (altP a).1)), (if kind = 1 then 6000000 else (altP a).1)), 0) else ((0, 0), 4)) else ((0, 0), 2)) else ((0, 0), 4)) : (Int × Int) × Int).2 ≠ 0 := by
          cases h5 : (altP a).2
          · simp
          · have h6 : rangedB (altP a).1 = false := by
              cases h7 : rangedB (altP a).1
              · rfl
              · exact absurd ⟨h5, h7⟩ hne
            rcases h12 with rfl | rfl <;> simp [h6]
        exact ⟨⟨fun h => absurd h h1, fun h => absurd h h2⟩, fun h => absurd h h1⟩
      · rw [ha] at a1
        have e1 := a2 a1.symm
        simp only [Bool.and_eq_true] at ha
        have hr := a1.symm
        simp only [Bool.and_eq_true] at hr
        have hin := a4 ha.2
        rw [ha.1, ha.2, hr.1, e1]
        rw [e1] at hin
        rcases h12 with rfl | rfl
        · simp only [hr.2, rhi]
          have : ¬ (6000000 < (altP a).1) := by omega
          simp [this, hr.2, rhi]
        · simp only [hr.2, rlo]
          have : ¬ ((altP a).1 < -200000) := by omega
          simp [this, hr.2, rlo]
    · have k1 : ¬ kind = 1 := fun h => h12 (.inl h)
      have k2 : ¬ kind = 2 := fun h => h12 (.inr h)
      simp only [k1, k2, if_false]
      cases ha : ((raltP a).2.1 && (raltP a).2.2)
      · rw [ha] at a1
        cases h5 : (raltP a).2.1
        · cases h8 : (altP a).2
          · simp
          · have h6 : rangedB (altP a).1 = false := by rw [h8] at a1; simpa using a1.symm
            cases (altP b).2 <;> simp [h6]
        · have h6 : (raltP a).2.2 = false := by rw [h5] at ha; simpa using ha
          cases h8 : (altP a).2
          · cases (raltP b).2.1 <;> simp [h6]
          · have h7 : rangedB (altP a).1 = false := by rw [h8] at a1; simpa using a1.symm
            cases (altP b).2 <;> cases (raltP b).2.1 <;> simp [h6, h7]
      · rw [ha] at a1
        have e1 := a2 a1.symm
        simp only [Bool.and_eq_true] at ha
        have hr := a1.symm
        simp only [Bool.and_eq_true] at hr
        rw [ha.1, ha.2, hr.1, e1, hr.2]
        cases hb : ((raltP b).2.1 && (raltP b).2.2)
        · rw [hb] at b1
          cases h5 : (raltP b).2.1
          · cases h8 : (altP b).2
            · simp
            · have h6 : rangedB (altP b).1 = false := by rw [h8] at b1; simpa using b1.symm
              simp [h6]
          · have h6 : (raltP b).2.2 = false := by rw [h5] at hb; simpa using hb
            cases h8 : (altP b).2
            · simp [h6]
            · have h7 : rangedB (altP b).1 = false := by rw [h8] at b1; simpa using b1.symm
              simp [h6, h7]
        · rw [hb] at b1
          have e2 := b2 b1.symm
          simp only [Bool.and_eq_true] at hb
          have hr2 := b1.symm
          simp only [Bool.and_eq_true] at hr2
          rw [hb.1, hb.2, hr2.1, e2, hr2.2]
          simp
  rw [parseWinO_eq]
  unfold rparseWinS
  by_cases h45 : s = [45]
  · subst h45
    rw [if_pos rfl, winP_1]
    decide
  · rw [if_neg h45]
    cases h58 : (cutAt 58 s).2.2
    · simp only [Bool.false_eq_true, if_false]
      cases h43 : (cutSuf 43 s).2
      · simp only [Bool.false_eq_true, if_false]
        cases h4 : (cutSuf 45 s).2
        · simp only [Bool.false_eq_true, if_false]
          exact key s s 0 _ (by rw [winP_5 h45 h58 h43 h4]; simp) (by intro h; omega)
        · simp only [if_true]
          exact key _ _ 2 _ (by rw [winP_4 h45 h58 h43 h4]; simp) (fun _ => rfl)
      · simp only [if_true]
        exact key _ _ 1 _ (by rw [winP_3 h45 h58 h43]; simp) (fun _ => rfl)
    · simp only [if_true]
      exact key _ _ 3 _ (by rw [winP_2 h45 h58]; simp) (by intro h; omega)
end Go.Proofs.YtjgondadpjildaaGreatDoor
