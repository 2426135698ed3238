/- Distances read: record.ParseDist, leg.dist, leg.speed. leg.dist, leg.speed. What is laid stays where only blocks of the caller's own are written. -/
import Derived.Test.YtlleijickhifmaaGreatDoorPk20
import Derived.Lib.ConvBytes
import Derived.Test.YtlleijickhifmaaGreatDoorPk07
import Derived.Test.YtlleijickhifmaaGreatDoorPk13
namespace Go.Proofs.YtlleijickhifmaaGreatDoor
open Go.RowKit Go.Sort
set_option linter.unusedVariables false
set_option linter.unusedSimpArgs false
set_option maxRecDepth 100000
theorem distP3_bad1 {a r : List UInt8} {b : Bool} (hp : plainB a = false) : distP3 a r b = (0, 4) := by unfold distP3; rw [if_neg (by simp [hp])]
theorem distP3_bad2 {a r : List UInt8} (hr : restOk r = false) : distP3 a r true = (0, 4) := by unfold distP3; rw [if_neg (by simp [hr])]
theorem distP3_one {a r : List UInt8} (hp : plainB a = true) : distP3 a r false = if 9 < a.length then (0, 2) else if 8000000 < val a * 6000 then (0, 2) else (((val a * 6000 : Nat) : Int), 0) := by
  unfold distP3; rw [if_pos ⟨hp, .inl rfl⟩]; simp
theorem distP3_two {a r : List UInt8} (hp : plainB a = true) (hr : restOk r = true) : distP3 a r true = if 6000 ≤ val r then (0, 4) else if 9 < a.length then (0, 2) else if 8000000 < val a * 6000 + val r then (0, 2) else (((val a * 6000 + val r : Nat) : Int), 0) := by
  unfold distP3; rw [if_pos ⟨hp, .inr hr⟩]; simp
theorem val_nine {a : List UInt8} (hp : plainB a = true) (h : a.length ≤ 9) : val a < 1000000000 := by
  have hv := val_lt a (plainB_all hp)
  have h2 : 10 ^ a.length ≤ 10 ^ 9 := Nat.pow_le_pow_right (by decide) h
  have h3 : (10 : Nat) ^ 9 = 1000000000 := by decide
  omega
set_option maxHeartbeats 4000000 in
theorem parseDist_any (l : List UInt8) (w : World) (hL : Laid w) (hl : l.length ≤ 4000000000) : Calls Tryz.prog 35 #[.string ⟨l.toArray⟩] w (Ret w (intsVal (distP l))) := by
  have HE := Lib.hid (show distP l = distP3 (cutAt 43 l).1 (cutAt 43 l).2.1 (cutAt 43 l).2.2 from rfl)
  have k1 := Lib.hid (cut_ret l 43 w hL hl)
  have hl2 := cutAt_len 43 l
  generalize cutAt 43 l = q at k1 hl2 HE
  obtain ⟨miles, rest, two⟩ := q
  simp only at hl2 HE
  obtain ⟨l2, l3⟩ := hl2
  generalize distP l = out at HE ⊢
  cases hp : plainB miles
  · have HO := Lib.hid (HE.out.trans (distP3_bad1 hp))
    have HP := Lib.hid hp; clear hp HE
    go_enter Tryz.func35, Tryz.ntmps35
    go_wp2_with fail
    with_reducible refine callR k1.out ?_
    intro w1 b1 _ _ _
    go_wp2_with fail
    with_reducible refine callP (plain_any miles w1 (by omega)) ?_
    rw [HP.out]
    go_wp2
    go_ret2
    exact Ret.ints HO.out b1
  · have HP := Lib.hid hp; clear hp
    cases two
    · have HO := Lib.hid (HE.out.trans (distP3_one HP.out))
      clear HE
      go_enter Tryz.func35, Tryz.ntmps35
      go_wp2_with fail
      with_reducible refine callR k1.out ?_
      intro w1 b1 _ _ _
      go_wp2_with fail
      with_reducible refine callP (plain_any miles w1 (by omega)) ?_
      rw [HP.out]
      by_cases h9 : 9 < miles.length
      · go_wp2
        go_ret2
        exact Ret.ints (by rw [HO.out, if_pos h9]) b1
      · have hv := val_nine HP.out (by omega)
        go_wp2_with fail
        with_reducible refine callR (parseInt_any miles w1 HP.out (by omega)) ?_
        intro w2 b2 _ _ _
        have HO' := Lib.hid (HO.out.trans (if_neg h9))
        clear HO
        generalize val miles = V at HO' hv ⊢
        obtain ⟨V', hV'⟩ : ∃ V' : Int, V' = (V : Nat) := ⟨_, rfl⟩
        rw [← hV']
        have hV0 : 0 ≤ V' := by omega
        have hV1 : V' ≤ 1000000000 := by omega
        have HV' := Lib.hid hV'; clear hV' hv
        go_wp2
        all_goals
          go_ret2
          refine Ret.ints ?_ (below_step b1 b2)
          have e := HV'.out
          rw [HO'.out]
          first
            | (rw [if_pos (by omega)]; done)
            | (rw [if_neg (by omega)]; refine Prod.ext ?_ rfl; simp only; omega)
    · cases hr : plainB rest
      · have HO := Lib.hid (HE.out.trans (distP3_bad2 (by unfold restOk; rw [hr]; rfl)))
        have HR := Lib.hid hr; clear hr HE
        go_enter Tryz.func35, Tryz.ntmps35
        go_wp2_with fail
        with_reducible refine callR k1.out ?_
        intro w1 b1 _ _ _
        go_wp2_with fail
        with_reducible refine callP (plain_any miles w1 (by omega)) ?_
        rw [HP.out]
        go_wp2_with fail
        with_reducible refine callP (plain_any rest w1 (by omega)) ?_
        rw [HR.out]
        go_wp2
        go_ret2
        exact Ret.ints HO.out b1
      · have HR := Lib.hid hr; clear hr
        have HK := Lib.hid (show restOk rest = (!(rest == [48]) && decide (rest.length ≤ 4)) by unfold restOk; rw [HR.out]; rfl)
        cases hk : restOk rest
        · have HO := Lib.hid (HE.out.trans (distP3_bad2 hk))
          rw [hk] at HK
          clear HE hk
          go_enter Tryz.func35, Tryz.ntmps35
          go_wp2_with fail
          with_reducible refine callR k1.out ?_
          intro w1 b1 _ _ _
          go_wp2_with fail
          with_reducible refine callP (plain_any miles w1 (by omega)) ?_
          rw [HP.out]
          go_wp2_with fail
          with_reducible refine callP (plain_any rest w1 (by omega)) ?_
          rw [HR.out]
          go_wp2_with fail
          all_goals first
            | (go_ret2; exact Ret.ints HO.out b1)
            | (exfalso; have hx := HK.out; grind)
        · have HO := Lib.hid (HE.out.trans (distP3_two HP.out hk))
          rw [hk] at HK
          clear HE hk
          have hr4 : rest.length ≤ 4 := by have := HK.out; simp at this; omega
          have vr : val rest < 1000000000 := val_nine HR.out (by omega)
          go_enter Tryz.func35, Tryz.ntmps35
          go_wp2_with fail
          with_reducible refine callR k1.out ?_
          intro w1 b1 _ _ _
          have L1 := hL.below b1
          go_wp2_with fail
          with_reducible refine callP (plain_any miles w1 (by omega)) ?_
          rw [HP.out]
          go_wp2_with fail
          with_reducible refine callP (plain_any rest w1 (by omega)) ?_
          rw [HR.out]
          go_wp2_with fail
          all_goals try (exfalso; have hx := HK.out; grind)
          with_reducible refine callR (parseInt_any rest w1 HR.out (by omega)) ?_
          intro w2 b2 _ _ _
          generalize val rest = R at HO vr ⊢
          obtain ⟨R', hR'⟩ : ∃ R' : Int, R' = (R : Nat) := ⟨_, rfl⟩
          rw [← hR']
          have hR0 : 0 ≤ R' := by omega
          have hR1 : R' ≤ 1000000000 := by omega
          have HR' := Lib.hid hR'; clear hR' vr
          by_cases h9 : 9 < miles.length
          · go_wp2
            all_goals
              go_ret2
              refine Ret.ints ?_ (below_step b1 b2)
              have e := HR'.out
              rw [HO.out]
              first
                | (rw [if_pos (by omega)]; done)
                | (rw [if_neg (by omega), if_pos h9]; done)
          · have hv := val_nine HP.out (by omega)
            have vp := Lib.hid (fun w => parseInt_any miles w HP.out (by omega))
            generalize val miles = V at HO hv vp ⊢
            obtain ⟨V', hV'⟩ : ∃ V' : Int, V' = (V : Nat) := ⟨_, rfl⟩
            rw [← hV'] at vp
            have hV0 : 0 ≤ V' := by omega
            have hV1 : V' ≤ 1000000000 := by omega
            have HV' := Lib.hid hV'; clear hV' hv
            go_wp2_with (go_at_call 33; ((with_reducible refine callR (vp.out _) ?_); intro w3 b3 _ _ _))
            all_goals
              go_ret2
              first | refine Ret.ints ?_ (below_step (below_step b1 b2) b3) | refine Ret.ints ?_ (below_step b1 b2)
              have e := HR'.out
              have e2 := HV'.out
              rw [HO.out]
              first
                | (rw [if_pos (by omega)]; done)
                | (rw [if_neg (by omega), if_neg h9, if_pos (by omega)]; done)
                | (rw [if_neg (by omega), if_neg h9, if_neg (by omega)]; refine Prod.ext ?_ rfl; simp only; omega)
end Go.Proofs.YtlleijickhifmaaGreatDoor
namespace Go.Proofs.YtlleijickhifmaaGreatDoor
open Go.RowKit Go.Sort
set_option linter.unusedVariables false
set_option linter.unusedSimpArgs false
set_option maxRecDepth 100000
theorem legDist_nil (c : UInt8) : legDistS c [] = (0, false) := rfl
theorem legDist_no {c x : UInt8} {r : List UInt8} (h : ¬ x = c) : legDistS c (x :: r) = (0, false) := by unfold legDistS; dsimp only; rw [if_neg (fun e => h e.1)]
theorem legDist_bad {c : UInt8} {r : List UInt8} (h : ¬ ((distP r).2 = 0 ∧ (distP r).1 ≠ 0)) : legDistS c (c :: r) = (0, false) := by unfold legDistS; dsimp only; rw [if_neg (fun e => h e.2)]
theorem legDist_ok {c : UInt8} {r : List UInt8} (h : (distP r).2 = 0 ∧ (distP r).1 ≠ 0) : legDistS c (c :: r) = ((distP r).1, distS (distP r).1.toNat == r) := by unfold legDistS; dsimp only; rw [if_pos ⟨rfl, h⟩]
/-- The number so far: ten times what stood ahead, and a digit. -/
theorem speedS_no {l : List UInt8} (h : speedB l = false) : speedS l = (0, false) := by unfold speedS; rw [h]; rfl
theorem speedS_ok {l : List UInt8} (h : speedB l = true) : speedS l = ((val l.tail : Int), true) := by unfold speedS; rw [h]; rfl
theorem speedB_two (x y : UInt8) (r : List UInt8) : speedB (x :: y :: r) = (x == 115 && y != 48 && decide (r.length ≤ 3) && (y :: r).all isD) := rfl
end Go.Proofs.YtlleijickhifmaaGreatDoor
namespace Go.Proofs.YtlleijickhifmaaGreatDoor
open Go.RowKit
set_option linter.unusedVariables false
set_option linter.unusedSimpArgs false
theorem Laid.touch {S : List Nat} {w0 w w' : World} (h : Laid w0) (hb : Below w0.heap.size w0 w) (t : Touch S w w') (hs : ∀ x ∈ S, w0.heap.size ≤ x) : Laid w' := h.below (t.below hb hs)
end Go.Proofs.YtlleijickhifmaaGreatDoor
