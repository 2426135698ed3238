/- leg.dist, leg.speed. -/
import Derived.Test.YtjijpkimlgbepaaGreatDoorPk30
import Derived.Lib.ConvBytes
namespace Go.Proofs.YtjijpkimlgbepaaGreatDoor
open Go.RowKit Go.Sort
set_option linter.unusedVariables false
set_option linter.unusedSimpArgs false
set_option maxRecDepth 100000
theorem legDist_nil (c : UInt8) : legDistS c [] = (0, false) := rfl
theorem legDist_no {c x : UInt8} {r : List UInt8} (h : ¬ x = c) : legDistS c (x :: r) = (0, false) := by unfold legDistS; dsimp only; rw [if_neg (fun e => h e.1)]
theorem legDist_bad {c : UInt8} {r : List UInt8} (h : ¬ ((distP r).2 = 0 ∧ (distP r).1 ≠ 0)) : legDistS c (c :: r) = (0, false) := by unfold legDistS; dsimp only; rw [if_neg (fun e => h e.2)]
theorem legDist_ok {c : UInt8} {r : List UInt8} (h : (distP r).2 = 0 ∧ (distP r).1 ≠ 0) : legDistS c (c :: r) = ((distP r).1, distS (distP r).1.toNat == r) := by unfold legDistS; dsimp only; rw [if_pos ⟨rfl, h⟩]
set_option maxHeartbeats 4000000 in
theorem legdist_any (c : UInt8) (l : List UInt8) (w : World) (hL : Laid w) (hl : l.length ≤ 4000000000) : Calls Tryz.prog 57 #[.int .u8 (c.toNat : Int), .string ⟨l.toArray⟩] w (Ret w (numVal (legDistS c l))) := by
  cases l with
  | nil =>
    go_enter Tryz.func57, Tryz.ntmps57
    go_wp2
    go_ret2
    exact Ret.num rfl (Below.refl _ _)
  | cons x r =>
    by_cases hx : x = c
    · subst hx
      have k1 := Lib.hid (parseDist_any r w hL (by simp at hl; omega))
      have HB := Lib.hid (legDist_bad (c := x) (r := r))
      have HK := Lib.hid (legDist_ok (c := x) (r := r))
      have HD := Lib.hid (distS_distP (s := r))
      generalize legDistS x (x :: r) = out at HB HK ⊢
      generalize distP r = q at k1 HB HK HD
      obtain ⟨d, e⟩ := q
      simp only at HB HK HD
      by_cases hok : e = 0 ∧ d ≠ 0
      · obtain ⟨rfl, hd⟩ := hok
        obtain ⟨d0, d1⟩ := HD.out rfl
        have k2 := Lib.hid (fun w L => distText_any d w L)
        rw [distT_in ⟨d0, d1⟩] at k2
        have HO := Lib.hid (HK.out ⟨rfl, hd⟩)
        have hd' : (d == 0) = false := by simpa using hd
        clear HB HK HD hd
        have h9 : (distS d.toNat).length ≤ 10 := distS_len (by omega)
        generalize distS d.toNat = D at k2 HO h9
        go_enter Tryz.func57, Tryz.ntmps57
        go_wp2_with fail
        with_reducible refine callR k1.out ?_
        intro w1 b1 _ _ _
        have L1 := hL.below b1
        go_wp2_with fail
        with_reducible refine callR (k2.out _ L1) ?_
        intro w2 b2 _ _ _
        go_wp2
        go_quiet (fail)
        go_wp2
        go_ret2
        refine Ret.num ?_ (below_drewN (below_step b1 b2) _)
        rw [HO.out]
      · have HO := Lib.hid (HB.out hok)
        have HN := Lib.hid hok
        clear HB HK HD hok
        go_enter Tryz.func57, Tryz.ntmps57
        go_wp2_with fail
        with_reducible refine callR k1.out ?_
        intro w1 b1 _ _ _
        go_wp2_with fail
        all_goals first
          | (go_ret2; exact Ret.num HO.out b1)
          | (exfalso; have := HN.out; grind)
    · have h1 : ((x.toNat : Int) != (c.toNat : Int)) = true := by simp only [bne, u8_ne hx]; rfl
      have HO := Lib.hid (legDist_no (r := r) hx)
      go_enter Tryz.func57, Tryz.ntmps57
      go_wp2
      go_ret2
      exact Ret.num HO.out (Below.refl _ _)
/-- The number so far: ten times what stood ahead, and a digit. -/
theorem speedS_no {l : List UInt8} (h : speedB l = false) : speedS l = (0, false) := by unfold speedS; rw [h]; rfl
theorem speedS_ok {l : List UInt8} (h : speedB l = true) : speedS l = ((val l.tail : Int), true) := by unfold speedS; rw [h]; rfl
theorem speedB_two (x y : UInt8) (r : List UInt8) : speedB (x :: y :: r) = (x == 115 && y != 48 && decide (r.length ≤ 3) && (y :: r).all isD) := rfl
set_option maxHeartbeats 4000000 in
theorem speed_any (l : List UInt8) (w : World) (hl : l.length ≤ 4000000000) : Calls Tryz.prog 88 #[.string ⟨l.toArray⟩] w (Ret w (numVal (speedS l))) := by
  by_cases h25 : 2 ≤ l.length ∧ l.length ≤ 5
  · match l, h25 with
    | x :: y :: r, h25 =>
      have hr : r.length ≤ 3 := by have := h25.2; simp at this; omega
      clear h25 hl
      by_cases hx : x = 115 ∧ ¬ y = 48
      · obtain ⟨rfl, hy⟩ := hx
        have HB := Lib.hid (show speedB (115 :: y :: r) = (y :: r).all isD by rw [speedB_two]; simp [hy, hr])
        have hy1 : ((y.toNat : Int) == 48) = false := u8_ne (d := 48) hy
        clear hy
        have cv := Lib.run_convert_string_bytes (P := Tryz.prog) w 9 73 5 ⟨(y :: r).toArray⟩ Tryz.underlying9 Tryz.underlying73 Tryz.underlying5
        have cb := Lib.bytesWorld_below w 5 ⟨(y :: r).toArray⟩
        have cc := Lib.hid (fun j hj => Lib.bytesWorld_cell w 5 ⟨(y :: r).toArray⟩ j hj)
        have HS := Lib.hid (fun h => speedS_ok (l := 115 :: y :: r) h)
        have HN := Lib.hid (fun h => speedS_no (l := 115 :: y :: r) h)
        simp only [List.tail_cons] at HS
        generalize hs : speedS (115 :: y :: r) = out at HS HN ⊢
        clear hs
        generalize hw1 : Lib.bytesWorld w 5 ⟨(y :: r).toArray⟩ = w1 at cv cb cc
        clear hw1
        go_enter Tryz.func88, Tryz.ntmps88
        go_wp2
        go_loop [4, 29] (fun n i => ∃ k : Nat, k ≤ r.length + 1 ∧ i = .int .i64 k ∧ n = .int .i64 (val ((y :: r).take k) : Nat) ∧ ((y :: r).take k).all isD = true) (fun _ i => r.length + 1 - (intOf i).toNat)
        case atStart => exact ⟨0, by omega, rfl, by simp [val, numV_nil], by simp⟩
        case round =>
          obtain ⟨k, hk, rfl, rfl, ha⟩ := hrel
          have hv := val_take_lt (y :: r) k (by omega) ha
          by_cases hlt : k < r.length + 1
          · have hlt' : k < (y :: r).length := by simpa using hlt
            have HS2 := Lib.hid (val_take_succ (y :: r) k hlt')
            have HA := Lib.hid (take_all_succ isD (y :: r) k hlt' ha)
            have HF := Lib.hid (fun hd => all_take_false (l := y :: r) hlt' hd)
            have hc : w1.cell? ⟨w.heap.size, k, none⟩ = some (.int .u8 ((y :: r)[k].toNat : Nat)) := by
              have := cc.out k (by simp [ByteArray.size]; omega)
              rw [this]; simp [List.getD, hlt]
            clear ha
            generalize val ((y :: r).take k) = m at hv HS2 ⊢
            generalize hcc : (y :: r)[k] = c at hc HS2 HA HF
            clear hcc
            go_wp2
            all_goals first
              | (go_ret2
                 refine Ret.num ?_ cb
                 exact HN.out (by rw [HB.out]; exact HF.out (by grind [isD])))
              | (go_round
                 case rel => exact ⟨k + 1, by omega, by go_num, by rw [HS2.out]; congr 1; omega, HA.out (by grind [isD])⟩
                 case measure => simp [intOf]; omega)
          · rw [List.take_of_length_le (by simp; omega)] at ha
            have HA := Lib.hid ha; clear ha
            have HT := Lib.hid (List.take_of_length_le (l := y :: r) (i := k) (by simp; omega))
            generalize (y :: r).take k = t at hv HT ⊢
            go_wp2
            go_ret2
            refine Ret.num ?_ cb
            rw [HT.out]
            exact HS.out (by rw [HB.out]; exact HA.out)
      · have HO := Lib.hid (speedS_no (l := x :: y :: r) (by rw [speedB_two]; grind))
        have HX := Lib.hid hx; clear hx
        generalize speedS (x :: y :: r) = out at HO ⊢
        have e1 := @u8_ne x 115
        have e2 := @u8_ne y 48
        by_cases hx1 : x = 115
        · by_cases hy1 : y = 48
          · subst hx1; subst hy1
            go_enter Tryz.func88, Tryz.ntmps88
            go_wp2
            go_ret2
            exact Ret.num HO.out (Below.refl _ _)
          · exact absurd ⟨hx1, hy1⟩ HX.out
        · have f1 : ((x.toNat : Int) != 115) = true := by simp only [bne, e1 hx1]; exact congrArg Bool.not (e1 hx1)
          clear e1 e2
          go_enter Tryz.func88, Tryz.ntmps88
          go_wp2
          go_ret2
          exact Ret.num HO.out (Below.refl _ _)
  · have HO := Lib.hid (speedS_no (l := l) (by
      match l, h25 with
      | [], _ => rfl
      | [x], _ => rfl
      | x :: y :: r, h25 => rw [speedB_two]; simp at h25; simp; intros; omega))
    generalize speedS l = out at HO ⊢
    have h25' := Lib.hid h25; clear h25
    by_cases h2 : l.length < 2
    · have h2' : (l.length : Int) < 2 := by omega
      go_enter Tryz.func88, Tryz.ntmps88
      go_wp2
      go_ret2
      exact Ret.num HO.out (Below.refl _ _)
    · have h5 : (5 : Int) < l.length := by have := h25'.out; omega
      go_enter Tryz.func88, Tryz.ntmps88
      go_wp2
      go_ret2
      exact Ret.num HO.out (Below.refl _ _)
end Go.Proofs.YtjijpkimlgbepaaGreatDoor
