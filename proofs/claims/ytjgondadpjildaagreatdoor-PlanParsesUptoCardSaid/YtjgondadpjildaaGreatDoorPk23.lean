/- Layer 21's texts: the small functions that read and write words; the program's and the reference's; walks. The names of the types, of the program and of the reference; what a leg's check says behind a change of its window. The reference's texts: distances, windows, and of a leg: the same as the program's. Printed by wip/mkreftx.py. -/
import Derived.Test.YtjgondadpjildaaGreatDoorPk21
import Derived.OwnWalk
import Derived.Test.YtjgondadpjildaaGreatDoorPk15
import Derived.Test.YtjgondadpjildaaGreatDoorPk22
import Derived.Test.YtjgondadpjildaaGreatDoorPk12
import Derived.Test.YtjgondadpjildaaGreatDoorPk16
import Derived.Test.YtjgondadpjildaaGreatDoorPk08
import Derived.Test.YtjgondadpjildaaGreatDoorPk19
import Derived.Test.YtjgondadpjildaaGreatDoorPk20
namespace Go.Proofs.YtjgondadpjildaaGreatDoor
open Go.RowKit Go.Sort
set_option linter.unusedVariables false
set_option linter.unusedSimpArgs false
set_option maxRecDepth 100000
theorem undash_any (s : List UInt8) (w : World) (hs : s.length ≤ 4000000000) : Calls Tryz.prog 33 #[.string ⟨s.toArray⟩] w (RetP w (.string ⟨(undashB s).toArray⟩)) := by
  by_cases h : s = [45]
  · subst h
    go_enter Tryz.func33, Tryz.ntmps33
    go_wp2
    go_ret
    exact RetP.str rfl rfl
  · have hu := Lib.hid (show undashB s = s by simp [undashB, h])
    have h0 : (s == [45]) = false := by simpa using h
    clear h
    go_enter Tryz.func33, Tryz.ntmps33
    go_wp2
    go_ret
    exact RetP.str hu.out.symm rfl
theorem rvalue_any (s : List UInt8) (w : World) (hs : s.length ≤ 4000000000) : Calls Tryz.prog 37 #[.string ⟨s.toArray⟩] w (RetP w (.string ⟨(undashB s).toArray⟩)) := by
  by_cases h : s = [45]
  · subst h
    go_enter Tryz.func37, Tryz.ntmps37
    go_wp2
    go_ret
    exact RetP.str rfl rfl
  · have hu := Lib.hid (show undashB s = s by simp [undashB, h])
    have h0 : (s == [45]) = false := by simpa using h
    clear h
    go_enter Tryz.func37, Tryz.ntmps37
    go_wp2
    go_ret
    exact RetP.str hu.out.symm rfl
theorem rword_any (s : List UInt8) (w : World) (hs : s.length ≤ 4611686018427387904) : Calls Tryz.prog 51 #[.string ⟨s.toArray⟩] w (RetP w (.string ⟨(dashB s).toArray⟩)) := by
  go_enter Tryz.func51, Tryz.ntmps51
  cases s with
  | nil => go_wp2; go_ret; exact ⟨rfl, rfl⟩
  | cons x r =>
    have h0 : ¬ ((x :: r) = ([] : List UInt8)) := by simp
    go_wp2; go_ret; exact ⟨rfl, rfl⟩
/-- The call returns the two parts and whether there is a cut; the world is as it was. -/
theorem rcut_any (l : List UInt8) (c : UInt8) (w : World) (hl : l.length ≤ 4000000000) :
    Calls Tryz.prog 36 #[.string ⟨l.toArray⟩, .int .u8 c.toNat] w (RetQ w (.tuple #[.string ⟨(cutAt c l).1.toArray⟩, .string ⟨(cutAt c l).2.1.toArray⟩, .bool (cutAt c l).2.2])) := by
  generalize hq : cutAt c l = q
  have HQ0 := Lib.hid hq; clear hq
  go_enter Tryz.func36, Tryz.ntmps36
  go_wp2
  go_loop [7] (fun i => ∃ k : Nat, k ≤ l.length ∧ i = .int .i64 k ∧ (l.take k).all (· != c) = true) (fun i => l.length - (intOf i).toNat)
  case atStart => exact ⟨0, by omega, rfl, by simp⟩
  case round =>
    obtain ⟨k, hk, rfl, hq⟩ := hrel
    have HQ := Lib.hid hq; clear hq
    by_cases hlt : k < l.length
    · by_cases hc : l[k] = c
      · have hs := Lib.hid (show q = (l.take k, l.drop (k+1), true) by rw [← HQ0.out, cutAt_at c l k hlt HQ.out hc])
        have h1 : ((l[k].toNat : Int) == (c.toNat : Int)) = true := u8_eq hc
        clear hc
        have q1 : IntKind.i64.wrap ((k : Int) + 1) = (k : Int) + 1 := IntWalk.i64_in _ (by omega)
        have q2 : (0 : Int) ≤ (k : Int) + 1 := by omega
        have q3 : ((k : Int) + 1).toNat = k + 1 := by omega
        have q4 : (k : Int) + 1 ≤ l.length := by omega
        have q5 : (k : Int) ≤ l.length := by omega
        go_upto_region 5 with (fail)
        go_region
        go_wp2
        go_ret3
        exact ⟨by rw [hs.out]; simp; done, 1, rfl⟩
      · have h1 : ((l[k].toNat : Int) == (c.toNat : Int)) = false := u8_ne hc
        go_wp2
        go_round
        case rel => exact ⟨k + 1, by omega, by go_num, take_all_succ _ l k hlt HQ.out (by simp [hc])⟩
        case measure => simp [intOf]; omega
    · have hs := Lib.hid (show q = (l, [], false) by rw [← HQ0.out, cutAt_none c l (by have := HQ.out; rwa [List.take_of_length_le (by omega)] at this)])
      go_wp2
      go_ret3
      exact ⟨by rw [hs.out]; rfl, 0, rfl⟩
theorem pnum_any (s : List UInt8) (w : World) (hs : s.length ≤ 4000000000) (hR : ErrsAt w) : Calls Tryz.prog 34 #[.string ⟨s.toArray⟩] w (Ret w (.int .i64 (numP s))) := by
  have k := Lib.hid (parseIntP_any s w hs hR)
  generalize numP s = n at k ⊢
  go_enter Tryz.func34, Tryz.ntmps34
  go_wp2_with (go_at_call 75; ((with_reducible refine callNum k.out ?_); intro ev w1 B1))
  go_ret
  exact Ret.int rfl B1
set_option maxHeartbeats 1000000 in
theorem unpoint_any (s : List UInt8) (w : World) (hL : Laid w) (hs : s.length ≤ 4000000000) (hR : ErrsAt w) : Calls Tryz.prog 79 #[.string ⟨s.toArray⟩] w (Ret w (.agg (Pt.arr ⟨(unpointP s).1, (unpointP s).2⟩))) := by
  have HU := Lib.hid (show unpointP s = (numP (cutAt 44 s).1, numP (cutAt 44 s).2.1) from rfl)
  have hc := cutAt_len 44 s
  generalize hq : cutAt 44 s = q at hc HU
  have HQ := Lib.hid hq; clear hq
  obtain ⟨a, b, f⟩ := q
  simp only at hc HU
  obtain ⟨ha, hb⟩ := hc
  go_enter Tryz.func79, Tryz.ntmps79
  go_upto_region 1 with (fail)
  have X0 : Blk (w.alloc (.cells #[.int .i64 0, .int .i64 0] 38)) w.heap.size #[.int .i64 0, .int .i64 0] := Blk.new w _ _
  have B0 := (Below.refl w.heap.size w).alloc (Nat.le_refl _) (.cells #[.int .i64 0, .int .i64 0] 38)
  have L0 := hL.below B0
  have R0 := hR.below B0
  generalize w.alloc _ = W at X0 B0 L0 R0 ⊢
  obtain ⟨g, hg0⟩ : ∃ g, g = w.heap.size := ⟨_, rfl⟩
  rw [← hg0] at X0 ⊢
  have hg := Nat.le_of_eq hg0.symm
  clear hg0
  go_wp2_with fail
  refine (cut_any s 44 W L0 hs).mono ?_
  rintro e w' ⟨rfl, n, rfl⟩
  rw [HQ.out]
  have B1 := below_step B0 (below_drewN (Below.refl W.heap.size W) n)
  have X1 := X0.step (below_drewN (Below.refl W.heap.size W) n)
  have R1 := R0.below (below_drewN (Below.refl W.heap.size W) n)
  generalize W.drewN n = W1 at B1 X1 R1 ⊢
  clear X0 B0 L0 R0
  go_wp2_with fail
  with_reducible refine callR (pnum_any a W1 (by omega) R1) ?_
  intro W2 B2 _ _ _
  have R2 := R1.below B2
  have X2 := X1.step B2
  have B2 := below_step B1 B2
  clear X1 R1 B1
  go_wp2_with fail
  with_reducible refine callR (pnum_any b W2 (by omega) R2) ?_
  intro W3 B3 _ _ _
  have X3 := X2.step B3
  have B3 := below_step B2 B3
  have d2 := X3.plain
  have d3 : blkOf W3 g = #[.int .i64 0, .int .i64 0] := X3.of
  clear X2 R2 B2
  go_wp2
  exact bodyPost_ret (results_agg1 Tryz.results79 _ _ g (Pt.arr ⟨numP a, numP b⟩) 2 _ rfl rfl (X3.set _).cell Tryz.underlying38 rfl info_pt) rfl ⟨by rw [HU.out], below_setRow' B3 hg _⟩
/-! The reference's number: at most nine digits. -/
theorem take_all_at (l : List UInt8) (k n : Nat) (h : k < l.length) (hn : k < n) (ha : (l.take n).all isD = true) : isD l[k] = true := by
  have hk : k < (l.take n).length := by simp; omega
  have := List.all_eq_true.1 ha (l.take n)[k] (List.getElem_mem hk)
  simpa using this
theorem numR_pos {l : List UInt8} (h : (cutPre 45 l).2 = false) : numR l = if (l.take 9).all isD then (val (l.take 9) : Int) else 0 := by
  unfold numR
  have e : (cutPre 45 l).1 = l := by
    unfold cutPre at h ⊢
    cases l with
    | nil => rfl
    | cons c r => by_cases hc : c = 45 <;> simp_all
  rw [e, h]; simp
set_option maxHeartbeats 1000000 in
theorem rnum_any (l : List UInt8) (w : World) (hl : l.length ≤ 4000000000) : Calls Tryz.prog 38 #[.string ⟨l.toArray⟩] w (RetP w (.int .i64 (numR l))) := by
  rcases l with _ | ⟨c, r0⟩
  · rw [numR_nil]
    go_enter Tryz.func38, Tryz.ntmps38
    go_wp2
    go_loop [4, 5] (fun n i => n = .int .i64 0 ∧ i = .int .i64 0) (fun _ _ => 0)
    case atStart => exact ⟨rfl, rfl⟩
    case round =>
      obtain ⟨rfl, rfl⟩ := hrel
      go_wp2
      go_ret
      exact RetP.int rfl rfl
  by_cases hc : c = 45
  · subst hc
    obtain ⟨r, hr⟩ : ∃ r, r = r0 := ⟨_, rfl⟩
    rw [← hr] at hl ⊢
    clear hr r0
    have hrl : r.length ≤ 4000000000 := by simp at hl; omega
    have HN := Lib.hid (show numR (45 :: r) = if (r.take 9).all isD then -(val (r.take 9) : Int) else 0 by unfold numR cutPre; simp)
    generalize numR (45 :: r) = out at HN ⊢
    go_enter Tryz.func38, Tryz.ntmps38
    go_wp2
    go_loop [4, 5] (fun n i => ∃ k : Nat, k ≤ r.length ∧ k ≤ 9 ∧ i = .int .i64 k ∧ n = .int .i64 (val (r.take k) : Nat) ∧ (r.take k).all isD = true ∧ val (r.take k) < 10 ^ k) (fun _ i => 9 - (intOf i).toNat)
    case atStart => exact ⟨0, by omega, by omega, rfl, by simp [val, numV_nil], by simp, by simp [val, numV_nil]⟩
    case round =>
      obtain ⟨k, hk, hk9, rfl, rfl, ha, hv⟩ := hrel
      have HA := Lib.hid ha; clear ha
      have hp : 10 ^ k ≤ 10 ^ 9 := Nat.pow_le_pow_right (by decide) hk9
      have hv9 : val (r.take k) < 1000000000 := by omega
      have HV := Lib.hid hv
      clear hv hp
      by_cases hlt : k < r.length ∧ k < 9
      · obtain ⟨h1, h2⟩ := hlt
        have HS := Lib.hid (val_take_succ r k h1)
        by_cases hd : isD r[k] = true
        · have hc : 48 ≤ r[k].toNat ∧ r[k].toNat ≤ 57 := by simpa [isD] using hd
          have hc1 := hc.1
          have hc2 := hc.2
          have HP := Lib.hid (show 10 ^ (k + 1) = 10 ^ k * 10 from Nat.pow_succ ..)
          have HD := Lib.hid hd
          clear hc hd
          generalize val (r.take k) = v at hv9 HS HV ⊢
          go_wp2
          go_round
          case rel => exact ⟨k + 1, by omega, by omega, by go_num, by rw [HS.out]; congr 1; omega, take_all_succ _ r k h1 HA.out HD.out, by rw [HS.out]; have a1 := HV.out; have a2 := HP.out; omega⟩
          case measure => simp [intOf]; omega
        · have HO := Lib.hid (show out = 0 by rw [HN.out, if_neg]; intro h; exact hd (take_all_at r k 9 h1 h2 h))
          have hc : r[k].toNat < 48 ∨ 57 < r[k].toNat := by
            rcases Nat.lt_or_ge r[k].toNat 48 with a | a
            · exact .inl a
            · rcases Nat.lt_or_ge 57 r[k].toNat with b | b
              · exact .inr b
              · exact absurd (by simp [isD]; omega) hd
          clear hd
          rcases hc with hc | hc
          all_goals
            go_wp2
            go_ret
            exact RetP.int HO.out.symm rfl
      · have HT := Lib.hid (show r.take 9 = r.take k by rw [List.take_eq_take_iff]; omega)
        have HO := Lib.hid (show out = -(val (r.take k) : Int) by rw [HN.out, HT.out, if_pos HA.out])
        have h1 : ¬ ((k : Int) < 9) ∨ ¬ (k < r.length) := by omega
        generalize val (r.take k) = v at hv9 HO ⊢
        rcases h1 with h1 | h1
        all_goals
          go_wp2
          all_goals
            go_ret
            exact RetP.int HO.out.symm rfl
  · obtain ⟨l, hr⟩ : ∃ l, l = c :: r0 := ⟨_, rfl⟩
    have h0 : 0 < l.length := by rw [hr]; simp
    have h1 : ¬ l[0] = 45 := by simp only [hr]; exact hc
    have h2 : ((l[0].toNat : Int) == 45) = false := u8_ne (d := 45) h1
    have HN := Lib.hid (numR_pos (l := l) (by rw [hr]; unfold cutPre; simp [hc]))
    rw [← hr] at hl ⊢
    clear h1 hr hc
    generalize numR l = out at HN ⊢
    go_enter Tryz.func38, Tryz.ntmps38
    go_wp2
    go_loop [4, 5] (fun n i => ∃ k : Nat, k ≤ l.length ∧ k ≤ 9 ∧ i = .int .i64 k ∧ n = .int .i64 (val (l.take k) : Nat) ∧ (l.take k).all isD = true ∧ val (l.take k) < 10 ^ k) (fun _ i => 9 - (intOf i).toNat)
    case atStart => exact ⟨0, by omega, by omega, rfl, by simp [val, numV_nil], by simp, by simp [val, numV_nil]⟩
    case round =>
      obtain ⟨k, hk, hk9, rfl, rfl, ha, hv⟩ := hrel
      have HA := Lib.hid ha; clear ha
      have hp : 10 ^ k ≤ 10 ^ 9 := Nat.pow_le_pow_right (by decide) hk9
      have hv9 : val (l.take k) < 1000000000 := by omega
      have HV := Lib.hid hv
      clear hv hp
      by_cases hlt : k < l.length ∧ k < 9
      · obtain ⟨h1, h2⟩ := hlt
        have HS := Lib.hid (val_take_succ l k h1)
        by_cases hd : isD l[k] = true
        · have hc : 48 ≤ l[k].toNat ∧ l[k].toNat ≤ 57 := by simpa [isD] using hd
          have hc1 := hc.1
          have hc2 := hc.2
          have HP := Lib.hid (show 10 ^ (k + 1) = 10 ^ k * 10 from Nat.pow_succ ..)
          have HD := Lib.hid hd
          clear hc hd
          generalize val (l.take k) = v at hv9 HS HV ⊢
          go_wp2
          go_round
          case rel => exact ⟨k + 1, by omega, by omega, by go_num, by rw [HS.out]; congr 1; omega, take_all_succ _ l k h1 HA.out HD.out, by rw [HS.out]; have a1 := HV.out; have a2 := HP.out; omega⟩
          case measure => simp [intOf]; omega
        · have HO := Lib.hid (show out = 0 by rw [HN.out, if_neg]; intro h; exact hd (take_all_at l k 9 h1 h2 h))
          have hc : l[k].toNat < 48 ∨ 57 < l[k].toNat := by
            rcases Nat.lt_or_ge l[k].toNat 48 with a | a
            · exact .inl a
            · rcases Nat.lt_or_ge 57 l[k].toNat with b | b
              · exact .inr b
              · exact absurd (by simp [isD]; omega) hd
          clear hd
          rcases hc with hc | hc
          all_goals
            go_wp2
            go_ret
            exact RetP.int HO.out.symm rfl
      · have HT := Lib.hid (show l.take 9 = l.take k by rw [List.take_eq_take_iff]; omega)
        have HO := Lib.hid (show out = (val (l.take k) : Int) by rw [HN.out, HT.out, if_pos HA.out])
        have h1 : ¬ ((k : Int) < 9) ∨ ¬ (k < l.length) := by omega
        generalize val (l.take k) = v at hv9 HO ⊢
        rcases h1 with h1 | h1
        all_goals
          go_wp2
          all_goals
            go_ret
            exact RetP.int HO.out.symm rfl
end Go.Proofs.YtjgondadpjildaaGreatDoor
namespace Go.Proofs.YtjgondadpjildaaGreatDoor
open Go.RowKit
set_option linter.unusedVariables false
set_option linter.unusedSimpArgs false
theorem nameOf_no (t : Int) (h : knownB t = false) : nameOf t = [] := by
  have h1 : ¬ (1 ≤ t ∧ t ≤ 17) := by intro hh; have : knownB t = true := by simpa [knownB] using hh
                                     rw [h] at this; cases this
  unfold nameOf
  rcases Nat.lt_or_ge t.toNat 1 with h2 | h2
  · have : t.toNat = 0 := by omega
    rw [this]; rfl
  · rw [List.getD_eq_getElem?_getD, List.getElem?_eq_none (by simp [namesTab]; omega)]; rfl
theorem nameOf_some (t : Int) (h : knownB t = true) : (nameOf t).isEmpty = false := by
  have h1 : 1 ≤ t ∧ t ≤ 17 := by simpa [knownB] using h
  obtain ⟨n, rfl⟩ : ∃ n : Nat, t = n := ⟨t.toNat, by omega⟩
  have : ∀ k : Fin 17, (nameOf ((k.val + 1 : Nat) : Int)).isEmpty = false := by decide +kernel
  have h2 := this ⟨n - 1, by omega⟩
  have e : n - 1 + 1 = n := by omega
  simp only [e] at h2
  exact h2
set_option maxHeartbeats 1000000 in
theorem rname16_any (t : Int) (w : World) : Calls Tryz.prog 149 #[.int .u8 t] w (RetP w (.string ⟨(nameOf t).toArray⟩)) := by
  by_cases hk : knownB t = true
  · have hk1 : 1 ≤ t ∧ t ≤ 17 := by simpa [knownB] using hk
    have h17 : t = 1 ∨ t = 2 ∨ t = 3 ∨ t = 4 ∨ t = 5 ∨ t = 6 ∨ t = 7 ∨ t = 8 ∨ t = 9 ∨ t = 10 ∨ t = 11 ∨ t = 12 ∨ t = 13 ∨ t = 14 ∨ t = 15 ∨ t = 16 ∨ t = 17 := by omega
    clear hk hk1
    rcases h17 with rfl | rfl | rfl | rfl | rfl | rfl | rfl | rfl | rfl | rfl | rfl | rfl | rfl | rfl | rfl | rfl | rfl
    all_goals
      go_enter Tryz.func149, Tryz.ntmps149
      go_wp2
      go_ret
      exact RetP.str (by decide) rfl
  · have hk : knownB t = false := by simpa using hk
    have h1 : ¬ (1 ≤ t ∧ t ≤ 17) := by intro hh; have : knownB t = true := by simpa [knownB] using hh
                                       rw [hk] at this; cases this
    by_cases h2 : t < 1
    · go_enter Tryz.func149, Tryz.ntmps149
      go_wp2
      go_ret
      exact RetP.str (by rw [nameOf_no t hk]) rfl
    · have h3 : 17 < t := by omega
      go_enter Tryz.func149, Tryz.ntmps149
      go_wp2
      go_ret
      exact RetP.str (by rw [nameOf_no t hk]) rfl
/-- The leg with another window. -/
def Leg.winTo (l : Leg) (lo hi : Int) : Leg := { l with lo := lo, hi := hi }
theorem winTo_check (l : Leg) (lo hi : Int) (h : legCheck l = 0) : legCheck (l.winTo lo hi) = limitsE (l.winTo lo hi) := by
  have k := legOk_of h
  have e1 : knownB (l.winTo lo hi).ty = true := k.known
  have e2 : checkRefI (l.winTo lo hi).fix (uB (l.winTo lo hi).ty 1) = 0 := k.fix
  have e3 : checkRefI (l.winTo lo hi).center (uB (l.winTo lo hi).ty 2) = 0 := k.center
  have e4 : turnE (uB (l.winTo lo hi).ty 4) (l.winTo lo hi).turn = 0 := k.turn
  have e5 : overB (l.winTo lo hi) = false := k.over
  have e6 : checkNum (l.winTo lo hi).course (uB (l.winTo lo hi).ty 16) 0 129599999 = 0 := k.course
  have e7 : checkNum (l.winTo lo hi).dist (uB (l.winTo lo hi).ty 32) 1 2000000 = 0 := k.dist
  have e8 : checkNum (l.winTo lo hi).radius (uB (l.winTo lo hi).ty 64) 1 2000000 = 0 := k.radius
  have e9 : checkNum (l.winTo lo hi).theta (uB (l.winTo lo hi).ty 128) 0 129599999 = 0 := k.theta
  unfold legCheck legC2 legC3 legC4
  rw [e1, e2, e3, e4, e5, e6, e7, e8, e9]
  rfl
theorem winTo_bad (l : Leg) (lo hi : Int) (h : legCheck l = 0) (hb : lo < -200000 ∨ 6000000 < hi ∨ hi < lo) : legCheck (l.winTo lo hi) = 2 := by
  rw [winTo_check l lo hi h]
  unfold limitsE Leg.winTo
  rw [if_pos (by simp only; omega)]
theorem winTo_good (l : Leg) (lo hi : Int) (h : legCheck l = 0) (h1 : -200000 < lo) (h2 : hi ≤ 6000000) (h3 : lo ≤ hi) : legCheck (l.winTo lo hi) = 0 := by
  rw [winTo_check l lo hi h]
  obtain ⟨_, _, s0, s1, r0, r1⟩ := limits_of (legOk_of h).limits
  unfold limitsE Leg.winTo
  rw [if_neg (by simp only; omega), if_neg (by simp only; omega), if_neg (by simp only; omega)]
theorem winTo_low (l : Leg) (hi : Int) (h : legCheck l = 0) (h2 : hi ≤ 6000000) (h3 : -200000 ≤ hi) : legCheck (l.winTo (-200000) hi) = if climbsB l.ty then 2 else 0 := by
  rw [winTo_check l (-200000) hi h]
  obtain ⟨_, _, s0, s1, r0, r1⟩ := limits_of (legOk_of h).limits
  unfold limitsE Leg.winTo
  rw [if_neg (by simp only; omega)]
  cases hc : climbsB l.ty
  · rw [if_neg (by simp [hc]), if_neg (by simp only; omega)]; rfl
  · rw [if_pos (by simp [hc])]; rfl
end Go.Proofs.YtjgondadpjildaaGreatDoor
namespace Go.Proofs.YtjgondadpjildaaGreatDoor
open Go.RowKit Go.Sort
set_option linter.unusedVariables false
set_option linter.unusedSimpArgs false
section
attribute [local go_sem] ba_cat cat_len
set_option maxHeartbeats 4000000 in
theorem rdistText_any (d : Int) (w : World) : Calls Tryz.prog 209 #[.int .i64 d] w (RetP w (textVal (distT d))) := by
  by_cases hr : 0 ≤ d ∧ d ≤ 8000000
  · have H1 := Lib.hid (distT_in hr)
    obtain ⟨r1, r2⟩ := hr
    have l1 := dec_len9 (d / 6000) (by omega)
    have l2 := dec_len9 (d % 6000) (by omega)
    by_cases hk : d % 6000 = 0
    · have H3 := Lib.hid (distS_whole r1 hk)
      go_enter Tryz.func209, Tryz.ntmps209
      go_wp2_with fail
      with_reducible refine callP (digits8_any (d / 6000).toNat (d / 6000) _ (Nat.le_refl _) (by omega) (by omega)) ?_
      generalize Lib.decDigits (d / 6000).toNat = D1 at l1 H3 ⊢
      go_wp2
      go_ret2
      exact RetP.text (by rw [H1.out, H3.out]) rfl
    · have H3 := Lib.hid (distS_part r1 hk)
      go_enter Tryz.func209, Tryz.ntmps209
      go_wp2_with fail
      with_reducible refine callP (digits8_any (d / 6000).toNat (d / 6000) _ (Nat.le_refl _) (by omega) (by omega)) ?_
      generalize Lib.decDigits (d / 6000).toNat = D1 at l1 H3 ⊢
      go_wp2_with fail
      with_reducible refine callP (digits8_any (d % 6000).toNat (d % 6000) _ (Nat.le_refl _) (by omega) (by omega)) ?_
      generalize Lib.decDigits (d % 6000).toNat = D2 at l2 H3 ⊢
      go_wp2
      go_ret2
      exact RetP.text (by rw [H1.out, H3.out]; simp [cat]) rfl
  · have H1 := Lib.hid (distT_out hr)
    go_enter Tryz.func209, Tryz.ntmps209
    go_wp2
    all_goals try omega
    all_goals
      go_ret2
      exact RetP.text H1.out rfl
theorem rdist16_any (d : Int) (w : World) (h0 : 0 ≤ d) (h1 : d ≤ 8000000) : Calls Tryz.prog 151 #[.int .i64 d] w (RetP w (.string ⟨(distS d.toNat).toArray⟩)) := by
  have k := Lib.hid (rdistText_any d w)
  rw [distT_in ⟨h0, h1⟩] at k
  generalize distS d.toNat = D at k ⊢
  go_enter Tryz.func151, Tryz.ntmps151
  go_wp2_with (go_at_call 209; ((with_reducible refine callP k.out ?_)))
  go_ret
  exact RetP.str rfl rfl
set_option maxHeartbeats 4000000 in
theorem rwinText_in (lo hi : Int) (w : World) (h : winOk lo hi) : Calls Tryz.prog 152 #[.agg (Win.arr ⟨lo, hi⟩)] w (Ret w (.tuple #[.string ⟨(winS lo hi).toArray⟩, .int .i64 0])) := by
  obtain ⟨h1, h2, h3⟩ := h
  have k1 : lo ≤ 6000000 := by omega
  have k2 : -200000 ≤ hi := by omega
  have La := altS_len h1 k1
  have Lb := altS_len k2 h3
  have HW := Lib.hid (show winS lo hi = if lo = -200000 ∧ hi = 6000000 then [45] else if lo = hi then altS lo else if hi = 6000000 then altS lo ++ [43] else if lo = -200000 then altS hi ++ [45] else altS lo ++ (58 :: altS hi) from rfl)
  have c1 := Lib.hid (fun w => raltIn_any lo h1 k1 w)
  have c2 := Lib.hid (fun w => raltIn_any hi k2 h3 w)
  generalize altS lo = A at La HW c1
  generalize altS hi = B at Lb HW c2
  have n1 : ¬ lo < -200000 := by omega
  have n2 : ¬ hi < lo := by omega
  have n3 : ¬ 6000000 < hi := by omega
  clear k1 k2
  go_enter Tryz.func152, Tryz.ntmps152
  simp only [Win.arr]
  go_wp2_with fail
  with_reducible refine callP (c1.out _) ?_
  go_wp2_with fail
  with_reducible refine callP (c2.out _) ?_
  clear c1 c2
  go_wp2
  all_goals
    go_ret2
    refine Ret.text (x := (winS lo hi, 0)) ?_ (alloc_below _ _)
    rw [HW.out]
    (try simp only [cat_two])
    grind
end
def ad (b : Bool) (p w : List UInt8) : List UInt8 := if b then p ++ 32 :: w else p
theorem ad_yes {b : Bool} (hb : b = true) (p w : List UInt8) : ad b p w = p ++ 32 :: w := by rw [hb]; rfl
theorem ad_no {b : Bool} (hb : b = false) (p w : List UInt8) : ad b p w = p := by rw [hb]; rfl
theorem ad_len {p w : List UInt8} {n m : Nat} (b : Bool) (hp : p.length ≤ n) (hw : w.length ≤ m) : (ad b p w).length ≤ n + (m + 1) := by
  unfold ad
  split
  · simp only [List.length_append, List.length_cons]; omega
  · omega
theorem ad_turn (b : Bool) (p : List UInt8) (t : Int) (h : b = true → t = 1 ∨ t = 2) : ad b p (if t = 1 then [76] else [82]) = ad (b && (t == 2)) (ad (b && (t == 1)) p [76]) [82] := by
  cases b
  · rfl
  · rcases h rfl with rfl | rfl <;> rfl
theorem join_snoc (ws : List (List UInt8)) (s : List UInt8) (h : ws ≠ []) : Lib.join (ws ++ [s]) [32] = Lib.join ws [32] ++ 32 :: s := by
  match ws, h with
  | [a], _ => rw [List.singleton_append, join_cons2, join_one, join_one]
  | a :: b :: q, _ =>
    have := join_snoc (b :: q) s (by simp)
    rw [List.cons_append, List.cons_append, join_cons2, join_cons2, ← List.cons_append, this]
    simp
theorem join_opt (ws : List (List UInt8)) (s : List UInt8) (b : Bool) (h : ws ≠ []) : Lib.join (ws ++ opt b s) [32] = ad b (Lib.join ws [32]) s := by
  cases b
  · simp [opt, ad]
  · exact join_snoc ws s h
theorem app_ne {ws v : List (List UInt8)} (h : ws ≠ []) : ws ++ v ≠ [] := by intro e; exact h (List.append_eq_nil_iff.1 e).1
attribute [local go_sem] ba_cat cat_len
theorem spaced (p w : List UInt8) : cat p (cat [32] w) = p ++ 32 :: w := rfl
set_option maxHeartbeats 8000000 in
set_option maxRecDepth 100000 in
theorem rtext_ok (l : Leg) (w : World) (hl : l.small) (h : legCheck l = 0) : Calls Tryz.prog 99 #[l.val] w (Ret w (.string ⟨(textS l).toArray⟩)) := by
  have hO := legOk_of h
  have hT := tx_small hO
  have hbf := hl.fix
  have hbc := hl.center
  have hnl := nameOf_len l.ty
  obtain ⟨hwin, _, s0, s1, r0, r1⟩ := limits_of hO.limits
  obtain ⟨lF, lC, lT, lo_, lK, lD, lR, lH, la⟩ := letters l.ty hO.known
  have hus := usesStr_len l.ty
  have k0 := Lib.hid (fun W => rcheck_any l W hl)
  have g3 : uB l.ty 4 = true → l.turn = 1 ∨ l.turn = 2 := fun hb => by have := hO.turn; rw [hb] at this; unfold turnE at this; grind
  have HJ := Lib.hid (show textS l = ad (l.rnp != 0) (ad (l.speed != 0) (ad (winB l) (ad (l.over) (ad (uB l.ty 128) (ad (uB l.ty 64) (ad (uB l.ty 32) (ad (uB l.ty 16) (ad (uB l.ty 4 && (l.turn == 2)) (ad (uB l.ty 4 && (l.turn == 1)) (ad (uB l.ty 2) (ad (uB l.ty 1) (nameOf l.ty) l.fix) (64 :: l.center)) [76]) [82]) (exactS l.course.toNat)) (100 :: distS l.dist.toNat)) (114 :: distS l.radius.toNat)) (116 :: exactS l.theta.toNat)) [111, 118, 101, 114]) (winS l.lo l.hi)) (115 :: Lib.decDigits l.speed.toNat)) (110 :: distS l.rnp.toNat) from by
    unfold textS legText
    rw [h]
    simp only [bne_self_eq_false, Bool.false_eq_true, if_false, legWords]
    iterate 11 rw [join_opt _ _ _ (by simp)]
    rw [join_one, ad_turn _ _ _ g3]
    rfl)
  rw [h] at k0
  have kK := Lib.hid (fun (hb : uB l.ty 16 = true) W => rexact_any l.course W (num_used hO.course hb).1 (by have := (num_used hO.course hb).2; omega))
  have kD := Lib.hid (fun (hb : uB l.ty 32 = true) W => rdist16_any l.dist W (by have := (num_used hO.dist hb).1; omega) (by have := (num_used hO.dist hb).2; omega))
  have kR := Lib.hid (fun (hb : uB l.ty 64 = true) W => rdist16_any l.radius W (by have := (num_used hO.radius hb).1; omega) (by have := (num_used hO.radius hb).2; omega))
  have kH := Lib.hid (fun (hb : uB l.ty 128 = true) W => rexact_any l.theta W (num_used hO.theta hb).1 (by have := (num_used hO.theta hb).2; omega))
  have kW := Lib.hid (fun W => rwinText_in l.lo l.hi W hwin)
  have kS := Lib.hid (fun W => rdecimal_any l.speed.toNat l.speed W (Nat.le_refl _) s0 (by omega))
  have kN := Lib.hid (fun W => rdist16_any l.rnp W r0 (by omega))
  clear g3 hO hwin h hl s0 s1 r0 r1
  have hT' : (exactS l.course.toNat).length ≤ 1000 ∧ (distS l.dist.toNat).length ≤ 1000 ∧ (distS l.radius.toNat).length ≤ 1000 ∧ (exactS l.theta.toNat).length ≤ 1000 ∧ (winS l.lo l.hi).length ≤ 1000 ∧ (Lib.decDigits l.speed.toNat).length ≤ 1000 ∧ (distS l.rnp.toNat).length ≤ 1000 := by
    simp only [List.mem_cons, List.not_mem_nil, or_false, forall_eq_or_imp, forall_eq, List.length_cons] at hT
    obtain ⟨m1, m2, m3, m4, m5, m6, m7⟩ := hT
    refine ⟨?_, ?_, ?_, ?_, ?_, ?_, ?_⟩ <;> omega
  clear hT
  obtain ⟨m1, m2, m3, m4, m5, m6, m7⟩ := hT'
  generalize exactS l.course.toNat = tK at m1 kK HJ
  generalize distS l.dist.toNat = tD at m2 kD HJ
  generalize distS l.radius.toNat = tR at m3 kR HJ
  generalize exactS l.theta.toNat = tH at m4 kH HJ
  generalize winS l.lo l.hi = tW at m5 kW HJ
  generalize Lib.decDigits l.speed.toNat = tS at m6 kS HJ
  generalize distS l.rnp.toNat = tN at m7 kN HJ
  generalize textS l = TT at HJ ⊢
  have HwB := Lib.hid (show winB l = !Win.eqB ⟨l.lo, l.hi⟩ ⟨-200000, 6000000⟩ from by unfold winB Win.eqB; grind)
  go_enter Tryz.func99, Tryz.ntmps99
  go_upto_region 1 with (fail)
  have X0 := Blk.new w l.arr 36
  have B0 := alloc_below w (.cells l.arr 36)
  generalize w.alloc _ = W at X0 B0 ⊢
  generalize w.heap.size = g at X0 ⊢
  have i1 : Has_leg W g 0 := ⟨_, X0.is_leg⟩
  have i2 : of_leg W g 0 = l := of_leg_eq X0.is_leg
  go_upto_region 3 with (go_at_call 28; ((with_reducible refine callR (k0.out _) ?_); intro w1 hb1 hc1 hf1 hz1))
  clear i1 i2
  have X1 := X0.step hb1
  have B1 := B0.trans (hb1.mono B0.size)
  clear X0 hb1 hc1 hf1 hz1
  have c1 := X1.cell
  have c2 := X1.lt
  go_upto_region 5 with (first
    | (go_at_call 62; ((with_reducible refine callP (ruses_any _ _) ?_)))
    | (go_at_call 149; ((with_reducible refine callP (rname16_any _ _) ?_))))
  have LET := (⟨lF, lC, lT, lK, lD, lR, lH⟩ : hasI (usesStr l.ty) 70 = uB l.ty 1 ∧ hasI (usesStr l.ty) 67 = uB l.ty 2 ∧ hasI (usesStr l.ty) 84 = uB l.ty 4 ∧ hasI (usesStr l.ty) 75 = uB l.ty 16 ∧ hasI (usesStr l.ty) 68 = uB l.ty 32 ∧ hasI (usesStr l.ty) 82 = uB l.ty 64 ∧ hasI (usesStr l.ty) 72 = uB l.ty 128)
  generalize usesStr l.ty = u at hus LET ⊢
  have hF := Lib.hid (fun W => LET.1 ▸ rhas_any u 70 W (by omega))
  have hC := Lib.hid (fun W => LET.2.1 ▸ rhas_any u 67 W (by omega))
  have hTn := Lib.hid (fun W => LET.2.2.1 ▸ rhas_any u 84 W (by omega))
  have hK := Lib.hid (fun W => LET.2.2.2.1 ▸ rhas_any u 75 W (by omega))
  have hD := Lib.hid (fun W => LET.2.2.2.2.1 ▸ rhas_any u 68 W (by omega))
  have hR := Lib.hid (fun W => LET.2.2.2.2.2.1 ▸ rhas_any u 82 W (by omega))
  have hH := Lib.hid (fun W => LET.2.2.2.2.2.2 ▸ rhas_any u 72 W (by omega))
  clear lF lC lT lo_ lK lD lR lH la LET
  generalize nameOf l.ty = nm at hnl HJ ⊢
  have B := Below.refl w1.heap.size w1
  generalize hpn : nm = p at hnl ⊢
  have HP := Lib.hid hpn; clear hpn
  go_upto_if 17 with (go_at_call 64; ((with_reducible refine callP (hF.out _) ?_)))
  go_cut [4] (fun v wx => v = .string ⟨(ad (uB l.ty 1) p l.fix).toArray⟩ ∧ Below w1.heap.size w1 wx)
  case first =>
    cases hb : (uB l.ty 1)
    · go_wp2_with fail
      go_meet; exact ⟨by rw [ad_no hb], B⟩
    · go_wp2_with fail
      go_meet; exact ⟨by rw [ad_yes hb]; rfl, B⟩
  case rest =>
    have hp2 := ad_len (uB l.ty 1) hnl (show l.fix.length ≤ 4000000000 by first | omega | (simp only [List.length_cons]; omega) | simp)
    clear B c1 c2
    obtain ⟨rfl, B⟩ := hcut
    have HP2 := Lib.hid (show ad (uB l.ty 1) nm l.fix = ad (uB l.ty 1) p l.fix by rw [HP.out])
    clear HP hnl
    generalize ad (uB l.ty 1) p l.fix = p at hp2 HP2 ⊢
    have hnl := hp2; have HP := HP2; clear hp2 HP2
    have c1 := (X1.step B).cell
    have c2 := (X1.step B).lt
    go_upto_if 24 with (go_at_call 64; ((with_reducible refine callP (hC.out _) ?_)))
    go_cut [4] (fun v wx => v = .string ⟨(ad (uB l.ty 2) p (64 :: l.center)).toArray⟩ ∧ Below w1.heap.size w1 wx)
    case first =>
      cases hb : (uB l.ty 2)
      · go_wp2_with fail
        go_meet; exact ⟨by rw [ad_no hb], B⟩
      · go_wp2_with fail
        go_meet; exact ⟨by rw [ad_yes hb]; rfl, B⟩
    case rest =>
      have hp2 := ad_len (uB l.ty 2) hnl (show (64 :: l.center).length ≤ 4000000001 by first | omega | (simp only [List.length_cons]; omega) | simp)
      clear B c1 c2
      obtain ⟨rfl, B⟩ := hcut
      have HP2 := Lib.hid (show ad (uB l.ty 2) (ad (uB l.ty 1) nm l.fix) (64 :: l.center) = ad (uB l.ty 2) p (64 :: l.center) by rw [HP.out])
      clear HP hnl
      generalize ad (uB l.ty 2) p (64 :: l.center) = p at hp2 HP2 ⊢
      have hnl := hp2; have HP := HP2; clear hp2 HP2
      have c1 := (X1.step B).cell
      have c2 := (X1.step B).lt
      go_upto_region 9 with (fail)
      go_cut [36] (fun s wx => s = .bool (uB l.ty 4 && (l.turn == 1)) ∧ wx = wc)
      case first =>
        obtain ⟨a1, h1⟩ : ∃ a, uB l.ty 4 = a := ⟨_, rfl⟩
        obtain ⟨a2, h2⟩ : ∃ a, (l.turn == 1) = a := ⟨_, rfl⟩
        have HB := Lib.hid (show (uB l.ty 4 && (l.turn == 1)) = (a1 && a2) by rw [h1, h2])
        rw [h1] at hTn; clear h1
        cases a1 <;> cases a2
        all_goals (go_wp2_with (go_at_call 64; ((with_reducible refine callP (hTn.out _) ?_))); all_goals (go_meet; exact ⟨by rw [HB.out]; rfl, rfl⟩))
      case rest =>
        obtain ⟨rfl, rfl⟩ := hcut
        go_upto_if 36 with (fail)
        go_cut [4] (fun v wx => v = .string ⟨(ad (uB l.ty 4 && (l.turn == 1)) p [76]).toArray⟩ ∧ Below w1.heap.size w1 wx)
        case first =>
          cases hb : (uB l.ty 4 && (l.turn == 1))
          · go_wp2_with fail
            go_meet; exact ⟨by rw [ad_no hb], B⟩
          · go_wp2_with fail
            go_meet; exact ⟨by rw [ad_yes hb]; rfl, B⟩
        case rest =>
          have hp2 := ad_len (uB l.ty 4 && (l.turn == 1)) hnl (show [76].length ≤ 1 by first | omega | (simp only [List.length_cons]; omega) | simp)
          clear B c1 c2
          obtain ⟨rfl, B⟩ := hcut
          have HP2 := Lib.hid (show ad (uB l.ty 4 && (l.turn == 1)) (ad (uB l.ty 2) (ad (uB l.ty 1) nm l.fix) (64 :: l.center)) [76] = ad (uB l.ty 4 && (l.turn == 1)) p [76] by rw [HP.out])
          clear HP hnl
          generalize ad (uB l.ty 4 && (l.turn == 1)) p [76] = p at hp2 HP2 ⊢
          have hnl := hp2; have HP := HP2; clear hp2 HP2
          have c1 := (X1.step B).cell
          have c2 := (X1.step B).lt
          go_upto_region 11 with (fail)
          go_cut [45] (fun s wx => s = .bool (uB l.ty 4 && (l.turn == 2)) ∧ wx = wc)
          case first =>
            obtain ⟨a1, h1⟩ : ∃ a, uB l.ty 4 = a := ⟨_, rfl⟩
            obtain ⟨a2, h2⟩ : ∃ a, (l.turn == 2) = a := ⟨_, rfl⟩
            have HB := Lib.hid (show (uB l.ty 4 && (l.turn == 2)) = (a1 && a2) by rw [h1, h2])
            rw [h1] at hTn; clear h1
            cases a1 <;> cases a2
            all_goals (go_wp2_with (go_at_call 64; ((with_reducible refine callP (hTn.out _) ?_))); all_goals (go_meet; exact ⟨by rw [HB.out]; rfl, rfl⟩))
          case rest =>
            obtain ⟨rfl, rfl⟩ := hcut
            go_upto_if 45 with (fail)
            go_cut [4] (fun v wx => v = .string ⟨(ad (uB l.ty 4 && (l.turn == 2)) p [82]).toArray⟩ ∧ Below w1.heap.size w1 wx)
            case first =>
              cases hb : (uB l.ty 4 && (l.turn == 2))
              · go_wp2_with fail
                go_meet; exact ⟨by rw [ad_no hb], B⟩
              · go_wp2_with fail
                go_meet; exact ⟨by rw [ad_yes hb]; rfl, B⟩
            case rest =>
              have hp2 := ad_len (uB l.ty 4 && (l.turn == 2)) hnl (show [82].length ≤ 1 by first | omega | (simp only [List.length_cons]; omega) | simp)
              clear B c1 c2
              obtain ⟨rfl, B⟩ := hcut
              have HP2 := Lib.hid (show ad (uB l.ty 4 && (l.turn == 2)) (ad (uB l.ty 4 && (l.turn == 1)) (ad (uB l.ty 2) (ad (uB l.ty 1) nm l.fix) (64 :: l.center)) [76]) [82] = ad (uB l.ty 4 && (l.turn == 2)) p [82] by rw [HP.out])
              clear HP hnl
              generalize ad (uB l.ty 4 && (l.turn == 2)) p [82] = p at hp2 HP2 ⊢
              have hnl := hp2; have HP := HP2; clear hp2 HP2
              have c1 := (X1.step B).cell
              have c2 := (X1.step B).lt
              go_upto_if 49 with (go_at_call 64; ((with_reducible refine callP (hK.out _) ?_)))
              go_cut [4] (fun v wx => v = .string ⟨(ad (uB l.ty 16) p tK).toArray⟩ ∧ Below w1.heap.size w1 wx)
              case first =>
                cases hb : (uB l.ty 16)
                · go_wp2_with fail
                  go_meet; exact ⟨by rw [ad_no hb], B⟩
                · go_wp2_with (go_at_call 150; ((with_reducible refine callR (kK.out hb _) ?_); intro w2 hb2 hc2 hf2 hz2; clear hc2 hf2 hz2))
                  go_meet; exact ⟨by rw [ad_yes hb]; rfl, below_step B hb2⟩
              case rest =>
                have hp2 := ad_len (uB l.ty 16) hnl (show tK.length ≤ 1000 by first | omega | (simp only [List.length_cons]; omega) | simp)
                clear B c1 c2
                obtain ⟨rfl, B⟩ := hcut
                have HP2 := Lib.hid (show ad (uB l.ty 16) (ad (uB l.ty 4 && (l.turn == 2)) (ad (uB l.ty 4 && (l.turn == 1)) (ad (uB l.ty 2) (ad (uB l.ty 1) nm l.fix) (64 :: l.center)) [76]) [82]) tK = ad (uB l.ty 16) p tK by rw [HP.out])
                clear HP hnl
                generalize ad (uB l.ty 16) p tK = p at hp2 HP2 ⊢
                have hnl := hp2; have HP := HP2; clear hp2 HP2
                have c1 := (X1.step B).cell
                have c2 := (X1.step B).lt
                go_upto_if 57 with (go_at_call 64; ((with_reducible refine callP (hD.out _) ?_)))
                go_cut [4] (fun v wx => v = .string ⟨(ad (uB l.ty 32) p (100 :: tD)).toArray⟩ ∧ Below w1.heap.size w1 wx)
                case first =>
                  cases hb : (uB l.ty 32)
                  · go_wp2_with fail
                    go_meet; exact ⟨by rw [ad_no hb], B⟩
                  · go_wp2_with (go_at_call 151; ((with_reducible refine callP (kD.out hb _) ?_)))
                    go_meet; exact ⟨by rw [ad_yes hb]; rfl, B⟩
                case rest =>
                  have hp2 := ad_len (uB l.ty 32) hnl (show (100 :: tD).length ≤ 1001 by first | omega | (simp only [List.length_cons]; omega) | simp)
                  clear B c1 c2
                  obtain ⟨rfl, B⟩ := hcut
                  have HP2 := Lib.hid (show ad (uB l.ty 32) (ad (uB l.ty 16) (ad (uB l.ty 4 && (l.turn == 2)) (ad (uB l.ty 4 && (l.turn == 1)) (ad (uB l.ty 2) (ad (uB l.ty 1) nm l.fix) (64 :: l.center)) [76]) [82]) tK) (100 :: tD) = ad (uB l.ty 32) p (100 :: tD) by rw [HP.out])
                  clear HP hnl
                  generalize ad (uB l.ty 32) p (100 :: tD) = p at hp2 HP2 ⊢
                  have hnl := hp2; have HP := HP2; clear hp2 HP2
                  have c1 := (X1.step B).cell
                  have c2 := (X1.step B).lt
                  go_upto_if 65 with (go_at_call 64; ((with_reducible refine callP (hR.out _) ?_)))
                  go_cut [4] (fun v wx => v = .string ⟨(ad (uB l.ty 64) p (114 :: tR)).toArray⟩ ∧ Below w1.heap.size w1 wx)
                  case first =>
                    cases hb : (uB l.ty 64)
                    · go_wp2_with fail
                      go_meet; exact ⟨by rw [ad_no hb], B⟩
                    · go_wp2_with (go_at_call 151; ((with_reducible refine callP (kR.out hb _) ?_)))
                      go_meet; exact ⟨by rw [ad_yes hb]; rfl, B⟩
                  case rest =>
                    have hp2 := ad_len (uB l.ty 64) hnl (show (114 :: tR).length ≤ 1001 by first | omega | (simp only [List.length_cons]; omega) | simp)
                    clear B c1 c2
                    obtain ⟨rfl, B⟩ := hcut
                    have HP2 := Lib.hid (show ad (uB l.ty 64) (ad (uB l.ty 32) (ad (uB l.ty 16) (ad (uB l.ty 4 && (l.turn == 2)) (ad (uB l.ty 4 && (l.turn == 1)) (ad (uB l.ty 2) (ad (uB l.ty 1) nm l.fix) (64 :: l.center)) [76]) [82]) tK) (100 :: tD)) (114 :: tR) = ad (uB l.ty 64) p (114 :: tR) by rw [HP.out])
                    clear HP hnl
                    generalize ad (uB l.ty 64) p (114 :: tR) = p at hp2 HP2 ⊢
                    have hnl := hp2; have HP := HP2; clear hp2 HP2
                    have c1 := (X1.step B).cell
                    have c2 := (X1.step B).lt
                    go_upto_if 73 with (go_at_call 64; ((with_reducible refine callP (hH.out _) ?_)))
                    go_cut [4] (fun v wx => v = .string ⟨(ad (uB l.ty 128) p (116 :: tH)).toArray⟩ ∧ Below w1.heap.size w1 wx)
                    case first =>
                      cases hb : (uB l.ty 128)
                      · go_wp2_with fail
                        go_meet; exact ⟨by rw [ad_no hb], B⟩
                      · go_wp2_with (go_at_call 150; ((with_reducible refine callR (kH.out hb _) ?_); intro w2 hb2 hc2 hf2 hz2; clear hc2 hf2 hz2))
                        go_meet; exact ⟨by rw [ad_yes hb]; rfl, below_step B hb2⟩
                    case rest =>
                      have hp2 := ad_len (uB l.ty 128) hnl (show (116 :: tH).length ≤ 1001 by first | omega | (simp only [List.length_cons]; omega) | simp)
                      clear B c1 c2
                      obtain ⟨rfl, B⟩ := hcut
                      have HP2 := Lib.hid (show ad (uB l.ty 128) (ad (uB l.ty 64) (ad (uB l.ty 32) (ad (uB l.ty 16) (ad (uB l.ty 4 && (l.turn == 2)) (ad (uB l.ty 4 && (l.turn == 1)) (ad (uB l.ty 2) (ad (uB l.ty 1) nm l.fix) (64 :: l.center)) [76]) [82]) tK) (100 :: tD)) (114 :: tR)) (116 :: tH) = ad (uB l.ty 128) p (116 :: tH) by rw [HP.out])
                      clear HP hnl
                      generalize ad (uB l.ty 128) p (116 :: tH) = p at hp2 HP2 ⊢
                      have hnl := hp2; have HP := HP2; clear hp2 HP2
                      have c1 := (X1.step B).cell
                      have c2 := (X1.step B).lt
                      go_upto_if 81 with fail
                      go_cut [4] (fun v wx => v = .string ⟨(ad (l.over) p [111, 118, 101, 114]).toArray⟩ ∧ Below w1.heap.size w1 wx)
                      case first =>
                        cases hb : (l.over)
                        · go_wp2_with fail
                          go_meet; exact ⟨by rw [ad_no hb], B⟩
                        · go_wp2_with fail
                          go_meet; exact ⟨by rw [ad_yes hb]; rfl, B⟩
                      case rest =>
                        have hp2 := ad_len (l.over) hnl (show [111, 118, 101, 114].length ≤ 4 by first | omega | (simp only [List.length_cons]; omega) | simp)
                        clear B c1 c2
                        obtain ⟨rfl, B⟩ := hcut
                        have HP2 := Lib.hid (show ad (l.over) (ad (uB l.ty 128) (ad (uB l.ty 64) (ad (uB l.ty 32) (ad (uB l.ty 16) (ad (uB l.ty 4 && (l.turn == 2)) (ad (uB l.ty 4 && (l.turn == 1)) (ad (uB l.ty 2) (ad (uB l.ty 1) nm l.fix) (64 :: l.center)) [76]) [82]) tK) (100 :: tD)) (114 :: tR)) (116 :: tH)) [111, 118, 101, 114] = ad (l.over) p [111, 118, 101, 114] by rw [HP.out])
                        clear HP hnl
                        generalize ad (l.over) p [111, 118, 101, 114] = p at hp2 HP2 ⊢
                        have hnl := hp2; have HP := HP2; clear hp2 HP2
                        have c1 := (X1.step B).cell
                        have c2 := (X1.step B).lt
                        have j1 : Has_win wc g 9 := ⟨_, (X1.step B).win_at⟩
                        have j2 : of_win wc g 9 = ⟨l.lo, l.hi⟩ := of_win_eq (X1.step B).win_at
                        have N1 : ∀ w, (binOp .neq 34 (.agg (Win.arr ⟨l.lo, l.hi⟩)) (.agg #[.int .i64 (-200000), .int .i64 6000000])).run Tryz.prog w = .ok (.bool (winB l)) w := fun w => by rw [HwB.out]; exact run_neq_win ⟨l.lo, l.hi⟩ ⟨-200000, 6000000⟩ w
                        go_upto_if 87 with fail
                        go_cut [4] (fun v wx => v = .string ⟨(ad (winB l) p tW).toArray⟩ ∧ Below w1.heap.size w1 wx)
                        case first =>
                          cases hb : (winB l)
                          · go_wp2_with fail
                            go_meet; exact ⟨by rw [ad_no hb], B⟩
                          · go_wp2_with (go_at_call 152; ((with_reducible refine callR (kW.out _) ?_); intro w2 hb2 hc2 hf2 hz2; clear hc2 hf2 hz2))
                            go_meet; exact ⟨by rw [ad_yes hb]; rfl, below_step B hb2⟩
                        case rest =>
                          have hp2 := ad_len (winB l) hnl (show tW.length ≤ 1000 by first | omega | (simp only [List.length_cons]; omega) | simp)
                          clear B c1 c2 j1 j2 N1
                          obtain ⟨rfl, B⟩ := hcut
                          have HP2 := Lib.hid (show ad (winB l) (ad (l.over) (ad (uB l.ty 128) (ad (uB l.ty 64) (ad (uB l.ty 32) (ad (uB l.ty 16) (ad (uB l.ty 4 && (l.turn == 2)) (ad (uB l.ty 4 && (l.turn == 1)) (ad (uB l.ty 2) (ad (uB l.ty 1) nm l.fix) (64 :: l.center)) [76]) [82]) tK) (100 :: tD)) (114 :: tR)) (116 :: tH)) [111, 118, 101, 114]) tW = ad (winB l) p tW by rw [HP.out])
                          clear HP hnl
                          generalize ad (winB l) p tW = p at hp2 HP2 ⊢
                          have hnl := hp2; have HP := HP2; clear hp2 HP2
                          have c1 := (X1.step B).cell
                          have c2 := (X1.step B).lt
                          go_upto_if 100 with fail
                          go_cut [4] (fun v wx => v = .string ⟨(ad (l.speed != 0) p (115 :: tS)).toArray⟩ ∧ Below w1.heap.size w1 wx)
                          case first =>
                            cases hb : (l.speed != 0)
                            · go_wp2_with fail
                              go_meet; exact ⟨by rw [ad_no hb], B⟩
                            · go_wp2_with (go_at_call 153; ((with_reducible refine callR (kS.out _) ?_); intro w2 hb2 hc2 hf2 hz2; clear hc2 hf2 hz2))
                              go_meet; exact ⟨by rw [ad_yes hb]; rfl, below_step B hb2⟩
                          case rest =>
                            have hp2 := ad_len (l.speed != 0) hnl (show (115 :: tS).length ≤ 1001 by first | omega | (simp only [List.length_cons]; omega) | simp)
                            clear B c1 c2
                            obtain ⟨rfl, B⟩ := hcut
                            have HP2 := Lib.hid (show ad (l.speed != 0) (ad (winB l) (ad (l.over) (ad (uB l.ty 128) (ad (uB l.ty 64) (ad (uB l.ty 32) (ad (uB l.ty 16) (ad (uB l.ty 4 && (l.turn == 2)) (ad (uB l.ty 4 && (l.turn == 1)) (ad (uB l.ty 2) (ad (uB l.ty 1) nm l.fix) (64 :: l.center)) [76]) [82]) tK) (100 :: tD)) (114 :: tR)) (116 :: tH)) [111, 118, 101, 114]) tW) (115 :: tS) = ad (l.speed != 0) p (115 :: tS) by rw [HP.out])
                            clear HP hnl
                            generalize ad (l.speed != 0) p (115 :: tS) = p at hp2 HP2 ⊢
                            have hnl := hp2; have HP := HP2; clear hp2 HP2
                            have c1 := (X1.step B).cell
                            have c2 := (X1.step B).lt
                            go_upto_if 109 with fail
                            go_cut [4] (fun v wx => v = .string ⟨(ad (l.rnp != 0) p (110 :: tN)).toArray⟩ ∧ Below w1.heap.size w1 wx)
                            case first =>
                              cases hb : (l.rnp != 0)
                              · go_wp2_with fail
                                go_meet; exact ⟨by rw [ad_no hb], B⟩
                              · go_wp2_with (go_at_call 151; ((with_reducible refine callP (kN.out _) ?_)))
                                go_meet; exact ⟨by rw [ad_yes hb]; rfl, B⟩
                            case rest =>
                              have hp2 := ad_len (l.rnp != 0) hnl (show (110 :: tN).length ≤ 1001 by first | omega | (simp only [List.length_cons]; omega) | simp)
                              clear B c1 c2
                              obtain ⟨rfl, B⟩ := hcut
                              have HP2 := Lib.hid (show ad (l.rnp != 0) (ad (l.speed != 0) (ad (winB l) (ad (l.over) (ad (uB l.ty 128) (ad (uB l.ty 64) (ad (uB l.ty 32) (ad (uB l.ty 16) (ad (uB l.ty 4 && (l.turn == 2)) (ad (uB l.ty 4 && (l.turn == 1)) (ad (uB l.ty 2) (ad (uB l.ty 1) nm l.fix) (64 :: l.center)) [76]) [82]) tK) (100 :: tD)) (114 :: tR)) (116 :: tH)) [111, 118, 101, 114]) tW) (115 :: tS)) (110 :: tN) = ad (l.rnp != 0) p (110 :: tN) by rw [HP.out])
                              clear HP hnl
                              generalize ad (l.rnp != 0) p (110 :: tN) = p at hp2 HP2 ⊢
                              have hnl := hp2; have HP := HP2; clear hp2 HP2
                              have c1 := (X1.step B).cell
                              have c2 := (X1.step B).lt
                              go_wp2
                              go_ret
                              exact Ret.str (by rw [HJ.out, ← HP.out]) (below_step B1 B)
set_option maxHeartbeats 2000000 in
theorem rtext_no (l : Leg) (w : World) (hl : l.small) (h : (legCheck l != 0) = true) : Calls Tryz.prog 99 #[l.val] w (Ret w (.string ⟨#[]⟩)) := by
  go_enter Tryz.func99, Tryz.ntmps99
  go_upto_region 1 with (fail)
  have X0 := Blk.new w l.arr 36
  have B0 := alloc_below w (.cells l.arr 36)
  generalize w.alloc _ = W at X0 B0 ⊢
  have i1 : Has_leg W w.heap.size 0 := ⟨_, X0.is_leg⟩
  have i2 : of_leg W w.heap.size 0 = l := of_leg_eq X0.is_leg
  go_wp2_with (go_at_call 28; ((with_reducible refine callR (rcheck_any l W hl) ?_); intro w1 hb1 hc1 hf1 hz1))
  go_ret
  exact ⟨rfl, below_step B0 hb1⟩
set_option maxHeartbeats 2000000 in
theorem text_no (l : Leg) (w : World) (hL : Laid w) (hl : l.small) (h : (legCheck l != 0) = true) : Calls Tryz.prog 48 #[l.val] w (Ret w (.string ⟨#[]⟩)) := by
  go_enter Tryz.func48, Tryz.ntmps48
  go_upto_region 1 with (fail)
  have X0 := Blk.new w l.arr 36
  have B0 := alloc_below w (.cells l.arr 36)
  have L0 := hL.below B0
  generalize w.alloc _ = W at X0 B0 L0 ⊢
  have i1 : Has_leg W w.heap.size 0 := ⟨_, X0.is_leg⟩
  have i2 : of_leg W w.heap.size 0 = l := of_leg_eq X0.is_leg
  go_wp2_with (go_at_call 25; ((with_reducible refine callR (check_any l W L0 hl) ?_); intro w1 hb1 hc1 hf1 hz1))
  go_ret
  exact ⟨rfl, below_step B0 hb1⟩
end Go.Proofs.YtjgondadpjildaaGreatDoor
