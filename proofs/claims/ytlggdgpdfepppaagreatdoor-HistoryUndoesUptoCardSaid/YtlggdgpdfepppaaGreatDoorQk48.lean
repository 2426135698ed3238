/- airway.Expand; walk. -/
import Derived.Test.YtlggdgpdfepppaaGreatDoorQk38
import Derived.Test.YtlggdgpdfepppaaGreatDoorQk39
import Derived.Test.YtlggdgpdfepppaaGreatDoorQk12
import Derived.Great.BuildSlice
namespace Go.Proofs.YtlggdgpdfepppaaGreatDoor
open Go.RowKit Go.Sort
set_option linter.unusedVariables false
set_option linter.unusedSimpArgs false
set_option maxRecDepth 100000
def wpt (q : List UInt8 × Int × Int) : APt := ⟨q.1, q.2.1, q.2.2, 0⟩
def wptA (q : List UInt8 × Int × Int) : Array Value := (wpt q).arr
def RetWay (w : World) (r : List (List UInt8 × Int × Int) × Int) (e : Ending) (w' : World) : Prop :=
  ∃ A c, e = .returned (.tuple #[.slice A r.1.length c, .int .i64 r.2]) ∧ r.1.length ≤ c ∧ Items w' A 4 (r.1.map wptA) ∧ Below w.heap.size w w'
theorem RetWay.err {w w' : World} {r : List (List UInt8 × Int × Int) × Int} {n : Int} (h : r = ([], n)) (hb : Below w.heap.size w w') : RetWay w r (.returned (.tuple #[.slice none 0 0, .int .i64 n])) w' := by
  subst h
  exact ⟨none, 0, rfl, Nat.le_refl _, Items.nil _ _ _, hb⟩
theorem callWay {P : Program} {f : FuncId} {args : Array Value} {W : World} {r : List (List UInt8 × Int × Int) × Int} {K : Ending → World → Prop} (h : Calls P f args W (RetWay W r))
    (k : ∀ A c w', r.1.length ≤ c → Items w' A 4 (r.1.map wptA) → Below W.heap.size W w' → K (.returned (.tuple #[.slice A r.1.length c, .int .i64 r.2])) w') : Calls P f args W K :=
  h.mono fun e w' ⟨A, c, he, h1, h2, h3⟩ => by subst he; exact k A c w' h1 h2 h3
theorem idxA_ge (r : List UInt8) : ∀ (l : List APt) (k : Nat), -1 ≤ idxA r l k
  | [], k => by simp [idxA]
  | x :: t, k => by
    unfold idxA
    split
    · omega
    · exact idxA_ge r t (k + 1)
def baptG (parts : Array (Nat × Value)) : Sem Value := Instr.build 181 parts
theorem baptG_fold (parts : Array (Nat × Value)) : Instr.build 181 parts = baptG parts := rfl
theorem run_baptG (w : World) (r : List UInt8) (a b : Int) : (baptG #[(0, .string ⟨r.toArray⟩), (1, .agg (Win.arr ⟨a, b⟩))]).run Tryz.prog w = .ok (.agg (wptA (r, a, b))) w := run_build w _ _ _ (by kernel_rfl)
def bslA (parts : Array (Nat × Value)) : Sem Value := Instr.buildSlice 172 1 parts
theorem bslA_fold (parts : Array (Nat × Value)) : Instr.buildSlice 172 1 parts = bslA parts := rfl
theorem run_bslA (w : World) (q : List UInt8 × Int × Int) : (bslA #[(0, .agg (wptA q))]).run Tryz.prog w = .ok (.slice (some ⟨w.heap.size, 0, none⟩) 1 1) (w.alloc (.cells (wptA q) 181)) := by
  obtain ⟨i0, hi, hz0, hz1, hz2⟩ := info_parts infoA_apt
  refine run_buildSlice w 172 181 1 #[(0, .agg (wptA q))] (wptA q) i0 _ Tryz.underlying172 hi hz0 (by rw [hz1]; decide) (by rw [hz1]; decide) ?_
  rw [hz1]
  kernel_rfl
attribute [local go_sem ↓] baptG_fold bslA_fold
attribute [local go_sem] run_baptG run_bslA
theorem APt.win_at {W : World} {b o : Nat} {p : APt} (h : Is_apt W b o p) : Is_win W b (o + 1) ⟨p.lo, p.hi⟩ := fun j hj => by
  rw [Nat.add_assoc]
  refine (h (1 + j) (by omega)).trans ?_
  match j, hj with
  | 0, _ => rfl
  | 1, _ => rfl
theorem ptAt_get {pts : List APt} {k : Nat} (h : k < pts.length) : ptAt pts k = pts[k] := by simp [ptAt, List.getD_eq_getElem?_getD, h]
set_option maxHeartbeats 8000000 in
theorem aexpand_any (a : AwyV) (cs : Array Value) (f t : List UInt8) (w : World) (hL : Laid w) (h : AwyAt w cs a) (hs : a.small) :
    Calls Tryz.prog 123 #[.agg cs, .string ⟨f.toArray⟩, .string ⟨t.toArray⟩] w (RetWay w (awyExpand a f t)) := by
  obtain ⟨A, c, rfl, hlc, hI⟩ := h.ex
  have HLB := Lib.hid (fun (W : World) (B : Below w.heap.size w W) => hL.below B)
  have HAB := Lib.hid (fun (W : World) (B : Below w.heap.size w W) => h.below B)
  have HIT := Lib.hid hI
  have HC := Lib.hid (show awyExpand a f t = if awyCheck a ≠ 0 then ([], awyCheck a) else if idxA f a.pts 0 < 0 ∨ idxA t a.pts 0 < 0 then ([], 6) else if idxA f a.pts 0 = idxA t a.pts 0 then ([], 1) else
    if idxA f a.pts 0 < idxA t a.pts 0 then wayUp a.pts (idxA f a.pts 0).toNat ((idxA t a.pts 0).toNat - (idxA f a.pts 0).toNat) [] else wayDn a.pts (idxA f a.pts 0).toNat ((idxA f a.pts 0).toNat - (idxA t a.pts 0).toNat) [] from rfl)
  have hcl := Lib.hid (fun h => (@awyCheck_len a h).2)
  have hlen := hs.len
  go_enter Tryz.func123, Tryz.ntmps123
  go_upto_region 1 with (fail)
  have X0 := Blk.new w (awyArr a A c) 174
  have B0 := alloc_below3 w (.cells (awyArr a A c) 174)
  generalize w.alloc _ = W at X0 B0 ⊢
  obtain ⟨g0, hg0⟩ : ∃ g, g = w.heap.size := ⟨_, rfl⟩
  rw [← hg0] at X0 ⊢
  clear hg0
  have i1 : Has_awy W g0 0 := ⟨_, X0.is_awy rfl⟩
  have i2 : of_awy W g0 0 = awyArr a A c := of_awy_eq (X0.is_awy rfl)
  have kc := Lib.hid (acheck_any a _ W (HLB.out W B0) (HAB.out W B0) hs)
  clear hL h hI
  by_cases hv : awyCheck a = 0
  case neg =>
    have HO := Lib.hid (HC.out.trans (if_pos hv))
    generalize awyCheck a = v at *
    have hv' : (v != 0) = true := by simpa using hv
    clear hv HC hcl X0
    go_wp2_with (go_at_call 147; (with_reducible refine callR kc.out ?_); intro w1 b1 _ _ _)
    go_ret2
    exact RetWay.err HO.out (below_step B0 b1)
  have HC := Lib.hid (HC.out.trans (if_neg (not_not_intro hv)))
  have h40 := hcl.out hv
  rw [hv] at kc
  clear hv hcl
  go_upto_region 4 with (go_at_call 147; (with_reducible refine callR kc.out ?_); intro w1 b1 _ _ _)
  have X1 := Lib.hid (X0.step b1)
  have B1 := below_step B0 b1
  clear i1 i2 kc X0 B0 b1
  have hx1 := idxA_ge f a.pts 0
  have hx2 := fun h => (idxA_lt f a.pts 0 h).2
  have hy1 := idxA_ge t a.pts 0
  have hy2 := fun h => (idxA_lt t a.pts 0 h).2
  have j1 : ∀ d os, Has_awy (grow (redrawn w1 d) os) g0 0 := fun d os => ⟨_, (X1.out.step (below_regrown w1 d os)).is_awy rfl⟩
  have j2 : ∀ d os, of_awy (grow (redrawn w1 d) os) g0 0 = awyArr a A c := fun d os => of_awy_eq ((X1.out.step (below_regrown w1 d os)).is_awy rfl)
  have k1 : ∀ d os, Calls Tryz.prog 148 #[.agg (awyArr a A c), .string ⟨f.toArray⟩] (grow (redrawn w1 d) os) fun e w'' => e = .returned (.int .i64 (idxA f a.pts 0)) ∧ ∃ q : Regrown, w'' = grow (redrawn w1 q.d) q.os := fun d os => Calls.regrown_ret (aindex_any a _ f _ (HAB.out _ (below_step B1 (below_regrown w1 d os))) (by omega))
  have k2 : ∀ d os, Calls Tryz.prog 148 #[.agg (awyArr a A c), .string ⟨t.toArray⟩] (grow (redrawn w1 d) os) fun e w'' => e = .returned (.int .i64 (idxA t a.pts 0)) ∧ ∃ q : Regrown, w'' = grow (redrawn w1 q.d) q.os := fun d os => Calls.regrown_ret (aindex_any a _ t _ (HAB.out _ (below_step B1 (below_regrown w1 d os))) (by omega))
  generalize idxA f a.pts 0 = x at *
  generalize idxA t a.pts 0 = y at *
  have HX2 := Lib.hid hx2
  have HY2 := Lib.hid hy2
  clear hx2 hy2
  refine wp_region_quiet_below (by kernel_rfl) (by kernel_rfl) ?_
  repeat (go_big_quiet_step (with_reducible first | exact k1 _ _ | exact k2 _ _))
  refine wpQuiet_nil ?_
  intro _ hw'
  obtain ⟨⟨dq, osq⟩, hw''⟩ := hw'
  subst hw''
  have B2 := below_step B1 (below_regrown w1 dq osq)
  have X2 := X1.out.step (below_regrown w1 dq osq)
  clear j1 j2 k1 k2 X1 B1
  generalize grow (redrawn w1 dq) osq = W2 at X2 B2 ⊢
  by_cases hx : x < 0
  · have HO := Lib.hid (HC.out.trans (if_pos (.inl hx)))
    clear HC HX2 HY2
    go_wp2
    go_ret2
    exact RetWay.err HO.out B2
  by_cases hy : y < 0
  · have HO := Lib.hid (HC.out.trans (if_pos (.inr hy)))
    clear HC HX2 HY2
    go_wp2
    go_ret2
    exact RetWay.err HO.out B2
  have HC := Lib.hid (HC.out.trans (if_neg (by omega)))
  have hx2 := HX2.out (by omega)
  have hy2 := HY2.out (by omega)
  clear HX2 HY2
  obtain ⟨i0, rfl⟩ : ∃ k : Nat, x = k := ⟨x.toNat, by omega⟩
  obtain ⟨j0, rfl⟩ : ∃ k : Nat, y = k := ⟨y.toNat, by omega⟩
  rw [Int.toNat_natCast, Int.toNat_natCast] at HC
  clear hx1 hy1 hx hy
  by_cases heq : i0 = j0
  · have HO := Lib.hid (HC.out.trans (if_pos (by rw [heq])))
    have he : ((i0 : Int) == (j0 : Int)) = true := by simp; omega
    clear HC heq
    go_wp2
    go_ret2
    exact RetWay.err HO.out B2
  have HC := Lib.hid (HC.out.trans (if_neg (by omega)))
  have he : ((i0 : Int) == (j0 : Int)) = false := by simp; omega
  have hi0 : i0 < a.pts.length := by omega
  have hj0 : j0 < a.pts.length := by omega
  clear hx2 hy2
  have HPT := Lib.hid (fun (k : Nat) (hk : k < a.pts.length) (W' : World) (B : Below w.heap.size w W') => show ∃ b off, A = some ⟨b, off, none⟩ ∧ Is_apt W' b (off + k * 4) (ptAt a.pts k) from by
    obtain ⟨b, off, rfl, hb, _⟩ := HIT.out.get (k := k) (by simpa using hk)
    exact ⟨b, off, rfl, by rw [ptAt_get hk]; exact aptItem HIT.out B hk⟩)
  by_cases hud : i0 < j0
  · have HC := Lib.hid (HC.out.trans (if_pos (by omega)))
    clear heq
    go_wp2
    clear he
    have HX := Lib.hid X2
    have HB := Lib.hid B2
    have HUD := Lib.hid hud
    clear X2 B2 hud
    go_loopw [9, 11] (fun iv v wr => ∃ (i : Nat) (acc : List (List UInt8 × Int × Int)), i0 ≤ i ∧ i ≤ j0 ∧ iv = .int .i64 i ∧ wayUp a.pts i0 (j0 - i0) [] = wayUp a.pts i (j0 - i) acc ∧ acc.length = i - i0 ∧ GOut W2.heap.size wr 181 4 v (acc.map wptA) ∧ Below W2.heap.size W2 wr) (fun iv _ _ => j0 - (intOf iv).toNat)
    case atStart => exact ⟨i0, [], Nat.le_refl _, by have := HUD.out; omega, rfl, rfl, by simp, GOut.nil _ _ _ _, Below.refl _ _⟩
    case round =>
      obtain ⟨i, acc, hi1, hi2, rfl, hw, hal, O, BW⟩ := hrel
      have HW := Lib.hid hw
      have HAL := Lib.hid hal
      have BB := below_step HB.out BW
      clear hw hal
      by_cases hij : i = j0
      · subst hij
        have HO := Lib.hid (show awyExpand a f t = (acc, 0) by rw [HC.out, HW.out, Nat.sub_self]; rfl)
        obtain ⟨A3, c3, e3, hl3, hI3, _, _⟩ := O.form (by intro y hy; obtain ⟨q, _, rfl⟩ := List.mem_map.1 hy; exact (wpt q).arr_sz)
        rw [List.length_map] at e3 hl3
        subst e3
        clear HC HW O
        go_wp2
        go_ret2
        rw [HO.out]
        exact ⟨A3, c3, rfl, hl3, hI3, BB⟩
      · have hne : ((i : Int) != (j0 : Int)) = true := by simp; omega
        have hlt : ¬ (j0 : Int) < (i : Int) := by omega
        obtain ⟨b, off, hA, hP⟩ := HPT.out i (by omega) wr BB
        subst hA
        have HN := Lib.hid (fun (W' : World) (B : Below w.heap.size w W') => show Is_apt W' b (off + (i + 1) * 4) (ptAt a.pts (i + 1)) from by
          obtain ⟨b', off', hA, hP⟩ := HPT.out (i + 1) (by omega) W' B
          obtain ⟨rfl, rfl⟩ : b = b' ∧ off = off' := by simpa using hA
          exact hP)
        have HS := Lib.hid (show wayUp a.pts i0 (j0 - i0) [] = if (ptAt a.pts i).dir = 2 then ([], 9) else wayUp a.pts (i + 1) (j0 - (i + 1)) (acc ++ [((ptAt a.pts (i + 1)).ref, (ptAt a.pts i).lo, (ptAt a.pts i).hi)]) by
          rw [HW.out, show j0 - i = (j0 - (i + 1)) + 1 by omega]; rfl)
        have X3 := HX.out.step BW
        have c1 : wr.cell? ⟨g0, 1, none⟩ = some (.slice (some ⟨b, off, none⟩) a.pts.length c) := X3.cell 1
        have HP := Lib.hid (fun (W' : World) (B : Below wr.heap.size wr W') => show Is_apt W' b (off + i * 4) (ptAt a.pts i) from by
          obtain ⟨b', off', hA, hP⟩ := HPT.out i (by omega) W' (below_step BB B)
          obtain ⟨rfl, rfl⟩ : b = b' ∧ off = off' := by simpa using hA
          exact hP)
        have e3 : wr.cell? ⟨b, off + i * 4 + 3, none⟩ = some (.int .u8 (ptAt a.pts i).dir) := hP 3 (by omega)
        generalize ptAt a.pts i = p at *
        generalize ptAt a.pts (i + 1) = p2 at *
        have hil : (i : Int) < (a.pts.length : Int) := by omega
        have hic : i < c := by omega
        clear HW hP
        by_cases hd : p.dir = 2
        · have HO := Lib.hid (show awyExpand a f t = ([], 9) by rw [HC.out, HS.out, if_pos hd])
          rw [hd] at e3
          clear HC HS hd
          go_wp2
          go_ret2
          exact RetWay.err HO.out BB
        · have HS := Lib.hid (HS.out.trans (if_neg hd))
          have hd' : (p.dir == 2) = false := by simpa using hd
          clear hd
          go_upto_region 16 with (fail)
          obtain ⟨m, hm⟩ : ∃ m : Nat, m = i + 1 := ⟨_, rfl⟩
          have hmi : (i : Int) + 1 = (m : Int) := by omega
          rw [hmi]
          rw [← hm] at HN HS
          have hml : (m : Int) < (a.pts.length : Int) := by omega
          have hmc : m < c := by omega
          have f1 : ∀ d os, (grow (redrawn wr d) os).cell? ⟨g0, 1, none⟩ = some (.slice (some ⟨b, off, none⟩) a.pts.length c) := fun d os => (X3.step (below_regrown wr d os)).cell 1
          have f2 : ∀ d os, (grow (redrawn wr d) os).cell? ⟨b, off + m * 4, none⟩ = some (.string ⟨p2.ref.toArray⟩) := fun d os => by
            have := HN.out _ (below_step BB (below_regrown wr d os)) 0 (by omega)
            rw [Nat.add_zero] at this
            exact this
          have f3 : ∀ d os, Has_win (grow (redrawn wr d) os) b (off + i * 4 + 1) := fun d os => ⟨_, APt.win_at (HP.out _ (below_regrown wr d os))⟩
          have f4 : ∀ d os, of_win (grow (redrawn wr d) os) b (off + i * 4 + 1) = ⟨p.lo, p.hi⟩ := fun d os => of_win_eq (APt.win_at (HP.out _ (below_regrown wr d os)))
          have HOO := Lib.hid O
          have HM := Lib.hid hm
          clear O hmi hm c1 e3 X3
          refine wp_region_take_tail_below _ 14 (by kernel_rfl) (by kernel_rfl) (fun _ _ _ h => h) (.inl ⟨rfl, fun _ => rfl⟩) ?_
          simp only [Nat.reduceSub, List.take_succ_cons, List.take_zero, List.drop_succ_cons, List.drop_zero, Act.put, List.setIfInBounds_toArray, List.set_cons_zero, List.set_cons_succ]
          repeat (quiet_step (fail))
          refine wpQuiet_nil ?_
          intro _ hw'
          obtain ⟨⟨dq2, osq2⟩, hw''⟩ := hw'
          subst hw''
          have B3 := below_regrown wr dq2 osq2
          have O3 := HOO.out.step B3
          clear f1 f2 f3 f4 HOO
          generalize grow (redrawn wr dq2) osq2 = w3 at B3 O3 ⊢
          have O4 := O3.alloc (.cells (wptA (p2.ref, p.lo, p.hi)) 181)
          have B4 := below_step (below_step BW B3) (alloc_below3 w3 (.cells (wptA (p2.ref, p.lo, p.hi)) 181))
          have hq := Blk.new w3 (wptA (p2.ref, p.lo, p.hi)) 181
          have hacc : acc.length ≤ 40 := by have := HAL.out; omega
          go_wp2_with (at_builtin; refine wpList_append_item rfl (.tmp 58) (.tmp 72) _ 181 4 40 _ infoA_apt rfl (by omega) Tryz.underlying172 rfl O4 rfl (wptA (p2.ref, p.lo, p.hi)) w3.heap.size 1 ((wpt (p2.ref, p.lo, p.hi)).arr_sz) ((wpt (p2.ref, p.lo, p.hi)).arr_one) rfl hq.cell (by rw [List.length_map]; unfold maxLen; omega) (by rw [List.length_map]; omega) B4.size ?_; intro v5 W5 O5 g5)
          go_roundw
          case rel => exact ⟨m, acc ++ [(p2.ref, p.lo, p.hi)], by have := HM.out; omega, by have := HM.out; omega, rfl, HS.out, by rw [List.length_append, List.length_singleton]; have := HM.out; have := HAL.out; omega, by rw [List.map_append]; exact O5, O4.below_grown g5 B4 (Nat.le_refl _) B4.size⟩
          case measure => simp [intOf]; have := HM.out; omega
  · have HC := Lib.hid (HC.out.trans (if_neg (by omega)))
    have hud : j0 < i0 := by omega
    clear heq
    go_wp2
    clear he
    have HX := Lib.hid X2
    have HB := Lib.hid B2
    have HUD := Lib.hid hud
    clear X2 B2 hud
    go_loopw [9, 11] (fun iv v wr => ∃ (i : Nat) (acc : List (List UInt8 × Int × Int)), j0 ≤ i ∧ i ≤ i0 ∧ iv = .int .i64 i ∧ wayDn a.pts i0 (i0 - j0) [] = wayDn a.pts i (i - j0) acc ∧ acc.length = i0 - i ∧ GOut W2.heap.size wr 181 4 v (acc.map wptA) ∧ Below W2.heap.size W2 wr) (fun iv _ _ => (intOf iv).toNat)
    case atStart => exact ⟨i0, [], by have := HUD.out; omega, Nat.le_refl _, rfl, rfl, by simp, GOut.nil _ _ _ _, Below.refl _ _⟩
    case round =>
      obtain ⟨i, acc, hi1, hi2, rfl, hw, hal, O, BW⟩ := hrel
      have HW := Lib.hid hw
      have HAL := Lib.hid hal
      have BB := below_step HB.out BW
      clear hw hal
      by_cases hij : i = j0
      · subst hij
        have HO := Lib.hid (show awyExpand a f t = (acc, 0) by rw [HC.out, HW.out, Nat.sub_self]; rfl)
        obtain ⟨A3, c3, e3, hl3, hI3, _, _⟩ := O.form (by intro y hy; obtain ⟨q, _, rfl⟩ := List.mem_map.1 hy; exact (wpt q).arr_sz)
        rw [List.length_map] at e3 hl3
        subst e3
        clear HC HW O
        go_wp2
        go_ret2
        rw [HO.out]
        exact ⟨A3, c3, rfl, hl3, hI3, BB⟩
      · have hne : ((i : Int) != (j0 : Int)) = true := by simp; omega
        have hlt : (j0 : Int) < (i : Int) := by omega
        obtain ⟨m, hm⟩ : ∃ m : Nat, i = m + 1 := ⟨i - 1, by omega⟩
        have hmi : (i : Int) - 1 = (m : Int) := by omega
        obtain ⟨b, off, hA, hP⟩ := HPT.out m (by omega) wr BB
        subst hA
        have HS := Lib.hid (show wayDn a.pts i0 (i0 - j0) [] = if (ptAt a.pts m).dir = 1 then ([], 9) else wayDn a.pts m (m - j0) (acc ++ [((ptAt a.pts m).ref, (ptAt a.pts m).lo, (ptAt a.pts m).hi)]) by
          rw [HW.out, hm, show m + 1 - j0 = (m - j0) + 1 by omega]; rfl)
        have X3 := HX.out.step BW
        have c1 : wr.cell? ⟨g0, 1, none⟩ = some (.slice (some ⟨b, off, none⟩) a.pts.length c) := X3.cell 1
        have HP := Lib.hid (fun (W' : World) (B : Below wr.heap.size wr W') => show Is_apt W' b (off + m * 4) (ptAt a.pts m) from by
          obtain ⟨b', off', hA, hP⟩ := HPT.out m (by omega) W' (below_step BB B)
          obtain ⟨rfl, rfl⟩ : b = b' ∧ off = off' := by simpa using hA
          exact hP)
        have e3 : wr.cell? ⟨b, off + m * 4 + 3, none⟩ = some (.int .u8 (ptAt a.pts m).dir) := hP 3 (by omega)
        generalize hp2 : ptAt a.pts m = p at *
        obtain ⟨p2, hpp⟩ : ∃ p2, p2 = p := ⟨_, rfl⟩
        have hil : (m : Int) < (a.pts.length : Int) := by omega
        have hic : m < c := by omega
        have HMI := Lib.hid hmi
        have HM := Lib.hid hm
        clear HW hP hm hmi
        by_cases hd : p.dir = 1
        · have HO := Lib.hid (show awyExpand a f t = ([], 9) by rw [HC.out, HS.out, if_pos hd])
          rw [hd] at e3
          clear HC HS hd hpp hp2
          go_upto_region 14 with (fail)
          rw [HMI.out]
          go_wp2
          go_ret2
          exact RetWay.err HO.out BB
        · have HS := Lib.hid (HS.out.trans (if_neg hd))
          have hd' : (p.dir == 1) = false := by simpa using hd
          clear hd hp2
          subst hpp
          go_upto_region 14 with (fail)
          rw [HMI.out]
          go_upto_region 16 with (fail)
          have f1 : ∀ d os, (grow (redrawn wr d) os).cell? ⟨g0, 1, none⟩ = some (.slice (some ⟨b, off, none⟩) a.pts.length c) := fun d os => (X3.step (below_regrown wr d os)).cell 1
          have f2 : ∀ d os, (grow (redrawn wr d) os).cell? ⟨b, off + m * 4, none⟩ = some (.string ⟨p2.ref.toArray⟩) := fun d os => by
            have := HP.out _ (below_regrown wr d os) 0 (by omega)
            rw [Nat.add_zero] at this
            exact this
          have f3 : ∀ d os, Has_win (grow (redrawn wr d) os) b (off + m * 4 + 1) := fun d os => ⟨_, APt.win_at (HP.out _ (below_regrown wr d os))⟩
          have f4 : ∀ d os, of_win (grow (redrawn wr d) os) b (off + m * 4 + 1) = ⟨p2.lo, p2.hi⟩ := fun d os => of_win_eq (APt.win_at (HP.out _ (below_regrown wr d os)))
          have HOO := Lib.hid O
          clear O c1 e3 X3
          refine wp_region_take_tail_below _ 14 (by kernel_rfl) (by kernel_rfl) (fun _ _ _ h => h) (.inl ⟨rfl, fun _ => rfl⟩) ?_
          simp only [Nat.reduceSub, List.take_succ_cons, List.take_zero, List.drop_succ_cons, List.drop_zero, Act.put, List.setIfInBounds_toArray, List.set_cons_zero, List.set_cons_succ]
          repeat (quiet_step (fail))
          refine wpQuiet_nil ?_
          intro _ hw'
          obtain ⟨⟨dq2, osq2⟩, hw''⟩ := hw'
          subst hw''
          have B3 := below_regrown wr dq2 osq2
          have O3 := HOO.out.step B3
          clear f1 f2 f3 f4 HOO
          generalize grow (redrawn wr dq2) osq2 = w3 at B3 O3 ⊢
          have O4 := O3.alloc (.cells (wptA (p2.ref, p2.lo, p2.hi)) 181)
          have B4 := below_step (below_step BW B3) (alloc_below3 w3 (.cells (wptA (p2.ref, p2.lo, p2.hi)) 181))
          have hq := Blk.new w3 (wptA (p2.ref, p2.lo, p2.hi)) 181
          have hacc : acc.length ≤ 40 := by have := HAL.out; omega
          go_wp2_with (at_builtin; refine wpList_append_item rfl (.tmp 58) (.tmp 72) _ 181 4 40 _ infoA_apt rfl (by omega) Tryz.underlying172 rfl O4 rfl (wptA (p2.ref, p2.lo, p2.hi)) w3.heap.size 1 ((wpt (p2.ref, p2.lo, p2.hi)).arr_sz) ((wpt (p2.ref, p2.lo, p2.hi)).arr_one) rfl hq.cell (by rw [List.length_map]; unfold maxLen; omega) (by rw [List.length_map]; omega) B4.size ?_; intro v5 W5 O5 g5)
          go_roundw
          case rel => exact ⟨m, acc ++ [(p2.ref, p2.lo, p2.hi)], by have := HM.out; omega, by have := HM.out; omega, rfl, HS.out, by rw [List.length_append, List.length_singleton]; have := HM.out; have := HAL.out; omega, by rw [List.map_append]; exact O5, O4.below_grown g5 B4 (Nat.le_refl _) B4.size⟩
          case measure => simp [intOf]; have := HM.out; omega
end Go.Proofs.YtlggdgpdfepppaaGreatDoor
