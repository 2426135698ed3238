/- The reference's Check of an edit; walk (printed by mkedref.py). -/
import Derived.Test.YtnmpfmelaninbaaGreatDoorPk40
import Derived.Test.YtnmpfmelaninbaaGreatDoorPk27
namespace Go.Proofs.YtnmpfmelaninbaaGreatDoor
open Go.RowKit Go.Sort
set_option linter.unusedVariables false
set_option linter.unusedSimpArgs false
set_option maxRecDepth 100000
attribute [local go_sem ↓] bwin_fold
attribute [local go_sem] run_bwin0
theorem pair_nil : pairB [] 47 6 = false := by decide
theorem st_num97 (e : EditV) : stE e 97 = rnumS ((formF e.op).contains 97) e.at_ 0 60 := by
  show (if (formF e.op).contains 97 then betweenS e.at_ 0 60 else if (e.at_ == 0) then 0 else 1) = _
  unfold rnumS; grind
theorem st_num115 (e : EditV) : stE e 115 = rnumS ((formF e.op).contains 115) e.speed 0 1000 := by
  show (if (formF e.op).contains 115 then betweenS e.speed 0 1000 else if (e.speed == 0) then 0 else 1) = _
  unfold rnumS; grind
theorem st_num99 (e : EditV) : stE e 99 = rnumS ((formF e.op).contains 99) e.course 0 129599999 := by
  show (if (formF e.op).contains 99 then betweenS e.course 0 129599999 else if (e.course == 0) then 0 else 1) = _
  unfold rnumS; grind
theorem st_num100 (e : EditV) (h : ¬ (e.op < 1 ∨ 12 < e.op)) : stE e 100 = if e.op = 7 then rnumS ((formF e.op).contains 100) e.dist 1 2000000 else rnumS ((formF e.op).contains 100) e.dist 0 120000 := by
  have h0 : stE e 100 = (if (formF e.op).contains 100 then (if e.op = 6 then betweenS e.dist 0 120000 else betweenS e.dist 1 2000000) else if (e.dist == 0) then 0 else 1) := rfl
  rw [h0]
  rcases ops12 h with h | h | h | h | h | h | h | h | h | h | h | h <;> rw [h] <;> simp (config := { decide := true }) [rnumS, formF]
theorem st_name114 (e : EditV) : stE e 114 = rnameS ((formF e.op).contains 114) e.ref.isEmpty (refB e.ref) := rfl
theorem st_name110 (e : EditV) : stE e 110 = rnameS ((formF e.op).contains 110) e.name.isEmpty (if e.op = 12 then !e.name.isEmpty && placeB e.name else nameB e.name 8) := by
  have h0 : stE e 110 = (if (formF e.op).contains 110 then (if e.op = 12 then namedS (pairB e.name 47 6) else namedS (nameB e.name 8)) else if e.name.isEmpty then 0 else 1) := rfl
  rw [h0]
  have hp : (!e.name.isEmpty && placeB e.name) = pairB e.name 47 6 := by
    unfold placeB
    cases hn : e.name with
    | nil => exact pair_nil.symm
    | cons c r => rfl
  rw [hp]
  unfold rnameS
  split
  · split <;> rfl
  · rfl
theorem st_name119 (e : EditV) : stE e 119 = rnameS ((formF e.op).contains 119) e.rway.isEmpty (e.rway.isEmpty || nameB e.rway 6) := rfl
theorem st_name116 (e : EditV) : stE e 116 = rnameS ((formF e.op).contains 116) e.trans.isEmpty (e.trans.isEmpty || nameB e.trans 8) := rfl
/-- What the walk meets behind a region. -/
structure EdAt (w W : World) (g : Nat) (e : EditV) : Prop where
  blk : Blk W g e.arr
  bel : Below w.heap.size w W
theorem EdAt.drewN {w W : World} {g : Nat} {e : EditV} (h : EdAt w W g e) (n : Nat) : EdAt w (W.drewN n) g e := ⟨h.blk.step (below_drewN (Below.refl _ _) n), below_drewN h.bel n⟩
set_option maxHeartbeats 16000000 in
theorem reditCheck_any (e : EditV) (hs : e.small) (w : World) : Calls Tryz.prog 14 #[.agg e.arr] w (Ret w (.int .i64 (editCheck e))) := by
  obtain ⟨X0, B0⟩ := edt_box w e
  obtain ⟨s1, s2, s3, s4⟩ := hs
  by_cases hop : e.op < 1 ∨ 12 < e.op
  · have HO := Lib.hid (show editCheck e = 17 from if_pos hop)
    have ku := Lib.hid (euses_none e.op hop)
    clear hop
    go_enter Tryz.func14, Tryz.ntmps14
    go_upto_region 1 with (fail)
    generalize w.alloc _ = W at X0 B0 ⊢
    generalize w.heap.size = g at X0 ⊢
    have k := X0.cell
    go_wp2_with (go_at_call 33; (with_reducible refine callP (ku.out _) ?_))
    go_ret
    exact Ret.int HO.out.symm B0
  · obtain ⟨hne, hul, u97, u114, u110, u119, u116, u104, u115, u99, u100, u117⟩ := uses_in hop
    have ku := Lib.hid (euses_any e.op hop)
    have HO := Lib.hid (show editCheck e = orE (stE e 97) (orE (stE e 114) (orE (stE e 110) (orE (stE e 119) (orE (stE e 116) (orE (stE e 104) (orE (stE e 115) (orE (stE e 99) (orE (stE e 100) (orE (stE e 117) 0))))))))) from if_neg hop)
    have kh97 := Lib.hid (fun w => ehas_any (usesR e.op) 105 w (by omega))
    rw [u97] at kh97
    clear u97
    have kh114 := Lib.hid (fun w => ehas_any (usesR e.op) 102 w (by omega))
    rw [u114] at kh114
    clear u114
    have kh110 := Lib.hid (fun w => ehas_any (usesR e.op) 110 w (by omega))
    rw [u110] at kh110
    clear u110
    have kh119 := Lib.hid (fun w => ehas_any (usesR e.op) 114 w (by omega))
    rw [u119] at kh119
    clear u119
    have kh116 := Lib.hid (fun w => ehas_any (usesR e.op) 116 w (by omega))
    rw [u116] at kh116
    clear u116
    have kh104 := Lib.hid (fun w => ehas_any (usesR e.op) 97 w (by omega))
    rw [u104] at kh104
    clear u104
    have kh115 := Lib.hid (fun w => ehas_any (usesR e.op) 115 w (by omega))
    rw [u115] at kh115
    clear u115
    have kh99 := Lib.hid (fun w => ehas_any (usesR e.op) 99 w (by omega))
    rw [u99] at kh99
    clear u99
    have kh100 := Lib.hid (fun w => ehas_any (usesR e.op) 100 w (by omega))
    rw [u100] at kh100
    clear u100
    have kh117 := Lib.hid (fun w => ehas_any (usesR e.op) 117 w (by omega))
    rw [u117] at kh117
    clear u117
    have t97 := st_num97 e
    have t114 := st_name114 e
    have t110 := st_name110 e
    have t119 := st_name119 e
    have t116 := st_name116 e
    have t104 : stE e 104 = if (formF e.op).contains 104 then (if e.lo < -200000 ∨ e.hi < e.lo ∨ 6000000 < e.hi then 2 else 0) else if (e.lo == 0 && e.hi == 0) then 0 else 1 := rfl
    have t115 := st_num115 e
    have t99 := st_num99 e
    have t100 := st_num100 e hop
    have t117 : stE e 117 = if (formF e.op).contains 117 then (if e.turn = 1 ∨ e.turn = 2 then 0 else 1) else if (e.turn == 0) then 0 else 1 := rfl
    generalize (formF e.op).contains 97 = b97 at kh97 t97
    generalize stE e 97 = z97 at HO t97
    generalize (formF e.op).contains 114 = b114 at kh114 t114
    generalize stE e 114 = z114 at HO t114
    generalize (formF e.op).contains 110 = b110 at kh110 t110
    generalize stE e 110 = z110 at HO t110
    generalize (formF e.op).contains 119 = b119 at kh119 t119
    generalize stE e 119 = z119 at HO t119
    generalize (formF e.op).contains 116 = b116 at kh116 t116
    generalize stE e 116 = z116 at HO t116
    generalize (formF e.op).contains 104 = b104 at kh104 t104
    generalize stE e 104 = z104 at HO t104
    generalize (formF e.op).contains 115 = b115 at kh115 t115
    generalize stE e 115 = z115 at HO t115
    generalize (formF e.op).contains 99 = b99 at kh99 t99
    generalize stE e 99 = z99 at HO t99
    generalize (formF e.op).contains 100 = b100 at kh100 t100
    generalize stE e 100 = z100 at HO t100
    generalize (formF e.op).contains 117 = b117 at kh117 t117
    generalize stE e 117 = z117 at HO t117
    generalize usesR e.op = U at *
    have k97 := Lib.hid (enumber_any b97 e.at_ 0 60)
    rw [← t97] at k97
    have k115 := Lib.hid (enumber_any b115 e.speed 0 1000)
    rw [← t115] at k115
    have k99 := Lib.hid (enumber_any b99 e.course 0 129599999)
    rw [← t99] at k99
    have T100 := Lib.hid t100
    have T104 := Lib.hid t104
    have T117 := Lib.hid t117
    have T114 := Lib.hid t114
    have T110 := Lib.hid t110
    have T119 := Lib.hid t119
    have T116 := Lib.hid t116
    have hUe : ¬ U = ([] : List UInt8) := hne
    have hUi : U.isEmpty = false := by simpa using hne
    clear t97 t114 t110 t119 t116 t104 t115 t99 t100 t117 hne hop
    go_enter Tryz.func14, Tryz.ntmps14
    go_upto_region 1 with (fail)
    generalize w.alloc _ = W at X0 B0 ⊢
    obtain ⟨g, hg⟩ : ∃ g, g = w.heap.size := ⟨_, rfl⟩
    rw [← hg] at X0 ⊢
    clear hg
    have A0 : EdAt w W g e := ⟨X0, B0⟩
    clear X0 B0
    have k := A0.blk.cell
    go_upto_region 4 with (go_at_call 33; (with_reducible refine callP (ku.out _) ?_))
    go_quiet (first | (go_at_call 35; exact quietP (kh97.out _)) | (go_at_call 34; exact quietP (k97.out _)))
    by_cases hz : z97 = 0
    rotate_left
    · have HR := Lib.hid (show editCheck e = z97 by rw [HO.out]; simp [orE, hz])
      clear HO
      go_wp2
      go_ret
      exact Ret.int HR.out.symm (A0.drewN nq).bel
    subst hz
    have HO := Lib.hid (show editCheck e = (orE z114 (orE z110 (orE z119 (orE z116 (orE z104 (orE z115 (orE z99 (orE z100 (orE z117 0))))))))) from HO.out)
    go_upto_region 7 with (fail)
    have AW1 := A0.drewN nq
    generalize W.drewN nq = W1 at AW1 ⊢
    clear k
    have k := AW1.blk.cell
    as_aux_lemma =>
    have kref := Lib.hid (rsplitRef_any e.ref W1 s1)
    have hrB : refB e.ref = ((splitRef e.ref).2.2 == 0) := rfl
    generalize splitRef e.ref = sx at kref hrB
    obtain ⟨sa, sb, sn⟩ := sx
    go_upto_region 8 with (go_at_call 36; (with_reducible refine callQ kref.out ?_); intro m1)
    have AW2 := AW1.drewN m1
    generalize W1.drewN m1 = W2 at AW2 ⊢
    clear k
    have k := AW2.blk.cell
    as_aux_lemma =>
    have t114 := T114.out
    rw [hrB] at t114
    have k114 := Lib.hid (ename_any b114 e.ref.isEmpty (sn == 0))
    rw [← t114] at k114
    clear T114 t114 hrB kref
    go_quiet (first | (go_at_call 35; exact quietP (kh114.out _)) | (go_at_call 37; exact quietP (k114.out _)))
    by_cases hz : z114 = 0
    rotate_left
    · have HR := Lib.hid (show editCheck e = z114 by rw [HO.out]; simp [orE, hz])
      clear HO
      go_wp2
      go_ret
      exact Ret.int HR.out.symm (AW2.drewN nq).bel
    subst hz
    have HO := Lib.hid (show editCheck e = (orE z110 (orE z119 (orE z116 (orE z104 (orE z115 (orE z99 (orE z100 (orE z117 0)))))))) from HO.out)
    go_upto_region 11 with (fail)
    have AW3 := AW2.drewN nq
    generalize W2.drewN nq = W3 at AW3 ⊢
    clear k
    have k := AW3.blk.cell
    as_aux_lemma =>
    have kn8 := Lib.hid (fun w => rname_any e.name 8 w (by omega))
    have kpl := Lib.hid (fun w => rplace_any e.name w s2)
    obtain ⟨rt, hrt⟩ : ∃ rt : Bool, (if e.op = 12 then !e.name.isEmpty && placeB e.name else nameB e.name 8) = rt := ⟨_, rfl⟩
    have k110 := Lib.hid (ename_any b110 e.name.isEmpty rt)
    have t110 := T110.out
    rw [hrt] at t110
    rw [← t110] at k110
    have HRT := Lib.hid hrt
    clear T110 t110 hrt
    go_upto_if 54 with (go_at_call 38; (with_reducible refine callP (kn8.out _) ?_))
    go_cut [9] (fun v wx => v = .bool rt ∧ wx = W3)
    case first =>
      by_cases h12 : e.op = 12
      · have HQ := Lib.hid (HRT.out.symm.trans (if_pos h12))
        clear HRT
        cases hn : e.name.isEmpty with
        | true =>
          have HQ2 := Lib.hid (show rt = false by rw [HQ.out, hn]; rfl)
          clear HQ
          go_wp2_with (go_at_call 39; (with_reducible refine callP (kpl.out _) ?_))
          go_meet
          exact ⟨by rw [HQ2.out], by trivial⟩
        | false =>
          have HQ2 := Lib.hid (show rt = placeB e.name by rw [HQ.out, hn]; rfl)
          clear HQ
          go_wp2_with (go_at_call 39; (with_reducible refine callP (kpl.out _) ?_))
          go_meet
          exact ⟨by rw [HQ2.out], by trivial⟩
      · have HQ := Lib.hid (HRT.out.symm.trans (if_neg h12))
        clear HRT
        go_wp2
        go_meet
        exact ⟨by rw [HQ.out], by trivial⟩
    case rest =>
    obtain ⟨rfl, rfl⟩ := hcut
    go_upto_region 14 with (fail)
    go_quiet (first | (go_at_call 35; exact quietP (kh110.out _)) | (go_at_call 37; exact quietP (k110.out _)))
    by_cases hz : z110 = 0
    rotate_left
    · have HR := Lib.hid (show editCheck e = z110 by rw [HO.out]; simp [orE, hz])
      clear HO
      go_wp2
      go_ret
      exact Ret.int HR.out.symm (AW3.drewN nq).bel
    subst hz
    have HO := Lib.hid (show editCheck e = (orE z119 (orE z116 (orE z104 (orE z115 (orE z99 (orE z100 (orE z117 0))))))) from HO.out)
    go_upto_region 17 with (fail)
    have AW4 := AW3.drewN nq
    generalize wc.drewN nq = W4 at AW4 ⊢
    clear k
    have k := AW4.blk.cell
    as_aux_lemma =>
    have km119 := Lib.hid (fun w => rname_any e.rway 6 w (by omega))
    generalize nameB e.rway 6 = nb119 at km119 T119
    have k119 := Lib.hid (ename_any b119 e.rway.isEmpty (e.rway.isEmpty || nb119))
    have t119 := T119.out
    rw [← t119] at k119
    clear T119 t119
    go_cut [11] (fun v wx => v = .int .i64 z119 ∧ ∃ n, wx = W4.drewN n)
    case first =>
      cases hq : e.rway.isEmpty with
      | true =>
        rw [hq] at k119
        go_quiet (first | (go_at_call 35; exact quietP (kh119.out _)) | (go_at_call 37; exact quietP (k119.out _)) | (go_at_call 38; exact quietP (km119.out _)))
        go_wp2
        go_meet
        exact ⟨by trivial, nq, rfl⟩
      | false =>
        rw [hq] at k119
        cases hb : nb119 with
        | true =>
          rw [hb] at k119 km119
          go_quiet (first | (go_at_call 35; exact quietP (kh119.out _)) | (go_at_call 37; exact quietP (k119.out _)) | (go_at_call 38; exact quietP (km119.out _)))
          go_wp2
          go_meet
          exact ⟨by trivial, nq, rfl⟩
        | false =>
          rw [hb] at k119 km119
          go_quiet (first | (go_at_call 35; exact quietP (kh119.out _)) | (go_at_call 37; exact quietP (k119.out _)) | (go_at_call 38; exact quietP (km119.out _)))
          go_wp2
          go_meet
          exact ⟨by trivial, nq, rfl⟩
    case rest =>
    obtain ⟨rfl, nq, rfl⟩ := hcut
    by_cases hz : z119 = 0
    rotate_left
    · have HR := Lib.hid (show editCheck e = z119 by rw [HO.out]; simp [orE, hz])
      clear HO
      go_wp2
      go_ret
      exact Ret.int HR.out.symm (AW4.drewN nq).bel
    subst hz
    have HO := Lib.hid (show editCheck e = (orE z116 (orE z104 (orE z115 (orE z99 (orE z100 (orE z117 0)))))) from HO.out)
    go_upto_region 20 with (fail)
    have AW5 := AW4.drewN nq
    generalize W4.drewN nq = W5 at AW5 ⊢
    clear k
    have k := AW5.blk.cell
    as_aux_lemma =>
    have km116 := Lib.hid (fun w => rname_any e.trans 8 w (by omega))
    generalize nameB e.trans 8 = nb116 at km116 T116
    have k116 := Lib.hid (ename_any b116 e.trans.isEmpty (e.trans.isEmpty || nb116))
    have t116 := T116.out
    rw [← t116] at k116
    clear T116 t116
    go_cut [12] (fun v wx => v = .int .i64 z116 ∧ ∃ n, wx = W5.drewN n)
    case first =>
      cases hq : e.trans.isEmpty with
      | true =>
        rw [hq] at k116
        go_quiet (first | (go_at_call 35; exact quietP (kh116.out _)) | (go_at_call 37; exact quietP (k116.out _)) | (go_at_call 38; exact quietP (km116.out _)))
        go_wp2
        go_meet
        exact ⟨by trivial, nq, rfl⟩
      | false =>
        rw [hq] at k116
        cases hb : nb116 with
        | true =>
          rw [hb] at k116 km116
          go_quiet (first | (go_at_call 35; exact quietP (kh116.out _)) | (go_at_call 37; exact quietP (k116.out _)) | (go_at_call 38; exact quietP (km116.out _)))
          go_wp2
          go_meet
          exact ⟨by trivial, nq, rfl⟩
        | false =>
          rw [hb] at k116 km116
          go_quiet (first | (go_at_call 35; exact quietP (kh116.out _)) | (go_at_call 37; exact quietP (k116.out _)) | (go_at_call 38; exact quietP (km116.out _)))
          go_wp2
          go_meet
          exact ⟨by trivial, nq, rfl⟩
    case rest =>
    obtain ⟨rfl, nq, rfl⟩ := hcut
    by_cases hz : z116 = 0
    rotate_left
    · have HR := Lib.hid (show editCheck e = z116 by rw [HO.out]; simp [orE, hz])
      clear HO
      go_wp2
      go_ret
      exact Ret.int HR.out.symm (AW5.drewN nq).bel
    subst hz
    have HO := Lib.hid (show editCheck e = (orE z104 (orE z115 (orE z99 (orE z100 (orE z117 0))))) from HO.out)
    go_upto_region 23 with (fail)
    have AW6 := AW5.drewN nq
    generalize W5.drewN nq = W6 at AW6 ⊢
    clear k
    have k := AW6.blk.cell
    as_aux_lemma =>
    have hZ : (e.lo == 0 && e.hi == 0) = Win.eqB ⟨e.lo, e.hi⟩ ⟨0, 0⟩ := by simp [Win.eqB]; grind
    have t104 := T104.out
    rw [hZ] at t104
    have N1 := run_neq_win ⟨e.lo, e.hi⟩ ⟨0, 0⟩
    generalize Win.eqB ⟨e.lo, e.hi⟩ ⟨0, 0⟩ = Z at t104 N1
    clear hZ T104
    have T104 := Lib.hid t104
    clear t104
    have i1 : Has_win W6 g 6 := ⟨_, AW6.blk.edt_win⟩
    have i2 : of_win W6 g 6 = ⟨e.lo, e.hi⟩ := of_win_eq AW6.blk.edt_win
    go_cut [115] (fun v wx => v = .bool (!b104 && !Z) ∧ wx = W6)
    case first =>
      cases b104
      · cases Z
        all_goals
          go_wp2_with (go_at_call 35; (with_reducible refine callP (kh104.out _) ?_))
          go_meet
          exact ⟨by trivial, by trivial⟩
      · go_wp2_with (go_at_call 35; (with_reducible refine callP (kh104.out _) ?_))
        go_meet
        exact ⟨by trivial, by trivial⟩
    case rest =>
    obtain ⟨rfl, rfl⟩ := hcut
    clear N1 i1 i2
    cases hq : (!b104 && !Z)
    rotate_left
    · have hz : z104 = 1 := by rw [T104.out]; revert hq; cases b104 <;> cases Z <;> simp
      have HR := Lib.hid (show editCheck e = 1 by rw [HO.out, hz]; rfl)
      clear HO
      go_wp2
      go_ret
      exact Ret.int HR.out.symm AW6.bel
    have HQ := Lib.hid hq
    clear hq
    go_upto_region 25 with (fail)
    obtain ⟨bad, hbad⟩ : ∃ bad : Bool, (b104 && decide (e.lo < -200000 ∨ e.hi < e.lo ∨ 6000000 < e.hi)) = bad := ⟨_, rfl⟩
    have HBAD := Lib.hid hbad
    clear hbad
    go_cut [138] (fun v wx => v = .bool bad ∧ wx = wc)
    case first =>
      cases b104
      · have HB2 := Lib.hid (show bad = false from HBAD.out.symm)
        go_wp2_with (go_at_call 35; (with_reducible refine callP (kh104.out _) ?_))
        go_meet
        exact ⟨by rw [HB2.out], by trivial⟩
      · by_cases c1 : e.lo < -200000
        · have HB2 := Lib.hid (show bad = true by rw [← HBAD.out]; simp; omega)
          go_wp2_with (go_at_call 35; (with_reducible refine callP (kh104.out _) ?_))
          go_meet
          exact ⟨by rw [HB2.out], by trivial⟩
        · by_cases c2 : e.hi < e.lo
          · have HB2 := Lib.hid (show bad = true by rw [← HBAD.out]; simp; omega)
            go_wp2_with (go_at_call 35; (with_reducible refine callP (kh104.out _) ?_))
            go_meet
            exact ⟨by rw [HB2.out], by trivial⟩
          · by_cases c3 : 6000000 < e.hi
            · have HB2 := Lib.hid (show bad = true by rw [← HBAD.out]; simp; omega)
              go_wp2_with (go_at_call 35; (with_reducible refine callP (kh104.out _) ?_))
              go_meet
              exact ⟨by rw [HB2.out], by trivial⟩
            · have HB2 := Lib.hid (show bad = false by rw [← HBAD.out]; simp; omega)
              go_wp2_with (go_at_call 35; (with_reducible refine callP (kh104.out _) ?_))
              go_meet
              exact ⟨by first | (rw [HB2.out]; done) | (rw [HB2.out]; simp; omega), by trivial⟩
    case rest =>
    obtain ⟨rfl, rfl⟩ := hcut
    cases bad
    rotate_left
    · have hz : z104 = 2 := by
        have := HBAD.out
        simp only [Bool.and_eq_true, decide_eq_true_eq] at this
        rw [T104.out, if_pos this.1, if_pos this.2]
      have HR := Lib.hid (show editCheck e = 2 by rw [HO.out, hz]; rfl)
      clear HO
      go_wp2
      go_ret
      exact Ret.int HR.out.symm AW6.bel
    have hz : z104 = 0 := by
      have h1 := HBAD.out
      have h2 := HQ.out
      rw [T104.out]
      cases b104
      · cases Z
        · exact absurd h2 (by decide)
        · rfl
      · simp only [Bool.true_and, decide_eq_false_iff_not] at h1
        rw [if_pos rfl, if_neg h1]
    clear T104 HQ HBAD
    subst hz
    have HO := Lib.hid (show editCheck e = (orE z115 (orE z99 (orE z100 (orE z117 0)))) from HO.out)
    go_upto_region 27 with (fail)
    have AW7 := AW6
    obtain ⟨W7, hW7⟩ : ∃ W7, W7 = wc := ⟨_, rfl⟩
    rw [← hW7] at AW7 ⊢
    clear hW7 k
    have k := AW7.blk.cell
    go_quiet (first | (go_at_call 35; exact quietP (kh115.out _)) | (go_at_call 34; exact quietP (k115.out _)))
    by_cases hz : z115 = 0
    rotate_left
    · have HR := Lib.hid (show editCheck e = z115 by rw [HO.out]; simp [orE, hz])
      clear HO
      go_wp2
      go_ret
      exact Ret.int HR.out.symm (AW7.drewN nq).bel
    subst hz
    have HO := Lib.hid (show editCheck e = (orE z99 (orE z100 (orE z117 0))) from HO.out)
    go_upto_region 30 with (fail)
    have AW8 := AW7.drewN nq
    generalize W7.drewN nq = W8 at AW8 ⊢
    clear k
    have k := AW8.blk.cell
    as_aux_lemma =>
    go_quiet (first | (go_at_call 35; exact quietP (kh99.out _)) | (go_at_call 34; exact quietP (k99.out _)))
    by_cases hz : z99 = 0
    rotate_left
    · have HR := Lib.hid (show editCheck e = z99 by rw [HO.out]; simp [orE, hz])
      clear HO
      go_wp2
      go_ret
      exact Ret.int HR.out.symm (AW8.drewN nq).bel
    subst hz
    have HO := Lib.hid (show editCheck e = (orE z100 (orE z117 0)) from HO.out)
    go_upto_region 33 with (fail)
    have AW9 := AW8.drewN nq
    generalize W8.drewN nq = W9 at AW9 ⊢
    clear k
    have k := AW9.blk.cell
    as_aux_lemma =>
    go_upto_if 157 with (fail)
    go_cut [15, 16] (fun a b wx => a = .int .i64 (if e.op = 7 then 1 else 0) ∧ b = .int .i64 (if e.op = 7 then 2000000 else 120000) ∧ wx = W9)
    case first =>
      by_cases h7 : e.op = 7
      · have q1 := Lib.hid (show (if e.op = 7 then (1 : Int) else 0) = 1 from if_pos h7)
        have q2 := Lib.hid (show (if e.op = 7 then (2000000 : Int) else 120000) = 2000000 from if_pos h7)
        go_wp2
        go_meet
        exact ⟨by rw [q1.out], by rw [q2.out], by trivial⟩
      · have q1 := Lib.hid (show (if e.op = 7 then (1 : Int) else 0) = 0 from if_neg h7)
        have q2 := Lib.hid (show (if e.op = 7 then (2000000 : Int) else 120000) = 120000 from if_neg h7)
        go_wp2
        go_meet
        exact ⟨by rw [q1.out], by rw [q2.out], by trivial⟩
    case rest =>
    obtain ⟨rfl, rfl, rfl⟩ := hcut
    have k100 := Lib.hid (enumber_any b100 e.dist (if e.op = 7 then 1 else 0) (if e.op = 7 then 2000000 else 120000))
    have t100 : z100 = rnumS b100 e.dist (if e.op = 7 then 1 else 0) (if e.op = 7 then 2000000 else 120000) := by
      rw [T100.out]; split <;> rfl
    rw [← t100] at k100
    clear T100 t100
    generalize (if e.op = 7 then (1 : Int) else 0) = dlo at *
    generalize (if e.op = 7 then (2000000 : Int) else 120000) = dhi at *
    go_upto_region 36 with (fail)
    go_quiet (first | (go_at_call 35; exact quietP (kh100.out _)) | (go_at_call 34; exact quietP (k100.out _)))
    by_cases hz : z100 = 0
    rotate_left
    · have HR := Lib.hid (show editCheck e = z100 by rw [HO.out]; simp [orE, hz])
      clear HO
      go_wp2
      go_ret
      exact Ret.int HR.out.symm (AW9.drewN nq).bel
    subst hz
    have HO := Lib.hid (show editCheck e = (orE z117 0) from HO.out)
    go_upto_region 39 with (fail)
    have AX := AW9.drewN nq
    generalize wc.drewN nq = X at AX ⊢
    clear k
    have k := AX.blk.cell
    have HZ := Lib.hid (show editCheck e = z117 by rw [HO.out]; unfold orE; split <;> simp_all)
    clear HO
    cases b117
    · by_cases c0 : e.turn = 0
      · have HR := Lib.hid (show editCheck e = 0 by rw [HZ.out, T117.out, c0]; rfl)
        clear HZ T117
        go_wp2_with (go_at_call 35; (with_reducible refine callP (kh117.out _) ?_))
        go_ret
        exact Ret.int HR.out.symm AX.bel
      · have HR := Lib.hid (show editCheck e = 1 by rw [HZ.out, T117.out]; simp [c0])
        clear HZ T117
        go_wp2_with (go_at_call 35; (with_reducible refine callP (kh117.out _) ?_))
        go_ret
        exact Ret.int HR.out.symm AX.bel
    · by_cases c1 : e.turn = 1
      · have HR := Lib.hid (show editCheck e = 0 by rw [HZ.out, T117.out]; simp [c1])
        clear HZ T117
        go_wp2_with (go_at_call 35; (with_reducible refine callP (kh117.out _) ?_))
        go_ret
        exact Ret.int HR.out.symm AX.bel
      · by_cases c2 : e.turn = 2
        · have HR := Lib.hid (show editCheck e = 0 by rw [HZ.out, T117.out]; simp [c2])
          clear HZ T117
          go_wp2_with (go_at_call 35; (with_reducible refine callP (kh117.out _) ?_))
          go_ret
          exact Ret.int HR.out.symm AX.bel
        · have HR := Lib.hid (show editCheck e = 1 by rw [HZ.out, T117.out]; simp [c1, c2])
          clear HZ T117
          go_wp2_with (go_at_call 35; (with_reducible refine callP (kh117.out _) ?_))
          go_ret
          exact Ret.int HR.out.symm AX.bel
end Go.Proofs.YtnmpfmelaninbaaGreatDoor
