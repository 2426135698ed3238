/- LoadDeparture over any database; walk. Printed by wip/mkgdt.py. -/
import Derived.Test.YtlggdgpdfepppaaGreatDoorQk49
import Derived.Deep.CutBlock
namespace Go.Proofs.YtlggdgpdfepppaaGreatDoor
open Go.RowKit Go.Sort
set_option linter.unusedVariables false
set_option linter.unusedSimpArgs false
set_option maxRecDepth 100000
theorem getLast_drop {l : List Entry} (h : 0 < l.length) : l.getLast?.getD gapE = l[l.length - 1] := by
  rw [List.getLast?_eq_getElem?, List.getElem?_eq_getElem (by omega)]; rfl
theorem wrap_succ {j n : Nat} (h : j + 1 ≤ n) (hn : n ≤ 100000 := by omega) : wrap64 ((j : Int) + 1) = (j : Int) + 1 := IntWalk.wrap64_in _ (by omega)
theorem put_len3 {n b m k : Nat} (h1 : n ≤ 60) (h2 : b ≤ 100000) : 1 + b + (n - m - k) ≤ 1000000 := by omega
theorem wrap_pred {b n : Nat} (h : b ≤ 100000) (hn : n = b + 1) : wrap64 ((n : Int) - 1) = (b : Int) := by
  rw [IntWalk.wrap64_in _ (by omega)]; omega
def isIF (l : List Entry) : Bool := match l with | [] => false | y :: _ => !y.gap && y.leg.ty == 1
theorem restFirst_if (l : List Entry) : restFirst l = l.drop (if isIF l then 1 else 0) := by
  cases l with
  | nil => rfl
  | cons y r =>
    show (if !y.gap && y.leg.ty == 1 then r else y :: r) = (y :: r).drop (if (!y.gap && y.leg.ty == 1) = true then 1 else 0)
    cases (!y.gap && y.leg.ty == 1) <;> rfl
theorem isIF_get {l : List Entry} (h : 0 < l.length) : isIF l = (!l[0].gap && l[0].leg.ty == 1) := by
  cases l with
  | nil => simp at h
  | cons y r => rfl
theorem isIF_len {l : List Entry} (h : isIF l = true) : 1 ≤ l.length := by
  cases l with
  | nil => cases h
  | cons y r => simp
attribute [local go_sem ↓] slE_fold
attribute [local go_sem] run_slE_lk1 run_slE_l1 Has_db_alloc5 of_db_alloc5 Has_db_drew5 of_db_drew5 Has_ent_drewR of_ent_drewR prcArr_ones prcArr_sz prcArr_fits prcArr_splice
set_option maxHeartbeats 32000000 in
theorem edepartG (x : Edr) (d : DBs) (G : GDB) (g : Nat) (w W : World) (h : Ed w W g x []) (P : GPre w x d G) : Calls Tryz.prog 94 #[.pointer (some ⟨g, 0, none⟩)] W (RetRun w g x (departS (lookG G) x.p x.e)) := by
  have c9 := h.c9
  have c12 := h.c12
  by_cases h1 : x.p.active = -1
  case neg =>
    have HS := Lib.hid (show departS (lookG G) x.p x.e = .bad 8 from if_pos h1)
    have hz : (x.p.active != -1) = true := by simpa using h1
    have hz2 : (x.p.active == -1) = false := by simpa using h1
    have HX := Lib.hid h
    clear h P h1
    go_enter Tryz.func94, Tryz.ntmps94
    go_wp2
    go_ret
    exact RetRun.bad HS.out (by decide) HX.out.bel
  by_cases h2 : x.p.from_ = []
  · have HS := Lib.hid (show departS (lookG G) x.p x.e = .bad 6 by unfold departS; rw [if_neg (by simpa using h1), if_pos (by simpa using h2)])
    rw [h1] at c12
    rw [h2] at c9
    have HX := Lib.hid h
    clear h P h1
    go_enter Tryz.func94, Tryz.ntmps94
    go_wp2
    go_ret
    exact RetRun.bad HS.out (by decide) HX.out.bel
  have HS0 := departG_eq G x.p x.e h1 h2
  have HAC := Lib.hid h1
  rw [h1] at c12
  have h0 : (x.p.from_ == []) = false := by simpa using h2
  have HX := Lib.hid h
  have kr := Lib.hid (erunway_any x [] g w W h P.laid x.p.from_ P.fr P.rw_)
  have hl := rwayS_lenZ P.fr P.rw_
  have HEn := Lib.hid (fun W' (b : Below w.heap.size w W') => (P.ents.below (B := 0) b : Ents W' x.A x.p.es))
  have HGp := Lib.hid (fun W' (b : Below w.heap.size w W') => (P.gap.below b).is)
  have HC := Lib.hid P.cap
  have HN := Lib.hid P.len
  have hwv : (withB x.e.name 46 x.e.trans).length ≤ 4000000000 := withB_len P.nm P.tr
  have kw := Lib.hid (fun W' => ewith_any x.e.name x.e.trans W' P.nm P.tr)
  have HPG := Lib.hid P
  generalize rwayS x.p.from_ x.e.rway = f at *
  have kl := Lib.hid (fun (W' : World) (b : Ed w W' g { x with p := { x.p with from_ := f } } []) => HPG.out.legs { x with p := { x.p with from_ := f } } rfl rfl [] g W' b f 1 hl)
  have kp := Lib.hid (fun (W' : World) (b : Below w.heap.size w W') => HPG.out.place W' b f hl)
  have hpl : (placeG G.fixes f).1.length ≤ 4000000000 := HPG.out.ok.place f
  have hlg : (legsG G.procs f 1 x.e.name x.e.trans).1.2.length ≤ 100000 ∧ ∀ l ∈ (legsG G.procs f 1 x.e.name x.e.trans).1.2, l.small := by
    rw [← (legsG_proc G.procs f 1 x.e.name x.e.trans).2.1]
    exact (HPG.out.ok.proc f 1 x.e.name x.e.trans).1
  generalize legsG G.procs f 1 x.e.name x.e.trans = lg at *
  generalize placeG G.fixes f = pl at *
  generalize withB x.e.name 46 x.e.trans = wv at *
  obtain ⟨⟨pv, ll⟩, le⟩ := lg
  obtain ⟨pr, pe⟩ := pl
  have HS := Lib.hid HS0
  have HLG := Lib.hid hlg
  clear h P h1 h2 HS0 hlg hl
  go_enter Tryz.func94, Tryz.ntmps94
  go_upto_region 6 with (go_at_call 125; (with_reducible refine callR kr.out ?_); intro w1 b1 _ _ _; have X1 := HX.out.step b1; have f9 := X1.blk.frozen 9; have k9 := X1.c9)
  have X2 := X1.setFrom f
  clear kr HX X1 f9 k9 b1 c9 c12 h0
  generalize w1.setCell _ _ = W2 at X2 ⊢
  have c9 : W2.cell? ⟨g, 9, none⟩ = some (.string ⟨f.toArray⟩) := X2.c9
  go_upto_region 7 with (go_at_call 126; (with_reducible refine callLg (kl.out _ X2) ?_); intro cs3 A3 c3 w3 hP3 hl3 hI3 b3; obtain ⟨A5, c5, hcs3, _, _⟩ := hP3.ex; subst hcs3)
  have X3 := (X2.step b3).alloc (.cells (prcArr pv A5 c5) 186)
  have I3 := hI3.below (alloc_below5 w3 (.cells (prcArr pv A5 c5) 186))
  clear X2 b3 hP3 hI3 kl c9
  generalize w3.alloc _ = W4 at X3 I3 ⊢
  by_cases hz : le = 0
  case neg =>
    have hz' : (le != 0) = true := by simpa using hz
    have HSB := Lib.hid (show departS (lookG G) x.p x.e = .bad le from HS.out.trans (if_pos hz))
    have HZ := Lib.hid hz
    have HX := Lib.hid X3
    clear HS hz I3 X3
    go_wp2
    go_ret
    exact RetRun.bad HSB.out HZ.out HX.out.bel
  subst hz
  have HS := Lib.hid (HS.out.trans (if_neg (not_not_intro rfl)))
  go_upto_region 9 with (fail)
  go_cut [6, 5] (fun a e wx => a = .string ⟨pr.toArray⟩ ∧ e = .int .i64 pe ∧ Below W4.heap.size W4 wx)
  case first =>
    have f1 : ∀ d os, (grow (redrawn W4 d) os).cell? ⟨g, 9, none⟩ = some (.string ⟨f.toArray⟩) := fun d os => (X3.step (below_regrown W4 d os)).c9
    have j1 : ∀ d os, Has_db (grow (redrawn W4 d) os) g 0 := fun d os => ⟨_, (X3.step (below_regrown W4 d os)).is_db⟩
    have j2 : ∀ d os, of_db (grow (redrawn W4 d) os) g 0 = x.db := fun d os => of_db_eq (X3.step (below_regrown W4 d os)).is_db
    have k1 : ∀ d os, Calls Tryz.prog 127 #[.agg x.db, .string ⟨f.toArray⟩] (grow (redrawn W4 d) os) fun e w'' => e = .returned (.tuple #[.string ⟨pr.toArray⟩, .int .i64 pe]) ∧ ∃ q : Regrown, w'' = grow (redrawn W4 q.d) q.os := fun d os => Calls.regrown_ret (kp.out _ (X3.step (below_regrown W4 d os)).bel)
    generalize x.db = cs at *
    clear X3 I3
    refine wp_region_quiet_below (by kernel_rfl) (by kernel_rfl) ?_
    repeat (go_big_quiet_step (with_reducible first | exact k1 _ _))
    refine wpQuiet_nil ?_
    intro _ hw'
    obtain ⟨⟨dq, osq⟩, hw''⟩ := hw'
    subst hw''
    go_wp2
    go_meet
    exact ⟨rfl, rfl, below_regrown W4 dq osq⟩
  case rest =>
  obtain ⟨rfl, rfl, BC⟩ := hcut
  have X4 := X3.step BC
  have I4 := I3.below BC
  clear X3 I3 BC kp
  by_cases hz : pe = 0
  case neg =>
    have hz' : (pe != 0) = true := by simpa using hz
    have HSB := Lib.hid (show departS (lookG G) x.p x.e = .bad pe from HS.out.trans (if_pos hz))
    have HZ := Lib.hid hz
    have HX := Lib.hid X4
    clear HS hz I4 X4
    go_wp2
    go_ret
    exact RetRun.bad HSB.out HZ.out HX.out.bel
  subst hz
  have HS := Lib.hid (HS.out.trans (if_neg (not_not_intro rfl)))
  go_upto_region 12 with (fail)
  go_cut [7] (fun a wx => a = .string ⟨wv.toArray⟩ ∧ Below wc.heap.size wc wx)
  case first =>
    have f1 : ∀ d os, (grow (redrawn wc d) os).cell? ⟨g, 16, none⟩ = some (.string ⟨x.e.name.toArray⟩) := fun d os => (X4.step (below_regrown wc d os)).c16
    have f2 : ∀ d os, (grow (redrawn wc d) os).cell? ⟨g, 18, none⟩ = some (.string ⟨x.e.trans.toArray⟩) := fun d os => (X4.step (below_regrown wc d os)).c18
    have k1 : ∀ d os, Calls Tryz.prog 128 #[.string ⟨x.e.name.toArray⟩, .string ⟨#[46]⟩, .string ⟨x.e.trans.toArray⟩] (grow (redrawn wc d) os) fun e w'' => e = .returned (.string ⟨wv.toArray⟩) ∧ ∃ q : Regrown, w'' = grow (redrawn wc q.d) q.os := fun d os => Calls.regrown_ret (kw.out _)
    generalize x.e.name = nm at *
    generalize x.e.trans = tr at *
    clear X4 I4
    refine wp_region_quiet_below (by kernel_rfl) (by kernel_rfl) ?_
    repeat (go_big_quiet_step (with_reducible first | exact k1 _ _))
    refine wpQuiet_nil ?_
    intro _ hw'
    obtain ⟨⟨dq, osq⟩, hw''⟩ := hw'
    subst hw''
    go_wp2
    go_meet
    exact ⟨rfl, below_regrown wc dq osq⟩
  case rest =>
  obtain ⟨rfl, BC⟩ := hcut
  have X5 := X4.step BC
  have I5 := I4.below BC
  clear X4 I4 BC kw
  have KO := Lib.hid (show Calls Tryz.prog 120 #[.pointer (some ⟨g, 0, none⟩), .int .u8 1, .string ⟨pr.toArray⟩, .int .u8 1, .string ⟨wv.toArray⟩] wc (Ret wc (.tuple #[.agg (oneE (lookG G) 1 pr 1 wv).arr, .int .i64 (oneS (lookG G) 1 pr 1 wv).2])) from
    HPG.out.one { x with p := { x.p with from_ := f } } rfl [] g wc X5 1 1 pr wv hpl hwv)
  have HO := Lib.hid (fun h => @oneS_ok (lookG G) 1 1 pr wv h)
  have HE1 := Lib.hid (show oneE (lookG G) 1 pr 1 wv = (oneS (lookG G) 1 pr 1 wv).1.headD zeroE from rfl)
  generalize oneE (lookG G) 1 pr 1 wv = y1 at KO HE1
  obtain ⟨r1, e1⟩ : ∃ r, oneS (lookG G) 1 pr 1 wv = r := ⟨_, rfl⟩
  have HSX := HS.out
  rw [e1] at KO HO HE1 HSX
  have HS := Lib.hid HSX
  clear e1 HSX
  obtain ⟨l2, e2⟩ := r1
  go_upto_region 14 with (go_at_call 120; (with_reducible refine callR KO.out ?_); intro w5 b5 _ _ _)
  have X6 := X5.step b5
  have Y := Blk.new w5 y1.arr 82
  have X7 := X6.alloc (.cells y1.arr 82)
  have F := FarB.new X6 (.cells y1.arr 82)
  have I7 := (I5.below b5).below (alloc_below5 w5 (.cells y1.arr 82))
  clear X5 X6 b5 KO I5
  generalize w5.alloc _ = W6 at Y X7 F I7 ⊢
  generalize w5.heap.size = gy at Y F ⊢
  by_cases hz : e2 = 0
  case neg =>
    have HSB := Lib.hid (show departS (lookG G) x.p x.e = .bad e2 from HS.out.trans (if_pos hz))
    have hz' : (e2 != 0) = true := by simpa using hz
    have HZ := Lib.hid hz
    have HX := Lib.hid X7
    clear HO HE1 hz HS I7 X7 F Y
    go_wp2
    go_ret
    exact RetRun.bad HSB.out HZ.out HX.out.bel
  subst hz
  have HS := Lib.hid (HS.out.trans (if_neg (not_not_intro rfl)))
  obtain ⟨y2, hy⟩ := HO.out rfl
  obtain rfl : l2 = [y2] := hy
  obtain rfl : y1 = y2 := HE1.out
  have kb := Lib.hid (HPG.out.bind W6 X7.bel ll A3 c3 1 wv I7 hl3 (Nat.le_trans HLG.out.1 (by decide)) (fun l hl => HLG.out.2 l hl) hwv)
  have hbl := fun h => @bindS_len0 (lookG G).pt ll 1 wv h
  have HLL := Lib.hid (show ll.length ≤ 100000 from HLG.out.1)
  generalize bindS (lookG G).pt ll 1 wv = bd at *
  obtain ⟨bl, be⟩ := bd
  have HBL := Lib.hid hbl
  have k2 : of_db W6 g 0 = x.db := of_db_eq X7.is_db
  have k1 : Has_db W6 g 0 := ⟨_, X7.is_db⟩
  clear hbl HO HE1 HLG
  go_upto_region 17 with (go_at_call 124; (with_reducible refine callBd kb.out ?_); intro A4 c4 w7 hl4 hE4 b7)
  have X8 := X7.step b7
  have Y8 := Y.step b7
  have F8 := F.below b7
  clear X7 Y F I7 kb k1 k2 b7 hl3
  by_cases hz : be = 0
  case neg =>
    have HSB := Lib.hid (show departS (lookG G) x.p x.e = .bad be from HS.out.trans (if_pos hz))
    have hz' : (be != 0) = true := by simpa using hz
    have HZ := Lib.hid hz
    have HX := Lib.hid X8
    clear hz HS X8 Y8 F8 hE4
    go_wp2
    go_ret
    exact RetRun.bad HSB.out HZ.out HX.out.bel
  subst hz
  have HS := Lib.hid (show departS (lookG G) x.p x.e = endDep x.p f ([y1] ++ bl) from HS.out.trans (if_neg (not_not_intro rfl)))
  have HBN := Lib.hid (show bl.length = ll.length from HBL.out rfl)
  have FA := FarE.of hE4 X8.blk HPG.out.own
  have c11 : w7.cell? ⟨g, 11, none⟩ = some (.slice x.A x.p.es.length x.c) := X8.c11
  clear hE4 HBL
  obtain ⟨bb, hbb⟩ : ∃ bb, bb = isIF x.p.es := ⟨_, rfl⟩
  have HBB := Lib.hid hbb
  clear hbb
  go_upto_region 20 with (fail)
  go_cut [126] (fun v wx => v = .bool bb ∧ wx = w7)
  case first =>
    by_cases hk0 : 0 < x.p.es.length
    case neg =>
      have hln : ¬ (0 : Int) < (x.p.es.length : Int) := by omega
      obtain rfl : bb = false := by
        rw [HBB.out]
        cases hb : isIF x.p.es with
        | true => exact absurd (isIF_len hb) (by omega)
        | false => rfl
      clear X8 Y8 F8 FA HBB hk0
      go_wp2
      go_meet
      exact ⟨rfl, rfl⟩
    case pos =>
      obtain ⟨b0, o0, hA, hcl⟩ := (HEn.out w7 X8.bel).entE hk0
      have hI := hcl w7 (Below.refl _ _)
      have hif := isIF_get hk0
      rw [Nat.zero_mul, Nat.add_zero] at hI
      generalize x.p.es[0] = y at hI hif
      have q0 : w7.cell? ⟨b0, o0, none⟩ = some (.bool y.gap) := hI 0 (by decide)
      have q1 : w7.cell? ⟨b0, o0 + 1, none⟩ = some (.int .u8 y.leg.ty) := hI 1 (by decide)
      obtain rfl : bb = (!y.gap && y.leg.ty == 1) := by rw [HBB.out, hif]
      have hln : (0 : Int) < (x.p.es.length : Int) := by omega
      have hcc : 0 < x.c := by have := HC.out; omega
      have HAE := Lib.hid hA
      rw [hA]
      clear hcl hI X8 Y8 F8 FA HBB hif hA
      cases hg : y.gap with
      | true =>
        rw [hg] at q0
        go_wp2
        rw [← HAE.out]
        go_meet
        exact ⟨by rw [hg]; rfl, rfl⟩
      | false =>
        rw [hg] at q0
        by_cases ht : y.leg.ty = 1
        · rw [ht] at q1
          go_wp2
          rw [← HAE.out]
          go_meet
          exact ⟨by rw [hg, ht]; rfl, rfl⟩
        · have ht' : (y.leg.ty == 1) = false := by simpa using ht
          go_wp2
          rw [← HAE.out]
          go_meet
          exact ⟨by rw [hg, ht']; rfl, rfl⟩
  case rest =>
  obtain ⟨rfl, rfl⟩ := hcut
  go_upto_if 126 with (fail)
  go_cut [10] (fun v wx => v = .slice (subE x.A (if bb then 1 else 0) x.c) (x.p.es.length - (if bb then 1 else 0)) (x.c - (if bb then 1 else 0)) ∧ wx = wc)
  case first =>
    clear X8 Y8 F8 FA
    cases bb with
    | true =>
      have h1n := isIF_len HBB.out.symm
      go_wp2
      go_meet
      exact ⟨rfl, rfl⟩
    | false =>
      go_wp2
      go_meet
      exact ⟨by simp [subE_zero], rfl⟩
  case rest =>
  obtain ⟨rfl, rfl⟩ := hcut
  have hm0 : (if bb then 1 else 0) ≤ x.p.es.length := by
    cases hb : bb with
    | true => exact isIF_len (HBB.out.symm.trans hb)
    | false => exact Nat.zero_le _
  have HRF := Lib.hid (show restFirst x.p.es = x.p.es.drop (if bb then 1 else 0) by rw [HBB.out]; exact restFirst_if _)
  generalize (if bb = true then 1 else 0) = m0 at hm0 HRF ⊢
  have HX8 := Lib.hid (fun W' (D : Below wc.heap.size wc W') => X8.step D)
  have HY8 := Lib.hid (fun W' (D : Below wc.heap.size wc W') => Y8.step D)
  have HF8 := Lib.hid (fun W' (D : Below wc.heap.size wc W') => F8.below D)
  have HFA := Lib.hid (fun W' (D : Below wc.heap.size wc W') => FA.step D)
  have HM0 := Lib.hid hm0
  clear X8 Y8 F8 FA HBB hm0
  go_upto_region 23 with (fail)
  go_loopw [10, 135] (fun v iv wr => ∃ j m : Nat, j ≤ x.p.es.length ∧ m ≤ x.p.es.length ∧ iv = .int .i64 j ∧ v = .slice (subE x.A m x.c) (x.p.es.length - m) (x.c - m) ∧ restDep (restFirst x.p.es) x.p.es = restDep (x.p.es.drop m) (x.p.es.drop j) ∧ Below wc.heap.size wc wr) (fun _ iv _ => x.p.es.length - (intOf iv).toNat)
  case atStart => exact ⟨0, m0, Nat.zero_le _, HM0.out, rfl, rfl, by rw [HRF.out]; rfl, Below.refl _ _⟩
  case round =>
    obtain ⟨j, m, hj, hm, rfl, rfl, hq, BW⟩ := hrel
    have HQ := Lib.hid hq
    clear hq
    by_cases hlt : j < x.p.es.length
    · obtain ⟨b0, o0, hA, hcl⟩ := (HEn.out wr (HX8.out _ BW).bel).entE hlt
      have hI := hcl wr (Below.refl _ _)
      have HQ2 := Lib.hid (HQ.out.trans (restDep_step (x.p.es.drop m) hlt))
      generalize x.p.es[j] = u at hI HQ2
      have i1 : Has_ent wr b0 (o0 + j * 20) := ⟨_, hI⟩
      have i2 : of_ent wr b0 (o0 + j * 20) = u := of_ent_eq hI
      have hlt2 : (j : Int) < (x.p.es.length : Int) := by omega
      have hjc : j < x.c := by have := HC.out; omega
      have hB := Lib.hid BW
      have HAE := Lib.hid hA
      have c11 : wr.cell? ⟨g, 11, none⟩ = some (.slice x.A x.p.es.length x.c) := (HX8.out _ BW).c11
      rw [hA] at c11
      rw [hA]
      clear HQ hcl hI BW hA
      go_upto_region 25 with (fail)
      have Y3 := Blk.new wr u.arr 82
      have B3 := below_step hB.out (alloc_below5 wr (.cells u.arr 82))
      clear i1 i2 hB c11
      generalize wr.alloc _ = W3 at Y3 B3 ⊢
      generalize wr.heap.size = gu at Y3 ⊢
      have c0 : W3.cell? ⟨gu, 0, none⟩ = some (.bool u.gap) := Y3.cell 0
      have c18 : W3.cell? ⟨gu, 18, none⟩ = some (.int .u8 u.sec) := Y3.cell 18
      have c11 : W3.cell? ⟨g, 11, none⟩ = some (.slice (some ⟨b0, o0, none⟩) x.p.es.length x.c) := by rw [← HAE.out]; exact (HX8.out _ B3).c11
      have hj1 : j + 1 ≤ x.p.es.length := hlt
      have hw1 : wrap64 ((j : Int) + 1) = (j : Int) + 1 := wrap_succ (n := 60) (Nat.le_trans hlt HN.out)
      cases hg : u.gap with
      | true =>
        rw [hg] at HQ2 c0
        go_wp2
        rw [← HAE.out]
        have HW1 := Lib.hid hw1
        clear hw1
        go_roundw
        case rel => exact ⟨j + 1, m, hj1, hm, by rw [HW1.out]; rfl, rfl, HQ2.out, B3⟩
        case measure => rw [HW1.out]; simp [intOf]; omega
      | false =>
        rw [hg] at HQ2 c0
        by_cases hs : u.sec = 1
        · rw [hs] at HQ2 c18
          go_wp2
          rw [← HAE.out]
          have HW1 := Lib.hid hw1
          clear hw1
          go_roundw
          case rel => exact ⟨j + 1, j + 1, hj1, hj1, by rw [HW1.out]; rfl, rfl, HQ2.out, B3⟩
          case measure => rw [HW1.out]; simp [intOf]; omega
        · have hs' : (u.sec == 1) = false := by simpa using hs
          rw [hs'] at HQ2
          go_wp2
          rw [← HAE.out]
          have HW1 := Lib.hid hw1
          clear hw1
          go_roundw
          case rel => exact ⟨j + 1, m, hj1, hm, by rw [HW1.out]; rfl, rfl, HQ2.out, B3⟩
          case measure => rw [HW1.out]; simp [intOf]; omega
    · obtain rfl : j = x.p.es.length := by omega
      have hlt2 : ¬ (x.p.es.length : Int) < (x.p.es.length : Int) := by omega
      have HR := Lib.hid (show restDep (restFirst x.p.es) x.p.es = x.p.es.drop m by rw [HQ.out, List.drop_length]; rfl)
      have X9 := HX8.out _ BW
      have Y9 := HY8.out _ BW
      have F9 := HF8.out _ BW
      have FA9 := HFA.out _ BW
      have HS1 := HS.out
      unfold endDep at HS1
      rw [HR.out] at HS1
      have HS := Lib.hid HS1
      have HM := Lib.hid hm
      clear HS1 hj hlt HQ HR HX8 HY8 HF8 HFA HRF HM0 BW hm
      have j1 : Has_ent wr gy 0 := ⟨_, Y9.is_ent⟩
      have j2 : of_ent wr gy 0 = y1 := of_ent_eq Y9.is_ent
      have K1 := Lib.hid (put_any { x with p := { x.p with from_ := f } } [] [y1] (some ⟨wr.heap.size, 0, none⟩) 1 1 g w _ (X9.alloc (.cells y1.arr 82)) (ents1 (Blk.new _ _ _)) rfl (by simp))
      rw [List.nil_append] at K1
      have FA10 := FA9.step (alloc_below5 wr (.cells y1.arr 82))
      go_upto_region 29 with (go_at_call 118; (with_reducible refine callPut K1.out ?_); intro v8 W8 X10 kp)
      have FA11 := FA10.put kp
      have hln : bl.length ≤ 100000 := by rw [HBN.out]; exact HLL.out
      have K2 := Lib.hid (put_any { x with p := { x.p with from_ := f }, v := v8 } [y1] bl A4 c4 bl.length g w W8 X10 FA11.ents rfl (by rw [List.length_singleton]; omega))
      clear K1 kp FA9 FA10 X9 Y9 F9 j1 j2
      go_upto_region 30 with (go_at_call 118; (with_reducible refine callPut K2.out ?_); intro v9 W9 X11 _)
      clear K2 FA11 X10
      obtain ⟨A6, c6, hv9, hc6, hE6, _⟩ := X11.out.form
      have hlen9 : ([y1] ++ bl).length = bl.length + 1 := by rw [List.length_append, List.length_singleton]; omega
      rw [hlen9] at hv9 hc6
      obtain ⟨b6, o6, hA6, hcl6⟩ := hE6.entE (k := bl.length) (by rw [hlen9]; omega)
      have hlast : ([y1] ++ bl).getLast?.getD gapE = ([y1] ++ bl)[bl.length]'(by rw [hlen9]; omega) := by
        rw [getLast_drop (by rw [hlen9]; omega)]
        congr 1
      have hI6 := hcl6 W9 (Below.refl _ _)
      have HSX := HS.out
      rw [hlast] at HSX
      generalize ([y1] ++ bl)[bl.length]'(by rw [hlen9]; omega) = la at hI6 HSX
      have HS := Lib.hid HSX
      subst hA6
      obtain ⟨n9, hn9⟩ : ∃ n9, n9 = bl.length + 1 := ⟨_, rfl⟩
      rw [← hn9] at hv9 hc6
      have c25 : W9.cell? ⟨g, 25, none⟩ = some (.slice (some ⟨b6, o6, none⟩) n9 c6) := by rw [← hv9]; exact X11.blk.cell 25
      have hltg : g < W9.heap.size := X11.lt
      have hltb : b6 < W9.heap.size := block_lt_of_cell ((hI6 0 (by omega)).trans rfl)
      have hlt9 : (bl.length : Int) < (n9 : Int) := by omega
      have hlc9 : bl.length < c6 := by omega
      have i1 : Has_ent W9 b6 (o6 + bl.length * 20) := ⟨_, hI6⟩
      have i2 : of_ent W9 b6 (o6 + bl.length * 20) = la := of_ent_eq hI6
      have HW9 := Lib.hid (wrap_pred hln hn9)
      have HN9 := Lib.hid hn9
      have hw9 := HW9.out
      have hw9' : IntKind.i64.wrap ((n9 : Int) - 1) = (bl.length : Int) := (IntWalk.i64_left _).trans hw9
      clear HW9
      clear HSX hlast hcl6 hE6 hI6 hn9 hlen9
      go_cut [13] (fun v wx => ∃ q, v = .pointer (some ⟨q, 0, none⟩) ∧ Blk wx q la.arr ∧ Below W9.heap.size W9 wx)
      case first =>
        clear X11 hv9
        have YZ : Blk (W9.alloc (.cells #[.bool false, .int .u8 0, .string ⟨#[]⟩, .string ⟨#[]⟩, .int .u8 0, .bool false, .int .i64 0, .int .i64 0, .int .i64 0, .int .i64 0, .int .i64 0, .int .i64 0, .int .i64 0, .int .i64 0, .int .i64 0, .int .i64 0, .int .i64 0, .int .i64 0, .int .u8 0, .string ⟨#[]⟩] 82)).drew W9.heap.size zeroE.arr := (Blk.new W9 zeroE.arr 82).step (Below.refl _ _).drew
        have z1 : Plain (W9.alloc (.cells #[.bool false, .int .u8 0, .string ⟨#[]⟩, .string ⟨#[]⟩, .int .u8 0, .bool false, .int .i64 0, .int .i64 0, .int .i64 0, .int .i64 0, .int .i64 0, .int .i64 0, .int .i64 0, .int .i64 0, .int .i64 0, .int .i64 0, .int .i64 0, .int .i64 0, .int .u8 0, .string ⟨#[]⟩] 82)).drew W9.heap.size := YZ.plain
        have z2 : blkOf (W9.alloc (.cells #[.bool false, .int .u8 0, .string ⟨#[]⟩, .string ⟨#[]⟩, .int .u8 0, .bool false, .int .i64 0, .int .i64 0, .int .i64 0, .int .i64 0, .int .i64 0, .int .i64 0, .int .i64 0, .int .i64 0, .int .i64 0, .int .i64 0, .int .i64 0, .int .i64 0, .int .u8 0, .string ⟨#[]⟩] 82)).drew W9.heap.size = zeroE.arr := YZ.of
        have z3 : splice zeroE.arr 0 la.arr = la.arr := rfl
        have bz : Below W9.heap.size W9 (W9.alloc (.cells #[.bool false, .int .u8 0, .string ⟨#[]⟩, .string ⟨#[]⟩, .int .u8 0, .bool false, .int .i64 0, .int .i64 0, .int .i64 0, .int .i64 0, .int .i64 0, .int .i64 0, .int .i64 0, .int .i64 0, .int .i64 0, .int .i64 0, .int .i64 0, .int .i64 0, .int .u8 0, .string ⟨#[]⟩] 82)).drew := below_step (alloc_below5 _ _) (Below.refl _ _).drew
        go_region
        all_goals
          go_wp2
          go_meet
          first
            | exact ⟨_, rfl, Blk.new _ _ _, below_step (Below.refl _ _).drew (alloc_below5 _ _)⟩
            | exact ⟨_, rfl, YZ.set _, below_setRow' bz (Nat.le_refl _) _⟩
      case rest =>
      obtain ⟨q, rfl, Yq, BC⟩ := hcut
      have X12 := X11.step BC
      clear X11 BC c25 i1 i2 hw9 hw9' hltg hltb hlt9 hlc9 hv9 hc6 HN9
      have i1 : Has_ent wc q 0 := ⟨_, Yq.is_ent⟩
      have i2 : of_ent wc q 0 = la := of_ent_eq Yq.is_ent
      have kE := Lib.hid (eends_any la wc)
      have hmn := HM.out
      cases hen : endsE la with
      | false =>
        have HSB : departS (lookG G) x.p x.e = ⟨0, f, x.p.to_, x.p.active, [y1] ++ bl ++ [gapE] ++ x.p.es.drop m⟩ := by rw [HS.out, hen]; rfl
        have HS := Lib.hid HSB
        rw [hen] at kE
        clear HSB hen
        go_upto_region 36 with (go_at_call 121; (with_reducible refine callR kE.out ?_); intro w3 b3 _ _ _)
        have X13 := X12.step b3
        clear X12 Yq i1 i2 kE b3
        have g1 : Has_ent w3 3 0 := ⟨_, HGp.out w3 X13.bel⟩
        have g2 : of_ent w3 3 0 = gapE := of_ent_eq (HGp.out w3 X13.bel)
        have KG := Lib.hid (put_any { x with p := { x.p with from_ := f }, v := v9 } ([y1] ++ bl) [gapE] (some ⟨w3.heap.size, 0, none⟩) 1 1 g w _ (X13.alloc (.cells gapE.arr 82)) (ents1 (Blk.new _ _ _)) rfl (by rw [List.length_append, List.length_singleton]; omega))
        go_wp2_with (first
          | (go_at_call 118; (with_reducible refine callPut KG.out ?_); intro va Wa Xa _
             have KR := Lib.hid (put_any { x with p := { x.p with from_ := f }, v := va } ([y1] ++ bl ++ [gapE]) (x.p.es.drop m) (subE x.A m x.c) (x.c - m) (x.p.es.length - m) g w Wa Xa ((HEn.out Wa Xa.bel).drop HC.out) (by rw [List.length_drop]) (by rw [List.length_append, List.length_append, List.length_singleton, List.length_singleton]; have := HN.out; omega)))
          | (go_at_call 118; (with_reducible refine callPut KR.out ?_); intro vb Wb Xb _))
        go_ret
        rw [HS.out]
        exact ⟨rfl, Xb.bel, fun _ => ⟨vb, Xb⟩⟩
      | true =>
        have HSB := HS.out
        rw [hen] at kE HSB
        clear hen
        go_upto_region 32 with (go_at_call 121; (with_reducible refine callR kE.out ?_); intro w3 b3 _ _ _)
        have X13 := X12.step b3
        have q2 : w3.cell? ⟨q, 2, none⟩ = some (.string ⟨la.leg.fix.toArray⟩) := (Yq.step b3).cell 2
        have KS := Lib.hid (search_any (x.p.es.drop m) (subE x.A m x.c) (x.p.es.length - m) (x.c - m) 0 la.leg.fix w3 ((HEn.out _ X13.bel).drop HC.out) (by rw [List.length_drop]) (by have := HN.out; omega) (by decide))
        have hrange := findGo_range 0 la.leg.fix (x.p.es.drop m) 0
        have hse : searchE (x.p.es.drop m) 0 la.leg.fix = findGo 0 la.leg.fix (x.p.es.drop m) 0 := rfl
        rw [← hse] at hrange
        clear hse kE i1 i2
        generalize searchE (x.p.es.drop m) 0 la.leg.fix = z at KS HSB hrange
        generalize la.leg.fix = lf at *
        rcases hrange with rfl | ⟨k, hk, rfl⟩
        · have HS := Lib.hid (show departS (lookG G) x.p x.e = ⟨0, f, x.p.to_, x.p.active, [y1] ++ bl ++ [gapE] ++ x.p.es.drop m⟩ from HSB.trans (if_neg (by decide)))
          clear HSB
          go_upto_region 36 with (go_at_call 117; (with_reducible refine callR KS.out ?_); intro w4 b4 _ _ _)
          have X14 := X13.step b4
          clear X12 X13 Yq KS b3 b4 q2
          have g1 : Has_ent w4 3 0 := ⟨_, HGp.out w4 X14.bel⟩
          have g2 : of_ent w4 3 0 = gapE := of_ent_eq (HGp.out w4 X14.bel)
          have KG := Lib.hid (put_any { x with p := { x.p with from_ := f }, v := v9 } ([y1] ++ bl) [gapE] (some ⟨w4.heap.size, 0, none⟩) 1 1 g w _ (X14.alloc (.cells gapE.arr 82)) (ents1 (Blk.new _ _ _)) rfl (by rw [List.length_append, List.length_singleton]; omega))
          go_wp2_with (first
            | (go_at_call 118; (with_reducible refine callPut KG.out ?_); intro va Wa Xa _
               have KR := Lib.hid (put_any { x with p := { x.p with from_ := f }, v := va } ([y1] ++ bl ++ [gapE]) (x.p.es.drop m) (subE x.A m x.c) (x.c - m) (x.p.es.length - m) g w Wa Xa ((HEn.out Wa Xa.bel).drop HC.out) (by rw [List.length_drop]) (by rw [List.length_append, List.length_append, List.length_singleton, List.length_singleton]; have := HN.out; omega)))
            | (go_at_call 118; (with_reducible refine callPut KR.out ?_); intro vb Wb Xb _))
          go_ret
          rw [HS.out]
          exact ⟨rfl, Xb.bel, fun _ => ⟨vb, Xb⟩⟩
        · rw [Nat.zero_add] at HSB KS
          rw [List.length_drop] at hk
          have HS := Lib.hid (show departS (lookG G) x.p x.e = ⟨0, f, x.p.to_, x.p.active, [y1] ++ bl ++ (x.p.es.drop m).drop (k + 1)⟩ by rw [HSB, if_pos (by simp)]; simp)
          have hk1 : k + 1 ≤ x.p.es.length - m := hk
          have hw1 : wrap64 ((k : Int) + 1) = (k : Int) + 1 := IntWalk.wrap64_in _ (by have := HN.out; omega)
          clear HSB X12 Yq b3
          go_upto_region 34 with (go_at_call 117; (with_reducible refine callR KS.out ?_); intro w4 b4 _ _ _)
          have X14 := X13.step b4
          have KP := Lib.hid (put_any { x with p := { x.p with from_ := f }, v := v9 } ([y1] ++ bl) ((x.p.es.drop m).drop (k + 1)) (subE (subE x.A m x.c) (k + 1) (x.c - m)) (x.c - m - (k + 1)) (x.p.es.length - m - (k + 1)) g w w4 X14 (((HEn.out _ X14.bel).drop HC.out).drop (by rw [List.length_drop]; have := HC.out; omega)) (by rw [List.length_drop, List.length_drop]) (by rw [List.length_append, List.length_singleton]; exact put_len3 HN.out hln))
          clear KS X13 b4 q2
          go_wp2_with (go_at_call 118; (with_reducible refine callPut KP.out ?_); intro vb Wb Xb _)
          go_ret
          rw [HS.out]
          exact ⟨rfl, Xb.bel, fun _ => ⟨vb, Xb⟩⟩
end Go.Proofs.YtlggdgpdfepppaaGreatDoor
