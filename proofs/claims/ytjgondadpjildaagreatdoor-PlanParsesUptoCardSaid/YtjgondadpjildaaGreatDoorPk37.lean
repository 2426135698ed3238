/- The reference's ParseWindow: the same windows as the program's. Printed by wip/mkrp3.py. -/
import Derived.Test.YtjgondadpjildaaGreatDoorPk36
namespace Go.Proofs.YtjgondadpjildaaGreatDoor
open Go.RowKit Go.Sort
set_option linter.unusedVariables false
set_option linter.unusedSimpArgs false
set_option maxRecDepth 100000
attribute [local go_sem] wmk spl_win
theorem rwinO_f {ra rb : Int × Bool × Bool} {k : Int} {s : List UInt8} (h : (ra.2.1 && rb.2.1) = false) : rwinO ra rb k s = ((0, 0), 4) := by unfold rwinO; rw [h]; rfl
theorem rwinO_i {ra rb : Int × Bool × Bool} {k : Int} {s : List UInt8} (h : (ra.2.1 && rb.2.1) = true) (h2 : (ra.2.2 && rb.2.2) = false) : rwinO ra rb k s = ((0, 0), 2) := by unfold rwinO; rw [h, h2]; rfl
theorem rwinO_o {ra rb : Int × Bool × Bool} {k : Int} {s : List UInt8} (h : (ra.2.1 && rb.2.1) = true) (h2 : (ra.2.2 && rb.2.2) = true) (h3 : rb.1 < ra.1) : rwinO ra rb k s = ((0, 0), 9) := by unfold rwinO; rw [h, h2, if_pos h3]; rfl
theorem rwinO_w {ra rb : Int × Bool × Bool} {k : Int} {s : List UInt8} (h : (ra.2.1 && rb.2.1) = true) (h2 : (ra.2.2 && rb.2.2) = true) (h3 : ¬ rb.1 < ra.1) : rwinO ra rb k s = if winS (if k = 2 then -200000 else ra.1) (if k = 1 then 6000000 else rb.1) = s then (((if k = 2 then -200000 else ra.1), (if k = 1 then 6000000 else rb.1)), 0) else ((0, 0), 4) := by unfold rwinO; rw [h, h2, if_neg h3]; rfl
theorem cutSuf_last {c d : UInt8} {s : List UInt8} (hs : 0 < s.length) (h : s[s.length - 1]'(by omega) = d) : cutSuf c s = if d = c then (s.take (s.length - 1), true) else (s, false) := by
  unfold cutSuf
  have hl : s.getLast? = some d := by rw [List.getLast?_eq_getElem?, List.getElem?_eq_getElem (by omega), h]
  rw [hl]
  by_cases hc : d = c
  · rw [if_pos (by rw [hc]), if_pos hc, List.dropLast_eq_take]
  · rw [if_neg (by intro h; injection h with h; exact hc h), if_neg hc]
set_option maxHeartbeats 16000000 in
theorem rparseWindow_any (s : List UInt8) (w : World) (hl : s.length ≤ 4000000000) : Calls Tryz.prog 198 #[.string ⟨s.toArray⟩] w (Ret w (winEVal (rparseWinS s))) := by
  by_cases h45 : s = [45]
  · subst h45
    have HO := Lib.hid (show rparseWinS [45] = ((-200000, 6000000), 0) from rfl)
    generalize rparseWinS [45] = out at HO ⊢
    go_enter Tryz.func198, Tryz.ntmps198
    go_upto_region 1 with (fail)
    have R := Blk.new w #[.int .i64 0, .int .i64 0] 34
    have BW := alloc_below w (.cells #[.int .i64 0, .int .i64 0] 34)
    generalize w.alloc _ = W at R BW ⊢
    obtain ⟨g, hg0⟩ : ∃ g, g = w.heap.size := ⟨_, rfl⟩
    rw [← hg0] at R ⊢
    have hg := Nat.le_of_eq hg0.symm
    clear hg0
    have d2 := R.plain
    have d3 := R.of
    go_wp2
    refine bodyPost_ret (results_win Tryz.results198 _ _ g ⟨-200000, 6000000⟩ rfl (Blk.is_win (x := ⟨-200000, 6000000⟩) (R.set _))) rfl ?_
    exact Ret.winE HO.out (below_setRow' BW hg _)
  · have HE := Lib.hid (show rparseWinS s = if (cutAt 58 s).2.2 then rwinO (raltP (cutAt 58 s).1) (raltP (cutAt 58 s).2.1) 3 s
      else if (cutSuf 43 s).2 then rwinO (raltP (cutSuf 43 s).1) (raltP (cutSuf 43 s).1) 1 s
      else if (cutSuf 45 s).2 then rwinO (raltP (cutSuf 45 s).1) (raltP (cutSuf 45 s).1) 2 s else rwinO (raltP s) (raltP s) 0 s from by unfold rparseWinS; rw [if_neg h45])
    have q45 : (s == [45]) = false := by simpa using h45
    have H45 := Lib.hid h45; clear h45
    have HAT := Lib.hid (fun k h1 h2 h3 => cutAt_at 58 s k h1 h2 h3)
    have HNO := Lib.hid (fun h => cutAt_none 58 s h)
    have hl2 := cutAt_len 58 s
    generalize cutAt 58 s = q at HE HAT HNO hl2
    obtain ⟨miles, rest, two⟩ := q
    simp only at HE hl2
    obtain ⟨l2, l3⟩ := hl2
    generalize rparseWinS s = out at HE ⊢
    have l4 : miles.length ≤ 4000000000 := by omega
    have l5 : rest.length ≤ 4000000000 := by omega
    go_enter Tryz.func198, Tryz.ntmps198
    go_upto_region 1 with (fail)
    have R := Blk.new w #[.int .i64 0, .int .i64 0] 34
    have BW := alloc_below w (.cells #[.int .i64 0, .int .i64 0] 34)
    generalize w.alloc _ = W0 at R BW ⊢
    obtain ⟨g, hg0⟩ : ∃ g, g = w.heap.size := ⟨_, rfl⟩
    rw [← hg0] at R ⊢
    have hg := Nat.le_of_eq hg0.symm
    clear hg0
    go_wp2
    go_loopw [4, 5, 6, 7] (fun a b m i wr => ∃ (k : Nat) (wh pt : List UInt8) (mo : Bool), k ≤ s.length ∧ i = .int .i64 k ∧ a = .string ⟨wh.toArray⟩ ∧ b = .string ⟨pt.toArray⟩ ∧ m = .int .i64 (if mo then 3 else 0) ∧ (∃ n, wr = W0.drewN n) ∧
        ((mo = false ∧ wh = s ∧ pt = s ∧ (s.take k).all (· != 58) = true) ∨ (mo = true ∧ two = true ∧ wh = miles ∧ pt = rest)))
      (fun _ _ _ i _ => s.length - (intOf i).toNat)
    case atStart => exact ⟨0, s, s, false, by omega, rfl, rfl, rfl, rfl, ⟨0, rfl⟩, .inl ⟨rfl, rfl, rfl, by simp⟩⟩
    case round =>
      obtain ⟨k, wh, pt, mo, hk, rfl, rfl, rfl, rfl, ⟨nd, rfl⟩, hcase⟩ := hrel
      by_cases hlt : k < s.length
      · rcases hcase with ⟨rfl, rfl, rfl, ha⟩ | ⟨rfl, h2, rfl, rfl⟩
        · by_cases hc : pt[k] = 58
          · have e1 : ((pt[k].toNat : Int) == 58) = true := by rw [hc]; rfl
            have HC := Lib.hid (HAT.out k hlt ha hc)
            clear hc ha
            have q1 : IntKind.i64.wrap ((k : Int) + 1) = (k : Int) + 1 := IntWalk.i64_in _ (by omega)
            have q2 : 0 ≤ (k : Int) + 1 := by omega
            have q3 : ((k : Int) + 1).toNat = k + 1 := by omega
            go_upto_region 8 with (fail)
            go_quiet (fail)
            clear q1 q2 q3
            go_wp2
            go_roundw
            case rel =>
              refine ⟨k + 1, miles, rest, true, by omega, by go_num, ?_, ?_, rfl, ⟨_, rfl⟩, .inr ⟨rfl, ?_, rfl, rfl⟩⟩
              · have := HC.out; injection this with a1 a2; rw [a1]
              · have := HC.out; injection this with a1 a2; injection a2 with a2 a3; rw [a2]
              · have := HC.out; injection this with a1 a2; injection a2 with a2 a3
            case measure => simp [intOf]; omega
          · have e1 : ((pt[k].toNat : Int) == 58) = false := u8_ne (d := 58) hc
            have HA := Lib.hid (take_all_succ (· != 58) pt k hlt ha (by simpa using hc))
            clear hc ha
            go_wp2
            go_roundw
            case rel => exact ⟨k + 1, _, _, false, by omega, by go_num, rfl, rfl, rfl, ⟨nd, rfl⟩, .inl ⟨rfl, rfl, rfl, HA.out⟩⟩
            case measure => simp [intOf]; omega
        · have H2 := Lib.hid h2; clear h2
          by_cases hc : s[k] = 58
          · have e1 : ((s[k].toNat : Int) == 58) = true := by rw [hc]; rfl
            clear hc
            go_wp2
            go_roundw
            case rel => exact ⟨k + 1, _, _, true, by omega, by go_num, rfl, rfl, rfl, ⟨nd, rfl⟩, .inr ⟨rfl, H2.out, rfl, rfl⟩⟩
            case measure => simp [intOf]; omega
          · have e1 : ((s[k].toNat : Int) == 58) = false := u8_ne (d := 58) hc
            clear hc
            go_wp2
            go_roundw
            case rel => exact ⟨k + 1, _, _, true, by omega, by go_num, rfl, rfl, rfl, ⟨nd, rfl⟩, .inr ⟨rfl, H2.out, rfl, rfl⟩⟩
            case measure => simp [intOf]; omega
      · have RR : Blk (W0.drewN nd) g #[.int .i64 0, .int .i64 0] := R
        have BB := below_drewN BW nd
        clear R BW
        generalize W0.drewN nd = W at RR BB ⊢
        have R := RR; have BW := BB; clear RR BB
        cases two
        · have hm : mo = false ∧ wh = s ∧ pt = s := by
            rcases hcase with ⟨a1, a2, a3, _⟩ | ⟨_, a2, _⟩
            · exact ⟨a1, a2, a3⟩
            · cases a2
          clear hcase HAT HNO
          obtain ⟨rfl, hw, hp⟩ := hm
          have hw' := hw.symm; have hp' := hp.symm
          clear hw hp
          subst hw'; subst hp'
          have HE2 := Lib.hid (show out = if (cutSuf 43 s).2 then rwinO (raltP (cutSuf 43 s).1) (raltP (cutSuf 43 s).1) 1 s
            else if (cutSuf 45 s).2 then rwinO (raltP (cutSuf 45 s).1) (raltP (cutSuf 45 s).1) 2 s else rwinO (raltP s) (raltP s) 0 s from HE.out)
          clear HE
          by_cases h0 : 0 < s.length
          · have q1 : IntKind.i64.wrap ((s.length : Int) - 1) = (s.length : Int) - 1 := IntWalk.i64_in _ (by omega)
            have q2 : 0 ≤ (s.length : Int) - 1 := by omega
            have q3 : ((s.length : Int) - 1).toNat = s.length - 1 := by omega
            have q4 : (s.length : Int) - 1 < (s.length : Int) := by omega
            have q5 : (s.length : Int) - 1 ≤ (s.length : Int) := by omega
            obtain ⟨d, hd⟩ : ∃ d, s[s.length - 1] = d := ⟨_, rfl⟩
            have HS43 := Lib.hid (cutSuf_last (c := 43) h0 hd)
            have HS45 := Lib.hid (cutSuf_last (c := 45) h0 hd)
            have lt1 : (s.take (s.length - 1)).length ≤ 4000000000 := by simp; omega
            by_cases h43 : d = 43
            · have HE := Lib.hid (show out = rwinO (raltP (s.take (s.length - 1))) (raltP (s.take (s.length - 1))) 1 s from by rw [HE2.out, HS43.out, if_pos h43]; rfl)
              have e1 : ((s[s.length - 1].toNat : Int) == 43) = true := by rw [hd, h43]; rfl
              clear hd h43 HS43 HS45 HE2
              go_upto_region 10 with (fail)
              go_quiet (fail)
              rename_i nq
              have RR : Blk (W.drewN nq) g #[.int .i64 0, .int .i64 0] := R
              have BB := below_drewN BW nq
              clear R BW e1 q1
              generalize W.drewN nq = W at RR BB ⊢
              have R := RR; have BW := BB; clear RR BB
              generalize s.take (s.length - 1) = A at lt1 HE ⊢
              go_upto_region 13 with (fail)
              have k1 := Lib.hid (fun W => raltForm_any A W (by first | assumption | omega))
              have i1 := Lib.hid (fun h => ralt_in (s := A) h)
              generalize raltP A = ra at k1 HE i1
              obtain ⟨x, fa, ia⟩ := ra
              simp only at i1
              go_wp2_with fail
              with_reducible refine callQ (k1.out _) ?_
              intro n1
              go_wp2_with fail
              with_reducible refine callQ (k1.out _) ?_
              intro n2
              have RR : Blk ((W.drewN n1).drewN n2) g #[.int .i64 0, .int .i64 0] := R
              have BB := below_drewN (below_drewN BW n1) n2
              clear R BW k1
              generalize (W.drewN n1).drewN n2 = W2 at RR BB ⊢
              have R := RR; have BW := BB; clear RR BB
              have hlt := R.lt
              have d2 := R.plain
              have d3 := R.of
              cases fa
              · skip
                have HO := Lib.hid (HE.out.trans (rwinO_f rfl))
                clear HE i1
                go_wp2
                refine bodyPost_ret (results_win Tryz.results198 _ _ g ⟨0, 0⟩ rfl (Blk.is_win (x := ⟨0, 0⟩) (R.set _))) rfl ?_
                exact Ret.winE HO.out (below_setRow' BW hg _)
              · cases ia
                · skip
                  have HO := Lib.hid (HE.out.trans (rwinO_i rfl rfl))
                  clear HE i1
                  go_wp2
                  refine bodyPost_ret (results_win Tryz.results198 _ _ g ⟨0, 0⟩ rfl (Blk.is_win (x := ⟨0, 0⟩) (R.set _))) rfl ?_
                  exact Ret.winE HO.out (below_setRow' BW hg _)
                · skip
                  by_cases hxy : x < x
                  · have HO := Lib.hid (HE.out.trans (rwinO_o rfl rfl hxy))
                    clear i1
                    go_wp2
                    refine bodyPost_ret (results_win Tryz.results198 _ _ g ⟨0, 0⟩ rfl (Blk.is_win (x := ⟨0, 0⟩) (R.set _))) rfl ?_
                    exact Ret.winE HO.out (below_setRow' BW hg _)
                  · have HO : Hid (out = if winS x 6000000 = s then ((x, 6000000), 0) else ((0, 0), 4)) := Lib.hid (HE.out.trans (rwinO_w rfl rfl hxy))
                    have x1 := i1.out rfl
                    have x2 := x1.2
                    have x3 := x1.1
                    have kw' := Lib.hid (fun W => rwinText_in x 6000000 W ⟨by omega, by omega, by omega⟩)
                    clear i1 x1 HE
                    generalize winS x 6000000 = D at kw' HO
                    go_upto_region 22 with (fail)
                    have X := Blk.new W2 #[.int .i64 x, .int .i64 x] 34
                    have R3 := R.alloc (.cells #[.int .i64 x, .int .i64 x] 34)
                    have B3 := below_step BW (alloc_below W2 (.cells #[.int .i64 x, .int .i64 x] 34))
                    clear d2 d3 R
                    have hg2 : w.heap.size ≤ W2.heap.size := BW.size
                    clear BW
                    generalize W2.alloc _ = W3 at X R3 B3 ⊢
                    generalize W2.heap.size = g2 at X hlt hg2 ⊢
                    have c1 := X.cell
                    have f1 := X.frozen
                    go_upto_region 24 with (fail)
                    clear c1 f1
                    have X4 : Blk (W3.setCell ⟨g2, 1, none⟩ (.int .i64 6000000)) g2 (Win.arr ⟨x, 6000000⟩) := X.setCell 1 _
                    have R4 := R3.setFar (g' := g2) (by omega) 1 (.int .i64 6000000)
                    have B4 := below_setCell B3 hg2 1 (.int .i64 6000000)
                    clear X R3 B3
                    generalize W3.setCell ⟨g2, 1, none⟩ (.int .i64 6000000) = W4 at X4 R4 B4 ⊢
                    have c4 : Has_win W4 g2 0 := ⟨⟨x, 6000000⟩, X4.is_win⟩
                    have c5 : of_win W4 g2 0 = ⟨x, 6000000⟩ := of_win_eq X4.is_win
                    have kw2 := kw'.out
                    simp only [wmk] at kw2
                    have kw := Lib.hid kw2
                    clear kw2 kw'
                    go_wp2_with fail
                    with_reducible refine callR (kw.out _) ?_
                    intro w5 b5 _ _ _
                    have X5 := X4.step b5
                    have R5 := R4.step b5
                    have B5 := below_step B4 b5
                    clear X4 R4 B4 c4 c5
                    have c4 : Has_win w5 g2 0 := ⟨⟨x, 6000000⟩, X5.is_win⟩
                    have c5 : of_win w5 g2 0 = ⟨x, 6000000⟩ := of_win_eq X5.is_win
                    have d2 := R5.plain
                    have d3 := R5.of
                    by_cases hT : D = s
                    · have HO3 := Lib.hid (HO.out.trans (if_pos hT))
                      subst hT
                      go_wp2
                      refine bodyPost_ret (results_win Tryz.results198 _ _ g ⟨x, 6000000⟩ rfl (Blk.is_win (x := ⟨x, 6000000⟩) (R5.set _))) rfl ?_
                      exact Ret.winE HO3.out (below_setRow' B5 hg _)
                    · have HO3 := Lib.hid (HO.out.trans (if_neg hT))
                      have hT1 : (D == s) = false := by simpa using hT
                      go_wp2
                      refine bodyPost_ret (results_win Tryz.results198 _ _ g ⟨0, 0⟩ rfl (Blk.is_win (x := ⟨0, 0⟩) (R5.set _))) rfl ?_
                      exact Ret.winE HO3.out (below_setRow' B5 hg _)
            · by_cases hm5 : d = 45
              · have HE := Lib.hid (show out = rwinO (raltP (s.take (s.length - 1))) (raltP (s.take (s.length - 1))) 2 s from by rw [HE2.out, HS43.out, if_neg h43, HS45.out, if_pos hm5]; rfl)
                have e0 : ((s[s.length - 1].toNat : Int) == 43) = false := by rw [hd, hm5]; rfl
                have e1 : ((s[s.length - 1].toNat : Int) == 45) = true := by rw [hd, hm5]; rfl
                clear hd h43 hm5 HS43 HS45 HE2
                go_upto_region 12 with (fail)
                go_quiet (fail)
                rename_i nq
                have RR : Blk (W.drewN nq) g #[.int .i64 0, .int .i64 0] := R
                have BB := below_drewN BW nq
                clear R BW e0 e1 q1
                generalize W.drewN nq = W at RR BB ⊢
                have R := RR; have BW := BB; clear RR BB
                generalize s.take (s.length - 1) = A at lt1 HE ⊢
                go_upto_region 13 with (fail)
                have k1 := Lib.hid (fun W => raltForm_any A W (by first | assumption | omega))
                have i1 := Lib.hid (fun h => ralt_in (s := A) h)
                generalize raltP A = ra at k1 HE i1
                obtain ⟨x, fa, ia⟩ := ra
                simp only at i1
                go_wp2_with fail
                with_reducible refine callQ (k1.out _) ?_
                intro n1
                go_wp2_with fail
                with_reducible refine callQ (k1.out _) ?_
                intro n2
                have RR : Blk ((W.drewN n1).drewN n2) g #[.int .i64 0, .int .i64 0] := R
                have BB := below_drewN (below_drewN BW n1) n2
                clear R BW k1
                generalize (W.drewN n1).drewN n2 = W2 at RR BB ⊢
                have R := RR; have BW := BB; clear RR BB
                have hlt := R.lt
                have d2 := R.plain
                have d3 := R.of
                cases fa
                · skip
                  have HO := Lib.hid (HE.out.trans (rwinO_f rfl))
                  clear HE i1
                  go_wp2
                  refine bodyPost_ret (results_win Tryz.results198 _ _ g ⟨0, 0⟩ rfl (Blk.is_win (x := ⟨0, 0⟩) (R.set _))) rfl ?_
                  exact Ret.winE HO.out (below_setRow' BW hg _)
                · cases ia
                  · skip
                    have HO := Lib.hid (HE.out.trans (rwinO_i rfl rfl))
                    clear HE i1
                    go_wp2
                    refine bodyPost_ret (results_win Tryz.results198 _ _ g ⟨0, 0⟩ rfl (Blk.is_win (x := ⟨0, 0⟩) (R.set _))) rfl ?_
                    exact Ret.winE HO.out (below_setRow' BW hg _)
                  · skip
                    by_cases hxy : x < x
                    · have HO := Lib.hid (HE.out.trans (rwinO_o rfl rfl hxy))
                      clear i1
                      go_wp2
                      refine bodyPost_ret (results_win Tryz.results198 _ _ g ⟨0, 0⟩ rfl (Blk.is_win (x := ⟨0, 0⟩) (R.set _))) rfl ?_
                      exact Ret.winE HO.out (below_setRow' BW hg _)
                    · have HO : Hid (out = if winS (-200000) x = s then (((-200000), x), 0) else ((0, 0), 4)) := Lib.hid (HE.out.trans (rwinO_w rfl rfl hxy))
                      have x1 := i1.out rfl
                      have x2 := x1.2
                      have x3 := x1.1
                      have kw' := Lib.hid (fun W => rwinText_in (-200000) x W ⟨by omega, by omega, by omega⟩)
                      clear i1 x1 HE
                      generalize winS (-200000) x = D at kw' HO
                      go_upto_region 22 with (fail)
                      have X := Blk.new W2 #[.int .i64 x, .int .i64 x] 34
                      have R3 := R.alloc (.cells #[.int .i64 x, .int .i64 x] 34)
                      have B3 := below_step BW (alloc_below W2 (.cells #[.int .i64 x, .int .i64 x] 34))
                      clear d2 d3 R
                      have hg2 : w.heap.size ≤ W2.heap.size := BW.size
                      clear BW
                      generalize W2.alloc _ = W3 at X R3 B3 ⊢
                      generalize W2.heap.size = g2 at X hlt hg2 ⊢
                      have c1 := X.cell
                      have f1 := X.frozen
                      go_upto_region 26 with (fail)
                      clear c1 f1
                      have X4 : Blk (W3.setCell ⟨g2, 0, none⟩ (.int .i64 (-200000))) g2 (Win.arr ⟨(-200000), x⟩) := X.setCell 0 _
                      have R4 := R3.setFar (g' := g2) (by omega) 0 (.int .i64 (-200000))
                      have B4 := below_setCell B3 hg2 0 (.int .i64 (-200000))
                      clear X R3 B3
                      generalize W3.setCell ⟨g2, 0, none⟩ (.int .i64 (-200000)) = W4 at X4 R4 B4 ⊢
                      have c4 : Has_win W4 g2 0 := ⟨⟨(-200000), x⟩, X4.is_win⟩
                      have c5 : of_win W4 g2 0 = ⟨(-200000), x⟩ := of_win_eq X4.is_win
                      have kw2 := kw'.out
                      simp only [wmk] at kw2
                      have kw := Lib.hid kw2
                      clear kw2 kw'
                      go_wp2_with fail
                      with_reducible refine callR (kw.out _) ?_
                      intro w5 b5 _ _ _
                      have X5 := X4.step b5
                      have R5 := R4.step b5
                      have B5 := below_step B4 b5
                      clear X4 R4 B4 c4 c5
                      have c4 : Has_win w5 g2 0 := ⟨⟨(-200000), x⟩, X5.is_win⟩
                      have c5 : of_win w5 g2 0 = ⟨(-200000), x⟩ := of_win_eq X5.is_win
                      have d2 := R5.plain
                      have d3 := R5.of
                      by_cases hT : D = s
                      · have HO3 := Lib.hid (HO.out.trans (if_pos hT))
                        subst hT
                        go_wp2
                        refine bodyPost_ret (results_win Tryz.results198 _ _ g ⟨(-200000), x⟩ rfl (Blk.is_win (x := ⟨(-200000), x⟩) (R5.set _))) rfl ?_
                        exact Ret.winE HO3.out (below_setRow' B5 hg _)
                      · have HO3 := Lib.hid (HO.out.trans (if_neg hT))
                        have hT1 : (D == s) = false := by simpa using hT
                        go_wp2
                        refine bodyPost_ret (results_win Tryz.results198 _ _ g ⟨0, 0⟩ rfl (Blk.is_win (x := ⟨0, 0⟩) (R5.set _))) rfl ?_
                        exact Ret.winE HO3.out (below_setRow' B5 hg _)
              · have HE := Lib.hid (show out = rwinO (raltP s) (raltP s) 0 s from by rw [HE2.out, HS43.out, if_neg h43, HS45.out, if_neg hm5]; rfl)
                have e0 : ((s[s.length - 1].toNat : Int) == 43) = false := by rw [hd]; exact u8_ne (d := 43) h43
                have e1 : ((s[s.length - 1].toNat : Int) == 45) = false := by rw [hd]; exact u8_ne (d := 45) hm5
                clear hd h43 hm5 HS43 HS45 HE2
                go_upto_region 13 with (fail)
                clear e0 e1 q1
                have k1 := Lib.hid (fun W => raltForm_any s W (by first | assumption | omega))
                have i1 := Lib.hid (fun h => ralt_in (s := s) h)
                generalize raltP s = ra at k1 HE i1
                obtain ⟨x, fa, ia⟩ := ra
                simp only at i1
                go_wp2_with fail
                with_reducible refine callQ (k1.out _) ?_
                intro n1
                go_wp2_with fail
                with_reducible refine callQ (k1.out _) ?_
                intro n2
                have RR : Blk ((W.drewN n1).drewN n2) g #[.int .i64 0, .int .i64 0] := R
                have BB := below_drewN (below_drewN BW n1) n2
                clear R BW k1
                generalize (W.drewN n1).drewN n2 = W2 at RR BB ⊢
                have R := RR; have BW := BB; clear RR BB
                have hlt := R.lt
                have d2 := R.plain
                have d3 := R.of
                cases fa
                · skip
                  have HO := Lib.hid (HE.out.trans (rwinO_f rfl))
                  clear HE i1
                  go_wp2
                  refine bodyPost_ret (results_win Tryz.results198 _ _ g ⟨0, 0⟩ rfl (Blk.is_win (x := ⟨0, 0⟩) (R.set _))) rfl ?_
                  exact Ret.winE HO.out (below_setRow' BW hg _)
                · cases ia
                  · skip
                    have HO := Lib.hid (HE.out.trans (rwinO_i rfl rfl))
                    clear HE i1
                    go_wp2
                    refine bodyPost_ret (results_win Tryz.results198 _ _ g ⟨0, 0⟩ rfl (Blk.is_win (x := ⟨0, 0⟩) (R.set _))) rfl ?_
                    exact Ret.winE HO.out (below_setRow' BW hg _)
                  · skip
                    by_cases hxy : x < x
                    · have HO := Lib.hid (HE.out.trans (rwinO_o rfl rfl hxy))
                      clear i1
                      go_wp2
                      refine bodyPost_ret (results_win Tryz.results198 _ _ g ⟨0, 0⟩ rfl (Blk.is_win (x := ⟨0, 0⟩) (R.set _))) rfl ?_
                      exact Ret.winE HO.out (below_setRow' BW hg _)
                    · have HO : Hid (out = if winS x x = s then ((x, x), 0) else ((0, 0), 4)) := Lib.hid (HE.out.trans (rwinO_w rfl rfl hxy))
                      have x1 := i1.out rfl
                      have x2 := x1.2
                      have x3 := x1.1
                      have kw' := Lib.hid (fun W => rwinText_in x x W ⟨by omega, by omega, by omega⟩)
                      clear i1 x1 HE
                      generalize winS x x = D at kw' HO
                      go_upto_region 22 with (fail)
                      have X := Blk.new W2 #[.int .i64 x, .int .i64 x] 34
                      have R3 := R.alloc (.cells #[.int .i64 x, .int .i64 x] 34)
                      have B3 := below_step BW (alloc_below W2 (.cells #[.int .i64 x, .int .i64 x] 34))
                      clear d2 d3 R
                      have hg2 : w.heap.size ≤ W2.heap.size := BW.size
                      clear BW
                      generalize W2.alloc _ = W3 at X R3 B3 ⊢
                      generalize W2.heap.size = g2 at X hlt hg2 ⊢
                      have X4 : Blk W3 g2 (Win.arr ⟨x, x⟩) := X
                      have R4 := R3; have B4 := B3
                      clear X R3 B3
                      have c4 : Has_win W3 g2 0 := ⟨⟨x, x⟩, X4.is_win⟩
                      have c5 : of_win W3 g2 0 = ⟨x, x⟩ := of_win_eq X4.is_win
                      have kw2 := kw'.out
                      simp only [wmk] at kw2
                      have kw := Lib.hid kw2
                      clear kw2 kw'
                      go_wp2_with fail
                      with_reducible refine callR (kw.out _) ?_
                      intro w5 b5 _ _ _
                      have X5 := X4.step b5
                      have R5 := R4.step b5
                      have B5 := below_step B4 b5
                      clear X4 R4 B4 c4 c5
                      have c4 : Has_win w5 g2 0 := ⟨⟨x, x⟩, X5.is_win⟩
                      have c5 : of_win w5 g2 0 = ⟨x, x⟩ := of_win_eq X5.is_win
                      have d2 := R5.plain
                      have d3 := R5.of
                      by_cases hT : D = s
                      · have HO3 := Lib.hid (HO.out.trans (if_pos hT))
                        subst hT
                        go_wp2
                        refine bodyPost_ret (results_win Tryz.results198 _ _ g ⟨x, x⟩ rfl (Blk.is_win (x := ⟨x, x⟩) (R5.set _))) rfl ?_
                        exact Ret.winE HO3.out (below_setRow' B5 hg _)
                      · have HO3 := Lib.hid (HO.out.trans (if_neg hT))
                        have hT1 : (D == s) = false := by simpa using hT
                        go_wp2
                        refine bodyPost_ret (results_win Tryz.results198 _ _ g ⟨0, 0⟩ rfl (Blk.is_win (x := ⟨0, 0⟩) (R5.set _))) rfl ?_
                        exact Ret.winE HO3.out (below_setRow' B5 hg _)
          · have hp0 : s = [] := List.length_eq_zero_iff.1 (by omega)
            subst hp0
            have HE := Lib.hid (show out = rwinO (raltP []) (raltP []) 0 [] from HE2.out)
            clear HE2
            go_upto_region 13 with (fail)
            have HO := Lib.hid (show out = ((0, 0), 4) from HE.out.trans (by decide))
            have k1 := Lib.hid (fun W => raltForm_any [] W (by simp))
            rw [show raltP [] = (0, false, false) from by decide] at k1
            clear HE
            go_wp2_with fail
            with_reducible refine callQ (k1.out _) ?_
            intro n1
            go_wp2_with fail
            with_reducible refine callQ (k1.out _) ?_
            intro n2
            have RR : Blk ((W.drewN n1).drewN n2) g #[.int .i64 0, .int .i64 0] := R
            have BB := below_drewN (below_drewN BW n1) n2
            clear R BW k1
            generalize (W.drewN n1).drewN n2 = W2 at RR BB ⊢
            have d2 := RR.plain
            have d3 := RR.of
            go_wp2
            refine bodyPost_ret (results_win Tryz.results198 _ _ g ⟨0, 0⟩ rfl (Blk.is_win (x := ⟨0, 0⟩) (RR.set _))) rfl ?_
            exact Ret.winE HO.out (below_setRow' BB hg _)
        · have hm : mo = true ∧ wh = miles ∧ pt = rest := by
            rcases hcase with ⟨a1, a2, a3, a4⟩ | ⟨a1, _, a2, a3⟩
            · exfalso
              rw [List.take_of_length_le (by omega)] at a4
              have := HNO.out a4
              injection this with b1 b2
              injection b2 with b2 b3
              cases b3
            · exact ⟨a1, a2, a3⟩
          clear hcase HAT HNO
          obtain ⟨rfl, rfl, rfl⟩ := hm
          have HE := Lib.hid (show out = rwinO (raltP wh) (raltP pt) 3 s from HE.out)
          simp only [if_true]
          go_upto_region 13 with (fail)
          have k1 := Lib.hid (fun W => raltForm_any wh W (by first | assumption | omega))
          have i1 := Lib.hid (fun h => ralt_in (s := wh) h)
          have k2 := Lib.hid (fun W => raltForm_any pt W (by first | assumption | omega))
          have i2 := Lib.hid (fun h => ralt_in (s := pt) h)
          generalize raltP wh = ra at k1 HE i1
          obtain ⟨x, fa, ia⟩ := ra
          generalize raltP pt = rb at k2 HE i2
          obtain ⟨y, fb, ib⟩ := rb
          simp only at i1 i2
          go_wp2_with fail
          with_reducible refine callQ (k1.out _) ?_
          intro n1
          go_wp2_with fail
          with_reducible refine callQ (k2.out _) ?_
          intro n2
          have RR : Blk ((W.drewN n1).drewN n2) g #[.int .i64 0, .int .i64 0] := R
          have BB := below_drewN (below_drewN BW n1) n2
          clear R BW k1 k2
          generalize (W.drewN n1).drewN n2 = W2 at RR BB ⊢
          have R := RR; have BW := BB; clear RR BB
          have hlt := R.lt
          have d2 := R.plain
          have d3 := R.of
          cases fa
          · skip
            have HO := Lib.hid (HE.out.trans (rwinO_f rfl))
            clear HE i1 i2
            go_wp2
            refine bodyPost_ret (results_win Tryz.results198 _ _ g ⟨0, 0⟩ rfl (Blk.is_win (x := ⟨0, 0⟩) (R.set _))) rfl ?_
            exact Ret.winE HO.out (below_setRow' BW hg _)
          · cases fb
            · skip
              have HO := Lib.hid (HE.out.trans (rwinO_f rfl))
              clear HE i1 i2
              go_wp2
              refine bodyPost_ret (results_win Tryz.results198 _ _ g ⟨0, 0⟩ rfl (Blk.is_win (x := ⟨0, 0⟩) (R.set _))) rfl ?_
              exact Ret.winE HO.out (below_setRow' BW hg _)
            · cases ia
              · skip
                have HO := Lib.hid (HE.out.trans (rwinO_i rfl rfl))
                clear HE i1 i2
                go_wp2
                refine bodyPost_ret (results_win Tryz.results198 _ _ g ⟨0, 0⟩ rfl (Blk.is_win (x := ⟨0, 0⟩) (R.set _))) rfl ?_
                exact Ret.winE HO.out (below_setRow' BW hg _)
              · cases ib
                · skip
                  have HO := Lib.hid (HE.out.trans (rwinO_i rfl rfl))
                  clear HE i1 i2
                  go_wp2
                  refine bodyPost_ret (results_win Tryz.results198 _ _ g ⟨0, 0⟩ rfl (Blk.is_win (x := ⟨0, 0⟩) (R.set _))) rfl ?_
                  exact Ret.winE HO.out (below_setRow' BW hg _)
                · skip
                  by_cases hxy : y < x
                  · have HO := Lib.hid (HE.out.trans (rwinO_o rfl rfl hxy))
                    clear i1 i2
                    go_wp2
                    refine bodyPost_ret (results_win Tryz.results198 _ _ g ⟨0, 0⟩ rfl (Blk.is_win (x := ⟨0, 0⟩) (R.set _))) rfl ?_
                    exact Ret.winE HO.out (below_setRow' BW hg _)
                  · have HO : Hid (out = if winS x y = s then ((x, y), 0) else ((0, 0), 4)) := Lib.hid (HE.out.trans (rwinO_w rfl rfl hxy))
                    have x1 := i1.out rfl
                    have x2 := x1.2
                    have x3 := x1.1
                    have y1 := i2.out rfl
                    have y2 := y1.2
                    have y3 := y1.1
                    have kw' := Lib.hid (fun W => rwinText_in x y W ⟨by omega, by omega, by omega⟩)
                    clear i1 x1 HE i2 y1
                    generalize winS x y = D at kw' HO
                    go_upto_region 22 with (fail)
                    have X := Blk.new W2 #[.int .i64 x, .int .i64 y] 34
                    have R3 := R.alloc (.cells #[.int .i64 x, .int .i64 y] 34)
                    have B3 := below_step BW (alloc_below W2 (.cells #[.int .i64 x, .int .i64 y] 34))
                    clear d2 d3 R
                    have hg2 : w.heap.size ≤ W2.heap.size := BW.size
                    clear BW
                    generalize W2.alloc _ = W3 at X R3 B3 ⊢
                    generalize W2.heap.size = g2 at X hlt hg2 ⊢
                    have X4 : Blk W3 g2 (Win.arr ⟨x, y⟩) := X
                    have R4 := R3; have B4 := B3
                    clear X R3 B3
                    have c4 : Has_win W3 g2 0 := ⟨⟨x, y⟩, X4.is_win⟩
                    have c5 : of_win W3 g2 0 = ⟨x, y⟩ := of_win_eq X4.is_win
                    have kw2 := kw'.out
                    simp only [wmk] at kw2
                    have kw := Lib.hid kw2
                    clear kw2 kw'
                    go_wp2_with fail
                    with_reducible refine callR (kw.out _) ?_
                    intro w5 b5 _ _ _
                    have X5 := X4.step b5
                    have R5 := R4.step b5
                    have B5 := below_step B4 b5
                    clear X4 R4 B4 c4 c5
                    have c4 : Has_win w5 g2 0 := ⟨⟨x, y⟩, X5.is_win⟩
                    have c5 : of_win w5 g2 0 = ⟨x, y⟩ := of_win_eq X5.is_win
                    have d2 := R5.plain
                    have d3 := R5.of
                    by_cases hT : D = s
                    · have HO3 := Lib.hid (HO.out.trans (if_pos hT))
                      subst hT
                      go_wp2
                      refine bodyPost_ret (results_win Tryz.results198 _ _ g ⟨x, y⟩ rfl (Blk.is_win (x := ⟨x, y⟩) (R5.set _))) rfl ?_
                      exact Ret.winE HO3.out (below_setRow' B5 hg _)
                    · have HO3 := Lib.hid (HO.out.trans (if_neg hT))
                      have hT1 : (D == s) = false := by simpa using hT
                      go_wp2
                      refine bodyPost_ret (results_win Tryz.results198 _ _ g ⟨0, 0⟩ rfl (Blk.is_win (x := ⟨0, 0⟩) (R5.set _))) rfl ?_
                      exact Ret.winE HO3.out (below_setRow' B5 hg _)
end Go.Proofs.YtjgondadpjildaaGreatDoor
