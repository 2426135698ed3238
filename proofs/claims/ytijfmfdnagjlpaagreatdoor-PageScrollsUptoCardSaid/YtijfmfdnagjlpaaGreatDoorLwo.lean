/- PageScrolls: the statement walked. -/
import Derived.Test.YtijfmfdnagjlpaaGreatDoorPk46
namespace Go.Proofs.YtijfmfdnagjlpaaGreatDoor
open Go.RowKit Go.Sort
set_option linter.unusedVariables false
set_option linter.unusedSimpArgs false
set_option maxRecDepth 100000
attribute [local go_sem] run_storeN_term run_storeB_term splice_term SzIs_term Fits_term Ones_term run_eql_term run_neq_term
set_option maxHeartbeats 8000000 in
theorem lawScrolls_any (v : Vw) (d : VAd) (arr : Array Value) (n : Int) (hn0 : 0 ≤ n) (hn1 : n ≤ 255) (w : World) (hv : v.At d arr) (hO : Open58 w) (hok : v.ok w d) :
    Calls Tryz.prog 8 #[.agg arr, .int .u8 n] w (Ret w (.bool true)) := by
  go_enter Tryz.func8, Tryz.ntmps8
  go_upto_region 1 with (fail)
  have V0 := Blk.new w arr 44
  have B0 := (Below.refl w.heap.size w).alloc (Nat.le_refl _) (.cells arr 44)
  generalize w.alloc _ = W at V0 B0 ⊢
  generalize w.heap.size = gv at V0 ⊢
  go_upto_region 3 with (go_at_call 9; (with_reducible refine callRB (awake58p_any _ (hO.below B0)) ?_); intro w1 B1)
  have V1 := V0.step B1
  have C1 := below_step B0 B1
  clear V0 B0 B1
  have j1 : Has_view w1 gv 0 := ⟨_, V1.is_view hv.size⟩
  have j2 : of_view w1 gv 0 = arr := of_view_eq (V1.is_view hv.size)
  have HS := Lib.hid (small58_any v d arr hv w1)
  cases hs : smallB v
  · rw [hs] at HS
    go_wp2_with (go_at_call 10; (with_reducible refine callRB HS.out ?_); intro w2 B2)
    go_ret
    exact Ret.bool rfl (below_step C1 B2)
  · rw [hs] at HS
    have hsn : (shownS v).es.length ≤ 120 := by
      unfold smallB at hs
      simp only [Bool.and_eq_true, decide_eq_true_iff] at hs
      unfold shownS
      split <;> omega
    go_upto_region 6 with (first
      | (go_at_call 10; (with_reducible refine callRB HS.out ?_); intro w2 B2)
      | (go_at_call 13; (with_reducible refine callRB (start58_any _) ?_); intro w3 B3))
    have Z3 := (Below.refl w3.heap.size w3).alloc (Nat.le_refl _) (.cells (Term.arr ⟨1, 0, []⟩) 23)
    have D3 := below_step (below_step B2 B3) Z3
    have V3 := V1.step D3
    have C3 := below_step C1 D3
    have T3 := Blk.new w3 (Term.arr ⟨1, 0, []⟩) 23
    have hg3 : w.heap.size ≤ w3.heap.size := (below_step C1 (below_step B2 B3)).size
    clear V1 C1 B2 B3 Z3 D3 j1 j2 HS hs
    generalize w3.alloc _ = W3 at V3 C3 T3 ⊢
    generalize w3.heap.size = gt at T3 hg3 ⊢
    have j1 : Has_view W3 gv 0 := ⟨_, V3.is_view hv.size⟩
    have j2 : of_view W3 gv 0 = arr := of_view_eq (V3.is_view hv.size)
    go_upto_region 8 with (go_at_call 19; (with_reducible refine callRB (rshown_any v d arr hv _) ?_); intro w4 B4)
    have Z4 := (Below.refl w4.heap.size w4).alloc (Nat.le_refl _) (.cells ((shownS v).arr (d.sA v) (d.sc v)) 26)
    have D4 := below_step B4 Z4
    have V4 := V3.step D4
    have T4 := T3.step D4
    have C4 := below_step C3 D4
    have P4 := Blk.new w4 ((shownS v).arr (d.sA v) (d.sc v)) 26
    have hpt : w4.heap.size ≠ gt := by have := (T3.step B4).lt; omega
    have hvt : gv ≠ gt := by
      have := V3.lt
      intro e
      subst e
      have h1 := V3.cell 2
      rw [T3.cell 2] at h1
      have h2 := hv.active 2 (by omega)
      rw [Nat.zero_add] at h2
      rw [h2] at h1
      cases h1
    clear V3 C3 T3 j1 j2 B4 Z4 D4
    generalize w4.alloc _ = W4 at V4 T4 C4 P4 ⊢
    generalize w4.heap.size = gp at P4 hpt ⊢
    obtain ⟨m, hm⟩ : ∃ m : Nat, n % 20 = m := ⟨(n % 20).toNat, by omega⟩
    have hm20 : m < 20 := by omega
    have S1 : Hid (∀ f : Int, 0 ≤ f → f ≤ 1000 → pressS ⟨1, f, []⟩ v [68, 79, 87, 78] = if ((shownS v).es.length : Int) ≤ f + 5 then (⟨1, f, []⟩, [], 6) else (⟨1, f + 5, []⟩, [], 0)) := Lib.hid (fun f h0 h1 => scroll_down (v := v) h0 (by omega))
    have S2 : Hid (∀ f : Int, 0 ≤ f → f ≤ 1000 → pressS ⟨1, f + 5, []⟩ v [85, 80] = (⟨1, f, []⟩, [], 0)) := Lib.hid (fun f h0 h1 => scroll_up (v := v) h0 (by omega))
    generalize hln : (shownS v).es.length = ln at *
    rw [hm]
    clear hm
    go_loopw [7, 8, 9, 10, 11, 12, 23] (fun _ _ _ _ _ _ i wr => ∃ (k : Nat) (f : Int), k ≤ m ∧ f = 5 * k ∧ i = .int .u8 k ∧ Blk wr gt (Term.arr ⟨1, f, []⟩) ∧ Blk wr gv arr ∧ Blk wr gp ((shownS v).arr (d.sA v) (d.sc v)) ∧ Below w.heap.size w wr) (fun _ _ _ _ _ _ i _ => m - (intOf i).toNat)
    case atStart => exact ⟨0, 0, by omega, rfl, rfl, T4, V4, P4, C4⟩
    case round =>
      obtain ⟨k, f, hk, hf, rfl, T, V, P, C⟩ := hrel
      have hf0 : 0 ≤ f := by omega
      have hf1 : f ≤ 100 := by omega
      have HF := Lib.hid hf
      clear hf
      clear T4 V4 P4 C4
      by_cases hlt : k < m
      · have hlt' : (k : Int) < (m : Int) := by omega
        have hOr := hO.below C
        have j1 : Has_view wr gv 0 := ⟨_, V.is_view hv.size⟩
        have j2 : of_view wr gv 0 = arr := of_view_eq (V.is_view hv.size)
        have x4 := T.has_term
        have x5 := T.of_term
        have HP := press58_any ⟨1, f, []⟩ v d arr hv [68, 79, 87, 78] wr hOr.words hOr.laid hOr.err (hok.below C) (by decide) (Nat.zero_le _)
        rw [S1.out f hf0 (by omega)] at HP
        have pc : wr.cell? ⟨gp, 2, none⟩ = some (.slice (d.sA v) ln (d.sc v)) := by rw [P.cell 2, ← hln]; rfl
        have a1 : IntKind.i64.wrap (f + 5) = f + 5 := IntWalk.i64_in _ (by omega)
        by_cases hd : (ln : Int) ≤ f + 5
        · rw [if_pos hd] at HP
          have HP := Lib.hid HP
          go_upto_region 10 with (go_at_call 11; (with_reducible refine callTR HP.out ?_); intro w5 B5)
          have Z5 := (Below.refl w5.heap.size w5).alloc (Nat.le_refl _) (.cells (Term.arr ⟨1, f, []⟩) 23)
          have D5 := below_step B5 Z5
          have Q5 := Blk.new w5 (Term.arr ⟨1, f, []⟩) 23
          have T5 := T.step D5
          have P5 := P.step D5
          have C5 := below_step C D5
          clear j1 j2 x4 x5 pc HP Z5 B5 D5 hOr
          generalize w5.alloc _ = W5 at Q5 T5 P5 C5 ⊢
          generalize w5.heap.size = g5 at Q5 ⊢
          have y1 := Q5.has_term
          have y2 := Q5.of_term
          have y3 := T5.has_term
          have y4 := T5.of_term
          have y5 := T5.cell
          have pc : W5.cell? ⟨gp, 2, none⟩ = some (.slice (d.sA v) ln (d.sc v)) := by rw [P5.cell 2, ← hln]; rfl
          have e1 := Term.eqB_self
          go_wp2
          go_ret
          exact Ret.bool rfl C5
        · rw [if_neg hd] at HP
          have HP := Lib.hid HP
          go_upto_region 10 with (go_at_call 11; (with_reducible refine callTR HP.out ?_); intro w5 B5)
          have Z5 := (Below.refl w5.heap.size w5).alloc (Nat.le_refl _) (.cells (Term.arr ⟨1, f + 5, []⟩) 23)
          have D5 := below_step B5 Z5
          have Q5 := Blk.new w5 (Term.arr ⟨1, f + 5, []⟩) 23
          have T5 := T.step D5
          have P5 := P.step D5
          have V5 := V.step D5
          have C5 := below_step C D5
          have h5t : w5.heap.size ≠ gt := by have := (T.step B5).lt; omega
          clear j1 j2 x4 x5 pc HP Z5 B5 D5 hOr T V P C
          generalize w5.alloc _ = W5 at Q5 T5 P5 V5 C5 ⊢
          generalize w5.heap.size = g5 at Q5 h5t ⊢
          have y1 := Q5.has_term
          have y2 := Q5.of_term
          have y3 := T5.has_term
          have y4 := T5.of_term
          have y5 := T5.cell
          have y6 := Q5.cell
          have hOr := hO.below C5
          have j1 : Has_view W5 gv 0 := ⟨_, V5.is_view hv.size⟩
          have j2 : of_view W5 gv 0 = arr := of_view_eq (V5.is_view hv.size)
          have pc : W5.cell? ⟨gp, 2, none⟩ = some (.slice (d.sA v) ln (d.sc v)) := by rw [P5.cell 2, ← hln]; rfl
          have e1 := Term.eqB_self
          have HP := press58_any ⟨1, f + 5, []⟩ v d arr hv [85, 80] W5 hOr.words hOr.laid hOr.err (hok.below C5) (by decide) (Nat.zero_le _)
          rw [S2.out f hf0 (by omega)] at HP
          have HP := Lib.hid HP
          go_upto_region 15 with (go_at_call 11; (with_reducible refine callTR HP.out ?_); intro w6 B6)
          have Z6 := (Below.refl w6.heap.size w6).alloc (Nat.le_refl _) (.cells (Term.arr ⟨1, f, []⟩) 23)
          have D6 := below_step B6 Z6
          have R6 := Blk.new w6 (Term.arr ⟨1, f, []⟩) 23
          have Q6 := Q5.step D6
          have T6 := T5.step D6
          have P6 := P5.step D6
          have V6 := V5.step D6
          have C6 := below_step C5 D6
          clear j1 j2 y1 y2 y3 y4 y5 y6 pc HP Z6 B6 D6 hOr T5 V5 P5 C5 Q5
          generalize w6.alloc _ = W6 at Q6 T6 P6 V6 C6 R6 ⊢
          generalize w6.heap.size = g6 at R6 ⊢
          have y1 := Q6.has_term
          have y2 := Q6.of_term
          have y3 := T6.has_term
          have y4 := T6.of_term
          have y5 := R6.has_term
          have y6 := R6.of_term
          have y7 := T6.plain
          have y8 := T6.of
          go_wp2
          go_roundw
          case rel => exact ⟨k + 1, f + 5, by omega, by have := HF.out; omega, by go_num, T6.set _, V6.far hvt _, P6.far hpt _, below_setRow' C6 hg3 _⟩
          case measure => simp [intOf]; omega
      · obtain rfl : k = m := by omega
        go_wp2
        go_ret
        exact Ret.bool rfl C
end Go.Proofs.YtijfmfdnagjlpaaGreatDoor
