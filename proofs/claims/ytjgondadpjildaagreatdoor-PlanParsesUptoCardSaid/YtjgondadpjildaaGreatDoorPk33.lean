/- plan.Parse of layer 21: the entry of a line, the plan of a text; walks. plan.Parse: the plan of a text; walk. -/
import Derived.Test.YtjgondadpjildaaGreatDoorPk28
import Derived.Test.YtjgondadpjildaaGreatDoorPk29
import Derived.Test.YtjgondadpjildaaGreatDoorPk32
import Derived.Laws.Tables
import Derived.Deep.RegionLaw
import Derived.Deep.AppendLies
import Derived.Test.YtjgondadpjildaaGreatDoorPk30
import Derived.Deep.RegionHeld3
namespace Go.Proofs.YtjgondadpjildaaGreatDoor
open Go.RowKit Go.Sort
set_option linter.unusedVariables false
set_option linter.unusedSimpArgs false
set_option maxRecDepth 100000
theorem cutN_len : ∀ (k : Nat) (l : List UInt8), (cutN k l).length ≤ k + 1 ∧ ∀ x ∈ cutN k l, x.length ≤ l.length
  | 0, l => by simp [cutN]
  | k + 1, l => by
    have ih := cutN_len k (cutAt 32 l).2.1
    have hc := cutAt_len 32 l
    unfold cutN
    split
    · refine ⟨by simp; omega, fun x hx => ?_⟩
      rcases List.mem_cons.1 hx with rfl | hx
      · exact hc.1
      · have := ih.2 x hx; omega
    · simp
def StrsAt (w : World) (g : Nat) (ws : List (List UInt8)) : Prop := ∀ k s, ws[k]? = some s → w.cell? ⟨g, k, none⟩ = some (.string ⟨s.toArray⟩)
theorem splitN5_any (l : List UInt8) (w : World) (hL : Laid w) (hl : l.length ≤ 4000000000) : Calls Tryz.prog 76 #[.string ⟨l.toArray⟩, .string ⟨#[32]⟩, .int .i64 5] w fun e w' =>
    ∃ c, e = .returned (.slice (some ⟨w.heap.size, 0, none⟩) (cutN 4 l).length c) ∧ (cutN 4 l).length ≤ c ∧ Below w.heap.size w w' ∧ w.heap.size < w'.heap.size ∧ StrsAt w' w.heap.size (cutN 4 l) := by
  obtain ⟨m, hm⟩ := hL.maxLen
  have h := Tryz.strings_SplitN ⟨l.toArray⟩ ⟨#[32]⟩ 5 m w (by simp [ByteArray.size]; omega) hm (by decide) (by decide) (by decide)
  refine h.mono ?_
  rintro e w' ⟨rfl, rfl⟩
  have hsz : (ByteArray.mk l.toArray).size = l.length := by simp [ByteArray.size]
  have e1 := splitB_strs 32 (min 5 (l.length + 1) - 1) l
  have e2 := splitB_len 32 (min 5 (l.length + 1) - 1) l
  rw [splitK_cutN, cutN_min 4 l] at e1 e2
  rw [hsz, e2]
  have hle := (cutN_len (min 5 (l.length + 1) - 1) l).1
  rw [cutN_min 4 l] at hle
  refine ⟨_, rfl, by omega, (Below.refl _ _).alloc (Nat.le_refl _) _, by simp, ?_⟩
  intro k s hs
  rw [cell_of_row _ _ k _ _ (0, 0) (heap_alloc_new w _)]
  unfold Lib.cellsOf
  rw [e1]
  have hk : k < (cutN 4 l).length := (List.getElem?_eq_some_iff.1 hs).1
  rw [List.getElem?_toArray, List.getElem?_append_left (by simpa using hk), List.getElem?_map, hs]
  rfl
theorem index_any (l sub : List UInt8) (w : World) (hL : Laid w) (hl : l.length ≤ 4000000000) : Calls Tryz.prog 78 #[.string ⟨l.toArray⟩, .string ⟨sub.toArray⟩] w (RetP w (.int .i64 (Lib.index l sub))) := by
  obtain ⟨m, hm⟩ := hL.maxLen
  exact (Tryz.strings_Index ⟨l.toArray⟩ ⟨sub.toArray⟩ m w (by simp [ByteArray.size]; omega) hm).mono fun e w' ⟨h1, h2⟩ => ⟨h1, h2.symm⟩
theorem idx_max (w : List UInt8) : max (Lib.index [63, 68, 69, 65, 80, 77] w) 0 = (idxP w : Int) ∧ idxP w ≤ 6 := by
  have hr : List.range 7 = [0, 1, 2, 3, 4, 5, 6] := rfl
  have h6 : w.isPrefixOf [] = w.isEmpty := by cases w <;> rfl
  unfold idxP
  by_cases h0 : w.isPrefixOf [63, 68, 69, 65, 80, 77] = true
  · (simp [hr, List.find?, Lib.index, h6, h0]; try omega)
  · replace h0 : w.isPrefixOf [63, 68, 69, 65, 80, 77] = false := Bool.eq_false_iff.2 h0
    by_cases h1 : w.isPrefixOf [68, 69, 65, 80, 77] = true
    · (simp [hr, List.find?, Lib.index, h6, h0, h1]; try omega)
    · replace h1 : w.isPrefixOf [68, 69, 65, 80, 77] = false := Bool.eq_false_iff.2 h1
      by_cases h2 : w.isPrefixOf [69, 65, 80, 77] = true
      · (simp [hr, List.find?, Lib.index, h6, h0, h1, h2]; try omega)
      · replace h2 : w.isPrefixOf [69, 65, 80, 77] = false := Bool.eq_false_iff.2 h2
        by_cases h3 : w.isPrefixOf [65, 80, 77] = true
        · (simp [hr, List.find?, Lib.index, h6, h0, h1, h2, h3]; try omega)
        · replace h3 : w.isPrefixOf [65, 80, 77] = false := Bool.eq_false_iff.2 h3
          by_cases h4 : w.isPrefixOf [80, 77] = true
          · (simp [hr, List.find?, Lib.index, h6, h0, h1, h2, h3, h4]; try omega)
          · replace h4 : w.isPrefixOf [80, 77] = false := Bool.eq_false_iff.2 h4
            by_cases h5 : w.isPrefixOf [77] = true
            · (simp [hr, List.find?, Lib.index, h6, h0, h1, h2, h3, h4, h5]; try omega)
            · replace h5 : w.isPrefixOf [77] = false := Bool.eq_false_iff.2 h5
              by_cases h7 : w.isEmpty = true
              · (simp [hr, List.find?, Lib.index, h6, h0, h1, h2, h3, h4, h5, h7]; try omega)
              · replace h7 : w.isEmpty = false := Bool.eq_false_iff.2 h7
                (simp [hr, List.find?, Lib.index, h6, h0, h1, h2, h3, h4, h5, h7]; try omega)
def bent (parts : Array (Nat × Value)) : Sem Value := Instr.build 41 parts
theorem bent_fold (parts : Array (Nat × Value)) : Instr.build 41 parts = bent parts := rfl
theorem run_bent0 (w : World) : (bent #[]).run Tryz.prog w = .ok (.agg zeroEnt.arr) w := run_build w _ _ _ (by kernel_rfl)
theorem run_bentG (w : World) : (bent #[(0, .bool true)]).run Tryz.prog w = .ok (.agg gapE.arr) w := run_build w _ _ _ (by kernel_rfl)
theorem run_bent5 (w : World) (l : Leg) (s : Int) (via : List UInt8) (p q : Pt) : (bent #[(1, .agg l.arr), (4, .int .u8 s), (5, .string ⟨via.toArray⟩), (2, .agg p.arr), (3, .agg q.arr)]).run Tryz.prog w = .ok (.agg (⟨false, l, p.x, p.y, q.x, q.y, s, via⟩ : Entry).arr) w := run_build w _ _ _ (by kernel_rfl)
attribute [local go_sem ↓] bent_fold
attribute [local go_sem] run_bent0 run_bentG run_bent5
theorem entryP_few {l : List UInt8} (h : ¬ l = [71, 65, 80]) (hl : (cutN 4 l).length < 5) : entryP l = zeroEnt := by
  unfold entryP
  rw [if_neg h]
  match hm : cutN 4 l with
  | [] | [_] | [_, _] | [_, _, _] | [_, _, _, _] => rfl
  | _ :: _ :: _ :: _ :: _ :: _ => rw [hm] at hl; simp at hl; omega
theorem entryP_five {l a b c d e : List UInt8} (h : ¬ l = [71, 65, 80]) (hl : cutN 4 l = [a, b, c, d, e]) : entryP l = ⟨false, (parseS e).1, (unpointP c).1, (unpointP c).2, (unpointP d).1, (unpointP d).2, idxP a, undashB b⟩ := by
  unfold entryP
  rw [if_neg h, hl]
theorem splice_ent (a b : Entry) : splice a.arr 0 b.arr = b.arr := rfl
theorem alloc_ent0 : zeroEnt.arr = #[.bool false, .int .u8 0, .string ⟨#[]⟩, .string ⟨#[]⟩, .int .u8 0, .bool false, .int .i64 0, .int .i64 0, .int .i64 0, .int .i64 0, .int .i64 0, .int .i64 0, .int .i64 0, .int .i64 0, .int .i64 0, .int .i64 0, .int .i64 0, .int .i64 0, .int .u8 0, .string ⟨#[]⟩] := rfl
attribute [local go_sem] splice_ent
set_option maxHeartbeats 4000000 in
theorem entry_any (l : List UInt8) (w : World) (hL : Laid w) (hR : ErrsAt w) (hl : l.length ≤ 4000000) : Calls Tryz.prog 35 #[.string ⟨l.toArray⟩] w (Ret w (entryP l).val) := by
  by_cases hG : l = [71, 65, 80]
  · subst hG
    go_enter Tryz.func35, Tryz.ntmps35
    go_upto_region 1 with (fail)
    have X0 : Blk (w.alloc (.cells zeroEnt.arr 41)) w.heap.size zeroEnt.arr := Blk.new w _ _
    have B0 := alloc_below w (.cells zeroEnt.arr 41)
    rw [alloc_ent0] at X0 B0
    generalize w.alloc _ = W at X0 B0 ⊢
    rw [← alloc_ent0] at X0
    have d2 := X0.plain
    have d3 : blkOf W w.heap.size = zeroEnt.arr := X0.of
    go_wp2
    exact bodyPost_ret (results_agg1 Tryz.results35 _ _ w.heap.size gapE.arr 20 _ rfl rfl (X0.set _).cell Tryz.underlying41 rfl info_ent) rfl ⟨rfl, below_setRow' B0 (Nat.le_refl _) _⟩
  · have hG0 : (l == [71, 65, 80]) = false := by simpa using hG
    have HG := Lib.hid hG; clear hG
    go_enter Tryz.func35, Tryz.ntmps35
    go_upto_region 1 with (fail)
    have X0 : Blk (w.alloc (.cells zeroEnt.arr 41)) w.heap.size zeroEnt.arr := Blk.new w _ _
    have B0 := alloc_below w (.cells zeroEnt.arr 41)
    have L0 := hL.below B0
    have R0 := hR.below B0
    rw [alloc_ent0] at X0 B0 L0 R0
    generalize w.alloc _ = W at X0 B0 L0 R0 ⊢
    rw [← alloc_ent0] at X0
    obtain ⟨g, hg0⟩ : ∃ g, g = w.heap.size := ⟨_, rfl⟩
    rw [← hg0] at X0 ⊢
    have hg := Nat.le_of_eq hg0.symm
    clear hg0
    go_wp2_with fail
    refine (splitN5_any l W L0 (by omega)).mono ?_
    rintro e w1 ⟨cc, rfl, hcc, hb1, hz1, hS⟩
    have X1 := X0.step hb1
    have B1 := below_step B0 hb1
    have L1 := L0.below hb1
    have R1 := R0.below hb1
    clear X0 B0 L0 R0 hb1
    generalize W.heap.size = sb at *
    by_cases hlen : (cutN 4 l).length < 5
    · have HE := Lib.hid (entryP_few HG.out hlen)
      clear hS hcc
      generalize (cutN 4 l).length = n at *
      have d2 := X1.plain
      have d3 : blkOf w1 g = zeroEnt.arr := X1.of
      go_wp2
      exact bodyPost_ret (results_agg1 Tryz.results35 _ _ g zeroEnt.arr 20 _ rfl rfl (X1.set _).cell Tryz.underlying41 rfl info_ent) rfl ⟨by rw [HE.out], below_setRow' B1 hg _⟩
    · have hcl := cutN_len 4 l
      obtain ⟨a, b, c, d, e, hw⟩ : ∃ a b c d e, cutN 4 l = [a, b, c, d, e] := by
        match hm : cutN 4 l with
        | [] | [_] | [_, _] | [_, _, _] | [_, _, _, _] => rw [hm] at hlen; simp at hlen
        | [a, b, c, d, e] => exact ⟨a, b, c, d, e, rfl⟩
        | _ :: _ :: _ :: _ :: _ :: _ :: _ => exfalso; rw [hm] at hcl; simp at hcl
      have HE := Lib.hid (entryP_five HG.out hw)
      rw [hw] at hS hcc hcl ⊢
      have la := hcl.2 a (by simp)
      have lb := hcl.2 b (by simp)
      have lc := hcl.2 c (by simp)
      have ld := hcl.2 d (by simp)
      have le := hcl.2 e (by simp)
      have q0 := hS 0 a rfl
      have q1 := hS 1 b rfl
      have q2 := hS 2 c rfl
      have q3 := hS 3 d rfl
      have q4 := hS 4 e rfl
      clear hS hcl hlen hw hG0
      go_wp2_with fail
      with_reducible refine callR (parse_any e w1 L1 (by omega)) ?_
      intro w2 hb2 hc2 hf2 hz2
      have X2 := X1.step hb2
      have B2 := below_step B1 hb2
      have L2 := L1.below hb2
      have R2 := R1.below hb2
      rw [← hc2 sb _ hz1] at q0 q1 q2 q3 q4
      clear X1 B1 L1 R1 hb2 hc2 hf2
      generalize parseS e = pr at HE ⊢
      go_upto_region 7 with (fail)
      have Y3 := Blk.new w2 pr.1.arr 36
      have A3 := alloc_below w2 (.cells pr.1.arr 36)
      have hsb : sb < w2.heap.size := by omega
      rw [← A3.cell (p := ⟨sb, _, none⟩) hsb] at q0 q1 q2 q3 q4
      have X3 := X2.step A3
      have B3 := below_step B2 A3
      have L3 := L2.below A3
      have R3 := R2.below A3
      clear X2 B2 L2 R2 A3
      generalize w2.alloc _ = w3 at *
      generalize w2.heap.size = lg at *
      have k0 := cell_regrown q0
      have k1 := cell_regrown q1
      have k2 := cell_regrown q2
      have k3 := cell_regrown q3
      have ylt := Y3.lt
      have j5 : ∀ d os, Has_leg (grow (redrawn w3 d) os) lg 0 := fun d os => ⟨_, Y3.is_leg.below (below_regrown w3 d os) ylt⟩
      have j6 : ∀ d os, of_leg (grow (redrawn w3 d) os) lg 0 = pr.1 := fun d os => of_leg_eq (Y3.is_leg.below (below_regrown w3 d os) ylt)
      have c0 : ∀ d os, Calls Tryz.prog 78 #[.string ⟨#[63, 68, 69, 65, 80, 77]⟩, .string ⟨a.toArray⟩] (grow (redrawn w3 d) os) fun e w'' => e = .returned (.int .i64 (Lib.index [63, 68, 69, 65, 80, 77] a)) ∧ ∃ q : Regrown, w'' = grow (redrawn w3 q.d) q.os := fun d os => Calls.regrown_ret ((index_any [63, 68, 69, 65, 80, 77] a _ (L3.below (below_regrown w3 d os)) (by simp)).mono fun _ _ h => h.ret)
      have c1 : ∀ d os, Calls Tryz.prog 33 #[.string ⟨b.toArray⟩] (grow (redrawn w3 d) os) fun e w'' => e = .returned (.string ⟨(undashB b).toArray⟩) ∧ ∃ q : Regrown, w'' = grow (redrawn w3 q.d) q.os := fun d os => Calls.regrown_ret ((undash_any b _ (by omega)).mono fun _ _ h => h.ret)
      have c2 : ∀ d os, Calls Tryz.prog 79 #[.string ⟨c.toArray⟩] (grow (redrawn w3 d) os) fun e w'' => e = .returned (.agg (Pt.arr ⟨(unpointP c).1, (unpointP c).2⟩)) ∧ ∃ q : Regrown, w'' = grow (redrawn w3 q.d) q.os := fun d os => Calls.regrown_ret (unpoint_any c _ (L3.below (below_regrown w3 d os)) (by omega) (R3.below (below_regrown w3 d os)))
      have c3 : ∀ v os, Calls Tryz.prog 79 #[.string ⟨d.toArray⟩] (grow (redrawn w3 v) os) fun e w'' => e = .returned (.agg (Pt.arr ⟨(unpointP d).1, (unpointP d).2⟩)) ∧ ∃ q : Regrown, w'' = grow (redrawn w3 q.d) q.os := fun v os => Calls.regrown_ret (unpoint_any d _ (L3.below (below_regrown w3 v os)) (by omega) (R3.below (below_regrown w3 v os)))
      have hix := idx_max a
      clear hcc
      generalize undashB b = ub at *
      generalize unpointP c = uc at *
      generalize unpointP d = ud at *
      generalize Lib.index [63, 68, 69, 65, 80, 77] a = ix at *
      obtain ⟨hi1, hi2⟩ := hix
      generalize idxP a = k at *
      have hk8 : IntKind.u8.wrap (k : Int) = (k : Int) := by simp only [IntKind.wrap, IntKind.bits, IntKind.signed]; simp; omega
      refine wp_region_tail_below 20 (by kernel_rfl) (by kernel_rfl) ?_
      simp only [List.take_succ_cons, List.take_zero, List.drop_succ_cons, List.drop_zero]
      repeat (quiet_step (with_reducible first | exact c0 _ _ | exact c1 _ _ | exact c2 _ _ | exact c3 _ _))
      refine wpQuiet_nil ?_
      intro _ hw'
      obtain ⟨⟨dq, osq⟩, hw''⟩ := hw'
      subst hw''
      have X4 := X3.step (below_regrown w3 dq osq)
      have B4 := below_step B3 (below_regrown w3 dq osq)
      clear k0 k1 k2 k3 j5 j6 c0 c1 c2 c3 X3 B3 L3 R3 q0 q1 q2 q3 q4
      generalize grow (redrawn w3 dq) osq = w4 at X4 B4 ⊢
      have d2 := X4.plain
      have d3 : blkOf w4 g = zeroEnt.arr := X4.of
      go_wp2
      exact bodyPost_ret (results_agg1 Tryz.results35 _ _ g (⟨false, pr.1, uc.1, uc.2, ud.1, ud.2, (k : Int), ub⟩ : Entry).arr 20 _ rfl rfl (X4.set _).cell Tryz.underlying41 rfl info_ent) rfl ⟨by rw [HE.out], below_setRow' B4 hg _⟩
end Go.Proofs.YtjgondadpjildaaGreatDoor
namespace Go.Proofs.YtjgondadpjildaaGreatDoor
open Go.RowKit Go.Sort
set_option linter.unusedVariables false
set_option linter.unusedSimpArgs false
set_option maxRecDepth 100000
theorem parseP_none {s h0 : List UInt8} {rest : List (List UInt8)} (h : splitC 10 s = h0 :: rest) (h4 : (splitC 32 h0).length ≠ 4) : parseP s = (plan0, 4) := by
  unfold parseP readP
  rw [h, List.headD_cons]
  match hm : splitC 32 h0 with
  | [] | [_] | [_, _] | [_, _, _] => rfl
  | [_, _, _, _] => rw [hm] at h4; exact absurd rfl h4
  | _ :: _ :: _ :: _ :: _ :: _ => rfl
theorem parseP_some {s h0 a b c d : List UInt8} {rest : List (List UInt8)} (h : splitC 10 s = h0 :: rest) (h4 : splitC 32 h0 = [a, b, c, d]) :
    parseP s = if planT ⟨undashB b, undashB c, rest.map entryP, numP d⟩ = [] ∨ planT ⟨undashB b, undashB c, rest.map entryP, numP d⟩ ≠ s then (plan0, 4) else (⟨undashB b, undashB c, rest.map entryP, numP d⟩, 0) := by
  unfold parseP readP
  rw [h, List.headD_cons, h4]
  rfl
theorem splitC_mem (c : UInt8) : ∀ (l : List UInt8), ∀ x ∈ splitC c l, x.length ≤ l.length
  | [], x, hx => by
    have : x = [] := by simpa [splitC] using hx
    rw [this]; simp
  | y :: r, x, hx => by
    have ih := splitC_mem c r
    unfold splitC at hx
    split at hx
    · rcases List.mem_cons.1 hx with rfl | hx
      · simp
      · have := ih x hx; simp; omega
    · revert hx
      have hne := splitC_ne c r
      match hm : splitC c r with
      | [] => exact absurd hm hne
      | a :: q =>
        intro hx
        rw [hm] at ih
        rcases List.mem_cons.1 hx with rfl | hx
        · have := ih a (by simp); simp; omega
        · have := ih x (by simp [hx]); simp; omega
theorem undashB_len (s : List UInt8) : (undashB s).length ≤ s.length := by unfold undashB; split <;> simp
theorem parseS_len (s : List UInt8) : (parseS s).1.fix.length ≤ s.length ∧ (parseS s).1.center.length ≤ s.length := by
  rcases parse_cases s with ⟨c, h, _⟩ | ⟨e, h, _⟩ | ⟨_, _, _, h1, h2⟩
  · rw [h]; exact ⟨by simp [leg0], by simp [leg0]⟩
  · rw [h]; exact ⟨by simp [leg0], by simp [leg0]⟩
  · exact ⟨h1, h2⟩
theorem entryP_small {l : List UInt8} (hl : l.length ≤ 4000000000) : (entryP l).small := by
  by_cases hG : l = [71, 65, 80]
  · subst hG
    exact ⟨⟨by decide, by decide⟩, by decide⟩
  by_cases hlen : (cutN 4 l).length < 5
  · rw [entryP_few hG hlen]
    exact ⟨⟨by decide, by decide⟩, by decide⟩
  · have hcl := cutN_len 4 l
    obtain ⟨a, b, c, d, e, hw⟩ : ∃ a b c d e, cutN 4 l = [a, b, c, d, e] := by
      match hm : cutN 4 l with
      | [] | [_] | [_, _] | [_, _, _] | [_, _, _, _] => rw [hm] at hlen; simp at hlen
      | [a, b, c, d, e] => exact ⟨a, b, c, d, e, rfl⟩
      | _ :: _ :: _ :: _ :: _ :: _ :: _ => exfalso; rw [hm] at hcl; simp at hcl
    rw [entryP_five hG hw]
    rw [hw] at hcl
    have lb := hcl.2 b (by simp)
    have le := hcl.2 e (by simp)
    have h1 := parseS_len e
    have h2 := undashB_len b
    exact ⟨⟨by show (parseS e).1.fix.length ≤ _; omega, by show (parseS e).1.center.length ≤ _; omega⟩, by show (undashB b).length ≤ _; omega⟩
/-- The call returns a plan, its entries in memory of its own or nowhere, and an error. -/
def RetPl (w : World) (r : Plan × Int) (e : Ending) (w' : World) : Prop :=
  ∃ A c, e = .returned (.tuple #[r.1.val A c, .int .i64 r.2]) ∧ r.1.es.length ≤ c ∧ Ents w' A r.1.es ∧ Below w.heap.size w w'
def bplan (parts : Array (Nat × Value)) : Sem Value := Instr.build 52 parts
theorem bplan_fold (parts : Array (Nat × Value)) : Instr.build 52 parts = bplan parts := rfl
theorem run_bplan0 (w : World) : (bplan #[]).run Tryz.prog w = .ok (.agg (plan0.arr none 0)) w := run_build w _ _ _ (by kernel_rfl)
theorem run_bplan3 (w : World) (a b : List UInt8) (n : Int) : (bplan #[(0, .string ⟨a.toArray⟩), (1, .string ⟨b.toArray⟩), (3, .int .i64 n)]).run Tryz.prog w = .ok (.agg ((⟨a, b, [], n⟩ : Plan).arr none 0)) w := run_build w _ _ _ (by kernel_rfl)
attribute [local go_sem ↓] bplan_fold
attribute [local go_sem] run_bplan0 run_bplan3
theorem plan0_arr : plan0.arr none 0 = #[.string ⟨#[]⟩, .string ⟨#[]⟩, .slice none 0 0, .int .i64 0] := rfl
theorem splice_plan (p q : Plan) (A B : Option Addr) (c d : Nat) : splice (p.arr A c) 0 (q.arr B d) = q.arr B d := rfl
theorem Fits_plan (p : Plan) (A : Option Addr) (c o n : Nat) : Fits o n (p.arr A c) = (o + n ≤ 4) := propext ⟨fun h => h, fun h => h⟩
theorem run_storeC_plan (W : World) (g o : Nat) (v : Array Value) (hv : SzIs v 4) (h1 : Ones v) (hp : Plain W g) (hn : Fits o 4 (blkOf W g)) :
    (store_plan (.pointer (some ⟨g, o, none⟩)) (.agg v)).run Tryz.prog W = .ok () (W.setRow g (splice (blkOf W g) o v)) := run_store_blk W g o 4 _ v info_plan hv h1 hp hn
attribute [local go_sem] splice_plan Fits_plan run_storeC_plan
theorem Out.own_ge {w0 W : World} {v : Value} {es : List Entry} (hO : Out w0 W v es) {g : Nat} (h : v.ownBlock = some g) : w0.heap.size ≤ g := by
  rcases hO.2 with ⟨rfl, _⟩ | ⟨g', cap, cur, rfl, hgb, _⟩
  · simp [Value.ownBlock] at h
  · have : g' = g := by simpa [Value.ownBlock] using h
    omega
theorem Out.keep {w0 W W' : World} {v : Value} {es : List Entry} (h : Out w0 W v es) (hk : ∀ k, v.ownBlock = some k → W'.heap[k]? = W.heap[k]?) : Out w0 W' v es := by
  obtain ⟨hl, h⟩ := h
  refine ⟨hl, ?_⟩
  rcases h with ⟨rfl, h0⟩ | ⟨g, cap, cur, rfl, hg, hbk, hn, hm, hsz, hc⟩
  · exact .inl ⟨rfl, h0⟩
  · exact .inr ⟨g, cap, cur, rfl, hg, (hk g (by simp [Value.ownBlock])).trans hbk, hn, hm, hsz, hc⟩
theorem Ents.far {w : World} {A : Option Addr} {es : List Entry} (h : Ents w A es) {g : Nat} (hA : ∀ a, A = some a → a.block ≠ g) (cs : Array Value) : Ents (w.setRow g cs) A es := by
  refine ⟨fun hne => ?_⟩
  obtain ⟨b, o, h1, h2, h3⟩ := h.at_ hne
  refine ⟨b, o, h1, by simpa [World.setRow] using h2, fun i x hx j hj => ?_⟩
  rw [cell_far _ _ _ _ _ (hA _ h1)]
  exact h3 i x hx j hj
theorem Out.of_slice {w0 W : World} {A : Option Addr} {c : Nat} {es : List Entry} (h : Out w0 W (.slice A es.length c) es) : es.length ≤ c ∧ Ents W A es ∧ (∀ a, A = some a → w0.heap.size ≤ a.block) := by
  obtain ⟨A', c', hv, hc, hE, hA⟩ := h.form
  injection hv with h1 h2 h3
  subst h1; subst h3
  exact ⟨hc, hE, hA⟩
theorem plan_snoc (fr tt : List UInt8) (es : List Entry) (nn : Int) (A B : Option Addr) (c d : Nat) (y : Entry) : ((⟨fr, tt, es, nn⟩ : Plan).arr A c).setIfInBounds 2 (.slice B (es.length + 1) d) = (⟨fr, tt, es ++ [y], nn⟩ : Plan).arr B d := by
  unfold Plan.arr
  simp
theorem touch_grown {S : List Nat} {wB W W' : World} {w0 : World} {v : Value} {es : List Entry} (h : Touch S wB W) (hO : Out w0 W v es) (hw : wB.heap.size ≤ w0.heap.size) (hg : W.grownBy W' v.ownBlock) : Touch S wB W' :=
  ⟨hg.os.trans h.os, hg.tape.trans h.tape, hg.output.trans h.output, Nat.le_trans h.size hg.size, fun k hk hn => by
    refine (hg.block k (Nat.lt_of_lt_of_le hk h.size) ?_).trans (h.block k hk hn)
    rcases hO.2 with ⟨rfl, _⟩ | ⟨g', cap, cur, rfl, hgb, _⟩
    · simp [Value.ownBlock]
    · intro e
      have : g' = k := by simpa [Value.ownBlock] using e.symm
      omega⟩
set_option maxHeartbeats 8000000 in
theorem parse21_any (s : List UInt8) (w : World) (hL : Laid w) (hR : ErrsAt w) (hl : s.length ≤ 100000) : Calls Tryz.prog 12 #[.string ⟨s.toArray⟩] w (RetPl w (parseP s)) := by
  obtain ⟨h0, rest, hls⟩ : ∃ h0 rest, splitC 10 s = h0 :: rest := by
    match h : splitC 10 s with
    | [] => exact absurd h (splitC_ne 10 s)
    | a :: q => exact ⟨a, q, rfl⟩
  have hmem := splitC_mem 10 s
  have hcnt : rest.length ≤ s.length := by
    have h1 := splitC_len 10 s
    have h2 := List.count_le_length (a := (10 : UInt8)) (l := s)
    rw [hls] at h1; simp at h1; omega
  rw [hls] at hmem
  have hl0 := hmem h0 (by simp)
  have HR := Lib.hid (fun x hx => hmem x (List.mem_cons_of_mem _ hx) : ∀ x ∈ rest, x.length ≤ s.length)
  have HLS := Lib.hid hls
  have hsp := Lib.hid (fun W hL' => splitC_any 10 s W hL' (by omega))
  rw [hls] at hsp
  clear hmem hls
  go_enter Tryz.func12, Tryz.ntmps12
  go_upto_region 1 with (fail)
  have X0 : Blk (w.alloc (.cells (plan0.arr none 0) 52)) w.heap.size (plan0.arr none 0) := Blk.new w _ _
  have B0 := alloc_below w (.cells (plan0.arr none 0) 52)
  have L0 := hL.below B0
  have R0 := hR.below B0
  rw [plan0_arr] at X0 B0 L0 R0
  generalize w.alloc _ = W at X0 B0 L0 R0 ⊢
  rw [← plan0_arr] at X0
  obtain ⟨g, hg0⟩ : ∃ g, g = w.heap.size := ⟨_, rfl⟩
  rw [← hg0] at X0 ⊢
  have hg := Nat.le_of_eq hg0.symm
  clear hg0
  go_wp2_with fail
  refine (hsp.out W L0).mono ?_
  rintro e w1 ⟨rfl, hw1⟩
  have A1 : Below W.heap.size W w1 := by rw [hw1]; exact alloc_below _ _
  have hs1 : W.heap.size < w1.heap.size := by rw [hw1]; simp
  have S1 : StrsAt w1 W.heap.size (h0 :: rest) := fun k x hx => by
    rw [hw1, cell_of_row _ _ k _ _ (0, 0) (heap_alloc_new W _)]
    unfold strCellsC
    rw [List.getElem?_toArray, List.getElem?_map, hx]
    rfl
  have X1 := X0.step A1
  have B1 := below_step B0 A1
  have L1 := L0.below A1
  have R1 := R0.below A1
  clear hw1 A1 X0 B0 L0 R0 hsp
  generalize W.heap.size = sb at *
  rw [List.length_cons]
  have k0 := S1 0 h0 rfl
  have hsp2 := Lib.hid (fun W hL' => splitC_any 32 h0 W hL' (by omega))
  go_wp2_with fail
  refine (hsp2.out w1 L1).mono ?_
  rintro e w2 ⟨rfl, hw1⟩
  have A2 : Below w1.heap.size w1 w2 := by rw [hw1]; exact alloc_below _ _
  have hs2 : w1.heap.size < w2.heap.size := by rw [hw1]; simp
  have S2 : StrsAt w2 w1.heap.size (splitC 32 h0) := fun k x hx => by
    rw [hw1, cell_of_row _ _ k _ _ (0, 0) (heap_alloc_new w1 _)]
    unfold strCellsC
    rw [List.getElem?_toArray, List.getElem?_map, hx]
    rfl
  have S1 : StrsAt w2 sb (h0 :: rest) := fun k x hx => by rw [A2.cell (p := ⟨sb, k, none⟩) hs1]; exact S1 k x hx
  have X2 := X1.step A2
  have B2 := below_step B1 A2
  have L2 := L1.below A2
  have R2 := R1.below A2
  have hsb2 : sb < w2.heap.size := by omega
  clear hw1 A2 X1 B1 L1 R1 hsp2 k0 hs1
  generalize w1.heap.size = hb at *
  by_cases h4 : (splitC 32 h0).length = 4
  · obtain ⟨a, b, c, d, hws⟩ : ∃ a b c d, splitC 32 h0 = [a, b, c, d] := by
      match hm : splitC 32 h0 with
      | [] | [_] | [_, _] | [_, _, _] => rw [hm] at h4; simp at h4
      | [a, b, c, d] => exact ⟨a, b, c, d, rfl⟩
      | _ :: _ :: _ :: _ :: _ :: _ => rw [hm] at h4; simp at h4
    have HO := Lib.hid (parseP_some HLS.out hws)
    have hm4 := splitC_mem 32 h0
    rw [hws] at S2 hm4 ⊢
    have la := hm4 b (by simp)
    have lb := hm4 c (by simp)
    have ld := hm4 d (by simp)
    have q1 := S2 1 b rfl
    have q2 := S2 2 c rfl
    have q3 := S2 3 d rfl
    clear S2 h4 hm4 hws
    have ub := undashB_len b
    have uc := undashB_len c
    have HB := Lib.hid (fun W => undash_any b W (by omega))
    have HC := Lib.hid (fun W => undash_any c W (by omega))
    have HD := Lib.hid (fun W hR' => pnum_any d W (by omega) hR')
    generalize undashB b = fr at *
    generalize undashB c = tt at *
    generalize numP d = nn at *
    go_upto_region 5 with (fail)
    go_cut [6] (fun v wx => ∃ pb, v = .pointer (some ⟨pb, 0, none⟩) ∧ w2.heap.size ≤ pb ∧ Blk wx pb ((⟨fr, tt, [], nn⟩ : Plan).arr none 0) ∧ Below w2.heap.size w2 wx)
    case first =>
      have D2 : Below w2.heap.size w2 w2.drew := (Below.refl _ _).drew
      have AL : ∀ o, Below w2.heap.size w2 (w2.drew.alloc o) := fun o => D2.alloc (Nat.le_refl _) _
      have iS : ∀ W', Below w2.heap.size w2 W' → W'.cell? ⟨hb, 1, none⟩ = some (.string ⟨b.toArray⟩) ∧ W'.cell? ⟨hb, 2, none⟩ = some (.string ⟨c.toArray⟩) ∧ W'.cell? ⟨hb, 3, none⟩ = some (.string ⟨d.toArray⟩) := fun W' hB =>
        ⟨by rw [hB.cell (p := ⟨hb, _, none⟩) hs2]; exact q1, by rw [hB.cell (p := ⟨hb, _, none⟩) hs2]; exact q2, by rw [hB.cell (p := ⟨hb, _, none⟩) hs2]; exact q3⟩
      have IS := Lib.hid iS
      have HN := Lib.hid (fun W' hB => HD.out W' (R2.below hB))
      clear iS HD
      go_region_held3 (fun w' => w'.cell? ⟨hb, 1, none⟩ = some (.string ⟨b.toArray⟩) ∧ w'.cell? ⟨hb, 2, none⟩ = some (.string ⟨c.toArray⟩) ∧ w'.cell? ⟨hb, 3, none⟩ = some (.string ⟨d.toArray⟩)) (first | exact IS.out _ D2 | exact IS.out _ (AL _) | exact IS.out _ B3 | exact IS.out _ (below_step B3 (alloc_below _ _)) | exact IS.out _ (below_setRow' B3 (Nat.le_refl _) _))
        (first
          | (go_at_call 33; first | (with_reducible refine callP (HB.out _) ?_) | (with_reducible refine callP (HC.out _) ?_))
          | (go_at_call 34; refine callR (HN.out _ (by first | exact D2 | exact AL _)) ?_; intro w3 B30 _ _ hz3
             have B3 : Below w2.heap.size w2 w3 := below_step (by first | exact D2 | exact AL _) B30
             try have Y3 : Blk w3 w2.heap.size (plan0.arr none 0) := (Blk.new w2.drew (plan0.arr none 0) 52).step B30
             try have y1 := Y3.plain
             try have y2 : blkOf w3 w2.heap.size = plan0.arr none 0 := Y3.of))
      all_goals
        go_wp2
        go_meet
        first
          | exact ⟨_, rfl, hz3, Blk.new _ _ _, below_step B3 (alloc_below _ _)⟩
          | exact ⟨_, rfl, Nat.le_refl _, Y3.set _, below_setRow' B3 (Nat.le_refl _) _⟩
    case rest =>
      obtain ⟨pb, rfl, hpb, P3, B3⟩ := hcut
      have X3 := X2.step B3
      have BB := below_step B2 B3
      have hgp : g < pb := by have := X2.lt; omega
      have hpl := P3.lt
      have hwp : w.heap.size ≤ pb := by omega
      have HCl := Lib.hid (fun k x (hx : rest[k]? = some x) => show wc.cell? ⟨sb, k + 1, none⟩ = some (.string ⟨x.toArray⟩) by
        rw [B3.cell (p := ⟨sb, _, none⟩) hsb2]; exact S1 (k + 1) x (by simpa using hx))
      have hsbp : sb < pb := by omega
      have hsbl : sb < wc.heap.size := by omega
      clear S1 HB HC HD q1 q2 q3 X2 B2 L2 R2 B3 hsb2 hs2
      have BH := Lib.hid BB
      clear BB
      go_upto_region 6 with (fail)
      go_cut [4, 34, 35, 36] (fun _ t n i wx => ∃ b o cc, t = .slice (some ⟨b, o, none⟩) rest.length cc ∧ n = .int .i64 rest.length ∧ i = .int .i64 0 ∧ (rest.length ≠ 0 → b = sb ∧ o = 1) ∧ wx = wc)
      case first =>
        by_cases hn : rest.length = 0
        · rw [hn]
          go_wp2
          go_meet
          exact ⟨sb, 0, _, by rw [hn], by rw [hn]; rfl, rfl, fun h => absurd hn h, rfl⟩
        · have h1 : ¬ (rest.length + 1 = 1) := by omega
          have h2 : ¬ (rest.length = 0) := hn
          go_wp2
          go_meet
          exact ⟨sb, 1, _, rfl, rfl, rfl, fun _ => ⟨rfl, rfl⟩, rfl⟩
      case rest =>
        obtain ⟨b2, o2, c2, rfl, rfl, rfl, hbo, rfl⟩ := hcut
        have HBO := Lib.hid hbo
        clear hbo
        obtain ⟨wB, hwB⟩ : ∃ wB : World, wB = wc := ⟨_, rfl⟩
        have HX := Lib.hid X3
        have P4 : Blk wc pb ((⟨fr, tt, [], nn⟩ : Plan).arr none 0) := P3
        clear X3 P3
        rw [← hwB] at HX BH HCl hsbl hpl
        have HWB := Lib.hid hwB
        clear hwB
        go_wp2
        go_loopw [36] (fun i wr => ∃ (k : Nat) (es : List Entry) (A : Option Addr) (c : Nat), k ≤ rest.length ∧ i = .int .i64 k ∧ es = (rest.take k).map entryP ∧ es.length = k ∧ Blk wr pb ((⟨fr, tt, es, nn⟩ : Plan).arr A c) ∧ Out wB wr (.slice A es.length c) es ∧ Touch [pb] wB wr) (fun i _ => rest.length - (intOf i).toNat)
        case atStart => exact ⟨0, [], none, 0, by omega, rfl, by simp, rfl, P4, by rw [← HWB.out]; exact Out.nil _ _, by rw [← HWB.out]; exact Touch.refl _ _⟩
        case round =>
          clear P4
          obtain ⟨k, es, A, c, hk, rfl, hes, hel, P, O, T⟩ := hrel
          have HES := Lib.hid hes
          have HEL := Lib.hid hel
          clear hes hel
          have hBr := T.below BH.out (by simp; omega)
          have Lr := hL.below hBr
          have Rr := hR.below hBr
          by_cases hlt : k < rest.length
          · have hbo := HBO.out (by omega)
            obtain ⟨rfl, rfl⟩ := hbo
            have hx := HCl.out k _ (List.getElem?_eq_getElem hlt)
            rw [← T.cell (by simp; omega) hsbl, Nat.add_comm k 1] at hx
            have hxl := HR.out _ (List.getElem_mem hlt)
            have HT := Lib.hid (show (rest.take (k + 1)).map entryP = es ++ [entryP rest[k]] by rw [HES.out, List.take_succ_eq_append_getElem hlt, List.map_append]; rfl)
            generalize rest[k] = x at hx hxl HT
            have DR : Below wr.heap.size wr wr.drew := (Below.refl _ _).drew
            have HE := Lib.hid (entry_any x wr.drew (Lr.below DR) (Rr.below DR) (by omega))
            generalize entryP x = y at HE HT
            have f2 : wr.drew.cell? ⟨pb, 2, none⟩ = some (.slice A es.length c) := P.cell 2
            have OH := Lib.hid O
            have PH := Lib.hid P
            have TH := Lib.hid T
            have hplr : pb < wr.heap.size := P.lt
            have hbs := T.size
            have hen := HEL.out
            obtain ⟨i0, hi, hz0, hz1, hz2⟩ := info_parts info_ent_all
            have HI := Lib.hid hi; have HZ0 := Lib.hid hz0; have HZ1 := Lib.hid hz1; have HZ2 := Lib.hid hz2
            have HEN := Lib.hid hen
            have hen2 : es.length ≤ 1000000 := by omega
            clear O P T hBr Lr Rr hi hz0 hz1 hz2 hen
            go_upto_region 9 with (fail)
            go_region_law (first
              | (refine step_append_lies _ (by rfl) (.tmp 41) (.tmp 44) 43 (by rfl) wB.heap.size 41 i0 _ 20 176 Tryz.underlying43 HI.out HZ0.out HZ1.out HZ2.out rfl (by decide) (.slice A es.length c) es.length (cellsOf es) (by rfl) OA.out ⟨w4.heap.size, 0, none⟩ 1 1 (cellsOf [y]) (by rfl) (cellsOf_len [y]) NW.out (cellsOf_one [y]) (by decide) (by unfold maxLen; omega) (by omega) hba _ rfl ?_
                 intro gg cap w5 O5 G5 h5 hlt5
                 have P5 := PA.out.grown G5 (fun e => by have := OA.out.own_ge e; omega)
                 have f6 := P5.cell
                 have f7 := P5.frozen 2)
              | (go_simp
                 go_at_call 35
                 refine callR HE.out ?_
                 intro w4 B4 _ _ hz4
                 have B4' : Below wr.heap.size wr w4 := below_step DR B4
                 have f4 := (PH.out.step B4').cell
                 have hpl4 : pb < w4.heap.size := Nat.lt_of_lt_of_le hplr B4'.size
                 have OA := Lib.hid ((OH.out.below B4').alloc (.cells y.arr 41))
                 have PA := Lib.hid ((PH.out.step B4').alloc (.cells y.arr 41))
                 have NW := Lib.hid (fun j u (hu : (cellsOf [y])[j]? = some u) => show (w4.alloc (.cells y.arr 41)).cell? ((⟨w4.heap.size, 0, none⟩ : Addr).add j) = some u by rw [addr_add, Nat.zero_add, (Blk.one w4 y _).cell]; simpa using hu)
                 have hba : wB.heap.size ≤ (w4.alloc (.cells y.arr 41)).heap.size := Nat.le_trans hbs (Nat.le_trans B4'.size (alloc_below _ _).size)
                 have TA := Lib.hid ((TH.out.trans (Touch.of B4')).trans (Touch.of (alloc_below w4 (.cells y.arr 41))))))
            all_goals
              go_wp2
              go_roundw
              case rel =>
                refine ⟨k + 1, es ++ [y], some ⟨gg, 0, none⟩, cap, by omega, by go_num, HT.out.symm, by simp [HEN.out], ?_, ?_, ?_⟩
                · rw [← plan_snoc fr tt es nn A _ c cap y]
                  exact P5.setCell 2 _
                · have O6 : Out wB w5 (.slice (some ⟨gg, 0, none⟩) (es ++ [y]).length cap) (es ++ [y]) := by
                    unfold Out
                    rw [List.length_append, cellsOf_app]
                    exact O5
                  exact O6.keep fun k' hk' => Below.heap_setCell _ _ _ _ (by show k' ≠ pb; have := O6.own_ge hk'; omega)
                · exact (touch_grown TA.out OA.out (Nat.le_refl _) G5).trans (Touch.setCell [pb] _ (by simp) _ _)
              case measure => simp [intOf]; omega
          · obtain ⟨hc, hE, hA⟩ := O.of_slice
            have hes : es = rest.map entryP := by rw [HES.out, List.take_of_length_le (by omega)]
            have hen := HEL.out
            have hsm : (⟨fr, tt, es, nn⟩ : Plan).small := by
              refine ⟨by show fr.length ≤ _; omega, by show tt.length ≤ _; omega, by show es.length ≤ _; omega, fun x hx => ?_⟩
              have hx : x ∈ es := hx
              rw [hes] at hx
              obtain ⟨y, hy, rfl⟩ := List.mem_map.1 hx
              exact entryP_small (by have := HR.out y hy; omega)
            have hcall := Lib.hid (plant_any ⟨fr, tt, es, nn⟩ A c wr Lr hsm hc hE)
            rw [← hes] at HO
            clear hsm hes HES HEL O hen
            have X4 := T.blk (by simp; omega) HX.out
            have P4 := Lib.hid P
            have EH := Lib.hid hE
            have CH := Lib.hid hc
            have AH := Lib.hid (show ∀ a, A = some a → a.block ≠ g from fun a ha => by have := hA a ha; omega)
            have i1 : Has_plan wr pb 0 := ⟨_, P.is_plan rfl⟩
            have i2 : of_plan wr pb 0 = (⟨fr, tt, es, nn⟩ : Plan).arr A c := of_plan_eq (P.is_plan rfl)
            clear hE hc hA P T
            generalize planT ⟨fr, tt, es, nn⟩ = TX at hcall HO
            go_upto_region 12 with (go_at_call 16; refine callR hcall.out ?_; intro w5 B5 _ _ hz5)
            have X5 := X4.step B5
            have P5 := P4.out.step B5
            have BF := below_step hBr B5
            have E5 := EH.out.below (B := 0) B5
            clear i1 i2 hcall X4 hBr B5
            have d2 := X5.plain
            have d3 : blkOf w5 g = plan0.arr none 0 := X5.of
            have i1 : Has_plan w5 pb 0 := ⟨_, P5.is_plan rfl⟩
            have i2 : of_plan w5 pb 0 = (⟨fr, tt, es, nn⟩ : Plan).arr A c := of_plan_eq (P5.is_plan rfl)
            by_cases hbad : TX = [] ∨ TX ≠ s
            · have HO2 := Lib.hid (HO.out.trans (if_pos hbad))
              rcases TX with _ | ⟨x, r⟩
              · go_wp2
                exact bodyPost_ret (results_agg Tryz.results12 _ _ g (plan0.arr none 0) 4 _ rfl rfl (X5.set _).cell Tryz.underlying52 rfl info_plan) rfl ⟨none, 0, by rw [HO2.out]; rfl, by rw [HO2.out]; exact Nat.le_refl _, by rw [HO2.out]; exact Ents.nil _ _, below_setRow' BF hg _⟩
              · have h0 : ¬ ((x :: r) = ([] : List UInt8)) := by simp
                have h1 : ((x :: r) == s) = false := by
                  rcases hbad with h | h
                  · exact absurd h h0
                  · simpa using h
                clear hbad HO
                go_wp2
                exact bodyPost_ret (results_agg Tryz.results12 _ _ g (plan0.arr none 0) 4 _ rfl rfl (X5.set _).cell Tryz.underlying52 rfl info_plan) rfl ⟨none, 0, by rw [HO2.out]; rfl, by rw [HO2.out]; exact Nat.le_refl _, by rw [HO2.out]; exact Ents.nil _ _, below_setRow' BF hg _⟩
            · have HO2 := Lib.hid (HO.out.trans (if_neg hbad))
              rcases TX with _ | ⟨x, r⟩
              · exact absurd (.inl rfl) hbad
              · have h0 : ¬ ((x :: r) = ([] : List UInt8)) := by simp
                have h1 : ((x :: r) == s) = true := by
                  simp only [not_or, ne_eq, Decidable.not_not] at hbad
                  simpa using hbad.2
                clear hbad HO
                go_wp2
                refine bodyPost_ret (results_agg Tryz.results12 _ _ g ((⟨fr, tt, es, nn⟩ : Plan).arr A c) 4 _ rfl rfl (X5.set _).cell Tryz.underlying52 rfl info_plan) rfl ⟨A, c, by rw [HO2.out]; rfl, by rw [HO2.out]; exact CH.out, by rw [HO2.out]; exact E5.far AH.out _, below_setRow' BF hg _⟩
  · have HO := Lib.hid (parseP_none HLS.out h4)
    have h40 : (((splitC 32 h0).length : Int) == 4) = false := by
      rw [beq_eq_false_iff_ne]; omega
    clear S1 S2 h4
    generalize (splitC 32 h0).length = n at *
    have d2 := X2.plain
    have d3 : blkOf w2 g = plan0.arr none 0 := X2.of
    go_wp2
    exact bodyPost_ret (results_agg Tryz.results12 _ _ g (plan0.arr none 0) 4 _ rfl rfl (X2.set _).cell Tryz.underlying52 rfl info_plan) rfl ⟨none, 0, by rw [HO.out]; rfl, by rw [HO.out]; exact Nat.le_refl _, by rw [HO.out]; exact Ents.nil _ _, below_setRow' B2 hg _⟩
end Go.Proofs.YtjgondadpjildaaGreatDoor
