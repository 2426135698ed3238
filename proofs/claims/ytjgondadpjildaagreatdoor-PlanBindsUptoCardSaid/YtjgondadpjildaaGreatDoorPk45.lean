/- The examples of the chapter, of which every statement of this layer begins: awake returns true. -/
import Derived.Test.YtjgondadpjildaaGreatDoorPk44
namespace Go.Proofs.YtjgondadpjildaaGreatDoor
open Go.RowKit Go.Sort
set_option linter.unusedVariables false
set_option linter.unusedSimpArgs false
attribute [local go_sem ↓] bs3_fold bs6_fold
attribute [local go_sem] run_bs3 run_bs6 run_bs2'
theorem run_storeN_plan' (w : World) (c c' : Array Value) (n : Nat) (hn : n = w.heap.size) (hc : SzIs c 4) (hc' : SzIs c' 4) (h1 : Ones c') :
    (store_plan (.pointer (some ⟨n, 0, none⟩)) (.agg c')).run Tryz.prog (w.alloc (.cells c 52)) = .ok () (w.alloc (.cells c' 52)) := by
  subst hn; exact run_storeN_plan w c c' hc hc' h1
theorem setCell_plain (W : World) (g i : Nat) (v : Value) (h : Plain W g) : W.setCell ⟨g, i, none⟩ v = W.setRow g ((blkOf W g).setIfInBounds i v) := by
  obtain ⟨c, t, h⟩ := h
  rw [Blk.of ⟨t, h⟩]
  exact setCell_eq_setRow W g i c t _ v h
theorem Plain_drew (W : World) (g : Nat) : Plain W.drew g = Plain W g := propext ⟨fun h => h, fun h => h⟩
theorem blkOf_drew (W : World) (g : Nat) : blkOf W.drew g = blkOf W g := by unfold blkOf; rfl
theorem setRow_drew (W : World) (g : Nat) (cs : Array Value) : W.drew.setRow g cs = (W.setRow g cs).drew := by unfold World.setRow; rfl
theorem Fits_cells (l : List Entry) (o n : Nat) : Fits o n (cellsOf l).toArray = (o + n ≤ l.length * 20) := by simp [Fits, cellsOf_len]
attribute [local go_sem] run_storeN_plan' setCell_plain Plain_drew blkOf_drew setRow_drew
attribute [local go_sem] cellsOf_len
def caE : Entry := ⟨false, ⟨7, [], [], 0, false, 0, 0, 0, 0, 100000, 6000000, 0, 0⟩, 0, 0, 0, 0, 2, []⟩
abbrev B00 : List UInt8 := [66, 47, 48, 48]
abbrev C00 : List UInt8 := [67, 47, 48, 48]
abbrev SEA : List UInt8 := [83, 69, 65, 47, 75, 49]
abbrev BTG : List UInt8 := [66, 84, 71, 47, 75, 49]
def awakeL : List Entry := [toE 2 B00, gapE, gapE, caE, toE 2 C00, toE 2 C00]
def awakeM : List Entry := [toE 1 B00, gapE, toE 1 C00]
theorem awake_join : joinE awakeL = awakeM := (eqGo_iff _ _).1 (by decide +kernel)
def awE2 : Entry := ⟨false, ⟨2, BTG, [], 0, false, 0, 0, 0, 0, -200000, 6000000, 0, 0⟩, -60000, 12, 0, 0, 2, [86, 50, 51]⟩
def awE1 : Entry := ⟨false, ⟨2, BTG, [], 0, false, 0, 0, 0, 0, -200000, 6000000, 0, 0⟩, 0, 0, 0, 0, 2, [86, 50, 51]⟩
theorem aw_set : (cellsOf [toE 1 SEA, toE 2 BTG]).set 39 (.string ⟨#[86, 50, 51]⟩) = cellsOf [toE 1 SEA, awE1] := by kernel_rfl
theorem aw_splice : splice (cellsOf [toE 1 SEA, awE1]).toArray 34 #[.int .i64 (-60000), .int .i64 12] = (cellsOf [toE 1 SEA, awE2]).toArray := by kernel_rfl
def awP : Plan := ⟨[75, 83, 69, 65], [], [toE 1 SEA, awE2], 1⟩
def awQ : Plan := ⟨[75, 83, 69, 65], [], [toE 1 SEA, awE2], 2⟩
def tx0 : LegTx := ⟨[], [], [], [], [], [], []⟩
theorem awake_text : planText (fun _ => tx0) awP = [80, 76, 65, 78, 32, 75, 83, 69, 65, 32, 45, 32, 49, 10, 69, 32, 45, 32, 48, 44, 48, 32, 45, 32, 73, 70, 32, 83, 69, 65, 47, 75, 49, 10, 69, 32, 86, 50, 51, 32, 45, 54, 48, 48, 48, 48, 44, 49, 50, 32, 45, 32, 84, 70, 32, 66, 84, 71, 47, 75, 49] := by decide +kernel
theorem awake_p : planCheck awP = 0 := by decide +kernel
theorem awake_q : planCheck awQ = 2 := by decide +kernel
theorem awake_fixes : fixesGo awP.es = [SEA, BTG] := by decide +kernel
theorem awake_find1 : findE awP 1 SEA = -1 := by decide +kernel
theorem awake_find2 : findE awP (-5) BTG = 1 := by decide +kernel
theorem awake_tx : ∀ x ∈ awP.es, x.gap = false → LegTexts x.leg tx0 := by
  intro x hx hg
  have h : x = toE 1 SEA ∨ x = awE2 := by simpa [awP] using hx
  rcases h with rfl | rfl
  all_goals
    refine ⟨fun h => absurd h (by decide), fun h => absurd h (by decide), fun h => absurd h (by decide), fun h => absurd h (by decide), fun h => absurd h (by decide), fun h => absurd h (by decide), fun h => absurd h (by decide), by simp [tx0]⟩
theorem awP_small : awP.small := ⟨by decide, by decide, by decide, by
  intro x hx
  have h : x = toE 1 SEA ∨ x = awE2 := by simpa [awP] using hx
  rcases h with rfl | rfl
  · exact ⟨⟨by decide, by decide⟩, by decide⟩
  · exact ⟨⟨by decide, by decide⟩, by decide⟩⟩
theorem awQ_small : awQ.small := ⟨by decide, by decide, by decide, awP_small.each⟩
theorem callOut {P : Program} {f : FuncId} {args : Array Value} {W : World} {es : List Entry} {K : Ending → World → Prop} (h : Calls P f args W (RetOut W es)) (k : ∀ v w', Out W w' v es → Below W.heap.size W w' → K (.returned v) w') : Calls P f args W K :=
  h.mono fun e w' ⟨v, he, ho, hb⟩ => by subst he; exact k v w' ho hb
theorem callStrs {P : Program} {f : FuncId} {args : Array Value} {W : World} {ss : List (List UInt8)} {K : Ending → World → Prop} (h : Calls P f args W (RetStrs W ss)) (k : ∀ v w', SOut W w' v ss → Below W.heap.size W w' → K (.returned v) w') : Calls P f args W K :=
  h.mono fun e w' ⟨v, he, ho, hb⟩ => by subst he; exact k v w' ho hb
theorem allocB (w : World) (o : Obj) : Below w.heap.size w (w.alloc o) := (Below.refl _ _).alloc (Nat.le_refl _) _
theorem aw_check_p (W : World) (g : Nat) (hL : Laid W) (hE : Ents W (some ⟨g, 0, none⟩) [toE 1 SEA, awE2]) : Calls Tryz.prog 15 #[.agg (awP.arr (some ⟨g, 0, none⟩) 2)] W (Ret W (.int .i64 0)) := by
  have h := planCheck_any awP (some ⟨g, 0, none⟩) 2 W hL awP_small (by decide) hE
  rwa [awake_p] at h
theorem aw_check_q (W : World) (g : Nat) (hL : Laid W) (hE : Ents W (some ⟨g, 0, none⟩) [toE 1 SEA, awE2]) : Calls Tryz.prog 15 #[.agg (awQ.arr (some ⟨g, 0, none⟩) 2)] W (Ret W (.int .i64 2)) := by
  have h := planCheck_any awQ (some ⟨g, 0, none⟩) 2 W hL awQ_small (by decide) hE
  rwa [awake_q] at h
theorem aw_find1 (W : World) (g : Nat) (hE : Ents W (some ⟨g, 0, none⟩) [toE 1 SEA, awE2]) : Calls Tryz.prog 22 #[.agg (awP.arr (some ⟨g, 0, none⟩) 2), .int .i64 1, .string ⟨SEA.toArray⟩] W (Ret W (.int .i64 (-1))) := by
  have h := find_any awP (some ⟨g, 0, none⟩) 2 1 SEA W awP_small (by decide) hE
  rwa [awake_find1] at h
theorem aw_find2 (W : World) (g : Nat) (hE : Ents W (some ⟨g, 0, none⟩) [toE 1 SEA, awE2]) : Calls Tryz.prog 22 #[.agg (awP.arr (some ⟨g, 0, none⟩) 2), .int .i64 (-5), .string ⟨BTG.toArray⟩] W (Ret W (.int .i64 1)) := by
  have h := find_any awP (some ⟨g, 0, none⟩) 2 (-5) BTG W awP_small (by decide) hE
  rwa [awake_find2] at h
theorem aw_fixes (W : World) (g : Nat) (hE : Ents W (some ⟨g, 0, none⟩) [toE 1 SEA, awE2]) : Calls Tryz.prog 21 #[.agg (awP.arr (some ⟨g, 0, none⟩) 2)] W (RetStrs W [SEA, BTG]) := by
  have h := fixes_any awP (some ⟨g, 0, none⟩) 2 W (by decide) (by decide) hE
  rwa [awake_fixes] at h
/-- The class of worlds of a region that draws: a call of 'to'. -/
theorem to_in {W : World} (t : Int) (fix : List UInt8) (d : Nat) (os : Array Obj) : Calls Tryz.prog 19 #[.int .u8 t, .string ⟨fix.toArray⟩] (grow (redrawn W d) os) fun e w'' => e = .returned (.agg (toE t fix).arr) ∧ ∃ q : Regrown, w'' = grow (redrawn W q.d) q.os := Calls.regrown_ret (to_any t fix _)
set_option maxHeartbeats 4000000 in
set_option maxRecDepth 100000 in
theorem awake_any (w : World) (hL : Laid w) : Calls Tryz.prog 7 #[] w (Ret w (.bool true)) := by
  have hlit : (#[.bool true, .int .u8 0, .string ⟨#[]⟩, .string ⟨#[]⟩, .int .u8 0, .bool false, .int .i64 0, .int .i64 0, .int .i64 0, .int .i64 0, .int .i64 0, .int .i64 0, .int .i64 0, .int .i64 0, .int .i64 0, .int .i64 0, .int .i64 0, .int .i64 0, .int .u8 0, .string ⟨#[]⟩] : Array Value) = gapE.arr := rfl
  go_enter Tryz.func7, Tryz.ntmps7
  go_upto_region 2 with (fail)
  have G0 := Blk.new w gapE.arr 41
  have B0 := (Below.refl w.heap.size w).alloc (Nat.le_refl _) (.cells gapE.arr 41)
  generalize w.alloc _ = W at G0 B0 ⊢
  generalize w.heap.size = g1 at G0 ⊢
  have hca : (toE 7 []).arr.setIfInBounds 10 (.int .i64 100000) = caE.arr := rfl
  go_upto_region 3 with (go_at_call 19; refine callR (to_any 7 [] W) ?_; intro w1 hb1 hc1 hf1 hz1)
  go_upto_region 4 with (fail)
  have C1 := Blk.new w1 caE.arr 41
  have G1 := (G0.step hb1).alloc (.cells caE.arr 41)
  have B1 := below_step (below_step B0 hb1) (allocB w1 (.cells caE.arr 41))
  generalize w1.alloc _ = W1 at C1 G1 B1 ⊢
  generalize w1.heap.size = g2 at C1 ⊢
  clear hb1 hc1 hf1 hz1 G0 B0 hca
  go_cut [3] (fun v wx => ∃ W2, Below W1.heap.size W1 W2 ∧ Out W2 wx v awakeM ∧ Below W2.heap.size W2 wx)
  case first =>
    have j1 : ∀ d os, Has_ent (grow (redrawn W1 d) os) g1 0 := fun d os => ⟨_, G1.is_ent.below (below_regrown W1 d os) G1.lt⟩
    have j2 : ∀ d os, of_ent (grow (redrawn W1 d) os) g1 0 = gapE := fun d os => of_ent_eq (G1.is_ent.below (below_regrown W1 d os) G1.lt)
    have j3 : ∀ d os, Has_ent (grow (redrawn W1 d) os) g2 0 := fun d os => ⟨_, C1.is_ent.below (below_regrown W1 d os) C1.lt⟩
    have j4 : ∀ d os, of_ent (grow (redrawn W1 d) os) g2 0 = caE := fun d os => of_ent_eq (C1.is_ent.below (below_regrown W1 d os) C1.lt)
    refine wp_region_tail_below 6 (by kernel_rfl) (by kernel_rfl) ?_
    simp only [List.take_succ_cons, List.take_zero, List.drop_succ_cons, List.drop_zero]
    repeat (quiet_step (with_reducible first | exact to_in 2 B00 _ _ | exact to_in 2 C00 _ _))
    refine wpQuiet_nil ?_
    intro _ hw'
    obtain ⟨⟨dq, osq⟩, hw''⟩ := hw'
    subst hw''
    have B2 := below_regrown W1 dq osq
    clear j1 j2 j3 j4
    generalize grow (redrawn W1 dq) osq = w3 at B2 ⊢
    have A3 := Blk.new w3 (cellsOf awakeL).toArray 41
    have B3 := below_step B2 (allocB w3 (.cells (cellsOf awakeL).toArray 41))
    have hcall : Calls Tryz.prog 20 #[.slice (some ⟨w3.heap.size, 0, none⟩) 6 6] (w3.alloc (.cells (cellsOf awakeL).toArray 41)) (RetOut (w3.alloc (.cells (cellsOf awakeL).toArray 41)) awakeM) := by
      rw [← awake_join]; exact join_any awakeL _ 6 _ (by decide) (by decide) A3.ents
    have HC := Lib.hid hcall; clear hcall
    go_wp2_with (go_at_call 20; refine callOut HC.out ?_; intro v4 w4 O4 B4)
    go_meet
    exact ⟨_, B3, O4, B4⟩
  case rest =>
    obtain ⟨W2, B2, O2, B3⟩ := hcut
    obtain ⟨A1, c1, hv, hc1, hE1, _⟩ := O2.form
    subst hv
    have G2 := (G1.step B2).step B3
    have B4 := below_step B1 (below_step B2 B3)
    clear C1 G1 B1 B2 B3 O2
    go_upto_region 5 with (fail)
    go_cut [26] (fun sv wx => sv = .bool false ∧ Below wc.heap.size wc wx)
    case first =>
      have j1 : ∀ d os, Has_ent (grow (redrawn wc d) os) g1 0 := fun d os => ⟨_, G2.is_ent.below (below_regrown wc d os) G2.lt⟩
      have j2 : ∀ d os, of_ent (grow (redrawn wc d) os) g1 0 = gapE := fun d os => of_ent_eq (G2.is_ent.below (below_regrown wc d os) G2.lt)
      refine wp_region_take_tail_below _ 4 (by kernel_rfl) (by kernel_rfl) (fun _ _ _ h => h) (.inl ⟨rfl, fun _ => rfl⟩) ?_
      simp only [Nat.reduceSub, List.take_succ_cons, List.take_zero, List.drop_succ_cons, List.drop_zero, Act.put, List.setIfInBounds_toArray, List.set_cons_zero, List.set_cons_succ]
      repeat (quiet_step (with_reducible first | exact to_in 1 B00 _ _ | exact to_in 1 C00 _ _))
      refine wpQuiet_nil ?_
      intro _ hw'
      obtain ⟨⟨dq, osq⟩, hw''⟩ := hw'
      subst hw''
      have B5 := below_regrown wc dq osq
      clear j1 j2
      generalize grow (redrawn wc dq) osq = w3 at B5 ⊢
      have A3 := Blk.new w3 (cellsOf awakeM).toArray 41
      have B6 := below_step B5 (allocB w3 (.cells (cellsOf awakeM).toArray 41))
      have hcall : Calls Tryz.prog 10 #[.slice A1 awakeM.length c1, .slice (some ⟨w3.heap.size, 0, none⟩) 3 3] (w3.alloc (.cells (cellsOf awakeM).toArray 41)) (RetQ (w3.alloc (.cells (cellsOf awakeM).toArray 41)) (.bool true)) := by
        rw [show true = eqGo awakeM awakeM from ((eqGo_iff _ _).2 rfl).symm]
        exact equal_any awakeM awakeM A1 _ c1 3 _ (by decide) (by decide) hc1 (by decide) (hE1.below (B := 0) B6) A3.ents
      have HC := Lib.hid hcall; clear hcall
      go_wp2_with (go_at_call 10; refine callQ HC.out ?_; intro n5)
      go_meet
      exact ⟨rfl, below_drewN B6 _⟩
    case rest =>
      obtain ⟨rfl, B5⟩ := hcut
      have B6 := below_step B4 B5
      clear B4 B5 G2 hE1 hc1
      rename_i wcc
      have L6 := hL.below B6
      go_upto_region 7 with (fail)
      go_upto_region 8 with (go_at_call 19; first | (refine callR (to_any 1 SEA _) ?_; intro w7 hb7 hc7 hf7 hz7) | (refine callR (to_any 2 BTG _) ?_; intro w8 hb8 hc8 hf8 hz8))
      have EB := (Blk.new w8 (cellsOf [toE 1 SEA, toE 2 BTG]).toArray 41).alloc (.cells #[.string ⟨#[75, 83, 69, 65]⟩, .string ⟨#[]⟩, .slice (some ⟨w8.heap.size, 0, none⟩) 2 2, .int .i64 1] 52)
      have PB := Blk.new (w8.alloc (.cells (cellsOf [toE 1 SEA, toE 2 BTG]).toArray 41)) #[.string ⟨#[75, 83, 69, 65]⟩, .string ⟨#[]⟩, .slice (some ⟨w8.heap.size, 0, none⟩) 2 2, .int .i64 1] 52
      rw [World.size_alloc] at PB
      have B9 := below_step (below_step hb7 hb8) (below_step (allocB w8 (.cells (cellsOf [toE 1 SEA, toE 2 BTG]).toArray 41)) (allocB _ (.cells #[.string ⟨#[75, 83, 69, 65]⟩, .string ⟨#[]⟩, .slice (some ⟨w8.heap.size, 0, none⟩) 2 2, .int .i64 1] 52)))
      generalize (w8.alloc _).alloc _ = W9 at EB PB B9 ⊢
      have hge : wc.heap.size ≤ w8.heap.size := Nat.le_trans hz7 hz8
      obtain ⟨ge, hge2⟩ : ∃ ge, w8.heap.size = ge := ⟨_, rfl⟩
      obtain ⟨gp, hgp⟩ : ∃ gp, gp = ge + 1 := ⟨_, rfl⟩
      rw [hge2] at EB PB hge ⊢
      rw [← hgp] at PB ⊢
      have hne : ge ≠ gp := by omega
      have hne' : gp ≠ ge := by omega
      have hgp2 : wc.heap.size ≤ gp := by omega
      clear hb7 hb8 hc7 hc8 hf7 hf8 hz7 hz8 hge2 hgp
      have c1 := PB.cell
      have c2 := PB.lt
      have d1 : W9.cell? ⟨ge, 39, none⟩ = some (.string ⟨#[]⟩) := EB.cell 39
      have d2 := EB.plain
      have d3 := EB.of
      have d4 := EB.frozen
      have d5 := EB.lt
      have f1 := aw_set
      have f2 := aw_splice
      go_region
      have EB2 : Blk (W9.setRow ge (cellsOf [toE 1 SEA, awE2]).toArray).drew ge (cellsOf [toE 1 SEA, awE2]).toArray := EB.set _
      have PB2 : Blk (W9.setRow ge (cellsOf [toE 1 SEA, awE2]).toArray).drew gp (awP.arr (some ⟨ge, 0, none⟩) 2) := PB.far hne' _
      have B10 : Below wc.heap.size wc (W9.setRow ge (cellsOf [toE 1 SEA, awE2]).toArray).drew := (below_setRow' B9 hge _).drew
      generalize (W9.setRow ge (cellsOf [toE 1 SEA, awE2]).toArray).drew = W10 at EB2 PB2 B10 ⊢
      clear c1 c2 d1 d2 d3 d4 d5 f1 f2 EB PB B9
      have B11 := below_step B6 B10
      have L10 := L6.below B10
      have i1 : Has_plan W10 gp 0 := ⟨_, PB2.is_plan rfl⟩
      have i2 : of_plan W10 gp 0 = awP.arr (some ⟨ge, 0, none⟩) 2 := of_plan_eq (PB2.is_plan rfl)
      have hcall := ptext_any (fun _ => tx0) awP (some ⟨ge, 0, none⟩) 2 W10 L10 awP_small (by decide) EB2.ents (fun x hx hg => awake_tx x hx hg)
      rw [awake_text] at hcall
      have HC := Lib.hid hcall; clear hcall
      go_upto_region 11 with (go_at_call 16; refine callR HC.out ?_; intro w11 hb11 hc11 hf11 hz11)
      clear i1 i2 HC hc11 hf11 hz11
      have EB3 := EB2.step hb11
      have PB3 := PB2.step hb11
      have L11 := L10.below hb11
      have B12 := below_step B11 hb11
      clear EB2 PB2 B10 B11 hb11 L10
      have i1 : Has_plan w11 gp 0 := ⟨_, PB3.is_plan rfl⟩
      have i2 : of_plan w11 gp 0 = awP.arr (some ⟨ge, 0, none⟩) 2 := of_plan_eq (PB3.is_plan rfl)
      have hq : (awP.arr (some ⟨ge, 0, none⟩) 2).setIfInBounds 3 (.int .i64 2) = awQ.arr (some ⟨ge, 0, none⟩) 2 := rfl
      go_upto_region 13 with (fail)
      have QB4 := Blk.new w11 (awQ.arr (some ⟨ge, 0, none⟩) 2) 52
      have EB4 := EB3.alloc (.cells (awQ.arr (some ⟨ge, 0, none⟩) 2) 52)
      have PB4 := PB3.alloc (.cells (awQ.arr (some ⟨ge, 0, none⟩) 2) 52)
      have L12 := L11.alloc (.cells (awQ.arr (some ⟨ge, 0, none⟩) 2) 52)
      have B13 := below_step B12 (allocB w11 (.cells (awQ.arr (some ⟨ge, 0, none⟩) 2) 52))
      generalize w11.alloc _ = W12 at QB4 EB4 PB4 L12 B13 ⊢
      generalize w11.heap.size = gq at QB4 ⊢
      clear i1 i2 hq EB3 PB3 L11 B12
      have i1 : Has_plan W12 gp 0 := ⟨_, PB4.is_plan rfl⟩
      have i2 : of_plan W12 gp 0 = awP.arr (some ⟨ge, 0, none⟩) 2 := of_plan_eq (PB4.is_plan rfl)
      go_upto_region 14 with (go_at_call 21; refine callStrs (aw_fixes W12 ge EB4.ents) ?_; intro v13 w13 O13 hb13)
      clear i1 i2
      obtain ⟨A13, c13, hv13, hc13, hS13⟩ := O13.form
      obtain ⟨b13, o13, hA13, hlt13, hcell13⟩ := hS13.at_ (by simp)
      have hm : w13.cell? ⟨b13, o13 + 1, none⟩ = some (.string ⟨BTG.toArray⟩) := hcell13 1 BTG rfl
      have hv : v13 = .slice (some ⟨b13, o13, none⟩) 2 c13 := by rw [hv13, hA13]; rfl
      clear hv13 hA13 hcell13 hS13 O13
      subst hv
      have E5 := (EB4.step hb13)
      have P5 := (PB4.step hb13)
      have Q5 := (QB4.step hb13)
      have L5 := L12.below hb13
      have B5 := below_step B13 hb13
      clear EB4 PB4 QB4 L12 B13 hb13
      have i1 : Has_plan w13 gp 0 := ⟨_, P5.is_plan rfl⟩
      have i2 : of_plan w13 gp 0 = awP.arr (some ⟨ge, 0, none⟩) 2 := of_plan_eq (P5.is_plan rfl)
      go_wp2_with (first
        | (go_at_call 15; with_reducible refine callR (aw_check_p w13 ge L5 E5.ents) ?_; intro w14 hb14 hc14 hf14 hz14
           have k1 : Has_plan w14 gq 0 := ⟨_, (Q5.step hb14).is_plan rfl⟩
           have k2 : of_plan w14 gq 0 = awQ.arr (some ⟨ge, 0, none⟩) 2 := of_plan_eq ((Q5.step hb14).is_plan rfl))
        | (go_at_call 15; with_reducible refine callR (aw_check_q w14 ge (L5.below hb14) (E5.step hb14).ents) ?_; intro w15 hb15 hc15 hf15 hz15
           have B15 := below_step hb14 hb15
           have k3 : Has_plan w15 gp 0 := ⟨_, (P5.step B15).is_plan rfl⟩
           have k4 : of_plan w15 gp 0 = awP.arr (some ⟨ge, 0, none⟩) 2 := of_plan_eq ((P5.step B15).is_plan rfl)
           have hm5 : w15.cell? ⟨b13, o13 + 1, none⟩ = some (.string ⟨BTG.toArray⟩) := by rw [B15.cell (p := ⟨b13, _, none⟩) hlt13]; exact hm)
        | (go_at_call 22; with_reducible refine callR (aw_find1 w15 ge (E5.step B15).ents) ?_; intro w16 hb16 hc16 hf16 hz16
           have B16 := below_step B15 hb16
           have k5 : Has_plan w16 gp 0 := ⟨_, (P5.step B16).is_plan rfl⟩
           have k6 : of_plan w16 gp 0 = awP.arr (some ⟨ge, 0, none⟩) 2 := of_plan_eq ((P5.step B16).is_plan rfl))
        | (go_at_call 22; with_reducible refine callR (aw_find2 w16 ge (E5.step B16).ents) ?_; intro w17 hb17 hc17 hf17 hz17))
      go_ret
      exact Ret.bool rfl (below_step B5 (below_step B16 hb17))
end Go.Proofs.YtjgondadpjildaaGreatDoor
