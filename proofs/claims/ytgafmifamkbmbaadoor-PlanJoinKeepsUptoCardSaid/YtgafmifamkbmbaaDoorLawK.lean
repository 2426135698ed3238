/- The statement's function PlanJoinKeeps returns true. -/
import Derived.Test.YtgafmifamkbmbaaDoorAwake
namespace Go.Proofs.YtgafmifamkbmbaaDoor
open Go.RowKit Go.Sort
set_option linter.unusedVariables false
set_option linter.unusedSimpArgs false
theorem keeps_gap {l m : List Entry} {y : Entry} (h : y.gap = true) : keepsGo l (y :: m) = keepsGo l m := by
  cases l <;> simp [keepsGo, h]
theorem keeps_nil {m : List Entry} {y : Entry} (h : y.gap = false) : keepsGo [] (y :: m) = false := by simp [keepsGo, h]
theorem keeps_take {l m : List Entry} {x y : Entry} (h : y.gap = false) (hc : comesB x y = true) : keepsGo (x :: l) (y :: m) = keepsGo l m := by
  rw [keepsGo, hc, h]; rfl
theorem keeps_skip {l m : List Entry} {x y : Entry} (h : y.gap = false) (hc : comesB x y = false) : keepsGo (x :: l) (y :: m) = keepsGo l (y :: m) := by
  rw [keepsGo, hc, h]; rfl
theorem chains_first {x : Entry} {r : List Entry} (hg : x.gap = false) (hs : startsB x.leg.ty = true) : chainsGo none (x :: r) = chainsGo (some x) r := by simp [chainsGo, hg, hs]
def breakB (y x : Leg) : Bool := !y.joinsB x || ((y.fix == x.fix) && endsB y.ty && (x.ty == 2 || x.ty == 4))
theorem chains_next {y x : Entry} {r : List Entry} (hg : x.gap = false) (hb : breakB y.leg x.leg = false) : chainsGo (some y) (x :: r) = chainsGo (some x) r := by
  unfold breakB at hb
  have e : decide (y.leg.fix = x.leg.fix) = (y.leg.fix == x.leg.fix) := by rw [Bool.eq_iff_iff]; simp
  rw [Bool.or_eq_false_iff] at hb
  simp only [chainsGo, hg, e, tdB, hb.2]
  cases hj : y.leg.joinsB x.leg
  · rw [hj] at hb; simp at hb
  · rfl
def K1Rel (l m : List Entry) (W : World) (i j : Value) (wr : World) : Prop :=
  ∃ (a b : Nat), a ≤ l.length ∧ b ≤ m.length ∧ i = .int .i64 a ∧ j = .int .i64 b ∧ keepsGo (l.drop a) (m.drop b) = true ∧ Below W.heap.size W wr
def K2Rel (l m : List Entry) (y : Entry) (W : World) (i : Value) (wr : World) : Prop :=
  ∃ (a : Nat), a ≤ l.length ∧ i = .int .i64 a ∧ keepsGo (l.drop a) (y :: m) = true ∧ ∃ n, wr = W.drewN n
def K3Rel (l : List Entry) (W : World) (i : Value) (wr : World) : Prop :=
  ∃ (k : Nat), k ≤ l.length ∧ i = .int .i64 k ∧ chainsGo none l = chainsGo (prevOf l k) (l.drop k) ∧ Below W.heap.size W wr
theorem comes_eq (x y : Entry) (a0 a1 a2 a3 a4 : Bool) (h0 : x.gap = a0) (h1 : x.eqB y = a1) (h2 : (y.leg.ty == 1) = a2) (h3 : (x.leg.fix == y.leg.fix) = a3) (h4 : Pt.eqB ⟨x.ex, x.ey⟩ ⟨y.ex, y.ey⟩ = a4) : comesB x y = (!a0 && (a1 || (a2 && a3 && a4))) := by
  have h3' : decide (x.leg.fix = y.leg.fix) = a3 := by rw [← h3, Bool.eq_iff_iff]; simp
  unfold comesB Pt.eqB at *
  rw [h0, h1, h2, h3', h4]
set_option maxHeartbeats 4000000 in
set_option maxRecDepth 100000 in
theorem lawJoinKeeps_any (l : List Entry) (A : Option Addr) (c : Nat) (w : World) (hL : Laid w) (hl : l.length ≤ 4000000000) (hc : l.length ≤ c) (hE : Ents w A l) :
    Calls Tryd.prog 7 #[.slice A l.length c] w (Ret w (.bool true)) := by
  go_enter Tryd.func7, Tryd.ntmps7
  by_cases h : (120 : Int) < ((l.length : Nat) : Int)
  · go_wp2_with (go_at_call 9; refine callR (awake_any w hL) ?_; intro w1 hb1 hc1 hf1 hz1)
    go_ret
    exact Ret.bool rfl hb1
  · have hl2 : l.length ≤ 400000 := by omega
    have hjl := joinE_len l
    go_upto_region 5 with (go_at_call 9; refine callR (awake_any w hL) ?_; intro w1 hb1 hc1 hf1 hz1)
    have E1 := hE.below (B := 0) hb1
    clear hc1 hf1 hz1
    go_upto_region 6 with (go_at_call 13; refine callOut (join_any l A c w1 hl2 hc E1) ?_; intro v2 w2 O2 B2)
    obtain ⟨A2, c2, hv2, hc2, hE2, _⟩ := O2.form
    subst hv2
    have E2 := E1.below (B := 0) B2
    have HK := Lib.hid (joinE_keeps l)
    have HC := Lib.hid (fun h => joinE_chains (l := l) h)
    have BB := below_step hb1 B2
    clear E1 O2 B2 hb1 h
    generalize joinE l = m at hjl hc2 hE2 HK HC ⊢
    go_wp2
    go_loopw [4, 18] (fun i j wr => K1Rel l m w2 i j wr) (fun _ j _ => m.length - (intOf j).toNat)
    case atStart => exact ⟨0, 0, by omega, by omega, rfl, rfl, HK.out, Below.refl _ _⟩
    case round =>
      obtain ⟨a, j, ha, hj, rfl, rfl, hq, hB⟩ := hrel
      have HQ := Lib.hid hq; clear hq
      by_cases hlt : j < m.length
      · obtain ⟨b, off, hA, hb, he⟩ := hE2.get hlt
        subst hA
        have hd := Lib.hid (List.drop_eq_getElem_cons hlt)
        generalize m[j] = y at he hd
        have e1 : Is_ent wr b (off + j * 20) y := fun j' hj' => by rw [hB.cell (p := ⟨b, _, none⟩) hb]; exact he j' hj'
        have i1 : Has_ent wr b (off + j * 20) := ⟨y, e1⟩
        have i2 : of_ent wr b (off + j * 20) = y := of_ent_eq e1
        clear he e1
        go_upto_region 10 with (fail)
        have Y0 := Blk.new wr y.arr 41
        have B0 := below_step hB (allocB wr (.cells y.arr 41))
        generalize wr.alloc _ = W0 at Y0 B0 ⊢
        generalize wr.heap.size = g at Y0 ⊢
        clear i1 i2 hB
        have c1 := Y0.cell
        have c2' := Y0.lt
        have E0 := E2.below (B := 0) B0
        cases hg : y.gap
        · have HR := Lib.hid (show keepsGo (l.drop a) (y :: m.drop (j + 1)) = true by rw [← hd.out]; exact HQ.out)
          go_wp2
          go_loopw [4] (fun i wr => K2Rel l (m.drop (j + 1)) y W0 i wr) (fun i _ => l.length - (intOf i).toNat)
          case atStart => exact ⟨a, ha, rfl, HR.out, 0, rfl⟩
          case round =>
            clear HQ HR hd
            obtain ⟨a2, ha2, rfl, hq2, n, rfl⟩ := hrel
            have HQ := Lib.hid hq2; clear hq2
            by_cases hlt2 : a2 < l.length
            · obtain ⟨b3, off3, hA3, hb3, he3⟩ := E0.get hlt2
              subst hA3
              have hd := Lib.hid (List.drop_eq_getElem_cons hlt2)
              generalize l[a2] = x at he3 hd
              have x1 : Is_ent W0 b3 (off3 + a2 * 20) x := he3
              have x2 : Has_ent W0 b3 (off3 + a2 * 20) := ⟨x, x1⟩
              have x3 : of_ent W0 b3 (off3 + a2 * 20) = x := of_ent_eq x1
              have x4 : W0.cell? ⟨b3, off3 + a2 * 20, none⟩ = some (.bool x.gap) := he3 0 (by omega)
              have x5 : W0.cell? ⟨b3, off3 + a2 * 20 + 2, none⟩ = some (.string ⟨x.leg.fix.toArray⟩) := he3 2 (by omega)
              have x6' : Is_pt W0 b3 (off3 + a2 * 20 + 14) ⟨x.ex, x.ey⟩ := fun j hj => by
                rw [Nat.add_assoc, he3 _ (by omega)]
                match j, hj with
                | 0, _ | 1, _ => rfl
              have x6 : Has_pt W0 b3 (off3 + a2 * 20 + 14) := ⟨_, x6'⟩
              have x7 : of_pt W0 b3 (off3 + a2 * 20 + 14) = ⟨x.ex, x.ey⟩ := of_pt_eq x6'
              have y2 : Has_ent W0 g 0 := ⟨_, Y0.is_ent⟩
              have y3 : of_ent W0 g 0 = y := of_ent_eq Y0.is_ent
              have y6' : Is_pt W0 g 14 ⟨y.ex, y.ey⟩ := fun j hj => by
                rw [Y0.cell]
                match j, hj with
                | 0, _ | 1, _ => rfl
              have y6 : Has_pt W0 g 14 := ⟨_, y6'⟩
              have y7 : of_pt W0 g 14 = ⟨y.ex, y.ey⟩ := of_pt_eq y6'
              clear he3 x1 x6' y6'
              have N1 := run_neq_ent x y
              have N2 := run_neq_pt ⟨x.ex, x.ey⟩ ⟨y.ex, y.ey⟩
              go_upto_region 11 with (fail)
              go_cut [70] (fun sv wx => sv = .bool (!comesB x y) ∧ ∃ n, wx = W0.drewN n)
              case first =>
                obtain ⟨a0, h0⟩ : ∃ a, x.gap = a := ⟨_, rfl⟩
                obtain ⟨a1, h1⟩ : ∃ a, x.eqB y = a := ⟨_, rfl⟩
                obtain ⟨t2, h2⟩ : ∃ a, (y.leg.ty == 1) = a := ⟨_, rfl⟩
                obtain ⟨t3, h3⟩ : ∃ a, (x.leg.fix == y.leg.fix) = a := ⟨_, rfl⟩
                obtain ⟨t4, h4⟩ : ∃ a, Pt.eqB ⟨x.ex, x.ey⟩ ⟨y.ex, y.ey⟩ = a := ⟨_, rfl⟩
                have HB := Lib.hid (comes_eq x y a0 a1 t2 t3 t4 h0 h1 h2 h3 h4)
                have g2 : (y.leg.ty != 1) = !t2 := by rw [← h2]; rfl
                have g2d : decide (y.leg.ty = 1) = t2 := by rw [← h2, Bool.eq_iff_iff]; simp
                have g3 : (x.leg.fix != y.leg.fix) = !t3 := by rw [← h3]; rfl
                have g3d : decide (x.leg.fix = y.leg.fix) = t3 := by rw [← h3, Bool.eq_iff_iff]; simp
                cases a0
                · cases a1
                  · cases t2
                    · go_quiet (fail)
                      go_wp2
                      go_meet
                      exact ⟨by rw [HB.out]; rfl, n + nq, World.drewN_drewN _ _ _⟩
                    · cases t3
                      · go_quiet (fail)
                        go_wp2
                        go_meet
                        exact ⟨by rw [HB.out]; rfl, n + nq, World.drewN_drewN _ _ _⟩
                      · cases t4
                        · go_quiet (fail)
                          go_wp2
                          go_meet
                          exact ⟨by rw [HB.out]; rfl, n + nq, World.drewN_drewN _ _ _⟩
                        · go_quiet (fail)
                          go_wp2
                          go_meet
                          exact ⟨by rw [HB.out]; rfl, n + nq, World.drewN_drewN _ _ _⟩
                  · go_quiet (fail)
                    go_wp2
                    go_meet
                    exact ⟨by rw [HB.out]; rfl, n + nq, World.drewN_drewN _ _ _⟩
                · go_quiet (fail)
                  go_wp2
                  go_meet
                  exact ⟨by rw [HB.out]; rfl, n + nq, World.drewN_drewN _ _ _⟩
              case rest =>
                obtain ⟨rfl, n2, rfl⟩ := hcut
                clear x2 x3 x4 x5 x6 x7 y2 y3 y6 y7 N1 N2
                cases hcm : comesB x y
                · go_wp2
                  go_roundw
                  case rel => exact ⟨a2 + 1, by omega, by go_num, by rw [← keeps_skip hg hcm, ← hd.out]; exact HQ.out, n2, rfl⟩
                  case measure => simp [intOf]; omega
                · have hne : ¬ ((a2 : Nat) : Int) = ((l.length : Nat) : Int) := by omega
                  go_wp2
                  go_roundw
                  case rel => exact ⟨a2 + 1, j + 1, by omega, by omega, by go_num, by go_num, by rw [← keeps_take hg hcm, ← hd.out]; exact HQ.out, below_drewN B0 n2⟩
                  case measure => simp [intOf]; omega
            · exfalso
              have := HQ.out
              rw [List.drop_of_length_le (by omega), keeps_nil hg] at this
              cases this
        · go_wp2
          go_roundw
          case rel => exact ⟨a, j + 1, ha, by omega, rfl, by go_num, by rw [← keeps_gap hg, ← hd.out]; exact HQ.out, B0⟩
          case measure => simp [intOf]; omega
      · go_upto_region 17 with (fail)
        go_wp2
        go_loopw [82] (fun i wr => K3Rel l w2 i wr) (fun i _ => l.length - (intOf i).toNat)
        case atStart => exact ⟨0, by omega, rfl, rfl, hB⟩
        case round =>
          clear HK HQ
          obtain ⟨k, hk, rfl, hq, hB3⟩ := hrel
          have HQ := Lib.hid hq; clear hq
          by_cases hlt3 : k < l.length
          · obtain ⟨b, off, hA, hb, he⟩ := E2.get hlt3
            subst hA
            have hd := Lib.hid (List.drop_eq_getElem_cons hlt3)
            have hpn := Lib.hid (show prevOf l (k + 1) = some l[k] from List.getElem?_eq_getElem hlt3)
            generalize l[k] = x at he hd hpn
            have e1 : Is_ent wr b (off + k * 20) x := fun j' hj' => by rw [hB3.cell (p := ⟨b, _, none⟩) hb]; exact he j' hj'
            have i1 : Has_ent wr b (off + k * 20) := ⟨x, e1⟩
            have i2 : of_ent wr b (off + k * 20) = x := of_ent_eq e1
            clear he e1
            go_upto_region 20 with (fail)
            have X0 := Blk.new wr x.arr 41
            have B0 := below_step hB3 (allocB wr (.cells x.arr 41))
            generalize wr.alloc _ = W0 at X0 B0 ⊢
            generalize wr.heap.size = g at X0 ⊢
            clear i1 i2 hB3
            have c1 := X0.cell
            have c2' := X0.lt
            have B1 := below_step BB B0
            cases hg : x.gap
            · by_cases hk0 : k = 0
              · subst hk0
                cases hst : startsB x.leg.ty
                · go_wp2_with (go_at_call 17; refine callP (starts_any _ _) ?_)
                  go_ret
                  exact Ret.bool rfl B1
                · go_upto_region 22 with (go_at_call 17; refine callP (starts_any _ _) ?_)
                  go_cut [148] (fun sv wx => sv = .bool false ∧ Below W0.heap.size W0 wx)
                  case first =>
                    refine wp_region_quiet_below (by kernel_rfl) (by kernel_rfl) ?_
                    repeat (go_big_quiet_step (fail))
                    refine wpQuiet_nil ?_
                    intro _ hw'
                    obtain ⟨⟨dq, osq⟩, hw''⟩ := hw'
                    subst hw''
                    go_wp2
                    go_meet
                    exact ⟨rfl, below_regrown W0 dq osq⟩
                  case rest =>
                    obtain ⟨rfl, Bc⟩ := hcut
                    go_wp2
                    go_roundw
                    case rel => exact ⟨0 + 1, by omega, by go_num, by rw [HQ.out, hd.out, hpn.out]; exact chains_first hg hst, below_step B0 Bc⟩
                    case measure => simp [intOf]; omega
              · obtain ⟨m1, hm⟩ : ∃ m1, m1 = k - 1 := ⟨_, rfl⟩
                have hml : m1 < l.length := by omega
                have hcy := E2.cells B0 hml
                have HP := Lib.hid (show prevOf l k = some l[m1] by
                  obtain rfl : k = m1 + 1 := by omega
                  exact List.getElem?_eq_getElem hml)
                generalize l[m1] = y at hcy HP
                have hm1 : ((k : Int) - 1).toNat = m1 := by omega
                have hm2 : (0 : Int) ≤ (k : Int) - 1 := by omega
                have hm3 : (k : Int) - 1 < (l.length : Int) := by omega
                have hm4 : (0 : Int) < (k : Int) := by omega
                have hm5 : ¬ (k : Int) = 0 := by omega
                have hm6 : 0 < k := by omega
                have hbW : b < W0.heap.size := Nat.lt_of_lt_of_le hb B0.size
                have ly : Is_leg W0 b (off + m1 * 20 + 1) y.leg := fun j hj => by rw [Nat.add_assoc, hcy _ (by omega)]; exact y.leg_sub j hj
                have y1 := cell_regrown (show W0.cell? ⟨b, off + m1 * 20 + 1, none⟩ = some (.int .u8 y.leg.ty) from hcy 1 (by omega))
                have y2 := cell_regrown (show W0.cell? ⟨b, off + m1 * 20 + 2, none⟩ = some (.string ⟨y.leg.fix.toArray⟩) from hcy 2 (by omega))
                have HM := Lib.hid hm; clear hm hk0 hcy
                go_upto_region 22 with (fail)
                go_cut [148] (fun sv wx => sv = .bool (breakB y.leg x.leg) ∧ Below W0.heap.size W0 wx)
                case first =>
                  have j1 : ∀ d os, Has_leg (grow (redrawn W0 d) os) b (off + m1 * 20 + 1) := fun d os => ⟨_, ly.below (below_regrown W0 d os) hbW⟩
                  have j2 : ∀ d os, of_leg (grow (redrawn W0 d) os) b (off + m1 * 20 + 1) = y.leg := fun d os => of_leg_eq (ly.below (below_regrown W0 d os) hbW)
                  have j3 : ∀ d os, Has_leg (grow (redrawn W0 d) os) g 1 := fun d os => ⟨_, X0.leg1.below (below_regrown W0 d os) c2'⟩
                  have j4 : ∀ d os, of_leg (grow (redrawn W0 d) os) g 1 = x.leg := fun d os => of_leg_eq (X0.leg1.below (below_regrown W0 d os) c2')
                  have x1 := cell_regrown (show W0.cell? ⟨g, 1, none⟩ = some (.int .u8 x.leg.ty) from X0.cell 1)
                  have x2 := cell_regrown (show W0.cell? ⟨g, 2, none⟩ = some (.string ⟨x.leg.fix.toArray⟩) from X0.cell 2)
                  obtain ⟨jb, hjb⟩ : ∃ a, y.leg.joinsB x.leg = a := ⟨_, rfl⟩
                  obtain ⟨fb, hfb⟩ : ∃ a, (y.leg.fix == x.leg.fix) = a := ⟨_, rfl⟩
                  obtain ⟨eb, heb⟩ : ∃ a, endsB y.leg.ty = a := ⟨_, rfl⟩
                  obtain ⟨t2, ht2⟩ : ∃ a, (x.leg.ty == 2) = a := ⟨_, rfl⟩
                  obtain ⟨t4, ht4⟩ : ∃ a, (x.leg.ty == 4) = a := ⟨_, rfl⟩
                  have HB := Lib.hid (show breakB y.leg x.leg = (!jb || (fb && eb && (t2 || t4))) by rw [breakB, hjb, hfb, heb, ht2, ht4])
                  have q1 : ∀ d os, Calls Tryd.prog 18 #[y.leg.val, x.leg.val] (grow (redrawn W0 d) os) fun e w'' => e = .returned (.bool jb) ∧ ∃ z : Regrown, w'' = grow (redrawn W0 z.d) z.os := fun d os => by
                    rw [← hjb]; exact Calls.regrown_ret (joins_any _ _ _)
                  have q2 : ∀ d os, Calls Tryd.prog 19 #[.int .u8 y.leg.ty] (grow (redrawn W0 d) os) fun e w'' => e = .returned (.bool eb) ∧ ∃ z : Regrown, w'' = grow (redrawn W0 z.d) z.os := fun d os => by
                    rw [← heb]; exact Calls.regrown_ret ((ends_any _ _).mono fun _ _ h => h.ret)
                  clear hjb heb
                  cases jb
                  · refine wp_region_quiet_below (by kernel_rfl) (by kernel_rfl) ?_
                    repeat (go_big_quiet_step (with_reducible first | exact q1 _ _ | exact q2 _ _))
                    refine wpQuiet_nil ?_
                    intro _ hw'
                    obtain ⟨⟨dq, osq⟩, hw''⟩ := hw'
                    subst hw''
                    go_wp2
                    go_meet
                    exact ⟨by rw [HB.out]; rfl, below_regrown W0 dq osq⟩
                  · cases fb
                    · refine wp_region_quiet_below (by kernel_rfl) (by kernel_rfl) ?_
                      repeat (go_big_quiet_step (with_reducible first | exact q1 _ _ | exact q2 _ _))
                      refine wpQuiet_nil ?_
                      intro _ hw'
                      obtain ⟨⟨dq, osq⟩, hw''⟩ := hw'
                      subst hw''
                      go_wp2
                      go_meet
                      exact ⟨by rw [HB.out]; rfl, below_regrown W0 dq osq⟩
                    · cases eb
                      · refine wp_region_quiet_below (by kernel_rfl) (by kernel_rfl) ?_
                        repeat (go_big_quiet_step (with_reducible first | exact q1 _ _ | exact q2 _ _))
                        refine wpQuiet_nil ?_
                        intro _ hw'
                        obtain ⟨⟨dq, osq⟩, hw''⟩ := hw'
                        subst hw''
                        go_wp2
                        go_meet
                        exact ⟨by rw [HB.out]; rfl, below_regrown W0 dq osq⟩
                      · cases t2 <;> cases t4
                        all_goals
                          refine wp_region_quiet_below (by kernel_rfl) (by kernel_rfl) ?_
                          repeat (go_big_quiet_step (with_reducible first | exact q1 _ _ | exact q2 _ _))
                          refine wpQuiet_nil ?_
                          intro _ hw'
                          obtain ⟨⟨dq, osq⟩, hw''⟩ := hw'
                          subst hw''
                          go_wp2
                          go_meet
                          exact ⟨by rw [HB.out]; rfl, below_regrown W0 dq osq⟩
                case rest =>
                  obtain ⟨rfl, Bc⟩ := hcut
                  clear y1 y2 ly
                  cases hbk : breakB y.leg x.leg
                  · go_wp2
                    go_roundw
                    case rel => exact ⟨k + 1, by omega, by go_num, by rw [HQ.out, hd.out, hpn.out, HP.out]; exact chains_next hg hbk, below_step B0 Bc⟩
                    case measure => simp [intOf]; omega
                  · go_wp2
                    go_ret
                    exact Ret.bool rfl (below_step B1 Bc)
            · go_wp2
              go_ret
              exact Ret.bool rfl B1
          · have hch : chainsGo none l = true := by rw [HQ.out, List.drop_of_length_le (by omega)]; simp [chainsGo]
            have hml : m = l := HC.out hch
            have HE := Lib.hid (show eqGo m l = true from (eqGo_iff _ _).2 hml)
            clear hml hch
            go_wp2_with (go_at_call 12; refine callQ (equal_any m l A2 A c2 c wr (by omega) hl hc2 hc (hE2.below (B := 0) hB3) (E2.below (B := 0) hB3)) ?_; intro n4; rw [HE.out])
            go_ret
            exact Ret.bool rfl (below_drewN (below_step BB hB3) _)
end Go.Proofs.YtgafmifamkbmbaaDoor
