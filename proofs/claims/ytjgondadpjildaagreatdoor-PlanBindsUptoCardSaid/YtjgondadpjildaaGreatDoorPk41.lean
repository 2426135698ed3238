/- plan.Text: the lines of a valid plan, joined. The texts of the legs' numbers are told by the callees' contracts (LegTexts). -/
import Derived.Test.YtjgondadpjildaaGreatDoorPk37
import Derived.Test.YtjgondadpjildaaGreatDoorPk38
import Derived.Test.YtjgondadpjildaaGreatDoorPk40
namespace Go.Proofs.YtjgondadpjildaaGreatDoor
open Go.RowKit Go.Sort
set_option linter.unusedVariables false
set_option linter.unusedSimpArgs false
/- '++' under a name that the walk does not open. -/
attribute [local go_sem] ba_cat cat_len
theorem legText_len {l : Leg} {t : LegTx} (hl : l.small) (hT : LegTexts l t) : (legText l t).length ≤ 48000000024 := by
  unfold legText
  split
  · simp
  · have h1 := join_len_le (legWords l t) [32] 4000000001 (legWords_small hl hT)
    have h2 := legWords_len l t
    have h3 : (4000000001 + ([32] : List UInt8).length) * (legWords l t).length ≤ 4000000002 * 12 := Nat.mul_le_mul (by simp) h2
    omega
theorem headLine_len {p : Plan} (hs : p.small) (hp : planCheck p = 0) : (headLine p).length ≤ 8000000100 := by
  have h := planCheck_ok hp
  have := itoa_len p.active (by omega) (by omega)
  have := dashB_len p.from_
  have := dashB_len p.to_
  have := hs.from_
  have := hs.to_
  simp only [headLine, List.length_append, List.length_cons, List.length_nil]
  omega
theorem lineOf_len {tx : Leg → LegTx} {x : Entry} (hx : x.small) (ha : x.gap = false → aloneE x = 0) (hT : x.gap = false → LegTexts x.leg (tx x.leg)) : (lineOf tx x).length ≤ 53000000000 := by
  unfold lineOf
  split
  · simp
  · rename_i hg
    have hg : x.gap = false := by simpa using hg
    obtain ⟨_, _, h1, h2, h3, h4⟩ := alone_sec (ha hg)
    have := dashB_len x.via
    have := hx.via
    have := pointText_len (s := x.leg.fix) h1 h2
    have := pointText_len (s := x.leg.center) h3 h4
    have := letterOf_len x.sec
    have := legText_len hx.leg (hT hg)
    simp only [List.length_append, List.length_cons, List.length_nil]
    omega
theorem Blk.leg1 {W : World} {g : Nat} {x : Entry} (h : Blk W g x.arr) : Is_leg W g 1 x.leg := fun j hj => by rw [h.cell]; exact x.leg_sub j hj
def PRel (tx : Leg → LegTx) (p : Plan) (w1 : World) (t i : Value) (wr : World) : Prop :=
  ∃ k : Nat, k ≤ p.es.length ∧ i = .int .i64 k ∧ SOut w1 wr t (headLine p :: (p.es.take k).map (lineOf tx)) ∧ Below w1.heap.size w1 wr
set_option maxHeartbeats 4000000 in
set_option maxRecDepth 100000 in
theorem ptext_any (tx : Leg → LegTx) (p : Plan) (A : Option Addr) (c : Nat) (w : World) (hL : Laid w) (hs : p.small) (hc : p.es.length ≤ c) (hE : Ents w A p.es) (hT : ∀ x ∈ p.es, x.gap = false → LegTexts x.leg (tx x.leg)) :
    Calls Tryz.prog 16 #[p.val A c] w (Ret w (.string ⟨(planText tx p).toArray⟩)) := by
  go_enter Tryz.func16, Tryz.ntmps16
  go_upto_region 1 with (fail)
  have X0 := Blk.new w (p.arr A c) 52
  have B0 := (Below.refl w.heap.size w).alloc (Nat.le_refl _) (.cells (p.arr A c) 52)
  have L0 := hL.below B0
  have E0 := hE.below (B := 0) B0
  generalize w.alloc _ = W at X0 B0 L0 E0 ⊢
  generalize w.heap.size = g at X0 ⊢
  have i1 : Has_plan W g 0 := ⟨_, X0.is_plan rfl⟩
  have i2 : of_plan W g 0 = p.arr A c := of_plan_eq (X0.is_plan rfl)
  have hcall := Lib.hid (planCheck_any p A c W L0 hs hc E0)
  by_cases hk : planCheck p = 0
  · have HK := Lib.hid hk
    obtain ⟨hl60, hck, ha1, ha2⟩ := planCheck_ok hk
    have HC := Lib.hid hck; clear hck
    go_upto_region 3 with (go_at_call 15; refine callR hcall.out ?_; intro w1 hb1 hc1 hf1 hz1)
    clear i1 i2 hcall
    have X1 := X0.step hb1
    have B1 := below_step B0 hb1
    have L1 := L0.below hb1
    have E1 := E0.below (B := 0) hb1
    clear X0 B0 L0 E0 hc1 hf1 hb1 hz1 hk
    go_cut [3] (fun v wx => SOut w1 wx v [headLine p] ∧ Below w1.heap.size w1 wx)
    case first =>
      have k0 := cell_regrown (show w1.cell? ⟨g, 0, none⟩ = some (.string ⟨p.from_.toArray⟩) from X1.cell 0)
      have k1 := cell_regrown (show w1.cell? ⟨g, 1, none⟩ = some (.string ⟨p.to_.toArray⟩) from X1.cell 1)
      have k3 := cell_regrown (show w1.cell? ⟨g, 3, none⟩ = some (.int .i64 p.active) from X1.cell 3)
      have f1 := hs.from_
      have f2 := hs.to_
      have f3 := dashB_len p.from_
      have f4 := dashB_len p.to_
      have f5 := itoa_len p.active (by omega) (by omega)
      have c1 : ∀ d os, Calls Tryz.prog 45 #[.string ⟨p.from_.toArray⟩] (grow (redrawn w1 d) os) fun e w'' => e = .returned (.string ⟨(dashB p.from_).toArray⟩) ∧ ∃ q : Regrown, w'' = grow (redrawn w1 q.d) q.os := fun d os => Calls.regrown_ret ((dash_any _ _ (by omega)).mono fun _ _ h => h.ret)
      have c2 : ∀ d os, Calls Tryz.prog 45 #[.string ⟨p.to_.toArray⟩] (grow (redrawn w1 d) os) fun e w'' => e = .returned (.string ⟨(dashB p.to_).toArray⟩) ∧ ∃ q : Regrown, w'' = grow (redrawn w1 q.d) q.os := fun d os => Calls.regrown_ret ((dash_any _ _ (by omega)).mono fun _ _ h => h.ret)
      have c3 : ∀ d os, Calls Tryz.prog 46 #[.int .i64 p.active] (grow (redrawn w1 d) os) fun e w'' => e = .returned (.string ⟨(Lib.itoa p.active).toArray⟩) ∧ ∃ q : Regrown, w'' = grow (redrawn w1 q.d) q.os := fun d os => Calls.regrown_ret (itoa_any p.active (by omega) (by omega) _ (L1.below (below_regrown w1 d os)))
      have n1 : ¬ 9223372036854775807 < 5 + (dashB p.from_).length := by omega
      have n2 : ¬ 9223372036854775807 < 5 + (dashB p.from_).length + 1 := by omega
      have n3 : ¬ 9223372036854775807 < 5 + (dashB p.from_).length + 1 + (dashB p.to_).length := by omega
      have n4 : ¬ 9223372036854775807 < 5 + (dashB p.from_).length + 1 + (dashB p.to_).length + 1 := by omega
      have n5 : ¬ 9223372036854775807 < 5 + (dashB p.from_).length + 1 + (dashB p.to_).length + 1 + (Lib.itoa p.active).length := by omega
      refine wp_region_tail_below 14 (by kernel_rfl) (by kernel_rfl) ?_
      simp only [List.take_succ_cons, List.take_zero, List.drop_succ_cons, List.drop_zero]
      repeat (quiet_step (with_reducible first | exact c1 _ _ | exact c2 _ _ | exact c3 _ _))
      refine wpQuiet_nil ?_
      intro _ hw'
      obtain ⟨⟨dq, osq⟩, hw''⟩ := hw'
      subst hw''
      have B2 := below_regrown w1 dq osq
      clear k0 k1 k3 c1 c2 c3
      generalize grow (redrawn w1 dq) osq = w2 at B2 ⊢
      go_wp2
      go_meet
      exact ⟨World.ownsRow_lit w2 #[sval (headLine p)] 1 B2.size (by unfold maxLen; omega) rfl, below_step B2 ((Below.refl w2.heap.size w2).alloc (Nat.le_refl _) _)⟩
    case rest =>
      obtain ⟨O, B⟩ := hcut
      have c1 := (X1.step B).cell
      have c2 := (X1.step B).lt
      go_wp2
      go_loopw [3, 27] (fun t i wr => PRel tx p w1 t i wr) (fun _ i _ => p.es.length - (intOf i).toNat)
      case atStart => exact ⟨0, by omega, rfl, by simpa using O, B⟩
      case round =>
        clear c1 c2 O B
        obtain ⟨k, hk, rfl, hO, hB⟩ := hrel
        by_cases hlt : k < p.es.length
        · obtain ⟨b, off, hA, hb, he⟩ := E1.get hlt
          subst hA
          have hx : p.es[k] ∈ p.es := List.getElem_mem hlt
          have hd := Lib.hid (show (p.es.take (k + 1)).map (lineOf tx) = (p.es.take k).map (lineOf tx) ++ [lineOf tx p.es[k]] by rw [List.take_succ_eq_append_getElem hlt, List.map_append]; rfl)
          generalize p.es[k] = x at he hd hx
          have e1 : Is_ent wr b (off + k * 20) x := fun j hj => by rw [hB.cell (p := ⟨b, _, none⟩) hb]; exact he j hj
          have i1 : Has_ent wr b (off + k * 20) := ⟨x, e1⟩
          have i2 : of_ent wr b (off + k * 20) = x := of_ent_eq e1
          clear he e1
          have hlen : (headLine p :: (p.es.take k).map (lineOf tx)).length ≤ 100 := by simp; omega
          go_upto_region 7 with (fail)
          have X2 := Blk.new wr x.arr 41
          have O2 := hO.alloc (.cells x.arr 41)
          have B2 := below_step hB ((Below.refl wr.heap.size wr).alloc (Nat.le_refl _) (.cells x.arr 41))
          generalize wr.alloc _ = W0 at X2 O2 B2 ⊢
          generalize wr.heap.size = g2 at X2 ⊢
          clear i1 i2 hO hB
          have c1 := X2.cell
          have c2 := X2.lt
          have hsz := B2.size
          cases hg : x.gap
          · have ha := check_each p.es none 0 HC.out x hx hg
            obtain ⟨s1, s2, p1, p2, p3, p4⟩ := alone_sec ha
            have hTx := Lib.hid (hT x hx hg)
            have hsm := Lib.hid (hs.each x hx)
            have HL := Lib.hid (show lineOf tx x = letterOf x.sec ++ [32] ++ dashB x.via ++ [32] ++ pointText x.leg.fix x.ex x.ey ++ [32] ++ pointText x.leg.center x.mx x.my ++ [32] ++ legText x.leg (tx x.leg) by simp [lineOf, hg])
            have L2 := L1.below B2
            clear ha
            go_upto_region 9 with (fail)
            · skip
              have k18 := cell_regrown (show W0.cell? ⟨g2, 18, none⟩ = some (.int .u8 x.sec) from X2.cell 18)
              have k19 := cell_regrown (show W0.cell? ⟨g2, 19, none⟩ = some (.string ⟨x.via.toArray⟩) from X2.cell 19)
              have k2 := cell_regrown (show W0.cell? ⟨g2, 2, none⟩ = some (.string ⟨x.leg.fix.toArray⟩) from X2.cell 2)
              have k3 := cell_regrown (show W0.cell? ⟨g2, 3, none⟩ = some (.string ⟨x.leg.center.toArray⟩) from X2.cell 3)
              have ip : Is_pt W0 g2 14 ⟨x.ex, x.ey⟩ := fun j hj => by
                rw [X2.cell]
                match j, hj with
                | 0, _ | 1, _ => rfl
              have iq : Is_pt W0 g2 16 ⟨x.mx, x.my⟩ := fun j hj => by
                rw [X2.cell]
                match j, hj with
                | 0, _ | 1, _ => rfl
              have j1 : ∀ d os, Has_pt (grow (redrawn W0 d) os) g2 14 := fun d os => ⟨_, ip.below (below_regrown W0 d os) c2⟩
              have j2 : ∀ d os, of_pt (grow (redrawn W0 d) os) g2 14 = ⟨x.ex, x.ey⟩ := fun d os => of_pt_eq (ip.below (below_regrown W0 d os) c2)
              have j3 : ∀ d os, Has_pt (grow (redrawn W0 d) os) g2 16 := fun d os => ⟨_, iq.below (below_regrown W0 d os) c2⟩
              have j4 : ∀ d os, of_pt (grow (redrawn W0 d) os) g2 16 = ⟨x.mx, x.my⟩ := fun d os => of_pt_eq (iq.below (below_regrown W0 d os) c2)
              have j5 : ∀ d os, Has_leg (grow (redrawn W0 d) os) g2 1 := fun d os => ⟨_, X2.leg1.below (below_regrown W0 d os) c2⟩
              have j6 : ∀ d os, of_leg (grow (redrawn W0 d) os) g2 1 = x.leg := fun d os => of_leg_eq (X2.leg1.below (below_regrown W0 d os) c2)
              have f1 := hsm.out.via
              have f2 := hsm.out.leg.fix
              have f3 := hsm.out.leg.center
              have f4 := dashB_len x.via
              have f5 := pointText_len (s := x.leg.fix) p1 p2
              have f6 := pointText_len (s := x.leg.center) p3 p4
              have f7 := letterOf_len x.sec
              have f8 := legText_len hsm.out.leg hTx.out
              have q1 : ∀ d os, Calls Tryz.prog 45 #[.string ⟨x.via.toArray⟩] (grow (redrawn W0 d) os) fun e w'' => e = .returned (.string ⟨(dashB x.via).toArray⟩) ∧ ∃ q : Regrown, w'' = grow (redrawn W0 q.d) q.os := fun d os => Calls.regrown_ret ((dash_any _ _ (by omega)).mono fun _ _ h => h.ret)
              have q2 : ∀ d os, Calls Tryz.prog 47 #[.string ⟨x.leg.fix.toArray⟩, .agg (Pt.arr ⟨x.ex, x.ey⟩)] (grow (redrawn W0 d) os) fun e w'' => e = .returned (.string ⟨(pointText x.leg.fix x.ex x.ey).toArray⟩) ∧ ∃ q : Regrown, w'' = grow (redrawn W0 q.d) q.os := fun d os => Calls.regrown_ret (point_any _ _ _ _ (L2.below (below_regrown W0 d os)) (by omega) p1 p2)
              have q3 : ∀ d os, Calls Tryz.prog 47 #[.string ⟨x.leg.center.toArray⟩, .agg (Pt.arr ⟨x.mx, x.my⟩)] (grow (redrawn W0 d) os) fun e w'' => e = .returned (.string ⟨(pointText x.leg.center x.mx x.my).toArray⟩) ∧ ∃ q : Regrown, w'' = grow (redrawn W0 q.d) q.os := fun d os => Calls.regrown_ret (point_any _ _ _ _ (L2.below (below_regrown W0 d os)) (by omega) p3 p4)
              have q4 : ∀ d os, Calls Tryz.prog 48 #[x.leg.val] (grow (redrawn W0 d) os) fun e w'' => e = .returned (.string ⟨(legText x.leg (tx x.leg)).toArray⟩) ∧ ∃ q : Regrown, w'' = grow (redrawn W0 q.d) q.os := fun d os => Calls.regrown_ret (text_any _ _ _ (L2.below (below_regrown W0 d os)) hsm.out.leg hTx.out)
              have w8 : IntKind.u8.wrap (x.sec + 1) = x.sec + 1 := by simp [IntKind.wrap, IntKind.signed, IntKind.bits]; omega
              have a1 : (0 : Int) ≤ x.sec := by omega
              have a2 : x.sec ≤ x.sec + 1 := by omega
              have a3 : x.sec + 1 ≤ 6 := by omega
              have a4 : (x.sec + 1).toNat = x.sec.toNat + 1 := by omega
              have hlet : List.drop x.sec.toNat (63 :: List.take x.sec.toNat [68, 69, 65, 80, 77]) = letterOf x.sec := rfl
              generalize legText x.leg (tx x.leg) = LT at f8 q4 HL
              generalize pointText x.leg.fix x.ex x.ey = P1 at f5 q2 HL
              generalize pointText x.leg.center x.mx x.my = P2 at f6 q3 HL
              generalize dashB x.via = DV at f4 q1 HL
              generalize letterOf x.sec = LE at f7 hlet HL
              have n1 : ¬ 9223372036854775807 < LE.length + 1 := by omega
              have n2 : ¬ 9223372036854775807 < LE.length + 1 + DV.length := by omega
              have n3 : ¬ 9223372036854775807 < LE.length + 1 + DV.length + 1 := by omega
              have n4 : ¬ 9223372036854775807 < LE.length + 1 + DV.length + 1 + P1.length := by omega
              have n5 : ¬ 9223372036854775807 < LE.length + 1 + DV.length + 1 + P1.length + 1 := by omega
              have n6 : ¬ 9223372036854775807 < LE.length + 1 + DV.length + 1 + P1.length + 1 + P2.length := by omega
              have n7 : ¬ 9223372036854775807 < LE.length + 1 + DV.length + 1 + P1.length + 1 + P2.length + 1 := by omega
              have n8 : ¬ 9223372036854775807 < LE.length + 1 + DV.length + 1 + P1.length + 1 + P2.length + 1 + LT.length := by omega
              refine wp_region_take_tail_below _ 33 (by kernel_rfl) (by kernel_rfl) (fun _ _ _ h => h) (.inl ⟨rfl, fun _ => rfl⟩) ?_
              simp only [Nat.reduceSub, List.take_succ_cons, List.take_zero, List.drop_succ_cons, List.drop_zero, Act.put, List.setIfInBounds_toArray, List.set_cons_zero, List.set_cons_succ]
              repeat (quiet_step (with_reducible first | exact q1 _ _ | exact q2 _ _ | exact q3 _ _ | exact q4 _ _))
              refine wpQuiet_nil ?_
              intro _ hw'
              obtain ⟨⟨dq, osq⟩, hw''⟩ := hw'
              subst hw''
              have B3 := below_regrown W0 dq osq
              clear k18 k19 k2 k3 j1 j2 j3 j4 j5 j6 q1 q2 q3 q4
              generalize grow (redrawn W0 dq) osq = w3 at B3 ⊢
              have O4 := (O2.below B3).alloc (.cells #[sval (lineOf tx x)] 9)
              have B4 := below_step (below_step B2 B3) ((Below.refl w3.heap.size w3).alloc (Nat.le_refl _) (.cells #[sval (lineOf tx x)] 9))
              have hcell : (w3.alloc (.cells #[sval (lineOf tx x)] 9)).cell? ⟨w3.heap.size, 0, none⟩ = some (sval (lineOf tx x)) := cell_of_row _ _ 0 _ _ _ (heap_alloc_new w3 _)
              rw [HL.out] at O4 B4 hcell
              have hsz3 := B3.size
              go_wp2_with (at_builtin; refine wpList_append_sout rfl (.tmp 36) (.tmp 69) rfl O4 rfl _ w3.heap.size 1 rfl hcell (by omega) (by simp; omega) ?_; intro v5 W5 O5 hg5)
              go_roundw
              case rel => exact ⟨k + 1, by omega, by go_num, by rw [hd.out, HL.out]; exact O5, below_sgrown B4 O4 hg5⟩
              case measure => simp [intOf]; omega
          · have O4 := O2.alloc (.cells #[sval [71, 65, 80]] 9)
            have B4 := below_step B2 ((Below.refl W0.heap.size W0).alloc (Nat.le_refl _) (.cells #[sval [71, 65, 80]] 9))
            go_wp2_with (at_builtin; refine wpList_append_sout rfl (.tmp 33) (.tmp 34) rfl O4 rfl [71, 65, 80] W0.heap.size 1 rfl (cell_of_row _ _ 0 _ _ _ (heap_alloc_new W0 _)) (by omega) (by simp; omega) ?_; intro v5 W5 O5 hg5)
            go_roundw
            case rel => exact ⟨k + 1, by omega, by go_num, by rw [hd.out]; simpa [lineOf, hg] using O5, below_sgrown B4 O4 hg5⟩
            case measure => simp [intOf]; omega
        · have hwl : headLine p :: (p.es.take k).map (lineOf tx) = headLine p :: p.es.map (lineOf tx) := by rw [List.take_of_length_le (by omega)]
          rw [hwl] at hO
          have hsm : ∀ s ∈ headLine p :: p.es.map (lineOf tx), s.length ≤ 53000000000 := by
            intro s hs'
            rcases List.mem_cons.1 hs' with rfl | hs'
            · have := headLine_len hs HK.out; omega
            · obtain ⟨x, hx, rfl⟩ := List.mem_map.1 hs'
              exact lineOf_len (hs.each x hx) (fun hg => check_each p.es none 0 HC.out x hx hg) (fun hg => hT x hx hg)
          have HT := Lib.hid (show planText tx p = Lib.join (headLine p :: p.es.map (lineOf tx)) [10] by simp [planText, HK.out])
          have hne : headLine p :: p.es.map (lineOf tx) ≠ [] := by simp
          have hln : (headLine p :: p.es.map (lineOf tx)).length ≤ 1000 := by simp; omega
          clear hwl
          generalize headLine p :: p.es.map (lineOf tx) = ls at hO hsm HT hne hln
          obtain ⟨A5, c5, hv, hc5, hS5⟩ := hO.form
          have hcall := Lib.hid (sjoin_any ls A5 c5 [10] wr hne hS5 hc5 hln 53000000000 hsm (by simp))
          clear hsm hne hln
          subst hv
          go_wp2_with (go_at_call 49; refine callR hcall.out ?_; intro w2 hb2 hc2 hf2 hz2)
          go_ret
          exact Ret.str HT.out.symm (below_step B1 (below_step hB hb2))
  · have h0 : (planCheck p != 0) = true := by simpa using hk
    have HT := Lib.hid (show planText tx p = [] by simp [planText, hk])
    clear hk
    go_wp2_with (go_at_call 15; refine callR hcall.out ?_; intro w1 hb1 hc1 hf1 hz1)
    go_ret
    exact Ret.str HT.out.symm (below_step B0 hb1)
end Go.Proofs.YtjgondadpjildaaGreatDoor
