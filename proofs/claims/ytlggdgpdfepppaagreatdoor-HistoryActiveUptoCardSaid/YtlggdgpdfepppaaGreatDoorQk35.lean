/- plan.Bind; walk. -/
import Derived.Test.YtlggdgpdfepppaaGreatDoorQk29
import Derived.Test.YtlggdgpdfepppaaGreatDoorQk02
import Derived.Test.YtlggdgpdfepppaaGreatDoorQk05
import Derived.Test.YtlggdgpdfepppaaGreatDoorQk10
namespace Go.Proofs.YtlggdgpdfepppaaGreatDoor
open Go.RowKit Go.Sort
set_option linter.unusedVariables false
set_option linter.unusedSimpArgs false
set_option maxRecDepth 100000
def RetBd (w : World) (r : List Entry × Int) (e : Ending) (w' : World) : Prop :=
  ∃ A c, e = .returned (.tuple #[.slice A r.1.length c, .int .i64 r.2]) ∧ r.1.length ≤ c ∧ Ents w' A r.1 ∧ Below w.heap.size w w'
theorem RetBd.err (w w' : World) (n : Int) (h : Below w.heap.size w w') : RetBd w ([], n) (.returned (.tuple #[.slice none 0 0, .int .i64 n])) w' := ⟨none, 0, rfl, Nat.le_refl _, Ents.nil _ _, h⟩
def bentB (parts : Array (Nat × Value)) : Sem Value := Instr.build 82 parts
theorem bentB_fold (parts : Array (Nat × Value)) : Instr.build 82 parts = bentB parts := rfl
theorem run_bentB (w : World) (l : Leg) (s : Int) (via : List UInt8) : (bentB #[(1, .agg l.arr), (4, .int .u8 s), (5, .string ⟨via.toArray⟩)]).run Tryz.prog w = .ok (.agg (⟨false, l, 0, 0, 0, 0, s, via⟩ : Entry).arr) w := run_build w _ _ _ (by kernel_rfl)
theorem splice_entE (x : Entry) (p : Pt) : splice x.arr 14 p.arr = (⟨x.gap, x.leg, p.x, p.y, x.mx, x.my, x.sec, x.via⟩ : Entry).arr := rfl
theorem splice_entM (x : Entry) (p : Pt) : splice x.arr 16 p.arr = (⟨x.gap, x.leg, x.ex, x.ey, p.x, p.y, x.sec, x.via⟩ : Entry).arr := rfl
attribute [local go_sem ↓] bentB_fold
attribute [local go_sem] run_bentB splice_entE splice_entM
theorem legItem {w W : World} {b off : Nat} {l : List Leg} (h : Items w (some ⟨b, off, none⟩) 13 (l.map Leg.arr)) (hB : Below w.heap.size w W) {k : Nat} (hk : k < l.length) : Is_leg W b (off + k * 13) l[k] := fun j hj => by
  rw [h.cells hB (k := k) (by simpa using hk) j hj, List.getElem_map]
theorem bindS_loop (pt : List UInt8 → (Int × Int) × Int) (legs : List Leg) (sec : Int) (via : List UInt8) (hs : sectionB sec = true) (hv : viaB via = true) :
    bindS pt legs sec via = if bindGoE pt legs = 0 then (legs.map (bindX pt sec via), 0) else ([], bindGoE pt legs) := by
  unfold bindS
  rw [hs, hv]
  rfl
set_option maxHeartbeats 8000000 in
theorem bind_any (d : DBs) (l : List FixV) (legs : List Leg) (A : Option Addr) (c : Nat) (sec : Int) (via : List UInt8) (w : World) (hL : Laid w) (hD : DbAt w d l)
    (hI : Items w A 13 (legs.map Leg.arr)) (hlc : legs.length ≤ c) (hn : legs.length ≤ 1000000) (hs : ∀ x ∈ legs, x.small) (hv : via.length ≤ 4000000000) :
    Calls Tryz.prog 124 #[.agg d.cells, .slice A legs.length c, .int .u8 sec, .string ⟨via.toArray⟩] w (RetBd w (bindS (pointV d.lat d.lon l) legs sec via)) := by
  have hcall := Lib.hid (fun r w' (h : Below w.heap.size w w') => navpoint_any d l r w' (hD.below h))
  generalize pointV d.lat d.lon l = pt at hcall ⊢
  have hsz9 := hD.ok.size
  generalize d.cells = cs at *
  clear hD
  have ks := Lib.hid (section_any sec)
  have kv := Lib.hid (fun w' (h : Below w.heap.size w w') => way_any via w' (hL.below h) hv)
  have HL := Lib.hid (fun w' (h : Below w.heap.size w w') => hL.below h)
  clear hL
  go_enter Tryz.func124, Tryz.ntmps124
  go_upto_region 1 with (fail)
  have X0 : Blk (w.alloc (.cells cs 48)) w.heap.size cs := Blk.new w _ _
  have B0 := alloc_below3 w (.cells cs 48)
  generalize w.alloc _ = W at X0 B0 ⊢
  obtain ⟨g0, hg0⟩ : ∃ g, g = w.heap.size := ⟨_, rfl⟩
  rw [← hg0] at X0 ⊢
  clear hg0
  cases hsb : sectionB sec with
  | false =>
    have HO := Lib.hid (show bindS pt legs sec via = ([], 17) by unfold bindS; rw [hsb]; rfl)
    rw [hsb] at ks
    go_wp2_with (go_at_call 54; (with_reducible refine callP (ks.out _) ?_))
    go_ret2
    rw [HO.out]
    exact RetBd.err _ _ _ B0
  | true =>
    rw [hsb] at ks
    have hq := Lib.hid (kv.out W B0)
    cases hvb : viaB via with
    | false =>
      have HO := Lib.hid (show bindS pt legs sec via = ([], 5) by unfold bindS; rw [hsb, hvb]; rfl)
      rw [hvb] at hq
      go_wp2_with (first | (go_at_call 54; (with_reducible refine callP (ks.out _) ?_)) | (go_at_call 55; (with_reducible refine callQ hq.out ?_); intro n1))
      go_ret2
      rw [HO.out]
      exact RetBd.err _ _ _ (below_drewN B0 _)
    | true =>
      have HS := Lib.hid (bindS_loop pt legs sec via hsb hvb)
      rw [hvb] at hq
      go_upto_region 6 with (first | (go_at_call 54; (with_reducible refine callP (ks.out _) ?_)) | (go_at_call 55; (with_reducible refine callQ hq.out ?_); intro n1))
      have X1 : Blk (W.drewN n1) g0 cs := X0.step (below_drewN (Below.refl _ _) n1)
      have B1 : Below w.heap.size w (W.drewN n1) := below_drewN B0 n1
      clear X0 B0 hq
      generalize W.drewN n1 = W1 at *
      have I1 : Items W1 A 13 (legs.map Leg.arr) := hI.below B1
      have HC := Lib.hid (fun r w' (h : Below W1.heap.size W1 w') => hcall.out r w' (below_step B1 h))
      have HLw := Lib.hid (fun w' (h : Below W1.heap.size W1 w') => HL.out w' (below_step B1 h))
      have HX := Lib.hid (fun w' (h : Below W1.heap.size W1 w') => X1.step h)
      clear kv ks hsb hvb hcall HL hI
      have BH := Lib.hid B1
      clear B1 X1
      go_wp2
      go_loopw [10, 26] (fun o i wr => ∃ (k : Nat) (es : List Entry), k ≤ legs.length ∧ i = .int .i64 k ∧ es = (legs.take k).map (bindX pt sec via) ∧ es.length = k ∧ bindGoE pt legs = bindGoE pt (legs.drop k) ∧ Out W1 wr o es ∧ Below W1.heap.size W1 wr) (fun _ i _ => legs.length - (intOf i).toNat)
      case atStart => exact ⟨0, [], by omega, rfl, rfl, rfl, rfl, Out.nil _ _, Below.refl _ _⟩
      case round =>
        obtain ⟨k, es, hk, rfl, hes, hel, hgo, O, BW⟩ := hrel
        have HES := Lib.hid hes
        have HEL := Lib.hid hel
        have HGO := Lib.hid hgo
        clear hes hel hgo
        by_cases hlt : k < legs.length
        · obtain ⟨b, off, hA, hb, hcl⟩ := I1.get (k := k) (by simpa using hlt)
          clear hcl hb
          subst hA
          have hx := legItem I1 BW hlt
          have hsm := hs _ (List.getElem_mem hlt)
          have HT := Lib.hid (show (legs.take (k + 1)).map (bindX pt sec via) = es ++ [bindX pt sec via legs[k]] by rw [HES.out, List.take_succ_eq_append_getElem hlt, List.map_append]; rfl)
          have HG := Lib.hid (show bindGoE pt legs = orE (orE (legCheck legs[k]) (orE (ptOf pt legs[k].fix).2 (ptOf pt legs[k].center).2)) (bindGoE pt (legs.drop (k + 1))) by rw [HGO.out, List.drop_eq_getElem_cons hlt]; rfl)
          clear HES HGO
          generalize legs[k] = x at hx hsm HT HG
          obtain ⟨rest, hrest⟩ : ∃ rest, bindGoE pt (legs.drop (k + 1)) = rest := ⟨_, rfl⟩
          rw [hrest] at HG
          have HRS := Lib.hid hrest
          clear hrest
          have hkc : k < c := by omega
          have i1 : Has_leg wr b (off + k * 13) := ⟨_, hx⟩
          have i2 : of_leg wr b (off + k * 13) = x := of_leg_eq hx
          have HO := Lib.hid (fun w' (h : Below wr.heap.size wr w') => O.below h)
          have HB := Lib.hid (fun w' (h : Below wr.heap.size wr w') => BW.trans (h.mono BW.size))
          clear O hx
          go_upto_region 9 with (fail)
          clear i1 i2
          have P0 : Blk (wr.alloc (.cells x.arr 77)) wr.heap.size x.arr := Blk.new _ _ _
          have D0 := alloc_below3 wr (.cells x.arr 77)
          generalize wr.alloc _ = W2 at P0 D0 ⊢
          obtain ⟨g1, hg1⟩ : ∃ g, g = wr.heap.size := ⟨_, rfl⟩
          rw [← hg1] at P0 ⊢
          clear hg1
          have hck := Lib.hid (check_any x W2 (HLw.out _ (HB.out _ D0)) hsm)
          have HXE := Lib.hid (show bindX pt sec via x = ⟨false, x, (ptOf pt x.fix).1.1, (ptOf pt x.fix).1.2, (ptOf pt x.center).1.1, (ptOf pt x.center).1.2, sec, via⟩ from rfl)
          generalize legCheck x = ck at hck HG
          have i1 : Has_leg W2 g1 0 := ⟨_, P0.is_leg⟩
          have i2 : of_leg W2 g1 0 = x := of_leg_eq P0.is_leg
          by_cases hc0 : ck = 0
          · subst hc0
            go_upto_region 12 with (go_at_call 53; (with_reducible refine callR hck.out ?_); intro w3 b3 _ _ _)
            have P3 := P0.step b3
            have D3 := below_step D0 b3
            clear i1 i2 P0 D0 b3 hck
            have i1 : Has_leg w3 g1 0 := ⟨_, P3.is_leg⟩
            have i2 : of_leg w3 g1 0 = x := of_leg_eq P3.is_leg
            go_upto_region 14 with (fail)
            clear i1 i2
            have P4 := P3.alloc (.cells (⟨false, x, 0, 0, 0, 0, sec, via⟩ : Entry).arr 82)
            have E4 := Blk.new w3 (⟨false, x, 0, 0, 0, 0, sec, via⟩ : Entry).arr 82
            have D4 := below_step D3 (alloc_below3 w3 (.cells (⟨false, x, 0, 0, 0, 0, sec, via⟩ : Entry).arr 82))
            generalize hW : w3.alloc _ = W4
            have hE : w3.alloc (.cells (⟨false, x, 0, 0, 0, 0, sec, via⟩ : Entry).arr 82) = W4 := hW
            rw [hE] at P4 E4 D4
            clear hW hE
            obtain ⟨g2, hg2⟩ : ∃ g, g = w3.heap.size := ⟨_, rfl⟩
            rw [← hg2] at E4 ⊢
            have hne : wr.heap.size ≤ g2 := by rw [hg2]; exact D3.size
            clear hg2 P3 D3
            obtain ⟨F, hF⟩ : ∃ F, x.fix = F := ⟨_, rfl⟩
            have k1 : W4.cell? ⟨g1, 1, none⟩ = some (.string ⟨F.toArray⟩) := by rw [← hF]; exact P4.cell 1
            rw [hF] at HXE HG
            obtain ⟨⟨⟨fx, fy⟩, fe⟩, hfp⟩ : ∃ fp, ptOf pt F = fp := ⟨_, rfl⟩
            rw [hfp] at HXE HG
            clear hF
            go_upto_if 41 with (fail)
            go_cut [15, 26] from 26 to 71 (fun v i wx => i = .int .i64 k ∧ fe = 0 ∧ Blk wx g1 x.arr ∧ Blk wx g2 (⟨false, x, fx, fy, 0, 0, sec, via⟩ : Entry).arr ∧ Below wr.heap.size wr wx)
            case first =>
              by_cases hf0 : F = []
              · have e : ((fx, fy), fe) = ((0, 0), 0) := by rw [← hfp, hf0]; rfl
                simp only [Prod.mk.injEq] at e
                obtain ⟨⟨rfl, rfl⟩, rfl⟩ := e
                subst hf0
                clear hfp HG HXE
                go_wp2
                go_meet
                exact ⟨by trivial, by trivial, P4, E4, D4⟩
              · have e : pt F = ((fx, fy), fe) := by rw [← hfp]; unfold ptOf; rw [if_neg (by simpa using hf0)]
                have hfb : F.isEmpty = false := by simpa using hf0
                clear hf0
                have hcall := Lib.hid (show Calls Tryz.prog 149 #[.agg cs, .string ⟨F.toArray⟩] W4 (Ret W4 (.tuple #[.agg (Pt.arr ⟨fx, fy⟩), .int .i64 fe])) from by have := HC.out F W4 (HB.out _ D4); rw [e] at this; exact this)
                have i1 : Has_db W4 g0 0 := ⟨_, (HX.out _ (HB.out _ D4)).is_db hsz9⟩
                have i2 : of_db W4 g0 0 = cs := of_db_eq ((HX.out _ (HB.out _ D4)).is_db hsz9)
                have HP := Lib.hid (fun w' (h : Below W4.heap.size W4 w') => P4.step h)
                have HE := Lib.hid (fun w' (h : Below W4.heap.size W4 w') => E4.step h)
                have HD := Lib.hid (fun w' (h : Below W4.heap.size W4 w') => below_step D4 h)
                have hne2 : g1 ≠ g2 := by intro h; subst h; have h1 := P4.of; have h2 := E4.of; rw [h1] at h2; have := congrArg Array.size h2; simp [Leg.arr, Entry.arr] at this
                clear P4 E4 D4 hfp e
                by_cases he : fe = 0
                · subst he
                  go_wp2_with (go_at_call 149; (with_reducible refine callR hcall.out ?_); intro w5 b5 _ _ _; have d2 := (HE.out _ b5).plain; have d3 := (HE.out _ b5).of)
                  all_goals try (exfalso; have hq : (!F.isEmpty) = false := (by assumption); rw [hfb] at hq; exact absurd hq (by decide))
                  go_meet
                  exact ⟨by trivial, by trivial, (HP.out _ b5).far hne2 _, (HE.out _ b5).set _, below_setRow' (HD.out _ b5) hne _⟩
                · have HR := Lib.hid (show bindS pt legs sec via = ([], fe) by
                    have h1 : bindGoE pt legs = fe := by rw [HG.out]; simp [orE, he]
                    rw [HS.out, h1, if_neg he])
                  clear HS HG HXE
                  go_wp2_with (go_at_call 149; (with_reducible refine callR hcall.out ?_); intro w5 b5 _ _ _; have d2 := (HE.out _ b5).plain; have d3 := (HE.out _ b5).of)
                  all_goals try (exfalso; have hq : (!F.isEmpty) = false := (by assumption); rw [hfb] at hq; exact absurd hq (by decide))
                  go_ret2
                  rw [HR.out]
                  exact RetBd.err _ _ _ (below_step BH.out (HB.out _ (below_setRow' (HD.out _ b5) hne _)))
            case rest =>
              obtain ⟨rfl, rfl, P5, E5, D5⟩ := hcut
              clear P4 E4 D4 k1 hfp
              obtain ⟨F, hF⟩ : ∃ F, x.center = F := ⟨_, rfl⟩
              have k1 : wc.cell? ⟨g1, 2, none⟩ = some (.string ⟨F.toArray⟩) := by rw [← hF]; exact P5.cell 2
              rw [hF] at HXE HG
              obtain ⟨⟨⟨mx, my⟩, me⟩, hfp⟩ : ∃ fp, ptOf pt F = fp := ⟨_, rfl⟩
              rw [hfp] at HXE HG
              clear hF
              go_upto_if 55 with (fail)
              go_cut [15, 26] from 26 to 71 (fun v i wx => i = .int .i64 k ∧ me = 0 ∧ Blk wx g1 x.arr ∧ Blk wx g2 (⟨false, x, fx, fy, mx, my, sec, via⟩ : Entry).arr ∧ Below wr.heap.size wr wx)
              case first =>
                by_cases hf0 : F = []
                · have e : ((mx, my), me) = ((0, 0), 0) := by rw [← hfp, hf0]; rfl
                  simp only [Prod.mk.injEq] at e
                  obtain ⟨⟨rfl, rfl⟩, rfl⟩ := e
                  subst hf0
                  clear hfp HG HXE
                  go_wp2
                  go_meet
                  exact ⟨by trivial, by trivial, P5, E5, D5⟩
                · have e : pt F = ((mx, my), me) := by rw [← hfp]; unfold ptOf; rw [if_neg (by simpa using hf0)]
                  have hfb : F.isEmpty = false := by simpa using hf0
                  clear hf0
                  have hcall := Lib.hid (show Calls Tryz.prog 149 #[.agg cs, .string ⟨F.toArray⟩] wc (Ret wc (.tuple #[.agg (Pt.arr ⟨mx, my⟩), .int .i64 me])) from by have := HC.out F wc (HB.out _ D5); rw [e] at this; exact this)
                  have i1 : Has_db wc g0 0 := ⟨_, (HX.out _ (HB.out _ D5)).is_db hsz9⟩
                  have i2 : of_db wc g0 0 = cs := of_db_eq ((HX.out _ (HB.out _ D5)).is_db hsz9)
                  have HP := Lib.hid (fun w' (h : Below wc.heap.size wc w') => P5.step h)
                  have HE := Lib.hid (fun w' (h : Below wc.heap.size wc w') => E5.step h)
                  have HD := Lib.hid (fun w' (h : Below wc.heap.size wc w') => below_step D5 h)
                  have hne2 : g1 ≠ g2 := by intro h; subst h; have h1 := P5.of; have h2 := E5.of; rw [h1] at h2; have := congrArg Array.size h2; simp [Leg.arr, Entry.arr] at this
                  clear P5 E5 D5 hfp e
                  by_cases he : me = 0
                  · subst he
                    go_wp2_with (go_at_call 149; (with_reducible refine callR hcall.out ?_); intro w5 b5 _ _ _; have d2 := (HE.out _ b5).plain; have d3 := (HE.out _ b5).of)
                    all_goals try (exfalso; have hq : (!F.isEmpty) = false := (by assumption); rw [hfb] at hq; exact absurd hq (by decide))
                    go_meet
                    exact ⟨by trivial, by trivial, (HP.out _ b5).far hne2 _, (HE.out _ b5).set _, below_setRow' (HD.out _ b5) hne _⟩
                  · have HR := Lib.hid (show bindS pt legs sec via = ([], me) by
                      have h1 : bindGoE pt legs = me := by rw [HG.out]; simp [orE, he]
                      rw [HS.out, h1, if_neg he])
                    clear HS HG HXE
                    go_wp2_with (go_at_call 149; (with_reducible refine callR hcall.out ?_); intro w5 b5 _ _ _; have d2 := (HE.out _ b5).plain; have d3 := (HE.out _ b5).of)
                    all_goals try (exfalso; have hq : (!F.isEmpty) = false := (by assumption); rw [hfb] at hq; exact absurd hq (by decide))
                    go_ret2
                    rw [HR.out]
                    exact RetBd.err _ _ _ (below_step BH.out (HB.out _ (below_setRow' (HD.out _ b5) hne _)))
              case rest =>
                obtain ⟨rfl, rfl, P6, E6, D6⟩ := hcut
                clear P5 E5 D5 k1 hfp P6
                obtain ⟨y, hy⟩ : ∃ y, (⟨false, x, fx, fy, mx, my, sec, via⟩ : Entry) = y := ⟨_, rfl⟩
                have HY := Lib.hid (show bindX pt sec via x = y by rw [HXE.out, ← hy])
                rw [hy] at E6
                have HG2 := Lib.hid (show bindGoE pt legs = rest from HG.out)
                clear hy HXE HG
                have i1 : Has_ent wc g2 0 := ⟨_, E6.is_ent⟩
                have i2 : of_ent wc g2 0 = y := of_ent_eq E6.is_ent
                have OA := Lib.hid ((HO.out _ D6).alloc (.cells y.arr 82))
                have BA := Lib.hid ((HB.out _ D6).alloc (HB.out _ D6).size (.cells y.arr 82))
                have hen := HEL.out
                have hba : W1.heap.size ≤ (wc.alloc (.cells y.arr 82)).heap.size := BA.out.size
                go_wp2_with (at_builtin; refine wpList_append_out rfl (.tmp 67) (.tmp 69) rfl OA.out rfl [y] wc.heap.size 1 1 rfl rfl (Blk.one wc y _) (by simp; omega) hba ?_; intro v5 W5 O5 hg5)
                go_roundw
                case rel =>
                  exact ⟨k + 1, es ++ [y], by omega, by go_num, by rw [HT.out, HY.out], by simp; omega, by rw [HG2.out, HRS.out], O5, below_grown BA.out OA.out hg5⟩
                case measure => simp [intOf]; omega
          · have HR := Lib.hid (show bindS pt legs sec via = ([], ck) by
              have h1 : bindGoE pt legs = ck := by rw [HG.out]; simp [orE, hc0]
              rw [HS.out, h1, if_neg hc0])
            clear HS HG
            go_wp2_with (go_at_call 53; (with_reducible refine callR hck.out ?_); intro w3 b3 _ _ _)
            go_ret2
            rw [HR.out]
            exact RetBd.err _ _ _ (below_step BH.out (HB.out _ (below_step D0 b3)))
        · have hes := HES.out
          rw [List.take_of_length_le (by omega)] at hes
          have HR := Lib.hid (show bindS pt legs sec via = (es, 0) by
            have h1 : bindGoE pt legs = 0 := by rw [HGO.out, List.drop_of_length_le (by omega)]; rfl
            rw [HS.out, if_pos h1, ← hes])
          obtain ⟨A2, c2, rfl, hc2, hE2, _⟩ := O.form
          clear HS HGO HES hes O
          go_wp2
          go_ret2
          rw [HR.out]
          exact ⟨A2, c2, rfl, hc2, hE2, below_step BH.out BW⟩
end Go.Proofs.YtlggdgpdfepppaaGreatDoor
