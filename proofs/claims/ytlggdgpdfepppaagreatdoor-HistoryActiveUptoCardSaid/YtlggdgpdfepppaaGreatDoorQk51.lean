/- JoinAirway over any database; walk. -/
import Derived.Test.YtlggdgpdfepppaaGreatDoorQk49
import Derived.Test.YtlggdgpdfepppaaGreatDoorQk48
import Derived.Test.YtlggdgpdfepppaaGreatDoorQk36
namespace Go.Proofs.YtlggdgpdfepppaaGreatDoor
open Go.RowKit Go.Sort
set_option linter.unusedVariables false
set_option linter.unusedSimpArgs false
set_option maxRecDepth 100000
theorem put_len1 {a b m k : Nat} (h1 : a ≤ 60) (h2 : b ≤ 100000) : min k a + b + (a - m) ≤ 1000000 := by omega
theorem put_len2 {a b k : Nat} (h1 : a ≤ 60) (h2 : b ≤ 100000) : min k a + b + 1 ≤ 1000000 := by omega
attribute [local go_sem ↓] bawyG_fold bleg_fold bsl1_fold slE_fold
attribute [local go_sem] Has_db_alloc5 of_db_alloc5 Has_db_drew5 of_db_drew5 run_bawyG run_bleg3 run_bsl1 run_slE_hk1 run_slE_lk1 awyArr_ones awyArr_sz awyArr_fits awyArr_splice Has_awy_drewR of_awy_drewR Has_ent_drewR of_ent_drewR
set_option maxHeartbeats 16000000 in
theorem ejoinG (x : Edr) (d : DBs) (G : GDB) (g : Nat) (w W : World) (h : Ed w W g x []) (P : GPre w x d G) (hat : x.e.at_ < x.p.es.length) : Calls Tryz.prog 93 #[.pointer (some ⟨g, 0, none⟩)] W (RetRun w g x (joinS (lookG G) x.p x.e)) := by
  have c11 := h.c11
  have c14 := h.c14
  go_enter Tryz.func93, Tryz.ntmps93
  go_upto_region 1 with (fail)
  go_region
  replace h := h.drw
  clear c11 c14
  generalize W.drew = W1 at h ⊢
  clear W
  have c12 := h.c12
  by_cases h1 : x.e.at_ < x.p.active
  · have HS := Lib.hid (show joinS (lookG G) x.p x.e = .bad 8 from if_pos h1)
    have HX := Lib.hid h
    clear h P hat
    go_wp2
    go_ret
    exact RetRun.bad HS.out (by decide) HX.out.bel
  · have h0 := P.at0
    obtain ⟨k, hk⟩ : ∃ k : Nat, x.e.at_ = k := ⟨x.e.at_.toNat, by omega⟩
    have hkl : k < x.p.es.length := by omega
    obtain ⟨b, off, hA, hcl⟩ := P.ents.ent hkl
    have HEn := Lib.hid (fun W' (bb : Below w.heap.size w W') => (show Ents W' (some ⟨b, off, none⟩) x.p.es from by have := P.ents.below (B := 0) bb; rwa [hA] at this))
    have HC := Lib.hid P.cap
    have HN := Lib.hid P.len
    have hkc2 : k + 1 ≤ x.c := by have := P.cap; omega
    have hlt : (k : Int) < (x.p.es.length : Int) := by omega
    have hw1 : wrap64 ((k : Int) + 1) = (k : Int) + 1 := IntWalk.wrap64_in _ (by have := P.len; omega)
    have HS0 : joinS (lookG G) x.p x.e = if !endsE (entAt x.p k) then .bad 17 else if (wayG G.airways x.e.name (entAt x.p k).leg.fix x.e.ref).2 ≠ 0 then .bad (wayG G.airways x.e.name (entAt x.p k).leg.fix x.e.ref).2 else
        if (bindS (lookG G).pt ((wayG G.airways x.e.name (entAt x.p k).leg.fix x.e.ref).1.map wayLeg) (entAt x.p k).sec x.e.name).2 ≠ 0 then .bad (bindS (lookG G).pt ((wayG G.airways x.e.name (entAt x.p k).leg.fix x.e.ref).1.map wayLeg) (entAt x.p k).sec x.e.name).2 else
        if 0 ≤ searchE x.p.es ((k : Int) + 1) x.e.ref then keepR x.p (x.p.es.take (k + 1) ++ (bindS (lookG G).pt ((wayG G.airways x.e.name (entAt x.p k).leg.fix x.e.ref).1.map wayLeg) (entAt x.p k).sec x.e.name).1 ++ x.p.es.drop ((searchE x.p.es ((k : Int) + 1) x.e.ref).toNat + 1))
        else keepR x.p (x.p.es.take (k + 1) ++ (bindS (lookG G).pt ((wayG G.airways x.e.name (entAt x.p k).leg.fix x.e.ref).1.map wayLeg) (entAt x.p k).sec x.e.name).1 ++ [gapE] ++ x.p.es.drop (k + 1)) := by
      unfold joinS; rw [if_neg h1, hk, Int.toNat_natCast]; rfl
    rw [hk] at h1 ⊢
    have AH := Lib.hid hA
    have hI := hcl W1 h.bel
    generalize entAt x.p k = y at HS0 hI
    have i1 : Has_ent W1 b (off + k * 20) := ⟨_, hI⟩
    have i2 : of_ent W1 b (off + k * 20) = y := of_ent_eq hI
    have HX := Lib.hid h
    have HPG := Lib.hid P
    obtain ⟨A7, c7, h7, hl7, hA7⟩ := P.gd.air
    rw [P.db] at h7
    have kw := Lib.hid (fun (W' : World) (D : Below w.heap.size w W') => navawy_any x.db G.airways A7 c7 h7 hl7 P.gd.airN x.e.name W' (hA7.below D) P.gd.airS)
    have HWL := Lib.hid (show wayG G.airways x.e.name y.leg.fix x.e.ref = match awyFind x.e.name G.airways with | none => ([], 6) | some w => awyExpand w y.leg.fix x.e.ref from rfl)
    have HAL := Lib.hid (show awyLook G.airways x.e.name = match awyFind x.e.name G.airways with | none => (noAwy, 6) | some a => (a, 0) from rfl)
    have HAS := Lib.hid (fun a (ha : awyFind x.e.name G.airways = some a) => P.gd.airS a (awyFind_mem ha))
    clear h hcl hk hat h0 hI P h7 hl7 hA7
    go_upto_region 5 with (fail)
    have Y := Blk.new W1 y.arr 82
    have X := HX.out.alloc (.cells y.arr 82)
    have F := FarB.new HX.out (.cells y.arr 82)
    clear HX i1 i2 c12
    generalize W1.alloc _ = W2 at Y X F ⊢
    generalize W1.heap.size = gy at Y F ⊢
    clear W1
    have j1 : Has_ent W2 gy 0 := ⟨_, Y.is_ent⟩
    have j2 : of_ent W2 gy 0 = y := of_ent_eq Y.is_ent
    have kE := Lib.hid (eends_any y W2)
    cases hen : endsE y with
    | false =>
      rw [hen] at kE HS0
      have HS := Lib.hid (show joinS (lookG G) x.p x.e = .bad 17 from HS0)
      have HX := Lib.hid X
      clear X HS0
      go_wp2_with (go_at_call 121; (with_reducible refine callR kE.out ?_); intro w3 b3 _ _ _)
      go_ret
      exact RetRun.bad HS.out (by decide) (HX.out.step b3).bel
    | true =>
      rw [hen] at kE HS0
      have HS := Lib.hid (HS0.trans (if_neg (by decide)))
      have HX := Lib.hid X
      clear X HS0 hen
      go_upto_region 7 with (go_at_call 121; (with_reducible refine callR kE.out ?_); intro w3 b3 _ _ _)
      have X3 := HX.out.step b3
      have Y3 := Lib.hid (Y.step b3)
      have F3 := Lib.hid (F.below b3)
      have c16 := X3.c16
      have k2 : of_db w3 g 0 = x.db := of_db_eq X3.is_db
      have k1 : Has_db w3 g 0 := ⟨_, X3.is_db⟩
      have hltg := X3.lt
      have HX3 := Lib.hid X3
      clear X3 HX b3 Y F j1 j2 kE
      obtain ⟨r, hr⟩ : ∃ r, awyLook G.airways x.e.name = r := ⟨_, rfl⟩
      rw [hr] at kw HAL
      clear hr
      go_cut [6, 7] (fun v e wx => ∃ q cs, v = .pointer (some ⟨q, 0, none⟩) ∧ e = .int .i64 r.2 ∧ Blk wx q cs ∧ w3.heap.size ≤ q ∧ AwyFar wx w3.heap.size cs r.1 ∧ Below w3.heap.size w3 wx)
      case first =>
        have HBE := Lib.hid HX3.out.bel
        generalize x.e.name = nm at *
        generalize x.db = cs at *
        go_region_with (go_at_call 122; (with_reducible refine callAwy (kw.out _ (by first | exact below_step HBE.out (Below.refl _ _).drew | exact below_step HBE.out (below_step (Below.refl _ _).drew (alloc_below5 _ _)) | exact below_step HBE.out (alloc_below5 _ _).drew)) ?_); intro cs2 w4 h4 b4; obtain ⟨A5, c5, hcs, _, _⟩ := h4.at_.ex; subst hcs; first | (have Y4 : Blk w4 w3.heap.size (awyArr noAwy none 0) := (((Blk.new w3 #[.string ⟨#[]⟩, .slice none 0 0] 174).step (Below.refl _ _).drew)).step b4; have e4 := below_step (alloc_below5 w3 (.cells #[.string ⟨#[]⟩, .slice none 0 0] 174)).drew b4; have d4 := Y4.plain; have d5 := Y4.of) | skip)
        all_goals
          go_wp2
          go_meet
          first
            | exact ⟨_, _, rfl, rfl, Blk.new _ _ _, Nat.le_trans b4.size (by simp), (h4.mono (by simp)).keep (fun b _ hb => by rw [heap_alloc_old _ _ hb]) (by simp), below_step (Below.refl _ _).drew (below_step b4 (alloc_below5 _ _))⟩
            | exact ⟨_, _, rfl, rfl, Y4.set _, Nat.le_refl _, (h4.keep (fun b hb _ => setRow_other _ _ _ _ (by simp at hb; omega)) (by simp [World.setRow])).mono (by simp), below_setRow' e4 (Nat.le_refl _) _⟩
      case rest =>
        obtain ⟨q, cs, rfl, rfl, Q, hq, HFar, BC⟩ := hcut
        have X4 := Lib.hid (HX3.out.step BC)
        have Y4 := Lib.hid (Y3.out.step BC)
        have F4 := Lib.hid (F3.out.below BC)
        obtain ⟨A5, c5, hcs, _, _⟩ := HFar.at_.ex
        subst hcs
        clear kw HX3 Y3 F3 k1 k2 c16 hltg BC
        cases hf2 : awyFind x.e.name G.airways with
        | none =>
          rw [hf2] at HWL HAL
          have hr : r = (noAwy, 6) := HAL.out
          subst hr
          have HSB := Lib.hid (show joinS (lookG G) x.p x.e = .bad 6 by rw [HS.out, HWL.out]; rfl)
          clear HS HWL HAL HAS hf2
          go_wp2
          go_ret
          exact RetRun.bad HSB.out (by decide) X4.out.bel
        | some a =>
          rw [hf2] at HWL HAL
          have hr : r = (a, 0) := HAL.out
          subst hr
          have has := HAS.out a hf2
          have hwg : wayG G.airways x.e.name y.leg.fix x.e.ref = awyExpand a y.leg.fix x.e.ref := HWL.out
          have HS1 := HS.out
          have hway : (wayG G.airways x.e.name y.leg.fix x.e.ref).1.length ≤ 100000 ∧ ∀ q ∈ (wayG G.airways x.e.name y.leg.fix x.e.ref).1, q.1.length ≤ 4000000000 := HPG.out.ok.way x.e.name y.leg.fix x.e.ref
          rw [hwg] at HS1 hway
          have ke := Lib.hid (fun W' (D : Below wc.heap.size wc W') => aexpand_any a (awyArr a A5 c5) y.leg.fix x.e.ref W' (HPG.out.laid.below (below_step X4.out.bel D)) (HFar.at_.below D) has)
          clear HS HWL HAL HAS hf2 hwg
          generalize awyExpand a y.leg.fix x.e.ref = ex at *
          obtain ⟨pts, pe⟩ := ex
          have HS := Lib.hid HS1
          clear HS1
          go_upto_region 10 with (fail)
          go_cut [8, 7] (fun v e wx => ∃ A c, v = .slice A pts.length c ∧ e = .int .i64 pe ∧ pts.length ≤ c ∧ Items wx A 4 (pts.map wptA) ∧ Below wc.heap.size wc wx)
          case first =>
            have i1 : Has_awy wc q 0 := ⟨_, Q.is_awy rfl⟩
            have i2 : of_awy wc q 0 = awyArr a A5 c5 := of_awy_eq (Q.is_awy rfl)
            have y2 : wc.cell? ⟨gy, 2, none⟩ = some (.string ⟨y.leg.fix.toArray⟩) := Y4.out.cell 2
            have c15 := X4.out.c15
            generalize x.e.ref = rf at *
            generalize y.leg.fix = fx at *
            go_region_with (go_at_call 123; (with_reducible refine callWay (ke.out _ (Below.refl _ _).drew) ?_); intro A9 c9 w9 hl9 hI9 b9)
            all_goals
              go_wp2
              go_meet
              exact ⟨A9, c9, rfl, rfl, hl9, hI9, below_step (Below.refl _ _).drew b9⟩
          case rest =>
            obtain ⟨A9, c9, rfl, rfl, hl9, hI9, BC⟩ := hcut
            have X5 := Lib.hid (X4.out.step BC)
            have Y5 := Lib.hid (Y4.out.step BC)
            have F5 := Lib.hid (F4.out.below BC)
            clear X4 Y4 F4 ke BC Q HFar hq has
            by_cases hz : pe = 0
            case neg =>
              have hz' : (pe != 0) = true := by simpa using hz
              have HSB := Lib.hid (show joinS (lookG G) x.p x.e = .bad pe from HS.out.trans (if_pos hz))
              have HZ := Lib.hid hz
              clear HS hz hI9
              go_wp2
              go_ret
              exact RetRun.bad HSB.out HZ.out X5.out.bel
            subst hz
            have HS := Lib.hid (HS.out.trans (if_neg (not_not_intro rfl)))
            have HI9 := Lib.hid (fun W' (D : Below wc.heap.size wc W') => hI9.below D)
            have HL9 := Lib.hid hl9
            clear hI9 hl9
            go_wp2
            go_loopw [9, 72] (fun v iv wr => ∃ i : Nat, i ≤ pts.length ∧ iv = .int .i64 i ∧ GOut wc.heap.size wr 77 13 v (((pts.take i).map wayLeg).map Leg.arr) ∧ Below wc.heap.size wc wr) (fun _ iv _ => pts.length - (intOf iv).toNat)
            case atStart => exact ⟨0, Nat.zero_le _, rfl, GOut.nil _ _ _ _, Below.refl _ _⟩
            case round =>
              obtain ⟨i, hi, rfl, O, BW⟩ := hrel
              have HW1 := Lib.hid hway
              by_cases hlt : i < pts.length
              · obtain ⟨b9, o9, hA9, hb9, hcl9⟩ := (HI9.out wr BW).get (k := i) (by simpa using hlt)
                subst hA9
                have hq : Is_apt wr b9 (o9 + i * 4) (wpt pts[i]) := fun j hj => by
                  have := hcl9 j hj
                  rw [List.getElem_map] at this
                  exact this
                have HT := Lib.hid (show (pts.take (i + 1)).map wayLeg = (pts.take i).map wayLeg ++ [wayLeg pts[i]] by rw [List.take_succ_eq_append_getElem hlt, List.map_append]; rfl)
                generalize pts[i] = q at hq HT
                obtain ⟨qr, qa, qb⟩ := q
                have i1 : Has_apt wr b9 (o9 + i * 4) := ⟨_, hq⟩
                have i2 : of_apt wr b9 (o9 + i * 4) = wpt (qr, qa, qb) := of_apt_eq hq
                have hlt' : (i : Int) < (pts.length : Int) := by omega
                have hic : i < c9 := by have := HL9.out; omega
                have HOO := Lib.hid O
                have HB := Lib.hid BW
                clear O BW hcl9 hb9 hq
                go_upto_region 17 with (fail)
                have Y9 := Blk.new wr (wpt (qr, qa, qb)).arr 181
                have O1 := HOO.out.alloc (.cells (wpt (qr, qa, qb)).arr 181)
                have B1 := below_step HB.out (alloc_below5 wr (.cells (wpt (qr, qa, qb)).arr 181))
                clear i1 i2 HOO HB
                generalize wr.alloc _ = w1 at Y9 O1 B1 ⊢
                generalize wr.heap.size = gp at Y9 ⊢
                have y0 : w1.cell? ⟨gp, 0, none⟩ = some (.string ⟨qr.toArray⟩) := Y9.cell 0
                have y1 : Has_win w1 gp 1 := ⟨_, APt.win_at Y9.is_apt⟩
                have y2 : of_win w1 gp 1 = ⟨qa, qb⟩ := of_win_eq (APt.win_at Y9.is_apt)
                have O2 := O1.alloc (.cells (⟨2, qr, [], 0, false, 0, 0, 0, 0, qa, qb, 0, 0⟩ : Leg).arr 77)
                have B2 := below_step B1 (alloc_below5 w1 (.cells (⟨2, qr, [], 0, false, 0, 0, 0, 0, qa, qb, 0, 0⟩ : Leg).arr 77))
                have hq2 := Blk.new w1 (⟨2, qr, [], 0, false, 0, 0, 0, 0, qa, qb, 0, 0⟩ : Leg).arr 77
                have h5 : pts.length ≤ 100000 := HW1.out.1
                go_wp2_with (at_builtin; refine wpList_append_item rfl (.tmp 76) (.tmp 82) _ 77 13 112 _ infoA_leg rfl (by omega) Tryz.underlying179 rfl O2 rfl (⟨2, qr, [], 0, false, 0, 0, 0, 0, qa, qb, 0, 0⟩ : Leg).arr w1.heap.size 1 (Leg.arr_size _) (Leg.arr_one _) rfl hq2.cell (by rw [List.length_map, List.length_map, List.length_take]; unfold maxLen; omega) (by rw [List.length_map, List.length_map, List.length_take]; omega) B2.size ?_; intro v5 W5 O5 g5)
                go_roundw
                case rel => exact ⟨i + 1, by omega, by go_num, by rw [HT.out, List.map_append]; exact O5, O2.below_grown g5 B2 (Nat.le_refl _) B2.size⟩
                case measure => simp [intOf]; omega
              · obtain rfl : i = pts.length := by omega
                have hlt' : ¬ (pts.length : Int) < (pts.length : Int) := by omega
                rw [List.take_length] at O
                obtain ⟨A3, c3, e3, hl3, hI3, _, _⟩ := O.form (by intro y hy; obtain ⟨q, _, rfl⟩ := List.mem_map.1 hy; exact Leg.arr_size _)
                rw [List.length_map, List.length_map] at e3 hl3
                subst e3
                have X6 := Lib.hid (X5.out.step BW)
                have Y6 := Lib.hid (Y5.out.step BW)
                have hlen6 : (pts.map wayLeg).length ≤ 1000000 := by rw [List.length_map]; have : pts.length ≤ 100000 := HW1.out.1; omega
                have kb := Lib.hid (fun (W' : World) (D : Below wr.heap.size wr W') => show Calls Tryz.prog 124 #[.agg x.db, .slice A3 pts.length c3, .int .u8 y.sec, .string ⟨x.e.name.toArray⟩] W' (RetBd W' (bindS (lookG G).pt (pts.map wayLeg) y.sec x.e.name)) from by
                  have := HPG.out.bind W' (below_step X6.out.bel D) (pts.map wayLeg) A3 c3 y.sec x.e.name (hI3.below D) (by rw [List.length_map]; exact hl3) hlen6 (fun l hl => by obtain ⟨q, hq, rfl⟩ := List.mem_map.1 hl; exact wayLeg_small (HW1.out.2 q hq)) (by have := HPG.out.nm; omega)
                  rwa [List.length_map] at this)
                have hbl := fun h => @bindS_len0 (lookG G).pt (pts.map wayLeg) y.sec x.e.name h
                rw [List.length_map] at hbl
                clear O X5 Y5 HI9 HL9 hlen6 hI3 hl3 hi hlt hlt' F5
                generalize bindS (lookG G).pt (pts.map wayLeg) y.sec x.e.name = bd at *
                obtain ⟨bl, be⟩ := bd
                have HBL := Lib.hid hbl
                clear hbl hway
                go_upto_region 19 with (fail)
                go_cut [12, 7] (fun v e wx => ∃ A c, v = .slice A bl.length c ∧ e = .int .i64 be ∧ bl.length ≤ c ∧ Ents wx A bl ∧ Below wr.heap.size wr wx)
                case first =>
                  have c16 := X6.out.c16
                  have k2 : of_db wr g 0 = x.db := of_db_eq X6.out.is_db
                  have k1 : Has_db wr g 0 := ⟨_, X6.out.is_db⟩
                  have y18 : wr.cell? ⟨gy, 18, none⟩ = some (.int .u8 y.sec) := Y6.out.cell 18
                  generalize x.e.name = nm at *
                  generalize x.db = cs at *
                  generalize y.sec = sc at *
                  go_region_with (go_at_call 124; (with_reducible refine callBd (kb.out _ (Below.refl _ _).drew) ?_); intro A4 c4 w4 hl4 hE4 b4)
                  all_goals
                    go_wp2
                    go_meet
                    exact ⟨A4, c4, rfl, rfl, hl4, hE4, below_step (Below.refl _ _).drew b4⟩
                case rest =>
                  obtain ⟨A4, c4, rfl, rfl, hl4, hE4, BD⟩ := hcut
                  have X7 := X6.out.step BD
                  clear X6 Y6 kb BD BW hl4
                  by_cases hz : be = 0
                  case neg =>
                    have hz' : (be != 0) = true := by simpa using hz
                    have HSB := Lib.hid (show joinS (lookG G) x.p x.e = .bad be from HS.out.trans (if_pos hz))
                    have HZ := Lib.hid hz
                    have HX := Lib.hid X7
                    clear HS hz hE4 X7
                    go_wp2
                    go_ret
                    exact RetRun.bad HSB.out HZ.out HX.out.bel
                  subst hz
                  have HS := Lib.hid (HS.out.trans (if_neg (not_not_intro rfl)))
                  have HBN := Lib.hid (show bl.length = pts.length from HBL.out rfl)
                  have hb5 : pts.length ≤ 100000 := HW1.out.1
                  have FA := FarE.of hE4 X7.blk HPG.out.own
                  have K1 := Lib.hid (put_any x [] (x.p.es.take (k + 1)) (subE (some ⟨b, off, none⟩) 0 x.c) x.c (k + 1) g w wc X7 (HEn.out _ X7.bel).take (by rw [List.length_take]; omega) (by have := HN.out; simp; omega))
                  rw [List.nil_append] at K1
                  clear hE4 HBL HW1
                  go_upto_region 23 with (go_at_call 118; (with_reducible refine callPut K1.out ?_); intro v7 W7 X8 kp)
                  have FA7 := FA.put kp
                  have K2 := Lib.hid (put_any { x with v := v7 } (x.p.es.take (k + 1)) bl A4 c4 bl.length g w W7 X8 FA7.ents rfl (by rw [List.length_take]; have := HN.out; have := HBN.out; omega))
                  clear K1 kp FA X7
                  go_upto_region 24 with (go_at_call 118; (with_reducible refine callPut K2.out ?_); intro v8 W8 X9 _)
                  have c15 := X9.c15
                  have KS := Lib.hid (search_any x.p.es (some ⟨b, off, none⟩) x.p.es.length x.c ((k : Int) + 1) x.e.ref W8 (HEn.out _ X9.bel) rfl (by have := HN.out; omega) (by have := HN.out; omega))
                  have hrange := findGo_range ((k : Int) + 1) x.e.ref x.p.es 0
                  have hse : searchE x.p.es ((k : Int) + 1) x.e.ref = findGo ((k : Int) + 1) x.e.ref x.p.es 0 := rfl
                  rw [← hse] at hrange
                  have HSI := HS.out
                  generalize searchE x.p.es ((k : Int) + 1) x.e.ref = z at KS HSI hrange
                  clear hse HS K2 X8 FA7
                  have hk1 : k + 1 ≤ x.p.es.length := by omega
                  rcases hrange with rfl | ⟨m, hm, rfl⟩
                  · have HS := Lib.hid (show joinS (lookG G) x.p x.e = keepR x.p (x.p.es.take (k + 1) ++ bl ++ [gapE] ++ x.p.es.drop (k + 1)) from HSI.trans (if_neg (by decide)))
                    clear HSI
                    go_upto_region 28 with (go_at_call 117; (with_reducible refine callR KS.out ?_); intro w4 b4 _ _ _)
                    have Xa := X9.step b4
                    have g1 : Has_ent w4 3 0 := ⟨_, (HPG.out.gap.below Xa.bel).is⟩
                    have g2 : of_ent w4 3 0 = gapE := of_ent_eq (HPG.out.gap.below Xa.bel).is
                    have KG := Lib.hid (put_any { x with v := v8 } (x.p.es.take (k + 1) ++ bl) [gapE] (some ⟨w4.heap.size, 0, none⟩) 1 1 g w _ (Xa.alloc (.cells gapE.arr 82)) (ents1 (Blk.new _ _ _)) rfl (by rw [List.length_append, List.length_take]; exact put_len2 HN.out (by rw [HBN.out]; exact hb5)))
                    clear KS X9 b4 c15
                    go_wp2_with (first
                      | (go_at_call 118; (with_reducible refine callPut KG.out ?_); intro va Wa Xb _
                         have KR := Lib.hid (put_any { x with v := va } (x.p.es.take (k + 1) ++ bl ++ [gapE]) (x.p.es.drop (k + 1)) (subE (some ⟨b, off, none⟩) (k + 1) x.c) (x.c - (k + 1)) (x.p.es.length - (k + 1)) g w Wa Xb ((HEn.out Wa Xb.bel).drop HC.out) (by rw [List.length_drop]) (by rw [List.length_append, List.length_append, List.length_take, List.length_singleton]; have := HN.out; have := HBN.out; omega)))
                      | (go_at_call 118; (with_reducible refine callPut KR.out ?_); intro vb Wb Xc _))
                    go_ret
                    exact RetRun.keep HS.out Xc
                  · rw [Nat.zero_add] at HSI KS
                    have HS := Lib.hid (show joinS (lookG G) x.p x.e = keepR x.p (x.p.es.take (k + 1) ++ bl ++ x.p.es.drop (m + 1)) by rw [HSI, if_pos (by simp)]; simp)
                    have hw2 : wrap64 ((m : Int) + 1) = (m : Int) + 1 := IntWalk.wrap64_in _ (by have := HN.out; omega)
                    have hm1 : m + 1 ≤ x.p.es.length := hm
                    clear HSI
                    go_upto_region 26 with (go_at_call 117; (with_reducible refine callR KS.out ?_); intro w4 b4 _ _ _)
                    have Xa := X9.step b4
                    have KR := Lib.hid (put_any { x with v := v8 } (x.p.es.take (k + 1) ++ bl) (x.p.es.drop (m + 1)) (subE (some ⟨b, off, none⟩) (m + 1) x.c) (x.c - (m + 1)) (x.p.es.length - (m + 1)) g w w4 Xa ((HEn.out w4 Xa.bel).drop HC.out) (by rw [List.length_drop]) (by rw [List.length_append, List.length_take]; exact put_len1 HN.out (by rw [HBN.out]; exact hb5)))
                    clear KS X9 b4 c15
                    go_wp2_with (go_at_call 118; (with_reducible refine callPut KR.out ?_); intro vb Wb Xc _)
                    go_ret
                    exact RetRun.keep HS.out Xc
end Go.Proofs.YtlggdgpdfepppaaGreatDoor
