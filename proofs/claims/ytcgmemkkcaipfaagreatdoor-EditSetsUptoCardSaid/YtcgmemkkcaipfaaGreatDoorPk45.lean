/- The empty database: the places, and the methods of an edit that ask it; walks. -/
import Derived.Test.YtcgmemkkcaipfaaGreatDoorPk44
namespace Go.Proofs.YtcgmemkkcaipfaaGreatDoor
open Go.RowKit Go.Sort
set_option linter.unusedVariables false
set_option linter.unusedSimpArgs false
set_option maxRecDepth 100000
attribute [local go_sem] ba_append
set_option maxHeartbeats 1000000 in
theorem zplace_any (s : List UInt8) (w : World) (hL : Laid w) (hs : s.length ≤ 4000000000) : Calls Tryz.prog 174 #[.string ⟨s.toArray⟩] w
    (Ret w (.tuple #[.string ⟨(if pairB s 47 6 then (cutAt 47 s).1 else []).toArray⟩, .string ⟨(if pairB s 47 6 then (cutAt 47 s).2.1 else []).toArray⟩, .bool (pairB s 47 6)])) := by
  have hc := cutAt_len 47 s
  have kc := Lib.hid (cut_ret s 47 w hL hs)
  have HP := Lib.hid (show pairB s 47 6 = pair3 (cutAt 47 s) 6 from rfl)
  generalize pairB s 47 6 = ok at HP ⊢
  generalize cutAt 47 s = q at *
  obtain ⟨a, b, f⟩ := q
  simp only at hc
  obtain ⟨ha, hb⟩ := hc
  have ka := Lib.hid (fun w' => name_any a 6 w' (by omega))
  have kb := Lib.hid (fun w' => name_any b 6 w' (by omega))
  have HP := Lib.hid (show ok = (nameB a 6 && (!f || nameB b 6)) from HP.out)
  generalize nameB a 6 = na at *
  generalize nameB b 6 = nb at *
  cases f <;> cases na <;> cases nb
  all_goals
    obtain rfl := HP.out
    clear HP
    go_enter Tryz.func174, Tryz.ntmps174
    go_wp2_with (first
      | (go_at_call 147; (with_reducible refine callR kc.out ?_); intro w1 b1 _ _ _)
      | (go_at_call 98; (with_reducible first | refine callP (ka.out _) ?_ | refine callP (kb.out _) ?_)))
    go_ret3
    exact ⟨rfl, b1⟩
attribute [local go_sem ↓] bfix_fold
attribute [local go_sem] run_bfix0
set_option maxHeartbeats 2000000 in
theorem ePlace0 (s : List UInt8) (w : World) (hL : Laid w) (hs : s.length ≤ 4000000000) : Calls Tryz.prog 121 #[.agg cells0, .string ⟨s.toArray⟩] w
    (Ret w (.tuple #[.string ⟨#[]⟩, .int .i64 (if pairB s 47 6 then 6 else 4)])) := by
  have hc := cutAt_len 47 s
  have kp := Lib.hid (fun (W' : World) (b : Below w.heap.size w W') => zplace_any s W' (hL.below b) hs)
  have kf := Lib.hid (fun (r : List UInt8) w' => show Calls Tryz.prog 175 #[.agg cells0, .string ⟨r.toArray⟩] w' (Ret w' (.tuple #[.agg noFix.arr, .int .i64 6])) from navfix_any db0 [] r w' (db0_at w'))
  generalize cutAt 47 s = q at *
  obtain ⟨a, b, f⟩ := q
  simp only at hc
  obtain ⟨ha, hb⟩ := hc
  generalize pairB s 47 6 = ok at *
  go_enter Tryz.func121, Tryz.ntmps121
  go_upto_region 1 with (fail)
  have X0 : Blk (w.alloc (.cells cells0 30)) w.heap.size cells0 := Blk.new w _ _
  have B0 := alloc_below5 w (.cells cells0 30)
  generalize w.alloc _ = W at X0 B0 ⊢
  generalize w.heap.size = g0 at X0 ⊢
  cases ok
  · go_wp2_with (go_at_call 174; (with_reducible refine callR (kp.out _ B0) ?_); intro w1 b1 _ _ _)
    go_ret2
    exact ⟨rfl, below_step B0 b1⟩
  · by_cases h : b = []
    · subst h
      go_upto_region 9 with (go_at_call 174; (with_reducible refine callR (kp.out _ B0) ?_); intro w1 b1 _ _ _)
      have X1 := X0.step b1
      have B1 := below_step B0 b1
      have k6 : w1.cell? ⟨g0, 6, none⟩ = some (.slice none 0 0) := X1.cell 6
      go_wp2
      go_loopw [41] (fun i wr => i = .int .i64 0 ∧ wr = w1) (fun _ _ => 0)
      case atStart => exact ⟨rfl, rfl⟩
      case round =>
        obtain ⟨rfl, rfl⟩ := hrel
        go_wp2
        go_ret2
        exact ⟨rfl, B1⟩
    · have h0 : (b == []) = false := by simpa using h
      have l1 : ¬ 9223372036854775807 < b.length + 1 := by omega
      have l2 : ¬ 9223372036854775807 < b.length + 1 + a.length := by omega
      clear h
      go_upto_region 5 with (go_at_call 174; (with_reducible refine callR (kp.out _ B0) ?_); intro w1 b1 _ _ _)
      have X1 := X0.step b1
      have B1 := below_step B0 b1
      have i1 : Has_db w1 g0 0 := ⟨_, X1.is_db rfl⟩
      have i2 : of_db w1 g0 0 = cells0 := of_db_eq (X1.is_db rfl)
      go_wp2_with (go_at_call 175; (with_reducible refine callR (kf.out _ _) ?_); intro w2 b2 _ _ _)
      go_ret2
      exact ⟨rfl, below_step (below_step B1 b2) (alloc_below5 _ _)⟩
theorem Ed.setFrom {w W : World} {g : Nat} {x : Edr} {es : List Entry} (h : Ed w W g x es) (f : List UInt8) : Ed w (W.setCell ⟨g, 9, none⟩ (.string ⟨f.toArray⟩)) g { x with p := { x.p with from_ := f } } es :=
  ⟨h.blk.setCell 9 _, h.out.keepE fun q hq => Below.heap_setCell _ _ _ _ (by show q ≠ g; rintro rfl; exact h.far hq), h.far, below_setCell h.bel h.ge _ _, h.ge⟩
theorem Ed.setTo {w W : World} {g : Nat} {x : Edr} {es : List Entry} (h : Ed w W g x es) (f : List UInt8) : Ed w (W.setCell ⟨g, 10, none⟩ (.string ⟨f.toArray⟩)) g { x with p := { x.p with to_ := f } } es :=
  ⟨h.blk.setCell 10 _, h.out.keepE fun q hq => Below.heap_setCell _ _ _ _ (by show q ≠ g; rintro rfl; exact h.far hq), h.far, below_setCell h.bel h.ge _ _, h.ge⟩
set_option maxHeartbeats 2000000 in
theorem erunway_any (x : Edr) (es : List Entry) (g : Nat) (w W : World) (h : Ed w W g x es) (hL : Laid w) (s : List UInt8) (hs : s.length ≤ 1000000000) (hr : x.e.rway.length ≤ 1000000000) :
    Calls Tryz.prog 119 #[.pointer (some ⟨g, 0, none⟩), .string ⟨s.toArray⟩] W (Ret W (.string ⟨(rwayS s x.e.rway).toArray⟩)) := by
  have kc := Lib.hid (cut_ret s 47 W (hL.below h.bel) (by omega))
  have hc := (cutAt_len 47 s).1
  have HX := Lib.hid h
  have c17 := h.c17
  have HR := Lib.hid (show rwayS s x.e.rway = if x.e.rway.isEmpty then s else (cutAt 47 s).1 ++ 47 :: x.e.rway from rfl)
  generalize rwayS s x.e.rway = out at *
  generalize (cutAt 47 s).1 = a at *
  generalize (cutAt 47 s).2.1 = b at *
  generalize (cutAt 47 s).2.2 = f at *
  clear h
  by_cases hr0 : x.e.rway = []
  · rw [hr0] at c17 HR
    go_enter Tryz.func119, Tryz.ntmps119
    go_wp2
    go_ret
    exact Ret.str HR.out.symm (Below.refl _ _)
  · have h0 : (x.e.rway == []) = false := by simpa using hr0
    have HR := Lib.hid (show out = a ++ 47 :: x.e.rway by rw [HR.out, if_neg (by simpa using hr0)])
    generalize hw : x.e.rway = r at *
    have l1 : ¬ 9223372036854775807 < a.length + 1 := by omega
    have l2 : ¬ 9223372036854775807 < a.length + 1 + r.length := by omega
    go_enter Tryz.func119, Tryz.ntmps119
    go_wp2_with (go_at_call 147; (with_reducible refine callR kc.out ?_); intro w1 b1 _ _ _; have c17 := (HX.out.step b1).c17; rw [hw] at c17)
    go_ret
    exact Ret.str (by rw [HR.out]; try simp) b1
/-- What is known where an edit asks the empty database. -/
structure ZPre (w : World) (x : Edr) : Prop where
  laid : Laid w
  db : x.db = cells0
  ents : Ents w x.A x.p.es
  cap : x.p.es.length ≤ x.c
  len : x.p.es.length ≤ 60
  act0 : -1 ≤ x.p.active
  act1 : x.p.active < x.p.es.length
  at0 : 0 ≤ x.e.at_
  fr : x.p.from_.length ≤ 1000000000
  to_ : x.p.to_.length ≤ 1000000000
  rw_ : x.e.rway.length ≤ 1000000000
  nm : x.e.name.length ≤ 4000000000
theorem ZPre.c8 {w : World} {x : Edr} (h : ZPre w x) : x.db[8]? = some (.slice none 0 0) := by rw [h.db]; rfl
theorem ZPre.c7 {w : World} {x : Edr} (h : ZPre w x) : x.db[7]? = some (.slice none 0 0) := by rw [h.db]; rfl
theorem rwayS_lenZ {s r : List UInt8} (h1 : s.length ≤ 1000000000) (h2 : r.length ≤ 1000000000) : (rwayS s r).length ≤ 4000000000 := by
  have := (cutAt_len 47 s).1
  unfold rwayS; split
  · omega
  · simp; omega
attribute [local go_sem] Has_db_alloc5 of_db_alloc5 Has_db_drew5 of_db_drew5 awy_sz prc_sz awy_ones prc_ones
set_option maxHeartbeats 4000000 in
theorem edepart0 (x : Edr) (g : Nat) (w W : World) (h : Ed w W g x []) (P : ZPre w x) : Calls Tryz.prog 53 #[.pointer (some ⟨g, 0, none⟩)] W (RetRun w g x (departS look0 x.p x.e)) := by
  have c9 := h.c9
  have c12 := h.c12
  by_cases h1 : x.p.active = -1
  case neg =>
    have HS := Lib.hid (show departS look0 x.p x.e = .bad 8 from if_pos h1)
    have hz : (x.p.active != -1) = true := by simpa using h1
    have hz2 : (x.p.active == -1) = false := by simpa using h1
    have HX := Lib.hid h
    clear h P h1
    go_enter Tryz.func53, Tryz.ntmps53
    go_wp2
    go_ret
    exact RetRun.bad HS.out (by decide) HX.out.bel
  rw [h1] at c12
  by_cases h2 : x.p.from_ = []
  · have HS := Lib.hid (show departS look0 x.p x.e = .bad 6 by unfold departS; rw [if_neg (by simpa using h1), if_pos (by simpa using h2)])
    rw [h2] at c9
    have HX := Lib.hid h
    clear h P h1
    go_enter Tryz.func53, Tryz.ntmps53
    go_wp2
    go_ret
    exact RetRun.bad HS.out (by decide) HX.out.bel
  · have HS := Lib.hid (show departS look0 x.p x.e = .bad 6 by unfold departS; rw [if_neg (by simpa using h1), if_neg (by simpa using h2)]; rfl)
    have h0 : (x.p.from_ == []) = false := by simpa using h2
    have HX := Lib.hid h
    have kr := Lib.hid (erunway_any x [] g w W h P.laid x.p.from_ P.fr P.rw_)
    have hl := rwayS_lenZ P.fr P.rw_
    generalize rwayS x.p.from_ x.e.rway = f at *
    have kl := Lib.hid (fun (W' : World) (b : Ed w W' g { x with p := { x.p with from_ := f } } []) => elegs0 _ [] g w W' b P.laid P.c8 f 1 hl)
    clear h P h1 h2
    go_enter Tryz.func53, Tryz.ntmps53
    go_wp2_with (first
      | (go_at_call 119; (with_reducible refine callR kr.out ?_); intro w1 b1 _ _ _; have X1 := HX.out.step b1; have f9 := X1.blk.frozen 9; have k9 := X1.c9; have X2 := Lib.hid (X1.setFrom f); clear X1)
      | (go_at_call 120; (with_reducible refine callR (kl.out _ X2.out) ?_); intro w3 b3 _ _ _))
    go_ret
    exact RetRun.bad HS.out (by decide) ((X2.out.step b3).alloc _).bel
set_option maxHeartbeats 4000000 in
theorem edivert0 (x : Edr) (g : Nat) (w W : World) (h : Ed w W g x []) (P : ZPre w x) (hat : x.e.at_ < x.p.es.length) : Calls Tryz.prog 55 #[.pointer (some ⟨g, 0, none⟩)] W (RetRun w g x (divertS look0 x.p x.e)) := by
  have c11 := h.c11
  have c14 := h.c14
  go_enter Tryz.func55, Tryz.ntmps55
  go_upto_region 1 with (fail)
  go_region
  replace h := h.drw
  clear c11 c14
  generalize W.drew = W1 at h ⊢
  clear W
  have c12 := h.c12
  by_cases h1 : x.e.at_ < x.p.active
  · have HS := Lib.hid (show divertS look0 x.p x.e = .bad 8 from if_pos h1)
    have HX := Lib.hid h
    clear h P hat
    go_wp2
    go_ret
    exact RetRun.bad HS.out (by decide) HX.out.bel
  · have h0 := P.at0
    obtain ⟨k, hk⟩ : ∃ k : Nat, x.e.at_ = k := ⟨x.e.at_.toNat, by omega⟩
    have hkl : k < x.p.es.length := by omega
    obtain ⟨b, off, hA, hcl⟩ := P.ents.ent hkl
    have HC := Lib.hid P.cap
    have hlt : (k : Int) < (x.p.es.length : Int) := by omega
    have HS0 : divertS look0 x.p x.e = if !endsE (entAt x.p k) then .bad 17 else .bad (if pairB x.e.name 47 6 then 6 else 4) := by
      unfold divertS; rw [if_neg h1, hk, Int.toNat_natCast]
      congr 1
      rw [if_pos (by show (if pairB x.e.name 47 6 then (6 : Int) else 4) ≠ 0; split <;> decide)]
      rfl
    rw [hk] at h1 ⊢
    have AH := Lib.hid hA
    have hI := hcl W1 h.bel
    generalize entAt x.p k = y at HS0 hI
    have i1 : Has_ent W1 b (off + k * 20) := ⟨_, hI⟩
    have i2 : of_ent W1 b (off + k * 20) = y := of_ent_eq hI
    have HX := Lib.hid h
    have kE := Lib.hid (eends_any y W1)
    have c16 := h.c16
    have kP := Lib.hid (fun (W' : World) (b : Below w.heap.size w W') => ePlace0 x.e.name W' (P.laid.below b) P.nm)
    have k2 : of_db W1 g 0 = cells0 := by rw [of_db_eq h.is_db]; exact P.db
    have k1 : Has_db W1 g 0 := ⟨_, h.is_db⟩
    have HDB := Lib.hid P.db
    clear h hcl hk hat h0 hI P
    cases hen : endsE y with
    | false =>
      rw [hen] at kE HS0
      have HS := Lib.hid (show divertS look0 x.p x.e = .bad 17 from HS0)
      clear HS0
      go_wp2_with (go_at_call 115; (with_reducible refine callR kE.out ?_); intro w3 b3 _ _ _)
      go_ret
      exact RetRun.bad HS.out (by decide) (HX.out.step b3).bel
    | true =>
      rw [hen] at kE HS0
      have HS := Lib.hid (show divertS look0 x.p x.e = .bad (if pairB x.e.name 47 6 then 6 else 4) from HS0)
      clear HS0 hen
      generalize pairB x.e.name 47 6 = pb at *
      go_upto_region 6 with (go_at_call 115; (with_reducible refine callR kE.out ?_); intro w3 b3 _ _ _)
      have X3 := HX.out.step b3
      have c16 := X3.c16
      have k2 : of_db w3 g 0 = cells0 := by rw [of_db_eq X3.is_db]; exact HDB.out
      have k1 : Has_db w3 g 0 := ⟨_, X3.is_db⟩
      have HX3 := Lib.hid X3
      generalize x.e.name = nm at *
      clear X3 HX b3 i1 i2 kE c12
      have hp : ((if pb then (6 : Int) else 4) != 0) = true := by cases pb <;> rfl
      have hp0 : (if pb then (6 : Int) else 4) ≠ 0 := by cases pb <;> decide
      generalize (if pb then (6 : Int) else 4) = z at *
      go_region_with (go_at_call 121; (with_reducible refine callR (kP.out _ HX3.out.drw.bel) ?_); intro w4 b4 _ _ _)
      all_goals
        go_wp2
        go_ret
        exact RetRun.bad HS.out hp0 (HX3.out.drw.step b4).bel
set_option maxHeartbeats 8000000 in
theorem ejoin0 (x : Edr) (g : Nat) (w W : World) (h : Ed w W g x []) (P : ZPre w x) (hat : x.e.at_ < x.p.es.length) : Calls Tryz.prog 52 #[.pointer (some ⟨g, 0, none⟩)] W (RetRun w g x (joinS look0 x.p x.e)) := by
  have c11 := h.c11
  have c14 := h.c14
  go_enter Tryz.func52, Tryz.ntmps52
  go_upto_region 1 with (fail)
  go_region
  replace h := h.drw
  clear c11 c14
  generalize W.drew = W1 at h ⊢
  clear W
  have c12 := h.c12
  by_cases h1 : x.e.at_ < x.p.active
  · have HS := Lib.hid (show joinS look0 x.p x.e = .bad 8 from if_pos h1)
    have HX := Lib.hid h
    clear h P hat
    go_wp2
    go_ret
    exact RetRun.bad HS.out (by decide) HX.out.bel
  · have h0 := P.at0
    obtain ⟨k, hk⟩ : ∃ k : Nat, x.e.at_ = k := ⟨x.e.at_.toNat, by omega⟩
    have hkl : k < x.p.es.length := by omega
    obtain ⟨b, off, hA, hcl⟩ := P.ents.ent hkl
    have HC := Lib.hid P.cap
    have hlt : (k : Int) < (x.p.es.length : Int) := by omega
    have HS0 : joinS look0 x.p x.e = if !endsE (entAt x.p k) then .bad 17 else .bad 6 := by
      unfold joinS; rw [if_neg h1, hk, Int.toNat_natCast]
      rfl
    rw [hk] at h1 ⊢
    have AH := Lib.hid hA
    have hI := hcl W1 h.bel
    generalize entAt x.p k = y at HS0 hI
    have i1 : Has_ent W1 b (off + k * 20) := ⟨_, hI⟩
    have i2 : of_ent W1 b (off + k * 20) = y := of_ent_eq hI
    have HX := Lib.hid h
    have HDB := Lib.hid P.db
    have kw := Lib.hid (fun w' => eawy0 x.db P.c7 x.e.name w')
    clear h hcl hk hat h0 hI P
    go_upto_region 5 with (fail)
    have Y := Blk.new W1 y.arr 51
    have X := HX.out.alloc (.cells y.arr 51)
    clear HX i1 i2 c12
    generalize W1.alloc _ = W2 at Y X ⊢
    generalize W1.heap.size = gy at Y ⊢
    clear W1
    have j1 : Has_ent W2 gy 0 := ⟨_, Y.is_ent⟩
    have j2 : of_ent W2 gy 0 = y := of_ent_eq Y.is_ent
    have kE := Lib.hid (eends_any y W2)
    cases hen : endsE y with
    | false =>
      rw [hen] at kE HS0
      have HS := Lib.hid (show joinS look0 x.p x.e = .bad 17 from HS0)
      have HX := Lib.hid X
      clear X HS0
      go_wp2_with (go_at_call 115; (with_reducible refine callR kE.out ?_); intro w3 b3 _ _ _)
      go_ret
      exact RetRun.bad HS.out (by decide) (HX.out.step b3).bel
    | true =>
      rw [hen] at kE HS0
      have HS := Lib.hid (show joinS look0 x.p x.e = .bad 6 from HS0)
      have HX := Lib.hid X
      clear X HS0 hen
      go_upto_region 7 with (go_at_call 115; (with_reducible refine callR kE.out ?_); intro w3 b3 _ _ _)
      have X3 := HX.out.step b3
      have c16 := X3.c16
      have k2 : of_db w3 g 0 = x.db := of_db_eq X3.is_db
      have k1 : Has_db w3 g 0 := ⟨_, X3.is_db⟩
      have hlt := X3.lt
      have HX3 := Lib.hid X3
      generalize x.e.name = nm at *
      generalize x.db = cs at *
      clear X3 HX b3 Y j1 j2 kE
      go_cut [7] (fun e wx => e = .int .i64 6 ∧ Below w3.heap.size w3 wx)
      case first =>
        go_region_with (go_at_call 116; (with_reducible refine callR (kw.out _) ?_); intro w4 b4 _ _ _; first | (have Y2 : Blk w4 w3.heap.size #[.string ⟨#[]⟩, .slice none 0 0] := (((Blk.new w3 _ 64).step (Below.refl _ _).drew)).step b4; have e2 := below_step (alloc_below5 w3 (.cells #[.string ⟨#[]⟩, .slice none 0 0] 64)).drew b4; have d2 := Y2.plain; have d3 := Y2.of; have d4 : splice #[.string ⟨#[]⟩, .slice none 0 0] 0 #[.string ⟨#[]⟩, .slice none 0 0] = #[.string ⟨#[]⟩, .slice none 0 0] := rfl) | skip)
        all_goals
          go_wp2
          go_meet
          first
            | exact ⟨rfl, below_step (Below.refl _ _).drew (below_step b4 (alloc_below5 _ _))⟩
            | exact ⟨rfl, below_setRow' e2 (Nat.le_refl _) _⟩
      case rest =>
        obtain ⟨rfl, BC⟩ := hcut
        go_wp2
        go_ret
        exact RetRun.bad HS.out (by decide) (HX3.out.step BC).bel
end Go.Proofs.YtcgmemkkcaipfaaGreatDoor
