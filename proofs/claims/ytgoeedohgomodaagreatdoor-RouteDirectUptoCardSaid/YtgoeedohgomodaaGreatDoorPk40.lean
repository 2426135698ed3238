/- Lemmas and walks. -/
import Derived.Test.YtgoeedohgomodaaGreatDoorPk38
import Derived.Test.YtgoeedohgomodaaGreatDoorPk39
set_option linter.unusedSimpArgs false
set_option linter.unusedVariables false
namespace Go.Proofs.YtgoeedohgomodaaGreatDoor
open Go.RowKit Go.Sort
set_option maxRecDepth 100000
attribute [local go_sem ↓] bprcG_fold
attribute [local go_sem] of_prc_drewO Has_db_alloc5 of_db_alloc5 Has_db_drewO of_db_drewO run_bprcG prcArr_ones prcArr_sz prcArr_fits prcArr_splice
set_option maxHeartbeats 8000000 in
theorem bload_any {w : World} {d : DBs} {G : GDB} {iA : Option Addr} {ic : Nat} {xs : List ItemV} (hS : RS w d G iA ic xs) (es : List Entry) (L : Option Addr) (c g : Nat) (iv : Value) (W : World) (h : Bu w W g d.cells iv L c es) (he : es.length ≤ 300000)
    (x y : ItemV) (hx : x.short) (hy : y.short) (k s : Int) :
    Calls Tryz.prog 74 #[.pointer (some ⟨g, 0, none⟩), .agg x.arr, .agg y.arr, .int .u8 k, .int .u8 s] W (RetBu w W g d.cells iv (loadS (lookR G) es x y k s)) := by
  have HS := Lib.hid hS
  obtain ⟨A8, c8, h8, hl8, hI8⟩ := hS.gd.prc
  have kp := Lib.hid (fun (w' : World) (D : Below w.heap.size w w') => navprc_any d.cells G.procs A8 c8 h8 y.name x.name k w' (hI8.below D) hl8 hS.gd.prcN hS.gd.prcS)
  have HP := Lib.hid (show prcLook y.name k x.name G.procs = match procFind y.name k x.name G.procs with | none => (noProc, 6) | some p => (p, 0) from rfl)
  have HPS := Lib.hid (fun p (hp : procFind y.name k x.name G.procs = some p) => show p.small ∧ ∀ x ∈ p.parts, ∀ l ∈ x.legs, l.small from ⟨hS.gd.prcS p (procFind_mem hp), hS.sh.prc p (procFind_mem hp)⟩)
  have HC := Lib.hid (show loadS (lookR G) es x y k s = match procFind y.name k x.name G.procs with | none => (es, 6) | some p => if (procExpand p y.trans x.trans).2 ≠ 0 then (es, (procExpand p y.trans x.trans).2) else addS (lookR G) es (procExpand p y.trans x.trans).1 s (withB x.name 46 x.trans) from rfl)
  generalize loadS (lookR G) es x y k s = out at *
  have HB := Lib.hid h
  have hvl := withB_short hx 46
  clear hS h8 hl8 hI8
  obtain ⟨xk, xn, xt⟩ := x
  obtain ⟨yk, yn, yt⟩ := y
  have hx1 := hx.small.1
  have hx2 := hx.small.2
  have hy2 := hy.small.2
  dsimp only at *
  go_enter Tryz.func74, Tryz.ntmps74
  go_upto_region 1 with (fail)
  obtain ⟨X0, Y0, D0⟩ := blk2R W (ItemV.arr ⟨xk, xn, xt⟩) (ItemV.arr ⟨yk, yn, yt⟩) 57 57
  generalize hW : World.alloc (World.alloc W _) _ = W1
  have hW' : (W.alloc (.cells (ItemV.arr ⟨xk, xn, xt⟩) 57)).alloc (.cells (ItemV.arr ⟨yk, yn, yt⟩) 57) = W1 := hW
  rw [hW'] at X0 Y0 D0
  clear hW hW'
  generalize W.heap.size + 1 = gy at Y0 ⊢
  obtain ⟨gx, hgx⟩ : ∃ q, q = W.heap.size := ⟨_, rfl⟩
  rw [← hgx] at X0 ⊢
  clear hgx
  have O1 := Lib.hid (OnlyB.of (g := g) D0)
  have B1 := Lib.hid (HB.out.step D0)
  have HX := Lib.hid (fun W' (b : Below W1.heap.size W1 W') => X0.step b)
  have HY := Lib.hid (fun W' (b : Below W1.heap.size W1 W') => Y0.step b)
  have k1 : Has_db W1 g 0 := ⟨_, B1.out.db⟩
  have k2 : of_db W1 g 0 = d.cells := of_db_eq B1.out.db
  have z1 : W1.cell? ⟨gy, 1, none⟩ = some (.string ⟨yn.toArray⟩) := Y0.cell 1
  have z2 : W1.cell? ⟨gx, 1, none⟩ = some (.string ⟨xn.toArray⟩) := X0.cell 1
  have hgl := B1.out.lt
  have hgx := X0.lt
  have hgy := Y0.lt
  clear D0 HB X0 Y0
  obtain ⟨r, hr⟩ : ∃ r, prcLook yn k xn G.procs = r := ⟨_, rfl⟩
  rw [hr] at kp HP
  clear hr
  go_cut [11, 12] (fun v e wx => ∃ q cs, v = .pointer (some ⟨q, 0, none⟩) ∧ e = .int .i64 r.2 ∧ Blk wx q cs ∧ W1.heap.size ≤ q ∧ PrcFar wx W1.heap.size cs r.1 ∧ Below W1.heap.size W1 wx)
  case first =>
    have HBE := Lib.hid B1.out.bel
    generalize d.cells = cs at *
    clear HP HPS HC HX HY
    go_region_with (go_at_call 78; (with_reducible refine callPrcE (kp.out _ (by first | exact HBE.out.trans (((Below.refl _ _).drew).mono HBE.out.size) | exact below_step HBE.out (below_step (Below.refl _ _).drew (alloc_belowR _ _)) | exact below_step HBE.out (Below.refl _ _).drew)) ?_); intro cs2 w2 h2 b2; obtain ⟨A5, c5, hcs, _, _⟩ := h2.at_.ex; subst hcs; first | (have Y2 : Blk w2 W1.heap.size (prcArr noProc none 0) := (((Blk.new W1 #[.string ⟨#[]⟩, .string ⟨#[]⟩, .int .u8 0, .slice none 0 0] 131).step (Below.refl _ _).drew)).step b2; have e2 := below_step (alloc_belowR W1 (.cells #[.string ⟨#[]⟩, .string ⟨#[]⟩, .int .u8 0, .slice none 0 0] 131)).drew b2; have d2 := Y2.plain; have d3 := Y2.of) | skip)
    all_goals
      go_wp2
      go_meet
      first
        | exact ⟨_, _, rfl, rfl, Blk.new _ _ _, Nat.le_trans b2.size (by simp), (h2.mono (by simp)).keep (fun b _ hb => by rw [heap_alloc_old _ _ hb]) (by simp), below_step (Below.refl _ _).drew (below_step b2 (alloc_belowR _ _))⟩
        | exact ⟨_, _, rfl, rfl, Y2.set _, Nat.le_refl _, (h2.keep (fun b hb _ => setRow_other _ _ _ _ (by simp at hb; omega)) (by simp [World.setRow])).mono (by simp), below_setRow' e2 (Nat.le_refl _) _⟩
  case rest =>
  obtain ⟨q, cs, rfl, rfl, Q, hq, HFar, BC⟩ := hcut
  have B2 := Lib.hid (B1.out.step BC)
  have O2 := Lib.hid (O1.out.trans (OnlyB.of BC))
  have X2 := HX.out _ BC
  have Y2 := HY.out _ BC
  obtain ⟨A5, c5, hcs, _, _⟩ := HFar.at_.ex
  subst hcs
  clear k1 k2 z1 z2 hgl hgx hgy kp B1 O1 HX HY BC
  cases hf2 : procFind yn k xn G.procs with
  | none =>
    rw [hf2] at HC HP
    have HO := Lib.hid (show out = (es, 6) from HC.out)
    have hr : r = (noProc, 6) := HP.out
    subst hr
    clear hf2 HC HP HPS
    go_wp2
    go_ret
    exact RetBu.same HO.out B2.out O2.out
  | some p =>
    rw [hf2] at HC HP
    have HO := Lib.hid (show out = if (procExpand p yt xt).2 ≠ 0 then (es, (procExpand p yt xt).2) else addS (lookR G) es (procExpand p yt xt).1 s (withB xn 46 xt) from HC.out)
    have hr : r = (p, 0) := HP.out
    subst hr
    have hps := HPS.out p hf2
    have hex := procExpand_ok1 hps.2 yt xt
    clear hf2 HC HP HPS
    have ke := Lib.hid (fun (W' : World) (D : Below wc.heap.size wc W') => expand_any p (prcArr p A5 c5) yt xt W' (HS.out.laid.below (below_step B2.out.bel D)) (HFar.at_.below D) hps.1 hy2 hx2)
    have i1 : Has_prc wc q 0 := ⟨_, Q.is_prc rfl⟩
    have i2 : of_prc wc q 0 = prcArr p A5 c5 := of_prc_eq (Q.is_prc rfl)
    have z1 : wc.cell? ⟨gy, 2, none⟩ = some (.string ⟨yt.toArray⟩) := Y2.cell 2
    have z2 : wc.cell? ⟨gx, 2, none⟩ = some (.string ⟨xt.toArray⟩) := X2.cell 2
    generalize procExpand p yt xt = ex at *
    obtain ⟨lg, er⟩ := ex
    dsimp only at hex HO
    have HEX := Lib.hid hex
    have HX2 := Lib.hid X2
    clear hex hps HFar hq Q X2 Y2
    by_cases hz : er = 0
    case neg =>
      have hz' : (er != 0) = true := by simpa using hz
      have HO := Lib.hid (HO.out.trans (if_pos hz))
      clear hz
      go_wp2_with (go_at_call 115; (with_reducible refine callExp (ke.out _ (Below.refl _ _)) ?_); intro A6 c6 w6 hl6 hI6 b6)
      go_ret
      exact RetBu.same HO.out (B2.out.step b6) (O2.out.trans (OnlyB.of b6))
    subst hz
    have HO := Lib.hid (HO.out.trans (if_neg (not_not_intro rfl)))
    go_upto_region 7 with (go_at_call 115; (with_reducible refine callExp (ke.out _ (Below.refl _ _)) ?_); intro A6 c6 w6 hl6 hI6 b6)
    have B6 := B2.out.step b6
    have O6 := Lib.hid (O2.out.trans (OnlyB.of b6))
    have X6 := HX2.out.step b6
    clear i1 i2 z1 z2 ke
    have z1 : w6.cell? ⟨gx, 1, none⟩ = some (.string ⟨xn.toArray⟩) := X6.cell 1
    have z2 : w6.cell? ⟨gx, 2, none⟩ = some (.string ⟨xt.toArray⟩) := X6.cell 2
    have kw := Lib.hid (rwith_any xn xt 46 hx1 hx2 w6)
    have ka := Lib.hid (HS.out.add B6 lg A6 c6 s (withB xn 46 xt) hI6 hl6 (Nat.le_trans HEX.out.1 (by omega)) HEX.out.2 hvl he)
    clear hl6 hI6 B6 X6 HX2 B2 O2 b6
    go_wp2_with (first
      | (go_at_call 73; (with_reducible refine callP kw.out ?_))
      | (go_at_call 70; (with_reducible refine callBu ka.out ?_); intro L7 c7 W7 B7 O7))
    go_ret
    rw [HO.out]
    exact ⟨L7, c7, rfl, B7, O6.out.trans O7⟩
end Go.Proofs.YtgoeedohgomodaaGreatDoor
