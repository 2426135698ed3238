/- PlanPoints: the law's walk. -/
import Derived.Test.YtjgondadpjildaaGreatDoorPk36
import Derived.Test.YtjgondadpjildaaGreatDoorPk45
namespace Go.Proofs.YtjgondadpjildaaGreatDoor
open Go.RowKit Go.Sort
set_option linter.unusedVariables false
set_option linter.unusedSimpArgs false
set_option maxRecDepth 100000
attribute [local go_sem ↓] bpt_fold
attribute [local go_sem] run_bpt0 run_bpt2 run_neq_pt run_neq_leg
theorem entItem {w W : World} {b off : Nat} {es : List Entry} (h : Ents w (some ⟨b, off, none⟩) es) (hB : Below w.heap.size w W) {k : Nat} (hk : k < es.length) : Is_ent W b (off + k * 20) es[k] := fun j hj => by
  obtain ⟨b', off', hA, hb, hc⟩ := h.get hk
  obtain ⟨rfl, rfl⟩ : b = b' ∧ off = off' := by simpa using hA
  rw [hB.cell (p := ⟨b, _, none⟩) hb]
  exact hc j hj
theorem cell_alloc_lt6 (w : World) (o : Obj) {g : Nat} (h : g < w.heap.size) (j : Nat) : (w.alloc o).cell? ⟨g, j, none⟩ = w.cell? ⟨g, j, none⟩ := World.cell?_alloc_lt w o ⟨g, j, none⟩ h
theorem i_lt {w : World} {b o : Nat} {x : Leg} (h : Is_leg w b o x) : b < w.heap.size := by
  have h0 := h 0 (by omega)
  rw [Leg.arr0] at h0
  exact block_lt_of_cell h0
theorem Blk.ent_leg {W : World} {g : Nat} {x : Entry} (h : Blk W g x.arr) : Is_leg W g 1 x.leg := h.leg1
set_option maxHeartbeats 8000000 in
theorem lawPoints_any (d : DBs) (l : List FixV) (legs : List Leg) (A : Option Addr) (c : Nat) (x : Entry) (w : World) (hL : Laid w) (hD : DbAt w d l)
    (hI : Items w A 13 (legs.map Leg.arr)) (hlc : legs.length ≤ c) (hs : ∀ y ∈ legs, y.small) (hv : x.via.length ≤ 4000000000) :
    Calls Tryz.prog 4 #[.agg d.cells, .slice A legs.length c, .agg x.arr] w (Ret w (.bool true)) := by
  go_enter Tryz.func4, Tryz.ntmps4
  go_upto_region 1 with (fail)
  have X0 : Blk (w.alloc (.cells d.cells 30)) w.heap.size d.cells := Blk.new w _ _
  have B0 := alloc_below3 w (.cells d.cells 30)
  have hsz : (w.alloc (.cells d.cells 30)).heap.size = w.heap.size + 1 := World.size_alloc _ _
  generalize w.alloc _ = W0 at X0 B0 hsz ⊢
  rw [← hsz]
  have Y1 : Blk (W0.alloc (.cells x.arr 41)) W0.heap.size x.arr := Blk.new W0 _ _
  have B1 := below_step B0 (alloc_below3 W0 (.cells x.arr 41))
  have X1 := X0.alloc (.cells x.arr 41)
  generalize W0.alloc _ = W at Y1 B1 X1 ⊢
  generalize W0.heap.size = g5 at Y1 ⊢
  generalize w.heap.size = g3 at X1 ⊢
  clear X0 B0 hsz
  go_upto_region 3 with (go_at_call 7; refine callR (awake_any W (hL.below B1)) ?_; intro w1 b1 _ _ _)
  have X2 := X1.step b1
  have Y2 := Y1.step b1
  have B2 := below_step B1 b1
  have I2 := hI.below B2
  have D2 := hD.below B2
  have L2 := hL.below B2
  have hle : w.heap.size ≤ W.heap.size := B1.size
  clear X1 Y1 B1 b1 hL hI hD
  have c6 : w1.cell? ⟨g3, 6, none⟩ = some (.slice d.fa d.fn d.fc) := (X2.cell 6).trans D2.ok.c6
  by_cases h120 : (120 : Int) < (legs.length : Int)
  · go_wp2
    go_ret
    exact Ret.bool rfl B2
  have h120' : ¬ (120 : Int) < (legs.length : Int) := h120
  by_cases h400 : (400 : Int) < (d.fn : Int)
  · go_wp2
    go_ret
    exact Ret.bool rfl B2
  have HB := Lib.hid (bind_any d l legs A c x.sec x.via w1 L2 D2 I2 hlc (by omega) hs hv)
  have hsz9 := D2.ok.size
  have i1 : Has_db w1 g3 0 := ⟨_, X2.is_db hsz9⟩
  have i2 : of_db w1 g3 0 = d.cells := of_db_eq (X2.is_db hsz9)
  have k18 : w1.cell? ⟨g5, 18, none⟩ = some (.int .u8 x.sec) := Y2.cell 18
  have k19 : w1.cell? ⟨g5, 19, none⟩ = some (.string ⟨x.via.toArray⟩) := Y2.cell 19
  obtain ⟨pt, hpt⟩ : ∃ pt, pointV d.lat d.lon l = pt := ⟨_, rfl⟩
  rw [hpt] at HB
  have HC := Lib.hid (fun r w' (h : Below w1.heap.size w1 w') => by have := navpoint_any d l r w' (D2.below h); rw [hpt] at this; exact this)
  have HPT := Lib.hid (bind_points (pt := pt) (legs := legs) (sec := x.sec) (via := x.via))
  have HERR := Lib.hid (bindS_err (pt := pt) (legs := legs) (sec := x.sec) (via := x.via))
  clear D2 hpt
  generalize bindS pt legs x.sec x.via = out at *
  generalize d.cells = cs at *
  go_upto_region 6 with (go_at_call 8; refine HB.out.mono ?_; rintro e w2 ⟨A2, c2, rfl, hc2, hE2, b2⟩)
  obtain ⟨es, e⟩ := out
  by_cases he : e = 0
  · subst he
    obtain ⟨hlen, hpts⟩ := HPT.out rfl
    have hlen : es.length = legs.length := hlen
    have HP := Lib.hid (fun (k : Nat) (y : Leg) (h : legs[k]? = some y) => hpts k y h)
    have hE2 : Ents w2 A2 es := hE2
    have hc2 : es.length ≤ c2 := hc2
    clear HPT HERR HB hpts i1 i2 k18 k19 c6
    have X3 := X2.step b2
    have Y3 := Y2.step b2
    have HX := Lib.hid (fun w' (h : Below w2.heap.size w2 w') => X3.step h)
    have HY := Lib.hid (fun w' (h : Below w2.heap.size w2 w') => Y3.step h)
    have I3 := I2.below b2
    have B3 := below_step B2 b2
    have HC2 := Lib.hid (fun r w' (h : Below w2.heap.size w2 w') => HC.out r w' (below_step b2 h))
    clear X2 Y2 I2 L2 HC X3 Y3 B2 b2
    simp only [hlen] at hc2 ⊢
    go_wp2
    go_loopw [46] (fun i wr => ∃ k : Nat, k ≤ legs.length ∧ i = .int .i64 k ∧ Below w2.heap.size w2 wr) (fun i _ => legs.length - (intOf i).toNat)
    case atStart => exact ⟨0, by omega, rfl, Below.refl _ _⟩
    case round =>
      obtain ⟨k, hk, rfl, BW⟩ := hrel
      by_cases hlt : k < legs.length
      · obtain ⟨b, off, hA, _, hcl⟩ := I3.get (k := k) (by simpa using hlt)
        clear hcl
        subst hA
        have hx := legItem I3 BW hlt
        obtain ⟨y, hy, hyo⟩ := HP.out k _ (List.getElem?_eq_getElem hlt)
        have hy : es[k]? = some y := hy
        generalize legs[k] = x0 at hx hyo
        have hk2 : k < es.length := by omega
        have hyk : es[k] = y := by rw [List.getElem?_eq_getElem hk2] at hy; exact Option.some.inj hy
        obtain ⟨b2, o2, hA2, _, hcl⟩ := hE2.get hk2
        clear hcl
        subst hA2
        have hye := entItem hE2 BW hk2
        rw [hyk] at hye
        clear hyk hy hk2
        obtain ⟨gap, lg, ex, ey, mx, my, sc, vi⟩ := y
        obtain ⟨h1, h2, h3, h4, h5, h6, h7⟩ := hyo
        simp only at h1 h2 h3 h4 h5 h6 h7
        subst h1 h2 h3 h4
        have hkc : k < c := by omega
        have hkc2 : k < c2 := by omega
        obtain ⟨y, hy⟩ : ∃ y, (⟨false, lg, ex, ey, mx, my, x.sec, x.via⟩ : Entry) = y := ⟨_, rfl⟩
        rw [hy] at hye
        have j1 : Has_ent wr b2 (o2 + k * 20) := ⟨_, hye⟩
        have j2 : of_ent wr b2 (o2 + k * 20) = y := of_ent_eq hye
        go_upto_region 13 with (fail)
        have Z0 := Blk.new wr y.arr 41
        have D0 := alloc_below3 wr (.cells y.arr 41)
        have hx3 := hx.below (w' := wr.alloc (.cells y.arr 41)) (B := wr.heap.size) D0 (by have := (HX.out _ BW).lt; exact i_lt hx)
        generalize wr.alloc _ = W3 at Z0 D0 hx3 ⊢
        obtain ⟨g10, hg10⟩ : ∃ g, g = wr.heap.size := ⟨_, rfl⟩
        rw [← hg10] at Z0 ⊢
        clear hg10 hx hye j1 j2
        have H5 := Lib.hid h5
        have H6 := Lib.hid h6
        have H7 := Lib.hid h7
        clear h5 h6 h7
        have BW3 := BW.trans (D0.mono BW.size)
        have BWH := Lib.hid BW3
        rw [← hy] at Z0
        have c0 : W3.cell? ⟨g10, 0, none⟩ = some (.bool false) := Z0.cell 0
        have c18 : W3.cell? ⟨g10, 18, none⟩ = some (.int .u8 x.sec) := Z0.cell 18
        have c19 : W3.cell? ⟨g10, 19, none⟩ = some (.string ⟨x.via.toArray⟩) := Z0.cell 19
        have k18 : W3.cell? ⟨g5, 18, none⟩ = some (.int .u8 x.sec) := (HY.out _ BW3).cell 18
        have k19 : W3.cell? ⟨g5, 19, none⟩ = some (.string ⟨x.via.toArray⟩) := (HY.out _ BW3).cell 19
        have l1 : Has_leg W3 g10 1 := ⟨_, Z0.leg1⟩
        have l2 : of_leg W3 g10 1 = lg := of_leg_eq Z0.leg1
        have l3 : Has_leg W3 b (off + k * 13) := ⟨_, hx3⟩
        have l4 : of_leg W3 b (off + k * 13) = lg := of_leg_eq hx3
        have heq : Leg.eqB lg lg = true := (Leg.eqB_iff _ _).2 rfl
        clear hx3
        have ZH := Lib.hid Z0
        clear Z0 BW3 D0 BW
        have N1 := run_neq_leg lg lg
        rw [heq] at N1
        go_quiet (fail)
        clear N1
        clear c0 c18 c19 k18 k19 l1 l2 l3 l4 heq
        have B4 : Below w2.heap.size w2 (W3.drewN nq) := below_drewN BWH.out nq
        have Z4 := ZH.out.step (below_drewN (Below.refl _ _) nq)
        generalize W3.drewN nq = W4 at B4 Z4 ⊢
        clear BWH ZH hy
        obtain ⟨F, hF⟩ : ∃ F, lg.fix = F := ⟨_, rfl⟩
        have kf : W4.cell? ⟨g10, 2, none⟩ = some (.string ⟨F.toArray⟩) := by rw [← hF]; exact Z4.cell 2
        rw [hF] at H5 H6
        have hcall := Lib.hid (HC2.out F W4 B4)
        have i1 : Has_db W4 g3 0 := ⟨_, (HX.out _ B4).is_db hsz9⟩
        have i2 : of_db W4 g3 0 = cs := of_db_eq ((HX.out _ B4).is_db hsz9)
        obtain ⟨⟨⟨px, py⟩, pe⟩, hp⟩ : ∃ p, pt F = p := ⟨_, rfl⟩
        rw [hp] at hcall H5
        have hpp : ptP ((px, py), pe).1 = ⟨px, py⟩ := rfl
        rw [hpp] at hcall
        go_upto_region 16 with (go_at_call 11; (with_reducible refine callR hcall.out ?_); intro w5 b5 _ _ _)
        have Z6 := (Z4.step b5).alloc (.cells (Pt.arr ⟨px, py⟩) 38)
        have P6 := Blk.new w5 (Pt.arr ⟨px, py⟩) 38
        have B6 := (B4.trans (b5.mono B4.size)).alloc (B4.trans (b5.mono B4.size)).size (.cells (Pt.arr ⟨px, py⟩) 38)
        have hgl : w2.heap.size ≤ w5.heap.size := (B4.trans (b5.mono B4.size)).size
        have hne : g10 < w5.heap.size := (Z4.step b5).lt
        have kf6 := (cell_alloc_lt6 w5 (.cells (Pt.arr ⟨px, py⟩) 38) hne 2).trans ((b5.cell (p := ⟨g10, 2, none⟩) Z4.lt).trans kf)
        clear i1 i2 hcall hpp hp hF Z4 B4 kf b5
        generalize hW : w5.alloc _ = W6
        have hE : w5.alloc (.cells (Pt.arr ⟨px, py⟩) 38) = W6 := hW
        rw [hE] at Z6 P6 B6 kf6
        clear hW hE
        obtain ⟨g11, hg11⟩ : ∃ g, g = w5.heap.size := ⟨_, rfl⟩
        rw [← hg11] at P6 hgl hne ⊢
        clear hg11
        have ip : Is_pt W6 g10 14 ⟨ex, ey⟩ := fun j hj => by
          rw [Z6.cell]
          match j, hj with
          | 0, _ | 1, _ => rfl
        have iq : Is_pt W6 g10 16 ⟨mx, my⟩ := fun j hj => by
          rw [Z6.cell]
          match j, hj with
          | 0, _ | 1, _ => rfl
        go_cut [109, 46] from 46 to 132 (fun v i wx => v = .bool false ∧ i = .int .i64 k ∧ wx = W6)
        case first =>
          have m1 : Has_pt W6 g10 14 := ⟨_, ip⟩
          have m2 : of_pt W6 g10 14 = ⟨ex, ey⟩ := of_pt_eq ip
          have m3 : Has_pt W6 g11 0 := ⟨_, P6.is_pt⟩
          have m4 : of_pt W6 g11 0 = ⟨px, py⟩ := of_pt_eq P6.is_pt
          by_cases hf0 : F = []
          · obtain ⟨h1, h2⟩ := H6.out hf0
            subst hf0 h1 h2
            have N1 := run_neq_pt ⟨0, 0⟩ ⟨0, 0⟩
            rw [(Pt.eqB_iff _ _).2 rfl] at N1
            clear H5 H6
            go_wp2
            go_meet
            exact ⟨by trivial, by trivial, by trivial⟩
          · obtain ⟨h1, h2⟩ := H5.out hf0
            simp only [Prod.mk.injEq] at h2
            obtain ⟨rfl, rfl⟩ := h2
            have h1 : pe = 0 := h1
            subst h1
            have hfb : F.isEmpty = false := by simpa using hf0
            have N1 := run_neq_pt ⟨px, py⟩ ⟨px, py⟩
            rw [(Pt.eqB_iff _ _).2 rfl] at N1
            clear H5 H6
            go_wp2
            go_meet
            exact ⟨by trivial, by trivial, by trivial⟩
        case rest =>
          obtain ⟨rfl, rfl, rfl⟩ := hcut
          clear H5 H6 ip kf6
          obtain ⟨G, hG⟩ : ∃ G, lg.center = G := ⟨_, rfl⟩
          have kg : wc.cell? ⟨g10, 3, none⟩ = some (.string ⟨G.toArray⟩) := by rw [← hG]; exact Z6.cell 3
          rw [hG] at H7
          have hcall := Lib.hid (HC2.out G wc B6)
          have i1 : Has_db wc g3 0 := ⟨_, (HX.out _ B6).is_db hsz9⟩
          have i2 : of_db wc g3 0 = cs := of_db_eq ((HX.out _ B6).is_db hsz9)
          obtain ⟨⟨⟨qx, qy⟩, qe⟩, hp⟩ : ∃ p, pt G = p := ⟨_, rfl⟩
          rw [hp] at hcall H7
          have hpp : ptP ((qx, qy), qe).1 = ⟨qx, qy⟩ := rfl
          rw [hpp] at hcall
          have hzl : g10 < wc.heap.size := Z6.lt
          have HP6 := Lib.hid (fun w' (h : Below wc.heap.size wc w') => P6.step h)
          have HZ6 := Lib.hid (fun w' (h : Below wc.heap.size wc w') => Z6.step h)
          have HB6 := Lib.hid (fun w' (h : Below wc.heap.size wc w') => B6.trans (h.mono B6.size))
          have HI := Lib.hid (fun w' (h : Below wc.heap.size wc w') => iq.below h Z6.lt)
          clear P6 Z6 B6 iq hG hp hpp
          go_upto_region 19 with (go_at_call 11; (with_reducible refine callR hcall.out ?_); intro w7 b7 _ _ _; have d2 := (HP6.out _ b7).plain; have d3 := (HP6.out _ b7).of)
          have P8 := (HP6.out _ b7).set (Pt.arr ⟨qx, qy⟩)
          have Z8 := (HZ6.out _ b7).far (show g10 ≠ g11 by omega) (Pt.arr ⟨qx, qy⟩)
          have B8 := below_setRow' (HB6.out _ b7) hgl (Pt.arr ⟨qx, qy⟩)
          have iq : Is_pt (w7.setRow g11 (Pt.arr ⟨qx, qy⟩)) g10 16 ⟨mx, my⟩ := fun j hj => by
            rw [cell_far _ _ _ _ _ (show g10 ≠ g11 by omega)]
            exact HI.out _ b7 j hj
          have kg8 : (w7.setRow g11 (Pt.arr ⟨qx, qy⟩)).cell? ⟨g10, 3, none⟩ = some (.string ⟨G.toArray⟩) := by
            rw [cell_far _ _ _ _ _ (show g10 ≠ g11 by omega), b7.cell (p := ⟨g10, 3, none⟩) hzl]
            exact kg
          clear d2 d3 i1 i2 hcall kg HP6 HZ6 HB6 HI b7
          generalize w7.setRow g11 (Pt.arr ⟨qx, qy⟩) = W8 at P8 Z8 B8 iq kg8 ⊢
          go_cut [131, 46] from 46 to 132 (fun v i wx => v = .bool false ∧ i = .int .i64 k ∧ wx = W8)
          case first =>
            have m1 : Has_pt W8 g10 16 := ⟨_, iq⟩
            have m2 : of_pt W8 g10 16 = ⟨mx, my⟩ := of_pt_eq iq
            have m3 : Has_pt W8 g11 0 := ⟨_, P8.is_pt⟩
            have m4 : of_pt W8 g11 0 = ⟨qx, qy⟩ := of_pt_eq P8.is_pt
            by_cases hf0 : G = []
            · subst hf0
              clear H7
              go_wp2
              go_meet
              exact ⟨by trivial, by trivial, by trivial⟩
            · obtain ⟨h1, h2⟩ := H7.out hf0
              simp only [Prod.mk.injEq] at h2
              obtain ⟨rfl, rfl⟩ := h2
              have h1 : qe = 0 := h1
              subst h1
              have hfb : G.isEmpty = false := by simpa using hf0
              have N1 := run_neq_pt ⟨qx, qy⟩ ⟨qx, qy⟩
              rw [(Pt.eqB_iff _ _).2 rfl] at N1
              clear H7
              go_wp2
              go_meet
              exact ⟨by trivial, by trivial, by trivial⟩
          case rest =>
            obtain ⟨rfl, rfl, rfl⟩ := hcut
            clear iq kg8 Z8 P8 H7
            go_wp2
            go_roundw
            case rel => exact ⟨k + 1, by omega, by go_num, B8⟩
            case measure => simp [intOf]; omega
      · go_wp2
        go_ret
        exact Ret.bool rfl (below_step B3 BW)
  · have h0 : es = [] := HERR.out he
    subst h0
    go_wp2
    go_ret
    exact Ret.bool rfl (below_step B2 b2)
end Go.Proofs.YtjgondadpjildaaGreatDoor
