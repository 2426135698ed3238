/- The empty database: arrivals and approaches; Apply of any edit; walks. EditSets: the statement walked. An edit opened out of its reading. An edit among the arguments. A plan among the arguments, the lengths of its places with it. -/
import Derived.Test.YtcgmemkkcaipfaaGreatDoorPk45
import Derived.Test.YtcgmemkkcaipfaaGreatDoorPk42
import Derived.Test.YtcgmemkkcaipfaaGreatDoorPk19
import Derived.Test.YtcgmemkkcaipfaaGreatDoorPk21
namespace Go.Proofs.YtcgmemkkcaipfaaGreatDoor
open Go.RowKit Go.Sort
set_option linter.unusedVariables false
set_option linter.unusedSimpArgs false
set_option maxRecDepth 100000
set_option maxHeartbeats 8000000 in
theorem earrive0 (x : Edr) (kind s : Int) (g : Nat) (w W : World) (h : Ed w W g x []) (P : ZPre w x) : Calls Tryz.prog 54 #[.pointer (some ⟨g, 0, none⟩), .int .u8 kind, .int .u8 s] W (RetRun w g x (arriveS look0 x.p x.e kind s)) := by
  go_enter Tryz.func54, Tryz.ntmps54
  go_upto_region 1 with (fail)
  have S0 := Blk.new W #[.int .u8 s] 49
  have X0 := h.alloc (.cells #[.int .u8 s] 49)
  generalize W.alloc _ = W1 at S0 X0 ⊢
  generalize W.heap.size = gs at S0 ⊢
  have c11 := X0.c11
  have c12 := X0.c12
  have hgs : g ≠ gs := by
    rintro rfl
    have h1 := S0.cell 1
    rw [X0.blk.cell 1] at h1
    cases h1
  go_region
  replace X0 := X0.drw
  replace S0 := S0.step (Below.refl _ _).drew
  clear c11 c12 h
  generalize W1.drew = W2 at X0 S0 ⊢
  clear W1 W
  have c10 := X0.c10
  have k0 : W2.cell? ⟨gs, 0, none⟩ = some (.int .u8 s) := S0.cell 0
  have HX := Lib.hid X0
  by_cases h2 : x.p.to_ = []
  · have HS := Lib.hid (show arriveS look0 x.p x.e kind s = .bad 6 by unfold arriveS; rw [if_pos (by simpa using h2)])
    rw [h2] at c10
    clear X0 P
    go_wp2
    go_ret
    exact RetRun.bad HS.out (by decide) HX.out.bel
  · have h0 : (x.p.to_ == []) = false := by simpa using h2
    have hE := P.ents
    have a1 := P.act1
    have a0 := P.act0
    have HC := Lib.hid P.cap
    go_upto_region 4 with (fail)
    obtain ⟨bb, hbb⟩ : ∃ bb, bb = decide (x.p.active ≠ -1 ∧ s ≤ (entAt x.p x.p.active.toNat).sec) := ⟨_, rfl⟩
    have HBB := Lib.hid hbb
    clear hbb
    go_cut [42] (fun v wx => v = .bool bb ∧ Below W2.heap.size W2 wx)
    case first =>
      by_cases h1 : x.p.active = -1
      · have hz : (x.p.active != -1) = false := by simpa using h1
        obtain rfl : bb = false := by rw [HBB.out]; simp [h1]
        clear P X0 hE HBB
        go_region
        go_wp2
        go_meet
        exact ⟨rfl, (Below.refl _ _).drew⟩
      · have hz : (x.p.active != -1) = true := by simpa using h1
        obtain ⟨k, hk⟩ : ∃ k : Nat, x.p.active = k := ⟨x.p.active.toNat, by omega⟩
        have hkl : k < x.p.es.length := by omega
        obtain ⟨b, off, hA, hcl⟩ := hE.ent hkl
        have hI := hcl W2 X0.bel
        rw [hk] at hz HBB ⊢
        rw [Int.toNat_natCast] at HBB
        generalize entAt x.p k = y at HBB hI
        have h18 : W2.cell? ⟨b, off + k * 20 + 18, none⟩ = some (.int .u8 y.sec) := by have := hI 18 (by decide); exact this
        have AH := Lib.hid hA
        have KH := Lib.hid hk
        rw [hA]
        have hlt : (k : Int) < (x.p.es.length : Int) := by omega
        have hk1 : (k : Int) ≠ -1 := by omega
        clear hI hcl hE h1 hk X0 P a1 a0
        by_cases hs : s ≤ y.sec
        · obtain rfl : bb = true := by rw [HBB.out]; exact decide_eq_true ⟨hk1, hs⟩
          clear HBB hk1
          go_region
          go_wp2
          rw [← AH.out, ← KH.out]
          go_meet
          exact ⟨rfl, (Below.refl _ _).drew⟩
        · obtain rfl : bb = false := by rw [HBB.out]; exact decide_eq_false (fun h => hs h.2)
          have hs' : y.sec < s := by omega
          clear HBB hk1
          go_region
          go_wp2
          rw [← AH.out, ← KH.out]
          go_meet
          exact ⟨rfl, (Below.refl _ _).drew⟩
    case rest =>
      obtain ⟨rfl, BC⟩ := hcut
      have X3 := X0.step BC
      have c10 := X3.c10
      clear X0 S0 k0 HX
      by_cases hb : bb = true
      · have HS := Lib.hid (show arriveS look0 x.p x.e kind s = .bad 8 by
          unfold arriveS; rw [if_neg (by simpa using h2), if_pos (by simpa using (HBB.out.symm.trans hb))])
        subst hb
        have HX := Lib.hid X3
        clear X3 P HBB
        go_wp2
        go_ret
        exact RetRun.bad HS.out (by decide) HX.out.bel
      · have HS := Lib.hid (show arriveS look0 x.p x.e kind s = .bad 6 by
          unfold arriveS; rw [if_neg (by simpa using h2), if_neg (by intro h; exact hb (HBB.out.trans (decide_eq_true h)))]; rfl)
        obtain rfl : bb = false := by simpa using hb
        have HX := Lib.hid X3
        have kr := Lib.hid (erunway_any x [] g w wc X3 P.laid x.p.to_ P.to_ P.rw_)
        have hl := rwayS_lenZ P.to_ P.rw_
        have hl0 : x.p.to_.length ≤ 4000000000 := by have := P.to_; omega
        generalize rwayS x.p.to_ x.e.rway = f at *
        have kl := Lib.hid (fun (W' : World) (b : Ed w W' g { x with p := { x.p with to_ := f } } []) => elegs0 _ [] g w W' b P.laid P.c8 f kind hl)
        have kl2 := Lib.hid (fun (W' : World) (b : Ed w W' g x []) => elegs0 _ [] g w W' b P.laid P.c8 x.p.to_ kind hl0)
        clear X3 P HBB hb
        by_cases hk2 : kind = 2
        · subst hk2
          go_wp2_with (first
            | (go_at_call 119; (with_reducible refine callR kr.out ?_); intro w1 b1 _ _ _; have X1 := HX.out.step b1; have f9 := X1.blk.frozen 10; have k9 := X1.c10; have X2 := Lib.hid (X1.setTo f); clear X1)
            | (go_at_call 120; (with_reducible refine callR (kl.out _ X2.out) ?_); intro w3 b3 _ _ _))
          go_ret
          exact RetRun.bad HS.out (by decide) ((X2.out.step b3).alloc _).bel
        · have hk2' : (kind == 2) = false := by simpa using hk2
          go_wp2_with (go_at_call 120; (with_reducible refine callR (kl2.out _ HX.out) ?_); intro w3 b3 _ _ _)
          go_ret
          exact RetRun.bad HS.out (by decide) ((HX.out.step b3).alloc _).bel
/-- Apply on the empty database. -/
theorem eapplyZ_any (p : Plan) (A : Option Addr) (c : Nat) (e : EditV) (w : World) (hL : Laid w) (hF : FormsAt w) (hG : GapAt w)
    (hp : p.small) (hc : p.es.length ≤ c) (hE : Ents w A p.es) (hpf : p.from_.length ≤ 1000000000) (hpt2 : p.to_.length ≤ 1000000000) (he : e.ref.length ≤ 1000000000 ∧ e.name.length ≤ 1000000000 ∧ e.rway.length ≤ 1000000000 ∧ e.trans.length ≤ 1000000000) :
    Calls Tryz.prog 9 #[.agg cells0, .agg (p.arr A c), .agg e.arr] w (RetAp w (applyS look0 p e)) :=
  eapply_any db0 [] look0 p A c e w hL hF hG (db0_at w) rfl look0_ok hp hc hE hpf hpt2 he fun wb g b h1 h2 => by
    have P : ZPre wb (mkEdr db0.cells p A c e) := ⟨hL.below b, (mkEdr_db rfl p A c e).symm, hE.below (B := 0) b, hc, (planChk_ok h1).2.1, (planChk_ok h1).2.2.1, (planChk_ok h1).2.2.2, (edit_at h2).1, hpf, hpt2, he.2.2.1, by show e.name.length ≤ _; have := he.2.1; omega⟩
    exact ⟨fun W h _ ha => ejoin0 _ g wb W h P ha, fun W h _ => edepart0 _ g wb W h P, fun W h _ => earrive0 _ 2 3 g wb W h P, fun W h _ => earrive0 _ 3 4 g wb W h P, fun W h _ ha => edivert0 _ g wb W h P ha⟩
end Go.Proofs.YtcgmemkkcaipfaaGreatDoor
namespace Go.Proofs.YtcgmemkkcaipfaaGreatDoor
open Go.RowKit Go.Sort
set_option linter.unusedVariables false
set_option linter.unusedSimpArgs false
set_option maxRecDepth 100000
theorem Has_ent_drewS (W : World) (b o : Nat) : Has_ent W.drew b o = Has_ent W b o := propext ⟨fun h => h, fun h => h⟩
theorem of_ent_drewS (W : World) (b o : Nat) : of_ent W.drew b o = of_ent W b o := rfl
theorem splice_entW (x : Entry) (a b : Int) : splice x.arr 10 (Win.arr ⟨a, b⟩) = ({ x with leg := { x.leg with lo := a, hi := b } } : Entry).arr := rfl
theorem setAt_ent {p q : Plan} {e : EditV} (h : q.es = p.es.set e.at_.toNat (setLeg e (entAt p e.at_.toNat))) (ha : 0 ≤ e.at_) (i : Nat) : entAt q i = if e.at_ = (i : Int) then (if i < p.es.length then setLeg e (entAt p i) else gapE) else entAt p i := by
  unfold entAt at *
  rw [h, List.getD_eq_getElem?_getD, List.getElem?_set]
  by_cases hk : e.at_.toNat = i
  · have hk' : e.at_ = (i : Int) := by omega
    rw [if_pos hk, if_pos hk']
    subst hk
    split <;> rfl
  · have hk' : ¬ e.at_ = (i : Int) := by omega
    rw [if_neg hk, if_neg hk', List.getD_eq_getElem?_getD]
attribute [local go_sem ↓] bdbZ_fold run_neq_ent
attribute [local go_sem] run_bdbZ Has_ent_drewS of_ent_drewS
set_option maxHeartbeats 16000000 in
theorem lawEdSets_any (p : Plan) (A : Option Addr) (c : Nat) (e : EditV) (w : World) (hO : Open23 w) (hp : p.small) (hc : p.es.length ≤ c) (hE : Ents w A p.es) (hpf : p.from_.length ≤ 1000000000) (hpt : p.to_.length ≤ 1000000000)
    (he : e.ref.length ≤ 1000000000 ∧ e.name.length ≤ 1000000000 ∧ e.rway.length ≤ 1000000000 ∧ e.trans.length ≤ 1000000000) :
    Calls Tryz.prog 4 #[.agg (p.arr A c), .agg e.arr] w (Ret w (.bool true)) := by
  go_enter Tryz.func4, Tryz.ntmps4
  go_upto_region 1 with (fail)
  generalize hW : (w.alloc _).alloc _ = W
  have P0 : Blk W w.heap.size (p.arr A c) := by rw [← hW]; exact (Blk.new w (p.arr A c) _).alloc _
  have E0 : Blk W (w.heap.size + 1) e.arr := by rw [← hW, ← World.size_alloc w (.cells (p.arr A c) 33)]; exact Blk.new _ _ _
  have B0 : Below w.heap.size w W := by rw [← hW]; go_grown
  clear hW
  generalize w.heap.size + 1 = ge at E0 ⊢
  obtain ⟨gp, hgp⟩ : ∃ g, g = w.heap.size := ⟨_, rfl⟩
  rw [← hgp] at P0 ⊢
  clear hgp
  go_upto_region 3 with (go_at_call 7; (with_reducible refine callR (awake23_any W (hO.below B0)) ?_); intro w1 b1 _ _ _)
  have P1 := P0.step b1
  have E1 := E0.step b1
  have B1 := below_step B0 b1
  clear P0 E0 B0 b1
  have i1 : Has_plan w1 gp 0 := ⟨_, P1.is_plan rfl⟩
  have i2 : of_plan w1 gp 0 = p.arr A c := of_plan_eq (P1.is_plan rfl)
  have j1 : Has_edt w1 ge 0 := ⟨_, E1.is_edt⟩
  have j2 : of_edt w1 ge 0 = e := of_edt_eq E1.is_edt
  have KA := Lib.hid (eapplyZ_any p A c e w1 (hO.below B1).laid (hO.below B1).forms (hO.below B1).gap hp hc (hE.below (B := 0) B1) hpf hpt he)
  have HD := Lib.hid (fun h ho => @sets_law look0 p e h ho)
  have HT := Lib.hid (fun h => (edit_at (@applyS_ok look0 p e h).2.1).1)
  have HPL := Lib.hid (fun h => (planChk_ok (@applyS_ok look0 p e h).1).2.1)
  generalize applyS look0 p e = R at KA HD HT HPL
  obtain ⟨q, er⟩ := R
  go_upto_region 4 with (go_at_call 9; (with_reducible refine callAp KA.out ?_); intro Aq cq w2 hcq hEq _ b2)
  have Q0 := Blk.new w2 (q.arr Aq cq) 33
  have D0 := below_step b2 (alloc_below5 w2 (.cells (q.arr Aq cq) 33))
  have F0 : Ents (w2.alloc (.cells (q.arr Aq cq) 33)) Aq q.es := hEq.below (B := 0) (alloc_below5 w2 (.cells (q.arr Aq cq) 33))
  have P2 := P1.step D0
  have E2 := E1.step D0
  have B2 := below_step B1 D0
  clear KA i1 i2 j1 j2 hEq b2 P1 E1 D0
  generalize w2.alloc _ = W3 at Q0 F0 P2 E2 B2 ⊢
  generalize w2.heap.size = gq at Q0 ⊢
  have c0 : W3.cell? ⟨ge, 0, none⟩ = some (.int .u8 e.op) := E2.cell 0
  by_cases hz : er = 0
  case neg =>
    have hz' : (er != 0) = true := by simpa using hz
    have HB := Lib.hid B2
    clear HD HT HPL hE hp hc
    go_wp2
    go_ret
    exact Ret.bool rfl HB.out
  subst hz
  by_cases ho : e.op = 4 ∨ e.op = 5 ∨ e.op = 6
  case neg =>
    have n4 : (e.op != 4) = true := by simp; omega
    have n5 : (e.op != 5) = true := by simp; omega
    have n6 : (e.op != 6) = true := by simp; omega
    have HB := Lib.hid B2
    clear HD HT HPL hE hp hc ho
    go_wp2
    go_ret
    exact Ret.bool rfl HB.out
  have hq := HD.out rfl ho
  have hat := HT.out rfl
  have hn := HPL.out rfl
  have hq1 : q.es = p.es.set e.at_.toNat (setLeg e (entAt p e.at_.toNat)) := by rw [show q = _ from hq]
  have hq2 : q.from_ = p.from_ := by rw [show q = _ from hq]
  have hq3 : q.to_ = p.to_ := by rw [show q = _ from hq]
  have hql : q.es.length = p.es.length := by rw [hq1]; simp
  have HAT := Lib.hid (fun i => setAt_ent hq1 hat i)
  clear HD HT HPL hq hq1
  have HQL := Lib.hid hql
  have HQ2 := Lib.hid hq2
  have HQ3 := Lib.hid hq3
  have hl0 : ((q.es.length : Int) != (p.es.length : Int)) = false := by rw [hql]; simp
  have hc2 : q.es.length ≤ cq := hcq
  have HCQ := Lib.hid hc2
  have HC := Lib.hid hc
  have HN := Lib.hid hn
  have HE := Lib.hid hE
  have HF := Lib.hid F0
  have a2 : W3.cell? ⟨gp, 2, none⟩ = some (.slice A p.es.length c) := P2.cell 2
  have aq : W3.cell? ⟨gq, 2, none⟩ = some (.slice Aq q.es.length cq) := Q0.cell 2
  clear hql hq2 hq3 hcq hc2 hc hn hE F0 hp hpf hpt he hO
  have HP2 := Lib.hid P2
  have HE2 := Lib.hid E2
  have HQ0 := Lib.hid Q0
  have HB2 := Lib.hid B2
  clear P2 E2 Q0 B2
  rcases ho with ho | ho | ho
  · have HSL := Lib.hid (fun x => show setLeg e x = _ from if_pos ho)
    rw [ho] at c0
    have HO := Lib.hid ho
    clear ho
    have hl1 : (q.es.length : Int) = (p.es.length : Int) := by rw [HQL.out]
    go_wp2
    clear a2 aq hl0 hl1
    go_loopw [45] (fun iv wr => ∃ i : Nat, i ≤ p.es.length ∧ iv = .int .i64 i ∧ Below W3.heap.size W3 wr) (fun iv _ => p.es.length - (intOf iv).toNat)
    case atStart => exact ⟨0, by omega, rfl, Below.refl _ _⟩
    case round =>
      obtain ⟨i, hil, rfl, BW⟩ := hrel
      have PW := HP2.out.step BW
      have EW := HE2.out.step BW
      have QW := HQ0.out.step BW
      have BB := below_step HB2.out BW
      by_cases hlt : i < p.es.length
      · obtain ⟨b, off, hA, hcl⟩ := HE.out.ent hlt
        obtain ⟨b2, o2, hA2, hcl2⟩ := (show Ents W3 Aq q.es from HF.out).ent (p := q) (k := i) (by rw [HQL.out]; exact hlt)
        have hI := hcl wr BB
        have hI2 := hcl2 wr BW
        rw [HAT.out i] at hI2
        have c2 : wr.cell? ⟨gp, 2, none⟩ = some (.slice (some ⟨b, off, none⟩) p.es.length c) := by have := PW.cell 2; rw [← hA]; exact this
        have DQ := Lib.hid (fun W' (bb : Below wr.heap.size wr W') => show W'.cell? ⟨gq, 2, none⟩ = some (.slice (some ⟨b2, o2, none⟩) p.es.length cq) by have := (QW.step bb).cell 2; rw [← hA2, ← HQL.out]; exact this)

        have e0 : wr.cell? ⟨ge, 0, none⟩ = some (.int .u8 4) := by have := EW.cell 0; rw [this]; show some (Value.int .u8 e.op) = _; rw [HO.out]
        have hic : i < c := Nat.lt_of_lt_of_le hlt HC.out
        have hicq : i < cq := Nat.lt_of_lt_of_le (by rw [HQL.out]; exact hlt) HCQ.out
        have hlt' : (i : Int) < (p.es.length : Int) := by omega
        have hi60 : i < 60 := Nat.lt_of_lt_of_le hlt HN.out
        have hb2 : b2 < wr.heap.size := block_lt_of_cell ((hI2 0 (by omega)).trans rfl)
        have HQW := Lib.hid QW
        clear hcl hcl2 hA hA2 PW QW
        by_cases hk : e.at_ = (i : Int)
        · rw [if_pos hk, if_pos hlt, HSL.out] at hI2
          have KK := Lib.hid hk
          clear hk
          generalize entAt p i = x at hI hI2
          have i1 : Has_ent wr b (off + i * 20) := ⟨_, hI⟩
          have i2 : of_ent wr b (off + i * 20) = x := of_ent_eq hI
          have HI2 := Lib.hid hI2
          have HE3 := Lib.hid EW
          clear hI hI2 EW e0
          go_upto_region 12 with (fail)
          have X := Blk.new wr x.arr 51
          have D := alloc_below5 wr (.cells x.arr 51)
          have EX := HE3.out.step D
          have hgx : wr.heap.size ≤ wr.heap.size := Nat.le_refl _
          obtain ⟨gx, hgxx⟩ : ∃ g, g = wr.heap.size := ⟨_, rfl⟩
          rw [← hgxx] at X ⊢
          have hgx : wr.heap.size ≤ gx := by omega
          clear hgxx
          generalize wr.alloc _ = W4 at X D EX ⊢
          have e0 : W4.cell? ⟨ge, 0, none⟩ = some (.int .u8 4) := by have := EX.cell 0; rw [this]; show some (Value.int .u8 e.op) = _; rw [HO.out]
          have e1 : W4.cell? ⟨ge, 1, none⟩ = some (.int .i64 (i : Int)) := by have := EX.cell 1; rw [this]; show some (Value.int .i64 e.at_) = _; rw [KK.out]
          have p1 : Plain W4 gx := X.plain
          have p2 : blkOf W4 gx = x.arr := X.of
          have p3 := splice_entW x e.lo e.hi
          have v1 : Has_win W4 ge 6 := ⟨_, EX.edt_win⟩
          have v2 : of_win W4 ge 6 = ⟨e.lo, e.hi⟩ := of_win_eq EX.edt_win
          go_upto_region 14 with (fail)
          obtain ⟨z, hz⟩ : ∃ z : Entry, z = { x with leg := { x.leg with lo := e.lo, hi := e.hi } } := ⟨_, rfl⟩
          rw [← hz] at HI2 ⊢
          have X5 := X.set z.arr
          have D5 := below_setRow' D hgx z.arr
          clear p1 p2 p3 v1 v2 hz D
          generalize W4.setRow gx _ = W5 at X5 D5 ⊢
          clear e0 e1
          have e0 : W5.cell? ⟨ge, 0, none⟩ = some (.int .u8 4) := by have := (HE3.out.step D5).cell 0; rw [this]; show some (Value.int .u8 e.op) = _; rw [HO.out]
          have e1 : W5.cell? ⟨ge, 1, none⟩ = some (.int .i64 (i : Int)) := by have := (HE3.out.step D5).cell 1; rw [this]; show some (Value.int .i64 e.at_) = _; rw [KK.out]
          go_upto_region 18 with (fail)
          clear X EX HE3 i1 i2 c2
          have k1 : Has_ent W5 gx 0 := ⟨_, X5.is_ent⟩
          have k2 : of_ent W5 gx 0 = z := of_ent_eq X5.is_ent
          have hJ : Is_ent W5 b2 (o2 + i * 20) z := fun j hj => (D5.cell (p := ⟨b2, _, none⟩) hb2).trans (HI2.out j hj)
          have n1 : Has_ent W5 b2 (o2 + i * 20) := ⟨_, hJ⟩
          have n2 : of_ent W5 b2 (o2 + i * 20) = z := of_ent_eq hJ
          have d2 : W5.cell? ⟨gq, 2, none⟩ = some (.slice (some ⟨b2, o2, none⟩) p.es.length cq) := DQ.out W5 D5
          have hself : z.eqB z = true := (Entry.eqB_iff _ _).2 rfl
          have HD5 := Lib.hid D5
          clear hJ X5 D5 HI2 e0 e1
          go_region
          go_wp2
          go_roundw
          case rel => exact ⟨i + 1, by omega, by go_num, below_step (below_step BW HD5.out) (Below.refl _ _).drew⟩
          case measure => simp [intOf]; omega
        · rw [if_neg hk] at hI2
          have KK := Lib.hid hk
          have hne : ((i : Int) == e.at_) = false := by simp; omega
          clear hk
          generalize entAt p i = x at hI hI2
          have i1 : Has_ent wr b (off + i * 20) := ⟨_, hI⟩
          have i2 : of_ent wr b (off + i * 20) = x := of_ent_eq hI
          have HI2 := Lib.hid hI2
          have HE3 := Lib.hid EW
          clear hI hI2 EW e0
          go_upto_region 12 with (fail)
          have X := Blk.new wr x.arr 51
          have D := alloc_below5 wr (.cells x.arr 51)
          have EX := HE3.out.step D
          generalize wr.alloc _ = W4 at X D EX ⊢
          generalize wr.heap.size = gx at X ⊢
          have e0 : W4.cell? ⟨ge, 0, none⟩ = some (.int .u8 4) := by have := EX.cell 0; rw [this]; show some (Value.int .u8 e.op) = _; rw [HO.out]
          have e1 : W4.cell? ⟨ge, 1, none⟩ = some (.int .i64 e.at_) := EX.cell 1
          clear EX HE3 i1 i2 c2
          go_upto_region 18 with (fail)
          have k1 : Has_ent W4 gx 0 := ⟨_, X.is_ent⟩
          have k2 : of_ent W4 gx 0 = x := of_ent_eq X.is_ent
          have hJ : Is_ent W4 b2 (o2 + i * 20) x := fun j hj => (D.cell (p := ⟨b2, _, none⟩) hb2).trans (HI2.out j hj)
          have n1 : Has_ent W4 b2 (o2 + i * 20) := ⟨_, hJ⟩
          have n2 : of_ent W4 b2 (o2 + i * 20) = x := of_ent_eq hJ
          have d2 : W4.cell? ⟨gq, 2, none⟩ = some (.slice (some ⟨b2, o2, none⟩) p.es.length cq) := DQ.out W4 D
          have hself : x.eqB x = true := (Entry.eqB_iff _ _).2 rfl
          have HD5 := Lib.hid D
          clear hJ X D HI2 e0 e1
          go_region
          go_wp2
          go_roundw
          case rel => exact ⟨i + 1, by omega, by go_num, below_step (below_step BW HD5.out) (Below.refl _ _).drew⟩
          case measure => simp [intOf]; omega
      · have f1 : wr.cell? ⟨gp, 0, none⟩ = some (.string ⟨p.from_.toArray⟩) := PW.cell 0
        have f2 : wr.cell? ⟨gp, 1, none⟩ = some (.string ⟨p.to_.toArray⟩) := PW.cell 1
        have f3 : wr.cell? ⟨gq, 0, none⟩ = some (.string ⟨p.from_.toArray⟩) := by have := QW.cell 0; rw [this, ← HQ2.out]; rfl
        have f4 : wr.cell? ⟨gq, 1, none⟩ = some (.string ⟨p.to_.toArray⟩) := by have := QW.cell 1; rw [this, ← HQ3.out]; rfl
        clear PW QW EW
        go_wp2
        go_ret
        exact Ret.bool rfl BB
  · have HSL := Lib.hid (fun x => show setLeg e x = _ from (if_neg (by omega)).trans (if_pos ho))
    rw [ho] at c0
    have HO := Lib.hid ho
    clear ho
    have hl1 : (q.es.length : Int) = (p.es.length : Int) := by rw [HQL.out]
    go_wp2
    clear a2 aq hl0 hl1
    go_loopw [45] (fun iv wr => ∃ i : Nat, i ≤ p.es.length ∧ iv = .int .i64 i ∧ Below W3.heap.size W3 wr) (fun iv _ => p.es.length - (intOf iv).toNat)
    case atStart => exact ⟨0, by omega, rfl, Below.refl _ _⟩
    case round =>
      obtain ⟨i, hil, rfl, BW⟩ := hrel
      have PW := HP2.out.step BW
      have EW := HE2.out.step BW
      have QW := HQ0.out.step BW
      have BB := below_step HB2.out BW
      by_cases hlt : i < p.es.length
      · obtain ⟨b, off, hA, hcl⟩ := HE.out.ent hlt
        obtain ⟨b2, o2, hA2, hcl2⟩ := (show Ents W3 Aq q.es from HF.out).ent (p := q) (k := i) (by rw [HQL.out]; exact hlt)
        have hI := hcl wr BB
        have hI2 := hcl2 wr BW
        rw [HAT.out i] at hI2
        have c2 : wr.cell? ⟨gp, 2, none⟩ = some (.slice (some ⟨b, off, none⟩) p.es.length c) := by have := PW.cell 2; rw [← hA]; exact this
        have DQ := Lib.hid (fun W' (bb : Below wr.heap.size wr W') => show W'.cell? ⟨gq, 2, none⟩ = some (.slice (some ⟨b2, o2, none⟩) p.es.length cq) by have := (QW.step bb).cell 2; rw [← hA2, ← HQL.out]; exact this)

        have e0 : wr.cell? ⟨ge, 0, none⟩ = some (.int .u8 5) := by have := EW.cell 0; rw [this]; show some (Value.int .u8 e.op) = _; rw [HO.out]
        have hic : i < c := Nat.lt_of_lt_of_le hlt HC.out
        have hicq : i < cq := Nat.lt_of_lt_of_le (by rw [HQL.out]; exact hlt) HCQ.out
        have hlt' : (i : Int) < (p.es.length : Int) := by omega
        have hi60 : i < 60 := Nat.lt_of_lt_of_le hlt HN.out
        have hb2 : b2 < wr.heap.size := block_lt_of_cell ((hI2 0 (by omega)).trans rfl)
        have HQW := Lib.hid QW
        clear hcl hcl2 hA hA2 PW QW
        by_cases hk : e.at_ = (i : Int)
        · rw [if_pos hk, if_pos hlt, HSL.out] at hI2
          have KK := Lib.hid hk
          clear hk
          generalize entAt p i = x at hI hI2
          have i1 : Has_ent wr b (off + i * 20) := ⟨_, hI⟩
          have i2 : of_ent wr b (off + i * 20) = x := of_ent_eq hI
          have HI2 := Lib.hid hI2
          have HE3 := Lib.hid EW
          clear hI hI2 EW e0
          go_upto_region 12 with (fail)
          have X := Blk.new wr x.arr 51
          have D := alloc_below5 wr (.cells x.arr 51)
          have EX := HE3.out.step D
          have hgx : wr.heap.size ≤ wr.heap.size := Nat.le_refl _
          obtain ⟨gx, hgxx⟩ : ∃ g, g = wr.heap.size := ⟨_, rfl⟩
          rw [← hgxx] at X ⊢
          have hgx : wr.heap.size ≤ gx := by omega
          clear hgxx
          generalize wr.alloc _ = W4 at X D EX ⊢
          have e0 : W4.cell? ⟨ge, 0, none⟩ = some (.int .u8 5) := by have := EX.cell 0; rw [this]; show some (Value.int .u8 e.op) = _; rw [HO.out]
          have e1 : W4.cell? ⟨ge, 1, none⟩ = some (.int .i64 (i : Int)) := by have := EX.cell 1; rw [this]; show some (Value.int .i64 e.at_) = _; rw [KK.out]
          have f12 := X.frozen 12
          have v1 : W4.cell? ⟨ge, 8, none⟩ = some (.int .i64 e.speed) := EX.cell 8
          have v2 : W4.cell? ⟨gx, 12, none⟩ = some (.int .i64 x.leg.speed) := X.cell 12
          go_upto_region 18 with (fail)
          obtain ⟨z, hz⟩ : ∃ z : Entry, z = { x with leg := { x.leg with speed := e.speed } } := ⟨_, rfl⟩
          rw [← hz] at HI2
          have X5 : Blk (W4.setCell ⟨gx, 12, none⟩ (.int .i64 e.speed)) gx z.arr := by rw [hz]; exact X.setCell 12 _
          have D5 := below_setCell D hgx 12 (.int .i64 e.speed)
          clear f12 v1 v2 hz D
          generalize W4.setCell _ _ = W5 at X5 D5 ⊢
          clear X EX HE3 i1 i2 c2
          have k1 : Has_ent W5 gx 0 := ⟨_, X5.is_ent⟩
          have k2 : of_ent W5 gx 0 = z := of_ent_eq X5.is_ent
          have hJ : Is_ent W5 b2 (o2 + i * 20) z := fun j hj => (D5.cell (p := ⟨b2, _, none⟩) hb2).trans (HI2.out j hj)
          have n1 : Has_ent W5 b2 (o2 + i * 20) := ⟨_, hJ⟩
          have n2 : of_ent W5 b2 (o2 + i * 20) = z := of_ent_eq hJ
          have d2 : W5.cell? ⟨gq, 2, none⟩ = some (.slice (some ⟨b2, o2, none⟩) p.es.length cq) := DQ.out W5 D5
          have hself : z.eqB z = true := (Entry.eqB_iff _ _).2 rfl
          have HD5 := Lib.hid D5
          clear hJ X5 D5 HI2 e0 e1
          go_region
          go_wp2
          go_roundw
          case rel => exact ⟨i + 1, by omega, by go_num, below_step (below_step BW HD5.out) (Below.refl _ _).drew⟩
          case measure => simp [intOf]; omega
        · rw [if_neg hk] at hI2
          have KK := Lib.hid hk
          have hne : ((i : Int) == e.at_) = false := by simp; omega
          clear hk
          generalize entAt p i = x at hI hI2
          have i1 : Has_ent wr b (off + i * 20) := ⟨_, hI⟩
          have i2 : of_ent wr b (off + i * 20) = x := of_ent_eq hI
          have HI2 := Lib.hid hI2
          have HE3 := Lib.hid EW
          clear hI hI2 EW e0
          go_upto_region 12 with (fail)
          have X := Blk.new wr x.arr 51
          have D := alloc_below5 wr (.cells x.arr 51)
          have EX := HE3.out.step D
          generalize wr.alloc _ = W4 at X D EX ⊢
          generalize wr.heap.size = gx at X ⊢
          have e0 : W4.cell? ⟨ge, 0, none⟩ = some (.int .u8 5) := by have := EX.cell 0; rw [this]; show some (Value.int .u8 e.op) = _; rw [HO.out]
          have e1 : W4.cell? ⟨ge, 1, none⟩ = some (.int .i64 e.at_) := EX.cell 1
          clear EX HE3 i1 i2 c2
          go_upto_region 18 with (fail)
          have k1 : Has_ent W4 gx 0 := ⟨_, X.is_ent⟩
          have k2 : of_ent W4 gx 0 = x := of_ent_eq X.is_ent
          have hJ : Is_ent W4 b2 (o2 + i * 20) x := fun j hj => (D.cell (p := ⟨b2, _, none⟩) hb2).trans (HI2.out j hj)
          have n1 : Has_ent W4 b2 (o2 + i * 20) := ⟨_, hJ⟩
          have n2 : of_ent W4 b2 (o2 + i * 20) = x := of_ent_eq hJ
          have d2 : W4.cell? ⟨gq, 2, none⟩ = some (.slice (some ⟨b2, o2, none⟩) p.es.length cq) := DQ.out W4 D
          have hself : x.eqB x = true := (Entry.eqB_iff _ _).2 rfl
          have HD5 := Lib.hid D
          clear hJ X D HI2 e0 e1
          go_region
          go_wp2
          go_roundw
          case rel => exact ⟨i + 1, by omega, by go_num, below_step (below_step BW HD5.out) (Below.refl _ _).drew⟩
          case measure => simp [intOf]; omega
      · have f1 : wr.cell? ⟨gp, 0, none⟩ = some (.string ⟨p.from_.toArray⟩) := PW.cell 0
        have f2 : wr.cell? ⟨gp, 1, none⟩ = some (.string ⟨p.to_.toArray⟩) := PW.cell 1
        have f3 : wr.cell? ⟨gq, 0, none⟩ = some (.string ⟨p.from_.toArray⟩) := by have := QW.cell 0; rw [this, ← HQ2.out]; rfl
        have f4 : wr.cell? ⟨gq, 1, none⟩ = some (.string ⟨p.to_.toArray⟩) := by have := QW.cell 1; rw [this, ← HQ3.out]; rfl
        clear PW QW EW
        go_wp2
        go_ret
        exact Ret.bool rfl BB
  · have HSL := Lib.hid (fun x => show setLeg e x = _ from (if_neg (by omega)).trans (if_neg (by omega)))
    rw [ho] at c0
    have HO := Lib.hid ho
    clear ho
    have hl1 : (q.es.length : Int) = (p.es.length : Int) := by rw [HQL.out]
    go_wp2
    clear a2 aq hl0 hl1
    go_loopw [45] (fun iv wr => ∃ i : Nat, i ≤ p.es.length ∧ iv = .int .i64 i ∧ Below W3.heap.size W3 wr) (fun iv _ => p.es.length - (intOf iv).toNat)
    case atStart => exact ⟨0, by omega, rfl, Below.refl _ _⟩
    case round =>
      obtain ⟨i, hil, rfl, BW⟩ := hrel
      have PW := HP2.out.step BW
      have EW := HE2.out.step BW
      have QW := HQ0.out.step BW
      have BB := below_step HB2.out BW
      by_cases hlt : i < p.es.length
      · obtain ⟨b, off, hA, hcl⟩ := HE.out.ent hlt
        obtain ⟨b2, o2, hA2, hcl2⟩ := (show Ents W3 Aq q.es from HF.out).ent (p := q) (k := i) (by rw [HQL.out]; exact hlt)
        have hI := hcl wr BB
        have hI2 := hcl2 wr BW
        rw [HAT.out i] at hI2
        have c2 : wr.cell? ⟨gp, 2, none⟩ = some (.slice (some ⟨b, off, none⟩) p.es.length c) := by have := PW.cell 2; rw [← hA]; exact this
        have DQ := Lib.hid (fun W' (bb : Below wr.heap.size wr W') => show W'.cell? ⟨gq, 2, none⟩ = some (.slice (some ⟨b2, o2, none⟩) p.es.length cq) by have := (QW.step bb).cell 2; rw [← hA2, ← HQL.out]; exact this)

        have e0 : wr.cell? ⟨ge, 0, none⟩ = some (.int .u8 6) := by have := EW.cell 0; rw [this]; show some (Value.int .u8 e.op) = _; rw [HO.out]
        have hic : i < c := Nat.lt_of_lt_of_le hlt HC.out
        have hicq : i < cq := Nat.lt_of_lt_of_le (by rw [HQL.out]; exact hlt) HCQ.out
        have hlt' : (i : Int) < (p.es.length : Int) := by omega
        have hi60 : i < 60 := Nat.lt_of_lt_of_le hlt HN.out
        have hb2 : b2 < wr.heap.size := block_lt_of_cell ((hI2 0 (by omega)).trans rfl)
        have HQW := Lib.hid QW
        clear hcl hcl2 hA hA2 PW QW
        by_cases hk : e.at_ = (i : Int)
        · rw [if_pos hk, if_pos hlt, HSL.out] at hI2
          have KK := Lib.hid hk
          clear hk
          generalize entAt p i = x at hI hI2
          have i1 : Has_ent wr b (off + i * 20) := ⟨_, hI⟩
          have i2 : of_ent wr b (off + i * 20) = x := of_ent_eq hI
          have HI2 := Lib.hid hI2
          have HE3 := Lib.hid EW
          clear hI hI2 EW e0
          go_upto_region 12 with (fail)
          have X := Blk.new wr x.arr 51
          have D := alloc_below5 wr (.cells x.arr 51)
          have EX := HE3.out.step D
          have hgx : wr.heap.size ≤ wr.heap.size := Nat.le_refl _
          obtain ⟨gx, hgxx⟩ : ∃ g, g = wr.heap.size := ⟨_, rfl⟩
          rw [← hgxx] at X ⊢
          have hgx : wr.heap.size ≤ gx := by omega
          clear hgxx
          generalize wr.alloc _ = W4 at X D EX ⊢
          have e0 : W4.cell? ⟨ge, 0, none⟩ = some (.int .u8 6) := by have := EX.cell 0; rw [this]; show some (Value.int .u8 e.op) = _; rw [HO.out]
          have e1 : W4.cell? ⟨ge, 1, none⟩ = some (.int .i64 (i : Int)) := by have := EX.cell 1; rw [this]; show some (Value.int .i64 e.at_) = _; rw [KK.out]
          have f13 := X.frozen 13
          have v1 : W4.cell? ⟨ge, 10, none⟩ = some (.int .i64 e.dist) := EX.cell 10
          have v2 : W4.cell? ⟨gx, 13, none⟩ = some (.int .i64 x.leg.rnp) := X.cell 13
          go_upto_region 18 with (fail)
          obtain ⟨z, hz⟩ : ∃ z : Entry, z = { x with leg := { x.leg with rnp := e.dist } } := ⟨_, rfl⟩
          rw [← hz] at HI2
          have X5 : Blk (W4.setCell ⟨gx, 13, none⟩ (.int .i64 e.dist)) gx z.arr := by rw [hz]; exact X.setCell 13 _
          have D5 := below_setCell D hgx 13 (.int .i64 e.dist)
          clear f13 v1 v2 hz D
          generalize W4.setCell _ _ = W5 at X5 D5 ⊢
          clear X EX HE3 i1 i2 c2
          have k1 : Has_ent W5 gx 0 := ⟨_, X5.is_ent⟩
          have k2 : of_ent W5 gx 0 = z := of_ent_eq X5.is_ent
          have hJ : Is_ent W5 b2 (o2 + i * 20) z := fun j hj => (D5.cell (p := ⟨b2, _, none⟩) hb2).trans (HI2.out j hj)
          have n1 : Has_ent W5 b2 (o2 + i * 20) := ⟨_, hJ⟩
          have n2 : of_ent W5 b2 (o2 + i * 20) = z := of_ent_eq hJ
          have d2 : W5.cell? ⟨gq, 2, none⟩ = some (.slice (some ⟨b2, o2, none⟩) p.es.length cq) := DQ.out W5 D5
          have hself : z.eqB z = true := (Entry.eqB_iff _ _).2 rfl
          have HD5 := Lib.hid D5
          clear hJ X5 D5 HI2 e0 e1
          go_region
          go_wp2
          go_roundw
          case rel => exact ⟨i + 1, by omega, by go_num, below_step (below_step BW HD5.out) (Below.refl _ _).drew⟩
          case measure => simp [intOf]; omega
        · rw [if_neg hk] at hI2
          have KK := Lib.hid hk
          have hne : ((i : Int) == e.at_) = false := by simp; omega
          clear hk
          generalize entAt p i = x at hI hI2
          have i1 : Has_ent wr b (off + i * 20) := ⟨_, hI⟩
          have i2 : of_ent wr b (off + i * 20) = x := of_ent_eq hI
          have HI2 := Lib.hid hI2
          have HE3 := Lib.hid EW
          clear hI hI2 EW e0
          go_upto_region 12 with (fail)
          have X := Blk.new wr x.arr 51
          have D := alloc_below5 wr (.cells x.arr 51)
          have EX := HE3.out.step D
          generalize wr.alloc _ = W4 at X D EX ⊢
          generalize wr.heap.size = gx at X ⊢
          have e0 : W4.cell? ⟨ge, 0, none⟩ = some (.int .u8 6) := by have := EX.cell 0; rw [this]; show some (Value.int .u8 e.op) = _; rw [HO.out]
          have e1 : W4.cell? ⟨ge, 1, none⟩ = some (.int .i64 e.at_) := EX.cell 1
          clear EX HE3 i1 i2 c2
          go_upto_region 18 with (fail)
          have k1 : Has_ent W4 gx 0 := ⟨_, X.is_ent⟩
          have k2 : of_ent W4 gx 0 = x := of_ent_eq X.is_ent
          have hJ : Is_ent W4 b2 (o2 + i * 20) x := fun j hj => (D.cell (p := ⟨b2, _, none⟩) hb2).trans (HI2.out j hj)
          have n1 : Has_ent W4 b2 (o2 + i * 20) := ⟨_, hJ⟩
          have n2 : of_ent W4 b2 (o2 + i * 20) = x := of_ent_eq hJ
          have d2 : W4.cell? ⟨gq, 2, none⟩ = some (.slice (some ⟨b2, o2, none⟩) p.es.length cq) := DQ.out W4 D
          have hself : x.eqB x = true := (Entry.eqB_iff _ _).2 rfl
          have HD5 := Lib.hid D
          clear hJ X D HI2 e0 e1
          go_region
          go_wp2
          go_roundw
          case rel => exact ⟨i + 1, by omega, by go_num, below_step (below_step BW HD5.out) (Below.refl _ _).drew⟩
          case measure => simp [intOf]; omega
      · have f1 : wr.cell? ⟨gp, 0, none⟩ = some (.string ⟨p.from_.toArray⟩) := PW.cell 0
        have f2 : wr.cell? ⟨gp, 1, none⟩ = some (.string ⟨p.to_.toArray⟩) := PW.cell 1
        have f3 : wr.cell? ⟨gq, 0, none⟩ = some (.string ⟨p.from_.toArray⟩) := by have := QW.cell 0; rw [this, ← HQ2.out]; rfl
        have f4 : wr.cell? ⟨gq, 1, none⟩ = some (.string ⟨p.to_.toArray⟩) := by have := QW.cell 1; rw [this, ← HQ3.out]; rfl
        clear PW QW EW
        go_wp2
        go_ret
        exact Ret.bool rfl BB
end Go.Proofs.YtcgmemkkcaipfaaGreatDoor
namespace Go.Proofs.YtcgmemkkcaipfaaGreatDoor
open Go.RowKit Go.ChangeShapes Go.WideShapes Go.Deep
set_option linter.unusedVariables false
set_option linter.unusedSimpArgs false
theorem cells_edt_1 : Tryz.prog.cellsOf 34 = 1 := by kernel_rfl
theorem cells_edt_2 : Tryz.prog.cellsOf 36 = 2 := by kernel_rfl
theorem cells_edt : Tryz.prog.cellsOf 38 = 12 := by kernel_rfl
def EditV.bnd (x : EditV) (N : Nat) : Prop := x.ref.length ≤ N ∧ x.name.length ≤ N ∧ x.rway.length ≤ N ∧ x.trans.length ≤ N
section
variable {H : Type} {enc : TypeId × Value → H} {w : World} {base : Nat} {spare : Nat → Bool} {held : Bool}
theorem list_n_edt {α : Type _} {l : List α} (h : l.length = 12) : ∃ x0 x1 x2 x3 x4 x5 x6 x7 x8 x9 x10 x11, l = [x0, x1, x2, x3, x4, x5, x6, x7, x8, x9, x10, x11] := by
  match l, h with
  | [x0, x1, x2, x3, x4, x5, x6, x7, x8, x9, x10, x11], _ => exact ⟨x0, x1, x2, x3, x4, x5, x6, x7, x8, x9, x10, x11, rfl⟩
theorem list_f_edt {α : Type _} {l : List α} (h : l.length = 11) : ∃ x0 x1 x2 x3 x4 x5 x6 x7 x8 x9 x10, l = [x0, x1, x2, x3, x4, x5, x6, x7, x8, x9, x10] := by
  match l, h with
  | [x0, x1, x2, x3, x4, x5, x6, x7, x8, x9, x10], _ => exact ⟨x0, x1, x2, x3, x4, x5, x6, x7, x8, x9, x10, rfl⟩
theorem open_edt {fuel : Nat} {cs : List Value} {y : DataW H × List MemPlace} (h : DataW.trod enc Tryz.prog w base spare held fuel 38 cs = some y) : ∃ x : EditV, cs = x.arr.toList ∧ x.bnd (Rows.uptoBulk y.1) := by
  obtain ⟨xs, n, _, hx, hlen, hxl, hf⟩ := DataW.trod_struct Tryz.underlying38 h
  rw [cells_edt] at hlen
  obtain ⟨c0, c1, c2, c3, c4, c5, c6, c7, c8, c9, c10, c11, rfl⟩ := list_n_edt hlen
  obtain ⟨y0, y1, y2, y3, y4, y5, y6, y7, y8, y9, y10, rfl⟩ := list_f_edt hxl
  have g0 := fld hf 0 34 0 1 rfl cells_edt_1
  have g1 := fld hf 1 3 1 1 rfl cells_int
  have g2 := fld hf 2 9 2 1 rfl cells_str
  have g3 := fld hf 3 9 3 1 rfl cells_str
  have g4 := fld hf 4 9 4 1 rfl cells_str
  have g5 := fld hf 5 9 5 1 rfl cells_str
  have g6 := fld hf 6 36 6 2 rfl cells_edt_2
  have g7 := fld hf 7 2 8 1 rfl cells_i64
  have g8 := fld hf 8 2 9 1 rfl cells_i64
  have g9 := fld hf 9 2 10 1 rfl cells_i64
  have g10 := fld hf 10 5 11 1 rfl cells_u8
  simp only [List.drop_succ_cons, List.drop_zero, List.take_succ_cons, List.take_zero, List.getElem?_cons_succ, List.getElem?_cons_zero] at g0 g1 g2 g3 g4 g5 g6 g7 g8 g9 g10
  obtain ⟨v0, e0, _⟩ := DataW.trod_int Tryz.underlying34 g0
  obtain ⟨v1, e1, _⟩ := DataW.trod_int Tryz.underlying3 g1
  obtain ⟨v2, e2, b2⟩ := open_str g2
  obtain ⟨v3, e3, b3⟩ := open_str g3
  obtain ⟨v4, e4, b4⟩ := open_str g4
  obtain ⟨v5, e5, b5⟩ := open_str g5
  obtain ⟨v6, v6', e6⟩ := open_two Tryz.underlying36 cells_edt_2 ⟨rfl, rfl⟩ ⟨rfl, rfl⟩ g6
  obtain ⟨v7, e7, _⟩ := DataW.trod_int Tryz.underlying2 g7
  obtain ⟨v8, e8, _⟩ := DataW.trod_int Tryz.underlying2 g8
  obtain ⟨v9, e9, _⟩ := DataW.trod_int Tryz.underlying2 g9
  obtain ⟨v10, e10, _⟩ := DataW.trod_int Tryz.underlying5 g10
  simp only [List.cons.injEq, and_true] at e0 e1 e7 e8 e9 e10
  have hy : Rows.uptoBulk y.1 = Rows.uptoBulkAll [y0.1, y1.1, y2.1, y3.1, y4.1, y5.1, y6.1, y7.1, y8.1, y9.1, y10.1] + 1 := by rw [hx]; simp [Rows.uptoBulk]
  have p2 : Rows.uptoBulk y2.1 ≤ Rows.uptoBulkAll [y0.1, y1.1, y2.1, y3.1, y4.1, y5.1, y6.1, y7.1, y8.1, y9.1, y10.1] := bulk_part (by simp)
  have p3 : Rows.uptoBulk y3.1 ≤ Rows.uptoBulkAll [y0.1, y1.1, y2.1, y3.1, y4.1, y5.1, y6.1, y7.1, y8.1, y9.1, y10.1] := bulk_part (by simp)
  have p4 : Rows.uptoBulk y4.1 ≤ Rows.uptoBulkAll [y0.1, y1.1, y2.1, y3.1, y4.1, y5.1, y6.1, y7.1, y8.1, y9.1, y10.1] := bulk_part (by simp)
  have p5 : Rows.uptoBulk y5.1 ≤ Rows.uptoBulkAll [y0.1, y1.1, y2.1, y3.1, y4.1, y5.1, y6.1, y7.1, y8.1, y9.1, y10.1] := bulk_part (by simp)
  refine ⟨⟨v0, v1, v2, v3, v4, v5, v6, v6', v7, v8, v9, v10⟩, ?_, ?_⟩
  · have e : [c0, c1, c2, c3, c4, c5, c6, c7, c8, c9, c10, c11] = [c0] ++ [c1] ++ [c2] ++ [c3] ++ [c4] ++ [c5] ++ [c6, c7] ++ [c8] ++ [c9] ++ [c10] ++ [c11] := rfl
    rw [e, e0, e1, e2, e3, e4, e5, e6, e7, e8, e9, e10]
    rfl
  · exact ⟨by show v2.length ≤ _; omega, by show v3.length ≤ _; omega, by show v4.length ≤ _; omega, by show v5.length ≤ _; omega⟩
end
theorem EditV.bnd.mono {x : EditV} {a b : Nat} (h : x.bnd a) (hab : a ≤ b) : x.bnd b := ⟨Nat.le_trans h.1 hab, Nat.le_trans h.2.1 hab, Nat.le_trans h.2.2.1 hab, Nat.le_trans h.2.2.2 hab⟩
end Go.Proofs.YtcgmemkkcaipfaaGreatDoor
namespace Go.Proofs.YtcgmemkkcaipfaaGreatDoor
open Go.RowKit Go.ChangeShapes Go.WideShapes Go.Deep
set_option linter.unusedVariables false
set_option linter.unusedSimpArgs false
section
variable {H : Type} {enc : TypeId × Value → H} {w : World} {base : Nat} {spare : Nat → Bool} {held : Bool}
set_option maxRecDepth 100000 in
theorem open_edtT {r : Reach} {b0 : Nat} {v : Value} {d : DataW H} {ps : List MemPlace} (hv : Value.okWide Tryz.prog w r b0 38 v) (h : DataW.Trod enc Tryz.prog w base spare held 38 v d ps) :
    ∃ x : EditV, v = .agg x.arr ∧ x.bnd (Rows.uptoBulk d) := by
  obtain ⟨cs, rfl, hsz⟩ := okWide_struct Tryz.underlying38 hv
  obtain ⟨fuel, hf⟩ := h
  have hvc : (Value.agg cs).cells.toList = cs.toList := rfl
  rw [hvc] at hf
  obtain ⟨x, e, b⟩ := open_edt hf
  exact ⟨x, by rw [Array.toList_inj.1 e], b⟩
end
theorem EditV.smallOf {x : EditV} {N : Nat} (h : x.bnd N) (hN : N ≤ 4000000000) : x.small := ⟨Nat.le_trans h.1 hN, Nat.le_trans h.2.1 hN, Nat.le_trans h.2.2.1 hN, Nat.le_trans h.2.2.2 hN⟩
end Go.Proofs.YtcgmemkkcaipfaaGreatDoor
namespace Go.Proofs.YtcgmemkkcaipfaaGreatDoor
open Go.RowKit Go.ChangeShapes Go.WideShapes Go.Deep
set_option linter.unusedVariables false
set_option linter.unusedSimpArgs false
section
variable {H : Type} {enc : TypeId × Value → H} {w : World} {base : Nat} {spare : Nat → Bool} {held : Bool}
set_option maxRecDepth 100000 in
theorem open_planB {r : Reach} {b0 : Nat} {v : Value} {d : DataW H} {ps : List MemPlace} (hv : Value.okWide Tryz.prog w r b0 33 v) (h : DataW.Trod enc Tryz.prog w base spare held 33 v d ps) :
    ∃ (p : Plan) (A : Option Addr) (c : Nat), v = p.val A c ∧ p.es.length ≤ c ∧ Ents w A p.es ∧ p.es.length ≤ Rows.uptoBulk d ∧ (Rows.uptoBulk d ≤ 4000000000 → p.small) ∧ p.from_.length ≤ Rows.uptoBulk d ∧ p.to_.length ≤ Rows.uptoBulk d := by
  obtain ⟨cs, rfl, hsz⟩ := okWide_struct Tryz.underlying33 hv
  obtain ⟨fuel, hf⟩ := h
  obtain ⟨xs, n, _, hx, hlen, hxl, hf⟩ := DataW.trod_struct Tryz.underlying33 hf
  rw [cells_plan] at hsz
  have hl4 : cs.toList.length = 4 := by simpa using hsz
  obtain ⟨c0, c1, c2, c3, hcs⟩ := list4 hl4
  obtain ⟨y0, y1, y2, y3, rfl⟩ := list4 hxl
  have g0 := fld hf 0 9 0 1 rfl cells_str
  have g1 := fld hf 1 9 1 1 rfl cells_str
  have g2 := fld hf 2 31 2 1 rfl cells_es
  have g3 := fld hf 3 3 3 1 rfl cells_int
  have hvc : (Value.agg cs).cells.toList = [c0, c1, c2, c3] := hcs
  rw [hvc] at g0 g1 g2 g3
  simp only [List.drop_succ_cons, List.drop_zero, List.take_succ_cons, List.take_zero, List.getElem?_cons_succ, List.getElem?_cons_zero] at g0 g1 g2 g3
  obtain ⟨s0, e0, b0⟩ := open_str g0
  obtain ⟨s1, e1, b1⟩ := open_str g1
  obtain ⟨es, A, c, e2, hc, hE, b2, b3⟩ := open_ents g2
  obtain ⟨k, e3, _⟩ := DataW.trod_int Tryz.underlying3 g3
  simp only [List.cons.injEq, and_true] at e3
  simp only [Prod.mk.injEq] at hx
  have hy : Rows.uptoBulk d = Rows.uptoBulkAll [y0.1, y1.1, y2.1, y3.1] + 1 := by rw [hx.1]; simp [Rows.uptoBulk]
  have p0 : Rows.uptoBulk y0.1 ≤ Rows.uptoBulkAll [y0.1, y1.1, y2.1, y3.1] := bulk_part (by simp)
  have p1 : Rows.uptoBulk y1.1 ≤ Rows.uptoBulkAll [y0.1, y1.1, y2.1, y3.1] := bulk_part (by simp)
  have p2 : Rows.uptoBulk y2.1 ≤ Rows.uptoBulkAll [y0.1, y1.1, y2.1, y3.1] := bulk_part (by simp)
  refine ⟨⟨s0, s1, es, k⟩, A, c, ?_, hc, hE, ?_, fun hN => ⟨?_, ?_, ?_, fun x hx' => ?_⟩, ?_, ?_⟩
  · have : cs = #[c0, c1, c2, c3] := by apply Array.toList_inj.1; rw [hcs]
    rw [this, e0, e1, e2, e3]; rfl
  · show es.length ≤ _; omega
  · show s0.length ≤ _; omega
  · show s1.length ≤ _; omega
  · show es.length ≤ _; omega
  · obtain ⟨q1, q2, q3⟩ := b3 x hx'
    exact ⟨⟨by omega, by omega⟩, by omega⟩
  · show s0.length ≤ _; omega
  · show s1.length ≤ _; omega
set_option maxRecDepth 100000 in
theorem open_u8E {r : Reach} {b0 : Nat} {t : TypeId} {v : Value} {d : DataW H} {ps : List MemPlace} (ht : Tryz.prog.underlying t = some (.int .u8)) (hv : Value.okWide Tryz.prog w r b0 t v) (h : DataW.Trod enc Tryz.prog w base spare held t v d ps) : ∃ n : Int, v = .int .u8 n ∧ 0 ≤ n ∧ n ≤ 255 := by
  obtain ⟨n, rfl, _, _, wf⟩ := Go.ChangeShapes.open_int ht hv h
  exact ⟨n, rfl, Go.bounds_u8 wf⟩
end
end Go.Proofs.YtcgmemkkcaipfaaGreatDoor
