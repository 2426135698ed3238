/- PROVED: setting an altitude, a speed or a required performance changes this field of one leg and nothing else, and each argument reads behind the call as before: the card of the second form (what is read is of bulk at most 1048576). Its conditions: none of mine. -/
import Derived.Test.YtnmpfmelaninbaaGreatDoorCards
import Derived.Test.YtnmpfmelaninbaaGreatDoorTie
import Derived.Test.YtnmpfmelaninbaaGreatDoorQk52
import Derived.Deep.DeepWitnessRowRef
import Derived.Lay
import Derived.WalkKit
import Derived.ProofKit
import Derived.Test.YtnmpfmelaninbaaGreatDoorQk37
import Derived.Test.YtnmpfmelaninbaaGreatDoorQk50
set_option linter.unusedSimpArgs false
set_option linter.unusedVariables false
namespace Go.Proofs.YtnmpfmelaninbaaGreatDoor
open Go.RowKit Go.Sort
set_option maxRecDepth 100000
theorem Has_ent_drewS (W : World) (b o : Nat) : Has_ent W.drew b o = Has_ent W b o := propext ⟨fun h => h, fun h => h⟩
theorem of_ent_drewS (W : World) (b o : Nat) : of_ent W.drew b o = of_ent W b o := rfl
theorem splice_entW (x : Entry) (a b : Int) : splice x.arr 10 (Win.arr ⟨a, b⟩) = ({ x with leg := { x.leg with lo := a, hi := b } } : Entry).arr := rfl
theorem setAt_ent {p q : Plan} {e : EditV} (h : q.es = p.es.set e.at_.toNat (setLeg e (entAt p e.at_.toNat))) (ha : 0 ≤ e.at_) (i : Nat) : entAt q i = if e.at_ = (i : Int) then (if i < p.es.length then setLeg e (entAt p i) else gapE) else entAt p i := by
  unfold entAt at *
  rw [h, List.getD_eq_getElem?_getD, List.getElem?_set]
  by_cases hk : e.at_.toNat = i
  · have hk' : e.at_ = (i : Int) := by omega
    rw [if_pos hk, if_pos hk']
    subst hk
    split <;> rfl
  · have hk' : ¬ e.at_ = (i : Int) := by omega
    rw [if_neg hk, if_neg hk', List.getD_eq_getElem?_getD]
attribute [local go_sem ↓] bdbZ_fold run_neq_ent
attribute [local go_sem] run_bdbZ Has_ent_drewS of_ent_drewS
set_option maxHeartbeats 16000000 in
theorem lawEdSets_any (p : Plan) (A : Option Addr) (c : Nat) (e : EditV) (w : World) (hO : Open23 w) (hp : p.small) (hc : p.es.length ≤ c) (hE : Ents w A p.es) (hpf : p.from_.length ≤ 1000000000) (hpt : p.to_.length ≤ 1000000000)
    (he : e.ref.length ≤ 1000000000 ∧ e.name.length ≤ 1000000000 ∧ e.rway.length ≤ 1000000000 ∧ e.trans.length ≤ 1000000000) :
    Calls Tryz.prog 7 #[.agg (p.arr A c), .agg e.arr] w (Ret w (.bool true)) := by
  go_enter Tryz.func7, Tryz.ntmps7
  go_upto_region 1 with (fail)
  generalize hW : (w.alloc _).alloc _ = W
  have P0 : Blk W w.heap.size (p.arr A c) := by rw [← hW]; exact (Blk.new w (p.arr A c) _).alloc _
  have E0 : Blk W (w.heap.size + 1) e.arr := by rw [← hW, ← World.size_alloc w (.cells (p.arr A c) 46)]; exact Blk.new _ _ _
  have B0 : Below w.heap.size w W := by rw [← hW]; go_grown
  clear hW
  generalize w.heap.size + 1 = ge at E0 ⊢
  obtain ⟨gp, hgp⟩ : ∃ g, g = w.heap.size := ⟨_, rfl⟩
  rw [← hgp] at P0 ⊢
  clear hgp
  go_upto_region 3 with (go_at_call 12; (with_reducible refine callR (awake23_any W (hO.below B0)) ?_); intro w1 b1 _ _ _)
  have P1 := P0.step b1
  have E1 := E0.step b1
  have B1 := below_step B0 b1
  clear P0 E0 B0 b1
  have i1 : Has_plan w1 gp 0 := ⟨_, P1.is_plan rfl⟩
  have i2 : of_plan w1 gp 0 = p.arr A c := of_plan_eq (P1.is_plan rfl)
  have j1 : Has_edt w1 ge 0 := ⟨_, E1.is_edt⟩
  have j2 : of_edt w1 ge 0 = e := of_edt_eq E1.is_edt
  have KA := Lib.hid (eapplyZ_any p A c e w1 (hO.below B1).laid (hO.below B1).forms (hO.below B1).gap hp hc (hE.below (B := 0) B1) hpf hpt he)
  have HD := Lib.hid (fun h ho => @sets_law look0 p e h ho)
  have HT := Lib.hid (fun h => (edit_at (@applyS_ok look0 p e h).2.1).1)
  have HPL := Lib.hid (fun h => (planChk_ok (@applyS_ok look0 p e h).1).2.1)
  generalize applyS look0 p e = R at KA HD HT HPL
  obtain ⟨q, er⟩ := R
  go_upto_region 4 with (go_at_call 20; (with_reducible refine callAp KA.out ?_); intro Aq cq w2 hcq hEq _ b2)
  have Q0 := Blk.new w2 (q.arr Aq cq) 46
  have D0 := below_step b2 (alloc_below5 w2 (.cells (q.arr Aq cq) 46))
  have F0 : Ents (w2.alloc (.cells (q.arr Aq cq) 46)) Aq q.es := hEq.below (B := 0) (alloc_below5 w2 (.cells (q.arr Aq cq) 46))
  have P2 := P1.step D0
  have E2 := E1.step D0
  have B2 := below_step B1 D0
  clear KA i1 i2 j1 j2 hEq b2 P1 E1 D0
  generalize w2.alloc _ = W3 at Q0 F0 P2 E2 B2 ⊢
  generalize w2.heap.size = gq at Q0 ⊢
  have c0 : W3.cell? ⟨ge, 0, none⟩ = some (.int .u8 e.op) := E2.cell 0
  by_cases hz : er = 0
  case neg =>
    have hz' : (er != 0) = true := by simpa using hz
    have HB := Lib.hid B2
    clear HD HT HPL hE hp hc
    go_wp2
    go_ret
    exact Ret.bool rfl HB.out
  subst hz
  by_cases ho : e.op = 4 ∨ e.op = 5 ∨ e.op = 6
  case neg =>
    have n4 : (e.op != 4) = true := by simp; omega
    have n5 : (e.op != 5) = true := by simp; omega
    have n6 : (e.op != 6) = true := by simp; omega
    have HB := Lib.hid B2
    clear HD HT HPL hE hp hc ho
    go_wp2
    go_ret
    exact Ret.bool rfl HB.out
  have hq := HD.out rfl ho
  have hat := HT.out rfl
  have hn := HPL.out rfl
  have hq1 : q.es = p.es.set e.at_.toNat (setLeg e (entAt p e.at_.toNat)) := by rw [show q = _ from hq]
  have hq2 : q.from_ = p.from_ := by rw [show q = _ from hq]
  have hq3 : q.to_ = p.to_ := by rw [show q = _ from hq]
  have hql : q.es.length = p.es.length := by rw [hq1]; simp
  have HAT := Lib.hid (fun i => setAt_ent hq1 hat i)
  clear HD HT HPL hq hq1
  have HQL := Lib.hid hql
  have HQ2 := Lib.hid hq2
  have HQ3 := Lib.hid hq3
  have hl0 : ((q.es.length : Int) != (p.es.length : Int)) = false := by rw [hql]; simp
  have hc2 : q.es.length ≤ cq := hcq
  have HCQ := Lib.hid hc2
  have HC := Lib.hid hc
  have HN := Lib.hid hn
  have HE := Lib.hid hE
  have HF := Lib.hid F0
  have a2 : W3.cell? ⟨gp, 2, none⟩ = some (.slice A p.es.length c) := P2.cell 2
  have aq : W3.cell? ⟨gq, 2, none⟩ = some (.slice Aq q.es.length cq) := Q0.cell 2
  clear hql hq2 hq3 hcq hc2 hc hn hE F0 hp hpf hpt he hO
  have HP2 := Lib.hid P2
  have HE2 := Lib.hid E2
  have HQ0 := Lib.hid Q0
  have HB2 := Lib.hid B2
  clear P2 E2 Q0 B2
  rcases ho with ho | ho | ho
  · have HSL := Lib.hid (fun x => show setLeg e x = _ from if_pos ho)
    rw [ho] at c0
    have HO := Lib.hid ho
    clear ho
    have hl1 : (q.es.length : Int) = (p.es.length : Int) := by rw [HQL.out]
    go_wp2
    clear a2 aq hl0 hl1
    go_loopw [45] (fun iv wr => ∃ i : Nat, i ≤ p.es.length ∧ iv = .int .i64 i ∧ Below W3.heap.size W3 wr) (fun iv _ => p.es.length - (intOf iv).toNat)
    case atStart => exact ⟨0, by omega, rfl, Below.refl _ _⟩
    case round =>
      obtain ⟨i, hil, rfl, BW⟩ := hrel
      have PW := HP2.out.step BW
      have EW := HE2.out.step BW
      have QW := HQ0.out.step BW
      have BB := below_step HB2.out BW
      by_cases hlt : i < p.es.length
      · obtain ⟨b, off, hA, hcl⟩ := HE.out.ent hlt
        obtain ⟨b2, o2, hA2, hcl2⟩ := (show Ents W3 Aq q.es from HF.out).ent (p := q) (k := i) (by rw [HQL.out]; exact hlt)
        have hI := hcl wr BB
        have hI2 := hcl2 wr BW
        rw [HAT.out i] at hI2
        have c2 : wr.cell? ⟨gp, 2, none⟩ = some (.slice (some ⟨b, off, none⟩) p.es.length c) := by have := PW.cell 2; rw [← hA]; exact this
        have DQ := Lib.hid (fun W' (bb : Below wr.heap.size wr W') => show W'.cell? ⟨gq, 2, none⟩ = some (.slice (some ⟨b2, o2, none⟩) p.es.length cq) by have := (QW.step bb).cell 2; rw [← hA2, ← HQL.out]; exact this)

        have e0 : wr.cell? ⟨ge, 0, none⟩ = some (.int .u8 4) := by have := EW.cell 0; rw [this]; show some (Value.int .u8 e.op) = _; rw [HO.out]
        have hic : i < c := Nat.lt_of_lt_of_le hlt HC.out
        have hicq : i < cq := Nat.lt_of_lt_of_le (by rw [HQL.out]; exact hlt) HCQ.out
        have hlt' : (i : Int) < (p.es.length : Int) := by omega
        have hi60 : i < 60 := Nat.lt_of_lt_of_le hlt HN.out
        have hb2 : b2 < wr.heap.size := block_lt_of_cell ((hI2 0 (by omega)).trans rfl)
        have HQW := Lib.hid QW
        clear hcl hcl2 hA hA2 PW QW
        by_cases hk : e.at_ = (i : Int)
        · rw [if_pos hk, if_pos hlt, HSL.out] at hI2
          have KK := Lib.hid hk
          clear hk
          generalize entAt p i = x at hI hI2
          have i1 : Has_ent wr b (off + i * 20) := ⟨_, hI⟩
          have i2 : of_ent wr b (off + i * 20) = x := of_ent_eq hI
          have HI2 := Lib.hid hI2
          have HE3 := Lib.hid EW
          clear hI hI2 EW e0
          go_upto_region 12 with (fail)
          have X := Blk.new wr x.arr 57
          have D := alloc_below5 wr (.cells x.arr 57)
          have EX := HE3.out.step D
          have hgx : wr.heap.size ≤ wr.heap.size := Nat.le_refl _
          obtain ⟨gx, hgxx⟩ : ∃ g, g = wr.heap.size := ⟨_, rfl⟩
          rw [← hgxx] at X ⊢
          have hgx : wr.heap.size ≤ gx := by omega
          clear hgxx
          generalize wr.alloc _ = W4 at X D EX ⊢
          have e0 : W4.cell? ⟨ge, 0, none⟩ = some (.int .u8 4) := by have := EX.cell 0; rw [this]; show some (Value.int .u8 e.op) = _; rw [HO.out]
          have e1 : W4.cell? ⟨ge, 1, none⟩ = some (.int .i64 (i : Int)) := by have := EX.cell 1; rw [this]; show some (Value.int .i64 e.at_) = _; rw [KK.out]
          have p1 : Plain W4 gx := X.plain
          have p2 : blkOf W4 gx = x.arr := X.of
          have p3 := splice_entW x e.lo e.hi
          have v1 : Has_win W4 ge 6 := ⟨_, EX.edt_win⟩
          have v2 : of_win W4 ge 6 = ⟨e.lo, e.hi⟩ := of_win_eq EX.edt_win
          go_upto_region 14 with (fail)
          obtain ⟨z, hz⟩ : ∃ z : Entry, z = { x with leg := { x.leg with lo := e.lo, hi := e.hi } } := ⟨_, rfl⟩
          rw [← hz] at HI2 ⊢
          have X5 := X.set z.arr
          have D5 := below_setRow' D hgx z.arr
          clear p1 p2 p3 v1 v2 hz D
          generalize W4.setRow gx _ = W5 at X5 D5 ⊢
          clear e0 e1
          have e0 : W5.cell? ⟨ge, 0, none⟩ = some (.int .u8 4) := by have := (HE3.out.step D5).cell 0; rw [this]; show some (Value.int .u8 e.op) = _; rw [HO.out]
          have e1 : W5.cell? ⟨ge, 1, none⟩ = some (.int .i64 (i : Int)) := by have := (HE3.out.step D5).cell 1; rw [this]; show some (Value.int .i64 e.at_) = _; rw [KK.out]
          go_upto_region 18 with (fail)
          clear X EX HE3 i1 i2 c2
          have k1 : Has_ent W5 gx 0 := ⟨_, X5.is_ent⟩
          have k2 : of_ent W5 gx 0 = z := of_ent_eq X5.is_ent
          have hJ : Is_ent W5 b2 (o2 + i * 20) z := fun j hj => (D5.cell (p := ⟨b2, _, none⟩) hb2).trans (HI2.out j hj)
          have n1 : Has_ent W5 b2 (o2 + i * 20) := ⟨_, hJ⟩
          have n2 : of_ent W5 b2 (o2 + i * 20) = z := of_ent_eq hJ
          have d2 : W5.cell? ⟨gq, 2, none⟩ = some (.slice (some ⟨b2, o2, none⟩) p.es.length cq) := DQ.out W5 D5
          have hself : z.eqB z = true := (Entry.eqB_iff _ _).2 rfl
          have HD5 := Lib.hid D5
          clear hJ X5 D5 HI2 e0 e1
          go_region
          go_wp2
          go_roundw
          case rel => exact ⟨i + 1, by omega, by go_num, below_step (below_step BW HD5.out) (Below.refl _ _).drew⟩
          case measure => simp [intOf]; omega
        · rw [if_neg hk] at hI2
          have KK := Lib.hid hk
          have hne : ((i : Int) == e.at_) = false := by simp; omega
          clear hk
          generalize entAt p i = x at hI hI2
          have i1 : Has_ent wr b (off + i * 20) := ⟨_, hI⟩
          have i2 : of_ent wr b (off + i * 20) = x := of_ent_eq hI
          have HI2 := Lib.hid hI2
          have HE3 := Lib.hid EW
          clear hI hI2 EW e0
          go_upto_region 12 with (fail)
          have X := Blk.new wr x.arr 57
          have D := alloc_below5 wr (.cells x.arr 57)
          have EX := HE3.out.step D
          generalize wr.alloc _ = W4 at X D EX ⊢
          generalize wr.heap.size = gx at X ⊢
          have e0 : W4.cell? ⟨ge, 0, none⟩ = some (.int .u8 4) := by have := EX.cell 0; rw [this]; show some (Value.int .u8 e.op) = _; rw [HO.out]
          have e1 : W4.cell? ⟨ge, 1, none⟩ = some (.int .i64 e.at_) := EX.cell 1
          clear EX HE3 i1 i2 c2
          go_upto_region 18 with (fail)
          have k1 : Has_ent W4 gx 0 := ⟨_, X.is_ent⟩
          have k2 : of_ent W4 gx 0 = x := of_ent_eq X.is_ent
          have hJ : Is_ent W4 b2 (o2 + i * 20) x := fun j hj => (D.cell (p := ⟨b2, _, none⟩) hb2).trans (HI2.out j hj)
          have n1 : Has_ent W4 b2 (o2 + i * 20) := ⟨_, hJ⟩
          have n2 : of_ent W4 b2 (o2 + i * 20) = x := of_ent_eq hJ
          have d2 : W4.cell? ⟨gq, 2, none⟩ = some (.slice (some ⟨b2, o2, none⟩) p.es.length cq) := DQ.out W4 D
          have hself : x.eqB x = true := (Entry.eqB_iff _ _).2 rfl
          have HD5 := Lib.hid D
          clear hJ X D HI2 e0 e1
          go_region
          go_wp2
          go_roundw
          case rel => exact ⟨i + 1, by omega, by go_num, below_step (below_step BW HD5.out) (Below.refl _ _).drew⟩
          case measure => simp [intOf]; omega
      · have f1 : wr.cell? ⟨gp, 0, none⟩ = some (.string ⟨p.from_.toArray⟩) := PW.cell 0
        have f2 : wr.cell? ⟨gp, 1, none⟩ = some (.string ⟨p.to_.toArray⟩) := PW.cell 1
        have f3 : wr.cell? ⟨gq, 0, none⟩ = some (.string ⟨p.from_.toArray⟩) := by have := QW.cell 0; rw [this, ← HQ2.out]; rfl
        have f4 : wr.cell? ⟨gq, 1, none⟩ = some (.string ⟨p.to_.toArray⟩) := by have := QW.cell 1; rw [this, ← HQ3.out]; rfl
        clear PW QW EW
        go_wp2
        go_ret
        exact Ret.bool rfl BB
  · have HSL := Lib.hid (fun x => show setLeg e x = _ from (if_neg (by omega)).trans (if_pos ho))
    rw [ho] at c0
    have HO := Lib.hid ho
    clear ho
    have hl1 : (q.es.length : Int) = (p.es.length : Int) := by rw [HQL.out]
    go_wp2
    clear a2 aq hl0 hl1
    go_loopw [45] (fun iv wr => ∃ i : Nat, i ≤ p.es.length ∧ iv = .int .i64 i ∧ Below W3.heap.size W3 wr) (fun iv _ => p.es.length - (intOf iv).toNat)
    case atStart => exact ⟨0, by omega, rfl, Below.refl _ _⟩
    case round =>
      obtain ⟨i, hil, rfl, BW⟩ := hrel
      have PW := HP2.out.step BW
      have EW := HE2.out.step BW
      have QW := HQ0.out.step BW
      have BB := below_step HB2.out BW
      by_cases hlt : i < p.es.length
      · obtain ⟨b, off, hA, hcl⟩ := HE.out.ent hlt
        obtain ⟨b2, o2, hA2, hcl2⟩ := (show Ents W3 Aq q.es from HF.out).ent (p := q) (k := i) (by rw [HQL.out]; exact hlt)
        have hI := hcl wr BB
        have hI2 := hcl2 wr BW
        rw [HAT.out i] at hI2
        have c2 : wr.cell? ⟨gp, 2, none⟩ = some (.slice (some ⟨b, off, none⟩) p.es.length c) := by have := PW.cell 2; rw [← hA]; exact this
        have DQ := Lib.hid (fun W' (bb : Below wr.heap.size wr W') => show W'.cell? ⟨gq, 2, none⟩ = some (.slice (some ⟨b2, o2, none⟩) p.es.length cq) by have := (QW.step bb).cell 2; rw [← hA2, ← HQL.out]; exact this)

        have e0 : wr.cell? ⟨ge, 0, none⟩ = some (.int .u8 5) := by have := EW.cell 0; rw [this]; show some (Value.int .u8 e.op) = _; rw [HO.out]
        have hic : i < c := Nat.lt_of_lt_of_le hlt HC.out
        have hicq : i < cq := Nat.lt_of_lt_of_le (by rw [HQL.out]; exact hlt) HCQ.out
        have hlt' : (i : Int) < (p.es.length : Int) := by omega
        have hi60 : i < 60 := Nat.lt_of_lt_of_le hlt HN.out
        have hb2 : b2 < wr.heap.size := block_lt_of_cell ((hI2 0 (by omega)).trans rfl)
        have HQW := Lib.hid QW
        clear hcl hcl2 hA hA2 PW QW
        by_cases hk : e.at_ = (i : Int)
        · rw [if_pos hk, if_pos hlt, HSL.out] at hI2
          have KK := Lib.hid hk
          clear hk
          generalize entAt p i = x at hI hI2
          have i1 : Has_ent wr b (off + i * 20) := ⟨_, hI⟩
          have i2 : of_ent wr b (off + i * 20) = x := of_ent_eq hI
          have HI2 := Lib.hid hI2
          have HE3 := Lib.hid EW
          clear hI hI2 EW e0
          go_upto_region 12 with (fail)
          have X := Blk.new wr x.arr 57
          have D := alloc_below5 wr (.cells x.arr 57)
          have EX := HE3.out.step D
          have hgx : wr.heap.size ≤ wr.heap.size := Nat.le_refl _
          obtain ⟨gx, hgxx⟩ : ∃ g, g = wr.heap.size := ⟨_, rfl⟩
          rw [← hgxx] at X ⊢
          have hgx : wr.heap.size ≤ gx := by omega
          clear hgxx
          generalize wr.alloc _ = W4 at X D EX ⊢
          have e0 : W4.cell? ⟨ge, 0, none⟩ = some (.int .u8 5) := by have := EX.cell 0; rw [this]; show some (Value.int .u8 e.op) = _; rw [HO.out]
          have e1 : W4.cell? ⟨ge, 1, none⟩ = some (.int .i64 (i : Int)) := by have := EX.cell 1; rw [this]; show some (Value.int .i64 e.at_) = _; rw [KK.out]
          have f12 := X.frozen 12
          have v1 : W4.cell? ⟨ge, 8, none⟩ = some (.int .i64 e.speed) := EX.cell 8
          have v2 : W4.cell? ⟨gx, 12, none⟩ = some (.int .i64 x.leg.speed) := X.cell 12
          go_upto_region 18 with (fail)
          obtain ⟨z, hz⟩ : ∃ z : Entry, z = { x with leg := { x.leg with speed := e.speed } } := ⟨_, rfl⟩
          rw [← hz] at HI2
          have X5 : Blk (W4.setCell ⟨gx, 12, none⟩ (.int .i64 e.speed)) gx z.arr := by rw [hz]; exact X.setCell 12 _
          have D5 := below_setCell D hgx 12 (.int .i64 e.speed)
          clear f12 v1 v2 hz D
          generalize W4.setCell _ _ = W5 at X5 D5 ⊢
          clear X EX HE3 i1 i2 c2
          have k1 : Has_ent W5 gx 0 := ⟨_, X5.is_ent⟩
          have k2 : of_ent W5 gx 0 = z := of_ent_eq X5.is_ent
          have hJ : Is_ent W5 b2 (o2 + i * 20) z := fun j hj => (D5.cell (p := ⟨b2, _, none⟩) hb2).trans (HI2.out j hj)
          have n1 : Has_ent W5 b2 (o2 + i * 20) := ⟨_, hJ⟩
          have n2 : of_ent W5 b2 (o2 + i * 20) = z := of_ent_eq hJ
          have d2 : W5.cell? ⟨gq, 2, none⟩ = some (.slice (some ⟨b2, o2, none⟩) p.es.length cq) := DQ.out W5 D5
          have hself : z.eqB z = true := (Entry.eqB_iff _ _).2 rfl
          have HD5 := Lib.hid D5
          clear hJ X5 D5 HI2 e0 e1
          go_region
          go_wp2
          go_roundw
          case rel => exact ⟨i + 1, by omega, by go_num, below_step (below_step BW HD5.out) (Below.refl _ _).drew⟩
          case measure => simp [intOf]; omega
        · rw [if_neg hk] at hI2
          have KK := Lib.hid hk
          have hne : ((i : Int) == e.at_) = false := by simp; omega
          clear hk
          generalize entAt p i = x at hI hI2
          have i1 : Has_ent wr b (off + i * 20) := ⟨_, hI⟩
          have i2 : of_ent wr b (off + i * 20) = x := of_ent_eq hI
          have HI2 := Lib.hid hI2
          have HE3 := Lib.hid EW
          clear hI hI2 EW e0
          go_upto_region 12 with (fail)
          have X := Blk.new wr x.arr 57
          have D := alloc_below5 wr (.cells x.arr 57)
          have EX := HE3.out.step D
          generalize wr.alloc _ = W4 at X D EX ⊢
          generalize wr.heap.size = gx at X ⊢
          have e0 : W4.cell? ⟨ge, 0, none⟩ = some (.int .u8 5) := by have := EX.cell 0; rw [this]; show some (Value.int .u8 e.op) = _; rw [HO.out]
          have e1 : W4.cell? ⟨ge, 1, none⟩ = some (.int .i64 e.at_) := EX.cell 1
          clear EX HE3 i1 i2 c2
          go_upto_region 18 with (fail)
          have k1 : Has_ent W4 gx 0 := ⟨_, X.is_ent⟩
          have k2 : of_ent W4 gx 0 = x := of_ent_eq X.is_ent
          have hJ : Is_ent W4 b2 (o2 + i * 20) x := fun j hj => (D.cell (p := ⟨b2, _, none⟩) hb2).trans (HI2.out j hj)
          have n1 : Has_ent W4 b2 (o2 + i * 20) := ⟨_, hJ⟩
          have n2 : of_ent W4 b2 (o2 + i * 20) = x := of_ent_eq hJ
          have d2 : W4.cell? ⟨gq, 2, none⟩ = some (.slice (some ⟨b2, o2, none⟩) p.es.length cq) := DQ.out W4 D
          have hself : x.eqB x = true := (Entry.eqB_iff _ _).2 rfl
          have HD5 := Lib.hid D
          clear hJ X D HI2 e0 e1
          go_region
          go_wp2
          go_roundw
          case rel => exact ⟨i + 1, by omega, by go_num, below_step (below_step BW HD5.out) (Below.refl _ _).drew⟩
          case measure => simp [intOf]; omega
      · have f1 : wr.cell? ⟨gp, 0, none⟩ = some (.string ⟨p.from_.toArray⟩) := PW.cell 0
        have f2 : wr.cell? ⟨gp, 1, none⟩ = some (.string ⟨p.to_.toArray⟩) := PW.cell 1
        have f3 : wr.cell? ⟨gq, 0, none⟩ = some (.string ⟨p.from_.toArray⟩) := by have := QW.cell 0; rw [this, ← HQ2.out]; rfl
        have f4 : wr.cell? ⟨gq, 1, none⟩ = some (.string ⟨p.to_.toArray⟩) := by have := QW.cell 1; rw [this, ← HQ3.out]; rfl
        clear PW QW EW
        go_wp2
        go_ret
        exact Ret.bool rfl BB
  · have HSL := Lib.hid (fun x => show setLeg e x = _ from (if_neg (by omega)).trans (if_neg (by omega)))
    rw [ho] at c0
    have HO := Lib.hid ho
    clear ho
    have hl1 : (q.es.length : Int) = (p.es.length : Int) := by rw [HQL.out]
    go_wp2
    clear a2 aq hl0 hl1
    go_loopw [45] (fun iv wr => ∃ i : Nat, i ≤ p.es.length ∧ iv = .int .i64 i ∧ Below W3.heap.size W3 wr) (fun iv _ => p.es.length - (intOf iv).toNat)
    case atStart => exact ⟨0, by omega, rfl, Below.refl _ _⟩
    case round =>
      obtain ⟨i, hil, rfl, BW⟩ := hrel
      have PW := HP2.out.step BW
      have EW := HE2.out.step BW
      have QW := HQ0.out.step BW
      have BB := below_step HB2.out BW
      by_cases hlt : i < p.es.length
      · obtain ⟨b, off, hA, hcl⟩ := HE.out.ent hlt
        obtain ⟨b2, o2, hA2, hcl2⟩ := (show Ents W3 Aq q.es from HF.out).ent (p := q) (k := i) (by rw [HQL.out]; exact hlt)
        have hI := hcl wr BB
        have hI2 := hcl2 wr BW
        rw [HAT.out i] at hI2
        have c2 : wr.cell? ⟨gp, 2, none⟩ = some (.slice (some ⟨b, off, none⟩) p.es.length c) := by have := PW.cell 2; rw [← hA]; exact this
        have DQ := Lib.hid (fun W' (bb : Below wr.heap.size wr W') => show W'.cell? ⟨gq, 2, none⟩ = some (.slice (some ⟨b2, o2, none⟩) p.es.length cq) by have := (QW.step bb).cell 2; rw [← hA2, ← HQL.out]; exact this)

        have e0 : wr.cell? ⟨ge, 0, none⟩ = some (.int .u8 6) := by have := EW.cell 0; rw [this]; show some (Value.int .u8 e.op) = _; rw [HO.out]
        have hic : i < c := Nat.lt_of_lt_of_le hlt HC.out
        have hicq : i < cq := Nat.lt_of_lt_of_le (by rw [HQL.out]; exact hlt) HCQ.out
        have hlt' : (i : Int) < (p.es.length : Int) := by omega
        have hi60 : i < 60 := Nat.lt_of_lt_of_le hlt HN.out
        have hb2 : b2 < wr.heap.size := block_lt_of_cell ((hI2 0 (by omega)).trans rfl)
        have HQW := Lib.hid QW
        clear hcl hcl2 hA hA2 PW QW
        by_cases hk : e.at_ = (i : Int)
        · rw [if_pos hk, if_pos hlt, HSL.out] at hI2
          have KK := Lib.hid hk
          clear hk
          generalize entAt p i = x at hI hI2
          have i1 : Has_ent wr b (off + i * 20) := ⟨_, hI⟩
          have i2 : of_ent wr b (off + i * 20) = x := of_ent_eq hI
          have HI2 := Lib.hid hI2
          have HE3 := Lib.hid EW
          clear hI hI2 EW e0
          go_upto_region 12 with (fail)
          have X := Blk.new wr x.arr 57
          have D := alloc_below5 wr (.cells x.arr 57)
          have EX := HE3.out.step D
          have hgx : wr.heap.size ≤ wr.heap.size := Nat.le_refl _
          obtain ⟨gx, hgxx⟩ : ∃ g, g = wr.heap.size := ⟨_, rfl⟩
          rw [← hgxx] at X ⊢
          have hgx : wr.heap.size ≤ gx := by omega
          clear hgxx
          generalize wr.alloc _ = W4 at X D EX ⊢
          have e0 : W4.cell? ⟨ge, 0, none⟩ = some (.int .u8 6) := by have := EX.cell 0; rw [this]; show some (Value.int .u8 e.op) = _; rw [HO.out]
          have e1 : W4.cell? ⟨ge, 1, none⟩ = some (.int .i64 (i : Int)) := by have := EX.cell 1; rw [this]; show some (Value.int .i64 e.at_) = _; rw [KK.out]
          have f13 := X.frozen 13
          have v1 : W4.cell? ⟨ge, 10, none⟩ = some (.int .i64 e.dist) := EX.cell 10
          have v2 : W4.cell? ⟨gx, 13, none⟩ = some (.int .i64 x.leg.rnp) := X.cell 13
          go_upto_region 18 with (fail)
          obtain ⟨z, hz⟩ : ∃ z : Entry, z = { x with leg := { x.leg with rnp := e.dist } } := ⟨_, rfl⟩
          rw [← hz] at HI2
          have X5 : Blk (W4.setCell ⟨gx, 13, none⟩ (.int .i64 e.dist)) gx z.arr := by rw [hz]; exact X.setCell 13 _
          have D5 := below_setCell D hgx 13 (.int .i64 e.dist)
          clear f13 v1 v2 hz D
          generalize W4.setCell _ _ = W5 at X5 D5 ⊢
          clear X EX HE3 i1 i2 c2
          have k1 : Has_ent W5 gx 0 := ⟨_, X5.is_ent⟩
          have k2 : of_ent W5 gx 0 = z := of_ent_eq X5.is_ent
          have hJ : Is_ent W5 b2 (o2 + i * 20) z := fun j hj => (D5.cell (p := ⟨b2, _, none⟩) hb2).trans (HI2.out j hj)
          have n1 : Has_ent W5 b2 (o2 + i * 20) := ⟨_, hJ⟩
          have n2 : of_ent W5 b2 (o2 + i * 20) = z := of_ent_eq hJ
          have d2 : W5.cell? ⟨gq, 2, none⟩ = some (.slice (some ⟨b2, o2, none⟩) p.es.length cq) := DQ.out W5 D5
          have hself : z.eqB z = true := (Entry.eqB_iff _ _).2 rfl
          have HD5 := Lib.hid D5
          clear hJ X5 D5 HI2 e0 e1
          go_region
          go_wp2
          go_roundw
          case rel => exact ⟨i + 1, by omega, by go_num, below_step (below_step BW HD5.out) (Below.refl _ _).drew⟩
          case measure => simp [intOf]; omega
        · rw [if_neg hk] at hI2
          have KK := Lib.hid hk
          have hne : ((i : Int) == e.at_) = false := by simp; omega
          clear hk
          generalize entAt p i = x at hI hI2
          have i1 : Has_ent wr b (off + i * 20) := ⟨_, hI⟩
          have i2 : of_ent wr b (off + i * 20) = x := of_ent_eq hI
          have HI2 := Lib.hid hI2
          have HE3 := Lib.hid EW
          clear hI hI2 EW e0
          go_upto_region 12 with (fail)
          have X := Blk.new wr x.arr 57
          have D := alloc_below5 wr (.cells x.arr 57)
          have EX := HE3.out.step D
          generalize wr.alloc _ = W4 at X D EX ⊢
          generalize wr.heap.size = gx at X ⊢
          have e0 : W4.cell? ⟨ge, 0, none⟩ = some (.int .u8 6) := by have := EX.cell 0; rw [this]; show some (Value.int .u8 e.op) = _; rw [HO.out]
          have e1 : W4.cell? ⟨ge, 1, none⟩ = some (.int .i64 e.at_) := EX.cell 1
          clear EX HE3 i1 i2 c2
          go_upto_region 18 with (fail)
          have k1 : Has_ent W4 gx 0 := ⟨_, X.is_ent⟩
          have k2 : of_ent W4 gx 0 = x := of_ent_eq X.is_ent
          have hJ : Is_ent W4 b2 (o2 + i * 20) x := fun j hj => (D.cell (p := ⟨b2, _, none⟩) hb2).trans (HI2.out j hj)
          have n1 : Has_ent W4 b2 (o2 + i * 20) := ⟨_, hJ⟩
          have n2 : of_ent W4 b2 (o2 + i * 20) = x := of_ent_eq hJ
          have d2 : W4.cell? ⟨gq, 2, none⟩ = some (.slice (some ⟨b2, o2, none⟩) p.es.length cq) := DQ.out W4 D
          have hself : x.eqB x = true := (Entry.eqB_iff _ _).2 rfl
          have HD5 := Lib.hid D
          clear hJ X D HI2 e0 e1
          go_region
          go_wp2
          go_roundw
          case rel => exact ⟨i + 1, by omega, by go_num, below_step (below_step BW HD5.out) (Below.refl _ _).drew⟩
          case measure => simp [intOf]; omega
      · have f1 : wr.cell? ⟨gp, 0, none⟩ = some (.string ⟨p.from_.toArray⟩) := PW.cell 0
        have f2 : wr.cell? ⟨gp, 1, none⟩ = some (.string ⟨p.to_.toArray⟩) := PW.cell 1
        have f3 : wr.cell? ⟨gq, 0, none⟩ = some (.string ⟨p.from_.toArray⟩) := by have := QW.cell 0; rw [this, ← HQ2.out]; rfl
        have f4 : wr.cell? ⟨gq, 1, none⟩ = some (.string ⟨p.to_.toArray⟩) := by have := QW.cell 1; rw [this, ← HQ3.out]; rfl
        clear PW QW EW
        go_wp2
        go_ret
        exact Ret.bool rfl BB
end Go.Proofs.YtnmpfmelaninbaaGreatDoor
namespace Go.Proofs.YtnmpfmelaninbaaGreatDoor.editSets
open Go.ChangeShapes Go.WideShapes Go.ChangeAt Go.RowKit
set_option linter.unusedVariables false
set_option linter.unusedSimpArgs false
theorem own : ownKnob Tryz.prog.godebug = none := by kernel_rfl
theorem laidOut : laidOutB Tryz.prog = true := by kernel_rfl
theorem opens {W : World} (h : laidMetH Tryz.prog Rows.editSetsUptoRow.laid W) (hsh : W.ShapedOpen Tryz.prog) : Open23 W :=
  ⟨laid23_of (l := Rows.editSetsUptoRow.laid) h hsh (by first | exact List.mem_of_getElem? (i := 0) rfl | exact List.mem_of_getElem? (i := 1) rfl | exact List.mem_of_getElem? (i := 2) rfl | exact List.mem_of_getElem? (i := 3) rfl | exact List.mem_of_getElem? (i := 4) rfl | exact List.mem_of_getElem? (i := 5) rfl | exact List.mem_of_getElem? (i := 6) rfl | exact List.mem_of_getElem? (i := 7) rfl | exact List.mem_of_getElem? (i := 8) rfl | exact List.mem_of_getElem? (i := 9) rfl | exact List.mem_of_getElem? (i := 10) rfl | exact List.mem_of_getElem? (i := 11) rfl | exact List.mem_of_getElem? (i := 12) rfl | exact List.mem_of_getElem? (i := 13) rfl) (by first | exact List.mem_of_getElem? (i := 0) rfl | exact List.mem_of_getElem? (i := 1) rfl | exact List.mem_of_getElem? (i := 2) rfl | exact List.mem_of_getElem? (i := 3) rfl | exact List.mem_of_getElem? (i := 4) rfl | exact List.mem_of_getElem? (i := 5) rfl | exact List.mem_of_getElem? (i := 6) rfl | exact List.mem_of_getElem? (i := 7) rfl | exact List.mem_of_getElem? (i := 8) rfl | exact List.mem_of_getElem? (i := 9) rfl | exact List.mem_of_getElem? (i := 10) rfl | exact List.mem_of_getElem? (i := 11) rfl | exact List.mem_of_getElem? (i := 12) rfl | exact List.mem_of_getElem? (i := 13) rfl), errs_of (l := Rows.editSetsUptoRow.laid) h (by first | exact List.mem_of_getElem? (i := 0) rfl | exact List.mem_of_getElem? (i := 1) rfl | exact List.mem_of_getElem? (i := 2) rfl | exact List.mem_of_getElem? (i := 3) rfl | exact List.mem_of_getElem? (i := 4) rfl | exact List.mem_of_getElem? (i := 5) rfl | exact List.mem_of_getElem? (i := 6) rfl | exact List.mem_of_getElem? (i := 7) rfl | exact List.mem_of_getElem? (i := 8) rfl | exact List.mem_of_getElem? (i := 9) rfl | exact List.mem_of_getElem? (i := 10) rfl | exact List.mem_of_getElem? (i := 11) rfl | exact List.mem_of_getElem? (i := 12) rfl | exact List.mem_of_getElem? (i := 13) rfl) (by first | exact List.mem_of_getElem? (i := 0) rfl | exact List.mem_of_getElem? (i := 1) rfl | exact List.mem_of_getElem? (i := 2) rfl | exact List.mem_of_getElem? (i := 3) rfl | exact List.mem_of_getElem? (i := 4) rfl | exact List.mem_of_getElem? (i := 5) rfl | exact List.mem_of_getElem? (i := 6) rfl | exact List.mem_of_getElem? (i := 7) rfl | exact List.mem_of_getElem? (i := 8) rfl | exact List.mem_of_getElem? (i := 9) rfl | exact List.mem_of_getElem? (i := 10) rfl | exact List.mem_of_getElem? (i := 11) rfl | exact List.mem_of_getElem? (i := 12) rfl | exact List.mem_of_getElem? (i := 13) rfl), forms_of (l := Rows.editSetsUptoRow.laid) h (by first | exact List.mem_of_getElem? (i := 0) rfl | exact List.mem_of_getElem? (i := 1) rfl | exact List.mem_of_getElem? (i := 2) rfl | exact List.mem_of_getElem? (i := 3) rfl | exact List.mem_of_getElem? (i := 4) rfl | exact List.mem_of_getElem? (i := 5) rfl | exact List.mem_of_getElem? (i := 6) rfl | exact List.mem_of_getElem? (i := 7) rfl | exact List.mem_of_getElem? (i := 8) rfl | exact List.mem_of_getElem? (i := 9) rfl | exact List.mem_of_getElem? (i := 10) rfl | exact List.mem_of_getElem? (i := 11) rfl | exact List.mem_of_getElem? (i := 12) rfl | exact List.mem_of_getElem? (i := 13) rfl), gap_of (l := Rows.editSetsUptoRow.laid) h (by first | exact List.mem_of_getElem? (i := 0) rfl | exact List.mem_of_getElem? (i := 1) rfl | exact List.mem_of_getElem? (i := 2) rfl | exact List.mem_of_getElem? (i := 3) rfl | exact List.mem_of_getElem? (i := 4) rfl | exact List.mem_of_getElem? (i := 5) rfl | exact List.mem_of_getElem? (i := 6) rfl | exact List.mem_of_getElem? (i := 7) rfl | exact List.mem_of_getElem? (i := 8) rfl | exact List.mem_of_getElem? (i := 9) rfl | exact List.mem_of_getElem? (i := 10) rfl | exact List.mem_of_getElem? (i := 11) rfl | exact List.mem_of_getElem? (i := 12) rfl | exact List.mem_of_getElem? (i := 13) rfl) (by first | exact List.mem_of_getElem? (i := 0) rfl | exact List.mem_of_getElem? (i := 1) rfl | exact List.mem_of_getElem? (i := 2) rfl | exact List.mem_of_getElem? (i := 3) rfl | exact List.mem_of_getElem? (i := 4) rfl | exact List.mem_of_getElem? (i := 5) rfl | exact List.mem_of_getElem? (i := 6) rfl | exact List.mem_of_getElem? (i := 7) rfl | exact List.mem_of_getElem? (i := 8) rfl | exact List.mem_of_getElem? (i := 9) rfl | exact List.mem_of_getElem? (i := 10) rfl | exact List.mem_of_getElem? (i := 11) rfl | exact List.mem_of_getElem? (i := 12) rfl | exact List.mem_of_getElem? (i := 13) rfl)⟩
set_option maxRecDepth 100000 in
theorem contract (H : Type) (enc : TypeId × Value → H) (W : World) (base : Nat) (args : Array Value) (ds gs : List (DataW H)) (before : List MemPlace)
    (hval : ∀ (j : Nat) t v, Tryz.f7.params[j]? = some t → args[j]? = some v → Value.okWide Tryz.prog W .any base t v)
    (hW : DataW.Whole enc Tryz.prog Tryz.f7.params.toList Rows.editSetsSpec.vars false W args.toList ds gs before) (hL : laidMetH Tryz.prog Rows.editSetsUptoRow.laid W) (hsh : W.ShapedOpen Tryz.prog) (hk : Rows.uptoSmall H (ds ++ gs) = true) :
    Calls Tryz.prog 7 args W fun e W' => ∃ v, e = .returned v ∧ Rows.editSetsSpec.post enc Tryz.prog Tryz.f7 false true false false W args v W' := by
  have OP := opens hL hsh
  have hW' := hW
  obtain ⟨p, q, hA0, hV, rfl, hfz, hnd⟩ := hW
  have hA : DataW.TrodAll enc Tryz.prog W 0 (fun _ => true) true Tryz.f7.params.toList args.toList ds p := hA0
  rw [Tryz.params7] at hA hval
  obtain ⟨v0, vs0, d0, ds0, pl0, ql0, hargs, rfl, rfl, h0, r0⟩ := trodAll_cons hA
  obtain ⟨v1, vs1, d1, ds1, pl1, ql1, rfl, rfl, rfl, h1, r1⟩ := trodAll_cons r0
  obtain ⟨rfl, rfl, rfl⟩ := trodAll_nil r1
  obtain rfl : args = #[v0, v1] := by cases args; simp_all
  obtain ⟨rfl, rfl⟩ := trodVars_none hV
  have hb := of_decide_eq_true hk
  simp only [List.append_nil, Rows.uptoBulkAll] at hb
  have hk0 := h0
  obtain ⟨p0, A0, c0, rfl, q0, E0, b0, s0, f0, t0⟩ := open_planB (hval 0 46 v0 rfl rfl) h0
  have hk1 := h1
  obtain ⟨e1, rfl, s1⟩ := open_edtT (hval 1 26 v1 rfl rfl) h1
  have walk := lawEdSets_any p0 A0 c0 e1 W OP (s0 (by omega)) q0 E0 (by omega) (by omega) ⟨by have := s1.1; omega, by have := s1.2.1; omega, by have := s1.2.2.1; omega, by have := s1.2.2.2; omega⟩
  refine walk.mono fun e W' ⟨he, hg⟩ => ?_
  subst he
  have hl0 : ∀ x ∈ pl0, x.block < W.heap.size := fun x hx => by simpa using hW'.lt x (by simp [hx])
  have hl1 : ∀ x ∈ pl1, x.block < W.heap.size := fun x hx => by simpa using hW'.lt x (by simp [hx])
  refine ⟨_, rfl, _, _, _, [], (pl0 ++ (pl1 ++ [])), [], hW', ?_, ?_, rfl, ?_, fun h => by cases h⟩
  · exact trodAll_cons_mk (shut_bool Tryz.underlying4 _) trodAll_mk0
  · exact (trodAll_cons_mk (Below.trod laidOut (by kernel_rfl) (of_decide_eq_true (by kernel_rfl)) hk0 hg hl0) (trodAll_cons_mk (Below.trod laidOut (by kernel_rfl) (of_decide_eq_true (by kernel_rfl)) hk1 hg hl1) trodAll_mk0))
  · exact hg.frame _
theorem reads (os : Os) {H : Type} (enc : TypeId × Value → H) : ∃ places, DataW.whole enc Tryz.prog ((World.laidAll Tryz.prog os Rows.editSetsUptoRow.laid).forCall (fun _ _ => 0) ⟨#[], #[.agg #[.string ⟨#[]⟩, .string ⟨#[]⟩, .slice none 0 0, .int .i64 0], .agg #[.int .u8 0, .int .i64 0, .string ⟨#[]⟩, .string ⟨#[]⟩, .string ⟨#[]⟩, .string ⟨#[]⟩, .int .i64 0, .int .i64 0, .int .i64 0, .int .i64 0, .int .i64 0, .int .u8 0]], []⟩).memory Tryz.f7.params.toList Rows.editSetsSpec.vars false (#[.agg #[.string ⟨#[]⟩, .string ⟨#[]⟩, .slice none 0 0, .int .i64 0], .agg #[.int .u8 0, .int .i64 0, .string ⟨#[]⟩, .string ⟨#[]⟩, .string ⟨#[]⟩, .string ⟨#[]⟩, .int .i64 0, .int .i64 0, .int .i64 0, .int .i64 0, .int .i64 0, .int .u8 0]] : Array Value).toList 8 = some ([.agg [.lit (.string []), .lit (.string []), .nil, .lit (.int .i64 0)], .agg [.lit (.int .u8 0), .lit (.int .i64 0), .lit (.string []), .lit (.string []), .lit (.string []), .lit (.string []), .agg [.lit (.int .i64 0), .lit (.int .i64 0)], .lit (.int .i64 0), .lit (.int .i64 0), .lit (.int .i64 0), .lit (.int .u8 0)]], [], places) :=
  ⟨[], by kernel_rfl⟩
set_option maxRecDepth 100000 in
theorem liftedUpto (os : Os) (started : os.Started) (H : Type) (enc : TypeId × Value → H) (F : Stop.Interp) :
    ReturnsInHanded {} Tryz.checked os 7 .any ((Rows.OpenSpec.upto Rows.editSetsSpec).preRow enc Tryz.prog Tryz.f7 Rows.editSetsUptoRow.domain false Rows.editSetsUptoRow.laid) (((Rows.OpenSpec.upto Rows.editSetsSpec).at F).post enc Tryz.prog Tryz.f7 false true false false) := by
  obtain ⟨places, hx⟩ := reads os enc
  refine returnsInHanded_of_row (C := Tryz.checked) (s := Rows.OpenSpec.upto Rows.editSetsSpec) own started (by kernel_rfl) Tryz.func7
    (witness_row_atRef (enc := enc) (C := Tryz.checked) false (World.laidAll Tryz.prog os Rows.editSetsUptoRow.laid) #[.agg #[.string ⟨#[]⟩, .string ⟨#[]⟩, .slice none 0 0, .int .i64 0], .agg #[.int .u8 0, .int .i64 0, .string ⟨#[]⟩, .string ⟨#[]⟩, .string ⟨#[]⟩, .string ⟨#[]⟩, .int .i64 0, .int .i64 0, .int .i64 0, .int .i64 0, .int .i64 0, .int .u8 0]] (World.laidAll_os _ _ _) (by kernel_rfl) (by kernel_rfl) (by kernel_rfl)
      (OpenSpec.preRow_of_cond 8 hx (by kernel_rfl) (fun k hk => by cases hk; kernel_rfl) (by kernel_rfl) (laidMet_laidAll _ (by kernel_rfl) (by kernel_rfl)))) ?_
  intro W base args ds gs before hval hW _ hcond _ hL hsh _
  exact contract H enc W base args ds gs before hval hW hL hsh (hcond _ rfl)
set_option maxHeartbeats 40000000 in
theorem saidUpto : Rows.EditSetsUptoSaid :=
  OpenClaim.holds_of_cond 7 Tryz.f7 rfl rfl rfl rfl rfl rfl rfl ⟨rfl, rfl, rfl, rfl, rfl⟩ rfl rfl rfl rfl rfl (by as_aux_lemma => kernel_rfl) Tryz.func7 (by
      unfold joinedFacts
      simp only [Bool.and_eq_true]
      repeat' apply And.intro
      all_goals (as_aux_lemma => kernel_rfl))
    (of_decide_eq_true (by as_aux_lemma => kernel_rfl)) (by unfold Func.isWrapper; first | (rw [if_pos (by decide +kernel)]; kernel_rfl) | (rw [if_neg (by decide +kernel)]; exact ⟨rfl, rfl⟩))
    (fun os started H enc _ F => by rw [OpenClaim.pre_eq_preRow]; exact liftedUpto os started H enc F)
theorem plain (f : FuncId) (fn : Func) (hf : Tryz.pinned.checked.prog.funcNamed "flightdeck/flightdecklaw23.EditSets" = some f) (hfn : Tryz.pinned.checked.prog.funcs[f]? = some fn) :
    true = Tryz.pinned.checked.prog.looks [] ∧ ∀ (j : Nat) t, fn.params[j]? = some t → Tryz.pinned.checked.prog.wantsStandIn t = false := by
  obtain rfl : f = 7 := Option.some.inj ((show Tryz.prog.funcNamed "flightdeck/flightdecklaw23.EditSets" = some 7 by kernel_rfl).symm.trans hf) |>.symm
  obtain rfl : fn = Tryz.f7 := (Option.some.inj (Tryz.func7.symm.trans hfn)).symm
  refine ⟨by kernel_rfl, fun j t ht => ?_⟩
  rw [Tryz.params7] at ht
  have hm := Array.mem_of_getElem? ht
  have h : t = 46 ∨ t = 26 := by simpa using hm
  rcases h with rfl | rfl
  · exact (show Tryz.prog.wantsStandIn 46 = false by kernel_rfl)
  · exact (show Tryz.prog.wantsStandIn 26 = false by kernel_rfl)
end Go.Proofs.YtnmpfmelaninbaaGreatDoor.editSets
namespace Go.Proofs.YtnmpfmelaninbaaGreatDoor
set_option maxHeartbeats 40000000 in
/-- The card of the second form. -/
theorem editSets_card : Rows.EditSetsUptoCardSaid :=
  Claim7.holds_tied_plain_at .later [] _ _ _ _ editSets.saidUpto (fun _ h => by cases h) (by as_aux_lemma => kernel_rfl) (fun _ h => by cases h) editSetsUpto_row_tie rfl ⟨rfl, rfl⟩ (by as_aux_lemma => kernel_rfl) rfl editSets.plain (by as_aux_lemma => kernel_rfl)
end Go.Proofs.YtnmpfmelaninbaaGreatDoor
