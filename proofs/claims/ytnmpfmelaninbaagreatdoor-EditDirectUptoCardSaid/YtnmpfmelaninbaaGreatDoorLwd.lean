/- A plan among the arguments, the lengths of its places with it. EditDirect: the statement walked. -/
import Derived.Test.YtnmpfmelaninbaaGreatDoorPk46
import Derived.Test.YtnmpfmelaninbaaGreatDoorPk39
namespace Go.Proofs.YtnmpfmelaninbaaGreatDoor
open Go.RowKit Go.ChangeShapes Go.WideShapes Go.Deep
set_option linter.unusedVariables false
set_option linter.unusedSimpArgs false
section
variable {H : Type} {enc : TypeId × Value → H} {w : World} {base : Nat} {spare : Nat → Bool} {held : Bool}
set_option maxRecDepth 100000 in
theorem open_planB {r : Reach} {b0 : Nat} {v : Value} {d : DataW H} {ps : List MemPlace} (hv : Value.okWide Tryz.prog w r b0 46 v) (h : DataW.Trod enc Tryz.prog w base spare held 46 v d ps) :
    ∃ (p : Plan) (A : Option Addr) (c : Nat), v = p.val A c ∧ p.es.length ≤ c ∧ Ents w A p.es ∧ p.es.length ≤ Rows.uptoBulk d ∧ (Rows.uptoBulk d ≤ 4000000000 → p.small) ∧ p.from_.length ≤ Rows.uptoBulk d ∧ p.to_.length ≤ Rows.uptoBulk d := by
  obtain ⟨cs, rfl, hsz⟩ := okWide_struct Tryz.underlying46 hv
  obtain ⟨fuel, hf⟩ := h
  obtain ⟨xs, n, _, hx, hlen, hxl, hf⟩ := DataW.trod_struct Tryz.underlying46 hf
  rw [cells_plan] at hsz
  have hl4 : cs.toList.length = 4 := by simpa using hsz
  obtain ⟨c0, c1, c2, c3, hcs⟩ := list4 hl4
  obtain ⟨y0, y1, y2, y3, rfl⟩ := list4 hxl
  have g0 := fld hf 0 9 0 1 rfl cells_str
  have g1 := fld hf 1 9 1 1 rfl cells_str
  have g2 := fld hf 2 44 2 1 rfl cells_es
  have g3 := fld hf 3 3 3 1 rfl cells_int
  have hvc : (Value.agg cs).cells.toList = [c0, c1, c2, c3] := hcs
  rw [hvc] at g0 g1 g2 g3
  simp only [List.drop_succ_cons, List.drop_zero, List.take_succ_cons, List.take_zero, List.getElem?_cons_succ, List.getElem?_cons_zero] at g0 g1 g2 g3
  obtain ⟨s0, e0, b0⟩ := open_str g0
  obtain ⟨s1, e1, b1⟩ := open_str g1
  obtain ⟨es, A, c, e2, hc, hE, b2, b3⟩ := open_ents g2
  obtain ⟨k, e3, _⟩ := DataW.trod_int Tryz.underlying3 g3
  simp only [List.cons.injEq, and_true] at e3
  simp only [Prod.mk.injEq] at hx
  have hy : Rows.uptoBulk d = Rows.uptoBulkAll [y0.1, y1.1, y2.1, y3.1] + 1 := by rw [hx.1]; simp [Rows.uptoBulk]
  have p0 : Rows.uptoBulk y0.1 ≤ Rows.uptoBulkAll [y0.1, y1.1, y2.1, y3.1] := bulk_part (by simp)
  have p1 : Rows.uptoBulk y1.1 ≤ Rows.uptoBulkAll [y0.1, y1.1, y2.1, y3.1] := bulk_part (by simp)
  have p2 : Rows.uptoBulk y2.1 ≤ Rows.uptoBulkAll [y0.1, y1.1, y2.1, y3.1] := bulk_part (by simp)
  refine ⟨⟨s0, s1, es, k⟩, A, c, ?_, hc, hE, ?_, fun hN => ⟨?_, ?_, ?_, fun x hx' => ?_⟩, ?_, ?_⟩
  · have : cs = #[c0, c1, c2, c3] := by apply Array.toList_inj.1; rw [hcs]
    rw [this, e0, e1, e2, e3]; rfl
  · show es.length ≤ _; omega
  · show s0.length ≤ _; omega
  · show s1.length ≤ _; omega
  · show es.length ≤ _; omega
  · obtain ⟨q1, q2, q3⟩ := b3 x hx'
    exact ⟨⟨by omega, by omega⟩, by omega⟩
  · show s0.length ≤ _; omega
  · show s1.length ≤ _; omega
set_option maxRecDepth 100000 in
theorem open_u8E {r : Reach} {b0 : Nat} {t : TypeId} {v : Value} {d : DataW H} {ps : List MemPlace} (ht : Tryz.prog.underlying t = some (.int .u8)) (hv : Value.okWide Tryz.prog w r b0 t v) (h : DataW.Trod enc Tryz.prog w base spare held t v d ps) : ∃ n : Int, v = .int .u8 n ∧ 0 ≤ n ∧ n ≤ 255 := by
  obtain ⟨n, rfl, _, _, wf⟩ := Go.ChangeShapes.open_int ht hv h
  exact ⟨n, rfl, Go.bounds_u8 wf⟩
end
end Go.Proofs.YtnmpfmelaninbaaGreatDoor
namespace Go.Proofs.YtnmpfmelaninbaaGreatDoor
open Go.RowKit Go.Sort
set_option linter.unusedVariables false
set_option linter.unusedSimpArgs false
set_option maxRecDepth 100000
attribute [local go_sem ↓] bdbZ_fold bedtA_fold slE_fold
attribute [local go_sem] run_bdbZ run_bedt2 run_slE_lk run_slE_lk1 run_slE_l1 run_neq_pt
set_option maxHeartbeats 16000000 in
theorem lawEdDirect_any (p : Plan) (A : Option Addr) (c : Nat) (n : Int) (hn0 : 0 ≤ n) (hn1 : n ≤ 255) (w : World) (hO : Open23 w) (hp : p.small) (hc : p.es.length ≤ c) (hE : Ents w A p.es) (hpf : p.from_.length ≤ 1000000000) (hpt : p.to_.length ≤ 1000000000) :
    Calls Tryz.prog 8 #[.agg (p.arr A c), .int .u8 n] w (Ret w (.bool true)) := by
  go_enter Tryz.func8, Tryz.ntmps8
  go_upto_region 1 with (fail)
  have P0 := Blk.new w (p.arr A c) 46
  have B0 := alloc_below5 w (.cells (p.arr A c) 46)
  generalize w.alloc _ = W at P0 B0 ⊢
  generalize w.heap.size = g at P0 ⊢
  go_upto_region 3 with (go_at_call 12; (with_reducible refine callR (awake23_any W (hO.below B0)) ?_); intro w1 b1 _ _ _)
  have P1 := P0.step b1
  have B1 := below_step B0 b1
  clear P0 B0 b1
  obtain ⟨i, hi⟩ : ∃ i : Nat, n % 60 = i := ⟨(n % 60).toNat, by omega⟩
  have hi60 : i < 60 := by omega
  have ht : n.tmod 60 = (i : Int) := by rw [Int.tmod_eq_emod_of_nonneg hn0]; exact hi
  have Hwa := Lib.hid (show wrap64 ((i : Int) - 1) = (i : Int) - 1 from IntWalk.wrap64_in _ (by omega))
  have Hwb := Lib.hid (show wrap64 (i : Int) = (i : Int) from IntWalk.wrap64_in _ (by omega))
  have Hwc := Lib.hid (show wrap64 ((i : Int) + 1) = (i : Int) + 1 from IntWalk.wrap64_in _ (by omega))
  have i1 : Has_plan w1 g 0 := ⟨_, P1.is_plan rfl⟩
  have i2 : of_plan w1 g 0 = p.arr A c := of_plan_eq (P1.is_plan rfl)
  have KA := Lib.hid (show Calls Tryz.prog 20 #[.agg cells0, .agg (p.arr A c), .agg (edI 3 i [] [] []).arr] w1 (RetAp w1 (applyS look0 p (editTo i))) from
    eapply0_any p A c (editTo i) w1 (hO.below B1).laid (hO.below B1).forms (hO.below B1).gap hp hc (hE.below (B := 0) B1) hpf hpt ⟨by simp [editTo], by simp [editTo], by simp [editTo], by simp [editTo]⟩ (by show (3 : Int) < 8; decide))
  have HD := Lib.hid (@direct_law look0 p i)
  generalize applyS look0 p (editTo i) = R at KA HD
  obtain ⟨q, e⟩ := R
  go_upto_region 5 with (go_at_call 20; (with_reducible refine callAp KA.out ?_); intro Aq cq w2 hcq hEq _ b2)
  have Q0 := Blk.new w2 (q.arr Aq cq) 46
  have D0 := below_step b2 (alloc_below5 w2 (.cells (q.arr Aq cq) 46))
  have E0 : Ents (w2.alloc (.cells (q.arr Aq cq) 46)) Aq q.es := hEq.below (B := 0) (alloc_below5 w2 (.cells (q.arr Aq cq) 46))
  have P2 := P1.step D0
  have B2 := below_step B1 D0
  clear KA i1 i2 hEq b2 P1 D0
  generalize w2.alloc _ = W3 at Q0 E0 P2 B2 ⊢
  generalize w2.heap.size = gq at Q0 ⊢
  by_cases hz : e = 0
  case neg =>
    have hz' : (e != 0) = true := by simpa using hz
    go_wp2
    go_ret
    exact Ret.bool rfl B2
  subst hz
  obtain ⟨hil, hql, D, m, hq, hf, hx, hy, hrest⟩ := HD.out rfl
  have hqes : q.es = D :: m := hq
  obtain ⟨b, off, hA, hcl⟩ := hE.ent hil
  have HR := Lib.hid hrest
  have hic : i < c := by omega
  have hlt : (i : Int) < (p.es.length : Int) := by omega
  have c2 : W3.cell? ⟨g, 2, none⟩ = some (.slice A p.es.length c) := P2.cell 2
  have hI := hcl W3 B2
  generalize hXX : entAt p i = x at hI HR hf hx hy
  have i1 : Has_ent W3 b (off + i * 20) := ⟨_, hI⟩
  have i2 : of_ent W3 b (off + i * 20) = x := of_ent_eq hI
  rw [hA] at c2
  have AH := Lib.hid hA
  have HEn := Lib.hid (fun W' (bb : Below w.heap.size w W') => (show Ents W' (some ⟨b, off, none⟩) p.es from by have := hE.below (B := 0) bb; rwa [hA] at this))
  clear hcl hI HD hrest hq hA
  go_upto_region 8 with (fail)
  have X0 := Blk.new W3 x.arr 57
  have D1 := alloc_below5 W3 (.cells x.arr 57)
  have Q1 := Q0.step D1
  have E1 := E0.below (B := 0) D1
  have P3 := P2.step D1
  have B3 := below_step B2 D1
  clear i1 i2 c2 Q0 E0 P2 B2 D1
  generalize W3.alloc _ = W4 at X0 Q1 E1 P3 B3 ⊢
  generalize W3.heap.size = gx at X0 ⊢
  obtain ⟨b2, o2, hA2, hb2, hc2⟩ := E1.get (k := 0) (by rw [hqes]; simp)
  have hD0 : q.es[0]'(by rw [hqes]; simp) = D := by simp [hqes]
  rw [hD0] at hc2
  have hID : Is_ent W4 b2 o2 D := fun j hj => by have := hc2 j hj; rw [Nat.zero_mul, Nat.add_zero] at this; exact this
  have hqn : q.es.length = m.length + 1 := by rw [hqes]; simp
  have hcq1 : m.length + 1 ≤ cq := by rw [← hqn]; exact hcq
  subst hA2
  clear hc2 hb2
  go_cut [50] (fun v wx => v = .bool false ∧ Below W4.heap.size W4 wx)
  case first =>
    have f1 : ∀ d os, (grow (redrawn W4 d) os).cell? ⟨gq, 2, none⟩ = some (.slice (some ⟨b2, o2, none⟩) (m.length + 1) cq) := fun d os => by rw [← hqn]; exact (Q1.step (below_regrown W4 d os)).cell 2
    have hbl : b2 < W4.heap.size := by have := hID 0 (by omega); exact block_lt_of_cell (this.trans rfl)
    have f2 : ∀ d os, (grow (redrawn W4 d) os).cell? ⟨b2, o2 + 2, none⟩ = some (.string ⟨x.leg.fix.toArray⟩) := fun d os => by rw [← hf]; exact (hID.below (below_regrown W4 d os) hbl) 2 (by omega)
    have f3 : ∀ d os, (grow (redrawn W4 d) os).cell? ⟨gx, 2, none⟩ = some (.string ⟨x.leg.fix.toArray⟩) := fun d os => (X0.step (below_regrown W4 d os)).cell 2
    have f4 : ∀ d os, Is_pt (grow (redrawn W4 d) os) b2 (o2 + 14) ⟨x.ex, x.ey⟩ := fun d os j hj => by
      have h14 := (hID.below (below_regrown W4 d os) hbl) (14 + j) (by omega)
      rw [Nat.add_assoc, h14]
      match j, hj with
      | 0, _ => show some (Value.int .i64 D.ex) = _; rw [hx]; rfl
      | 1, _ => show some (Value.int .i64 D.ey) = _; rw [hy]; rfl
    have g1 : ∀ d os, Has_pt (grow (redrawn W4 d) os) b2 (o2 + 14) := fun d os => ⟨_, f4 d os⟩
    have g2 : ∀ d os, of_pt (grow (redrawn W4 d) os) b2 (o2 + 14) = ⟨x.ex, x.ey⟩ := fun d os => of_pt_eq (f4 d os)
    have g3 : ∀ d os, Has_pt (grow (redrawn W4 d) os) gx 14 := fun d os => ⟨_, is_ptE (X0.step (below_regrown W4 d os))⟩
    have g4 : ∀ d os, of_pt (grow (redrawn W4 d) os) gx 14 = ⟨x.ex, x.ey⟩ := fun d os => of_pt_eq (is_ptE (X0.step (below_regrown W4 d os)))
    clear f4 X0 Q1 E1 P3 hID
    refine wp_region_quiet_below (by kernel_rfl) (by kernel_rfl) ?_
    repeat (quiet_step (fail))
    refine wpQuiet_nil ?_
    intro _ hw'
    obtain ⟨⟨dq, osq⟩, hw''⟩ := hw'
    subst hw''
    go_wp2
    go_meet
    exact ⟨rfl, below_regrown W4 dq osq⟩
  case rest =>
    obtain ⟨rfl, BC⟩ := hcut
    have X1 := X0.step BC
    have Q2 := Q1.step BC
    have E2 := E1.below (B := 0) BC
    have P4 := P3.step BC
    have B4 := below_step B3 BC
    clear X0 Q1 E1 P3 B3 BC hID
    have c1 : wc.cell? ⟨gx, 1, none⟩ = some (.int .u8 x.leg.ty) := X1.cell 1
    have c2 : wc.cell? ⟨g, 2, none⟩ = some (.slice (some ⟨b, off, none⟩) p.es.length c) := by have := P4.cell 2; rw [AH.out] at this; exact this
    have cq2 : wc.cell? ⟨gq, 2, none⟩ = some (.slice (some ⟨b2, o2, none⟩) (m.length + 1) cq) := by rw [← hqn]; exact Q2.cell 2
    have hwa := Hwa.out
    have hwb := Hwb.out
    have hwc := Hwc.out
    have hi0 : i ≤ p.es.length := Nat.le_of_lt hil
    have hi1 : i + 1 ≤ p.es.length := hil
    have HIL := Lib.hid hil
    have HN6 := Lib.hid hp.len
    have HC := Lib.hid hc
    have HQE := Lib.hid hqes
    have HCQ := Lib.hid hcq1
    clear hD0 hi ht hi60 hn0 hn1 hqes hqn hcq hql hf hx hy hp hc hpf hpt hic hlt hil hcq1 hE Hwa Hwb Hwc X1 Q2
    by_cases h14 : 14 ≤ x.leg.ty
    · have HM := Lib.hid (show ∀ z r, p.es.drop i = z :: r → z.gap = false → m = z :: r from fun z r => by have := HR.out z r; rwa [if_pos h14] at this)
      clear HR
      go_upto_region 14 with (fail)
      clear hwa hwb hwc c1 h14 HIL hi1
      generalize i = j at HM hi0 ⊢
      have hjn := hi0
      clear hi0
      have HJN := Lib.hid hjn
      obtain ⟨l, hl⟩ : ∃ l, p.es.drop j = l := ⟨_, rfl⟩
      have hll : l.length = p.es.length - j := by rw [← hl, List.length_drop]
      have KE0 := Lib.hid (fun (hm : m = l) =>
        equal_any m l (subE (some ⟨b2, o2, none⟩) 1 cq) (subE (some ⟨b, off, none⟩) j c) (cq - 1) (c - j) wc (by rw [hm, hll]; have := HN6.out; omega) (by rw [hll]; have := HN6.out; omega) (by have := HCQ.out; omega) (by rw [hll]; have := HC.out; omega)
          (by have := E2.drop (k := 1) (c := cq) (by rw [HQE.out]; have := HCQ.out; simpa using this); rw [HQE.out] at this; simpa using this)
          (hl ▸ (HEn.out wc B4).drop HC.out))
      have HE1 := Lib.hid (fun (hm : m = l) => show eqGo m l = true from (eqGo_iff _ _).2 hm)
      cases l with
      | nil =>
        have hz0 : p.es.length - j = 0 := by simpa using hll.symm
        clear KE0 HE1 HM hl hll hjn
        go_wp2
        go_ret
        exact Ret.bool rfl B4
      | cons z r =>
        have hjl : j < p.es.length := by
          have := HJN.out
          rcases Nat.lt_or_ge j p.es.length with h | h
          · exact h
          · rw [List.drop_of_length_le h] at hl; cases hl
        have hsub : subE (some ⟨b, off, none⟩) j c = some ⟨b, off + j * 20, none⟩ := subE_some (by have := HC.out; omega)
        have hIz : Is_ent wc b (off + j * 20) z := by
          obtain ⟨b', o', hA', _, hc'⟩ := (HEn.out wc B4).get hjl
          injection hA' with hA'
          injection hA' with e1 e2
          subst e1 e2
          have : p.es[j] = z := by
            have h1 := List.drop_eq_getElem_cons hjl
            rw [hl] at h1
            injection h1 with h1 _
            exact h1.symm
          rw [this] at hc'
          exact hc'
        have z0 : wc.cell? ⟨b, off + j * 20, none⟩ = some (.bool z.gap) := by have := hIz 0 (by omega); rw [Nat.add_zero] at this; exact this
        have z1 : wc.cell? ⟨b, off + j * 20 + 1, none⟩ = some (.int .u8 z.leg.ty) := hIz 1 (by omega)
        have hpos : (0 : Int) < ((p.es.length - j : Nat) : Int) := by omega
        have hmz := Lib.hid (fun (hg : z.gap = false) => HM.out z r hl hg)
        have hq1 : 1 ≤ m.length + 1 := by omega
        have hq2 : ¬ ((m.length + 1 : Nat) : Int) < 1 := by omega
        clear HM hl hjn hIz
        cases hg : z.gap with
        | true =>
          rw [hg] at z0
          clear KE0 HE1 hmz
          go_wp2
          go_ret
          exact Ret.bool rfl B4
        | false =>
          rw [hg] at z0
          by_cases h5 : z.leg.ty = 5
          · rw [h5] at z1
            clear KE0 HE1 hmz h5
            go_wp2
            go_ret
            exact Ret.bool rfl B4
          by_cases h6 : z.leg.ty = 6
          · rw [h6] at z1
            clear KE0 HE1 hmz h5 h6
            go_wp2
            go_ret
            exact Ret.bool rfl B4
          have h5' : (z.leg.ty != 5) = true := by simpa using h5
          have h6' : (z.leg.ty != 6) = true := by simpa using h6
          have hm := hmz.out hg
          have KE := KE0.out hm
          rw [HE1.out hm, hsub, hll] at KE
          have KE := Lib.hid KE
          clear KE0 HE1 hmz h5 h6 hm hll
          go_wp2_with (go_at_call 21; (with_reducible refine callQ KE.out ?_); intro n14)
          go_ret
          exact Ret.bool rfl (below_drewN B4 _)
    · have HM := Lib.hid (show ∀ z r, p.es.drop (i + 1) = z :: r → z.gap = false → m = z :: r from fun z r => by have := HR.out z r; rwa [if_neg h14] at this)
      clear HR
      go_upto_region 14 with (fail)
      clear hwa hwb hwc c1 h14 HIL hi0
      generalize i + 1 = j at HM hi1 ⊢
      have hjn := hi1
      clear hi1
      have HJN := Lib.hid hjn
      obtain ⟨l, hl⟩ : ∃ l, p.es.drop j = l := ⟨_, rfl⟩
      have hll : l.length = p.es.length - j := by rw [← hl, List.length_drop]
      have KE0 := Lib.hid (fun (hm : m = l) =>
        equal_any m l (subE (some ⟨b2, o2, none⟩) 1 cq) (subE (some ⟨b, off, none⟩) j c) (cq - 1) (c - j) wc (by rw [hm, hll]; have := HN6.out; omega) (by rw [hll]; have := HN6.out; omega) (by have := HCQ.out; omega) (by rw [hll]; have := HC.out; omega)
          (by have := E2.drop (k := 1) (c := cq) (by rw [HQE.out]; have := HCQ.out; simpa using this); rw [HQE.out] at this; simpa using this)
          (hl ▸ (HEn.out wc B4).drop HC.out))
      have HE1 := Lib.hid (fun (hm : m = l) => show eqGo m l = true from (eqGo_iff _ _).2 hm)
      cases l with
      | nil =>
        have hz0 : p.es.length - j = 0 := by simpa using hll.symm
        clear KE0 HE1 HM hl hll hjn
        go_wp2
        go_ret
        exact Ret.bool rfl B4
      | cons z r =>
        have hjl : j < p.es.length := by
          have := HJN.out
          rcases Nat.lt_or_ge j p.es.length with h | h
          · exact h
          · rw [List.drop_of_length_le h] at hl; cases hl
        have hsub : subE (some ⟨b, off, none⟩) j c = some ⟨b, off + j * 20, none⟩ := subE_some (by have := HC.out; omega)
        have hIz : Is_ent wc b (off + j * 20) z := by
          obtain ⟨b', o', hA', _, hc'⟩ := (HEn.out wc B4).get hjl
          injection hA' with hA'
          injection hA' with e1 e2
          subst e1 e2
          have : p.es[j] = z := by
            have h1 := List.drop_eq_getElem_cons hjl
            rw [hl] at h1
            injection h1 with h1 _
            exact h1.symm
          rw [this] at hc'
          exact hc'
        have z0 : wc.cell? ⟨b, off + j * 20, none⟩ = some (.bool z.gap) := by have := hIz 0 (by omega); rw [Nat.add_zero] at this; exact this
        have z1 : wc.cell? ⟨b, off + j * 20 + 1, none⟩ = some (.int .u8 z.leg.ty) := hIz 1 (by omega)
        have hpos : (0 : Int) < ((p.es.length - j : Nat) : Int) := by omega
        have hmz := Lib.hid (fun (hg : z.gap = false) => HM.out z r hl hg)
        have hq1 : 1 ≤ m.length + 1 := by omega
        have hq2 : ¬ ((m.length + 1 : Nat) : Int) < 1 := by omega
        clear HM hl hjn hIz
        cases hg : z.gap with
        | true =>
          rw [hg] at z0
          clear KE0 HE1 hmz
          go_wp2
          go_ret
          exact Ret.bool rfl B4
        | false =>
          rw [hg] at z0
          by_cases h5 : z.leg.ty = 5
          · rw [h5] at z1
            clear KE0 HE1 hmz h5
            go_wp2
            go_ret
            exact Ret.bool rfl B4
          by_cases h6 : z.leg.ty = 6
          · rw [h6] at z1
            clear KE0 HE1 hmz h5 h6
            go_wp2
            go_ret
            exact Ret.bool rfl B4
          have h5' : (z.leg.ty != 5) = true := by simpa using h5
          have h6' : (z.leg.ty != 6) = true := by simpa using h6
          have hm := hmz.out hg
          have KE := KE0.out hm
          rw [HE1.out hm, hsub, hll] at KE
          have KE := Lib.hid KE
          clear KE0 HE1 hmz h5 h6 hm hll
          go_wp2_with (go_at_call 21; (with_reducible refine callQ KE.out ?_); intro n14)
          go_ret
          exact Ret.bool rfl (below_drewN B4 _)
end Go.Proofs.YtnmpfmelaninbaaGreatDoor
