/- edit.Apply; walks. The empty database: what it gives. -/
import Derived.Test.YtcgmemkkcaipfaaGreatDoorPk38
import Derived.Test.YtcgmemkkcaipfaaGreatDoorPk13
import Derived.Test.YtcgmemkkcaipfaaGreatDoorPk20
import Derived.Deep.RegionHeld3
namespace Go.Proofs.YtcgmemkkcaipfaaGreatDoor
open Go.RowKit Go.Sort
set_option linter.unusedVariables false
set_option linter.unusedSimpArgs false
set_option maxRecDepth 100000
/-- The call returns a plan and an error; the plan's entries lie where they may. -/
def RetAp (w : World) (r : Plan × Int) (e : Ending) (w' : World) : Prop :=
  ∃ A c, e = .returned (.tuple #[.agg (r.1.arr A c), .int .i64 r.2]) ∧ r.1.es.length ≤ c ∧ Ents w' A r.1.es ∧ (∀ a, A = some a → w.heap.size ≤ a.block) ∧ Below w.heap.size w w'
theorem callAp {P : Program} {f : FuncId} {args : Array Value} {W : World} {r : Plan × Int} {K : Ending → World → Prop} (h : Calls P f args W (RetAp W r))
    (k : ∀ A c w', r.1.es.length ≤ c → Ents w' A r.1.es → (∀ a, A = some a → W.heap.size ≤ a.block) → Below W.heap.size W w' → K (.returned (.tuple #[.agg (r.1.arr A c), .int .i64 r.2])) w') : Calls P f args W K :=
  h.mono fun e w' ⟨A, c, he, h1, h2, h3, h4⟩ => by subst he; exact k A c w' h1 h2 h3 h4
theorem callOutA {P : Program} {f : FuncId} {args : Array Value} {W : World} {es : List Entry} {K : Ending → World → Prop} (h : Calls P f args W (RetOut W es)) (k : ∀ A c w', es.length ≤ c → Ents w' A es → (∀ a, A = some a → W.heap.size ≤ a.block) → Below W.heap.size W w' → K (.returned (.slice A es.length c)) w') : Calls P f args W K :=
  h.mono fun e w' ⟨v, he, ho, hb⟩ => by
    subst he
    obtain ⟨A, c, rfl, h1, h2, h3⟩ := ho.form
    exact k A c w' h1 h2 h3 hb
theorem Ents.farA {w : World} {A : Option Addr} {es : List Entry} (h : Ents w A es) {g : Nat} (hA : ∀ a, A = some a → a.block ≠ g) (cs : Array Value) : Ents (w.setRow g cs) A es := by
  refine ⟨fun hne => ?_⟩
  obtain ⟨b, o, h1, h2, h3⟩ := h.at_ hne
  refine ⟨b, o, h1, by simpa [World.setRow] using h2, fun i x hx j hj => ?_⟩
  rw [World.cell?_of_block (w := w) (setRow_other w g b cs (hA _ h1))]
  exact h3 i x hx j hj
def bplanA (parts : Array (Nat × Value)) : Sem Value := Instr.build 33 parts
theorem bplanA_fold (parts : Array (Nat × Value)) : Instr.build 33 parts = bplanA parts := rfl
theorem run_bplanA0 (w : World) : (bplanA #[]).run Tryz.prog w = .ok (.agg (plan0.arr none 0)) w := run_build w _ _ _ (by kernel_rfl)
theorem run_bplanA4 (w : World) (a b : List UInt8) (n : Int) (es : List Entry) (A : Option Addr) (c : Nat) : (bplanA #[(0, .string ⟨a.toArray⟩), (1, .string ⟨b.toArray⟩), (3, .int .i64 n), (2, .slice A es.length c)]).run Tryz.prog w = .ok (.agg ((⟨a, b, es, n⟩ : Plan).arr A c)) w := run_build w _ _ _ (by kernel_rfl)
def bedr (parts : Array (Nat × Value)) : Sem Value := Instr.build 67 parts
theorem bedr_fold (parts : Array (Nat × Value)) : Instr.build 67 parts = bedr parts := rfl
def mkEdr (cs : Array Value) (p : Plan) (A : Option Addr) (c : Nat) (e : EditV) : Edr := ⟨cs.getD 0 undef, cs.getD 1 undef, cs.getD 2 undef, cs.getD 3 undef, cs.getD 4 undef, cs.getD 5 undef, cs.getD 6 undef, cs.getD 7 undef, cs.getD 8 undef, p, A, c, e, .slice none 0 0⟩
theorem list9 {l : List Value} (h : l.length = 9) : ∃ a b c d e f g h' i, l = [a, b, c, d, e, f, g, h', i] := by
  match l, h with
  | [a, b, c, d, e, f, g, h', i], _ => exact ⟨a, b, c, d, e, f, g, h', i, rfl⟩
theorem mkEdr_db {cs : Array Value} (h : cs.size = 9) (p : Plan) (A : Option Addr) (c : Nat) (e : EditV) : cs = (mkEdr cs p A c e).db := by
  obtain ⟨l⟩ := cs
  obtain ⟨x0, x1, x2, x3, x4, x5, x6, x7, x8, rfl⟩ := list9 (l := l) h
  rfl
theorem run_bedr (w : World) (cs : Array Value) (h : cs.size = 9) (p : Plan) (A : Option Addr) (c : Nat) (e : EditV) : (bedr #[(0, .agg cs), (1, .agg (p.arr A c)), (2, .agg e.arr)]).run Tryz.prog w = .ok (.agg (mkEdr cs p A c e).arr) w := by
  obtain ⟨l⟩ := cs
  obtain ⟨x0, x1, x2, x3, x4, x5, x6, x7, x8, rfl⟩ := list9 (l := l) h
  exact run_build w _ _ _ (by kernel_rfl)
theorem run_storeD_plan (W : World) (g o : Nat) (v : Array Value) (hv : SzIs v 4) (h1 : Ones v) (hp : Plain W g) (hn : Fits o 4 (blkOf W g)) :
    (store_plan (.pointer (some ⟨g, o, none⟩)) (.agg v)).run Tryz.prog W = .ok () (W.setRow g (splice (blkOf W g) o v)) := run_store_blk W g o 4 _ v info_plan hv h1 hp hn
theorem splice_planA (p q : Plan) (A B : Option Addr) (c d : Nat) : splice (p.arr A c) 0 (q.arr B d) = q.arr B d := rfl
theorem Fits_planA (p : Plan) (A : Option Addr) (c o n : Nat) : Fits o n (p.arr A c) = (o + n ≤ 4) := propext ⟨fun h => h, fun h => h⟩
theorem Has_plan_drewA (W : World) (b o : Nat) : Has_plan W.drew b o = Has_plan W b o := propext ⟨fun h => h, fun h => h⟩
theorem of_plan_drewA (W : World) (b o : Nat) : of_plan W.drew b o = of_plan W b o := rfl
attribute [local go_sem ↓] bplanA_fold bedr_fold
attribute [local go_sem] run_bplanA0 run_bplanA4 run_bedr run_storeD_plan splice_planA Fits_planA
theorem Ed.box {w W : World} (cs : Array Value) (p : Plan) (A : Option Addr) (c : Nat) (e : EditV) (hb : Below w.heap.size w W) : Ed w (W.alloc (.cells (mkEdr cs p A c e).arr 67)) W.heap.size (mkEdr cs p A c e) [] :=
  ⟨Blk.new _ _ _, ⟨rfl, .inl ⟨rfl, rfl⟩⟩, (by intro h; cases h), hb.alloc hb.size _, hb.size⟩
theorem Plan.smallOf {p : Plan} {n : Nat} (hn : n ≤ 4000000000) (h1 : p.from_.length ≤ 4000000000) (h2 : p.to_.length ≤ 4000000000) (h : SmL n p.es) : p.small := ⟨h1, h2, Nat.le_trans h.1 hn, h.2⟩
set_option maxHeartbeats 16000000 in
theorem eapply_any (d : DBs) (l : List FixV) (L : Look) (p : Plan) (A : Option Addr) (c : Nat) (e : EditV) (w : World) (hL : Laid w) (hF : FormsAt w) (hG : GapAt w) (hD : DbAt w d l) (hpt : L.pt = pointV d.lat d.lon l) (hLo : L.ok)
    (hp : p.small) (hc : p.es.length ≤ c) (hE : Ents w A p.es) (hpf : p.from_.length ≤ 1000000000) (hpt2 : p.to_.length ≤ 1000000000) (he : e.ref.length ≤ 1000000000 ∧ e.name.length ≤ 1000000000 ∧ e.rway.length ≤ 1000000000 ∧ e.trans.length ≤ 1000000000)
    (hH : ∀ wb g, Below w.heap.size w wb → planCheck p = 0 → editCheck e = 0 → EdHard wb g (mkEdr d.cells p A c e) L) :
    Calls Tryz.prog 9 #[.agg d.cells, .agg (p.arr A c), .agg e.arr] w (RetAp w (applyS L p e)) := by
  have h9 := hD.ok.size
  have hes : e.small := ⟨by have := he.1; omega, by have := he.2.1; omega, by have := he.2.2.1; omega, by have := he.2.2.2; omega⟩
  obtain ⟨R, hR⟩ : ∃ R, R = applyS L p e := ⟨_, rfl⟩
  rw [← hR]
  unfold applyS at hR
  have HA := Lib.hid hR
  clear hR
  have KC := Lib.hid (fun W' (b : Below w.heap.size w W') => planCheck_any p A c W' (hL.below b) hp hc (hE.below (B := 0) b))
  have KE := Lib.hid (fun W' (b : Below w.heap.size w W') => editCheck_any e hes W' (hL.below b) (hF.below b))
  have KR := Lib.hid (fun (h1 : planCheck p = 0) (h2 : editCheck e = 0) (wb W : World) (g : Nat) (b : Below w.heap.size w wb) (hx : Ed wb W g (mkEdr d.cells p A c e) []) =>
    show Calls Tryz.prog 19 #[.pointer (some ⟨g, 0, none⟩)] W (RetRun wb g (mkEdr d.cells p A c e) (runS L p e)) from
      erun_any (mkEdr d.cells p A c e) g wb W L hx ⟨hL.below b, hF.below b, hG.below b, hE.below (B := 0) b, hc, (planChk_ok h1).2.1, (planChk_ok h1).2.2.1, (planChk_ok h1).2.2.2, (edit_at h2).1, by show e.ref.length ≤ _; have := he.1; omega, ⟨d, l, mkEdr_db h9 p A c e, hD.below b, hpt⟩, hH wb g b h1 h2⟩
        (by have := (edit_ok h2).1; show ¬ (e.op < 1 ∨ 12 < e.op); omega))
  have HSM := Lib.hid (fun (h1 : planCheck p = 0) => runS_sm (L := L) (p := p) (e := e) ⟨(planChk_ok h1).2.1, hp.each, he.1, he.2.1, he.2.2.1, he.2.2.2, hpf, hpt2⟩ hLo)
  have HLB := Lib.hid (fun W' (b : Below w.heap.size w W') => hL.below b)
  generalize d.cells = cs at *
  clear hD hG hF hpt hLo hH hE hL
  go_enter Tryz.func9, Tryz.ntmps9
  go_upto_region 1 with (fail)
  generalize hW : (((w.alloc _).alloc _).alloc _).alloc _ = W
  have D0 : Blk W w.heap.size cs := by rw [← hW]; exact (((Blk.new w cs _).alloc _).alloc _).alloc _
  have P0 : Blk W (w.heap.size + 1) (p.arr A c) := by rw [← hW, ← World.size_alloc w (.cells cs 30)]; exact ((Blk.new _ _ _).alloc _).alloc _
  have E0 : Blk W (w.heap.size + 1 + 1) e.arr := by rw [← hW, ← World.size_alloc w (.cells cs 30), ← World.size_alloc (w.alloc (.cells cs 30)) (.cells (p.arr A c) 33)]; exact (Blk.new _ _ _).alloc _
  have R0 : Blk W (w.heap.size + 1 + 1 + 1) (plan0.arr none 0) := by rw [← hW, ← World.size_alloc w (.cells cs 30), ← World.size_alloc (w.alloc (.cells cs 30)) (.cells (p.arr A c) 33), ← World.size_alloc ((w.alloc (.cells cs 30)).alloc (.cells (p.arr A c) 33)) (.cells e.arr 38)]; exact Blk.new _ _ _
  have B0 : Below w.heap.size w W := by rw [← hW]; go_grown
  clear hW
  obtain ⟨gr, hgr⟩ : ∃ g, g = w.heap.size + 1 + 1 + 1 := ⟨_, rfl⟩
  rw [← hgr] at R0 ⊢
  have hge : w.heap.size ≤ gr := by omega
  clear hgr
  generalize w.heap.size + 1 + 1 = ge at E0 ⊢
  generalize w.heap.size + 1 = gp at P0 ⊢
  obtain ⟨gd, hgd⟩ : ∃ g, g = w.heap.size := ⟨_, rfl⟩
  rw [← hgd] at D0 ⊢
  clear hgd
  have i1 : Has_plan W gp 0 := ⟨_, P0.is_plan rfl⟩
  have i2 : of_plan W gp 0 = p.arr A c := of_plan_eq (P0.is_plan rfl)
  have k0 := KC.out W B0
  have k0 := Lib.hid (show Calls Tryz.prog 13 #[.agg (p.arr A c)] W (Ret W (.int .i64 (planCheck p))) from k0)
  clear KC
  by_cases h1 : planCheck p = 0
  case neg =>
    have HS := Lib.hid (show R = (plan0, planCheck p) from HA.out.trans (if_pos h1))
    generalize planCheck p = z at k0 HS h1
    have h1' : (z != 0) = true := by simpa using h1
    have HR := Lib.hid R0
    clear HA KE KR HSM D0 P0 E0 R0 h1
    go_wp2_with (go_at_call 13; (with_reducible refine callR k0.out ?_); intro w1 b1 _ _ _; have R1 := HR.out.step b1; have d2 := R1.plain; have d3 := R1.of)
    exact bodyPost_ret (results_agg Tryz.results9 _ _ gr (plan0.arr none 0) 4 _ rfl rfl (R1.set _).cell Tryz.underlying33 rfl info_plan) rfl ⟨none, 0, by rw [HS.out]; rfl, by rw [HS.out]; exact Nat.le_refl _, by rw [HS.out]; exact Ents.nil _ _, (fun a h => by cases h), below_setRow' (below_step B0 b1) hge _⟩
  case pos =>
    have HA := Lib.hid (show R = _ from HA.out.trans (if_neg (not_not_intro h1)))
    have KR := Lib.hid (KR.out h1)
    have HSM := Lib.hid (HSM.out h1)
    rw [h1] at k0
    clear h1
    go_upto_region 4 with (go_at_call 13; (with_reducible refine callR k0.out ?_); intro w1 b1 _ _ _)
    have D1 := D0.step b1
    have P1 := P0.step b1
    have E1 := E0.step b1
    have R1 := R0.step b1
    have B1 := below_step B0 b1
    clear D0 P0 E0 R0 B0 b1 i1 i2 k0
    have i1 : Has_edt w1 ge 0 := ⟨_, E1.is_edt⟩
    have i2 : of_edt w1 ge 0 = e := of_edt_eq E1.is_edt
    have k0 := Lib.hid (KE.out w1 B1)
    clear KE
    by_cases h1 : editCheck e = 0
    case neg =>
      have HS := Lib.hid (show R = (plan0, editCheck e) from HA.out.trans (if_pos h1))
      generalize editCheck e = z at k0 HS h1
      have h1' : (z != 0) = true := by simpa using h1
      have HR := Lib.hid R1
      clear HA KR HSM D1 P1 E1 R1 h1
      go_wp2_with (go_at_call 14; (with_reducible refine callR k0.out ?_); intro w2 b2 _ _ _; have R2 := HR.out.step b2; have d2 := R2.plain; have d3 := R2.of)
      exact bodyPost_ret (results_agg Tryz.results9 _ _ gr (plan0.arr none 0) 4 _ rfl rfl (R2.set _).cell Tryz.underlying33 rfl info_plan) rfl ⟨none, 0, by rw [HS.out]; rfl, by rw [HS.out]; exact Nat.le_refl _, by rw [HS.out]; exact Ents.nil _ _, (fun a h => by cases h), below_setRow' (below_step B1 b2) hge _⟩
    case pos =>
      have HA := Lib.hid (show R = _ from HA.out.trans (if_neg (not_not_intro h1)))
      have KR := Lib.hid (KR.out h1)
      rw [h1] at k0
      clear h1
      go_upto_region 7 with (go_at_call 14; (with_reducible refine callR k0.out ?_); intro w2 b2 _ _ _)
      have D2 := D1.step b2
      have P2 := P1.step b2
      have E2 := E1.step b2
      have R2 := R1.step b2
      have B2 := below_step B1 b2
      clear D1 P1 E1 R1 B1 b2 i1 i2 k0
      have i1 : Has_edt w2 ge 0 := ⟨_, E2.is_edt⟩
      have i2 : of_edt w2 ge 0 = e := of_edt_eq E2.is_edt
      have i3 : Has_plan w2 gp 0 := ⟨_, P2.is_plan rfl⟩
      have i4 : of_plan w2 gp 0 = p.arr A c := of_plan_eq (P2.is_plan rfl)
      have i5 : Has_db w2 gd 0 := ⟨_, D2.is_db h9⟩
      have i6 : of_db w2 gd 0 = cs := of_db_eq (D2.is_db h9)
      go_upto_region 8 with (fail)
      have X := Ed.box (w := w2) cs p A c e (Below.refl _ _)
      have hgw : gr < w2.heap.size := R2.lt
      have k0 := Lib.hid (KR.out w2 _ _ B2 X)
      clear KR D2 P2 E2 i1 i2 i3 i4 i5 i6 X
      generalize w2.alloc _ = W3 at k0 ⊢
      generalize hg : w2.heap.size = g at k0 ⊢
      generalize runS L p e = r at k0 HA HSM
      go_upto_region 9 with (go_at_call 19; (with_reducible refine callRun k0.out ?_); intro W4 b4 k4)
      have R4 := R2.step b4
      have B4 := below_step B2 b4
      clear k0 R2
      by_cases h1 : r.err = 0
      case neg =>
        have HS := Lib.hid (show R = (plan0, r.err) from HA.out.trans (if_pos h1))
        generalize r.err = z at k4 HS h1 ⊢
        have h1' : (z != 0) = true := by simpa using h1
        have d2 := R4.plain
        have d3 := R4.of
        clear HA HSM h1 k4 b4
        go_wp2
        exact bodyPost_ret (results_agg Tryz.results9 _ _ gr (plan0.arr none 0) 4 _ rfl rfl (R4.set _).cell Tryz.underlying33 rfl info_plan) rfl ⟨none, 0, by rw [HS.out]; rfl, by rw [HS.out]; exact Nat.le_refl _, by rw [HS.out]; exact Ents.nil _ _, (fun a h => by cases h), below_setRow' B4 hge _⟩
      case pos =>
        have HA := Lib.hid (show R = _ from HA.out.trans (if_neg (not_not_intro h1)))
        obtain ⟨v4, X4⟩ := k4 h1
        rw [h1]
        clear h1 k4
        go_upto_region 11 with (fail)
        obtain ⟨A2, c2, hv, hc2, hE2, _⟩ := X4.out.form
        have hv : v4 = .slice A2 r.list.length c2 := hv
        subst hv
        have hjs := joinE_small HSM.out.1
        obtain ⟨J, hJ⟩ : ∃ J, joinE r.list = J := ⟨_, rfl⟩
        rw [hJ] at HA hjs
        have KJ := Lib.hid (fun W' (b : Below W4.heap.size W4 W') => join_any r.list A2 c2 W' (by have := HSM.out.1.1; omega) hc2 (hE2.below (B := 0) b))
        rw [hJ] at KJ
        clear hJ
        go_cut [12] (fun v wx => ∃ A' c' gq, v = .pointer (some ⟨gq, 0, none⟩) ∧ Blk wx gq ((⟨r.from_, r.to_, J, r.active⟩ : Plan).arr A' c') ∧ J.length ≤ c' ∧ Ents wx A' J ∧ (∀ a, A' = some a → W4.heap.size ≤ a.block) ∧ Below W4.heap.size W4 wx)
        case first =>
          have c9 : W4.cell? ⟨g, 9, none⟩ = some (.string ⟨r.from_.toArray⟩) := X4.c9
          have c10 : W4.cell? ⟨g, 10, none⟩ = some (.string ⟨r.to_.toArray⟩) := X4.c10
          have c12 : W4.cell? ⟨g, 12, none⟩ = some (.int .i64 r.active) := X4.c12
          have c25 : W4.cell? ⟨g, 25, none⟩ = some (.slice A2 r.list.length c2) := X4.blk.cell 25
          have HX := Lib.hid X4
          have hgW : g ≠ W4.heap.size := by have := X4.lt; omega
          clear X4 R4 HA hE2
          go_region_held3 (fun w' => w'.cell? ⟨g, 9, none⟩ = some (.string ⟨r.from_.toArray⟩) ∧ w'.cell? ⟨g, 10, none⟩ = some (.string ⟨r.to_.toArray⟩) ∧ w'.cell? ⟨g, 12, none⟩ = some (.int .i64 r.active) ∧ w'.cell? ⟨g, 25, none⟩ = some (.slice A2 r.list.length c2)) (first | exact ⟨HX.out.c9, HX.out.c10, HX.out.c12, HX.out.blk.cell 25⟩ | exact ⟨(HX.out.alloc _).c9, (HX.out.alloc _).c10, (HX.out.alloc _).c12, (HX.out.alloc _).blk.cell 25⟩ | exact ⟨HX7.out.c9, HX7.out.c10, HX7.out.c12, HX7.out.blk.cell 25⟩ | exact ⟨(HX7.out.alloc _).c9, (HX7.out.alloc _).c10, (HX7.out.alloc _).c12, (HX7.out.alloc _).blk.cell 25⟩ | exact ⟨(HX7.out.blk.far hgW _).cell 9, (HX7.out.blk.far hgW _).cell 10, (HX7.out.blk.far hgW _).cell 12, (HX7.out.blk.far hgW _).cell 25⟩) (first
            | (go_at_call 20; (with_reducible refine callOutA (KJ.out _ (Below.refl _ _).drew) ?_); intro A7 c7 w7 h7 E7 a7 b7
               have HX7 := Lib.hid (HX.out.drw.step b7))
            | (go_at_call 20; (with_reducible refine callOutA (KJ.out _ (alloc_below5 _ _).drew) ?_); intro A7 c7 w7 h7 E7 a7 b7
               have Y7 : Blk w7 W4.heap.size (plan0.arr none 0) := ((Blk.new W4 (plan0.arr none 0) 33).step (Below.refl _ _).drew).step b7
               have q2 := Y7.plain
               have q3 := Y7.of
               have HX7 := Lib.hid ((HX.out.alloc (.cells (plan0.arr none 0) 33)).drw.step b7)
               have HA7 := Lib.hid a7
               have HB7 := Lib.hid b7
               have HE7 := Lib.hid E7
               have HY7 := Lib.hid Y7
               clear a7 E7 b7 Y7))
          all_goals
            go_wp2
            go_meet
            first
              | exact ⟨A7, c7, _, rfl, Blk.new _ _ _, h7, E7.below (B := 0) (alloc_below5 _ _), a7, below_step (Below.refl _ _).drew (below_step b7 (alloc_below5 _ _))⟩
              | exact ⟨A7, c7, _, rfl, HY7.out.set _, h7, HE7.out.farA (fun a ha => by have := HA7.out a ha; simp at this; omega) _, (fun a ha => by have := HA7.out a ha; simp at this; omega), below_setRow' (below_step (alloc_below5 _ _).drew HB7.out) (Nat.le_refl _) _⟩
        case rest =>
          obtain ⟨A', c', gq, rfl, Q, hJc, hEJ, hAJ, BC⟩ := hcut
          have hgr4 := R4.lt
          have hsz4 : w.heap.size ≤ W4.heap.size := B4.size
          have R5 := R4.step BC
          have B5 := below_step B4 BC
          clear R4 BC X4 KJ hE2 B4 b4
          obtain ⟨q, hq⟩ : ∃ q : Plan, q = ⟨r.from_, r.to_, J, r.active⟩ := ⟨_, rfl⟩
          have hqs : q.small := by rw [hq]; exact Plan.smallOf (n := 2 * 300300) (by omega) HSM.out.2.1 HSM.out.2.2 hjs
          have hqe : q.es = J := by rw [hq]
          rw [← hq] at HA Q
          rw [← hqe] at hJc hEJ
          have i1 : Has_plan wc gq 0 := ⟨_, Q.is_plan rfl⟩
          have i2 : of_plan wc gq 0 = q.arr A' c' := of_plan_eq (Q.is_plan rfl)
          have k0 := Lib.hid (show Calls Tryz.prog 13 #[.agg (q.arr A' c')] wc (Ret wc (.int .i64 (planCheck q))) from planCheck_any q A' c' wc (HLB.out wc B5) hqs hJc hEJ)
          clear hq hqs hqe HSM hjs
          by_cases h1 : planCheck q = 0
          case neg =>
            have HS := Lib.hid (show R = (plan0, planCheck q) from HA.out.trans (if_pos h1))
            generalize planCheck q = z at k0 HS h1
            have h1' : (z != 0) = true := by simpa using h1
            have HR := Lib.hid R5
            clear HA R5 h1 Q hJc hEJ hAJ
            go_wp2_with (go_at_call 13; (with_reducible refine callR k0.out ?_); intro w6 b6 _ _ _; have R6 := HR.out.step b6; have d2 := R6.plain; have d3 := R6.of)
            exact bodyPost_ret (results_agg Tryz.results9 _ _ gr (plan0.arr none 0) 4 _ rfl rfl (R6.set _).cell Tryz.underlying33 rfl info_plan) rfl ⟨none, 0, by rw [HS.out]; rfl, by rw [HS.out]; exact Nat.le_refl _, by rw [HS.out]; exact Ents.nil _ _, (fun a h => by cases h), below_setRow' (below_step B5 b6) hge _⟩
          case pos =>
            have HS := Lib.hid (show R = (q, 0) from HA.out.trans (if_neg (not_not_intro h1)))
            rw [h1] at k0
            have HR := Lib.hid R5
            have HQ := Lib.hid Q
            have HEJ := Lib.hid hEJ
            have HAJ := Lib.hid hAJ
            have HC := Lib.hid hJc
            clear HA R5 h1 Q hJc hEJ hAJ
            go_wp2_with (go_at_call 13; (with_reducible refine callR k0.out ?_); intro w6 b6 _ _ _; have R6 := HR.out.step b6; have d2 := R6.plain; have d3 := R6.of; have j1 : Has_plan w6 gq 0 := ⟨_, (HQ.out.step b6).is_plan rfl⟩; have j2 : of_plan w6 gq 0 = q.arr A' c' := of_plan_eq ((HQ.out.step b6).is_plan rfl))
            exact bodyPost_ret (results_agg Tryz.results9 _ _ gr (q.arr A' c') 4 _ rfl rfl (R6.set _).cell Tryz.underlying33 rfl info_plan) rfl ⟨A', c', by rw [HS.out]; rfl, by rw [HS.out]; exact HC.out, by rw [HS.out]; exact (HEJ.out.below (B := 0) b6).farA (fun a ha => by have := HAJ.out a ha; omega) _, (fun a ha => by have := HAJ.out a ha; have := hsz4; omega), below_setRow' (below_step B5 b6) hge _⟩
end Go.Proofs.YtcgmemkkcaipfaaGreatDoor
namespace Go.Proofs.YtcgmemkkcaipfaaGreatDoor
open Go.RowKit Go.Sort
set_option linter.unusedVariables false
set_option linter.unusedSimpArgs false
set_option maxRecDepth 100000
def cells0 : Array Value := #[.string ⟨#[]⟩, .int .i64 0, .int .i64 0, .int .i64 0, .int .i64 0, .int .i64 0, .slice none 0 0, .slice none 0 0, .slice none 0 0]
def db0 : DBs := ⟨cells0, 0, 0, none, 0, 0⟩
theorem db0_at (w : World) : DbAt w db0 [] := ⟨⟨rfl, rfl, rfl, rfl⟩, rfl, Nat.le_refl _, Items.nil _ _ _, by decide, fun f h => by cases h⟩
def look0 : Look := ⟨pointV 0 0 [], fun s => ([], if pairB s 47 6 then 6 else 4), fun _ _ _ => ([], 6), fun _ _ _ _ => (([], []), 6)⟩
theorem look0_ok : look0.ok := ⟨fun s => by simp [look0], fun n a b => ⟨by simp [look0], fun q h => by cases h⟩, fun a k n t => ⟨⟨by simp [look0], fun l h => by cases h⟩, by simp [look0], fun l h => by cases h⟩⟩
/-- Apply on the empty database, of an edit that does not ask it. -/
theorem eapply0_any (p : Plan) (A : Option Addr) (c : Nat) (e : EditV) (w : World) (hL : Laid w) (hF : FormsAt w) (hG : GapAt w)
    (hp : p.small) (hc : p.es.length ≤ c) (hE : Ents w A p.es) (hpf : p.from_.length ≤ 1000000000) (hpt2 : p.to_.length ≤ 1000000000) (he : e.ref.length ≤ 1000000000 ∧ e.name.length ≤ 1000000000 ∧ e.rway.length ≤ 1000000000 ∧ e.trans.length ≤ 1000000000)
    (ho : e.op < 8) : Calls Tryz.prog 9 #[.agg cells0, .agg (p.arr A c), .agg e.arr] w (RetAp w (applyS look0 p e)) :=
  eapply_any db0 [] look0 p A c e w hL hF hG (db0_at w) rfl look0_ok hp hc hE hpf hpt2 he fun wb g _ _ _ =>
    ⟨fun _ _ h => absurd (show e.op = 8 from h) (by omega), fun _ _ h => absurd (show e.op = 9 from h) (by omega), fun _ _ h => absurd (show e.op = 10 from h) (by omega), fun _ _ h => absurd (show e.op = 11 from h) (by omega), fun _ _ h => absurd (show e.op = 12 from h) (by omega)⟩
end Go.Proofs.YtcgmemkkcaipfaaGreatDoor
