/- Lemmas and walks. -/
import Derived.Test.YtnmpfmelaninbaaGreatDoorQk34
import Derived.Test.YtnmpfmelaninbaaGreatDoorQk20
import Derived.Test.YtnmpfmelaninbaaGreatDoorQk37
import Derived.Test.YtnmpfmelaninbaaGreatDoorQk50
import Derived.Test.YtnmpfmelaninbaaGreatDoorQk51
import Derived.Test.YtnmpfmelaninbaaGreatDoorQk16
import Derived.Test.YtnmpfmelaninbaaGreatDoorQk18
import Derived.Test.YtnmpfmelaninbaaGreatDoorQk44
set_option linter.unusedSimpArgs false
set_option linter.unusedVariables false
namespace Go.Proofs.YtnmpfmelaninbaaGreatDoor
open Go.RowKit
theorem applyS_valid {L : Look} {p : Plan} {e : EditV} (h : (applyS L p e).2 = 0) : planCheck (applyS L p e).1 = 0 := by
  unfold applyS at h ⊢
  split at h
  · rename_i h1; exact absurd h h1
  rename_i h1
  rw [if_neg h1]
  split at h
  · rename_i h1; exact absurd h h1
  rename_i h1
  rw [if_neg h1]
  split at h
  · rename_i h1; exact absurd h h1
  rename_i h1
  rw [if_neg h1]
  split at h
  · rename_i h1; exact absurd h h1
  rename_i h1
  rw [if_neg h1]
  simpa using h1
theorem applyS_none {L : Look} {p : Plan} {e : EditV} (h : (applyS L p e).2 ≠ 0) : (applyS L p e).1 = plan0 := by
  unfold applyS at h ⊢
  split
  · rfl
  rename_i h1
  rw [if_neg h1] at h
  split
  · rfl
  rename_i h1
  rw [if_neg h1] at h
  split
  · rfl
  rename_i h1
  rw [if_neg h1] at h
  split
  · rfl
  rename_i h1
  rw [if_neg h1] at h
  exact absurd rfl h
end Go.Proofs.YtnmpfmelaninbaaGreatDoor
namespace Go.Proofs.YtnmpfmelaninbaaGreatDoor
open Go.RowKit Go.Sort
set_option maxRecDepth 100000
theorem blk3 (w : World) (a b c : Array Value) (s t u : TypeId) :
    Blk (((w.alloc (.cells a s)).alloc (.cells b t)).alloc (.cells c u)) w.heap.size a ∧ Blk (((w.alloc (.cells a s)).alloc (.cells b t)).alloc (.cells c u)) (w.heap.size + 1) b ∧ Blk (((w.alloc (.cells a s)).alloc (.cells b t)).alloc (.cells c u)) (w.heap.size + 1 + 1) c ∧ Below w.heap.size w (((w.alloc (.cells a s)).alloc (.cells b t)).alloc (.cells c u)) := by
  refine ⟨((Blk.new w a s).alloc _).alloc _, ?_, ?_, ?_⟩
  · have := (Blk.new (w.alloc (.cells a s)) b t).alloc (.cells c u)
    rwa [World.size_alloc] at this
  · have := Blk.new ((w.alloc (.cells a s)).alloc (.cells b t)) c u
    rwa [World.size_alloc, World.size_alloc] at this
  · exact below_step (below_step (alloc_below5 _ _) (alloc_below5 _ _)) (alloc_below5 _ _)
theorem applyS_small {L : Look} {p : Plan} {e : EditV} (hs : ShortE p e) (hL : L.ok) (h : (applyS L p e).2 = 0) : (applyS L p e).1.small := by
  rw [(applyS_ok h).2.2.2]
  have hsm := runS_sm (L := L) hs hL
  exact Plan.smallOf (n := 2 * 300300) (by omega) hsm.2.1 hsm.2.2 (joinE_small hsm.1)
attribute [local go_sem ↓] bplanA_fold
attribute [local go_sem] run_bplanA0
set_option maxHeartbeats 16000000 in
theorem lawEdValid_any (d : DBs) (G : GDB) (p : Plan) (A : Option Addr) (c : Nat) (e : EditV) (w : World) (hO : Open23 w) (hD : GdAt w d G) (hS : G.short) (hp : p.small) (hc : p.es.length ≤ c) (hE : Ents w A p.es) (hpf : p.from_.length ≤ 1000000000) (hpt : p.to_.length ≤ 1000000000)
    (he : e.ref.length ≤ 1000000000 ∧ e.name.length ≤ 1000000000 ∧ e.rway.length ≤ 1000000000 ∧ e.trans.length ≤ 1000000000) :
    Calls Tryz.prog 10 #[.agg d.cells, .agg (p.arr A c), .agg e.arr] w (Ret w (.bool true)) := by
  have hsz := hD.db.ok.size
  go_enter Tryz.func10, Tryz.ntmps10
  go_upto_region 1 with (fail)
  obtain ⟨D0, P0, E0, B0⟩ := blk3 w d.cells (p.arr A c) e.arr 43 46 26
  generalize ((w.alloc _).alloc _).alloc _ = W at D0 P0 E0 B0 ⊢
  generalize w.heap.size + 1 + 1 = ge at E0 ⊢
  generalize w.heap.size + 1 = gp at P0 ⊢
  obtain ⟨gd, hgd⟩ : ∃ g, g = w.heap.size := ⟨_, rfl⟩
  rw [← hgd] at D0 ⊢
  clear hgd
  go_upto_region 3 with (go_at_call 12; (with_reducible refine callR (awake23_any W (hO.below B0)) ?_); intro w1 b1 _ _ _)
  have D1 := D0.step b1
  have P1 := P0.step b1
  have E1 := E0.step b1
  have B1 := below_step B0 b1
  clear D0 P0 E0 B0 b1
  have k1 : Has_db w1 gd 0 := ⟨_, D1.is_db hsz⟩
  have k2 : of_db w1 gd 0 = d.cells := of_db_eq (D1.is_db hsz)
  have kf := Lib.hid (few23_any d G w1 (hD.below B1))
  go_upto_if 13 with (go_at_call 19; (with_reducible refine callBoo kf.out ?_); intro bf w2 b2)
  have D2 := D1.step b2
  have P2 := P1.step b2
  have E2 := E1.step b2
  have B2 := below_step B1 b2
  clear D1 P1 E1 B1 b2 k1 k2 kf
  cases bf with
  | false =>
    go_wp2
    go_ret
    exact Ret.bool rfl B2
  | true =>
  have k1 : Has_db w2 gd 0 := ⟨_, D2.is_db hsz⟩
  have k2 : of_db w2 gd 0 = d.cells := of_db_eq (D2.is_db hsz)
  have i1 : Has_plan w2 gp 0 := ⟨_, P2.is_plan rfl⟩
  have i2 : of_plan w2 gp 0 = p.arr A c := of_plan_eq (P2.is_plan rfl)
  have j1 : Has_edt w2 ge 0 := ⟨_, E2.is_edt⟩
  have j2 : of_edt w2 ge 0 = e := of_edt_eq E2.is_edt
  have KA := Lib.hid (eapplyG_any d G p A c e w2 (hO.below B2).laid (hO.below B2).forms (hO.below B2).gap (hD.below B2) hS hp hc (hE.below (B := 0) B2) hpf hpt he)
  have HV := Lib.hid (fun h => @applyS_valid (lookG G) p e h)
  have HZ := Lib.hid (fun h => @applyS_none (lookG G) p e h)
  have HK := Lib.hid (fun h => @applyS_ok (lookG G) p e h)
  have HSM := Lib.hid (fun h => @applyS_small (lookG G) p e ⟨(planChk_ok (applyS_ok h).1).2.1, hp.each, he.1, he.2.1, he.2.2.1, he.2.2.2, hpf, hpt⟩ (lookG_ok hS) h)
  generalize applyS (lookG G) p e = R at KA HV HZ HK HSM
  obtain ⟨q, er⟩ := R
  generalize d.cells = cs at *
  go_upto_region 6 with (go_at_call 20; (with_reducible refine callAp KA.out ?_); intro Aq cq w3 hcq hEq _ b3)
  have bA := alloc_below5 w3 (.cells (q.arr Aq cq) 46)
  have Q0 := Blk.new w3 (q.arr Aq cq) 46
  have P3 := P2.step (below_step b3 bA)
  have E3 := E2.step (below_step b3 bA)
  have B3 := below_step B2 (below_step b3 bA)
  have F0 := hEq.below (B := 0) bA
  clear k1 k2 i1 i2 j1 j2 KA D2 P2 E2 B2 b3 bA hEq
  generalize w3.alloc _ = W3 at Q0 P3 E3 B3 F0 ⊢
  generalize w3.heap.size = gq at Q0 ⊢
  clear w3
  have i1 : Has_plan W3 gq 0 := ⟨_, Q0.is_plan rfl⟩
  have i2 : of_plan W3 gq 0 = q.arr Aq cq := of_plan_eq (Q0.is_plan rfl)
  by_cases hz : er = 0
  case neg =>
    have hz' : (er != 0) = true := by simpa using hz
    have hq : q = plan0 := HZ.out hz
    subst hq
    have K := Lib.hid (same_any plan0 plan0 Aq none cq 0 W3 (by simp [plan0]) (by simp [plan0]) (by simp [plan0]) (by simp [plan0]) (Ents.nil _ _) (Ents.nil _ _))
    clear hz HV HZ HK HSM
    go_wp2_with (go_at_call 23; (with_reducible refine callR K.out ?_); intro w4 b4 _ _ _)
    go_ret
    exact Ret.bool rfl (below_step B3 b4)
  subst hz
  have hv : planCheck q = 0 := HV.out rfl
  have hk := HK.out rfl
  have kq := Lib.hid (show Calls Tryz.prog 25 #[.agg (q.arr Aq cq)] W3 (Ret W3 (.int .i64 0)) from hv ▸ planCheck_any q Aq cq W3 (hO.below B3).laid (HSM.out rfl) hcq F0)
  have kp := Lib.hid (fun W' (D : Below W3.heap.size W3 W') => show Calls Tryz.prog 25 #[.agg (p.arr A c)] W' (Ret W' (.int .i64 0)) from hk.1 ▸ planCheck_any p A c W' (hO.below (below_step B3 D)).laid hp hc (hE.below (B := 0) (below_step B3 D)))
  have hes : e.small := ⟨by have := he.1; omega, by have := he.2.1; omega, by have := he.2.2.1; omega, by have := he.2.2.2; omega⟩
  have ke := Lib.hid (fun W' (D : Below W3.heap.size W3 W') => show Calls Tryz.prog 13 #[.agg e.arr] W' (Ret W' (.int .i64 0)) from hk.2.1 ▸ editCheck_any e hes W' (hO.below (below_step B3 D)).laid (hO.below (below_step B3 D)).forms)
  clear HV HZ HK HSM hk hv Q0 F0
  go_wp2_with (first
    | (go_at_call 25; (with_reducible refine callR kq.out ?_); intro w4 b4 _ _ _; have i3 : Has_plan w4 gp 0 := ⟨_, (P3.step b4).is_plan rfl⟩; have i4 : of_plan w4 gp 0 = p.arr A c := of_plan_eq ((P3.step b4).is_plan rfl))
    | (go_at_call 25; (with_reducible refine callR (kp.out _ b4) ?_); intro w5 b5 _ _ _; have b6 := below_step b4 b5; have j3 : Has_edt w5 ge 0 := ⟨_, (E3.step b6).is_edt⟩; have j4 : of_edt w5 ge 0 = e := of_edt_eq (E3.step b6).is_edt)
    | (go_at_call 13; (with_reducible refine callR (ke.out _ b6) ?_); intro w7 b7 _ _ _))
  go_ret
  exact Ret.bool rfl (below_step B3 (below_step b6 b7))
end Go.Proofs.YtnmpfmelaninbaaGreatDoor
namespace Go.Proofs.YtnmpfmelaninbaaGreatDoor
open Go.RowKit Go.ChangeShapes Go.WideShapes Go.Deep
theorem cells_edt_1 : Tryz.prog.cellsOf 22 = 1 := by kernel_rfl
theorem cells_edt_2 : Tryz.prog.cellsOf 24 = 2 := by kernel_rfl
theorem cells_edt : Tryz.prog.cellsOf 26 = 12 := by kernel_rfl
def EditV.bnd (x : EditV) (N : Nat) : Prop := x.ref.length ≤ N ∧ x.name.length ≤ N ∧ x.rway.length ≤ N ∧ x.trans.length ≤ N
section
variable {H : Type} {enc : TypeId × Value → H} {w : World} {base : Nat} {spare : Nat → Bool} {held : Bool}
theorem list_n_edt {α : Type _} {l : List α} (h : l.length = 12) : ∃ x0 x1 x2 x3 x4 x5 x6 x7 x8 x9 x10 x11, l = [x0, x1, x2, x3, x4, x5, x6, x7, x8, x9, x10, x11] := by
  match l, h with
  | [x0, x1, x2, x3, x4, x5, x6, x7, x8, x9, x10, x11], _ => exact ⟨x0, x1, x2, x3, x4, x5, x6, x7, x8, x9, x10, x11, rfl⟩
theorem list_f_edt {α : Type _} {l : List α} (h : l.length = 11) : ∃ x0 x1 x2 x3 x4 x5 x6 x7 x8 x9 x10, l = [x0, x1, x2, x3, x4, x5, x6, x7, x8, x9, x10] := by
  match l, h with
  | [x0, x1, x2, x3, x4, x5, x6, x7, x8, x9, x10], _ => exact ⟨x0, x1, x2, x3, x4, x5, x6, x7, x8, x9, x10, rfl⟩
theorem open_edt {fuel : Nat} {cs : List Value} {y : DataW H × List MemPlace} (h : DataW.trod enc Tryz.prog w base spare held fuel 26 cs = some y) : ∃ x : EditV, cs = x.arr.toList ∧ x.bnd (Rows.uptoBulk y.1) := by
  obtain ⟨xs, n, _, hx, hlen, hxl, hf⟩ := DataW.trod_struct Tryz.underlying26 h
  rw [cells_edt] at hlen
  obtain ⟨c0, c1, c2, c3, c4, c5, c6, c7, c8, c9, c10, c11, rfl⟩ := list_n_edt hlen
  obtain ⟨y0, y1, y2, y3, y4, y5, y6, y7, y8, y9, y10, rfl⟩ := list_f_edt hxl
  have g0 := fld hf 0 22 0 1 rfl cells_edt_1
  have g1 := fld hf 1 3 1 1 rfl cells_int
  have g2 := fld hf 2 9 2 1 rfl cells_str
  have g3 := fld hf 3 9 3 1 rfl cells_str
  have g4 := fld hf 4 9 4 1 rfl cells_str
  have g5 := fld hf 5 9 5 1 rfl cells_str
  have g6 := fld hf 6 24 6 2 rfl cells_edt_2
  have g7 := fld hf 7 2 8 1 rfl cells_i64
  have g8 := fld hf 8 2 9 1 rfl cells_i64
  have g9 := fld hf 9 2 10 1 rfl cells_i64
  have g10 := fld hf 10 5 11 1 rfl cells_u8
  simp only [List.drop_succ_cons, List.drop_zero, List.take_succ_cons, List.take_zero, List.getElem?_cons_succ, List.getElem?_cons_zero] at g0 g1 g2 g3 g4 g5 g6 g7 g8 g9 g10
  obtain ⟨v0, e0, _⟩ := DataW.trod_int Tryz.underlying22 g0
  obtain ⟨v1, e1, _⟩ := DataW.trod_int Tryz.underlying3 g1
  obtain ⟨v2, e2, b2⟩ := open_str g2
  obtain ⟨v3, e3, b3⟩ := open_str g3
  obtain ⟨v4, e4, b4⟩ := open_str g4
  obtain ⟨v5, e5, b5⟩ := open_str g5
  obtain ⟨v6, v6', e6⟩ := open_two Tryz.underlying24 cells_edt_2 ⟨rfl, rfl⟩ ⟨rfl, rfl⟩ g6
  obtain ⟨v7, e7, _⟩ := DataW.trod_int Tryz.underlying2 g7
  obtain ⟨v8, e8, _⟩ := DataW.trod_int Tryz.underlying2 g8
  obtain ⟨v9, e9, _⟩ := DataW.trod_int Tryz.underlying2 g9
  obtain ⟨v10, e10, _⟩ := DataW.trod_int Tryz.underlying5 g10
  simp only [List.cons.injEq, and_true] at e0 e1 e7 e8 e9 e10
  have hy : Rows.uptoBulk y.1 = Rows.uptoBulkAll [y0.1, y1.1, y2.1, y3.1, y4.1, y5.1, y6.1, y7.1, y8.1, y9.1, y10.1] + 1 := by rw [hx]; simp [Rows.uptoBulk]
  have p2 : Rows.uptoBulk y2.1 ≤ Rows.uptoBulkAll [y0.1, y1.1, y2.1, y3.1, y4.1, y5.1, y6.1, y7.1, y8.1, y9.1, y10.1] := bulk_part (by simp)
  have p3 : Rows.uptoBulk y3.1 ≤ Rows.uptoBulkAll [y0.1, y1.1, y2.1, y3.1, y4.1, y5.1, y6.1, y7.1, y8.1, y9.1, y10.1] := bulk_part (by simp)
  have p4 : Rows.uptoBulk y4.1 ≤ Rows.uptoBulkAll [y0.1, y1.1, y2.1, y3.1, y4.1, y5.1, y6.1, y7.1, y8.1, y9.1, y10.1] := bulk_part (by simp)
  have p5 : Rows.uptoBulk y5.1 ≤ Rows.uptoBulkAll [y0.1, y1.1, y2.1, y3.1, y4.1, y5.1, y6.1, y7.1, y8.1, y9.1, y10.1] := bulk_part (by simp)
  refine ⟨⟨v0, v1, v2, v3, v4, v5, v6, v6', v7, v8, v9, v10⟩, ?_, ?_⟩
  · have e : [c0, c1, c2, c3, c4, c5, c6, c7, c8, c9, c10, c11] = [c0] ++ [c1] ++ [c2] ++ [c3] ++ [c4] ++ [c5] ++ [c6, c7] ++ [c8] ++ [c9] ++ [c10] ++ [c11] := rfl
    rw [e, e0, e1, e2, e3, e4, e5, e6, e7, e8, e9, e10]
    rfl
  · exact ⟨by show v2.length ≤ _; omega, by show v3.length ≤ _; omega, by show v4.length ≤ _; omega, by show v5.length ≤ _; omega⟩
end
end Go.Proofs.YtnmpfmelaninbaaGreatDoor
namespace Go.Proofs.YtnmpfmelaninbaaGreatDoor
open Go.RowKit Go.ChangeShapes Go.WideShapes Go.Deep
section
variable {H : Type} {enc : TypeId × Value → H} {w : World} {base : Nat} {spare : Nat → Bool} {held : Bool}
set_option maxRecDepth 100000 in
theorem open_edtT {r : Reach} {b0 : Nat} {v : Value} {d : DataW H} {ps : List MemPlace} (hv : Value.okWide Tryz.prog w r b0 26 v) (h : DataW.Trod enc Tryz.prog w base spare held 26 v d ps) :
    ∃ x : EditV, v = .agg x.arr ∧ x.bnd (Rows.uptoBulk d) := by
  obtain ⟨cs, rfl, hsz⟩ := okWide_struct Tryz.underlying26 hv
  obtain ⟨fuel, hf⟩ := h
  have hvc : (Value.agg cs).cells.toList = cs.toList := rfl
  rw [hvc] at hf
  obtain ⟨x, e, b⟩ := open_edt hf
  exact ⟨x, by rw [Array.toList_inj.1 e], b⟩
end
end Go.Proofs.YtnmpfmelaninbaaGreatDoor
namespace Go.Proofs.YtnmpfmelaninbaaGreatDoor
open Go.RowKit Go.ChangeShapes Go.WideShapes Go.Deep
section
variable {H : Type} {enc : TypeId × Value → H} {w : World} {base : Nat} {spare : Nat → Bool} {held : Bool}
set_option maxRecDepth 100000 in
theorem open_planB {r : Reach} {b0 : Nat} {v : Value} {d : DataW H} {ps : List MemPlace} (hv : Value.okWide Tryz.prog w r b0 46 v) (h : DataW.Trod enc Tryz.prog w base spare held 46 v d ps) :
    ∃ (p : Plan) (A : Option Addr) (c : Nat), v = p.val A c ∧ p.es.length ≤ c ∧ Ents w A p.es ∧ p.es.length ≤ Rows.uptoBulk d ∧ (Rows.uptoBulk d ≤ 4000000000 → p.small) ∧ p.from_.length ≤ Rows.uptoBulk d ∧ p.to_.length ≤ Rows.uptoBulk d := by
  obtain ⟨cs, rfl, hsz⟩ := okWide_struct Tryz.underlying46 hv
  obtain ⟨fuel, hf⟩ := h
  obtain ⟨xs, n, _, hx, hlen, hxl, hf⟩ := DataW.trod_struct Tryz.underlying46 hf
  rw [cells_plan] at hsz
  have hl4 : cs.toList.length = 4 := by simpa using hsz
  obtain ⟨c0, c1, c2, c3, hcs⟩ := list4 hl4
  obtain ⟨y0, y1, y2, y3, rfl⟩ := list4 hxl
  have g0 := fld hf 0 9 0 1 rfl cells_str
  have g1 := fld hf 1 9 1 1 rfl cells_str
  have g2 := fld hf 2 44 2 1 rfl cells_es
  have g3 := fld hf 3 3 3 1 rfl cells_int
  have hvc : (Value.agg cs).cells.toList = [c0, c1, c2, c3] := hcs
  rw [hvc] at g0 g1 g2 g3
  simp only [List.drop_succ_cons, List.drop_zero, List.take_succ_cons, List.take_zero, List.getElem?_cons_succ, List.getElem?_cons_zero] at g0 g1 g2 g3
  obtain ⟨s0, e0, b0⟩ := open_str g0
  obtain ⟨s1, e1, b1⟩ := open_str g1
  obtain ⟨es, A, c, e2, hc, hE, b2, b3⟩ := open_ents g2
  obtain ⟨k, e3, _⟩ := DataW.trod_int Tryz.underlying3 g3
  simp only [List.cons.injEq, and_true] at e3
  simp only [Prod.mk.injEq] at hx
  have hy : Rows.uptoBulk d = Rows.uptoBulkAll [y0.1, y1.1, y2.1, y3.1] + 1 := by rw [hx.1]; simp [Rows.uptoBulk]
  have p0 : Rows.uptoBulk y0.1 ≤ Rows.uptoBulkAll [y0.1, y1.1, y2.1, y3.1] := bulk_part (by simp)
  have p1 : Rows.uptoBulk y1.1 ≤ Rows.uptoBulkAll [y0.1, y1.1, y2.1, y3.1] := bulk_part (by simp)
  have p2 : Rows.uptoBulk y2.1 ≤ Rows.uptoBulkAll [y0.1, y1.1, y2.1, y3.1] := bulk_part (by simp)
  refine ⟨⟨s0, s1, es, k⟩, A, c, ?_, hc, hE, ?_, fun hN => ⟨?_, ?_, ?_, fun x hx' => ?_⟩, ?_, ?_⟩
  · have : cs = #[c0, c1, c2, c3] := by apply Array.toList_inj.1; rw [hcs]
    rw [this, e0, e1, e2, e3]; rfl
  · show es.length ≤ _; omega
  · show s0.length ≤ _; omega
  · show s1.length ≤ _; omega
  · show es.length ≤ _; omega
  · obtain ⟨q1, q2, q3⟩ := b3 x hx'
    exact ⟨⟨by omega, by omega⟩, by omega⟩
  · show s0.length ≤ _; omega
  · show s1.length ≤ _; omega
end
end Go.Proofs.YtnmpfmelaninbaaGreatDoor
namespace Go.Proofs.YtnmpfmelaninbaaGreatDoor
open Go.RowKit Go.ChangeShapes Go.WideShapes Go.Deep
section
variable {H : Type} {enc : TypeId × Value → H} {w : World} {base : Nat} {spare : Nat → Bool} {held : Bool}
set_option maxRecDepth 100000 in
theorem open_gdbT {r : Reach} {b0 : Nat} {v : Value} {d : DataW H} {ps : List MemPlace} (hv : Value.okWide Tryz.prog w r b0 43 v) (h : DataW.Trod enc Tryz.prog w base spare held 43 v d ps) (hN : Rows.uptoBulk d ≤ 4000000) :
    ∃ (db : DBs) (G : GDB), v = .agg db.cells ∧ GdAt w db G ∧ G.short := by
  obtain ⟨cs, rfl, hsz⟩ := okWide_struct Tryz.underlying43 hv
  obtain ⟨fuel, hf⟩ := h
  have hvc : (Value.agg cs).cells.toList = cs.toList := rfl
  rw [hvc] at hf
  obtain ⟨db, G, e, hg, hs⟩ := open_gdb hf hN
  exact ⟨db, G, by rw [Array.toList_inj.1 e], hg, hs⟩
end
end Go.Proofs.YtnmpfmelaninbaaGreatDoor
