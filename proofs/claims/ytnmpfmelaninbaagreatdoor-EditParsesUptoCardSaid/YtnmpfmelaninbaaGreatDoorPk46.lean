/- EditChecks, EditText: the statements walked. An edit opened out of its reading. An edit among the arguments. -/
import Derived.Test.YtnmpfmelaninbaaGreatDoorPk39
import Derived.Test.YtnmpfmelaninbaaGreatDoorPk40
import Derived.Test.YtnmpfmelaninbaaGreatDoorPk45
import Derived.Test.YtnmpfmelaninbaaGreatDoorPk16
import Derived.Test.YtnmpfmelaninbaaGreatDoorPk19
import Derived.Test.YtnmpfmelaninbaaGreatDoorPk20
namespace Go.Proofs.YtnmpfmelaninbaaGreatDoor
open Go.RowKit Go.Sort
set_option linter.unusedVariables false
set_option linter.unusedSimpArgs false
set_option maxRecDepth 100000
attribute [local go_sem ↓] run_eql_edt run_neq_edt
set_option maxHeartbeats 4000000 in
theorem lawEdChecks_any (e : EditV) (hs : e.small) (w : World) (hO : Open23 w) : Calls Tryz.prog 3 #[.agg e.arr] w (Ret w (.bool true)) := by
  obtain ⟨X0, B0⟩ := edt_box w e
  go_enter Tryz.func3, Tryz.ntmps3
  go_upto_region 1 with (fail)
  generalize w.alloc _ = W at X0 B0 ⊢
  generalize w.heap.size = g at X0 ⊢
  have c1 : ∀ d os, Calls Tryz.prog 12 #[] (grow (redrawn W d) os) fun e w'' => e = .returned (.bool true) ∧ ∃ q : Regrown, w'' = grow (redrawn W q.d) q.os := fun d os => Calls.regrown_ret (awake23_any _ (hO.below (below_step B0 (below_regrown W d os))))
  have c2 : ∀ d os, Calls Tryz.prog 13 #[.agg e.arr] (grow (redrawn W d) os) fun e' w'' => e' = .returned (.int .i64 (editCheck e)) ∧ ∃ q : Regrown, w'' = grow (redrawn W q.d) q.os := fun d os => Calls.regrown_ret (editCheck_any e hs _ (hO.below (below_step B0 (below_regrown W d os))).laid (hO.below (below_step B0 (below_regrown W d os))).forms)
  have c3 : ∀ d os, Calls Tryz.prog 14 #[.agg e.arr] (grow (redrawn W d) os) fun e' w'' => e' = .returned (.int .i64 (editCheck e)) ∧ ∃ q : Regrown, w'' = grow (redrawn W q.d) q.os := fun d os => Calls.regrown_ret (reditCheck_any e hs _)
  generalize editCheck e = z at c2 c3
  have j1 : ∀ d os, Has_edt (grow (redrawn W d) os) g 0 := fun d os => ⟨_, (X0.step (below_regrown W d os)).is_edt⟩
  have j2 : ∀ d os, of_edt (grow (redrawn W d) os) g 0 = e := fun d os => of_edt_eq (X0.step (below_regrown W d os)).is_edt
  refine wp_region_quiet_below (by kernel_rfl) (by kernel_rfl) ?_
  repeat (quiet_step (with_reducible first | exact c1 _ _ | exact c2 _ _ | exact c3 _ _))
  refine wpQuiet_nil ?_
  intro _ hw'
  obtain ⟨⟨dq, osq⟩, hw''⟩ := hw'
  subst hw''
  go_wp2
  go_ret
  exact Ret.bool rfl (below_step B0 (below_regrown W dq osq))
set_option maxHeartbeats 8000000 in
theorem lawEdText_any (e : EditV) (hs : e.small) (w : World) (hO : Open23 w) : Calls Tryz.prog 4 #[.agg e.arr] w (Ret w (.bool true)) := by
  obtain ⟨X0, B0⟩ := edt_box w e
  go_enter Tryz.func4, Tryz.ntmps4
  go_upto_region 1 with (fail)
  generalize w.alloc _ = W at X0 B0 ⊢
  generalize w.heap.size = g at X0 ⊢
  have ka := Lib.hid (awake23_any W (hO.below B0))
  have kc := Lib.hid (fun w' (h : Below w.heap.size w w') => editCheck_any e hs w' (hO.below h).laid (hO.below h).forms)
  have kt := Lib.hid (fun w' (h : Below w.heap.size w w') => editText_any e hs w' (hO.below h).laid (hO.below h).forms)
  have kp := Lib.hid (fun w' (h : Below w.heap.size w w') => editParse_any (editText e) w' (hO.below h).laid (hO.below h).errs (hO.below h).forms (Nat.le_trans (editText_short e) (by decide)))
  have krt := Lib.hid (fun w' => reditText_any e hs w')
  have hok := Lib.hid (fun h => @editParse_ok e h)
  have hno := Lib.hid (fun (h : editCheck e ≠ 0) => show editText e = [] by unfold editText; rw [if_pos (by simpa using h)])
  go_upto_region 3 with (go_at_call 12; (with_reducible refine callR ka.out ?_); intro w1 b1 _ _ _)
  have X1 := X0.step b1
  have B1 := below_step B0 b1
  clear ka X0 b1
  have i1 : Has_edt w1 g 0 := ⟨_, X1.is_edt⟩
  have i2 : of_edt w1 g 0 = e := of_edt_eq X1.is_edt
  by_cases hz : editCheck e = 0
  · have hP := hok.out hz
    rw [hP] at kp
    unfold edVal at kp
    rw [hz] at kc
    have hself : e.eqB e = true := (EditV.eqB_iff _ _).2 rfl
    clear hno hok hP hz
    generalize editText e = t at *
    go_wp2_with (first
      | (go_at_call 15; (with_reducible refine callR (kt.out _ B1) ?_); intro w2 b2 _ _ _; have X2 := X1.step b2; have j1 : Has_edt w2 g 0 := ⟨_, X2.is_edt⟩; have j2 : of_edt w2 g 0 = e := of_edt_eq X2.is_edt; have B2 := below_step B1 b2)
      | (go_at_call 16; (with_reducible refine callR (krt.out _) ?_); intro w3 b3 _ _ _; have X3 := X2.step b3; have l1 : Has_edt w3 g 0 := ⟨_, X3.is_edt⟩; have l2 : of_edt w3 g 0 = e := of_edt_eq X3.is_edt; have B3 := below_step B2 b3)
      | (go_at_call 13; (with_reducible refine callR (kc.out _ B3) ?_); intro w4 b4 _ _ _; have X4 := X3.step b4; have m1 : Has_edt w4 g 0 := ⟨_, X4.is_edt⟩; have m2 : of_edt w4 g 0 = e := of_edt_eq X4.is_edt; have B4 := below_step B3 b4)
      | (go_at_call 17; (with_reducible refine callR (kp.out _ B4) ?_); intro w5 b5 _ _ _; have X5 := X4.step b5; have hl5 := X5.lt; have n1 : Has_edt w5 g 0 := ⟨_, X5.is_edt⟩; have n2 : of_edt w5 g 0 = e := of_edt_eq X5.is_edt; have B5 := below_step B4 b5))
    go_ret
    exact Ret.bool rfl (below_step B5 (alloc_below5 _ _))
  · have hT := hno.out hz
    rw [hT] at kt krt
    clear hno hok kp
    generalize editCheck e = z at *
    go_wp2_with (first
      | (go_at_call 15; (with_reducible refine callR (kt.out _ B1) ?_); intro w2 b2 _ _ _; have X2 := X1.step b2; have j1 : Has_edt w2 g 0 := ⟨_, X2.is_edt⟩; have j2 : of_edt w2 g 0 = e := of_edt_eq X2.is_edt; have B2 := below_step B1 b2)
      | (go_at_call 16; (with_reducible refine callR (krt.out _) ?_); intro w3 b3 _ _ _; have X3 := X2.step b3; have l1 : Has_edt w3 g 0 := ⟨_, X3.is_edt⟩; have l2 : of_edt w3 g 0 = e := of_edt_eq X3.is_edt; have B3 := below_step B2 b3)
      | (go_at_call 13; (with_reducible refine callR (kc.out _ B3) ?_); intro w4 b4 _ _ _; have B4 := below_step B3 b4))
    go_ret
    exact Ret.bool rfl B4
end Go.Proofs.YtnmpfmelaninbaaGreatDoor
namespace Go.Proofs.YtnmpfmelaninbaaGreatDoor
open Go.RowKit Go.ChangeShapes Go.WideShapes Go.Deep
set_option linter.unusedVariables false
set_option linter.unusedSimpArgs false
theorem cells_edt_1 : Tryz.prog.cellsOf 22 = 1 := by kernel_rfl
theorem cells_edt_2 : Tryz.prog.cellsOf 24 = 2 := by kernel_rfl
theorem cells_edt : Tryz.prog.cellsOf 26 = 12 := by kernel_rfl
def EditV.bnd (x : EditV) (N : Nat) : Prop := x.ref.length ≤ N ∧ x.name.length ≤ N ∧ x.rway.length ≤ N ∧ x.trans.length ≤ N
section
variable {H : Type} {enc : TypeId × Value → H} {w : World} {base : Nat} {spare : Nat → Bool} {held : Bool}
theorem list_n_edt {α : Type _} {l : List α} (h : l.length = 12) : ∃ x0 x1 x2 x3 x4 x5 x6 x7 x8 x9 x10 x11, l = [x0, x1, x2, x3, x4, x5, x6, x7, x8, x9, x10, x11] := by
  match l, h with
  | [x0, x1, x2, x3, x4, x5, x6, x7, x8, x9, x10, x11], _ => exact ⟨x0, x1, x2, x3, x4, x5, x6, x7, x8, x9, x10, x11, rfl⟩
theorem list_f_edt {α : Type _} {l : List α} (h : l.length = 11) : ∃ x0 x1 x2 x3 x4 x5 x6 x7 x8 x9 x10, l = [x0, x1, x2, x3, x4, x5, x6, x7, x8, x9, x10] := by
  match l, h with
  | [x0, x1, x2, x3, x4, x5, x6, x7, x8, x9, x10], _ => exact ⟨x0, x1, x2, x3, x4, x5, x6, x7, x8, x9, x10, rfl⟩
theorem open_edt {fuel : Nat} {cs : List Value} {y : DataW H × List MemPlace} (h : DataW.trod enc Tryz.prog w base spare held fuel 26 cs = some y) : ∃ x : EditV, cs = x.arr.toList ∧ x.bnd (Rows.uptoBulk y.1) := by
  obtain ⟨xs, n, _, hx, hlen, hxl, hf⟩ := DataW.trod_struct Tryz.underlying26 h
  rw [cells_edt] at hlen
  obtain ⟨c0, c1, c2, c3, c4, c5, c6, c7, c8, c9, c10, c11, rfl⟩ := list_n_edt hlen
  obtain ⟨y0, y1, y2, y3, y4, y5, y6, y7, y8, y9, y10, rfl⟩ := list_f_edt hxl
  have g0 := fld hf 0 22 0 1 rfl cells_edt_1
  have g1 := fld hf 1 3 1 1 rfl cells_int
  have g2 := fld hf 2 9 2 1 rfl cells_str
  have g3 := fld hf 3 9 3 1 rfl cells_str
  have g4 := fld hf 4 9 4 1 rfl cells_str
  have g5 := fld hf 5 9 5 1 rfl cells_str
  have g6 := fld hf 6 24 6 2 rfl cells_edt_2
  have g7 := fld hf 7 2 8 1 rfl cells_i64
  have g8 := fld hf 8 2 9 1 rfl cells_i64
  have g9 := fld hf 9 2 10 1 rfl cells_i64
  have g10 := fld hf 10 5 11 1 rfl cells_u8
  simp only [List.drop_succ_cons, List.drop_zero, List.take_succ_cons, List.take_zero, List.getElem?_cons_succ, List.getElem?_cons_zero] at g0 g1 g2 g3 g4 g5 g6 g7 g8 g9 g10
  obtain ⟨v0, e0, _⟩ := DataW.trod_int Tryz.underlying22 g0
  obtain ⟨v1, e1, _⟩ := DataW.trod_int Tryz.underlying3 g1
  obtain ⟨v2, e2, b2⟩ := open_str g2
  obtain ⟨v3, e3, b3⟩ := open_str g3
  obtain ⟨v4, e4, b4⟩ := open_str g4
  obtain ⟨v5, e5, b5⟩ := open_str g5
  obtain ⟨v6, v6', e6⟩ := open_two Tryz.underlying24 cells_edt_2 ⟨rfl, rfl⟩ ⟨rfl, rfl⟩ g6
  obtain ⟨v7, e7, _⟩ := DataW.trod_int Tryz.underlying2 g7
  obtain ⟨v8, e8, _⟩ := DataW.trod_int Tryz.underlying2 g8
  obtain ⟨v9, e9, _⟩ := DataW.trod_int Tryz.underlying2 g9
  obtain ⟨v10, e10, _⟩ := DataW.trod_int Tryz.underlying5 g10
  simp only [List.cons.injEq, and_true] at e0 e1 e7 e8 e9 e10
  have hy : Rows.uptoBulk y.1 = Rows.uptoBulkAll [y0.1, y1.1, y2.1, y3.1, y4.1, y5.1, y6.1, y7.1, y8.1, y9.1, y10.1] + 1 := by rw [hx]; simp [Rows.uptoBulk]
  have p2 : Rows.uptoBulk y2.1 ≤ Rows.uptoBulkAll [y0.1, y1.1, y2.1, y3.1, y4.1, y5.1, y6.1, y7.1, y8.1, y9.1, y10.1] := bulk_part (by simp)
  have p3 : Rows.uptoBulk y3.1 ≤ Rows.uptoBulkAll [y0.1, y1.1, y2.1, y3.1, y4.1, y5.1, y6.1, y7.1, y8.1, y9.1, y10.1] := bulk_part (by simp)
  have p4 : Rows.uptoBulk y4.1 ≤ Rows.uptoBulkAll [y0.1, y1.1, y2.1, y3.1, y4.1, y5.1, y6.1, y7.1, y8.1, y9.1, y10.1] := bulk_part (by simp)
  have p5 : Rows.uptoBulk y5.1 ≤ Rows.uptoBulkAll [y0.1, y1.1, y2.1, y3.1, y4.1, y5.1, y6.1, y7.1, y8.1, y9.1, y10.1] := bulk_part (by simp)
  refine ⟨⟨v0, v1, v2, v3, v4, v5, v6, v6', v7, v8, v9, v10⟩, ?_, ?_⟩
  · have e : [c0, c1, c2, c3, c4, c5, c6, c7, c8, c9, c10, c11] = [c0] ++ [c1] ++ [c2] ++ [c3] ++ [c4] ++ [c5] ++ [c6, c7] ++ [c8] ++ [c9] ++ [c10] ++ [c11] := rfl
    rw [e, e0, e1, e2, e3, e4, e5, e6, e7, e8, e9, e10]
    rfl
  · exact ⟨by show v2.length ≤ _; omega, by show v3.length ≤ _; omega, by show v4.length ≤ _; omega, by show v5.length ≤ _; omega⟩
end
theorem EditV.bnd.mono {x : EditV} {a b : Nat} (h : x.bnd a) (hab : a ≤ b) : x.bnd b := ⟨Nat.le_trans h.1 hab, Nat.le_trans h.2.1 hab, Nat.le_trans h.2.2.1 hab, Nat.le_trans h.2.2.2 hab⟩
end Go.Proofs.YtnmpfmelaninbaaGreatDoor
namespace Go.Proofs.YtnmpfmelaninbaaGreatDoor
open Go.RowKit Go.ChangeShapes Go.WideShapes Go.Deep
set_option linter.unusedVariables false
set_option linter.unusedSimpArgs false
section
variable {H : Type} {enc : TypeId × Value → H} {w : World} {base : Nat} {spare : Nat → Bool} {held : Bool}
set_option maxRecDepth 100000 in
theorem open_edtT {r : Reach} {b0 : Nat} {v : Value} {d : DataW H} {ps : List MemPlace} (hv : Value.okWide Tryz.prog w r b0 26 v) (h : DataW.Trod enc Tryz.prog w base spare held 26 v d ps) :
    ∃ x : EditV, v = .agg x.arr ∧ x.bnd (Rows.uptoBulk d) := by
  obtain ⟨cs, rfl, hsz⟩ := okWide_struct Tryz.underlying26 hv
  obtain ⟨fuel, hf⟩ := h
  have hvc : (Value.agg cs).cells.toList = cs.toList := rfl
  rw [hvc] at hf
  obtain ⟨x, e, b⟩ := open_edt hf
  exact ⟨x, by rw [Array.toList_inj.1 e], b⟩
end
theorem EditV.smallOf {x : EditV} {N : Nat} (h : x.bnd N) (hN : N ≤ 4000000000) : x.small := ⟨Nat.le_trans h.1 hN, Nat.le_trans h.2.1 hN, Nat.le_trans h.2.2.1 hN, Nat.le_trans h.2.2.2 hN⟩
end Go.Proofs.YtnmpfmelaninbaaGreatDoor
