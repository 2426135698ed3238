/- Layer 58: the function keys. Layer 58: the function keys. -/
import Derived.Test.YtlleijickhifmaaGreatDoorPk29
namespace Go.Proofs.YtlleijickhifmaaGreatDoor
open Go.RowKit Go.Sort
set_option linter.unusedVariables false
set_option linter.unusedSimpArgs false
set_option maxHeartbeats 4000000 in
set_option maxRecDepth 100000 in
theorem fn_CLR (t : Term) (v : Vw) (d : VAd) (arr : Array Value) (hv : v.At d arr) (g : Nat) (W : World) (hT : Blk W g t.arr) (h0 : 0 ≤ t.first) (h1 : t.first ≤ 1000000) (hpad : t.pad.length ≤ 24) :
    Calls Tryz.prog 15 #[.pointer (some ⟨g, 0, none⟩), .agg arr, .string ⟨#[67, 76, 82]⟩] W (RetT W g (functionS t v kCLR)) := by
  have HS : Hid (functionS t v kCLR = if t.pad = [] then ({ t with pad := kDELETE }, [], 0) else if t.pad = kDELETE then ({ t with pad := [] }, [], 0) else ({ t with pad := t.pad.take (t.pad.length - 1) }, [], 0)) := Lib.hid rfl
  generalize functionS t v kCLR = out at *
  go_enter Tryz.func15, Tryz.ntmps15
  go_upto_region 1 with (fail)
  generalize hW : W.alloc _ = W1
  have X0 : Blk W1 W.heap.size arr := by rw [← hW]; exact Blk.new W arr _
  have T0 : Blk W1 g t.arr := by rw [← hW]; exact hT.alloc _
  have K0 : Touch [g] W W1 := by rw [← hW]; exact Touch.of ((Below.refl _ _).alloc (Nat.le_refl _) _)
  clear hW
  have x1 := X0.cell
  have t1 := T0.cell
  have t2 := T0.frozen
  have t3 := T0.lt
  have e8 := hv.hasTemp
  by_cases hp0 : t.pad = []
  · rw [if_pos hp0] at HS
    go_wp2
    go_ret2
    exact RetT.mk HS.out (K0.trans (Touch.setCell [g] _ (by simp) 2 _)) (T0.setCell 2 _)
  · rw [if_neg hp0] at HS
    by_cases hp1 : t.pad = kDELETE
    · rw [if_pos hp1] at HS
      have hp2 : t.pad = [68, 69, 76, 69, 84, 69] := hp1
      clear hp0 hp1
      go_wp2
      go_ret2
      exact RetT.mk HS.out (K0.trans (Touch.setCell [g] _ (by simp) 2 _)) (T0.setCell 2 _)
    · rw [if_neg hp1] at HS
      have hp3 : (t.pad == []) = false := by simp [hp0]
      have hp4 : (t.pad == [68, 69, 76, 69, 84, 69]) = false := by simpa [kDELETE] using hp1
      have hpos : 0 < t.pad.length := List.length_pos_iff.2 hp0
      clear hp0 hp1
      go_wp2
      have q1 : IntKind.i64.wrap ((t.pad.length : Int) - 1) = (t.pad.length : Int) - 1 := IntWalk.i64_in _ (by omega)
      have q2 : (0 : Int) ≤ (t.pad.length : Int) - 1 := by omega
      have q3 : (t.pad.length : Int) - 1 ≤ t.pad.length := by omega
      have q4 : ((t.pad.length : Int) - 1).toNat = t.pad.length - 1 := by omega
      refine wp_region_tail_below 14 (by kernel_rfl) (by kernel_rfl) ?_
      simp only [List.take_succ_cons, List.take_zero, List.drop_succ_cons, List.drop_zero]
      have c1 : ∀ d os, (grow (redrawn W1 d) os).cell? ⟨g, 2, none⟩ = some (Value.string ⟨t.pad.toArray⟩) := fun d os => by rw [(below_regrown W1 d os).cell (p := ⟨g, 2, none⟩) t3]; exact t1 2
      repeat (go_big_quiet_step (with_reducible first | exact c1 _ _))
      refine wpQuiet_nil ?_
      intro _ hw'
      obtain ⟨⟨dq, osq⟩, hw''⟩ := hw'
      subst hw''
      have B2 := below_regrown W1 dq osq
      have T2 := T0.step B2
      have K2 := K0.trans (Touch.of B2)
      clear c1
      generalize grow (redrawn W1 dq) osq = w3 at B2 T2 K2 ⊢
      have u1 := T2.cell
      have u2 := T2.frozen
      have u3 := T2.lt
      go_wp2
      go_ret2
      exact RetT.mk HS.out (K2.trans (Touch.setCell [g] _ (by simp) 2 _)) (T2.setCell 2 _)
end Go.Proofs.YtlleijickhifmaaGreatDoor
namespace Go.Proofs.YtlleijickhifmaaGreatDoor
open Go.RowKit Go.Sort
set_option linter.unusedVariables false
set_option linter.unusedSimpArgs false
theorem run_field_es (a b e : Value) (A : Option Addr) (n c : Nat) (w : World) : (Instr.field 26 (.agg #[a, b, .slice A n c, e]) 2).run Tryz.prog w = .ok (.slice A n c) w := by
  have hu : Tryz.prog.underlying 26 = _ := Tryz.underlying26
  simp [Instr.field, go_sem, hu, asAgg]
attribute [local go_sem] run_field_es
set_option maxHeartbeats 4000000 in
set_option maxRecDepth 100000 in
theorem fn_DOWN (t : Term) (v : Vw) (d : VAd) (arr : Array Value) (hv : v.At d arr) (g : Nat) (W : World) (hT : Blk W g t.arr) (h0 : 0 ≤ t.first) (h1 : t.first ≤ 1000000) (hn : (shownS v).es.length ≤ 4000000000) :
    Calls Tryz.prog 15 #[.pointer (some ⟨g, 0, none⟩), .agg arr, .string ⟨#[68, 79, 87, 78]⟩] W (RetT W g (functionS t v kDOWN)) := by
  have HS : Hid (functionS t v kDOWN = if ((shownS v).es.length : Int) ≤ t.first + 5 then (t, [], 6) else ({ t with first := t.first + 5 }, [], 0)) := Lib.hid rfl
  generalize functionS t v kDOWN = out at *
  go_enter Tryz.func15, Tryz.ntmps15
  go_upto_region 1 with (fail)
  generalize hW : W.alloc _ = W1
  have X0 : Blk W1 W.heap.size arr := by rw [← hW]; exact Blk.new W arr _
  have T0 : Blk W1 g t.arr := by rw [← hW]; exact hT.alloc _
  have K0 : Touch [g] W W1 := by rw [← hW]; exact Touch.of ((Below.refl _ _).alloc (Nat.le_refl _) _)
  clear hW
  have x1 := X0.cell
  have t1 := T0.cell
  have t2 := T0.frozen
  have t3 := T0.lt
  have e8 := hv.hasTemp
  go_wp2
  have z : arr.size = 42 := hv.size
  have j1 : ∀ d' os, Has_view (grow (redrawn W1 d') os) W.heap.size 0 := fun d' os => ⟨_, (X0.step (below_regrown W1 d' os)).is_view z⟩
  have j2 : ∀ d' os, of_view (grow (redrawn W1 d') os) W.heap.size 0 = arr := fun d' os => of_view_eq ((X0.step (below_regrown W1 d' os)).is_view z)
  have c1 : ∀ d' os, (grow (redrawn W1 d') os).cell? ⟨g, 1, none⟩ = some (Value.int .i64 t.first) := fun d' os => by rw [(below_regrown W1 d' os).cell (p := ⟨g, 1, none⟩) t3]; exact t1 1
  have c2 : ∀ d' os, Calls Tryz.prog 19 #[.agg arr] (grow (redrawn W1 d') os) fun e w'' => e = .returned (.agg #[.string ⟨(shownS v).from_.toArray⟩, .string ⟨(shownS v).to_.toArray⟩, .slice (d.sA v) (shownS v).es.length (d.sc v), .int .i64 (shownS v).active]) ∧ ∃ q : Regrown, w'' = grow (redrawn W1 q.d) q.os := fun d' os => Calls.regrown_ret (shown_any v d arr hv _)
  have q1 : IntKind.i64.wrap (t.first + 5) = t.first + 5 := IntWalk.i64_in _ (by omega)
  refine wp_region_quiet_below (by kernel_rfl) (by kernel_rfl) ?_
  repeat (first | go_big_quiet_step (with_reducible first | exact c2 _ _) | quiet_step (with_reducible first | exact c2 _ _))
  refine wpQuiet_nil ?_
  intro _ hw'
  obtain ⟨⟨dq, osq⟩, hw''⟩ := hw'
  subst hw''
  have B2 := below_regrown W1 dq osq
  have T2 := T0.step B2
  have K2 := K0.trans (Touch.of B2)
  clear j1 j2 c1 c2
  generalize grow (redrawn W1 dq) osq = w3 at B2 T2 K2 ⊢
  have u1 := T2.cell
  have u2 := T2.frozen
  have u3 := T2.lt
  by_cases hd : ((shownS v).es.length : Int) ≤ t.first + 5
  · rw [if_pos hd] at HS
    go_wp2
    go_ret2
    exact RetT.mk HS.out K2 T2
  · rw [if_neg hd] at HS
    go_wp2
    go_ret2
    exact RetT.mk HS.out (K2.trans (Touch.setCell [g] _ (by simp) 1 _)) (T2.setCell 1 _)
end Go.Proofs.YtlleijickhifmaaGreatDoor
