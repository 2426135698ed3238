/- Layer 58: the reference's right line select key. Layer 58: signs, function keys. Layer 58: the function keys. -/
import Derived.Test.YtlleijickhifmaaGreatDoorPk24
import Derived.Test.YtlleijickhifmaaGreatDoorPk28
namespace Go.Proofs.YtlleijickhifmaaGreatDoor
open Go.RowKit
set_option linter.unusedVariables false
set_option linter.unusedSimpArgs false
attribute [local go_sem] run_storeB_term SzIs_term Fits_term Ones_term splice_term
end Go.Proofs.YtlleijickhifmaaGreatDoor
namespace Go.Proofs.YtlleijickhifmaaGreatDoor
open Go.RowKit
set_option linter.unusedVariables false
set_option linter.unusedSimpArgs false
/-- The terminal in block g becomes r.1; the result is an error. -/
def RetO (W : World) (g : Nat) (r : Pressed) : Ending → World → Prop := fun e w' => e = .returned (.int .i64 r.2.2) ∧ Touch [g] W w' ∧ Blk w' g r.1.arr
theorem RetO.mk {W w' : World} {g : Nat} {r : Pressed} {t : Term} {c : List UInt8} {e : Int} (h : r = (t, c, e)) (h1 : Touch [g] W w') (h2 : Blk w' g t.arr) : RetO W g r (.returned (.int .i64 e)) w' := by subst h; exact ⟨rfl, h1, h2⟩
set_option maxHeartbeats 4000000 in
set_option maxRecDepth 100000 in
theorem put58_any (t : Term) (key : List UInt8) (g : Nat) (W : World) (hT : Blk W g t.arr) (hpad : t.pad.length ≤ 24) (hk : key.length ≤ 100) : Calls Tryz.prog 13 #[.pointer (some ⟨g, 0, none⟩), .string ⟨key.toArray⟩] W (RetO W g (putS t key)) := by
  generalize hO : putS t key = out
  unfold putS at hO
  have t1 := hT.cell
  have t2 := hT.frozen
  have t3 := hT.lt
  by_cases hp1 : t.pad = kDELETE
  · rw [if_pos hp1] at hO
    have HS := Lib.hid hO.symm
    have hp2 : t.pad = [68, 69, 76, 69, 84, 69] := hp1
    clear hO hp1
    go_enter Tryz.func13, Tryz.ntmps13
    go_upto_region 3 with (fail)
    generalize hW2 : W.setCell _ _ = W2
    have T2 : Blk W2 g ({ t with pad := [] } : Term).arr := by rw [← hW2]; exact hT.setCell 2 _
    have K2 : Touch [g] W W2 := by rw [← hW2]; exact Touch.setCell [g] _ (by simp) 2 _
    clear hW2 t1 t2 t3
    have t1 := T2.cell
    have t2 := T2.frozen
    have t3 := T2.lt
    go_wp2
    go_ret
    exact RetO.mk HS.out (K2.trans (Touch.setCell [g] _ (by simp) 2 _)) (T2.setCell 2 _)
  · rw [if_neg hp1] at hO
    have hp4 : (t.pad == [68, 69, 76, 69, 84, 69]) = false := by simpa [kDELETE] using hp1
    by_cases h24 : t.pad.length = 24
    · rw [if_pos h24] at hO
      have HS := Lib.hid hO.symm
      clear hO hp1
      go_enter Tryz.func13, Tryz.ntmps13
      go_wp2
      go_ret
      exact RetO.mk HS.out (Touch.refl _ _) hT
    · rw [if_neg h24] at hO
      have HS := Lib.hid hO.symm
      have h5 : ((t.pad.length : Int) == 24) = false := by simp; omega
      clear hO hp1
      go_enter Tryz.func13, Tryz.ntmps13
      go_wp2
      go_ret
      exact RetO.mk HS.out (Touch.setCell [g] _ (by simp) 2 _) (hT.setCell 2 _)
end Go.Proofs.YtlleijickhifmaaGreatDoor
namespace Go.Proofs.YtlleijickhifmaaGreatDoor
open Go.RowKit
set_option linter.unusedVariables false
set_option linter.unusedSimpArgs false
set_option maxHeartbeats 4000000 in
set_option maxRecDepth 100000 in
theorem fn_UNDO (t : Term) (v : Vw) (d : VAd) (arr : Array Value) (hv : v.At d arr) (g : Nat) (W : World) (hT : Blk W g t.arr) (h0 : 0 ≤ t.first) (h1 : t.first ≤ 1000000) :
    Calls Tryz.prog 15 #[.pointer (some ⟨g, 0, none⟩), .agg arr, .string ⟨#[85, 78, 68, 79]⟩] W (RetT W g (functionS t v kUNDO)) := by
  have HS : Hid (functionS t v kUNDO = (t, [85, 78, 68, 79], 0)) := Lib.hid rfl
  generalize functionS t v kUNDO = out at *
  go_enter Tryz.func15, Tryz.ntmps15
  go_upto_region 1 with (fail)
  generalize hW : W.alloc _ = W1
  have X0 : Blk W1 W.heap.size arr := by rw [← hW]; exact Blk.new W arr _
  have T0 : Blk W1 g t.arr := by rw [← hW]; exact hT.alloc _
  have K0 : Touch [g] W W1 := by rw [← hW]; exact Touch.of ((Below.refl _ _).alloc (Nat.le_refl _) _)
  clear hW
  have x1 := X0.cell
  have t1 := T0.cell
  have t2 := T0.frozen
  have t3 := T0.lt
  have e8 := hv.hasTemp
  go_wp2
  go_ret2
  exact RetT.mk HS.out K0 T0
set_option maxHeartbeats 4000000 in
set_option maxRecDepth 100000 in
theorem fn_EXEC (t : Term) (v : Vw) (d : VAd) (arr : Array Value) (hv : v.At d arr) (g : Nat) (W : World) (hT : Blk W g t.arr) (h0 : 0 ≤ t.first) (h1 : t.first ≤ 1000000) :
    Calls Tryz.prog 15 #[.pointer (some ⟨g, 0, none⟩), .agg arr, .string ⟨#[69, 88, 69, 67]⟩] W (RetT W g (functionS t v kEXEC)) := by
  have HS : Hid (functionS t v kEXEC = if v.hasTemp then (t, [69, 88, 69, 67], 0) else (t, [], 8)) := Lib.hid rfl
  generalize functionS t v kEXEC = out at *
  go_enter Tryz.func15, Tryz.ntmps15
  go_upto_region 1 with (fail)
  generalize hW : W.alloc _ = W1
  have X0 : Blk W1 W.heap.size arr := by rw [← hW]; exact Blk.new W arr _
  have T0 : Blk W1 g t.arr := by rw [← hW]; exact hT.alloc _
  have K0 : Touch [g] W W1 := by rw [← hW]; exact Touch.of ((Below.refl _ _).alloc (Nat.le_refl _) _)
  clear hW
  have x1 := X0.cell
  have t1 := T0.cell
  have t2 := T0.frozen
  have t3 := T0.lt
  have e8 := hv.hasTemp
  cases hb : v.hasTemp
  · rw [hb] at e8 HS
    go_wp2
    go_ret2
    exact RetT.mk HS.out K0 T0
  · rw [hb] at e8 HS
    go_wp2
    go_ret2
    exact RetT.mk HS.out K0 T0
set_option maxHeartbeats 4000000 in
set_option maxRecDepth 100000 in
theorem fn_ERASE (t : Term) (v : Vw) (d : VAd) (arr : Array Value) (hv : v.At d arr) (g : Nat) (W : World) (hT : Blk W g t.arr) (h0 : 0 ≤ t.first) (h1 : t.first ≤ 1000000) :
    Calls Tryz.prog 15 #[.pointer (some ⟨g, 0, none⟩), .agg arr, .string ⟨#[69, 82, 65, 83, 69]⟩] W (RetT W g (functionS t v kERASE)) := by
  have HS : Hid (functionS t v kERASE = if v.hasTemp then (t, [69, 82, 65, 83, 69], 0) else (t, [], 8)) := Lib.hid rfl
  generalize functionS t v kERASE = out at *
  go_enter Tryz.func15, Tryz.ntmps15
  go_upto_region 1 with (fail)
  generalize hW : W.alloc _ = W1
  have X0 : Blk W1 W.heap.size arr := by rw [← hW]; exact Blk.new W arr _
  have T0 : Blk W1 g t.arr := by rw [← hW]; exact hT.alloc _
  have K0 : Touch [g] W W1 := by rw [← hW]; exact Touch.of ((Below.refl _ _).alloc (Nat.le_refl _) _)
  clear hW
  have x1 := X0.cell
  have t1 := T0.cell
  have t2 := T0.frozen
  have t3 := T0.lt
  have e8 := hv.hasTemp
  cases hb : v.hasTemp
  · rw [hb] at e8 HS
    go_wp2
    go_ret2
    exact RetT.mk HS.out K0 T0
  · rw [hb] at e8 HS
    go_wp2
    go_ret2
    exact RetT.mk HS.out K0 T0
set_option maxHeartbeats 4000000 in
set_option maxRecDepth 100000 in
theorem fn_UP (t : Term) (v : Vw) (d : VAd) (arr : Array Value) (hv : v.At d arr) (g : Nat) (W : World) (hT : Blk W g t.arr) (h0 : 0 ≤ t.first) (h1 : t.first ≤ 1000000) :
    Calls Tryz.prog 15 #[.pointer (some ⟨g, 0, none⟩), .agg arr, .string ⟨#[85, 80]⟩] W (RetT W g (functionS t v kUP)) := by
  have HS : Hid (functionS t v kUP = if t.first < 5 then (t, [], 6) else ({ t with first := t.first - 5 }, [], 0)) := Lib.hid rfl
  generalize functionS t v kUP = out at *
  go_enter Tryz.func15, Tryz.ntmps15
  go_upto_region 1 with (fail)
  generalize hW : W.alloc _ = W1
  have X0 : Blk W1 W.heap.size arr := by rw [← hW]; exact Blk.new W arr _
  have T0 : Blk W1 g t.arr := by rw [← hW]; exact hT.alloc _
  have K0 : Touch [g] W W1 := by rw [← hW]; exact Touch.of ((Below.refl _ _).alloc (Nat.le_refl _) _)
  clear hW
  have x1 := X0.cell
  have t1 := T0.cell
  have t2 := T0.frozen
  have t3 := T0.lt
  have e8 := hv.hasTemp
  by_cases h5 : t.first < 5
  · rw [if_pos h5] at HS
    go_wp2
    go_ret2
    exact RetT.mk HS.out K0 T0
  · rw [if_neg h5] at HS
    go_wp2
    go_ret2
    exact RetT.mk HS.out (K0.trans (Touch.setCell [g] _ (by simp) 1 _)) (T0.setCell 1 _)
end Go.Proofs.YtlleijickhifmaaGreatDoor
