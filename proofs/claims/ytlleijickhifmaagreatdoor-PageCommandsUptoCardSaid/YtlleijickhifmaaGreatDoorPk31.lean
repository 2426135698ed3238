/- Layer 58: the function keys. -/
import Derived.Test.YtlleijickhifmaaGreatDoorPk30
namespace Go.Proofs.YtlleijickhifmaaGreatDoor
open Go.RowKit
set_option linter.unusedVariables false
set_option linter.unusedSimpArgs false
def pagesL : List ByteArray := [⟨#[76, 69, 71, 83]⟩, ⟨#[68, 73, 82]⟩, ⟨#[80, 82, 79, 71]⟩, ⟨#[77, 83, 71]⟩]
/-- The block that was made last holds the four names. -/
theorem pages_index (w : World) (x : ByteArray) (n : Nat) (hn : n = w.heap.size) : Calls Tryz.prog 25 #[.slice (some ⟨n, 0, none⟩) 4 4, .string x] (w.alloc (.cells #[.string ⟨#[76, 69, 71, 83]⟩, .string ⟨#[68, 73, 82]⟩, .string ⟨#[80, 82, 79, 71]⟩, .string ⟨#[77, 83, 71]⟩] 9))
    (RetP (w.alloc (.cells #[.string ⟨#[76, 69, 71, 83]⟩, .string ⟨#[68, 73, 82]⟩, .string ⟨#[80, 82, 79, 71]⟩, .string ⟨#[77, 83, 71]⟩] 9)) (.int .i64 (Lib.idxOfS (pagesL.take 4) x))) := by
  subst hn
  refine (Tryz.slices_Index_string w.heap.size 0 4 4 pagesL x _ (by decide) (by decide) ?_).mono fun e w' ⟨h1, h2⟩ => ⟨h1, h2.symm⟩
  intro j hj
  rw [Nat.zero_add]
  have hb := (Blk.new w #[.string ⟨#[76, 69, 71, 83]⟩, .string ⟨#[68, 73, 82]⟩, .string ⟨#[80, 82, 79, 71]⟩, .string ⟨#[77, 83, 71]⟩] 9).cell j
  rw [hb]
  match j, hj with
  | 0, _ | 1, _ | 2, _ | 3, _ => rfl
set_option maxHeartbeats 4000000 in
set_option maxRecDepth 100000 in
theorem fn_LEGS (t : Term) (v : Vw) (d : VAd) (arr : Array Value) (hv : v.At d arr) (g : Nat) (W : World) (hT : Blk W g t.arr) (h0 : 0 ≤ t.first) (h1 : t.first ≤ 1000000) :
    Calls Tryz.prog 15 #[.pointer (some ⟨g, 0, none⟩), .agg arr, .string ⟨#[76, 69, 71, 83]⟩] W (RetT W g (functionS t v kLEGS)) := by
  have HS : Hid (functionS t v kLEGS = ({ t with page := 1, first := 0 }, [], 0)) := Lib.hid rfl
  generalize functionS t v kLEGS = out at *
  have HI : Lib.idxOfS (pagesL.take 4) ⟨#[76, 69, 71, 83]⟩ = 0 := by decide +kernel
  go_enter Tryz.func15, Tryz.ntmps15
  go_upto_region 1 with (fail)
  generalize hW : W.alloc _ = W1
  have X0 : Blk W1 W.heap.size arr := by rw [← hW]; exact Blk.new W arr _
  have T0 : Blk W1 g t.arr := by rw [← hW]; exact hT.alloc _
  have K0 : Touch [g] W W1 := by rw [← hW]; exact Touch.of ((Below.refl _ _).alloc (Nat.le_refl _) _)
  clear hW
  have x1 := X0.cell
  have t1 := T0.cell
  have t2 := T0.frozen
  have t3 := T0.lt
  have e8 := hv.hasTemp
  have T1 := (T0.setCell 1 (.int .i64 0)).alloc (.cells #[.string ⟨#[76, 69, 71, 83]⟩, .string ⟨#[68, 73, 82]⟩, .string ⟨#[80, 82, 79, 71]⟩, .string ⟨#[77, 83, 71]⟩] 9)
  have K1 := (K0.trans (Touch.setCell [g] W1 (g := g) (List.mem_singleton.2 rfl) 1 (.int .i64 0))).trans (Touch.of ((Below.refl _ _).alloc (Nat.le_refl _) (.cells #[.string ⟨#[76, 69, 71, 83]⟩, .string ⟨#[68, 73, 82]⟩, .string ⟨#[80, 82, 79, 71]⟩, .string ⟨#[77, 83, 71]⟩] 9)))
  go_upto_region 12 with (fail)
  refine callP (pages_index _ _ _ (by simp [World.setCell])) ?_
  rw [HI]
  generalize World.alloc _ _ = W2 at T1 K1 ⊢
  have u1 := T1.cell
  have u2 := T1.frozen
  have u3 := T1.lt
  go_wp2
  go_ret2
  exact RetT.mk HS.out (K1.trans (Touch.setCell [g] _ (by simp) 0 _)) (T1.setCell 0 _)
set_option maxHeartbeats 4000000 in
set_option maxRecDepth 100000 in
theorem fn_DIR (t : Term) (v : Vw) (d : VAd) (arr : Array Value) (hv : v.At d arr) (g : Nat) (W : World) (hT : Blk W g t.arr) (h0 : 0 ≤ t.first) (h1 : t.first ≤ 1000000) :
    Calls Tryz.prog 15 #[.pointer (some ⟨g, 0, none⟩), .agg arr, .string ⟨#[68, 73, 82]⟩] W (RetT W g (functionS t v kDIR)) := by
  have HS : Hid (functionS t v kDIR = ({ t with page := 2, first := 0 }, [], 0)) := Lib.hid rfl
  generalize functionS t v kDIR = out at *
  have HI : Lib.idxOfS (pagesL.take 4) ⟨#[68, 73, 82]⟩ = 1 := by decide +kernel
  go_enter Tryz.func15, Tryz.ntmps15
  go_upto_region 1 with (fail)
  generalize hW : W.alloc _ = W1
  have X0 : Blk W1 W.heap.size arr := by rw [← hW]; exact Blk.new W arr _
  have T0 : Blk W1 g t.arr := by rw [← hW]; exact hT.alloc _
  have K0 : Touch [g] W W1 := by rw [← hW]; exact Touch.of ((Below.refl _ _).alloc (Nat.le_refl _) _)
  clear hW
  have x1 := X0.cell
  have t1 := T0.cell
  have t2 := T0.frozen
  have t3 := T0.lt
  have e8 := hv.hasTemp
  have T1 := (T0.setCell 1 (.int .i64 0)).alloc (.cells #[.string ⟨#[76, 69, 71, 83]⟩, .string ⟨#[68, 73, 82]⟩, .string ⟨#[80, 82, 79, 71]⟩, .string ⟨#[77, 83, 71]⟩] 9)
  have K1 := (K0.trans (Touch.setCell [g] W1 (g := g) (List.mem_singleton.2 rfl) 1 (.int .i64 0))).trans (Touch.of ((Below.refl _ _).alloc (Nat.le_refl _) (.cells #[.string ⟨#[76, 69, 71, 83]⟩, .string ⟨#[68, 73, 82]⟩, .string ⟨#[80, 82, 79, 71]⟩, .string ⟨#[77, 83, 71]⟩] 9)))
  go_upto_region 12 with (fail)
  refine callP (pages_index _ _ _ (by simp [World.setCell])) ?_
  rw [HI]
  generalize World.alloc _ _ = W2 at T1 K1 ⊢
  have u1 := T1.cell
  have u2 := T1.frozen
  have u3 := T1.lt
  go_wp2
  go_ret2
  exact RetT.mk HS.out (K1.trans (Touch.setCell [g] _ (by simp) 0 _)) (T1.setCell 0 _)
set_option maxHeartbeats 4000000 in
set_option maxRecDepth 100000 in
theorem fn_PROG (t : Term) (v : Vw) (d : VAd) (arr : Array Value) (hv : v.At d arr) (g : Nat) (W : World) (hT : Blk W g t.arr) (h0 : 0 ≤ t.first) (h1 : t.first ≤ 1000000) :
    Calls Tryz.prog 15 #[.pointer (some ⟨g, 0, none⟩), .agg arr, .string ⟨#[80, 82, 79, 71]⟩] W (RetT W g (functionS t v kPROG)) := by
  have HS : Hid (functionS t v kPROG = ({ t with page := 3, first := 0 }, [], 0)) := Lib.hid rfl
  generalize functionS t v kPROG = out at *
  have HI : Lib.idxOfS (pagesL.take 4) ⟨#[80, 82, 79, 71]⟩ = 2 := by decide +kernel
  go_enter Tryz.func15, Tryz.ntmps15
  go_upto_region 1 with (fail)
  generalize hW : W.alloc _ = W1
  have X0 : Blk W1 W.heap.size arr := by rw [← hW]; exact Blk.new W arr _
  have T0 : Blk W1 g t.arr := by rw [← hW]; exact hT.alloc _
  have K0 : Touch [g] W W1 := by rw [← hW]; exact Touch.of ((Below.refl _ _).alloc (Nat.le_refl _) _)
  clear hW
  have x1 := X0.cell
  have t1 := T0.cell
  have t2 := T0.frozen
  have t3 := T0.lt
  have e8 := hv.hasTemp
  have T1 := (T0.setCell 1 (.int .i64 0)).alloc (.cells #[.string ⟨#[76, 69, 71, 83]⟩, .string ⟨#[68, 73, 82]⟩, .string ⟨#[80, 82, 79, 71]⟩, .string ⟨#[77, 83, 71]⟩] 9)
  have K1 := (K0.trans (Touch.setCell [g] W1 (g := g) (List.mem_singleton.2 rfl) 1 (.int .i64 0))).trans (Touch.of ((Below.refl _ _).alloc (Nat.le_refl _) (.cells #[.string ⟨#[76, 69, 71, 83]⟩, .string ⟨#[68, 73, 82]⟩, .string ⟨#[80, 82, 79, 71]⟩, .string ⟨#[77, 83, 71]⟩] 9)))
  go_upto_region 12 with (fail)
  refine callP (pages_index _ _ _ (by simp [World.setCell])) ?_
  rw [HI]
  generalize World.alloc _ _ = W2 at T1 K1 ⊢
  have u1 := T1.cell
  have u2 := T1.frozen
  have u3 := T1.lt
  go_wp2
  go_ret2
  exact RetT.mk HS.out (K1.trans (Touch.setCell [g] _ (by simp) 0 _)) (T1.setCell 0 _)
set_option maxHeartbeats 4000000 in
set_option maxRecDepth 100000 in
theorem fn_MSG (t : Term) (v : Vw) (d : VAd) (arr : Array Value) (hv : v.At d arr) (g : Nat) (W : World) (hT : Blk W g t.arr) (h0 : 0 ≤ t.first) (h1 : t.first ≤ 1000000) :
    Calls Tryz.prog 15 #[.pointer (some ⟨g, 0, none⟩), .agg arr, .string ⟨#[77, 83, 71]⟩] W (RetT W g (functionS t v kMSG)) := by
  have HS : Hid (functionS t v kMSG = ({ t with page := 4, first := 0 }, [], 0)) := Lib.hid rfl
  generalize functionS t v kMSG = out at *
  have HI : Lib.idxOfS (pagesL.take 4) ⟨#[77, 83, 71]⟩ = 3 := by decide +kernel
  go_enter Tryz.func15, Tryz.ntmps15
  go_upto_region 1 with (fail)
  generalize hW : W.alloc _ = W1
  have X0 : Blk W1 W.heap.size arr := by rw [← hW]; exact Blk.new W arr _
  have T0 : Blk W1 g t.arr := by rw [← hW]; exact hT.alloc _
  have K0 : Touch [g] W W1 := by rw [← hW]; exact Touch.of ((Below.refl _ _).alloc (Nat.le_refl _) _)
  clear hW
  have x1 := X0.cell
  have t1 := T0.cell
  have t2 := T0.frozen
  have t3 := T0.lt
  have e8 := hv.hasTemp
  have T1 := (T0.setCell 1 (.int .i64 0)).alloc (.cells #[.string ⟨#[76, 69, 71, 83]⟩, .string ⟨#[68, 73, 82]⟩, .string ⟨#[80, 82, 79, 71]⟩, .string ⟨#[77, 83, 71]⟩] 9)
  have K1 := (K0.trans (Touch.setCell [g] W1 (g := g) (List.mem_singleton.2 rfl) 1 (.int .i64 0))).trans (Touch.of ((Below.refl _ _).alloc (Nat.le_refl _) (.cells #[.string ⟨#[76, 69, 71, 83]⟩, .string ⟨#[68, 73, 82]⟩, .string ⟨#[80, 82, 79, 71]⟩, .string ⟨#[77, 83, 71]⟩] 9)))
  go_upto_region 15 with (fail)
  refine callP (pages_index _ _ _ (by simp [World.setCell])) ?_
  rw [HI]
  generalize World.alloc _ _ = W2 at T1 K1 ⊢
  have u1 := T1.cell
  have u2 := T1.frozen
  have u3 := T1.lt
  go_wp2
  go_ret2
  exact RetT.mk HS.out (K1.trans (Touch.setCell [g] _ (by simp) 0 _)) (T1.setCell 0 _)
end Go.Proofs.YtlleijickhifmaaGreatDoor
