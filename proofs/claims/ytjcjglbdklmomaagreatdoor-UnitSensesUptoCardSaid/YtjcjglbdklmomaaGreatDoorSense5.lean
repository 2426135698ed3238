/- Layer 57: the bytes of a number. -/
import Derived.Test.YtjcjglbdklmomaaGreatDoorSense1
import Derived.Test.YtjcjglbdklmomaaGreatDoorGro
namespace Go.Proofs.YtjcjglbdklmomaaGreatDoor
open Go.RowKit
set_option linter.unusedVariables false
set_option linter.unusedSimpArgs false
theorem pow256 (k : Nat) : (256 : Int) ^ k = 2 ^ (8 * k) := by rw [Int.pow_mul]; rfl
set_option maxHeartbeats 2000000 in
set_option maxRecDepth 100000 in
theorem big_any (B : Nat) (v : Value) (l : List UInt8) (n : Int) (c : Nat) (w : World) (hO : BOut B w v l) (hle : B ≤ w.heap.size) (h0 : 0 ≤ n) (h1 : n < 18446744073709551616) (hc : c ≤ 8) (hl : l.length ≤ 1000000) : Calls Tryz.prog 15 #[v, .int .u64 n, .int .i64 c] w (RetG B w v (l ++ bigB n c)) := by
  obtain ⟨A0, c0, rfl⟩ := hO.form
  have H1 := Lib.hid h1; clear h1
  have HO := Lib.hid hO; clear hO
  obtain ⟨v0, hv0⟩ : ∃ v0 : Value, v0 = .slice A0 l.length c0 := ⟨_, rfl⟩
  have HV := Lib.hid hv0; clear hv0
  go_enter Tryz.func15, Tryz.ntmps15
  go_wp2
  go_loopw [0, 7] (fun s i W => ∃ (k : Nat) (pre : List UInt8), k ≤ c ∧ i = .int .i64 ((k : Int) - 1) ∧ BOut B W s (l ++ pre) ∧ bigB n c = pre ++ bigB n k ∧ pre.length + k = c ∧ Gro w v0 W s) (fun _ i _ => (intOf i + 1).toNat)
  case atStart => exact ⟨c, [], by omega, rfl, by simpa using HO.out, rfl, by simp, by rw [HV.out]; exact Gro.refl _ _⟩
  case round =>
    obtain ⟨k, pre, hk, rfl, hO, hq, hpl, hG⟩ := hrel
    have HQ := Lib.hid hq; clear hq
    have hle' : B ≤ wr.heap.size := Nat.le_trans hle hG.size
    cases k with
    | zero =>
      have HO := Lib.hid hO; clear hO
      go_wp2
      go_ret
      refine ⟨_, rfl, ?_, by have := HV.out; subst this; exact hG⟩
      rw [HQ.out]
      simpa [bigB] using HO.out
    | succ k =>
      rw [show ((k + 1 : Nat) : Int) - 1 = (k : Int) by omega]
      have hbd : bval (byteOf n k) = Value.int .u8 (n / 2 ^ (8 * k) % 256) := by unfold bval; rw [byteOf_nat, pow256]
      have O1 := Lib.hid (World.ownsRow.alloc hO (.cells #[.int .u8 (n / 2 ^ (8 * k) % 256)] 5))
      have HBD := Lib.hid hbd; clear hbd
      have HO := Lib.hid hO; clear hO
      go_wp2_with (at_builtin; refine wpList_append_gro rfl (.tmp 14) (.tmp 20) rfl O1.out rfl [byteOf n k] _ 1 1 rfl rfl (by intro j u hu; match j, hu with | 0, hu => (rw [bvals, List.map_cons, HBD.out] at hu; simp at hu; subst hu; exact cell_of_row _ _ 0 #[.int .u8 (n / 2 ^ (8 * k) % 256)] _ _ (heap_alloc_new _ _)) | j + 1, hu => simp [bvals] at hu) (by simp; omega) (by simp; omega) ?_; intro v2 W2 hO2 hg2)
      go_roundw
      case rel => exact ⟨k, pre ++ [byteOf n k], by omega, rfl, by rw [← List.append_assoc]; exact hO2, by rw [HQ.out]; simp [bigB], by simp; omega, (hG.trans (Gro.alloc _ _ _)).trans hg2⟩
      case measure => simp [intOf]
end Go.Proofs.YtjcjglbdklmomaaGreatDoor
