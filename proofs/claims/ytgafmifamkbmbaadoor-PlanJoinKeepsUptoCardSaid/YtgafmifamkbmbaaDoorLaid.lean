/- What the package-level variables hold, and that it is kept wherever memory that was there is kept. -/
import Derived.Test.YtgafmifamkbmbaaDoorKit
namespace Go.Proofs.YtgafmifamkbmbaaDoor
open Go.RowKit
set_option linter.unusedVariables false
set_option linter.unusedSimpArgs false

def usesTab : List Int := [0, 1, 9, 25, 9, 71, 71, 16, 50, 16, 146, 17, 49, 17, 53, 53, 53, 53]
def namesTab : List (List UInt8) := [[], [73, 70], [84, 70], [67, 70], [68, 70], [82, 70], [65, 70], [67, 65], [67, 68], [67, 73], [67, 82], [70, 65], [70, 67], [70, 77], [72, 65], [72, 70], [72, 77], [80, 73]]

structure Laid (w : World) : Prop where
  uses : ∀ k, k < 18 → w.cell? ⟨0, k, none⟩ = some (.int .u16 (usesTab.getD k 0))
  names : ∀ k, k < 18 → w.cell? ⟨1, k, none⟩ = some (.string ⟨(namesTab.getD k []).toArray⟩)
  maxLen : ∃ m, w.cell? ⟨3, 0, none⟩ = some (.int .i64 m)
  pow10 : Lib.TabIs Tryd.prog w "internal/strconv.uint64pow10" .u64 Lib.pow10Tab

theorem gPow10 : Tryd.prog.globalNamed "internal/strconv.uint64pow10" = some 2 := by kernel_rfl
theorem Laid.lt_uses {w : World} (h : Laid w) : 0 < w.heap.size := block_lt_of_cell (h.uses 0 (by omega))
theorem Laid.lt_names {w : World} (h : Laid w) : 1 < w.heap.size := block_lt_of_cell (h.names 0 (by omega))
theorem Laid.lt_maxLen {w : World} (h : Laid w) : 3 < w.heap.size := by obtain ⟨m, hm⟩ := h.maxLen; exact block_lt_of_cell hm
theorem Laid.lt_pow10 {w : World} (h : Laid w) : 2 < w.heap.size := block_lt_of_cell (h.pow10.cell gPow10 0 (by decide))

theorem Laid.below {w w' : World} (h : Laid w) (hb : Below w.heap.size w w') : Laid w' where
  uses k hk := by rw [hb.cell (p := ⟨_, k, none⟩) h.lt_uses]; exact h.uses k hk
  names k hk := by rw [hb.cell (p := ⟨_, k, none⟩) h.lt_names]; exact h.names k hk
  maxLen := by obtain ⟨m, hm⟩ := h.maxLen; exact ⟨m, by rw [hb.cell (p := ⟨_, 0, none⟩) h.lt_maxLen]; exact hm⟩
  pow10 := by
    have h0 := h.pow10
    unfold Lib.TabIs World.var? at h0 ⊢
    rw [gPow10] at h0 ⊢
    simp only [Option.bind_some] at h0 ⊢
    rw [hb.block _ h.lt_pow10]
    exact h0
theorem Laid.alloc {w : World} (h : Laid w) (o : Obj) : Laid (w.alloc o) := h.below ((Below.refl _ _).alloc (Nat.le_refl _) _)
theorem Laid.drewN {w : World} (h : Laid w) (n : Nat) : Laid (w.drewN n) := h.below ⟨rfl, rfl, rfl, Nat.le_refl _, fun _ _ => rfl⟩
theorem Laid.drew {w : World} (h : Laid w) : Laid w.drew := h.below ⟨rfl, rfl, rfl, Nat.le_refl _, fun _ _ => rfl⟩
end Go.Proofs.YtgafmifamkbmbaaDoor
