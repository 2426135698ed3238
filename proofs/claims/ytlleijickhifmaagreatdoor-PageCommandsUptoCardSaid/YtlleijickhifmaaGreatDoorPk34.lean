/- Layer 58: the reference's line select keys. Layer 58: Press; the reference's Press. Whole structs stored into blocks that the same region made: what the walker must know of the last two blocks. -/
import Derived.Test.YtlleijickhifmaaGreatDoorPk29
import Derived.Test.YtlleijickhifmaaGreatDoorPk08
import Derived.Test.YtlleijickhifmaaGreatDoorPk33
import Derived.Test.YtlleijickhifmaaGreatDoorPk03
namespace Go.Proofs.YtlleijickhifmaaGreatDoor
open Go.RowKit Go.Sort
set_option linter.unusedVariables false
set_option linter.unusedSimpArgs false
theorem convert_u8 (n : Nat) (w : World) (hn : n ≤ 255) : (convert 5 3 (.int .u8 n)).run Tryz.prog w = .ok (.int .i64 n) w := by
  have : IntKind.i64.wrap (n : Int) = n := IntWalk.i64_in _ (by omega)
  simp [go_sem, this]
attribute [local go_sem] run_storeB_term SzIs_term Fits_term Ones_term splice_term
end Go.Proofs.YtlleijickhifmaaGreatDoor
namespace Go.Proofs.YtlleijickhifmaaGreatDoor
open Go.RowKit
set_option linter.unusedVariables false
set_option linter.unusedSimpArgs false
theorem press58_any (t : Term) (v : Vw) (d : VAd) (arr : Array Value) (hv : v.At d arr) (key : List UInt8) (w : World) (hW : WordsAt w) (hL : Laid w) (hR : ErrAt w) (hok : v.ok w d) (hk : key.length ≤ 4000000000) (hp : t.pad.length ≤ 4000000000) :
    Calls Tryz.prog 6 #[.agg t.arr, .agg arr, .string ⟨key.toArray⟩] w (RetR w (pressS t v key)) := by
  rw [pressS_eq]
  by_cases hb : pressBad t key
  · rw [if_pos hb]
    exact press58_bad t v arr hv.size key w hW hL hk hp hb
  · rw [if_neg hb]
    unfold pressBad at hb
    have hmem : key ∈ keysL := by
      by_cases a : key ∈ keysL
      · exact a
      · exact absurd (.inl a) hb
    have hb2 : ¬ (t.page < 1 ∨ 4 < t.page ∨ t.first < 0 ∨ 1000000 < t.first ∨ 24 < t.pad.length) := fun h => hb (.inr h)
    exact press58_good t v d arr hv key w hW hL hR hok hmem (by omega) (by omega) (by omega) (by omega) (by omega)
attribute [local go_sem] run_storeB_term SzIs_term Fits_term Ones_term splice_term
end Go.Proofs.YtlleijickhifmaaGreatDoor
namespace Go.Proofs.YtlleijickhifmaaGreatDoor
open Go.RowKit
set_option linter.unusedVariables false
set_option linter.unusedSimpArgs false
theorem Plain_newS (w : World) (cs : Array Value) (t : TypeId) : Plain (w.alloc (.cells cs t)) w.heap.size = True := eq_true (Blk.new w cs t).plain
theorem blkOf_newS (w : World) (cs : Array Value) (t : TypeId) : blkOf (w.alloc (.cells cs t)) w.heap.size = cs := (Blk.new w cs t).of
theorem Plain_newS2 (w : World) (a : Obj) (cs : Array Value) (t : TypeId) : Plain ((w.alloc a).alloc (.cells cs t)) (w.heap.size + 1) = True := eq_true (by have := (Blk.new (w.alloc a) cs t).plain; simpa using this)
theorem blkOf_newS2 (w : World) (a : Obj) (cs : Array Value) (t : TypeId) : blkOf ((w.alloc a).alloc (.cells cs t)) (w.heap.size + 1) = cs := by have := (Blk.new (w.alloc a) cs t).of; simpa using this
theorem setRow_sizeS (w : World) (g : Nat) (cs : Array Value) : (w.setRow g cs).heap.size = w.heap.size := by simp [World.setRow]
theorem Plain_farS1 (W : World) (n : Nat) (cs : Array Value) : Plain (W.setRow (n + 1) cs) n = Plain W n := propext ⟨fun ⟨c, t, h⟩ => ⟨c, t, (setRow_other W (n + 1) n cs (by omega)).symm.trans h⟩, fun h => Plain_far W n (n + 1) cs (by omega) h⟩
theorem blkOf_farS1 (W : World) (n : Nat) (cs : Array Value) : blkOf (W.setRow (n + 1) cs) n = blkOf W n := blkOf_far W n (n + 1) cs (by omega)
theorem Plain_farS2 (W : World) (n : Nat) (cs : Array Value) : Plain (W.setRow n cs) (n + 1) = Plain W (n + 1) := propext ⟨fun ⟨c, t, h⟩ => ⟨c, t, (setRow_other W n (n + 1) cs (by omega)).symm.trans h⟩, fun h => Plain_far W (n + 1) n cs (by omega) h⟩
theorem blkOf_farS2 (W : World) (n : Nat) (cs : Array Value) : blkOf (W.setRow n cs) (n + 1) = blkOf W (n + 1) := blkOf_far W (n + 1) n cs (by omega)
theorem Plain_oldS2 (w : World) (b : Obj) (cs : Array Value) (t : TypeId) : Plain ((w.alloc (.cells cs t)).alloc b) w.heap.size = True := eq_true (Plain_alloc _ _ b (by simp) (Blk.new w cs t).plain)
theorem blkOf_oldS2 (w : World) (b : Obj) (cs : Array Value) (t : TypeId) : blkOf ((w.alloc (.cells cs t)).alloc b) w.heap.size = cs := by rw [blkOf_alloc _ _ b (by simp)]; exact (Blk.new w cs t).of
/-- Two blocks made one after the other, then filled. -/
theorem two_filled (w : World) (a a' b b' : Array Value) (s t : TypeId) : Blk ((((w.alloc (.cells a s)).alloc (.cells b t)).setRow w.heap.size a').setRow (w.heap.size + 1) b') w.heap.size a' ∧
    Blk ((((w.alloc (.cells a s)).alloc (.cells b t)).setRow w.heap.size a').setRow (w.heap.size + 1) b') (w.heap.size + 1) b' ∧
    Below w.heap.size w ((((w.alloc (.cells a s)).alloc (.cells b t)).setRow w.heap.size a').setRow (w.heap.size + 1) b') := by
  have h2 : Blk ((w.alloc (.cells a s)).alloc (.cells b t)) (w.heap.size + 1) b := by have := Blk.new (w.alloc (.cells a s)) b t; rwa [World.size_alloc] at this
  refine ⟨(((Blk.new w a s).alloc _).set a').far (by omega) _, (h2.far (by omega) _).set b', ?_⟩
  exact below_setRow' (below_setRow' (below_step ((Below.refl _ _).alloc (Nat.le_refl _) _) ((Below.refl _ _).alloc (Nat.le_refl _) _)) (Nat.le_refl _) _) (by omega) _
end Go.Proofs.YtlleijickhifmaaGreatDoor
