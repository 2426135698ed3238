/- Layer 58: Press; the reference's Press. -/
import Derived.Test.YtijfmfdnagjlpaaGreatDoorPk40
import Derived.Test.YtijfmfdnagjlpaaGreatDoorPk41
namespace Go.Proofs.YtijfmfdnagjlpaaGreatDoor
open Go.RowKit
set_option linter.unusedVariables false
set_option linter.unusedSimpArgs false
theorem press58_any (t : Term) (v : Vw) (d : VAd) (arr : Array Value) (hv : v.At d arr) (key : List UInt8) (w : World) (hW : WordsAt w) (hL : Laid w) (hR : ErrAt w) (hok : v.ok w d) (hk : key.length ≤ 4000000000) (hp : t.pad.length ≤ 4000000000) :
    Calls Tryz.prog 11 #[.agg t.arr, .agg arr, .string ⟨key.toArray⟩] w (RetR w (pressS t v key)) := by
  rw [pressS_eq]
  by_cases hb : pressBad t key
  · rw [if_pos hb]
    exact press58_bad t v arr hv.size key w hW hL hk hp hb
  · rw [if_neg hb]
    unfold pressBad at hb
    have hmem : key ∈ keysL := by
      by_cases a : key ∈ keysL
      · exact a
      · exact absurd (.inl a) hb
    have hb2 : ¬ (t.page < 1 ∨ 4 < t.page ∨ t.first < 0 ∨ 1000000 < t.first ∨ 24 < t.pad.length) := fun h => hb (.inr h)
    exact press58_good t v d arr hv key w hW hL hR hok hmem (by omega) (by omega) (by omega) (by omega) (by omega)
attribute [local go_sem] run_storeB_term SzIs_term Fits_term Ones_term splice_term
set_option maxHeartbeats 4000000 in
set_option maxRecDepth 100000 in
theorem rpress58_bad (t : Term) (arr : Array Value) (key : List UInt8) (w : World) (hk : key.length ≤ 4000000000) (hp : t.pad.length ≤ 4000000000) (hbad : pressBad t key) :
    Calls Tryz.prog 12 #[.agg t.arr, .agg arr, .string ⟨key.toArray⟩] w (RetR w (t, [], 1)) := by
  go_enter Tryz.func12, Tryz.ntmps12
  go_upto_region 1 with (fail)
  generalize hW : ((w.alloc _).alloc _).alloc _ = W
  have X0 : Blk W w.heap.size t.arr := by rw [← hW]; exact ((Blk.new w t.arr _).alloc _).alloc _
  have R0 : Blk W (w.heap.size + 2) zeroT.arr := by
    rw [← hW]
    have := Blk.new ((w.alloc (.cells t.arr 23)).alloc (.cells arr 44)) zeroT.arr 23
    simp only [World.size_alloc] at this
    exact this
  have B0 : Below w.heap.size w W := by rw [← hW]; go_grown
  have hle : w.heap.size ≤ w.heap.size + 2 := Nat.le_add_right _ _
  clear hW
  have HC := rknown58_any key W hk
  have k1 : (decide (key ∈ keysL) = false) ∨ (decide (key ∈ keysL) = true ∧ (t.page < 1 ∨ (¬ t.page < 1 ∧ (4 < t.page ∨ (¬ 4 < t.page ∧ (t.first < 0 ∨ (¬ t.first < 0 ∧ (1000000 < t.first ∨ (¬ 1000000 < t.first ∧ 24 < (t.pad.length : Int)))))))))) := by
    unfold pressBad at hbad
    by_cases a : key ∈ keysL
    · right
      refine ⟨by simp [a], ?_⟩
      rcases hbad with h | h | h | h | h | h
      · exact absurd a h
      all_goals omega
    · left; simp [a]
  clear hbad
  generalize decide (key ∈ keysL) = bk at HC k1
  have HC := Lib.hid HC
  rcases k1 with h | ⟨h, h1 | ⟨h1, h2 | ⟨h2, h3 | ⟨h3, h4 | ⟨h4, h5⟩⟩⟩⟩⟩
  all_goals
    subst h
    go_wp2_with (go_at_call 25; refine callRB HC.out ?_; intro w1 B1; have X1 := X0.step B1; have x1 := X1.cell; have x4 := X1.has_term; have x5 := X1.of_term; have R1 := R0.step B1; have r2 := R1.plain; have r3 := R1.of; have B2 := below_step B0 B1)
    exact bodyPost_ret (results_agg3 Tryz.results12 _ _ (w.heap.size + 2) t.arr 3 _ rfl rfl (R1.set _).cell Tryz.underlying23 rfl info_term) rfl (RetR.mk (t := t) (c := []) (e := 1) rfl (below_setRow' B2 hle _))
end Go.Proofs.YtijfmfdnagjlpaaGreatDoor
