/- A block of the caller's own that is written cell by cell; what a call that writes such blocks leaves alone. -/
import Derived.Test.YtlleijickhifmaaGreatDoorPk03
namespace Go.Proofs.YtlleijickhifmaaGreatDoor
open Go.RowKit
set_option linter.unusedVariables false
set_option linter.unusedSimpArgs false
theorem Blk.setCell {W : World} {g : Nat} {cs : Array Value} (h : Blk W g cs) (k : Nat) (v : Value) : Blk (W.setCell ⟨g, k, none⟩ v) g (cs.setIfInBounds k v) := by
  obtain ⟨t, h⟩ := h
  have hlt : g < W.heap.size := by
    rcases Nat.lt_or_ge g W.heap.size with hlt | hge
    · exact hlt
    · rw [Array.getElem?_eq_none hge] at h; cases h
  refine ⟨t, ?_⟩
  simp only [World.setCell, Array.getElem?_modify, if_true, h]
  rfl
theorem Blk.setFar {W : World} {g g' : Nat} {cs : Array Value} (h : Blk W g cs) (hne : g ≠ g') (k : Nat) (v : Value) : Blk (W.setCell ⟨g', k, none⟩ v) g cs := by
  obtain ⟨t, h⟩ := h
  exact ⟨t, (Below.heap_setCell W ⟨g', k, none⟩ v g hne).trans h⟩
/-- All blocks but those of S are as they were. -/
structure Touch (S : List Nat) (w w' : World) : Prop where
  os : w'.os = w.os
  tape : w'.tape = w.tape
  output : w'.output = w.output
  size : w.heap.size ≤ w'.heap.size
  block : ∀ k, k < w.heap.size → k ∉ S → w'.heap[k]? = w.heap[k]?
theorem Touch.refl (S : List Nat) (w : World) : Touch S w w := ⟨rfl, rfl, rfl, Nat.le_refl _, fun _ _ _ => rfl⟩
theorem Touch.trans {S : List Nat} {a b c : World} (h : Touch S a b) (k : Touch S b c) : Touch S a c :=
  ⟨k.os.trans h.os, k.tape.trans h.tape, k.output.trans h.output, Nat.le_trans h.size k.size, fun i hi hn => (k.block i (Nat.lt_of_lt_of_le hi h.size) hn).trans (h.block i hi hn)⟩
theorem Touch.of {S : List Nat} {w w' : World} (h : Below w.heap.size w w') : Touch S w w' := ⟨h.os, h.tape, h.output, h.size, fun k hk _ => h.block k hk⟩
theorem Touch.mono {S T : List Nat} {w w' : World} (h : Touch S w w') (hs : ∀ x ∈ S, x ∈ T) : Touch T w w' := ⟨h.os, h.tape, h.output, h.size, fun k hk hn => h.block k hk (fun e => hn (hs k e))⟩
theorem Touch.setCell (S : List Nat) (w : World) {g : Nat} (hg : g ∈ S) (k : Nat) (v : Value) : Touch S w (w.setCell ⟨g, k, none⟩ v) :=
  ⟨rfl, rfl, rfl, by simp [World.setCell], fun i hi hn => Below.heap_setCell _ _ _ _ (fun e => hn (by rw [show i = g from e]; exact hg))⟩
theorem Touch.below {S : List Nat} {w0 w w' : World} (h : Touch S w w') (hb : Below w0.heap.size w0 w) (hs : ∀ x ∈ S, w0.heap.size ≤ x) : Below w0.heap.size w0 w' :=
  hb.trans ⟨h.os, h.tape, h.output, h.size, fun k hk => h.block k (Nat.lt_of_lt_of_le hk hb.size) (fun e => by have := hs k e; omega)⟩
theorem Touch.blk {S : List Nat} {w w' : World} {g : Nat} {cs : Array Value} (h : Touch S w w') (hg : g ∉ S) (hb : Blk w g cs) : Blk w' g cs := by
  have hlt := hb.lt
  obtain ⟨t, hb⟩ := hb
  exact ⟨t, (h.block g hlt hg).trans hb⟩
theorem Touch.cell {S : List Nat} {w w' : World} {g : Nat} (h : Touch S w w') (hg : g ∉ S) (hlt : g < w.heap.size) (j : Nat) : w'.cell? ⟨g, j, none⟩ = w.cell? ⟨g, j, none⟩ := World.cell?_of_block (w := w) (h.block g hlt hg)
theorem Touch.drewN {S : List Nat} {w w' : World} (h : Touch S w w') (n : Nat) : Touch S w (w'.drewN n) := ⟨h.os, h.tape, h.output, h.size, h.block⟩
theorem Touch.drew {S : List Nat} {w w' : World} (h : Touch S w w') : Touch S w w'.drew := ⟨h.os, h.tape, h.output, h.size, h.block⟩
theorem below_setCell {B g : Nat} {w0 w : World} (hb : Below B w0 w) (hBg : B ≤ g) (k : Nat) (v : Value) : Below B w0 (w.setCell ⟨g, k, none⟩ v) := hb.setCell (by simpa using hBg) v
end Go.Proofs.YtlleijickhifmaaGreatDoor
