/- An input as a whole out of and into memory: rules of the walk. -/
import Derived.Test.YtjcjglbdklmomaaGreatDoorSense3
namespace Go.Proofs.YtjcjglbdklmomaaGreatDoor
open Go.RowKit
set_option linter.unusedVariables false
set_option linter.unusedSimpArgs false
theorem info_sense : (Tryz.prog.info? 26).map (·.size) = some 13 := by kernel_rfl
def Is_sense (w : World) (b o : Nat) (x : Array Value) : Prop := x.size = 13 ∧ ∀ j, j < 13 → w.cell? ⟨b, o + j, none⟩ = x[j]?
def Has_sense (w : World) (b o : Nat) : Prop := ∃ x, Is_sense w b o x
open Classical in
noncomputable def of_sense (w : World) (b o : Nat) : Array Value := if h : Has_sense w b o then h.choose else #[]
theorem of_sense_spec {w : World} {b o : Nat} (h : Has_sense w b o) : Is_sense w b o (of_sense w b o) := by
  unfold of_sense
  rw [dif_pos h]
  exact h.choose_spec
theorem of_sense_eq {w : World} {b o : Nat} {x : Array Value} (h : Is_sense w b o x) : of_sense w b o = x := by
  have hs := of_sense_spec ⟨x, h⟩
  apply Array.ext_getElem?
  intro j
  rcases Nat.lt_or_ge j 13 with hj | hj
  · exact (hs.2 j hj).symm.trans (h.2 j hj)
  · rw [Array.getElem?_eq_none (by rw [hs.1]; exact hj), Array.getElem?_eq_none (by rw [h.1]; exact hj)]
theorem Has_sense_drewN (w : World) (b o n : Nat) : Has_sense (w.drewN n) b o = Has_sense w b o := propext ⟨fun h => h, fun h => h⟩
theorem of_sense_drewN (w : World) (b o n : Nat) : of_sense (w.drewN n) b o = of_sense w b o := rfl
theorem Is_sense.below {w w' : World} {B b o : Nat} {x : Array Value} (h : Is_sense w b o x) (hb : Below B w w') (hlt : b < B) : Is_sense w' b o x := ⟨h.1, fun j hj => by rw [hb.cell (p := ⟨b, _, none⟩) hlt]; exact h.2 j hj⟩
theorem Blk.is_sense {W : World} {g : Nat} {x : Array Value} (h : Blk W g x) (hx : x.size = 13) : Is_sense W g 0 x := ⟨hx, fun j _ => by rw [Nat.zero_add]; exact h.cell j⟩
def load_sense (v : Value) : Sem Value := Instr.loadAt 26 v
theorem load_sense_fold (v : Value) : Instr.loadAt 26 v = load_sense v := rfl
theorem run_load_sense (w : World) (b o : Nat) (h : Has_sense w b o) : (load_sense (.pointer (some ⟨b, o, none⟩))).run Tryz.prog w = .ok (.agg (of_sense w b o)) w := by
  have hs := of_sense_spec h
  generalize of_sense w b o = x at hs
  have hl := run_load_agg (P := Tryz.prog) w ⟨b, o, none⟩ 26 x.toList _ (fun j v hv => by
    rw [addr_add, hs.2 j (by have := (List.getElem?_eq_some_iff.1 hv).1; rw [← hs.1]; simpa using this)]
    simpa using hv) Tryz.underlying26 rfl (by rw [info_sense]; simp [hs.1])
  simp only [load_sense, Instr.loadAt, Instr.sureAddr, Sem.run_bind, Sem.run_pure, Result.andThen_ok]
  simpa using hl
attribute [go_sem ↓] load_sense_fold
attribute [go_sem] run_load_sense Has_sense_drewN of_sense_drewN
def store_sense (p v : Value) : Sem Unit := Instr.storeAt 26 p v
theorem store_sense_fold (p v : Value) : Instr.storeAt 26 p v = store_sense p v := rfl
theorem run_storeN_sense (w : World) (c c' : Array Value) (hc : SzIs c 13) (hc' : SzIs c' 13) (h1 : Ones c') :
    (store_sense (.pointer (some ⟨w.heap.size, 0, none⟩)) (.agg c')).run Tryz.prog (w.alloc (.cells c 26)) = .ok () (w.alloc (.cells c' 26)) :=
  run_storeAt_new (P := Tryz.prog) w 26 c c' (by rw [show c'.size = 13 from hc']; exact info_sense) (by rw [show c'.size = 13 from hc', show c.size = 13 from hc]) (Array.all_eq_true_iff_forall_mem.2 fun v hv => (List.all_eq_true.1 (show c'.toList.all (·.oneCell') = true from h1)) v (by simpa using hv))
theorem run_storeB_sense (W : World) (g o : Nat) (v : Array Value) (hv : SzIs v 13) (h1 : Ones v) (hp : Plain W g) (hn : Fits o 13 (blkOf W g)) :
    (store_sense (.pointer (some ⟨g, o, none⟩)) (.agg v)).run Tryz.prog W = .ok () (W.setRow g (splice (blkOf W g) o v)) := run_store_blk W g o 13 _ v info_sense hv h1 hp hn
attribute [go_sem ↓] store_sense_fold
attribute [go_sem] run_storeN_sense run_storeB_sense
end Go.Proofs.YtjcjglbdklmomaaGreatDoor
