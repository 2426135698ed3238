/- Lemmas and walks. -/
import Derived.Test.YtgoeedohgomodaaGreatDoorPk11
import Derived.Test.YtgoeedohgomodaaGreatDoorPk07
import Derived.Test.YtgoeedohgomodaaGreatDoorPk01
import Derived.Test.YtgoeedohgomodaaGreatDoorPk03
import Derived.Laws.OwnMore
import Derived.Lib.AppendStr
import Derived.Lib.AtoiAll
import Derived.Test.YtgoeedohgomodaaGreatDoorPk08
import Derived.Laws.StructEq
import Derived.Test.YtgoeedohgomodaaGreatDoorPk02
import Derived.Lib.IndexAny
set_option linter.unusedSimpArgs false
set_option linter.unusedVariables false
namespace Go.Proofs.YtgoeedohgomodaaGreatDoor
open Go.RowKit Go.Sort
set_option maxRecDepth 100000
attribute [local go_sem] run_neq_win
end Go.Proofs.YtgoeedohgomodaaGreatDoor
namespace Go.Proofs.YtgoeedohgomodaaGreatDoor
open Go.RowKit
theorem Plan.arr_oneL (p : Plan) (A : Option Addr) (c : Nat) : (p.arr A c).toList.all (·.oneCell') = true := by simp [Plan.arr, Value.oneCell']
theorem info_plan : (Tryz.prog.info? 43).map (·.size) = some 4 := by kernel_rfl
def Is_plan (w : World) (b o : Nat) (x : Array Value) : Prop := x.size = 4 ∧ ∀ j, j < 4 → w.cell? ⟨b, o + j, none⟩ = x[j]?
def Has_plan (w : World) (b o : Nat) : Prop := ∃ x, Is_plan w b o x
open Classical in
noncomputable def of_plan (w : World) (b o : Nat) : Array Value := if h : Has_plan w b o then h.choose else #[]
theorem of_plan_spec {w : World} {b o : Nat} (h : Has_plan w b o) : Is_plan w b o (of_plan w b o) := by
  unfold of_plan
  rw [dif_pos h]
  exact h.choose_spec
theorem of_plan_eq {w : World} {b o : Nat} {x : Array Value} (h : Is_plan w b o x) : of_plan w b o = x := by
  have hs := of_plan_spec ⟨x, h⟩
  apply Array.ext_getElem?
  intro j
  rcases Nat.lt_or_ge j 4 with hj | hj
  · exact (hs.2 j hj).symm.trans (h.2 j hj)
  · rw [Array.getElem?_eq_none (by rw [hs.1]; exact hj), Array.getElem?_eq_none (by rw [h.1]; exact hj)]
def load_plan (v : Value) : Sem Value := Instr.loadAt 43 v
theorem load_plan_fold (v : Value) : Instr.loadAt 43 v = load_plan v := rfl
theorem run_load_plan (w : World) (b o : Nat) (h : Has_plan w b o) : (load_plan (.pointer (some ⟨b, o, none⟩))).run Tryz.prog w = .ok (.agg (of_plan w b o)) w := by
  have hs := of_plan_spec h
  generalize of_plan w b o = x at hs
  have hl := run_load_agg (P := Tryz.prog) w ⟨b, o, none⟩ 43 x.toList _ (fun j v hv => by
    rw [addr_add, hs.2 j (by have := (List.getElem?_eq_some_iff.1 hv).1; rw [← hs.1]; simpa using this)]
    simpa using hv) Tryz.underlying43 rfl (by rw [info_plan]; simp [hs.1])
  simp only [load_plan, Instr.loadAt, Instr.sureAddr, Sem.run_bind, Sem.run_pure, Result.andThen_ok]
  simpa using hl
attribute [go_sem ↓] load_plan_fold
attribute [go_sem] run_load_plan
theorem Blk.is_plan {W : World} {g : Nat} {x : Array Value} (h : Blk W g x) (hx : x.size = 4) : Is_plan W g 0 x := ⟨hx, fun j _ => by rw [Nat.zero_add]; exact h.cell j⟩
def store_plan (p v : Value) : Sem Unit := Instr.storeAt 43 p v
theorem store_plan_fold (p v : Value) : Instr.storeAt 43 p v = store_plan p v := rfl
theorem run_storeN_plan (w : World) (c c' : Array Value) (hc : SzIs c 4) (hc' : SzIs c' 4) (h1 : Ones c') :
    (store_plan (.pointer (some ⟨w.heap.size, 0, none⟩)) (.agg c')).run Tryz.prog (w.alloc (.cells c 43)) = .ok () (w.alloc (.cells c' 43)) :=
  run_storeAt_new (P := Tryz.prog) w 43 c c' (by rw [show c'.size = 4 from hc']; exact info_plan) (by rw [show c'.size = 4 from hc', show c.size = 4 from hc]) (Array.all_eq_true_iff_forall_mem.2 fun v hv => (List.all_eq_true.1 (show c'.toList.all (·.oneCell') = true from h1)) v (by simpa using hv))
theorem SzIs_plan (p : Plan) (A : Option Addr) (c n : Nat) : SzIs (p.arr A c) n = (4 = n) := propext ⟨fun h => h, fun h => h⟩
theorem Ones_plan (p : Plan) (A : Option Addr) (c : Nat) : Ones (p.arr A c) = True := eq_true (Plan.arr_oneL p A c)
attribute [go_sem ↓] store_plan_fold
attribute [go_sem] run_storeN_plan SzIs_plan Ones_plan
end Go.Proofs.YtgoeedohgomodaaGreatDoor
