/- More words for walks: a call in a world with one box of the caller's own. -/
import Derived.Test.YtgafmifamkbmbaaDoorData
import Derived.Deep.MidRow
import Derived.Deep.WholeRow
import Derived.Deep.Light
namespace Go.Proofs.YtgafmifamkbmbaaDoor
open Go.RowKit
set_option linter.unusedVariables false
set_option linter.unusedSimpArgs false
section
variable {P : Program}
theorem callO {f : FuncId} {args : Array Value} {w W : World} {cs : Array Value} {v : Value} {K : Ending → World → Prop} (hO : Own1 w cs W) (h : Calls P f args W (Ret W v))
    (k : ∀ w', Own1 w cs w' → (∀ j, w'.cell? ⟨w.heap.size, j, none⟩ = cs[j]?) → w.heap.size < w'.heap.size → K (.returned v) w') : Calls P f args W K :=
  h.mono fun e w' ⟨he, hw⟩ => by subst he; exact k w' (hO.step hw) (hO.step hw).cell (hO.step hw).lt
theorem callOQ {f : FuncId} {args : Array Value} {w W : World} {cs : Array Value} {v : Value} {K : Ending → World → Prop} (hO : Own1 w cs W) (h : Calls P f args W (RetQ W v))
    (k : ∀ w', Own1 w cs w' → (∀ j, w'.cell? ⟨w.heap.size, j, none⟩ = cs[j]?) → w.heap.size < w'.heap.size → K (.returned v) w') : Calls P f args W K :=
  callO hO (h.mono fun _ _ hh => hh.ret) k
/-- A struct stored into the block that was made last. -/
theorem wpList_store_new {ops : Array Oper} {rest : List Oper} {o : Oper} {a : Act} {w : World} {Q : Exit → Act → World → Prop} (hgd : o.guard = none) (t : TypeId) (x y : Operand) (ho : o.op = .store t x y)
    (c c' : Array Value) (hx : a.eval x = .pointer (some ⟨w.heap.size, 0, none⟩)) (hy : a.eval y = .agg c') (n : Nat) (hi : (P.info? t).map (·.size) = some n) (hn' : c'.size = n) (hn : c.size = n) (h1 : c'.all (·.oneCell') = true)
    (h : wpList P ops Q rest (a.put o.dst undef) (w.alloc (.cells c' t))) : wpList P ops Q (o :: rest) a (w.alloc (.cells c t)) := by
  refine wpList_store_row hgd t x y ho w.heap.size c' hx hy t c (heap_alloc_last w _) (by rw [hn']; exact hi) (by rw [hn, hn']) h1 ?_
  rw [World.setRow_alloc_new]
  exact h
end
end Go.Proofs.YtgafmifamkbmbaaDoor
