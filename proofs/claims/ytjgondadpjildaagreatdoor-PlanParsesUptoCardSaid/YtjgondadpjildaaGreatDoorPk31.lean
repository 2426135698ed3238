/- What is laid stays where only blocks of the caller's own are written. -/
import Derived.Test.YtjgondadpjildaaGreatDoorPk12
import Derived.Test.YtjgondadpjildaaGreatDoorPk30
namespace Go.Proofs.YtjgondadpjildaaGreatDoor
open Go.RowKit
set_option linter.unusedVariables false
set_option linter.unusedSimpArgs false
theorem Laid.touch {S : List Nat} {w0 w w' : World} (h : Laid w0) (hb : Below w0.heap.size w0 w) (t : Touch S w w') (hs : ∀ x ∈ S, w0.heap.size ≤ x) : Laid w' := h.below (t.below hb hs)
end Go.Proofs.YtjgondadpjildaaGreatDoor
