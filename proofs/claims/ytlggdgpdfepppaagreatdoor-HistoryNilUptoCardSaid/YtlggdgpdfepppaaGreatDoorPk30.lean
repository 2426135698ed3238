/- slices.Clone of points, parts and legs; points of airways, airway.Index; walks. -/
import Derived.Test.YtlggdgpdfepppaaGreatDoorPk25
import Derived.Test.YtlggdgpdfepppaaGreatDoorPk19
import Derived.Test.YtlggdgpdfepppaaGreatDoorPk29
import Derived.Test.YtlggdgpdfepppaaGreatDoorPk01
import Derived.Test.YtlggdgpdfepppaaGreatDoorPk12
import Derived.Test.YtlggdgpdfepppaaGreatDoorPk03
import Derived.Laws.OwnMore
import Derived.Lib.AppendStr
import Derived.Lib.AtoiErrMem
namespace Go.Proofs.YtlggdgpdfepppaaGreatDoor
open Go.RowKit Go.Sort
set_option linter.unusedVariables false
set_option linter.unusedSimpArgs false
set_option maxRecDepth 100000
theorem Items.none_nil {w : World} {n : Nat} {l : List (Array Value)} (h : Items w none n l) : l = [] := by
  rcases l with _ | ⟨y, r⟩
  · rfl
  · obtain ⟨b, o, hh, _⟩ := h.at_ (by simp)
    cases hh
end Go.Proofs.YtlggdgpdfepppaaGreatDoor
