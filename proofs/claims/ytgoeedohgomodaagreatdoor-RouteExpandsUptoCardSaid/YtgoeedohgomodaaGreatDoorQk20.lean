/- Lemmas and walks. -/
import Derived.Test.YtgoeedohgomodaaGreatDoorQk09
import Derived.Test.YtgoeedohgomodaaGreatDoorQk08
import Derived.Test.YtgoeedohgomodaaGreatDoorQk14
import Derived.Test.YtgoeedohgomodaaGreatDoorQk11
import Derived.Test.YtgoeedohgomodaaGreatDoorQk07
import Derived.Test.YtgoeedohgomodaaGreatDoorQk01
import Derived.Test.YtgoeedohgomodaaGreatDoorQk03
import Derived.Laws.OwnMore
import Derived.Lib.AppendStr
import Derived.Lib.AtoiAll
set_option linter.unusedSimpArgs false
set_option linter.unusedVariables false
namespace Go.Proofs.YtgoeedohgomodaaGreatDoor
open Go.RowKit
end Go.Proofs.YtgoeedohgomodaaGreatDoor
namespace Go.Proofs.YtgoeedohgomodaaGreatDoor
open Go.RowKit
theorem zqW {p:Plan} (h:zaq p=0):zbt none 0 p.es=0∧p.es.length≤60∧-1≤p.active∧p.active < p.es.length:=by
  unfold zaq at h
  split at h
  · simp at h
  · split at h
    · simp at h
    · obtain ⟨h1,h2⟩:=zsM h
      refine ⟨h1,by omega,?_⟩
      unfold zcd at h2
      split at h2
      · omega
      · split at h2
        · simp at h2
        · omega
end Go.Proofs.YtgoeedohgomodaaGreatDoor
