/- plan.Text: the lines of a valid plan, joined. The texts of the legs' numbers are told by the callees' contracts (LegTexts). -/
import Derived.Test.YtcgmemkkcaipfaaGreatDoorPk22
import Derived.Test.YtcgmemkkcaipfaaGreatDoorPk14
import Derived.Test.YtcgmemkkcaipfaaGreatDoorPk24
namespace Go.Proofs.YtcgmemkkcaipfaaGreatDoor
open Go.RowKit Go.Sort
set_option linter.unusedVariables false
set_option linter.unusedSimpArgs false
/- '++' under a name that the walk does not open. -/
attribute [local go_sem] ba_cat cat_len
theorem headLine_len {p : Plan} (hs : p.small) (hp : planCheck p = 0) : (headLine p).length ≤ 8000000100 := by
  have h := planCheck_ok hp
  have := itoa_len p.active (by omega) (by omega)
  have := dashB_len p.from_
  have := dashB_len p.to_
  have := hs.from_
  have := hs.to_
  simp only [headLine, List.length_append, List.length_cons, List.length_nil]
  omega
theorem Blk.leg1 {W : World} {g : Nat} {x : Entry} (h : Blk W g x.arr) : Is_leg W g 1 x.leg := fun j hj => by rw [h.cell]; exact x.leg_sub j hj
def PRel (tx : Leg → LegTx) (p : Plan) (w1 : World) (t i : Value) (wr : World) : Prop :=
  ∃ k : Nat, k ≤ p.es.length ∧ i = .int .i64 k ∧ SOut w1 wr t (headLine p :: (p.es.take k).map (lineOf tx)) ∧ Below w1.heap.size w1 wr
end Go.Proofs.YtcgmemkkcaipfaaGreatDoor
