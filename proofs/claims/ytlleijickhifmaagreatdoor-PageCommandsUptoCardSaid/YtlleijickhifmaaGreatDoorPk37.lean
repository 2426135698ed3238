/- Layer 58: what all its statements call: small, Start, the reference's Start. -/
import Derived.Test.YtlleijickhifmaaGreatDoorPk35
import Derived.Test.YtlleijickhifmaaGreatDoorPk36
namespace Go.Proofs.YtlleijickhifmaaGreatDoor
open Go.RowKit
set_option linter.unusedVariables false
set_option linter.unusedSimpArgs false
set_option maxRecDepth 100000
def smallB (v : Vw) : Bool := decide (v.active.es.length ≤ 120) && (decide (v.temp.es.length ≤ 120) && decide (v.alerts.length ≤ 40))
set_option maxHeartbeats 4000000 in
theorem small58_any (v : Vw) (d : VAd) (arr : Array Value) (hv : v.At d arr) (w : World) : Calls Tryz.prog 5 #[.agg arr] w (Ret w (.bool (smallB v))) := by
  go_enter Tryz.func5, Tryz.ntmps5
  go_upto_region 1 with (fail)
  have X0 := Blk.new w arr 44
  have B0 := (Below.refl w.heap.size w).alloc (Nat.le_refl _) (.cells arr 44)
  generalize w.alloc _ = W at X0 B0 ⊢
  generalize hg : w.heap.size = g at X0 ⊢
  have x1 := X0.cell
  have e2 := hv.active 2 (by omega)
  rw [Plan.arr2, Nat.zero_add] at e2
  have e6 := hv.temp 2 (by omega)
  rw [Plan.arr2] at e6
  have e32 := hv.alerts
  clear hv
  by_cases h1 : v.active.es.length ≤ 120
  · have h1' : (v.active.es.length : Int) ≤ 120 := by omega
    by_cases h2 : v.temp.es.length ≤ 120
    · have h2' : (v.temp.es.length : Int) ≤ 120 := by omega
      by_cases h3 : v.alerts.length ≤ 40
      · have h3' : (v.alerts.length : Int) ≤ 40 := by omega
        have HS := Lib.hid (show smallB v = true by simp [smallB, h1, h2, h3])
        clear h1 h2 h3
        go_wp2
        go_ret
        exact Ret.bool (by rw [HS.out]) B0
      · have h3' : ¬ (v.alerts.length : Int) ≤ 40 := by omega
        have HS := Lib.hid (show smallB v = false by simp [smallB, h3])
        clear h1 h2 h3
        go_wp2
        go_ret
        exact Ret.bool (by rw [HS.out]) B0
    · have h2' : ¬ (v.temp.es.length : Int) ≤ 120 := by omega
      have HS := Lib.hid (show smallB v = false by simp [smallB, h2])
      clear h1 h2
      go_wp2
      go_ret
      exact Ret.bool (by rw [HS.out]) B0
  · have h1' : ¬ (v.active.es.length : Int) ≤ 120 := by omega
    have HS := Lib.hid (show smallB v = false by simp [smallB, h1])
    clear h1
    go_wp2
    go_ret
    exact Ret.bool (by rw [HS.out]) B0
theorem Term.eqB_self (t : Term) : t.eqB t = true := (Term.eqB_iff t t).2 rfl
theorem i64_of {a : Int} (h : i64 a) : -9223372036854775808 ≤ a ∧ a ≤ 9223372036854775807 := h
end Go.Proofs.YtlleijickhifmaaGreatDoor
