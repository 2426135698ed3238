/- PagePresses: the statement walked. -/
import Derived.Test.YtijfmfdnagjlpaaGreatDoorPk46
namespace Go.Proofs.YtijfmfdnagjlpaaGreatDoor
open Go.RowKit
set_option linter.unusedVariables false
set_option linter.unusedSimpArgs false
set_option maxRecDepth 100000
attribute [local go_sem] run_storeN_term SzIs_term Fits_term Ones_term run_eql_term
set_option maxHeartbeats 8000000 in
theorem lawPresses_any (t : Term) (v : Vw) (d : VAd) (arr : Array Value) (key : List UInt8) (w : World) (hv : v.At d arr) (hO : Open58 w) (hok : v.ok w d) (hp : t.pad.length ≤ 3000000000) (hk : key.length ≤ 4000000000) :
    Calls Tryz.prog 3 #[.agg t.arr, .agg arr, .string ⟨key.toArray⟩] w (Ret w (.bool true)) := by
  go_enter Tryz.func3, Tryz.ntmps3
  go_upto_region 1 with (fail)
  generalize hW : (w.alloc _).alloc _ = W
  have X0 : Blk W w.heap.size t.arr := by rw [← hW]; exact (Blk.new w t.arr _).alloc _
  have V0 : Blk W (w.heap.size + 1) arr := by rw [← hW, ← World.size_alloc w (.cells t.arr 23)]; exact Blk.new _ _ _
  have B0 : Below w.heap.size w W := by rw [← hW]; go_grown
  clear hW
  generalize w.heap.size + 1 = gv at V0 ⊢
  generalize w.heap.size = gt at X0 ⊢
  go_upto_region 3 with (go_at_call 9; (with_reducible refine callRB (awake58p_any _ (hO.below B0)) ?_); intro w1 B1)
  have X1 := X0.step B1
  have V1 := V0.step B1
  have C1 := below_step B0 B1
  clear X0 V0 B0 B1
  have hO1 := hO.below C1
  have hok1 := hok.below C1
  have j1 : Has_view w1 gv 0 := ⟨_, V1.is_view hv.size⟩
  have j2 : of_view w1 gv 0 = arr := of_view_eq (V1.is_view hv.size)
  have x1 := X1.cell
  have HS := Lib.hid (small58_any v d arr hv w1)
  cases hs : smallB v
  · rw [hs] at HS
    go_wp2_with (go_at_call 10; (with_reducible refine callRB HS.out ?_); intro w2 B2)
    go_ret
    exact Ret.bool rfl (below_step C1 B2)
  · rw [hs] at HS
    by_cases hp1 : 100 < t.pad.length
    · have hp2 : (100 : Int) < (t.pad.length : Int) := by omega
      go_wp2_with (go_at_call 10; (with_reducible refine callRB HS.out ?_); intro w2 B2; have x2 := (X1.step B2).cell)
      go_ret
      exact Ret.bool rfl (below_step C1 B2)
    · have hp2 : ¬ (100 : Int) < (t.pad.length : Int) := by omega
      clear hO1 hok1 x1
      go_upto_region 5 with (go_at_call 10; (with_reducible refine callRB HS.out ?_); intro w2 B2; have x2 := (X1.step B2).cell)
      have X2 := X1.step B2
      have V2 := V1.step B2
      have C2 := below_step C1 B2
      clear X1 V1 C1 B2 j1 j2 x2 HS hs
      have hO2 := hO.below C2
      have j1 : Has_view w2 gv 0 := ⟨_, V2.is_view hv.size⟩
      have j2 : of_view w2 gv 0 = arr := of_view_eq (V2.is_view hv.size)
      have x4 := X2.has_term
      have x5 := X2.of_term
      have HP := press58_any t v d arr hv key w2 hO2.words hO2.laid hO2.err (hok.below C2) hk (by omega)
      have HR := fun W (h : v.ok W d) => rpress58_any t v d arr hv key W h hk (by omega)
      generalize pressS t v key = q at HP HR
      obtain ⟨qt, qc, qe⟩ := q
      have HP := Lib.hid HP
      have HR := Lib.hid HR
      go_upto_region 6 with (go_at_call 11; (with_reducible refine callTR HP.out ?_); intro w3 B3)
      have Z3 := (Below.refl w3.heap.size w3).alloc (Nat.le_refl _) (.cells qt.arr 23)
      have D3 := below_step B3 Z3
      have X3 := X2.step D3
      have V3 := V2.step D3
      have C3 := below_step C2 D3
      have Q3 := Blk.new w3 qt.arr 23
      clear X2 V2 C2 hO2 j1 j2 x4 x5 HP B3 Z3 D3
      generalize w3.alloc _ = W3 at X3 V3 C3 Q3 ⊢
      generalize w3.heap.size = g3 at Q3 ⊢
      have j1 : Has_view W3 gv 0 := ⟨_, V3.is_view hv.size⟩
      have j2 : of_view W3 gv 0 = arr := of_view_eq (V3.is_view hv.size)
      have x4 := X3.has_term
      have x5 := X3.of_term
      have HR2 := Lib.hid (HR.out W3 (hok.below C3))
      go_upto_region 7 with (go_at_call 12; (with_reducible refine callTR HR2.out ?_); intro w5 B5)
      have Z5 := (Below.refl w5.heap.size w5).alloc (Nat.le_refl _) (.cells qt.arr 23)
      have D5 := below_step B5 Z5
      have Q5 := Q3.step D5
      have C5 := below_step C3 D5
      have R5 := Blk.new w5 qt.arr 23
      clear X3 V3 C3 Q3 j1 j2 x4 x5 HR2 HR B5 Z5 D5
      generalize w5.alloc _ = W5 at Q5 C5 R5 ⊢
      generalize w5.heap.size = g5 at R5 ⊢
      have y1 := Q5.has_term
      have y2 := Q5.of_term
      have y3 := R5.has_term
      have y4 := R5.of_term
      have e1 := Term.eqB_self
      go_wp2_with (first
        | (go_at_call 13; (with_reducible refine callRB (start58_any _) ?_); intro w6 B6)
        | (go_at_call 14; (with_reducible refine callRB (rstart58_any _) ?_); intro w7 B7))
      go_ret
      exact Ret.bool rfl (below_step (below_step C5 B6) B7)
end Go.Proofs.YtijfmfdnagjlpaaGreatDoor
