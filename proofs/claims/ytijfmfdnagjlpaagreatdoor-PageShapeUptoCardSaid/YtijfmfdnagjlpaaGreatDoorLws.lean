/- PageShape: the statement walked. -/
import Derived.Test.YtijfmfdnagjlpaaGreatDoorPk46
namespace Go.Proofs.YtijfmfdnagjlpaaGreatDoor
open Go.RowKit Go.Sort
set_option linter.unusedVariables false
set_option linter.unusedSimpArgs false
set_option maxRecDepth 100000
set_option maxHeartbeats 8000000 in
theorem lawShape_any (t : Term) (v : Vw) (d : VAd) (arr : Array Value) (w : World) (hv : v.At d arr) (hO : Open58 w) (hok : v.ok w d) (hr : v.rng) (hp : t.pad.length ≤ 3000000000) (ht : -9223372036854775808 ≤ t.first ∧ t.first ≤ 9223372036854775807) :
    Calls Tryz.prog 5 #[.agg t.arr, .agg arr] w (Ret w (.bool true)) := by
  go_enter Tryz.func5, Tryz.ntmps5
  go_upto_region 1 with (fail)
  generalize hW : (w.alloc _).alloc _ = W
  have X0 : Blk W w.heap.size t.arr := by rw [← hW]; exact (Blk.new w t.arr _).alloc _
  have V0 : Blk W (w.heap.size + 1) arr := by rw [← hW, ← World.size_alloc w (.cells t.arr 23)]; exact Blk.new _ _ _
  have B0 : Below w.heap.size w W := by rw [← hW]; go_grown
  clear hW
  generalize w.heap.size + 1 = gv at V0 ⊢
  generalize w.heap.size = gt at X0 ⊢
  go_upto_region 3 with (go_at_call 9; (with_reducible refine callRB (awake58p_any _ (hO.below B0)) ?_); intro w1 B1)
  have X1 := X0.step B1
  have V1 := V0.step B1
  have C1 := below_step B0 B1
  clear X0 V0 B0 B1
  have j1 : Has_view w1 gv 0 := ⟨_, V1.is_view hv.size⟩
  have j2 : of_view w1 gv 0 = arr := of_view_eq (V1.is_view hv.size)
  have HS := Lib.hid (small58_any v d arr hv w1)
  cases hs : smallB v
  · rw [hs] at HS
    go_wp2_with (go_at_call 10; (with_reducible refine callRB HS.out ?_); intro w2 B2)
    go_ret
    exact Ret.bool rfl (below_step C1 B2)
  · rw [hs] at HS
    go_upto_region 5 with (go_at_call 10; (with_reducible refine callRB HS.out ?_); intro w2 B2)
    have X2 := X1.step B2
    have V2 := V1.step B2
    have C2 := below_step C1 B2
    clear X1 V1 C1 B2 j1 j2 HS hs
    have hO2 := hO.below C2
    have j1 : Has_view w2 gv 0 := ⟨_, V2.is_view hv.size⟩
    have j2 : of_view w2 gv 0 = arr := of_view_eq (V2.is_view hv.size)
    have x4 := X2.has_term
    have x5 := X2.of_term
    have HR := render_any t v d arr hv hr w2 hO2.laid (hok.below C2) ht hp
    have hl := renderS_len t v
    have hsh := renderS_shape t v
    generalize renderS t v = ls at HR hl hsh
    have HR := Lib.hid HR
    go_upto_region 6 with (go_at_call 17; (with_reducible refine callStrs' HR.out ?_); intro v3 w3 O3 B3)
    obtain ⟨A3, c3, rfl, hc3, S3⟩ := O3.form
    obtain ⟨b3, o3, rfl, hb3, k3⟩ := S3.at_ (by rintro rfl; cases hl)
    have C3 := below_step C2 B3
    clear O3 S3 HR x4 x5 j1 j2 X2 V2 C2 B3 hO2
    rw [hl] at hc3 ⊢
    have HL := Lib.hid hl
    clear hl
    go_upto_region 9 with (fail)
    go_loopw [7, 8, 22] (fun _ _ i wr => ∃ k : Nat, k ≤ 14 ∧ i = .int .i64 k ∧ wr = w3) (fun _ _ i _ => 14 - (intOf i).toNat)
    case atStart => exact ⟨0, by omega, rfl, rfl⟩
    case round =>
      obtain ⟨k, hk, rfl, rfl⟩ := hrel
      by_cases hlt : k < 14
      · obtain ⟨s, hs⟩ : ∃ s, ls[k]? = some s := ⟨_, List.getElem?_eq_getElem (by have := HL.out; omega)⟩
        have q3 : wr.cell? ⟨b3, o3 + k, none⟩ = some (.string ⟨s.toArray⟩) := k3 k s hs
        obtain ⟨hs24, hch⟩ := hsh s (List.mem_of_getElem? hs)
        have hlt' : (k : Int) < 14 := by omega
        clear k3 hsh hs
        go_wp2
        go_loopw [8] (fun i w' => ∃ j : Nat, j ≤ 24 ∧ i = .int .i64 j ∧ w' = wr) (fun i _ => 24 - (intOf i).toNat)
        case atStart => exact ⟨0, by omega, rfl, rfl⟩
        case round =>
          obtain ⟨j, hj, rfl, rfl⟩ := hrel
          by_cases hj2 : j < 24
          · have hj3 : (j : Int) < 24 := by omega
            have hj4 : j < s.length := by omega
            have hb := hch s[j] (List.getElem_mem hj4)
            obtain ⟨h1, h2⟩ := hb
            obtain ⟨c, hc⟩ : ∃ c, s[j] = c := ⟨_, rfl⟩
            rw [hc] at h1 h2
            go_wp2
            go_roundw
            case rel => exact ⟨j + 1, by omega, by go_num, trivial⟩
            case measure => simp [intOf]; omega
          · obtain rfl : j = 24 := by omega
            go_wp2
            go_roundw
            case rel => exact ⟨k + 1, by omega, by go_num, trivial⟩
            case measure => simp [intOf]; omega
      · obtain rfl : k = 14 := by omega
        clear k3 hsh
        go_wp2
        go_ret
        exact Ret.bool rfl C3
end Go.Proofs.YtijfmfdnagjlpaaGreatDoor
