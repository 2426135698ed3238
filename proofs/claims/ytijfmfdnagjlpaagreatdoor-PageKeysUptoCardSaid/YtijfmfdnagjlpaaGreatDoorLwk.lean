/- PageKeys: the statement walked. -/
import Derived.Test.YtijfmfdnagjlpaaGreatDoorPk46
namespace Go.Proofs.YtijfmfdnagjlpaaGreatDoor
open Go.RowKit Go.Sort
set_option linter.unusedVariables false
set_option linter.unusedSimpArgs false
set_option maxRecDepth 100000
theorem RetR.ret {P : Program} {f : FuncId} {args : Array Value} {W : World} {r : Pressed} (h : Calls P f args W (RetR W r)) : Calls P f args W (Ret W (.tuple #[.agg r.1.arr, .string ⟨r.2.1.toArray⟩, .int .i64 r.2.2])) := h
attribute [local go_sem] run_storeN_term run_storeB_term splice_term SzIs_term Fits_term Ones_term run_eql_term
set_option maxHeartbeats 8000000 in
theorem lawKeys_any (v : Vw) (d : VAd) (arr : Array Value) (n : Int) (hn0 : 0 ≤ n) (hn1 : n ≤ 255) (w : World) (hv : v.At d arr) (hO : Open58 w) (hok : v.ok w d) :
    Calls Tryz.prog 4 #[.agg arr, .int .u8 n] w (Ret w (.bool true)) := by
  go_enter Tryz.func4, Tryz.ntmps4
  go_upto_region 1 with (fail)
  have V0 := Blk.new w arr 44
  have B0 := (Below.refl w.heap.size w).alloc (Nat.le_refl _) (.cells arr 44)
  generalize w.alloc _ = W at V0 B0 ⊢
  generalize w.heap.size = gv at V0 ⊢
  go_upto_region 3 with (go_at_call 9; (with_reducible refine callRB (awake58p_any _ (hO.below B0)) ?_); intro w1 B1)
  have V1 := V0.step B1
  have C1 := below_step B0 B1
  clear V0 B0 B1
  have j1 : Has_view w1 gv 0 := ⟨_, V1.is_view hv.size⟩
  have j2 : of_view w1 gv 0 = arr := of_view_eq (V1.is_view hv.size)
  have HS := Lib.hid (small58_any v d arr hv w1)
  cases hs : smallB v
  · rw [hs] at HS
    go_wp2_with (go_at_call 10; (with_reducible refine callRB HS.out ?_); intro w2 B2)
    go_ret
    exact Ret.bool rfl (below_step C1 B2)
  · rw [hs] at HS
    go_upto_region 5 with (go_at_call 10; (with_reducible refine callRB HS.out ?_); intro w2 B2)
    have V2 := V1.step B2
    have C2 := below_step C1 B2
    clear V1 C1 B2 j1 j2 HS hs
    have hO2 := hO.below C2
    have HK1 := Lib.hid (keys_any w2 hO2.words hO2.laid)
    go_upto_region 6 with (first
      | (go_at_call 15; (with_reducible refine callStrs' HK1.out ?_); intro v3 w3 O3 B3)
      | (go_at_call 16; (with_reducible refine callStrs' (rkeys_any _) ?_); intro v4 w4 O4 B4))
    obtain ⟨A3, c3, rfl, hc3, S3⟩ := O3.form
    obtain ⟨A4, c4, rfl, hc4, S4⟩ := O4.form
    have S3 := S3.stays B4
    have C4 := below_step (below_step C2 B3) B4
    have V4 := (V2.step B3).step B4
    clear O3 O4 C2 V2 HK1 hO2 B3 B4
    obtain ⟨b3, o3, rfl, hb3, k3⟩ := S3.at_ (by decide)
    obtain ⟨b4, o4, rfl, hb4, k4⟩ := S4.at_ (by decide)
    rw [show keysL.length = 61 from rfl] at *
    go_upto_region 9 with (fail)
    go_loopw [7, 8, 9, 10, 30] (fun _ _ _ _ i wr => ∃ k : Nat, k ≤ 61 ∧ i = .int .i64 k ∧ Below w4.heap.size w4 wr) (fun _ _ _ _ i _ => 61 - (intOf i).toNat)
    case atStart => exact ⟨0, by omega, rfl, Below.refl _ _⟩
    case round =>
      obtain ⟨k, hk, rfl, B⟩ := hrel
      have V := V4.step B
      have C := below_step C4 B
      by_cases hlt : k < 61
      · obtain ⟨key, hkey⟩ : ∃ key, keysL[k]? = some key := ⟨_, List.getElem?_eq_getElem (show k < keysL.length from hlt)⟩
        have q3 : wr.cell? ⟨b3, o3 + k, none⟩ = some (.string ⟨key.toArray⟩) := by rw [B.cell (p := ⟨b3, _, none⟩) hb3]; exact k3 k key hkey
        have q4 : wr.cell? ⟨b4, o4 + k, none⟩ = some (.string ⟨key.toArray⟩) := by rw [B.cell (p := ⟨b4, _, none⟩) hb4]; exact k4 k key hkey
        have hmem : key ∈ keysL := List.mem_of_getElem? hkey
        have hkl : key.length ≤ 5 := (by decide +kernel : ∀ key ∈ keysL, key.length ≤ 5) key hmem
        have hb3' : b3 < wr.heap.size := Nat.lt_of_lt_of_le hb3 B.size
        have hb4' : b4 < wr.heap.size := Nat.lt_of_lt_of_le hb4 B.size
        have HE := keys_known v (n % 4 + 1) key hmem (by omega) (by omega)
        have HP : ∀ W, Open58 W → v.ok W d → Calls Tryz.prog 11 #[.agg #[.int .i64 (n % 4 + 1), .int .i64 0, .string ⟨#[]⟩], .agg arr, .string ⟨key.toArray⟩] W (Ret W (.tuple #[.agg (pressS ⟨n % 4 + 1, 0, []⟩ v key).1.arr, .string ⟨(pressS ⟨n % 4 + 1, 0, []⟩ v key).2.1.toArray⟩, .int .i64 (pressS ⟨n % 4 + 1, 0, []⟩ v key).2.2])) :=
          fun W hO hok => RetR.ret (press58_any ⟨n % 4 + 1, 0, []⟩ v d arr hv key W hO.words hO.laid hO.err hok (by omega) (Nat.zero_le _))
        generalize pressS ⟨n % 4 + 1, 0, []⟩ v key = q at HP HE
        obtain ⟨qt, qc, qe⟩ := q
        have HE : qe ≠ 1 := HE
        have hlt' : (k : Int) < 61 := by omega
        have dr : ∀ w : World, Below w.heap.size w w.drew := fun w => (Below.refl _ _).drew
        have al : ∀ (w : World) (o : Obj), Below w.heap.size w (w.alloc o).drew := fun w o => ((Below.refl _ _).alloc (Nat.le_refl _) o).drew
        have j1 : Has_view wr.drew gv 0 := ⟨_, (V.step (dr _)).is_view hv.size⟩
        have j2 : of_view wr.drew gv 0 = arr := of_view_eq ((V.step (dr _)).is_view hv.size)
        have j3 : ∀ o, Has_view (wr.alloc o).drew gv 0 := fun o => ⟨_, (V.step (al _ o)).is_view hv.size⟩
        have j4 : ∀ o, of_view (wr.alloc o).drew gv 0 = arr := fun o => of_view_eq ((V.step (al _ o)).is_view hv.size)
        have a1 : n.tmod 4 = n % 4 := Int.tmod_eq_emod_of_nonneg hn0
        have a2 : IntKind.i64.wrap (n % 4) = n % 4 := IntWalk.i64_in _ (by omega)
        have a3 : IntKind.i64.wrap (n % 4 + 1) = n % 4 + 1 := IntWalk.i64_in _ (by omega)
        have HPa := Lib.hid (HP wr.drew ((hO.below C).below (dr _)) ((hok.below C).below (dr _)))
        have HPb := Lib.hid (fun o => HP (wr.alloc o).drew ((hO.below C).below (al _ o)) ((hok.below C).below (al _ o)))
        clear hkey hmem k3 k4 HP S3 S4
        go_upto_region 11 with (fail)
        go_cut [8, 9, 10] (fun _ _ e wx => e = .int .i64 qe ∧ Below wr.heap.size wr wx)
        case first =>
          go_region_with (go_at_call 11; first
            | ((with_reducible refine callRB HPa.out ?_); intro w2 B2; have u4 := Lib.hid (below_step (dr wr) B2))
            | ((with_reducible refine callRB (HPb.out _) ?_); intro w2 B2; have u4 := Lib.hid (below_step (al wr _) B2); have v1 : Blk w2 wr.heap.size zeroT.arr := ((Blk.new wr zeroT.arr 23).step (dr _)).step B2; have v2 := v1.plain; have v3 := v1.of))
          all_goals
            go_wp2
            go_meet
            first
              | exact ⟨rfl, below_step u4.out ((Below.refl _ _).alloc (Nat.le_refl _) _)⟩
              | exact ⟨rfl, below_setRow' u4.out (Nat.le_refl _) _⟩
        case rest =>
          obtain ⟨rfl, B2⟩ := hcut
          clear a1 a2 a3 HPa HPb j1 j2 j3 j4 dr al
          have q3 : wc.cell? ⟨b3, o3 + k, none⟩ = some (.string ⟨key.toArray⟩) := by rw [B2.cell (p := ⟨b3, _, none⟩) hb3']; exact q3
          have q4 : wc.cell? ⟨b4, o4 + k, none⟩ = some (.string ⟨key.toArray⟩) := by rw [B2.cell (p := ⟨b4, _, none⟩) hb4']; exact q4
          have HE' : (qe == 1) = false := by simpa using HE
          clear HE
          go_upto_region 12 with (fail)
          go_region
          all_goals
            go_wp2
            go_roundw
            case rel => exact ⟨k + 1, by omega, by go_num, below_step B (B2.drew)⟩
            case measure => simp [intOf]; omega
      · obtain rfl : k = 61 := by omega
        clear k3 k4 S3 S4
        go_wp2
        go_ret
        exact Ret.bool rfl C
end Go.Proofs.YtijfmfdnagjlpaaGreatDoor
