/- edit.Check; walk. -/
import Derived.Test.YtlleijickhifmaaGreatDoorPk41
import Derived.Lib.SlBytesConst
namespace Go.Proofs.YtlleijickhifmaaGreatDoor
open Go.RowKit Go.Sort
set_option linter.unusedVariables false
set_option linter.unusedSimpArgs false
set_option maxRecDepth 100000
/-- The forms of the operations, as edit.forms holds them. -/
structure FormsAt (w : World) : Prop where
  word : ∀ k : Nat, k ≤ 12 → w.cell? ⟨0, k * 2, none⟩ = some (.string ⟨(formW (k : Int)).toArray⟩)
  flds : ∀ k : Nat, k ≤ 12 → w.cell? ⟨0, k * 2 + 1, none⟩ = some (.string ⟨(formF (k : Int)).toArray⟩)
theorem FormsAt.below {w w' : World} (h : FormsAt w) (hb : Below w.heap.size w w') : FormsAt w' :=
  ⟨fun k hk => by rw [hb.cell (p := ⟨_, k * 2, none⟩) (block_lt_of_cell (h.word k hk))]; exact h.word k hk,
   fun k hk => by rw [hb.cell (p := ⟨_, k * 2 + 1, none⟩) (block_lt_of_cell (h.flds k hk))]; exact h.flds k hk⟩
theorem eindex_any (l : List UInt8) (c : UInt8) (w : World) : Calls Tryz.prog 63 #[.string ⟨l.toArray⟩, .int .u8 (c.toNat : Int)] w (RetP w (.int .i64 (Lib.indexByte l c))) := by
  refine (Tryz.strings_IndexByte ⟨l.toArray⟩ (c.toNat : Int) w).mono fun e w' ⟨h1, h2⟩ => ⟨?_, h2.symm⟩
  rw [h1]
  simp
theorem index_yes {l : List UInt8} {c : UInt8} (h : l.contains c = true) : ¬ Lib.indexByte l c < 0 := by
  have := Lib.contains_iff_indexByte l c
  rw [h] at this
  have := of_decide_eq_true this.symm
  omega
theorem index_no {l : List UInt8} {c : UInt8} (h : l.contains c = false) : Lib.indexByte l c < 0 := by
  have := Lib.contains_iff_indexByte l c
  rw [h] at this
  have := of_decide_eq_false this.symm
  omega
def edCells : Array Value := #[.int .u8 97, .int .u8 114, .int .u8 110, .int .u8 119, .int .u8 116, .int .u8 104, .int .u8 115, .int .u8 99, .int .u8 100, .int .u8 117]
theorem edCells_at : ∀ k : Nat, (h : k < 10) → edCells[k]? = some (.int .u8 ((edOrder[k]'h).toNat : Int)) := by
  intro k h
  match k, h with
  | 0, _ | 1, _ | 2, _ | 3, _ | 4, _ | 5, _ | 6, _ | 7, _ | 8, _ | 9, _ => rfl
set_option maxHeartbeats 4000000 in
theorem editCheck_any (e : EditV) (hs : e.small) (w : World) (hL : Laid w) (hF : FormsAt w) : Calls Tryz.prog 36 #[.agg e.arr] w (Ret w (.int .i64 (editCheck e))) := by
  obtain ⟨X0, B0⟩ := edt_box w e
  by_cases hop : e.op < 1 ∨ 12 < e.op
  · have HO := Lib.hid (show editCheck e = 17 from if_pos hop)
    by_cases h1 : e.op < 1
    · clear hop
      go_enter Tryz.func36, Tryz.ntmps36
      go_upto_region 1 with (fail)
      generalize w.alloc _ = W at X0 B0 ⊢
      generalize w.heap.size = g at X0 ⊢
      have k := X0.cell
      go_wp2
      go_ret
      exact Ret.int HO.out.symm B0
    · have h2 : 12 < e.op := by omega
      clear hop
      go_enter Tryz.func36, Tryz.ntmps36
      go_upto_region 1 with (fail)
      generalize w.alloc _ = W at X0 B0 ⊢
      generalize w.heap.size = g at X0 ⊢
      have k := X0.cell
      go_wp2
      go_ret
      exact Ret.int HO.out.symm B0
  · have HO := Lib.hid (show editCheck e = chkGo e edOrder from if_neg hop)
    obtain ⟨n, hn⟩ : ∃ n : Nat, e.op = n := ⟨e.op.toNat, by omega⟩
    have hn12 : n ≤ 12 := by omega
    have h1 : ¬ e.op < 1 := by omega
    have h2 : ¬ 12 < e.op := by omega
    have f1 := (hF.below B0).flds n hn12
    have hLB := Lib.hid (fun w' (h : Below w.heap.size w w') => hL.below h)
    clear hop
    go_enter Tryz.func36, Tryz.ntmps36
    go_upto_region 3 with (fail)
    generalize w.alloc _ = W at X0 B0 f1 ⊢
    obtain ⟨g, hg⟩ : ∃ g, g = w.heap.size := ⟨_, rfl⟩
    rw [← hg] at X0 ⊢
    clear hg
    have k0 := X0.cell
    have kc := Lib.run_convert_bytes_const (P := Tryz.prog) W 71 5 edCells 10 10 Tryz.underlying71 Tryz.underlying5
    have B1 := below_step B0 (alloc_belowE W (.cells edCells 5 (edCells.size, edCells.size + 1)))
    have X1 := X0.alloc (.cells edCells 5 (edCells.size, edCells.size + 1))
    have hb : ∀ k, (h : k < 10) → (W.alloc (.cells edCells 5 (edCells.size, edCells.size + 1))).cell? ⟨W.heap.size, k, none⟩ = some (.int .u8 ((edOrder[k]'h).toNat : Int)) := fun k h => by
      rw [cell_of_row _ _ k edCells 5 _ (heap_alloc_new W _)]; exact edCells_at k h
    have hsz : W.heap.size < (W.alloc (.cells edCells 5 (edCells.size, edCells.size + 1))).heap.size := by simp
    have HBY := Lib.hid hb
    clear hb
    rw [show edCells.size = 10 from rfl] at kc B1 X1 HBY hsz
    unfold edCells at kc B1 X1 HBY hsz
    go_wp2
    clear kc k0
    generalize W.alloc _ = W1 at B1 X1 HBY hsz ⊢
    generalize W.heap.size = gb at HBY hsz ⊢
    go_loopw [23] (fun i wr => ∃ k : Nat, k ≤ 10 ∧ i = .int .i64 k ∧ chkGo e edOrder = chkGo e (edOrder.drop k) ∧ Below W1.heap.size W1 wr) (fun i _ => 10 - (intOf i).toNat)
    case atStart => exact ⟨0, by omega, rfl, rfl, Below.refl _ _⟩
    case round =>
      obtain ⟨k, hk, rfl, hq, BW⟩ := hrel
      have HQ := Lib.hid hq
      clear hq
      have HXr := Lib.hid (X1.step BW)
      have HBr := Lib.hid (below_step B1 BW)
      by_cases hlt : k < 10
      · have hcb := HBY.out k hlt
        rw [← BW.cell (p := ⟨gb, k, none⟩) hsz] at hcb
        have hlt2 : k < edOrder.length := hlt
        have hcm := List.getElem_mem hlt2
        have HS := Lib.hid (show chkGo e edOrder = orE (stE e (edOrder[k]'hlt)) (chkGo e (edOrder.drop (k + 1))) by rw [HQ.out, List.drop_eq_getElem_cons hlt2]; rfl)
        clear HQ
        generalize edOrder[k]'hlt = c at hcb hcm HS
        obtain ⟨rest, hrest⟩ : ∃ rest, chkGo e (edOrder.drop (k + 1)) = rest := ⟨_, rfl⟩
        rw [hrest] at HS
        have HRS := Lib.hid hrest
        clear hrest
        have kix := Lib.hid (eindex_any (formF (n : Int)) c)
        have hst : stE e c = if (formF (n : Int)).contains c then checkF e c else if zeroF e c then 0 else 1 := by unfold stE; rw [hn]
        have kz := Lib.hid (zero_any e c hcm wr)
        have kk := Lib.hid (echeck_any e c hcm hs wr (hLB.out _ HBr.out))
        have i1 : Has_edt wr g 0 := ⟨_, HXr.out.is_edt⟩
        have i2 : of_edt wr g 0 = e := of_edt_eq HXr.out.is_edt
        have hiy := @index_yes (formF (n : Int)) c
        have hin := @index_no (formF (n : Int)) c
        generalize (formF (n : Int)).contains c = u at hst hiy hin
        generalize Lib.indexByte (formF (n : Int)) c = ix at kix hiy hin
        generalize stE e c = z at HS hst
        generalize checkF e c = zc at kk hst
        generalize zeroF e c = zb at kz hst
        have HIY := Lib.hid hiy
        have HIN := Lib.hid hin
        have HST := Lib.hid hst
        clear hiy hin hst hcm
        cases u with
        | true =>
          have hi := HIY.out rfl
          have HZ := Lib.hid (show z = zc from HST.out)
          clear HST kz HIY HIN
          by_cases hz : zc = 0
          · have HR := Lib.hid (show chkGo e edOrder = rest by rw [HS.out, HZ.out, hz]; rfl)
            subst hz
            clear HS HZ
            go_wp2_with (first | (go_at_call 63; (with_reducible refine callP (kix.out _) ?_)) | (go_at_call 65; (with_reducible refine callR kk.out ?_); intro w2 b2 _ _ _))
            go_roundw
            case rel => exact ⟨k + 1, by omega, by go_num, by rw [HR.out, HRS.out], BW.trans (b2.mono BW.size)⟩
            case measure => simp [intOf]; omega
          · have HR := Lib.hid (show editCheck e = zc by rw [HO.out, HS.out, HZ.out]; simp [orE, hz])
            clear HS HZ
            go_wp2_with (first | (go_at_call 63; (with_reducible refine callP (kix.out _) ?_)) | (go_at_call 65; (with_reducible refine callR kk.out ?_); intro w2 b2 _ _ _))
            go_ret
            exact Ret.int HR.out.symm (below_step HBr.out b2)
        | false =>
          have hi := HIN.out rfl
          cases zb with
          | true =>
            have HR := Lib.hid (show chkGo e edOrder = rest by rw [HS.out, HST.out]; rfl)
            clear HST kk HIY HIN HS
            go_wp2_with (first | (go_at_call 63; (with_reducible refine callP (kix.out _) ?_)) | (go_at_call 64; (with_reducible refine callR kz.out ?_); intro w2 b2 _ _ _))
            go_roundw
            case rel => exact ⟨k + 1, by omega, by go_num, by rw [HR.out, HRS.out], BW.trans (b2.mono BW.size)⟩
            case measure => simp [intOf]; omega
          | false =>
            have HR := Lib.hid (show editCheck e = 1 by rw [HO.out, HS.out, HST.out]; rfl)
            clear HST kk HIY HIN HS
            go_wp2_with (first | (go_at_call 63; (with_reducible refine callP (kix.out _) ?_)) | (go_at_call 64; (with_reducible refine callR kz.out ?_); intro w2 b2 _ _ _))
            go_ret
            exact Ret.int HR.out.symm (below_step HBr.out b2)
      · have HR := Lib.hid (show editCheck e = 0 by rw [HO.out, HQ.out, List.drop_of_length_le (show edOrder.length ≤ k by show 10 ≤ k; omega)]; rfl)
        clear HQ
        go_wp2
        go_ret
        exact Ret.int HR.out.symm HBr.out
end Go.Proofs.YtlleijickhifmaaGreatDoor
