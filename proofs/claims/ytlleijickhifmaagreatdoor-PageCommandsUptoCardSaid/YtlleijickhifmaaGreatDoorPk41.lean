/- edit.Check and what it calls; walks. -/
import Derived.Test.YtlleijickhifmaaGreatDoorPk40
import Derived.Test.YtlleijickhifmaaGreatDoorPk02
import Derived.Lib.IndexAny
namespace Go.Proofs.YtlleijickhifmaaGreatDoor
open Go.RowKit Go.Sort
set_option linter.unusedVariables false
set_option linter.unusedSimpArgs false
set_option maxRecDepth 100000
theorem alloc_belowE (w : World) (o : Obj) : Below w.heap.size w (w.alloc o) := (Below.refl _ _).alloc (Nat.le_refl _) _
theorem between_any (n lo hi : Int) (w : World) : Calls Tryz.prog 95 #[.int .i64 n, .int .i64 lo, .int .i64 hi] w (RetP w (.int .i64 (betweenS n lo hi))) := by
  go_enter Tryz.func95, Tryz.ntmps95
  go_wp2
  all_goals (go_ret; exact RetP.int (by grind [betweenS]) rfl)
theorem named_any (b : Bool) (w : World) : Calls Tryz.prog 96 #[.bool b] w (RetP w (.int .i64 (namedS b))) := by
  cases b
  all_goals
    go_enter Tryz.func96, Tryz.ntmps96
    go_wp2
    go_ret
    exact RetP.int rfl rfl
theorem eplace_any (l : List UInt8) (w : World) (hL : Laid w) (hl : l.length ≤ 4000000000) : Calls Tryz.prog 97 #[.string ⟨l.toArray⟩] w (RetQ w (.bool (pairB l 47 6))) := by
  have hc := cutAt_len 47 l
  generalize hq : cutAt 47 l = q at hc
  obtain ⟨a, b, f⟩ := q
  have hs := Lib.hid (show pairB l 47 6 = pair3 (a, b, f) 6 by rw [pairB, hq])
  have HQ := Lib.hid hq; clear hq
  simp only at hc
  obtain ⟨ha, hb⟩ := hc
  go_enter Tryz.func97, Tryz.ntmps97
  go_wp2_with fail
  refine (cut_any l 47 w hL hl).mono ?_
  rintro e w' ⟨rfl, n, rfl⟩
  rw [HQ.out]
  cases f
  all_goals
    go_wp2_with (go_at_call 78; refine callP (name_any _ _ _ (by omega)) ?_)
    all_goals (go_ret; exact RetQ.bool (by rw [hs.out]; grind [pair3]) ⟨_, rfl⟩)
def bwin (parts : Array (Nat × Value)) : Sem Value := Instr.build 51 parts
theorem bwin_fold (parts : Array (Nat × Value)) : Instr.build 51 parts = bwin parts := rfl
theorem run_bwin0 (w : World) : (bwin #[]).run Tryz.prog w = .ok (.agg (Win.arr ⟨0, 0⟩)) w := run_build w _ _ _ (by kernel_rfl)
attribute [local go_sem ↓] bwin_fold
attribute [local go_sem] run_bwin0 run_eql_win run_neq_win
/-- An edit in a box of its own. -/
theorem edt_box (w : World) (e : EditV) : Blk (w.alloc (.cells e.arr 53)) w.heap.size e.arr ∧ Below w.heap.size w (w.alloc (.cells e.arr 53)) := ⟨Blk.new _ _ _, alloc_belowE _ _⟩
theorem zero_any (e : EditV) (c : UInt8) (hc : c ∈ edOrder) (w : World) : Calls Tryz.prog 64 #[.agg e.arr, .int .u8 (c.toNat : Int)] w (Ret w (.bool (zeroF e c))) := by
  obtain ⟨X0, B0⟩ := edt_box w e
  simp only [edOrder, List.mem_cons, List.not_mem_nil, or_false] at hc
  rcases hc with rfl | rfl | rfl | rfl | rfl | rfl | rfl | rfl | rfl | rfl
  all_goals
    go_enter Tryz.func64, Tryz.ntmps64
    go_upto_region 1 with (fail)
    generalize w.alloc _ = W at X0 B0 ⊢
    generalize w.heap.size = g at X0 ⊢
    have k := X0.cell
    have i1 : Has_win W g 6 := ⟨_, X0.edt_win⟩
    have i2 : of_win W g 6 = ⟨e.lo, e.hi⟩ := of_win_eq X0.edt_win
    have HE := Lib.hid (show zeroF e 104 = (e.lo == 0 && e.hi == 0) from rfl)
    go_wp2
    all_goals (go_ret; refine Ret.bool ?_ B0)
    all_goals first
      | rfl
      | (rw [HE.out]; grind)
theorem echeck_name (e : EditV) (hs : e.small) (w : World) (hL : Laid w) : Calls Tryz.prog 65 #[.agg e.arr, .int .u8 110] w (Ret w (.int .i64 (checkF e 110))) := by
  obtain ⟨X0, B0⟩ := edt_box w e
  obtain ⟨s1, s2, s3, s4⟩ := hs
  have L0 := hL.below B0
  have kpl := Lib.hid (eplace_any e.name (w.alloc (.cells e.arr 53)) L0 s2)
  have kn8 := Lib.hid (fun w => name_any e.name 8 w (by omega))
  have kd := Lib.hid named_any
  have HE := Lib.hid (show checkF e 110 = if e.op = 12 then namedS (pairB e.name 47 6) else namedS (nameB e.name 8) from rfl)
  generalize checkF e 110 = out at HE ⊢
  generalize pairB e.name 47 6 = b1 at kpl HE
  generalize nameB e.name 8 = b2 at kn8 HE
  go_enter Tryz.func65, Tryz.ntmps65
  go_upto_region 1 with (fail)
  generalize w.alloc _ = W at X0 B0 kpl ⊢
  generalize w.heap.size = g at X0 ⊢
  have k := X0.cell
  clear X0
  by_cases h12 : e.op = 12
  · have HO := Lib.hid (HE.out.trans (if_pos h12))
    clear HE
    go_wp2_with (first
      | (go_at_call 96; (with_reducible refine callP (kd.out _ _) ?_))
      | (go_at_call 97; (with_reducible refine callQ kpl.out ?_); intro m))
    go_ret
    exact Ret.int HO.out.symm (below_drewN B0 _)
  · have HO := Lib.hid (HE.out.trans (if_neg h12))
    clear HE
    go_wp2_with (first
      | (go_at_call 96; (with_reducible refine callP (kd.out _ _) ?_))
      | (go_at_call 78; (with_reducible refine callP (kn8.out _) ?_)))
    go_ret
    exact Ret.int HO.out.symm B0
theorem echeck_dist (e : EditV) (w : World) : Calls Tryz.prog 65 #[.agg e.arr, .int .u8 100] w (Ret w (.int .i64 (checkF e 100))) := by
  obtain ⟨X0, B0⟩ := edt_box w e
  have kb := Lib.hid between_any
  have HE := Lib.hid (show checkF e 100 = if e.op = 6 then betweenS e.dist 0 120000 else betweenS e.dist 1 2000000 from rfl)
  generalize checkF e 100 = out at HE ⊢
  go_enter Tryz.func65, Tryz.ntmps65
  go_upto_region 1 with (fail)
  generalize w.alloc _ = W at X0 B0 ⊢
  generalize w.heap.size = g at X0 ⊢
  have k := X0.cell
  clear X0
  by_cases h6 : e.op = 6
  · have HO := Lib.hid (HE.out.trans (if_pos h6))
    clear HE
    go_wp2_with (go_at_call 95; (with_reducible refine callP (kb.out _ _ _ _) ?_))
    go_ret
    exact Ret.int HO.out.symm B0
  · have HO := Lib.hid (HE.out.trans (if_neg h6))
    clear HE
    go_wp2_with (go_at_call 95; (with_reducible refine callP (kb.out _ _ _ _) ?_))
    go_ret
    exact Ret.int HO.out.symm B0
set_option maxHeartbeats 4000000 in
theorem echeck_any (e : EditV) (c : UInt8) (hc : c ∈ edOrder) (hs : e.small) (w : World) (hL : Laid w) : Calls Tryz.prog 65 #[.agg e.arr, .int .u8 (c.toNat : Int)] w (Ret w (.int .i64 (checkF e c))) := by
  obtain ⟨X0, B0⟩ := edt_box w e
  obtain ⟨s1, s2, s3, s4⟩ := hs
  have L0 := hL.below B0
  have k114 := Lib.hid (splitRef_any e.ref (w.alloc (.cells e.arr 53)) L0 s1)
  have kpl := Lib.hid (eplace_any e.name (w.alloc (.cells e.arr 53)) L0 s2)
  have kn8 := Lib.hid (name_any e.name 8 (hl := by omega))
  have kr6 := Lib.hid (name_any e.rway 6 (hl := by omega))
  have kt8 := Lib.hid (name_any e.trans 8 (hl := by omega))
  have kb := Lib.hid between_any
  have kd := Lib.hid named_any
  simp only [edOrder, List.mem_cons, List.not_mem_nil, or_false] at hc
  rcases hc with rfl | rfl | rfl | rfl | rfl | rfl | rfl | rfl | rfl | rfl
  case inr.inr.inl => exact echeck_name e ⟨s1, s2, s3, s4⟩ w hL
  case inr.inr.inr.inr.inr.inr.inr.inr.inl => exact echeck_dist e w
  case inr.inl =>
    have HE := Lib.hid (show checkF e 114 = namedS ((splitRef e.ref).2.2 == 0) from rfl)
    generalize checkF e 114 = out at HE ⊢
    generalize splitRef e.ref = x at k114 HE
    obtain ⟨a, b, n⟩ := x
    go_enter Tryz.func65, Tryz.ntmps65
    go_upto_region 1 with (fail)
    generalize w.alloc _ = W at X0 B0 k114 ⊢
    generalize w.heap.size = g at X0 ⊢
    have k := X0.cell
    clear X0
    go_wp2_with (first
      | (go_at_call 96; (with_reducible refine callP (kd.out _ _) ?_))
      | (go_at_call 47; (with_reducible refine callQ k114.out ?_); intro m))
    go_ret
    exact Ret.int HE.out.symm (below_drewN B0 _)
  case inr.inr.inr.inl =>
    have HE := Lib.hid (show checkF e 119 = namedS (e.rway.isEmpty || nameB e.rway 6) from rfl)
    generalize checkF e 119 = out at HE ⊢
    generalize nameB e.rway 6 = b at kr6 HE
    go_enter Tryz.func65, Tryz.ntmps65
    go_upto_region 1 with (fail)
    generalize w.alloc _ = W at X0 B0 ⊢
    generalize w.heap.size = g at X0 ⊢
    have k := X0.cell
    cases hq : e.rway.isEmpty with
    | true =>
      rw [hq] at HE
      go_wp2_with (first | (go_at_call 96; (with_reducible refine callP (kd.out _ _) ?_)) | (go_at_call 78; (with_reducible refine callP (kr6.out _) ?_)))
      go_ret
      exact Ret.int HE.out.symm B0
    | false =>
      rw [hq] at HE
      go_wp2_with (first | (go_at_call 96; (with_reducible refine callP (kd.out _ _) ?_)) | (go_at_call 78; (with_reducible refine callP (kr6.out _) ?_)))
      go_ret
      exact Ret.int HE.out.symm B0
  case inr.inr.inr.inr.inl =>
    have HE := Lib.hid (show checkF e 116 = namedS (e.trans.isEmpty || nameB e.trans 8) from rfl)
    generalize checkF e 116 = out at HE ⊢
    generalize nameB e.trans 8 = b at kt8 HE
    go_enter Tryz.func65, Tryz.ntmps65
    go_upto_region 1 with (fail)
    generalize w.alloc _ = W at X0 B0 ⊢
    generalize w.heap.size = g at X0 ⊢
    have k := X0.cell
    cases hq : e.trans.isEmpty with
    | true =>
      rw [hq] at HE
      go_wp2_with (first | (go_at_call 96; (with_reducible refine callP (kd.out _ _) ?_)) | (go_at_call 78; (with_reducible refine callP (kt8.out _) ?_)))
      go_ret
      exact Ret.int HE.out.symm B0
    | false =>
      rw [hq] at HE
      go_wp2_with (first | (go_at_call 96; (with_reducible refine callP (kd.out _ _) ?_)) | (go_at_call 78; (with_reducible refine callP (kt8.out _) ?_)))
      go_ret
      exact Ret.int HE.out.symm B0
  all_goals
    go_enter Tryz.func65, Tryz.ntmps65
    go_upto_region 1 with (fail)
    generalize w.alloc _ = W at X0 B0 ⊢
    generalize w.heap.size = g at X0 ⊢
    have k := X0.cell
    go_wp2_with (go_at_call 95; (with_reducible refine callP (kb.out _ _ _ _) ?_))
    all_goals (go_ret; refine Ret.int ?_ B0)
    all_goals first
      | rfl
      | (have HE : checkF e 104 = (if e.lo < -200000 ∨ e.hi < e.lo ∨ 6000000 < e.hi then 2 else 0) := rfl; rw [HE]; grind)
      | (have HE : checkF e 117 = (if e.turn = 1 ∨ e.turn = 2 then 0 else 1) := rfl; rw [HE]; grind)
end Go.Proofs.YtlleijickhifmaaGreatDoor
