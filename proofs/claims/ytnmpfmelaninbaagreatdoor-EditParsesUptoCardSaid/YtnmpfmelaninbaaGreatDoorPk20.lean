/- From the rows' premises to the walks': the sentinels of strconv; a string among the arguments. edit.Check and what it calls; walks. edit.Check; walk. From the rows' premises to the walks' of layer 23: the forms, the discontinuity, no restriction. -/
import Derived.Test.YtnmpfmelaninbaaGreatDoorPk19
import Derived.Test.YtnmpfmelaninbaaGreatDoorPk16
import Derived.Test.YtnmpfmelaninbaaGreatDoorPk02
import Derived.Lib.IndexAny
import Derived.Lib.SlBytesConst
import Derived.Test.YtnmpfmelaninbaaGreatDoorPk07
namespace Go.Proofs.YtnmpfmelaninbaaGreatDoor
open Go.RowKit Go.ChangeShapes Go.WideShapes Go.Deep
set_option linter.unusedVariables false
set_option linter.unusedSimpArgs false
theorem gErrR : Tryz.prog.globalNamed "strconv.ErrRange" = some 9 := by kernel_rfl
theorem gErrS : Tryz.prog.globalNamed "strconv.ErrSyntax" = some 8 := by kernel_rfl
set_option maxRecDepth 100000 in
theorem sent_of {w : World} {l : List (String × DataW Unit)} {d : DataW Unit} {n : String} {g : Nat} (h : laidMet Tryz.prog l w) (hm : (n, d) ∈ l) (hg : Tryz.prog.globalNamed n = some g) (ht : (Tryz.prog.globals[g]?).map (·.type) = some 155) :
    ∃ ev, w.cell? ⟨g, 0, none⟩ = some ev ∧ (ev = .nilIface ∨ ∃ te pe, ev = .iface te pe) := by
  obtain ⟨ps, hv, _, _⟩ := h
  obtain ⟨g', t', cs, fuel, p, hg', ht', hvar, hd⟩ := laidVars_mem hv _ _ hm
  obtain rfl := Option.some.inj (hg.symm.trans hg')
  obtain rfl : 155 = t' := Option.some.inj (ht.symm.trans ht')
  have key : ∃ ev, cs.toList = [ev] ∧ (ev = .nilIface ∨ ∃ u v, ev = .iface u v) := by
    cases fuel with
    | zero => simp [DataW.trod] at hd
    | succ n =>
      unfold DataW.trod at hd
      rw [Tryz.underlying155] at hd
      split at hd <;> simp_all
  obtain ⟨ev, hcs, hev⟩ := key
  refine ⟨ev, ?_, hev⟩
  rw [World.var?_cell hg hvar 0]
  have : cs = #[ev] := Array.toList_inj.1 (by rw [hcs])
  rw [this]; rfl
theorem errs_of {w : World} {l : List (String × DataW Unit)} {d e : DataW Unit} (h : laidMet Tryz.prog l w) (h1 : ("strconv.ErrRange", d) ∈ l) (h2 : ("strconv.ErrSyntax", e) ∈ l) : ErrsAt w :=
  ⟨sent_of h h1 gErrR (by kernel_rfl), sent_of h h2 gErrS (by kernel_rfl)⟩
section
variable {H : Type} {enc : TypeId × Value → H} {w : World} {base : Nat} {spare : Nat → Bool} {held : Bool}
set_option maxRecDepth 100000 in
theorem open_strX {r : Reach} {b0 : Nat} {v : Value} {d : DataW H} {ps : List MemPlace} (hv : Value.okWide Tryz.prog w r b0 9 v) (h : DataW.Trod enc Tryz.prog w base spare held 9 v d ps) : ∃ s : List UInt8, v = .string ⟨s.toArray⟩ ∧ s.length ≤ Rows.uptoBulk d := by
  obtain ⟨s, rfl, rfl, rfl, _⟩ := Go.ChangeMaps.open_string Tryz.underlying9 hv h
  exact ⟨s.data.toList, by simp, by simp [Rows.uptoBulk]⟩
end
end Go.Proofs.YtnmpfmelaninbaaGreatDoor
namespace Go.Proofs.YtnmpfmelaninbaaGreatDoor
open Go.RowKit Go.Sort
set_option linter.unusedVariables false
set_option linter.unusedSimpArgs false
set_option maxRecDepth 100000
theorem alloc_belowE (w : World) (o : Obj) : Below w.heap.size w (w.alloc o) := (Below.refl _ _).alloc (Nat.le_refl _) _
theorem between_any (n lo hi : Int) (w : World) : Calls Tryz.prog 84 #[.int .i64 n, .int .i64 lo, .int .i64 hi] w (RetP w (.int .i64 (betweenS n lo hi))) := by
  go_enter Tryz.func84, Tryz.ntmps84
  go_wp2
  all_goals (go_ret; exact RetP.int (by grind [betweenS]) rfl)
theorem named_any (b : Bool) (w : World) : Calls Tryz.prog 86 #[.bool b] w (RetP w (.int .i64 (namedS b))) := by
  cases b
  all_goals
    go_enter Tryz.func86, Tryz.ntmps86
    go_wp2
    go_ret
    exact RetP.int rfl rfl
theorem eplace_any (l : List UInt8) (w : World) (hL : Laid w) (hl : l.length ≤ 4000000000) : Calls Tryz.prog 87 #[.string ⟨l.toArray⟩] w (RetQ w (.bool (pairB l 47 6))) := by
  have hc := cutAt_len 47 l
  generalize hq : cutAt 47 l = q at hc
  obtain ⟨a, b, f⟩ := q
  have hs := Lib.hid (show pairB l 47 6 = pair3 (a, b, f) 6 by rw [pairB, hq])
  have HQ := Lib.hid hq; clear hq
  simp only at hc
  obtain ⟨ha, hb⟩ := hc
  go_enter Tryz.func87, Tryz.ntmps87
  go_wp2_with fail
  refine (cut_any l 47 w hL hl).mono ?_
  rintro e w' ⟨rfl, n, rfl⟩
  rw [HQ.out]
  cases f
  all_goals
    go_wp2_with (go_at_call 88; refine callP (name_any _ _ _ (by omega)) ?_)
    all_goals (go_ret; exact RetQ.bool (by rw [hs.out]; grind [pair3]) ⟨_, rfl⟩)
def bwin (parts : Array (Nat × Value)) : Sem Value := Instr.build 24 parts
theorem bwin_fold (parts : Array (Nat × Value)) : Instr.build 24 parts = bwin parts := rfl
theorem run_bwin0 (w : World) : (bwin #[]).run Tryz.prog w = .ok (.agg (Win.arr ⟨0, 0⟩)) w := run_build w _ _ _ (by kernel_rfl)
attribute [local go_sem ↓] bwin_fold
attribute [local go_sem] run_bwin0 run_eql_win run_neq_win
/-- An edit in a box of its own. -/
theorem edt_box (w : World) (e : EditV) : Blk (w.alloc (.cells e.arr 26)) w.heap.size e.arr ∧ Below w.heap.size w (w.alloc (.cells e.arr 26)) := ⟨Blk.new _ _ _, alloc_belowE _ _⟩
theorem zero_any (e : EditV) (c : UInt8) (hc : c ∈ edOrder) (w : World) : Calls Tryz.prog 31 #[.agg e.arr, .int .u8 (c.toNat : Int)] w (Ret w (.bool (zeroF e c))) := by
  obtain ⟨X0, B0⟩ := edt_box w e
  simp only [edOrder, List.mem_cons, List.not_mem_nil, or_false] at hc
  rcases hc with rfl | rfl | rfl | rfl | rfl | rfl | rfl | rfl | rfl | rfl
  all_goals
    go_enter Tryz.func31, Tryz.ntmps31
    go_upto_region 1 with (fail)
    generalize w.alloc _ = W at X0 B0 ⊢
    generalize w.heap.size = g at X0 ⊢
    have k := X0.cell
    have i1 : Has_win W g 6 := ⟨_, X0.edt_win⟩
    have i2 : of_win W g 6 = ⟨e.lo, e.hi⟩ := of_win_eq X0.edt_win
    have HE := Lib.hid (show zeroF e 104 = (e.lo == 0 && e.hi == 0) from rfl)
    go_wp2
    all_goals (go_ret; refine Ret.bool ?_ B0)
    all_goals first
      | rfl
      | (rw [HE.out]; grind)
theorem echeck_name (e : EditV) (hs : e.small) (w : World) (hL : Laid w) : Calls Tryz.prog 32 #[.agg e.arr, .int .u8 110] w (Ret w (.int .i64 (checkF e 110))) := by
  obtain ⟨X0, B0⟩ := edt_box w e
  obtain ⟨s1, s2, s3, s4⟩ := hs
  have L0 := hL.below B0
  have kpl := Lib.hid (eplace_any e.name (w.alloc (.cells e.arr 26)) L0 s2)
  have kn8 := Lib.hid (fun w => name_any e.name 8 w (by omega))
  have kd := Lib.hid named_any
  have HE := Lib.hid (show checkF e 110 = if e.op = 12 then namedS (pairB e.name 47 6) else namedS (nameB e.name 8) from rfl)
  generalize checkF e 110 = out at HE ⊢
  generalize pairB e.name 47 6 = b1 at kpl HE
  generalize nameB e.name 8 = b2 at kn8 HE
  go_enter Tryz.func32, Tryz.ntmps32
  go_upto_region 1 with (fail)
  generalize w.alloc _ = W at X0 B0 kpl ⊢
  generalize w.heap.size = g at X0 ⊢
  have k := X0.cell
  clear X0
  by_cases h12 : e.op = 12
  · have HO := Lib.hid (HE.out.trans (if_pos h12))
    clear HE
    go_wp2_with (first
      | (go_at_call 86; (with_reducible refine callP (kd.out _ _) ?_))
      | (go_at_call 87; (with_reducible refine callQ kpl.out ?_); intro m))
    go_ret
    exact Ret.int HO.out.symm (below_drewN B0 _)
  · have HO := Lib.hid (HE.out.trans (if_neg h12))
    clear HE
    go_wp2_with (first
      | (go_at_call 86; (with_reducible refine callP (kd.out _ _) ?_))
      | (go_at_call 88; (with_reducible refine callP (kn8.out _) ?_)))
    go_ret
    exact Ret.int HO.out.symm B0
theorem echeck_dist (e : EditV) (w : World) : Calls Tryz.prog 32 #[.agg e.arr, .int .u8 100] w (Ret w (.int .i64 (checkF e 100))) := by
  obtain ⟨X0, B0⟩ := edt_box w e
  have kb := Lib.hid between_any
  have HE := Lib.hid (show checkF e 100 = if e.op = 6 then betweenS e.dist 0 120000 else betweenS e.dist 1 2000000 from rfl)
  generalize checkF e 100 = out at HE ⊢
  go_enter Tryz.func32, Tryz.ntmps32
  go_upto_region 1 with (fail)
  generalize w.alloc _ = W at X0 B0 ⊢
  generalize w.heap.size = g at X0 ⊢
  have k := X0.cell
  clear X0
  by_cases h6 : e.op = 6
  · have HO := Lib.hid (HE.out.trans (if_pos h6))
    clear HE
    go_wp2_with (go_at_call 84; (with_reducible refine callP (kb.out _ _ _ _) ?_))
    go_ret
    exact Ret.int HO.out.symm B0
  · have HO := Lib.hid (HE.out.trans (if_neg h6))
    clear HE
    go_wp2_with (go_at_call 84; (with_reducible refine callP (kb.out _ _ _ _) ?_))
    go_ret
    exact Ret.int HO.out.symm B0
set_option maxHeartbeats 4000000 in
theorem echeck_any (e : EditV) (c : UInt8) (hc : c ∈ edOrder) (hs : e.small) (w : World) (hL : Laid w) : Calls Tryz.prog 32 #[.agg e.arr, .int .u8 (c.toNat : Int)] w (Ret w (.int .i64 (checkF e c))) := by
  obtain ⟨X0, B0⟩ := edt_box w e
  obtain ⟨s1, s2, s3, s4⟩ := hs
  have L0 := hL.below B0
  have k114 := Lib.hid (splitRef_any e.ref (w.alloc (.cells e.arr 26)) L0 s1)
  have kpl := Lib.hid (eplace_any e.name (w.alloc (.cells e.arr 26)) L0 s2)
  have kn8 := Lib.hid (name_any e.name 8 (hl := by omega))
  have kr6 := Lib.hid (name_any e.rway 6 (hl := by omega))
  have kt8 := Lib.hid (name_any e.trans 8 (hl := by omega))
  have kb := Lib.hid between_any
  have kd := Lib.hid named_any
  simp only [edOrder, List.mem_cons, List.not_mem_nil, or_false] at hc
  rcases hc with rfl | rfl | rfl | rfl | rfl | rfl | rfl | rfl | rfl | rfl
  case inr.inr.inl => exact echeck_name e ⟨s1, s2, s3, s4⟩ w hL
  case inr.inr.inr.inr.inr.inr.inr.inr.inl => exact echeck_dist e w
  case inr.inl =>
    have HE := Lib.hid (show checkF e 114 = namedS ((splitRef e.ref).2.2 == 0) from rfl)
    generalize checkF e 114 = out at HE ⊢
    generalize splitRef e.ref = x at k114 HE
    obtain ⟨a, b, n⟩ := x
    go_enter Tryz.func32, Tryz.ntmps32
    go_upto_region 1 with (fail)
    generalize w.alloc _ = W at X0 B0 k114 ⊢
    generalize w.heap.size = g at X0 ⊢
    have k := X0.cell
    clear X0
    go_wp2_with (first
      | (go_at_call 86; (with_reducible refine callP (kd.out _ _) ?_))
      | (go_at_call 85; (with_reducible refine callQ k114.out ?_); intro m))
    go_ret
    exact Ret.int HE.out.symm (below_drewN B0 _)
  case inr.inr.inr.inl =>
    have HE := Lib.hid (show checkF e 119 = namedS (e.rway.isEmpty || nameB e.rway 6) from rfl)
    generalize checkF e 119 = out at HE ⊢
    generalize nameB e.rway 6 = b at kr6 HE
    go_enter Tryz.func32, Tryz.ntmps32
    go_upto_region 1 with (fail)
    generalize w.alloc _ = W at X0 B0 ⊢
    generalize w.heap.size = g at X0 ⊢
    have k := X0.cell
    cases hq : e.rway.isEmpty with
    | true =>
      rw [hq] at HE
      go_wp2_with (first | (go_at_call 86; (with_reducible refine callP (kd.out _ _) ?_)) | (go_at_call 88; (with_reducible refine callP (kr6.out _) ?_)))
      go_ret
      exact Ret.int HE.out.symm B0
    | false =>
      rw [hq] at HE
      go_wp2_with (first | (go_at_call 86; (with_reducible refine callP (kd.out _ _) ?_)) | (go_at_call 88; (with_reducible refine callP (kr6.out _) ?_)))
      go_ret
      exact Ret.int HE.out.symm B0
  case inr.inr.inr.inr.inl =>
    have HE := Lib.hid (show checkF e 116 = namedS (e.trans.isEmpty || nameB e.trans 8) from rfl)
    generalize checkF e 116 = out at HE ⊢
    generalize nameB e.trans 8 = b at kt8 HE
    go_enter Tryz.func32, Tryz.ntmps32
    go_upto_region 1 with (fail)
    generalize w.alloc _ = W at X0 B0 ⊢
    generalize w.heap.size = g at X0 ⊢
    have k := X0.cell
    cases hq : e.trans.isEmpty with
    | true =>
      rw [hq] at HE
      go_wp2_with (first | (go_at_call 86; (with_reducible refine callP (kd.out _ _) ?_)) | (go_at_call 88; (with_reducible refine callP (kt8.out _) ?_)))
      go_ret
      exact Ret.int HE.out.symm B0
    | false =>
      rw [hq] at HE
      go_wp2_with (first | (go_at_call 86; (with_reducible refine callP (kd.out _ _) ?_)) | (go_at_call 88; (with_reducible refine callP (kt8.out _) ?_)))
      go_ret
      exact Ret.int HE.out.symm B0
  all_goals
    go_enter Tryz.func32, Tryz.ntmps32
    go_upto_region 1 with (fail)
    generalize w.alloc _ = W at X0 B0 ⊢
    generalize w.heap.size = g at X0 ⊢
    have k := X0.cell
    go_wp2_with (go_at_call 84; (with_reducible refine callP (kb.out _ _ _ _) ?_))
    all_goals (go_ret; refine Ret.int ?_ B0)
    all_goals first
      | rfl
      | (have HE : checkF e 104 = (if e.lo < -200000 ∨ e.hi < e.lo ∨ 6000000 < e.hi then 2 else 0) := rfl; rw [HE]; grind)
      | (have HE : checkF e 117 = (if e.turn = 1 ∨ e.turn = 2 then 0 else 1) := rfl; rw [HE]; grind)
end Go.Proofs.YtnmpfmelaninbaaGreatDoor
namespace Go.Proofs.YtnmpfmelaninbaaGreatDoor
open Go.RowKit Go.Sort
set_option linter.unusedVariables false
set_option linter.unusedSimpArgs false
set_option maxRecDepth 100000
/-- The forms of the operations, as edit.forms holds them. -/
structure FormsAt (w : World) : Prop where
  word : ∀ k : Nat, k ≤ 12 → w.cell? ⟨0, k * 2, none⟩ = some (.string ⟨(formW (k : Int)).toArray⟩)
  flds : ∀ k : Nat, k ≤ 12 → w.cell? ⟨0, k * 2 + 1, none⟩ = some (.string ⟨(formF (k : Int)).toArray⟩)
theorem FormsAt.below {w w' : World} (h : FormsAt w) (hb : Below w.heap.size w w') : FormsAt w' :=
  ⟨fun k hk => by rw [hb.cell (p := ⟨_, k * 2, none⟩) (block_lt_of_cell (h.word k hk))]; exact h.word k hk,
   fun k hk => by rw [hb.cell (p := ⟨_, k * 2 + 1, none⟩) (block_lt_of_cell (h.flds k hk))]; exact h.flds k hk⟩
theorem eindex_any (l : List UInt8) (c : UInt8) (w : World) : Calls Tryz.prog 30 #[.string ⟨l.toArray⟩, .int .u8 (c.toNat : Int)] w (RetP w (.int .i64 (Lib.indexByte l c))) := by
  refine (Tryz.strings_IndexByte ⟨l.toArray⟩ (c.toNat : Int) w).mono fun e w' ⟨h1, h2⟩ => ⟨?_, h2.symm⟩
  rw [h1]
  simp
theorem index_yes {l : List UInt8} {c : UInt8} (h : l.contains c = true) : ¬ Lib.indexByte l c < 0 := by
  have := Lib.contains_iff_indexByte l c
  rw [h] at this
  have := of_decide_eq_true this.symm
  omega
theorem index_no {l : List UInt8} {c : UInt8} (h : l.contains c = false) : Lib.indexByte l c < 0 := by
  have := Lib.contains_iff_indexByte l c
  rw [h] at this
  have := of_decide_eq_false this.symm
  omega
def edCells : Array Value := #[.int .u8 97, .int .u8 114, .int .u8 110, .int .u8 119, .int .u8 116, .int .u8 104, .int .u8 115, .int .u8 99, .int .u8 100, .int .u8 117]
theorem edCells_at : ∀ k : Nat, (h : k < 10) → edCells[k]? = some (.int .u8 ((edOrder[k]'h).toNat : Int)) := by
  intro k h
  match k, h with
  | 0, _ | 1, _ | 2, _ | 3, _ | 4, _ | 5, _ | 6, _ | 7, _ | 8, _ | 9, _ => rfl
set_option maxHeartbeats 4000000 in
theorem editCheck_any (e : EditV) (hs : e.small) (w : World) (hL : Laid w) (hF : FormsAt w) : Calls Tryz.prog 13 #[.agg e.arr] w (Ret w (.int .i64 (editCheck e))) := by
  obtain ⟨X0, B0⟩ := edt_box w e
  by_cases hop : e.op < 1 ∨ 12 < e.op
  · have HO := Lib.hid (show editCheck e = 17 from if_pos hop)
    by_cases h1 : e.op < 1
    · clear hop
      go_enter Tryz.func13, Tryz.ntmps13
      go_upto_region 1 with (fail)
      generalize w.alloc _ = W at X0 B0 ⊢
      generalize w.heap.size = g at X0 ⊢
      have k := X0.cell
      go_wp2
      go_ret
      exact Ret.int HO.out.symm B0
    · have h2 : 12 < e.op := by omega
      clear hop
      go_enter Tryz.func13, Tryz.ntmps13
      go_upto_region 1 with (fail)
      generalize w.alloc _ = W at X0 B0 ⊢
      generalize w.heap.size = g at X0 ⊢
      have k := X0.cell
      go_wp2
      go_ret
      exact Ret.int HO.out.symm B0
  · have HO := Lib.hid (show editCheck e = chkGo e edOrder from if_neg hop)
    obtain ⟨n, hn⟩ : ∃ n : Nat, e.op = n := ⟨e.op.toNat, by omega⟩
    have hn12 : n ≤ 12 := by omega
    have h1 : ¬ e.op < 1 := by omega
    have h2 : ¬ 12 < e.op := by omega
    have f1 := (hF.below B0).flds n hn12
    have hLB := Lib.hid (fun w' (h : Below w.heap.size w w') => hL.below h)
    clear hop
    go_enter Tryz.func13, Tryz.ntmps13
    go_upto_region 3 with (fail)
    generalize w.alloc _ = W at X0 B0 f1 ⊢
    obtain ⟨g, hg⟩ : ∃ g, g = w.heap.size := ⟨_, rfl⟩
    rw [← hg] at X0 ⊢
    clear hg
    have k0 := X0.cell
    have kc := Lib.run_convert_bytes_const (P := Tryz.prog) W 89 5 edCells 10 10 Tryz.underlying89 Tryz.underlying5
    have B1 := below_step B0 (alloc_belowE W (.cells edCells 5 (edCells.size, edCells.size + 1)))
    have X1 := X0.alloc (.cells edCells 5 (edCells.size, edCells.size + 1))
    have hb : ∀ k, (h : k < 10) → (W.alloc (.cells edCells 5 (edCells.size, edCells.size + 1))).cell? ⟨W.heap.size, k, none⟩ = some (.int .u8 ((edOrder[k]'h).toNat : Int)) := fun k h => by
      rw [cell_of_row _ _ k edCells 5 _ (heap_alloc_new W _)]; exact edCells_at k h
    have hsz : W.heap.size < (W.alloc (.cells edCells 5 (edCells.size, edCells.size + 1))).heap.size := by simp
    have HBY := Lib.hid hb
    clear hb
    rw [show edCells.size = 10 from rfl] at kc B1 X1 HBY hsz
    unfold edCells at kc B1 X1 HBY hsz
    go_wp2
    clear kc k0
    generalize W.alloc _ = W1 at B1 X1 HBY hsz ⊢
    generalize W.heap.size = gb at HBY hsz ⊢
    go_loopw [23] (fun i wr => ∃ k : Nat, k ≤ 10 ∧ i = .int .i64 k ∧ chkGo e edOrder = chkGo e (edOrder.drop k) ∧ Below W1.heap.size W1 wr) (fun i _ => 10 - (intOf i).toNat)
    case atStart => exact ⟨0, by omega, rfl, rfl, Below.refl _ _⟩
    case round =>
      obtain ⟨k, hk, rfl, hq, BW⟩ := hrel
      have HQ := Lib.hid hq
      clear hq
      have HXr := Lib.hid (X1.step BW)
      have HBr := Lib.hid (below_step B1 BW)
      by_cases hlt : k < 10
      · have hcb := HBY.out k hlt
        rw [← BW.cell (p := ⟨gb, k, none⟩) hsz] at hcb
        have hlt2 : k < edOrder.length := hlt
        have hcm := List.getElem_mem hlt2
        have HS := Lib.hid (show chkGo e edOrder = orE (stE e (edOrder[k]'hlt)) (chkGo e (edOrder.drop (k + 1))) by rw [HQ.out, List.drop_eq_getElem_cons hlt2]; rfl)
        clear HQ
        generalize edOrder[k]'hlt = c at hcb hcm HS
        obtain ⟨rest, hrest⟩ : ∃ rest, chkGo e (edOrder.drop (k + 1)) = rest := ⟨_, rfl⟩
        rw [hrest] at HS
        have HRS := Lib.hid hrest
        clear hrest
        have kix := Lib.hid (eindex_any (formF (n : Int)) c)
        have hst : stE e c = if (formF (n : Int)).contains c then checkF e c else if zeroF e c then 0 else 1 := by unfold stE; rw [hn]
        have kz := Lib.hid (zero_any e c hcm wr)
        have kk := Lib.hid (echeck_any e c hcm hs wr (hLB.out _ HBr.out))
        have i1 : Has_edt wr g 0 := ⟨_, HXr.out.is_edt⟩
        have i2 : of_edt wr g 0 = e := of_edt_eq HXr.out.is_edt
        have hiy := @index_yes (formF (n : Int)) c
        have hin := @index_no (formF (n : Int)) c
        generalize (formF (n : Int)).contains c = u at hst hiy hin
        generalize Lib.indexByte (formF (n : Int)) c = ix at kix hiy hin
        generalize stE e c = z at HS hst
        generalize checkF e c = zc at kk hst
        generalize zeroF e c = zb at kz hst
        have HIY := Lib.hid hiy
        have HIN := Lib.hid hin
        have HST := Lib.hid hst
        clear hiy hin hst hcm
        cases u with
        | true =>
          have hi := HIY.out rfl
          have HZ := Lib.hid (show z = zc from HST.out)
          clear HST kz HIY HIN
          by_cases hz : zc = 0
          · have HR := Lib.hid (show chkGo e edOrder = rest by rw [HS.out, HZ.out, hz]; rfl)
            subst hz
            clear HS HZ
            go_wp2_with (first | (go_at_call 30; (with_reducible refine callP (kix.out _) ?_)) | (go_at_call 32; (with_reducible refine callR kk.out ?_); intro w2 b2 _ _ _))
            go_roundw
            case rel => exact ⟨k + 1, by omega, by go_num, by rw [HR.out, HRS.out], BW.trans (b2.mono BW.size)⟩
            case measure => simp [intOf]; omega
          · have HR := Lib.hid (show editCheck e = zc by rw [HO.out, HS.out, HZ.out]; simp [orE, hz])
            clear HS HZ
            go_wp2_with (first | (go_at_call 30; (with_reducible refine callP (kix.out _) ?_)) | (go_at_call 32; (with_reducible refine callR kk.out ?_); intro w2 b2 _ _ _))
            go_ret
            exact Ret.int HR.out.symm (below_step HBr.out b2)
        | false =>
          have hi := HIN.out rfl
          cases zb with
          | true =>
            have HR := Lib.hid (show chkGo e edOrder = rest by rw [HS.out, HST.out]; rfl)
            clear HST kk HIY HIN HS
            go_wp2_with (first | (go_at_call 30; (with_reducible refine callP (kix.out _) ?_)) | (go_at_call 31; (with_reducible refine callR kz.out ?_); intro w2 b2 _ _ _))
            go_roundw
            case rel => exact ⟨k + 1, by omega, by go_num, by rw [HR.out, HRS.out], BW.trans (b2.mono BW.size)⟩
            case measure => simp [intOf]; omega
          | false =>
            have HR := Lib.hid (show editCheck e = 1 by rw [HO.out, HS.out, HST.out]; rfl)
            clear HST kk HIY HIN HS
            go_wp2_with (first | (go_at_call 30; (with_reducible refine callP (kix.out _) ?_)) | (go_at_call 31; (with_reducible refine callR kz.out ?_); intro w2 b2 _ _ _))
            go_ret
            exact Ret.int HR.out.symm (below_step HBr.out b2)
      · have HR := Lib.hid (show editCheck e = 0 by rw [HO.out, HQ.out, List.drop_of_length_le (show edOrder.length ≤ k by show 10 ≤ k; omega)]; rfl)
        clear HQ
        go_wp2
        go_ret
        exact Ret.int HR.out.symm HBr.out
end Go.Proofs.YtnmpfmelaninbaaGreatDoor
namespace Go.Proofs.YtnmpfmelaninbaaGreatDoor
open Go.RowKit Go.ChangeShapes Go.WideShapes Go.Deep
set_option linter.unusedVariables false
set_option linter.unusedSimpArgs false
theorem gForms23 : Tryz.prog.globalNamed "flightdeck/edit.forms" = some 0 := by kernel_rfl
theorem gGap23 : Tryz.prog.globalNamed "flightdeck/edit.gap" = some 2 := by kernel_rfl
theorem gFree23 : Tryz.prog.globalNamed "flightdeck/edit.free" = some 3 := by kernel_rfl
/-- What the program's gap and free hold. -/
structure GapAt (w : World) : Prop where
  gap : ∀ j, j < 20 → w.cell? ⟨2, j, none⟩ = gapE.arr[j]?
  lo : w.cell? ⟨3, 0, none⟩ = some (.int .i64 (-200000))
  hi : w.cell? ⟨3, 1, none⟩ = some (.int .i64 6000000)
theorem GapAt.lt {w : World} (h : GapAt w) : 2 < w.heap.size := block_lt_of_cell ((h.gap 0 (by omega)).trans rfl)
theorem GapAt.below {w w' : World} (h : GapAt w) (hb : Below w.heap.size w w') : GapAt w' :=
  ⟨fun j hj => by rw [hb.cell (p := ⟨_, j, none⟩) h.lt]; exact h.gap j hj,
   by rw [hb.cell (p := ⟨_, 0, none⟩) (block_lt_of_cell h.lo)]; exact h.lo,
   by rw [hb.cell (p := ⟨_, 1, none⟩) (block_lt_of_cell h.hi)]; exact h.hi⟩
def winData (lo hi : Int) : DataW Unit := .agg [.lit (.int .i64 lo), .lit (.int .i64 hi)]
def zeroData : DataW Unit := .agg [.lit (.int .u8 0), .lit (.string []), .lit (.string []), .lit (.int .u8 0), .lit (.bool false), .lit (.int .i64 0), .lit (.int .i64 0), .lit (.int .i64 0), .lit (.int .i64 0), winData 0 0, .lit (.int .i64 0), .lit (.int .i64 0)]
def gapData : DataW Unit := .agg [.lit (.bool true), zeroData, winData 0 0, winData 0 0, .lit (.int .u8 0), .lit (.string [])]
def formsData : DataW Unit := .agg ((List.range 13).map fun (k : Nat) => .agg [.lit (.string (formW (k : Int))), .lit (.string (formF (k : Int)))])
section
variable {w : World}
theorem two_data {t : TypeId} {fuel : Nat} {cs : List Value} {y : DataW Unit × List MemPlace} {f0 f1 : Field} (hu : Tryz.prog.underlying t = some (.struct #[f0, f1])) (hc : Tryz.prog.cellsOf t = 2)
    (h0 : f0.type = 2 ∧ f0.offset = 0) (h1 : f1.type = 2 ∧ f1.offset = 1) (h : DataW.trod (fun _ => ()) Tryz.prog w 0 (fun _ => true) false fuel t cs = some y) {a b : Int} (hy : y.1 = winData a b) : cs = [.int .i64 a, .int .i64 b] := by
  obtain ⟨xs, n, _, hx, hlen, hxl, hf⟩ := DataW.trod_struct hu h
  rw [hc] at hlen
  obtain ⟨a', b', rfl⟩ := list2 hlen
  obtain ⟨y0, y1, rfl⟩ := list2 hxl
  have g0 := hf 0 f0 rfl
  have g1 := hf 1 f1 rfl
  rw [h0.1, h0.2, cells_i64] at g0
  rw [h1.1, h1.2, cells_i64] at g1
  obtain ⟨v0, e0, q0, _⟩ := DataW.trod_int Tryz.underlying2 g0
  obtain ⟨v1, e1, q1, _⟩ := DataW.trod_int Tryz.underlying2 g1
  rw [hx, q0, q1] at hy
  simp only [winData, List.map_cons, List.map_nil, DataW.agg.injEq, List.cons.injEq, DataW.lit.injEq, Lit.int.injEq, and_true, true_and] at hy
  simp at e0 e1
  rw [e0, e1, hy.1, hy.2]
theorem leg_zero {fuel : Nat} {cs : List Value} {y : DataW Unit × List MemPlace} (h : DataW.trod (fun _ => ()) Tryz.prog w 0 (fun _ => true) false fuel 52 cs = some y) (hy : y.1 = zeroData) : cs = (⟨0, [], [], 0, false, 0, 0, 0, 0, 0, 0, 0, 0⟩ : Leg).arr.toList := by
  obtain ⟨xs, n, _, hx, hlen, hxl, hf⟩ := DataW.trod_struct Tryz.underlying52 h
  rw [cells_leg] at hlen
  obtain ⟨c0, c1, c2, c3, c4, c5, c6, c7, c8, c9, c10, c11, c12, rfl⟩ := list13 hlen
  obtain ⟨y0, y1, y2, y3, y4, y5, y6, y7, y8, y9, y10, y11, rfl⟩ := list12 hxl
  have g0 := fld hf 0 50 0 1 rfl cells_lt
  have g1 := fld hf 1 9 1 1 rfl cells_str
  have g2 := fld hf 2 9 2 1 rfl cells_str
  have g3 := fld hf 3 5 3 1 rfl cells_u8
  have g4 := fld hf 4 4 4 1 rfl cells_bool
  have g5 := fld hf 5 2 5 1 rfl cells_i64
  have g6 := fld hf 6 2 6 1 rfl cells_i64
  have g7 := fld hf 7 2 7 1 rfl cells_i64
  have g8 := fld hf 8 2 8 1 rfl cells_i64
  have g9 := fld hf 9 24 9 2 rfl cells_win
  have g10 := fld hf 10 2 11 1 rfl cells_i64
  have g11 := fld hf 11 2 12 1 rfl cells_i64
  simp only [List.drop_succ_cons, List.drop_zero, List.take_succ_cons, List.take_zero, List.getElem?_cons_succ, List.getElem?_cons_zero] at g0 g1 g2 g3 g4 g5 g6 g7 g8 g9 g10 g11
  rw [hx] at hy
  simp only [zeroData, List.map_cons, List.map_nil, DataW.agg.injEq, List.cons.injEq, and_true] at hy
  obtain ⟨k0, k1, k2, k3, k4, k5, k6, k7, k8, k9, k10, k11⟩ := hy
  obtain ⟨v0, e0, q0, _⟩ := DataW.trod_int Tryz.underlying50 g0
  obtain ⟨v1, e1, q1, _⟩ := DataW.trod_string Tryz.underlying9 g1
  obtain ⟨v2, e2, q2, _⟩ := DataW.trod_string Tryz.underlying9 g2
  obtain ⟨v3, e3, q3, _⟩ := DataW.trod_int Tryz.underlying5 g3
  obtain ⟨v4, e4, q4⟩ := DataW.trod_bool Tryz.underlying4 g4
  obtain ⟨v5, e5, q5, _⟩ := DataW.trod_int Tryz.underlying2 g5
  obtain ⟨v6, e6, q6, _⟩ := DataW.trod_int Tryz.underlying2 g6
  obtain ⟨v7, e7, q7, _⟩ := DataW.trod_int Tryz.underlying2 g7
  obtain ⟨v8, e8, q8, _⟩ := DataW.trod_int Tryz.underlying2 g8
  have e9 := two_data Tryz.underlying24 cells_win ⟨rfl, rfl⟩ ⟨rfl, rfl⟩ g9 k9
  obtain ⟨v10, e10, q10, _⟩ := DataW.trod_int Tryz.underlying2 g10
  obtain ⟨v11, e11, q11, _⟩ := DataW.trod_int Tryz.underlying2 g11
  rw [q0] at k0; rw [q1] at k1; rw [q2] at k2; rw [q3] at k3; rw [q4] at k4; rw [q5] at k5; rw [q6] at k6; rw [q7] at k7; rw [q8] at k8; rw [q10] at k10; rw [q11] at k11
  simp only [DataW.lit.injEq, Lit.int.injEq, Lit.string.injEq, Lit.bool.injEq, true_and] at k0 k1 k2 k3 k4 k5 k6 k7 k8 k10 k11
  simp only [List.cons.injEq, and_true] at e0 e1 e2 e3 e4 e5 e6 e7 e8 e9 e10 e11
  have s1 : v1 = ⟨#[]⟩ := by obtain ⟨⟨d⟩⟩ := v1; simp at k1; rw [k1]
  have s2 : v2 = ⟨#[]⟩ := by obtain ⟨⟨d⟩⟩ := v2; simp at k2; rw [k2]
  rw [e0, e1, e2, e3, e4, e5, e6, e7, e8, e9.1, e9.2, e10, e11, k0, s1, s2, k3, k4, k5, k6, k7, k8, k10, k11]
  rfl
theorem ent_gap {fuel : Nat} {cs : List Value} {y : DataW Unit × List MemPlace} (h : DataW.trod (fun _ => ()) Tryz.prog w 0 (fun _ => true) false fuel 57 cs = some y) (hy : y.1 = gapData) : cs = gapE.arr.toList := by
  obtain ⟨xs, n, _, hx, hlen, hxl, hf⟩ := DataW.trod_struct Tryz.underlying57 h
  rw [cells_ent] at hlen
  obtain ⟨c0, c1, c2, c3, c4, c5, c6, c7, c8, c9, c10, c11, c12, c13, c14, c15, c16, c17, c18, c19, rfl⟩ := list20 hlen
  obtain ⟨y0, y1, y2, y3, y4, y5, rfl⟩ := list6 hxl
  have g0 := fld hf 0 4 0 1 rfl cells_bool
  have g1 := fld hf 1 52 1 13 rfl cells_leg
  have g2 := fld hf 2 54 14 2 rfl cells_pt
  have g3 := fld hf 3 54 16 2 rfl cells_pt
  have g4 := fld hf 4 55 18 1 rfl cells_sec
  have g5 := fld hf 5 9 19 1 rfl cells_str
  simp only [List.drop_succ_cons, List.drop_zero, List.take_succ_cons, List.take_zero, List.getElem?_cons_succ, List.getElem?_cons_zero] at g0 g1 g2 g3 g4 g5
  rw [hx] at hy
  simp only [gapData, List.map_cons, List.map_nil, DataW.agg.injEq, List.cons.injEq, and_true] at hy
  obtain ⟨k0, k1, k2, k3, k4, k5⟩ := hy
  obtain ⟨v0, e0, q0⟩ := DataW.trod_bool Tryz.underlying4 g0
  have e1 := leg_zero g1 k1
  have e2 := two_data Tryz.underlying54 cells_pt ⟨rfl, rfl⟩ ⟨rfl, rfl⟩ g2 k2
  have e3 := two_data Tryz.underlying54 cells_pt ⟨rfl, rfl⟩ ⟨rfl, rfl⟩ g3 k3
  obtain ⟨v4, e4, q4, _⟩ := DataW.trod_int Tryz.underlying55 g4
  obtain ⟨v5, e5, q5, _⟩ := DataW.trod_string Tryz.underlying9 g5
  rw [q0] at k0; rw [q4] at k4; rw [q5] at k5
  simp only [DataW.lit.injEq, Lit.int.injEq, Lit.string.injEq, Lit.bool.injEq, true_and] at k0 k4 k5
  have s5 : v5 = ⟨#[]⟩ := by obtain ⟨⟨d⟩⟩ := v5; simp at k5; rw [k5]
  have : [c0, c1, c2, c3, c4, c5, c6, c7, c8, c9, c10, c11, c12, c13, c14, c15, c16, c17, c18, c19] = [c0] ++ [c1, c2, c3, c4, c5, c6, c7, c8, c9, c10, c11, c12, c13] ++ [c14, c15] ++ [c16, c17] ++ [c18] ++ [c19] := rfl
  rw [this, e0, e1, e2, e3, e4, e5, k0, k4, s5]
  rfl
end
set_option maxRecDepth 100000 in
theorem gap_of {w : World} {l : List (String × DataW Unit)} (h : laidMet Tryz.prog l w) (h1 : ("flightdeck/edit.gap", gapData) ∈ l) (h2 : ("flightdeck/edit.free", winData (-200000) 6000000) ∈ l) : GapAt w := by
  obtain ⟨ps, hv, _, _⟩ := h
  obtain ⟨g', t', cs, fuel, p, hg', ht', hvar, hd⟩ := laidVars_mem hv _ _ h1
  obtain rfl := Option.some.inj (gGap23.symm.trans hg')
  obtain rfl : 57 = t' := Option.some.inj ((show (Tryz.prog.globals[2]?).map (·.type) = some 57 by kernel_rfl).symm.trans ht')
  have hcs := ent_gap hd rfl
  obtain ⟨g2, t2, cs2, fuel2, p2, hg2, ht2, hvar2, hd2⟩ := laidVars_mem hv _ _ h2
  obtain rfl := Option.some.inj (gFree23.symm.trans hg2)
  obtain rfl : 24 = t2 := Option.some.inj ((show (Tryz.prog.globals[3]?).map (·.type) = some 24 by kernel_rfl).symm.trans ht2)
  have hcs2 := two_data Tryz.underlying24 cells_win ⟨rfl, rfl⟩ ⟨rfl, rfl⟩ hd2 rfl
  have e1 : cs = gapE.arr := Array.toList_inj.1 hcs
  have e2 : cs2 = #[.int .i64 (-200000), .int .i64 6000000] := Array.toList_inj.1 (by rw [hcs2])
  exact ⟨fun j _ => by rw [World.var?_cell gGap23 hvar j, e1], by rw [World.var?_cell gFree23 hvar2 0, e2]; rfl, by rw [World.var?_cell gFree23 hvar2 1, e2]; rfl⟩
theorem cells_form : Tryz.prog.cellsOf 87 = 2 := by kernel_rfl
set_option maxRecDepth 100000 in
theorem forms_of {w : World} {l : List (String × DataW Unit)} (h : laidMet Tryz.prog l w) (hm : ("flightdeck/edit.forms", formsData) ∈ l) : FormsAt w := by
  obtain ⟨ps, hv, _, _⟩ := h
  obtain ⟨g', t', cs, fuel, p, hg', ht', hvar, hd⟩ := laidVars_mem hv _ _ hm
  obtain rfl := Option.some.inj (gForms23.symm.trans hg')
  obtain rfl : 88 = t' := Option.some.inj ((show (Tryz.prog.globals[0]?).map (·.type) = some 88 by kernel_rfl).symm.trans ht')
  obtain ⟨xs, m', _, hx, hlen, hxl, hf⟩ := DataW.trod_array Tryz.underlying88 hd
  have key : ∀ k : Nat, k ≤ 12 → cs.toList[k * 2]? = some (.string ⟨(formW (k : Int)).toArray⟩) ∧ cs.toList[k * 2 + 1]? = some (.string ⟨(formF (k : Int)).toArray⟩) := by
    intro k hk
    have h1 := hf k (by omega)
    rw [cells_form] at h1
    cases hq : xs[k]? with
    | none => rw [List.getElem?_eq_none_iff] at hq; omega
    | some y =>
      rw [hq] at h1
      have hy : y.1 = .agg [.lit (.string (formW (k : Int))), .lit (.string (formF (k : Int)))] := by
        simp only [formsData, Prod.mk.injEq, DataW.agg.injEq] at hx
        have h3 := congrArg (fun l => l[k]?) hx.1
        simp only [List.getElem?_map, hq, List.getElem?_range (show k < 13 by omega), Option.map_some, Option.some.injEq] at h3
        exact h3.symm
      obtain ⟨zs, n, _, hz, hzl, hzn, hzf⟩ := DataW.trod_struct Tryz.underlying87 h1
      rw [cells_form] at hzl
      obtain ⟨a, b, hab⟩ := list2 hzl
      obtain ⟨y0, y1, rfl⟩ := list2 hzn
      rw [hab] at hzf
      have g0 := fld hzf 0 9 0 1 rfl cells_str
      have g1 := fld hzf 1 9 1 1 rfl cells_str
      simp only [List.drop_succ_cons, List.drop_zero, List.take_succ_cons, List.take_zero, List.getElem?_cons_succ, List.getElem?_cons_zero] at g0 g1
      obtain ⟨v0, e0, q0, _⟩ := DataW.trod_string Tryz.underlying9 g0
      obtain ⟨v1, e1, q1, _⟩ := DataW.trod_string Tryz.underlying9 g1
      rw [hz, q0, q1] at hy
      simp only [List.map_cons, List.map_nil, DataW.agg.injEq, List.cons.injEq, DataW.lit.injEq, Lit.string.injEq, and_true] at hy
      simp only [List.cons.injEq, and_true] at e0 e1
      have k0 : cs.toList[k * 2]? = some a := by
        have := congrArg (fun l => l[0]?) hab
        simpa [List.getElem?_take, List.getElem?_drop] using this
      have k1 : cs.toList[k * 2 + 1]? = some b := by
        have := congrArg (fun l => l[1]?) hab
        simpa [List.getElem?_take, List.getElem?_drop] using this
      rw [k0, k1, e0, e1, ← hy.1, ← hy.2]
      simp
  refine ⟨fun k hk => ?_, fun k hk => ?_⟩
  · rw [World.var?_cell gForms23 hvar]; simpa using (key k hk).1
  · rw [World.var?_cell gForms23 hvar]; simpa using (key k hk).2
set_option maxRecDepth 100000 in
theorem laid23_of {W : World} {l : List (String × DataW Unit)} (h : laidMet Tryz.prog l W) (hsh : W.ShapedOpen Tryz.prog) (h1 : ("flightdeck/leg.uses", Lib.tabData .u16 usesTab) ∈ l)
    (h3 : ("internal/strconv.uint64pow10", Lib.tabData .u64 Lib.pow10Tab) ∈ l) : Laid W := by
  obtain ⟨ps, hv, _, _⟩ := h
  have t1 := tab_of hv gUses (t := 252) (by kernel_rfl) Tryz.underlying252 Tryz.underlying251 (by kernel_rfl) (by kernel_rfl) h1
  have t3 := tab_of hv gPow10 (t := 304) (by kernel_rfl) Tryz.underlying304 Tryz.underlying264 (by kernel_rfl) (by kernel_rfl) h3
  exact ⟨fun k hk => t1.cell gUses k hk, Go.Proofs.cell_of_shapedOpen_int (zero := #[.int .i64 0]) (t := 3) hsh (of_decide_eq_true (by kernel_rfl)) (by kernel_rfl) rfl (by kernel_rfl) (by kernel_rfl) Tryz.underlying3, t3⟩
/-- What the walks of this layer need of the world. -/
structure Open23 (w : World) : Prop where
  laid : Laid w
  errs : ErrsAt w
  forms : FormsAt w
  gap : GapAt w
theorem Open23.below {w w' : World} (h : Open23 w) (hb : Below w.heap.size w w') : Open23 w' := ⟨h.laid.below hb, h.errs.below hb, h.forms.below hb, h.gap.below hb⟩
end Go.Proofs.YtnmpfmelaninbaaGreatDoor
