/- PROVED: whether two legs join depends on their types and fixes alone, and each argument reads behind the call as before: the card of the second form (what is read is of bulk at most 1048576). Its conditions: none of mine. -/
import Derived.Test.YtjijpkimlgbepaaGreatDoorCards
import Derived.Test.YtjijpkimlgbepaaGreatDoorTie
import Derived.Test.YtjijpkimlgbepaaGreatDoorPk42
import Derived.Test.YtjijpkimlgbepaaGreatDoorCLawJ
import Derived.Deep.DeepWitnessRowRef
import Derived.Lay
import Derived.WalkKit
import Derived.ProofKit
namespace Go.Proofs.YtjijpkimlgbepaaGreatDoor.legJoins
open Go.ChangeShapes Go.WideShapes Go.ChangeAt Go.RowKit
set_option linter.unusedVariables false
set_option linter.unusedSimpArgs false
theorem own : ownKnob Tryz.prog.godebug = none := by kernel_rfl
theorem laidOut : laidOutB Tryz.prog = true := by kernel_rfl
theorem laid {W : World} (h : laidMetH Tryz.prog Rows.legJoinsUptoRow.laid W) (hsh : W.ShapedOpen Tryz.prog) : Laid W :=
  laid_of (l := Rows.legJoinsUptoRow.laid) h hsh (by simp only [Rows.legJoinsUptoRow, List.mem_cons]; right; right; right; right; right; right; right; left; rfl) (by simp only [Rows.legJoinsUptoRow, List.mem_cons]; right; right; right; right; right; right; left; rfl) (by simp only [Rows.legJoinsUptoRow, List.mem_cons]; right; right; left; rfl)
theorem opens {W : World} (h : laidMetH Tryz.prog Rows.legJoinsUptoRow.laid W) : Open16 W :=
  open16_of (l := Rows.legJoinsUptoRow.laid) h (by simp only [Rows.legJoinsUptoRow, List.mem_cons]; right; right; right; right; right; right; right; right; left; rfl)
set_option maxRecDepth 100000 in
theorem contract (H : Type) (enc : TypeId × Value → H) (W : World) (base : Nat) (args : Array Value) (ds gs : List (DataW H)) (before : List MemPlace)
    (hval : ∀ (j : Nat) t v, Tryz.f8.params[j]? = some t → args[j]? = some v → Value.okWide Tryz.prog W .any base t v)
    (hW : DataW.Whole enc Tryz.prog Tryz.f8.params.toList Rows.legJoinsSpec.vars false W args.toList ds gs before) (hL : laidMetH Tryz.prog Rows.legJoinsUptoRow.laid W) (hsh : W.ShapedOpen Tryz.prog) (hk : Rows.uptoSmall H (ds ++ gs) = true) :
    Calls Tryz.prog 8 args W fun e W' => ∃ v, e = .returned v ∧ Rows.legJoinsSpec.post enc Tryz.prog Tryz.f8 false true false false W args v W' := by
  have L := laid hL hsh
  have OP := opens hL
  have hW' := hW
  obtain ⟨p, q, hA0, hV, rfl, hfz, hnd⟩ := hW
  have hA : DataW.TrodAll enc Tryz.prog W 0 (fun _ => true) true Tryz.f8.params.toList args.toList ds p := hA0
  rw [Tryz.params8] at hA hval
  obtain ⟨v0, vs0, d0, ds0, pl0, ql0, hargs, rfl, rfl, h0, r0⟩ := trodAll_cons hA
  obtain ⟨v1, vs1, d1, ds1, pl1, ql1, rfl, rfl, rfl, h1, r1⟩ := trodAll_cons r0
  obtain ⟨v2, vs2, d2, ds2, pl2, ql2, rfl, rfl, rfl, h2, r2⟩ := trodAll_cons r1
  obtain ⟨rfl, rfl, rfl⟩ := trodAll_nil r2
  obtain rfl : args = #[v0, v1, v2] := by cases args; simp_all
  obtain ⟨rfl, rfl⟩ := trodVars_none hV
  have hb := of_decide_eq_true hk
  simp only [List.append_nil, Rows.uptoBulkAll] at hb
  have hk0 := h0
  obtain ⟨l0, rfl, s0⟩ := open_legT (hval 0 26 v0 rfl rfl) h0
  have hk1 := h1
  obtain ⟨l1, rfl, s1⟩ := open_legT (hval 1 26 v1 rfl rfl) h1
  have hk2 := h2
  obtain ⟨l2, rfl, s2⟩ := open_legT (hval 2 26 v2 rfl rfl) h2
  have walk := lawLegJoins_any l0 l1 l2 W L OP (s0 (by omega)) (s1 (by omega)) (s2 (by omega))
  refine walk.mono fun e W' ⟨he, hg⟩ => ?_
  subst he
  have hl0 : ∀ x ∈ pl0, x.block < W.heap.size := fun x hx => by simpa using hW'.lt x (by simp [hx])
  have hl1 : ∀ x ∈ pl1, x.block < W.heap.size := fun x hx => by simpa using hW'.lt x (by simp [hx])
  have hl2 : ∀ x ∈ pl2, x.block < W.heap.size := fun x hx => by simpa using hW'.lt x (by simp [hx])
  refine ⟨_, rfl, _, _, _, [], (pl0 ++ (pl1 ++ (pl2 ++ []))), [], hW', ?_, ?_, rfl, ?_, fun h => by cases h⟩
  · exact trodAll_cons_mk (shut_bool Tryz.underlying4 _) trodAll_mk0
  · exact (trodAll_cons_mk (Below.trod laidOut (by kernel_rfl) (of_decide_eq_true (by kernel_rfl)) hk0 hg hl0) (trodAll_cons_mk (Below.trod laidOut (by kernel_rfl) (of_decide_eq_true (by kernel_rfl)) hk1 hg hl1) (trodAll_cons_mk (Below.trod laidOut (by kernel_rfl) (of_decide_eq_true (by kernel_rfl)) hk2 hg hl2) trodAll_mk0)))
  · exact hg.frame _
theorem reads (os : Os) {H : Type} (enc : TypeId × Value → H) : ∃ places, DataW.whole enc Tryz.prog ((World.laidAll Tryz.prog os Rows.legJoinsUptoRow.laid).forCall (fun _ _ => 0) ⟨#[], #[.agg #[.int .u8 0, .string ⟨#[]⟩, .string ⟨#[]⟩, .int .u8 0, .bool false, .int .i64 0, .int .i64 0, .int .i64 0, .int .i64 0, .int .i64 0, .int .i64 0, .int .i64 0, .int .i64 0], .agg #[.int .u8 0, .string ⟨#[]⟩, .string ⟨#[]⟩, .int .u8 0, .bool false, .int .i64 0, .int .i64 0, .int .i64 0, .int .i64 0, .int .i64 0, .int .i64 0, .int .i64 0, .int .i64 0], .agg #[.int .u8 0, .string ⟨#[]⟩, .string ⟨#[]⟩, .int .u8 0, .bool false, .int .i64 0, .int .i64 0, .int .i64 0, .int .i64 0, .int .i64 0, .int .i64 0, .int .i64 0, .int .i64 0]], []⟩).memory Tryz.f8.params.toList Rows.legJoinsSpec.vars false (#[.agg #[.int .u8 0, .string ⟨#[]⟩, .string ⟨#[]⟩, .int .u8 0, .bool false, .int .i64 0, .int .i64 0, .int .i64 0, .int .i64 0, .int .i64 0, .int .i64 0, .int .i64 0, .int .i64 0], .agg #[.int .u8 0, .string ⟨#[]⟩, .string ⟨#[]⟩, .int .u8 0, .bool false, .int .i64 0, .int .i64 0, .int .i64 0, .int .i64 0, .int .i64 0, .int .i64 0, .int .i64 0, .int .i64 0], .agg #[.int .u8 0, .string ⟨#[]⟩, .string ⟨#[]⟩, .int .u8 0, .bool false, .int .i64 0, .int .i64 0, .int .i64 0, .int .i64 0, .int .i64 0, .int .i64 0, .int .i64 0, .int .i64 0]] : Array Value).toList 8 = some ([.agg [.lit (.int .u8 0), .lit (.string []), .lit (.string []), .lit (.int .u8 0), .lit (.bool false), .lit (.int .i64 0), .lit (.int .i64 0), .lit (.int .i64 0), .lit (.int .i64 0), .agg [.lit (.int .i64 0), .lit (.int .i64 0)], .lit (.int .i64 0), .lit (.int .i64 0)], .agg [.lit (.int .u8 0), .lit (.string []), .lit (.string []), .lit (.int .u8 0), .lit (.bool false), .lit (.int .i64 0), .lit (.int .i64 0), .lit (.int .i64 0), .lit (.int .i64 0), .agg [.lit (.int .i64 0), .lit (.int .i64 0)], .lit (.int .i64 0), .lit (.int .i64 0)], .agg [.lit (.int .u8 0), .lit (.string []), .lit (.string []), .lit (.int .u8 0), .lit (.bool false), .lit (.int .i64 0), .lit (.int .i64 0), .lit (.int .i64 0), .lit (.int .i64 0), .agg [.lit (.int .i64 0), .lit (.int .i64 0)], .lit (.int .i64 0), .lit (.int .i64 0)]], [], places) :=
  ⟨[], by kernel_rfl⟩
set_option maxRecDepth 100000 in
theorem liftedUpto (os : Os) (started : os.Started) (H : Type) (enc : TypeId × Value → H) (F : Stop.Interp) :
    ReturnsInHanded {} Tryz.checked os 8 .any ((Rows.OpenSpec.upto Rows.legJoinsSpec).preRow enc Tryz.prog Tryz.f8 Rows.legJoinsUptoRow.domain false Rows.legJoinsUptoRow.laid) (((Rows.OpenSpec.upto Rows.legJoinsSpec).at F).post enc Tryz.prog Tryz.f8 false true false false) := by
  obtain ⟨places, hx⟩ := reads os enc
  refine returnsInHanded_of_row (C := Tryz.checked) (s := Rows.OpenSpec.upto Rows.legJoinsSpec) own started (by kernel_rfl) Tryz.func8
    (witness_row_atRef (enc := enc) (C := Tryz.checked) false (World.laidAll Tryz.prog os Rows.legJoinsUptoRow.laid) #[.agg #[.int .u8 0, .string ⟨#[]⟩, .string ⟨#[]⟩, .int .u8 0, .bool false, .int .i64 0, .int .i64 0, .int .i64 0, .int .i64 0, .int .i64 0, .int .i64 0, .int .i64 0, .int .i64 0], .agg #[.int .u8 0, .string ⟨#[]⟩, .string ⟨#[]⟩, .int .u8 0, .bool false, .int .i64 0, .int .i64 0, .int .i64 0, .int .i64 0, .int .i64 0, .int .i64 0, .int .i64 0, .int .i64 0], .agg #[.int .u8 0, .string ⟨#[]⟩, .string ⟨#[]⟩, .int .u8 0, .bool false, .int .i64 0, .int .i64 0, .int .i64 0, .int .i64 0, .int .i64 0, .int .i64 0, .int .i64 0, .int .i64 0]] (World.laidAll_os _ _ _) (by kernel_rfl) (by kernel_rfl) (by kernel_rfl)
      (OpenSpec.preRow_of_cond 8 hx (by kernel_rfl) (fun k hk => by cases hk; kernel_rfl) (by kernel_rfl) (laidMet_laidAll _ (by kernel_rfl) (by kernel_rfl)))) ?_
  intro W base args ds gs before hval hW _ hcond _ hL hsh _
  exact contract H enc W base args ds gs before hval hW hL hsh (hcond _ rfl)
theorem saidUpto : Rows.LegJoinsUptoSaid :=
  OpenClaim.holds_of_cond 8 Tryz.f8 rfl rfl rfl rfl rfl rfl rfl ⟨rfl, rfl, rfl, rfl, rfl⟩ rfl rfl rfl rfl rfl (by kernel_rfl) Tryz.func8 (by kernel_rfl)
    (of_decide_eq_true (by kernel_rfl)) (by unfold Func.isWrapper; first | (rw [if_pos (by decide +kernel)]; kernel_rfl) | (rw [if_neg (by decide +kernel)]; exact ⟨rfl, rfl⟩))
    (fun os started H enc _ F => by rw [OpenClaim.pre_eq_preRow]; exact liftedUpto os started H enc F)
theorem plain (f : FuncId) (fn : Func) (hf : Tryz.pinned.checked.prog.funcNamed "flightdeck/flightdecklaw16.LegJoins" = some f) (hfn : Tryz.pinned.checked.prog.funcs[f]? = some fn) :
    true = Tryz.pinned.checked.prog.looks [] ∧ ∀ (j : Nat) t, fn.params[j]? = some t → Tryz.pinned.checked.prog.wantsStandIn t = false := by
  obtain rfl : f = 8 := Option.some.inj ((show Tryz.prog.funcNamed "flightdeck/flightdecklaw16.LegJoins" = some 8 by kernel_rfl).symm.trans hf) |>.symm
  obtain rfl : fn = Tryz.f8 := (Option.some.inj (Tryz.func8.symm.trans hfn)).symm
  refine ⟨by kernel_rfl, fun j t ht => ?_⟩
  rw [Tryz.params8] at ht
  have hm := Array.mem_of_getElem? ht
  obtain rfl : t = 26 := by simpa using hm
  exact (show Tryz.prog.wantsStandIn 26 = false by kernel_rfl)
end Go.Proofs.YtjijpkimlgbepaaGreatDoor.legJoins
namespace Go.Proofs.YtjijpkimlgbepaaGreatDoor
/-- The card of the second form. -/
theorem legJoins_card : Rows.LegJoinsUptoCardSaid :=
  Claim7.holds_tied_plain_at .later [] _ _ _ _ legJoins.saidUpto (fun _ h => by cases h) (by kernel_rfl) (fun _ h => by cases h) legJoinsUpto_row_tie rfl ⟨rfl, rfl⟩ (by kernel_rfl) rfl legJoins.plain (by kernel_rfl)
end Go.Proofs.YtjijpkimlgbepaaGreatDoor
