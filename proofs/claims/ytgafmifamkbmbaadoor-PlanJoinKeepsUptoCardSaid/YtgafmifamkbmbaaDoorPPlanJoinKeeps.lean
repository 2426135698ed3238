/- PROVED: legs that join are kept as they are, and every leg of a joined list comes from the list, and each argument reads behind the call as before: the card of the second form (what is read is of bulk at most 1048576). Its conditions: none of mine. -/
import Derived.Test.YtgafmifamkbmbaaDoorCards
import Derived.Test.YtgafmifamkbmbaaDoorTie
import Derived.Test.YtgafmifamkbmbaaDoorFrame
import Derived.Test.YtgafmifamkbmbaaDoorLawK
import Derived.WalkKit
import Derived.ProofKit
namespace Go.Proofs.YtgafmifamkbmbaaDoor.planJoinKeeps
open Go.ChangeShapes Go.WideShapes Go.ChangeAt Go.RowKit
set_option linter.unusedVariables false
set_option linter.unusedSimpArgs false
theorem own : ownKnob Tryd.prog.godebug = none := by kernel_rfl
theorem laidOut : laidOutB Tryd.prog = true := by kernel_rfl
theorem laid {W : World} (h : laidMetH Tryd.prog Rows.planJoinKeepsUptoRow.laid W) (hsh : W.ShapedOpen Tryd.prog) : Laid W :=
  laid_of (l := Rows.planJoinKeepsUptoRow.laid) h hsh (by simp only [Rows.planJoinKeepsUptoRow, List.mem_cons]; right; right; right; right; left; rfl) (by simp only [Rows.planJoinKeepsUptoRow, List.mem_cons]; right; right; right; left; rfl) (by simp only [Rows.planJoinKeepsUptoRow, List.mem_cons]; right; right; left; rfl)
set_option maxRecDepth 100000 in
theorem contract (H : Type) (enc : TypeId × Value → H) (W : World) (base : Nat) (args : Array Value) (ds gs : List (DataW H)) (before : List MemPlace)
    (hval : ∀ (j : Nat) t v, Tryd.f7.params[j]? = some t → args[j]? = some v → Value.okWide Tryd.prog W .any base t v)
    (hW : DataW.Whole enc Tryd.prog Tryd.f7.params.toList Rows.planJoinKeepsSpec.vars false W args.toList ds gs before) (hL : laidMetH Tryd.prog Rows.planJoinKeepsUptoRow.laid W) (hsh : W.ShapedOpen Tryd.prog) (hk : Rows.uptoSmall H (ds ++ gs) = true) :
    Calls Tryd.prog 7 args W fun e W' => ∃ v, e = .returned v ∧ Rows.planJoinKeepsSpec.post enc Tryd.prog Tryd.f7 false true false false W args v W' := by
  have L := laid hL hsh
  have hW' := hW
  obtain ⟨p, q, hA0, hV, rfl, hfz, hnd⟩ := hW
  have hA : DataW.TrodAll enc Tryd.prog W 0 (fun _ => true) true Tryd.f7.params.toList args.toList ds p := hA0
  rw [Tryd.params7] at hA hval
  obtain ⟨v0, vs0, d0, ds0, pl0, ql0, hargs, rfl, rfl, h0, r0⟩ := trodAll_cons hA
  obtain ⟨rfl, rfl, rfl⟩ := trodAll_nil r0
  obtain rfl : args = #[v0] := by cases args; simp_all
  obtain ⟨rfl, rfl⟩ := trodVars_none hV
  have hb := of_decide_eq_true hk
  simp only [List.append_nil, Rows.uptoBulkAll] at hb
  have hk0 := h0
  obtain ⟨l0, A0, c0, rfl, q0, E0, b0, s0⟩ := open_entsT (hval 0 22 v0 rfl rfl) h0
  have walk := lawJoinKeeps_any l0 A0 c0 W L (by omega) q0 E0
  refine walk.mono fun e W' ⟨he, hg⟩ => ?_
  subst he
  have hl0 : ∀ x ∈ pl0, x.block < W.heap.size := fun x hx => by simpa using hW'.lt x (by simp [hx])
  refine ⟨_, rfl, _, _, _, [], (pl0 ++ []), [], hW', ?_, ?_, rfl, ?_, fun h => by cases h⟩
  · exact trodAll_cons_mk (shut_bool Tryd.underlying4 _) trodAll_mk0
  · exact (trodAll_cons_mk (Below.trod laidOut (by kernel_rfl) (of_decide_eq_true (by kernel_rfl)) hk0 hg hl0) trodAll_mk0)
  · exact hg.frame _
noncomputable def laidWorld (os : Os) : World := { World.holding Tryd.prog os ⟨#[], #[], []⟩ with heap := setBlk (setBlk (setBlk (setBlk (setBlk ((World.holding Tryd.prog os ⟨#[], #[], []⟩).heap) 4 (laidCells Rows.laid_math_bits_deBruijn32tab)) 5 (laidCells Rows.laid_math_bits_deBruijn64tab)) 2 (laidCells Rows.laid_internal_strconv_uint64pow10)) 1 (laidCells Rows.laid_flightdeck_leg_names)) 0 (laidCells Rows.laid_flightdeck_leg_uses) }
theorem laid_met (os : Os) : laidMet Tryd.prog Rows.planJoinKeepsUptoRow.laid ((laidWorld os).forCall (fun _ _ => 0) ⟨#[], #[.slice none 0 0], []⟩).memory :=
  laidMet_of_run' 8 (by kernel_rfl) (by kernel_rfl)
theorem reads (os : Os) {H : Type} (enc : TypeId × Value → H) : ∃ places, DataW.whole enc Tryd.prog ((laidWorld os).forCall (fun _ _ => 0) ⟨#[], #[.slice none 0 0], []⟩).memory Tryd.f7.params.toList Rows.planJoinKeepsSpec.vars false (#[.slice none 0 0] : Array Value).toList 8 = some ([.nil], [], places) :=
  ⟨[], by kernel_rfl⟩
set_option maxRecDepth 100000 in
theorem liftedUpto (os : Os) (started : os.Started) (H : Type) (enc : TypeId × Value → H) (F : Stop.Interp) :
    ReturnsInHanded {} Tryd.checked os 7 .any ((Rows.OpenSpec.upto Rows.planJoinKeepsSpec).preRow enc Tryd.prog Tryd.f7 Rows.planJoinKeepsUptoRow.domain false Rows.planJoinKeepsUptoRow.laid) (((Rows.OpenSpec.upto Rows.planJoinKeepsSpec).at F).post enc Tryd.prog Tryd.f7 false true false false) := by
  obtain ⟨places, hx⟩ := reads os enc
  refine returnsInHanded_of_row (C := Tryd.checked) (s := Rows.OpenSpec.upto Rows.planJoinKeepsSpec) own started (by kernel_rfl) Tryd.func7
    (witness_row_at (enc := enc) (C := Tryd.checked) false (laidWorld os) #[.slice none 0 0] rfl (by kernel_rfl) (by kernel_rfl) (by kernel_rfl)
      (OpenSpec.preRow_of_cond 8 hx (by kernel_rfl) (fun k hk => by cases hk; kernel_rfl) (by kernel_rfl) (laid_met os))) ?_
  intro W base args ds gs before hval hW _ hcond _ hL hsh _
  exact contract H enc W base args ds gs before hval hW hL hsh (hcond _ rfl)
theorem saidUpto : Rows.PlanJoinKeepsUptoSaid :=
  OpenClaim.holds_of_cond 7 Tryd.f7 rfl rfl rfl rfl rfl rfl rfl ⟨rfl, rfl, rfl, rfl, rfl⟩ rfl rfl rfl rfl rfl (by kernel_rfl) Tryd.func7 (by kernel_rfl)
    (of_decide_eq_true (by kernel_rfl)) (by unfold Func.isWrapper; first | (rw [if_pos (by decide +kernel)]; kernel_rfl) | (rw [if_neg (by decide +kernel)]; exact ⟨rfl, rfl⟩))
    (fun os started H enc _ F => by rw [OpenClaim.pre_eq_preRow]; exact liftedUpto os started H enc F)
theorem plain (f : FuncId) (fn : Func) (hf : Tryd.pinned.checked.prog.funcNamed "flightdeck/flightdecklaw21.PlanJoinKeeps" = some f) (hfn : Tryd.pinned.checked.prog.funcs[f]? = some fn) :
    false = Tryd.pinned.checked.prog.looks [] ∧ ∀ (j : Nat) t, fn.params[j]? = some t → Tryd.pinned.checked.prog.wantsStandIn t = false := by
  obtain rfl : f = 7 := Option.some.inj ((show Tryd.prog.funcNamed "flightdeck/flightdecklaw21.PlanJoinKeeps" = some 7 by kernel_rfl).symm.trans hf) |>.symm
  obtain rfl : fn = Tryd.f7 := (Option.some.inj (Tryd.func7.symm.trans hfn)).symm
  refine ⟨by kernel_rfl, fun j t ht => ?_⟩
  rw [Tryd.params7] at ht
  have hm := Array.mem_of_getElem? ht
  obtain rfl : t = 22 := by simpa using hm
  exact (show Tryd.prog.wantsStandIn 22 = false by kernel_rfl)
end Go.Proofs.YtgafmifamkbmbaaDoor.planJoinKeeps
namespace Go.Proofs.YtgafmifamkbmbaaDoor
/-- The card of the second form. -/
theorem planJoinKeeps_card : Rows.PlanJoinKeepsUptoCardSaid :=
  Claim7.holds_tied_plain_at .later [] _ _ _ _ planJoinKeeps.saidUpto (fun _ h => by cases h) (by kernel_rfl) (fun _ h => by cases h) planJoinKeepsUpto_row_tie rfl ⟨rfl, rfl⟩ (by kernel_rfl) rfl planJoinKeeps.plain (by kernel_rfl)
end Go.Proofs.YtgafmifamkbmbaaDoor
