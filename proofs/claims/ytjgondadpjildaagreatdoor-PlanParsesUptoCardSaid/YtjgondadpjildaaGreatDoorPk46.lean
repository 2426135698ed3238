/- From the rows' premises to the walks': the sentinels of strconv; a string among the arguments. -/
import Derived.Test.YtjgondadpjildaaGreatDoorPk45
import Derived.Test.YtjgondadpjildaaGreatDoorPk21
namespace Go.Proofs.YtjgondadpjildaaGreatDoor
open Go.RowKit Go.ChangeShapes Go.WideShapes Go.Deep
set_option linter.unusedVariables false
set_option linter.unusedSimpArgs false
theorem gErrR : Tryz.prog.globalNamed "strconv.ErrRange" = some 6 := by kernel_rfl
theorem gErrS : Tryz.prog.globalNamed "strconv.ErrSyntax" = some 5 := by kernel_rfl
set_option maxRecDepth 100000 in
theorem sent_of {w : World} {l : List (String × DataW Unit)} {d : DataW Unit} {n : String} {g : Nat} (h : laidMet Tryz.prog l w) (hm : (n, d) ∈ l) (hg : Tryz.prog.globalNamed n = some g) (ht : (Tryz.prog.globals[g]?).map (·.type) = some 110) :
    ∃ ev, w.cell? ⟨g, 0, none⟩ = some ev ∧ (ev = .nilIface ∨ ∃ te pe, ev = .iface te pe) := by
  obtain ⟨ps, hv, _, _⟩ := h
  obtain ⟨g', t', cs, fuel, p, hg', ht', hvar, hd⟩ := laidVars_mem hv _ _ hm
  obtain rfl := Option.some.inj (hg.symm.trans hg')
  obtain rfl : 110 = t' := Option.some.inj (ht.symm.trans ht')
  have key : ∃ ev, cs.toList = [ev] ∧ (ev = .nilIface ∨ ∃ u v, ev = .iface u v) := by
    cases fuel with
    | zero => simp [DataW.trod] at hd
    | succ n =>
      unfold DataW.trod at hd
      rw [Tryz.underlying110] at hd
      split at hd <;> simp_all
  obtain ⟨ev, hcs, hev⟩ := key
  refine ⟨ev, ?_, hev⟩
  rw [World.var?_cell hg hvar 0]
  have : cs = #[ev] := Array.toList_inj.1 (by rw [hcs])
  rw [this]; rfl
theorem errs_of {w : World} {l : List (String × DataW Unit)} {d e : DataW Unit} (h : laidMet Tryz.prog l w) (h1 : ("strconv.ErrRange", d) ∈ l) (h2 : ("strconv.ErrSyntax", e) ∈ l) : ErrsAt w :=
  ⟨sent_of h h1 gErrR (by kernel_rfl), sent_of h h2 gErrS (by kernel_rfl)⟩
section
variable {H : Type} {enc : TypeId × Value → H} {w : World} {base : Nat} {spare : Nat → Bool} {held : Bool}
set_option maxRecDepth 100000 in
theorem open_strX {r : Reach} {b0 : Nat} {v : Value} {d : DataW H} {ps : List MemPlace} (hv : Value.okWide Tryz.prog w r b0 9 v) (h : DataW.Trod enc Tryz.prog w base spare held 9 v d ps) : ∃ s : List UInt8, v = .string ⟨s.toArray⟩ ∧ s.length ≤ Rows.uptoBulk d := by
  obtain ⟨s, rfl, rfl, rfl, _⟩ := Go.ChangeMaps.open_string Tryz.underlying9 hv h
  exact ⟨s.data.toList, by simp, by simp [Rows.uptoBulk]⟩
end
end Go.Proofs.YtjgondadpjildaaGreatDoor
