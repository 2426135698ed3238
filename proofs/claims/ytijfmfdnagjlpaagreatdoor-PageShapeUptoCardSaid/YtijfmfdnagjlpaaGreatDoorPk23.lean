/- Layer 58: a number's text in the reference; the edits. -/
import Derived.Test.YtijfmfdnagjlpaaGreatDoorPk22
import Derived.Test.YtijfmfdnagjlpaaGreatDoorPk16
import Derived.Test.YtijfmfdnagjlpaaGreatDoorPk13
namespace Go.Proofs.YtijfmfdnagjlpaaGreatDoor
open Go.RowKit
set_option linter.unusedVariables false
set_option linter.unusedSimpArgs false
set_option maxHeartbeats 4000000 in
set_option maxRecDepth 100000 in
theorem rnum21_dec (k : Nat) : ∀ (n : Int) (w : World), n.toNat ≤ k → 0 ≤ n → n ≤ 9223372036854775807 → Calls Tryz.prog 68 #[.int .i64 n] w (Ret w (.string ⟨(Lib.decDigits n.toNat).toArray⟩)) := by
  induction k using Nat.strongRecOn with
  | ind k ih =>
    intro n w hk h0 h1
    by_cases hlt : n < 10
    · have e1 := conv1 w n h0
      have HE := Lib.hid (dec_small (u := n.toNat) (by omega))
      clear ih
      go_enter Tryz.func68, Tryz.ntmps68
      go_wp2
      go_ret
      exact Ret.str (by rw [HE.out]) (alloc_below _ _)
    · have i1 := Lib.hid (fun w => ih (n / 10).toNat (by omega) (n / 10) w (Nat.le_refl _) (by omega) (by omega))
      have HE := Lib.hid (show Lib.decDigits n.toNat = Lib.decDigits (n / 10).toNat ++ [dg (n % 10).toNat] by rw [dec_big (by omega), show n.toNat / 10 = (n / 10).toNat by omega, show n.toNat % 10 = (n % 10).toNat by omega])
      have hl1 : (Lib.decDigits (n / 10).toNat).length ≤ 19 := dec_len (by decide) (by omega)
      have e1 := conv1g (n % 10) (by omega)
      clear ih
      go_enter Tryz.func68, Tryz.ntmps68
      go_wp2
      have q1 : n.tdiv 10 = n / 10 := Int.tdiv_eq_ediv_of_nonneg h0
      have q2 : n.tmod 10 = n % 10 := Int.tmod_eq_emod_of_nonneg h0
      have q3 : IntKind.i64.wrap (n / 10) = n / 10 := IntWalk.i64_in _ (by omega)
      have q4 : IntKind.i64.wrap (n % 10) = n % 10 := IntWalk.i64_in _ (by omega)
      have q5 : IntKind.i64.wrap (48 + n % 10) = 48 + n % 10 := IntWalk.i64_in _ (by omega)
      have q6 : IntKind.u8.wrap (48 + n % 10) = 48 + n % 10 := by simp only [IntKind.wrap, IntKind.bits, IntKind.signed]; simp; omega
      have q7 : ¬ 9223372036854775807 < (Lib.decDigits (n / 10).toNat).length + 1 := by omega
      go_region_with (go_at_call 68; ((with_reducible refine callR (i1.out _) ?_); intro w1 hb1 hc1 hf1 hz1))
      all_goals go_wp2
      all_goals go_ret
      all_goals refine Ret.str (by rw [HE.out]; try rfl) ?_
      all_goals first
        | exact below_step (below_step (Below.refl _ _).drew hb1) (alloc_below _ _)
        | exact below_step (alloc_below _ _).drew hb1
        | (go_grown; done)
theorem itoa_nat (n : Nat) : Lib.itoa (n : Int) = Lib.decDigits n := by unfold Lib.itoa; rw [if_neg (by omega)]; simp
theorem rnum21_any (n : Nat) (w : World) (hn : n ≤ 9223372036854775807) : Calls Tryz.prog 68 #[.int .i64 n] w (Ret w (.string ⟨(Lib.itoa n).toArray⟩)) := by
  have h := rnum21_dec n n w (by omega) (by omega) (by omega)
  rw [itoa_nat]
  simpa using h
/-- The terminal in block g becomes r.1; the results are a command and an error. -/
def RetT (W : World) (g : Nat) (r : Pressed) : Ending → World → Prop := fun e w' => e = .returned (.tuple #[.string ⟨r.2.1.toArray⟩, .int .i64 r.2.2]) ∧ Touch [g] W w' ∧ Blk w' g r.1.arr
theorem Term.set2 (t : Term) (p : List UInt8) : t.arr.setIfInBounds 2 (.string ⟨p.toArray⟩) = ({ t with pad := p } : Term).arr := rfl
theorem Term.set1 (t : Term) (n : Int) : t.arr.setIfInBounds 1 (.int .i64 n) = ({ t with first := n } : Term).arr := rfl
theorem Term.set0 (t : Term) (n : Int) : t.arr.setIfInBounds 0 (.int .i64 n) = ({ t with page := n } : Term).arr := rfl
set_option maxHeartbeats 4000000 in
set_option maxRecDepth 100000 in
theorem edit58_any (t : Term) (word rest : List UInt8) (k : Nat) (g : Nat) (w0 W : World) (hL : Laid w0) (hB : Below w0.heap.size w0 W) (hg : w0.heap.size ≤ g) (hT : Blk W g t.arr) (hw : word.length ≤ 100) (hr : rest.length ≤ 100) (hk : k ≤ 4000000000) :
    Calls Tryz.prog 42 #[.pointer (some ⟨g, 0, none⟩), .string ⟨word.toArray⟩, .int .i64 k, .string ⟨rest.toArray⟩] W (RetT W g (editS t word k rest)) := by
  have c1 := hT.cell
  have c2 := hT.frozen
  have hlt := hT.lt
  have hi : (Lib.itoa (k : Int)).length ≤ 21 := itoa_len k (by omega) (by omega)
  have HI := Lib.hid (fun w hw => itoa_any (k : Int) (by omega) (by omega) w hw)
  by_cases h60 : 60 < k
  · have HS := Lib.hid (show editS t word k rest = (t, [], 3) by unfold editS; rw [if_pos (by omega)])
    go_enter Tryz.func42, Tryz.ntmps42
    go_wp2
    go_ret2
    rw [HS.out]; exact ⟨rfl, Touch.refl _ _, hT⟩
  · have HS := Lib.hid (show editS t word k rest = ({ t with pad := [] }, [69, 68, 73, 84, 32] ++ word ++ [32] ++ Lib.itoa k ++ rest, 0) by unfold editS; rw [if_neg (by omega)])
    generalize Lib.itoa (k : Int) = ik at *
    go_enter Tryz.func42, Tryz.ntmps42
    go_wp2_with ((go_at_call 28; refine callRB (HI.out _ (hL.below (below_setCell hB hg _ _))) ?_; intro w1 B1))
    go_ret2
    rw [HS.out]
    refine ⟨?_, (Touch.setCell [g] W (by simp) 2 _).trans (Touch.of B1), (hT.setCell 2 (.string ⟨#[]⟩)).step B1⟩
    first
      | rfl
      | (simp; done)
end Go.Proofs.YtijfmfdnagjlpaaGreatDoor
