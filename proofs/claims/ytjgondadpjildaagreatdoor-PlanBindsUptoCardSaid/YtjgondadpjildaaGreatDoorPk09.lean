/- The reference's Check of a leg: the same first error. -/
import Derived.Test.YtjgondadpjildaaGreatDoorPk07
import Derived.Deep.Light
namespace Go.Proofs.YtjgondadpjildaaGreatDoor
open Go.RowKit
set_option linter.unusedVariables false
set_option linter.unusedSimpArgs false

def hasI (l : List UInt8) (c : Int) : Bool := l.any fun x => (x.toNat : Int) == c
theorem hasI_drop (l : List UInt8) (c : Int) (k : Nat) (h : k < l.length) : hasI (l.drop k) c = (((l[k].toNat : Int) == c) || hasI (l.drop (k+1)) c) := by
  unfold hasI; rw [List.drop_eq_getElem_cons h, List.any_cons]
theorem rhas_any (l : List UInt8) (c : Int) (w : World) (hl : l.length ≤ 4000000000) : Calls Tryz.prog 64 #[.string ⟨l.toArray⟩, .int .u8 c] w (RetP w (.bool (hasI l c))) := by
  go_enter Tryz.func64, Tryz.ntmps64
  go_wp2
  go_loop [5] (fun i => ∃ k : Nat, k ≤ l.length ∧ i = .int .i64 k ∧ hasI l c = hasI (l.drop k) c) (fun i => l.length - (intOf i).toNat)
  case atStart => exact ⟨0, by omega, rfl, rfl⟩
  case round =>
    obtain ⟨k, hk, rfl, hq⟩ := hrel
    have HQ := Lib.hid hq; clear hq
    by_cases hlt : k < l.length
    · have hd := Lib.hid (hasI_drop l c k hlt)
      go_wp2
      · go_ret
        exact RetP.bool (by rw [HQ.out, hd.out]; simp [*]) rfl
      · go_round
        case rel => exact ⟨k + 1, by omega, by go_num, by rw [HQ.out, hd.out]; simp [*]⟩
        case measure => simp [intOf]; omega
    · go_wp2
      go_ret
      exact RetP.bool (by rw [HQ.out, List.drop_of_length_le (by omega)]; rfl) rfl
theorem rref_any (s : List UInt8) (b : Bool) (w : World) (hl : s.length ≤ 4000000000) : Calls Tryz.prog 63 #[.string ⟨s.toArray⟩, .bool b] w (RetQ w (.int .i64 (checkRefI s b))) := by
  cases b
  all_goals
    go_enter Tryz.func63, Tryz.ntmps63
    go_wp2_with (go_at_call 104; refine callQ (rsplitRef_any _ _ hl) ?_; intro n1)
    all_goals (go_ret; exact RetQ.int (by grind [checkRefI]) (by first | exact ⟨_, rfl⟩ | exact ⟨0, rfl⟩))
theorem rnumber_any (n : Int) (lo hi : Int) (b : Bool) (w : World) : Calls Tryz.prog 65 #[.int .i64 n, .int .i64 lo, .int .i64 hi, .bool b] w (RetP w (.int .i64 (checkNum n b lo hi))) := by
  cases b
  all_goals
    go_enter Tryz.func65, Tryz.ntmps65
    go_wp2
    all_goals (go_ret; exact RetP.int (by grind [checkNum]) rfl)
/-- The letters of the reference's table are the bits of the program's. -/
theorem letters_tab : ∀ k : Fin 17, hasI (usesStr (k.val + 1 : Nat)) 70 = uB (k.val + 1 : Nat) 1 ∧ hasI (usesStr (k.val + 1 : Nat)) 67 = uB (k.val + 1 : Nat) 2 ∧ hasI (usesStr (k.val + 1 : Nat)) 84 = uB (k.val + 1 : Nat) 4 ∧ hasI (usesStr (k.val + 1 : Nat)) 111 = uB (k.val + 1 : Nat) 8 ∧
    hasI (usesStr (k.val + 1 : Nat)) 75 = uB (k.val + 1 : Nat) 16 ∧ hasI (usesStr (k.val + 1 : Nat)) 68 = uB (k.val + 1 : Nat) 32 ∧ hasI (usesStr (k.val + 1 : Nat)) 82 = uB (k.val + 1 : Nat) 64 ∧ hasI (usesStr (k.val + 1 : Nat)) 72 = uB (k.val + 1 : Nat) 128 ∧ hasI (usesStr (k.val + 1 : Nat)) 97 = climbsB (k.val + 1 : Nat) := by
  decide +kernel
theorem letters (t : Int) (h : knownB t = true) : hasI (usesStr t) 70 = uB t 1 ∧ hasI (usesStr t) 67 = uB t 2 ∧ hasI (usesStr t) 84 = uB t 4 ∧ hasI (usesStr t) 111 = uB t 8 ∧
    hasI (usesStr t) 75 = uB t 16 ∧ hasI (usesStr t) 68 = uB t 32 ∧ hasI (usesStr t) 82 = uB t 64 ∧ hasI (usesStr t) 72 = uB t 128 ∧ hasI (usesStr t) 97 = climbsB t := by
  have h1 : 1 ≤ t ∧ t ≤ 17 := by simpa [knownB] using h
  have := letters_tab ⟨t.toNat - 1, by omega⟩
  have e : ((t.toNat - 1 + 1 : Nat) : Int) = t := by omega
  simp only [e] at this
  exact this
theorem len_ite {c : Prop} [Decidable c] {a b : List UInt8} {n : Nat} (ha : a.length ≤ n) (hb : b.length ≤ n) : (if c then a else b).length ≤ n := by split <;> assumption
theorem usesStr_len (t : Int) : (usesStr t).length ≤ 5 := by
  unfold usesStr
  repeat' (refine len_ite ?_ ?_)
  all_goals decide
end Go.Proofs.YtjgondadpjildaaGreatDoor
