/- How long the text of a valid edit may be. No program in sight. The reference's Check of an edit and what it calls; walks (printed by mkedref.py). -/
import Derived.Test.YtnmpfmelaninbaaGreatDoorPk13
import Derived.Test.YtnmpfmelaninbaaGreatDoorPk37
import Derived.Test.YtnmpfmelaninbaaGreatDoorPk20
import Derived.Test.YtnmpfmelaninbaaGreatDoorPk02
import Derived.Test.YtnmpfmelaninbaaGreatDoorPk05
namespace Go.Proofs.YtnmpfmelaninbaaGreatDoor
open Go.RowKit
set_option linter.unusedVariables false
set_option linter.unusedSimpArgs false
theorem dash_short {l : List UInt8} {n : Nat} (hn : 1 ≤ n) (h : l.length ≤ n) : (dashB l).length ≤ n := by
  unfold dashB; split
  · simpa using hn
  · exact h
theorem opt_short {l : List UInt8} {m : Nat} (h : (l.isEmpty || nameB l m) = true) : l.length ≤ m := by
  cases l with
  | nil => simp
  | cons a r => exact nameB_lenT (by simpa using h)
theorem write_short {e : EditV} {c : UInt8} (hc : c ∈ edOrder) (h : checkF e c = 0) : (writeF e c).length ≤ 30 := by
  simp only [edOrder, List.mem_cons, List.not_mem_nil, or_false] at hc
  rcases hc with rfl | rfl | rfl | rfl | rfl | rfl | rfl | rfl | rfl | rfl
  · have hb := betE (show betweenS e.at_ 0 60 = 0 from h)
    have := itoa_len e.at_ (by omega) (by omega)
    show (Lib.itoa e.at_).length ≤ _; omega
  · have := ref_lenT (numE0 (show namedS (refB e.ref) = 0 from h))
    show e.ref.length ≤ _; omega
  · show e.name.length ≤ _
    have h' : (if e.op = 12 then namedS (pairB e.name 47 6) else namedS (nameB e.name 8)) = 0 := h
    split at h'
    · have := pairB_lenT (m := 6) (numE0 h'); omega
    · have := nameB_lenT (m := 8) (numE0 h'); omega
  · exact dash_short (by omega) (Nat.le_trans (opt_short (m := 6) (numE0 (show namedS (e.rway.isEmpty || nameB e.rway 6) = 0 from h))) (by omega))
  · exact dash_short (by omega) (Nat.le_trans (opt_short (m := 8) (numE0 (show namedS (e.trans.isEmpty || nameB e.trans 8) = 0 from h))) (by omega))
  · show (winT e.lo e.hi).1.length ≤ _
    rw [winT_in (win_okE h)]
    have := winS_len (win_okE h)
    show (winS e.lo e.hi).length ≤ _; omega
  · have hb := betE (show betweenS e.speed 0 1000 = 0 from h)
    have := itoa_len e.speed (by omega) (by omega)
    show (Lib.itoa e.speed).length ≤ _; omega
  · show (exactS e.course.toNat).length ≤ _
    rw [exactS_len]; omega
  · show (distT e.dist).1.length ≤ _
    rw [distT_in (dist_okE h)]
    have := distS_len (d := e.dist.toNat) (by have := dist_okE h; omega)
    show (distS _).length ≤ _; omega
  · show (if e.turn = 1 then [76] else [82] : List UInt8).length ≤ _
    split <;> decide
theorem tail_short {e : EditV} : ∀ (fs : List UInt8), (∀ c ∈ fs, (writeF e c).length ≤ 30) → (tailT e fs).length ≤ fs.length * 31
  | [], _ => by simp [tailT]
  | c :: r, h => by
      have h1 := h c (by simp)
      have h2 := tail_short r fun d hd => h d (by simp [hd])
      show (32 :: (writeF e c ++ tailT e r)).length ≤ _
      simp only [List.length_cons, List.length_append]
      omega
theorem editText_short (e : EditV) : (editText e).length ≤ 200 := by
  by_cases h : editCheck e = 0
  · rw [text_of h, List.length_append]
    have h1 := form_len (edit_ok h).1
    have h2 := tail_short (e := e) (formF e.op) fun c hc => write_short ((formF_in (edit_ok h).1).1 c hc) (used_check h c hc)
    omega
  · unfold editText; rw [if_pos (by simpa using h)]; simp
end Go.Proofs.YtnmpfmelaninbaaGreatDoor
namespace Go.Proofs.YtnmpfmelaninbaaGreatDoor
open Go.RowKit Go.Sort
set_option linter.unusedVariables false
set_option linter.unusedSimpArgs false
set_option maxRecDepth 100000
def usesR (op : Int) : List UInt8 := ([[], [105, 102], [105], [105], [105, 97], [105, 115], [105, 100], [105, 99, 100, 117], [105, 102, 110], [110, 114, 116], [110, 114, 116], [110, 116], [105, 110]] : List (List UInt8)).getD op.toNat []
theorem ops12 {op : Int} (h : ¬ (op < 1 ∨ 12 < op)) : op = 1 ∨ op = 2 ∨ op = 3 ∨ op = 4 ∨ op = 5 ∨ op = 6 ∨ op = 7 ∨ op = 8 ∨ op = 9 ∨ op = 10 ∨ op = 11 ∨ op = 12 := by omega
theorem uses_in {op : Int} (h : ¬ (op < 1 ∨ 12 < op)) : usesR op ≠ [] ∧ (usesR op).length ≤ 4 ∧ hasI (usesR op) 105 = (formF op).contains 97 ∧ hasI (usesR op) 102 = (formF op).contains 114 ∧ hasI (usesR op) 110 = (formF op).contains 110 ∧ hasI (usesR op) 114 = (formF op).contains 119 ∧ hasI (usesR op) 116 = (formF op).contains 116 ∧ hasI (usesR op) 97 = (formF op).contains 104 ∧ hasI (usesR op) 115 = (formF op).contains 115 ∧ hasI (usesR op) 99 = (formF op).contains 99 ∧ hasI (usesR op) 100 = (formF op).contains 100 ∧ hasI (usesR op) 117 = (formF op).contains 117 := by
  rcases ops12 h with rfl | rfl | rfl | rfl | rfl | rfl | rfl | rfl | rfl | rfl | rfl | rfl <;> decide
theorem euses_any (op : Int) (h : ¬ (op < 1 ∨ 12 < op)) (w : World) : Calls Tryz.prog 33 #[.int .u8 op] w (RetP w (.string ⟨(usesR op).toArray⟩)) := by
  rcases ops12 h with rfl | rfl | rfl | rfl | rfl | rfl | rfl | rfl | rfl | rfl | rfl | rfl
  all_goals
    go_enter Tryz.func33, Tryz.ntmps33
    go_wp2
    go_ret
    exact ⟨rfl, rfl⟩
theorem euses_none (op : Int) (h : op < 1 ∨ 12 < op) (w : World) : Calls Tryz.prog 33 #[.int .u8 op] w (RetP w (.string ⟨#[]⟩)) := by
  have e1 : (op == 1) = false := by simp; omega
  have e2 : (op == 2) = false := by simp; omega
  have e3 : (op == 3) = false := by simp; omega
  have e4 : (op == 4) = false := by simp; omega
  have e5 : (op == 5) = false := by simp; omega
  have e6 : (op == 6) = false := by simp; omega
  have e7 : (op == 7) = false := by simp; omega
  have e8 : (op == 8) = false := by simp; omega
  have e9 : (op == 9) = false := by simp; omega
  have e10 : (op == 10) = false := by simp; omega
  have e11 : (op == 11) = false := by simp; omega
  have e12 : (op == 12) = false := by simp; omega
  clear h
  go_enter Tryz.func33, Tryz.ntmps33
  go_wp2
  go_ret
  exact ⟨rfl, rfl⟩
theorem ehas_any (l : List UInt8) (c : Int) (w : World) (hl : l.length ≤ 4000000000) : Calls Tryz.prog 35 #[.string ⟨l.toArray⟩, .int .u8 c] w (RetP w (.bool (hasI l c))) := by
  go_enter Tryz.func35, Tryz.ntmps35
  go_wp2
  go_loop [5] (fun i => ∃ k : Nat, k ≤ l.length ∧ i = .int .i64 k ∧ hasI l c = hasI (l.drop k) c) (fun i => l.length - (intOf i).toNat)
  case atStart => exact ⟨0, by omega, rfl, rfl⟩
  case round =>
    obtain ⟨k, hk, rfl, hq⟩ := hrel
    have HQ := Lib.hid hq; clear hq
    by_cases hlt : k < l.length
    · have hd := Lib.hid (hasI_drop l c k hlt)
      go_wp2
      · go_ret
        exact RetP.bool (by rw [HQ.out, hd.out]; simp [*]) rfl
      · go_round
        case rel => exact ⟨k + 1, by omega, by go_num, by rw [HQ.out, hd.out]; simp [*]⟩
        case measure => simp [intOf]; omega
    · go_wp2
      go_ret
      exact RetP.bool (by rw [HQ.out, List.drop_of_length_le (by omega)]; rfl) rfl
def rnumS (b : Bool) (n lo hi : Int) : Int := if b then betweenS n lo hi else if n = 0 then 0 else 1
def rnameS (b z r : Bool) : Int := if b then namedS r else if z then 0 else 1
theorem enumber_any (b : Bool) (n lo hi : Int) (w : World) : Calls Tryz.prog 34 #[.bool b, .int .i64 n, .int .i64 lo, .int .i64 hi] w (RetP w (.int .i64 (rnumS b n lo hi))) := by
  cases b
  all_goals
    go_enter Tryz.func34, Tryz.ntmps34
    go_wp2
    all_goals (go_ret; exact RetP.int (by grind [rnumS, betweenS]) rfl)
theorem ename_any (b z r : Bool) (w : World) : Calls Tryz.prog 37 #[.bool b, .bool z, .bool r] w (RetP w (.int .i64 (rnameS b z r))) := by
  cases b <;> cases z <;> cases r
  all_goals
    go_enter Tryz.func37, Tryz.ntmps37
    go_wp2
    go_ret
    exact RetP.int rfl rfl
end Go.Proofs.YtnmpfmelaninbaaGreatDoor
