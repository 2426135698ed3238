/- Every edit that the terminal sends is one that the parser accepts. No program in sight. -/
import Derived.Test.YtlleijickhifmaaGreatDoorPk08
import Derived.Test.YtlleijickhifmaaGreatDoorPk21
import Derived.Test.YtlleijickhifmaaGreatDoorPk38
import Derived.Lib.ItoaLen
namespace Go.Proofs.YtlleijickhifmaaGreatDoor
open Go.RowKit
set_option linter.unusedVariables false
set_option linter.unusedSimpArgs false
def mkEd (op k : Int) (ref : List UInt8) (lo hi sp : Int) : EditV := ⟨op, k, ref, [], [], [], lo, hi, sp, 0, 0, 0⟩
theorem chk_of {e : EditV} : ∀ {l : List UInt8}, (∀ c ∈ l, stE e c = 0) → chkGo e l = 0
  | [], _ => rfl
  | c :: r, h => by rw [chkGo, h c (by simp), chk_of (fun x hx => h x (List.mem_cons_of_mem _ hx))]; rfl
theorem edOrder_each {P : UInt8 → Prop} (h0 : P 97) (h1 : P 114) (h2 : P 110) (h3 : P 119) (h4 : P 116) (h5 : P 104) (h6 : P 115) (h7 : P 99) (h8 : P 100) (h9 : P 117) : ∀ c ∈ edOrder, P c := by
  intro c hc
  simp only [edOrder, List.mem_cons, List.not_mem_nil, or_false] at hc
  rcases hc with rfl | rfl | rfl | rfl | rfl | rfl | rfl | rfl | rfl | rfl <;> assumption
theorem bet_in {n lo hi : Int} (h : lo ≤ n ∧ n ≤ hi) : betweenS n lo hi = 0 := by unfold betweenS; rw [if_neg]; omega
theorem chk_del {k : Int} (h0 : 0 ≤ k) (h : k ≤ 60) : editCheck (mkEd 2 k [] 0 0 0) = 0 := chk_of (edOrder_each (bet_in ⟨h0, h⟩) rfl rfl rfl rfl rfl rfl rfl rfl rfl)
theorem chk_dir {k : Int} (h0 : 0 ≤ k) (h : k ≤ 60) : editCheck (mkEd 3 k [] 0 0 0) = 0 := chk_of (edOrder_each (bet_in ⟨h0, h⟩) rfl rfl rfl rfl rfl rfl rfl rfl rfl)
theorem chk_ins {k : Int} {r : List UInt8} (h0 : 0 ≤ k) (h : k ≤ 60) (hr : (splitRef r).2.2 = 0) : editCheck (mkEd 1 k r 0 0 0) = 0 :=
  chk_of (edOrder_each (bet_in ⟨h0, h⟩) (show namedS (refB r) = 0 by rw [show refB r = true by simp [refB, hr]]; rfl) rfl rfl rfl rfl rfl rfl rfl rfl)
theorem chk_spd {k n : Int} (h0 : 0 ≤ k) (h : k ≤ 60) (hn : 0 ≤ n ∧ n ≤ 1000) : editCheck (mkEd 5 k [] 0 0 n) = 0 := chk_of (edOrder_each (bet_in ⟨h0, h⟩) rfl rfl rfl rfl rfl (bet_in hn) rfl rfl rfl)
theorem chk_alt {k lo hi : Int} (h0 : 0 ≤ k) (h : k ≤ 60) (hw : winOk lo hi) : editCheck (mkEd 4 k [] lo hi 0) = 0 :=
  chk_of (edOrder_each (bet_in ⟨h0, h⟩) rfl rfl rfl rfl (show (if lo < -200000 ∨ hi < lo ∨ 6000000 < hi then 2 else 0 : Int) = 0 by rw [if_neg]; unfold winOk at hw; omega) rfl rfl rfl rfl)
def cmdOk (key : List UInt8) (r : Pressed) : Prop :=
  (r.2.2 ≠ 0 → r.2.1 = []) ∧ (r.2.1 = [] ∨ r.2.1 = kUNDO ∨ r.2.1 = [65, 67, 75] ∨ ((r.2.1 = kEXEC ∨ r.2.1 = kERASE) ∧ key = r.2.1) ∨
    ∃ s, r.2.1 = [69, 68, 73, 84, 32] ++ s ∧ s.length ≤ 1000 ∧ (editParse s).2 = 0)
theorem cmd_none (key : List UInt8) (t : Term) (e : Int) : cmdOk key (t, [], e) := ⟨fun _ => rfl, .inl rfl⟩
theorem cmd_edit {key : List UInt8} {t : Term} {word rest : List UInt8} {k : Int} (h0 : 0 ≤ k) (hw : word.length ≤ 10) (hr : rest.length ≤ 30) (h : k ≤ 60 → ∃ e, editCheck e = 0 ∧ editText e = word ++ [32] ++ Lib.itoa k ++ rest) : cmdOk key (editS t word k rest) := by
  unfold editS
  split
  · exact cmd_none _ _ _
  · obtain ⟨e, h1, h2⟩ := h (by omega)
    refine ⟨fun h => absurd rfl h, .inr (.inr (.inr (.inr ⟨word ++ [32] ++ Lib.itoa k ++ rest, ?_, ?_, ?_⟩)))⟩
    · simp
    · have := Lib.itoa_length_le k (by omega) (by omega)
      simp only [List.length_append, List.length_cons, List.length_nil]; omega
    · rw [← h2, editParse_ok h1]
theorem text_mk {op k : Int} {ref : List UInt8} {lo hi sp : Int} {word rest : List UInt8} (hc : editCheck (mkEd op k ref lo hi sp) = 0)
    (ht : formW op ++ tailT (mkEd op k ref lo hi sp) (formF op) = word ++ [32] ++ Lib.itoa k ++ rest) : ∃ e, editCheck e = 0 ∧ editText e = word ++ [32] ++ Lib.itoa k ++ rest := ⟨_, hc, by rw [text_of hc]; exact ht⟩
theorem leftS_cmd (key : List UInt8) (t : Term) (p : Plan) (k : Int) (h0 : 0 ≤ k) (hp : t.pad.length ≤ 24) : cmdOk key (leftS t p k) := by
  unfold leftS
  split
  · split <;> exact cmd_none _ _ _
  · split
    · split
      · exact cmd_none _ _ _
      · refine cmd_edit h0 (by decide) (by simp) fun h => text_mk (chk_del h0 h) ?_
        show kDELETE ++ (32 :: (Lib.itoa k ++ [])) = _
        simp
    · split
      · exact cmd_none _ _ _
      · split
        · exact cmd_none _ _ _
        · rename_i hr
          refine cmd_edit h0 (by decide) (by simp; omega) fun h => text_mk (ref := t.pad) (chk_ins h0 h (by simpa using hr)) ?_
          show [73, 78, 83, 69, 82, 84] ++ (32 :: (Lib.itoa k ++ (32 :: (t.pad ++ [])))) = _
          simp
theorem speed_num {n : List UInt8} (h : speedE n = 0) : Lib.itoa (val n : Int) = n ∧ (val n : Int) ≤ 1000 := by
  unfold speedE at h
  split at h
  · simp at h
  · rename_i h1
    split at h
    · simp at h
    · rename_i h2
      have h2 : (cutPre 45 n).2 = false := by simpa using h2
      rw [h2, cutPre_false h2] at h1
      have hp : plainB n = true := by simpa using h1
      split at h
      · simp at h
      · exact ⟨by rw [Lib.itoa_nonneg, dec_val n hp], by omega⟩
theorem rightS_cmd (key : List UInt8) (t : Term) (p : Plan) (k : Int) (h0 : 0 ≤ k) (hp : t.pad.length ≤ 24) : cmdOk key (rightS t p k) := by
  unfold rightS
  split
  · exact cmd_none _ _ _
  · split
    · exact cmd_none _ _ _
    · split
      · split
        · exact cmd_none _ _ _
        · rename_i hs
          obtain ⟨h1, h2⟩ := speed_num (n := (cutPre 47 t.pad).1) (by simpa using hs)
          refine cmd_edit h0 (by decide) (by have := cutPre_len 47 t.pad; simp; omega) fun h => text_mk (sp := (val (cutPre 47 t.pad).1 : Int)) (chk_spd h0 h ⟨by omega, h2⟩) ?_
          show [83, 80, 68] ++ (32 :: (Lib.itoa k ++ (32 :: (Lib.itoa (val (cutPre 47 t.pad).1 : Int) ++ [])))) = _
          rw [h1]
          simp
      · split
        · exact cmd_none _ _ _
        · rename_i hs
          obtain ⟨h1, h2⟩ := parseWin_ok (s := t.pad) (by simpa using hs)
          refine cmd_edit h0 (by decide) (by simp; omega) fun h => text_mk (lo := (parseWinS t.pad).1.1) (hi := (parseWinS t.pad).1.2) (chk_alt h0 h h1) ?_
          show [65, 76, 84] ++ (32 :: (Lib.itoa k ++ (32 :: ((winT (parseWinS t.pad).1.1 (parseWinS t.pad).1.2).1 ++ [])))) = _
          rw [winT_in h1, h2]
          simp
theorem selectS_cmd (key : List UInt8) (t : Term) (v : Vw) (side : UInt8) (row : Int) (h0 : 0 ≤ t.first + row) (hp : t.pad.length ≤ 24) : cmdOk key (selectS t v side row) := by
  unfold selectS
  split
  · split
    · exact leftS_cmd _ _ _ _ h0 hp
    · exact rightS_cmd _ _ _ _ h0 hp
  · split
    · split
      · exact cmd_none _ _ _
      · split
        · exact cmd_none _ _ _
        · refine cmd_edit h0 (by decide) (by simp) fun h => text_mk (chk_dir h0 h) ?_
          show [68, 73, 82, 69, 67, 84] ++ (32 :: (Lib.itoa (t.first + row) ++ [])) = _
          simp
    · split
      · exact ⟨fun h => absurd rfl h, .inr (.inr (.inl rfl))⟩
      · exact cmd_none _ _ _
theorem putS_cmdOk (key : List UInt8) (t : Term) (k : List UInt8) : cmdOk key (putS t k) := by
  unfold putS
  repeat' split
  all_goals exact cmd_none _ _ _
theorem functionS_cmd (t : Term) (v : Vw) (key : List UInt8) (h : key = kUNDO ∨ key ≠ kUNDO ∧ (key = kCLR ∨ key = kLEGS ∨ key = kDIR ∨ key = kPROG ∨ key = kMSG ∨ key = kDOWN ∨ key = kUP ∨ key = kEXEC ∨ key = kERASE)) : cmdOk key (functionS t v key) := by
  unfold functionS
  repeat' split
  all_goals first
    | exact cmd_none _ _ _
    | (rename_i hx _; exact ⟨fun h => absurd rfl h, .inr (.inr (.inr (.inl ⟨hx, rfl⟩)))⟩)
    | skip
  rename_i n1 n2 n3 n4 n5 n6 n7 n8
  rcases h with rfl | ⟨_, h⟩
  · exact ⟨fun h => absurd rfl h, .inr (.inl rfl)⟩
  · exfalso
    rcases h with h | h | h | h | h | h | h | h | h
    · exact n1 h
    · exact n2 h
    · exact n3 h
    · exact n4 h
    · exact n5 h
    · exact n6 h
    · exact n7 h
    · exact n8 (.inl h)
    · exact n8 (.inr h)
theorem words_each {key : List UInt8} (h : key ∈ wordsL) : key = kUNDO ∨ key ≠ kUNDO ∧ (key = kCLR ∨ key = kLEGS ∨ key = kDIR ∨ key = kPROG ∨ key = kMSG ∨ key = kDOWN ∨ key = kUP ∨ key = kEXEC ∨ key = kERASE) := by
  simp only [wordsL, List.mem_cons, List.not_mem_nil, or_false] at h
  by_cases hu : key = kUNDO
  · exact .inl hu
  · refine .inr ⟨hu, ?_⟩
    rcases h with h | h | h | h | h | h | h | h | h | h
    all_goals first | exact absurd h hu | (simp only [h, true_or, or_true])
/-- What a key sends. -/
theorem press_cmd (t : Term) (v : Vw) (key : List UInt8) : cmdOk key (pressS t v key) := by
  rw [pressS_eq]
  split
  · exact cmd_none _ _ _
  · rename_i hb
    have hk : key ∈ keysL := by
      by_cases h : key ∈ keysL
      · exact h
      · exact absurd (Or.inl h) hb
    have h0 : 0 ≤ t.first := by
      rcases Int.lt_or_le t.first 0 with h | h
      · exact absurd (.inr (.inr (.inr (.inl h)))) hb
      · exact h
    have hp : t.pad.length ≤ 24 := by
      rcases Nat.lt_or_ge 24 t.pad.length with h | h
      · exact absurd (.inr (.inr (.inr (.inr (.inr h))))) hb
      · exact h
    rcases keys_cases hk with ⟨c, _, rfl⟩ | hw | ⟨side, row, hs, hr, rfl⟩
    · rw [pressK_put]; exact putS_cmdOk _ _ _
    · rw [pressK_word t v hw]; exact functionS_cmd t v key (words_each hw)
    · rw [pressK_line t v hs hr]; exact selectS_cmd _ _ _ _ _ (by omega) hp
/-- The bound of a pad's length. -/
def padOk (t : Term) : Prop := t.pad.length ≤ 4000000000
theorem winT_len19 (lo hi : Int) : (winT lo hi).1.length ≤ 19 := by
  by_cases h : winOk lo hi
  · rw [winT_in h]; exact winS_len19 h
  · rw [winT_out h]; simp
theorem editS_pad {t : Term} (h : padOk t) (word : List UInt8) (k : Int) (rest : List UInt8) : padOk (editS t word k rest).1 := by
  unfold editS; split
  · exact h
  · show ([] : List UInt8).length ≤ _; simp
theorem press_pad {t : Term} {v : Vw} (key : List UInt8) (h : padOk t) (hl : key.length ≤ 2000000) (hf : ∀ x ∈ (shownS v).es, x.leg.fix.length ≤ 4000000000) : padOk (pressS t v key).1 := by
  have hfix : ∀ k f, fixAtS (shownS v) k = some f → f.length ≤ 4000000000 := by
    intro k f hk
    unfold fixAtS legAtS at hk
    cases hg : (shownS v).es[k.toNat]? with
    | none => rw [hg] at hk; cases hk
    | some x =>
      rw [hg] at hk
      simp only at hk
      cases hxg : x.gap with
      | true => rw [hxg] at hk; simp at hk
      | false =>
        rw [hxg] at hk
        simp only [Bool.false_eq_true, if_false] at hk
        split at hk
        · cases hk; exact hf x (List.mem_of_getElem? hg)
        · cases hk
  rw [pressS_eq]
  split
  · exact h
  · rename_i hb
    have hp : t.pad.length ≤ 24 := by
      rcases Nat.lt_or_ge 24 t.pad.length with h | h
      · exact absurd (.inr (.inr (.inr (.inr (.inr h))))) hb
      · exact h
    have hput : padOk (putS t key).1 := by
      unfold putS
      repeat' split
      · show key.length ≤ _; omega
      · exact h
      · show (t.pad ++ key).length ≤ _; rw [List.length_append]; omega
    have hfun : padOk (functionS t v key).1 := by
      unfold functionS
      repeat' split
      all_goals first
        | exact h
        | (show ([] : List UInt8).length ≤ _; simp; done)
        | (show kDELETE.length ≤ _; simp [kDELETE]; done)
        | (show (t.pad.take _).length ≤ _; rw [List.length_take]; omega)
    have hleft : ∀ k, padOk (leftS t (shownS v) k).1 := by
      intro k
      unfold leftS
      split
      · cases hq : fixAtS (shownS v) k with
        | none => exact h
        | some f => exact hfix k f hq
      · repeat' split
        all_goals first | exact h | exact editS_pad h _ _ _
    have hright : ∀ k, padOk (rightS t (shownS v) k).1 := by
      intro k
      unfold rightS
      split
      · exact h
      · split
        · show (winT _ _).1.length ≤ _; exact Nat.le_trans (winT_len19 _ _) (by omega)
        · repeat' split
          all_goals first | exact h | exact editS_pad h _ _ _
    unfold pressK
    split
    · exact hput
    · split
      · unfold selectS
        repeat' split
        all_goals first | exact h | exact hleft _ | exact hright _ | exact editS_pad h _ _ _
      · exact hfun
    · exact hfun
end Go.Proofs.YtlleijickhifmaaGreatDoor
