/- Layer 58 in plain Lean: what the statements say of the keys. No program in sight. A plan out of and into memory: rules of the walk. A terminal, a view: their cells, and their ways out of and into memory. Layer 58's example in plain Lean. -/
import Derived.Test.YtlleijickhifmaaGreatDoorPk07
namespace Go.Proofs.YtlleijickhifmaaGreatDoor
open Go.RowKit
set_option linter.unusedVariables false
set_option linter.unusedSimpArgs false
theorem editS_err (t : Term) (word : List UInt8) (k : Int) (rest : List UInt8) : (editS t word k rest).2.2 = 0 ∨ (editS t word k rest).2.2 = 3 := by
  unfold editS; split <;> simp
theorem leftS_err (t : Term) (p : Plan) (k : Int) : (leftS t p k).2.2 ≠ 1 := by
  unfold leftS
  have h1 := editS_err t kDELETE k []
  have h2 := editS_err t [73, 78, 83, 69, 82, 84] k (32 :: t.pad)
  repeat' split
  all_goals first | (simp; done) | omega
theorem rightS_err (t : Term) (p : Plan) (k : Int) : (rightS t p k).2.2 ≠ 1 := by
  unfold rightS
  split
  · simp
  · rename_i l _
    have h1 := editS_err t [83, 80, 68] k (32 :: (cutPre 47 t.pad).1)
    have h2 := editS_err t [65, 76, 84] k (32 :: t.pad)
    repeat' split
    all_goals first | (simp; done) | omega
theorem selectS_err (t : Term) (v : Vw) (side : UInt8) (row : Int) : (selectS t v side row).2.2 ≠ 1 := by
  unfold selectS
  have h1 := editS_err t [68, 73, 82, 69, 67, 84] (t.first + row) []
  repeat' split
  all_goals first | exact leftS_err _ _ _ | exact rightS_err _ _ _ | (simp; done) | omega
theorem putS_err (t : Term) (key : List UInt8) : (putS t key).2.2 ≠ 1 := by
  unfold putS
  repeat' split
  all_goals simp
theorem functionS_err (t : Term) (v : Vw) (key : List UInt8) : (functionS t v key).2.2 ≠ 1 := by
  unfold functionS
  repeat' split
  all_goals simp
/-- What Press does where it does not refuse its arguments. -/
def pressK (t : Term) (v : Vw) (key : List UInt8) : Pressed :=
  match key with
  | [c] => putS t [c]
  | [a, b] => if key ∈ linesL then selectS t v a ((b.toNat : Int) - 49) else functionS t v key
  | _ => functionS t v key
def pressBad (t : Term) (key : List UInt8) : Prop := key ∉ keysL ∨ t.page < 1 ∨ 4 < t.page ∨ t.first < 0 ∨ 1000000 < t.first ∨ 24 < t.pad.length
instance (t : Term) (key : List UInt8) : Decidable (pressBad t key) := by unfold pressBad; infer_instance
theorem pressS_eq (t : Term) (v : Vw) (key : List UInt8) : pressS t v key = if pressBad t key then (t, [], 1) else pressK t v key := by
  unfold pressS pressBad pressK
  rfl
theorem pressK_err (t : Term) (v : Vw) (key : List UInt8) : (pressK t v key).2.2 ≠ 1 := by
  unfold pressK
  split
  · exact putS_err _ _
  · split
    · exact selectS_err _ _ _ _
    · exact functionS_err _ _ _
  · exact functionS_err _ _ _
theorem pressS_ok {t : Term} {v : Vw} {key : List UInt8} (hk : key ∈ keysL) (h1 : 1 ≤ t.page) (h2 : t.page ≤ 4) (h3 : 0 ≤ t.first) (h4 : t.first ≤ 1000000) (h5 : t.pad.length ≤ 24) : pressS t v key = pressK t v key := by
  rw [pressS_eq, if_neg]
  unfold pressBad
  intro h
  rcases h with h | h | h | h | h | h
  · exact h hk
  all_goals omega
/-- Each key is known on every page. -/
theorem keys_known (v : Vw) (page : Int) (key : List UInt8) (hk : key ∈ keysL) (h1 : 1 ≤ page) (h2 : page ≤ 4) : (pressS ⟨page, 0, []⟩ v key).2.2 ≠ 1 := by
  rw [pressS_ok hk h1 h2 (by simp) (by simp) (by simp)]
  exact pressK_err _ _ _
theorem keys_cases {key : List UInt8} (h : key ∈ keysL) : (∃ c ∈ signsL, key = [c]) ∨ key ∈ wordsL ∨ ∃ (side : UInt8) (row : Nat), (side = 76 ∨ side = 82) ∧ row ≤ 4 ∧ key = [side, UInt8.ofNat (49 + row)] := by
  unfold keysL at h
  rcases List.mem_append.1 h with h | h
  · rcases List.mem_append.1 h with h | h
    · obtain ⟨c, hc, rfl⟩ := List.mem_map.1 h
      exact .inl ⟨c, hc, rfl⟩
    · exact .inr (.inl h)
  · refine .inr (.inr ?_)
    simp only [linesL, List.mem_cons, List.not_mem_nil, or_false] at h
    rcases h with h | h | h | h | h | h | h | h | h | h <;> subst h
    · exact ⟨76, 0, .inl rfl, by omega, rfl⟩
    · exact ⟨76, 1, .inl rfl, by omega, rfl⟩
    · exact ⟨76, 2, .inl rfl, by omega, rfl⟩
    · exact ⟨76, 3, .inl rfl, by omega, rfl⟩
    · exact ⟨76, 4, .inl rfl, by omega, rfl⟩
    · exact ⟨82, 0, .inr rfl, by omega, rfl⟩
    · exact ⟨82, 1, .inr rfl, by omega, rfl⟩
    · exact ⟨82, 2, .inr rfl, by omega, rfl⟩
    · exact ⟨82, 3, .inr rfl, by omega, rfl⟩
    · exact ⟨82, 4, .inr rfl, by omega, rfl⟩
theorem pressK_put (t : Term) (v : Vw) (c : UInt8) : pressK t v [c] = putS t [c] := rfl
theorem words_not : ∀ key ∈ wordsL, key ∉ linesL ∧ key.length ≠ 1 ∧ (key.length = 2 → key = kUP) ∧ key.length ≤ 5 ∧ 2 ≤ key.length := by decide +kernel
theorem pressK_word (t : Term) (v : Vw) {key : List UInt8} (h : key ∈ wordsL) : pressK t v key = functionS t v key := by
  have h1 := words_not key h
  unfold pressK
  split
  · exact absurd rfl h1.2.1
  · rw [if_neg h1.1]
  · rfl
theorem lines_mem : ∀ row : Nat, row ≤ 4 → [76, UInt8.ofNat (49 + row)] ∈ linesL ∧ [82, UInt8.ofNat (49 + row)] ∈ linesL := by decide +kernel
theorem lines_num : ∀ row : Nat, row ≤ 4 → (UInt8.ofNat (49 + row)).toNat = 49 + row := by decide +kernel
theorem pressK_line (t : Term) (v : Vw) {side : UInt8} {row : Nat} (hs : side = 76 ∨ side = 82) (hr : row ≤ 4) : pressK t v [side, UInt8.ofNat (49 + row)] = selectS t v side row := by
  have h1 : [side, UInt8.ofNat (49 + row)] ∈ linesL := by
    rcases hs with rfl | rfl
    · exact (lines_mem row hr).1
    · exact (lines_mem row hr).2
  unfold pressK
  simp only [if_pos h1, lines_num row hr]
  congr 1
  omega
/-- Where an error is answered the terminal is as it was. -/
theorem editS_same {t : Term} {word : List UInt8} {k : Int} {rest : List UInt8} (h : (editS t word k rest).2.2 ≠ 0) : editS t word k rest = (t, [], (editS t word k rest).2.2) := by
  unfold editS at *
  split <;> simp_all
theorem leftS_same {t : Term} {p : Plan} {k : Int} (h : (leftS t p k).2.2 ≠ 0) : leftS t p k = (t, [], (leftS t p k).2.2) := by
  unfold leftS at *
  by_cases h1 : t.pad = []
  · simp only [if_pos h1] at *
    cases hf : fixAtS p k with
    | none => simp
    | some f => rw [hf] at h; exact absurd rfl h
  · simp only [if_neg h1] at *
    by_cases h2 : t.pad = kDELETE
    · simp only [if_pos h2] at *
      by_cases h3 : (p.es.length : Int) ≤ k
      · simp only [if_pos h3]
      · simp only [if_neg h3] at *; exact editS_same h
    · simp only [if_neg h2] at *
      by_cases h3 : (p.es.length : Int) < k
      · simp only [if_pos h3]
      · simp only [if_neg h3] at *
        by_cases h4 : ((splitRef t.pad).2.2 != 0) = true
        · simp only [if_pos h4]
        · simp only [if_neg h4] at *; exact editS_same h
theorem rightS_same {t : Term} {p : Plan} {k : Int} (h : (rightS t p k).2.2 ≠ 0) : rightS t p k = (t, [], (rightS t p k).2.2) := by
  unfold rightS at *
  cases hl : legAtS p k with
  | none => rfl
  | some l =>
    simp only [hl] at *
    by_cases h1 : t.pad = []
    · simp only [if_pos h1] at *; exact absurd rfl h
    · simp only [if_neg h1] at *
      by_cases h2 : (cutPre 47 t.pad).2 = true
      · simp only [if_pos h2] at *
        by_cases h3 : (speedE (cutPre 47 t.pad).1 != 0) = true
        · simp only [if_pos h3]
        · simp only [if_neg h3] at *; exact editS_same h
      · simp only [if_neg h2] at *
        by_cases h3 : ((parseWinS t.pad).2 != 0) = true
        · simp only [if_pos h3]
        · simp only [if_neg h3] at *; exact editS_same h
theorem selectS_same {t : Term} {v : Vw} {side : UInt8} {row : Int} (h : (selectS t v side row).2.2 ≠ 0) : selectS t v side row = (t, [], (selectS t v side row).2.2) := by
  unfold selectS at *
  by_cases h1 : t.page = 1
  · simp only [if_pos h1] at *
    by_cases h2 : side = 76
    · simp only [if_pos h2] at *; exact leftS_same h
    · simp only [if_neg h2] at *; exact rightS_same h
  · simp only [if_neg h1] at *
    by_cases h2 : t.page = 2 ∧ side = 76
    · simp only [if_pos h2] at *
      cases hf : fixAtS (shownS v) (t.first + row) with
      | none => rfl
      | some f =>
        simp only [hf] at *
        by_cases h3 : t.pad ≠ []
        · simp only [if_pos h3]
        · simp only [if_neg h3] at *; exact editS_same h
    · simp only [if_neg h2] at *
      by_cases h3 : t.page = 4 ∧ side = 76 ∧ row = 0 ∧ 0 < v.alerts.length
      · simp only [if_pos h3] at *; exact absurd rfl h
      · simp only [if_neg h3]
theorem putS_same {t : Term} {key : List UInt8} (h : (putS t key).2.2 ≠ 0) : putS t key = (t, [], (putS t key).2.2) := by
  unfold putS at *
  by_cases h1 : t.pad = kDELETE
  · simp only [if_pos h1] at *; exact absurd rfl h
  · simp only [if_neg h1] at *
    by_cases h2 : t.pad.length = 24
    · simp only [if_pos h2]
    · simp only [if_neg h2] at *; exact absurd rfl h
theorem putS_cmd (t : Term) (key : List UInt8) : (putS t key).2.1 = [] := by
  unfold putS
  repeat' split
  all_goals rfl
theorem functionS_same {t : Term} {v : Vw} {key : List UInt8} (h : (functionS t v key).2.2 ≠ 0) : functionS t v key = (t, [], (functionS t v key).2.2) := by
  unfold functionS at *
  repeat' split
  all_goals simp_all
theorem pressK_same {t : Term} {v : Vw} {key : List UInt8} (h : (pressK t v key).2.2 ≠ 0) : pressK t v key = (t, [], (pressK t v key).2.2) := by
  unfold pressK at *
  split at h
  · exact putS_same h
  · split at h
    · rename_i h2; simp only [if_pos h2] at *; exact selectS_same h
    · rename_i h2; simp only [if_neg h2] at *; exact functionS_same h
  · exact functionS_same h
/-! PageShape -/
theorem rowS_len (t : Term) (p : Plan) (k : Nat) : (rowS t p k).length = 2 := by
  unfold rowS
  split
  · rfl
  · split <;> rfl
theorem rowsS_len (t : Term) (p : Plan) : (rowsS t p).length = 10 := by
  unfold rowsS
  simp [List.range_succ, rowS_len]
theorem bodyS_len (t : Term) (v : Vw) : (bodyS t v).length ≤ 10 := by
  unfold bodyS
  repeat' split
  · rw [rowsS_len]; omega
  · simp [progressS]
  · simp; omega
  · simp
theorem renderS_len (t : Term) (v : Vw) : (renderS t v).length = 14 := by
  unfold renderS fill11
  have := bodyS_len t v
  simp
  omega
def isLine (s : List UInt8) : Prop := ∃ l r, s = lineS l r
theorem rowS_line (t : Term) (p : Plan) (k : Nat) : ∀ s ∈ rowS t p k, isLine s := by
  unfold rowS
  intro s hs
  split at hs
  · simp at hs; exact ⟨_, _, hs⟩
  · split at hs
    · simp at hs; rcases hs with hs | hs <;> exact ⟨_, _, hs⟩
    · simp only [List.mem_cons, List.not_mem_nil, or_false] at hs; rcases hs with hs | hs <;> exact ⟨_, _, hs⟩
theorem bodyS_line (t : Term) (v : Vw) : ∀ s ∈ bodyS t v, isLine s := by
  unfold bodyS
  intro s hs
  split at hs
  · unfold rowsS at hs
    obtain ⟨i, _, hi⟩ := List.mem_flatMap.1 hs
    exact rowS_line _ _ _ s hi
  · split at hs
    · simp only [progressS, List.mem_cons, List.not_mem_nil, or_false] at hs
      rcases hs with hs | hs | hs | hs | hs | hs | hs | hs | hs | hs <;> exact ⟨_, _, hs⟩
    · split at hs
      · obtain ⟨a, _, rfl⟩ := List.mem_map.1 hs; exact ⟨_, _, rfl⟩
      · simp at hs
theorem renderS_line (t : Term) (v : Vw) : ∀ s ∈ renderS t v, isLine s := by
  unfold renderS fill11
  intro s hs
  simp only [List.mem_append, List.mem_cons, List.not_mem_nil, or_false, List.mem_replicate] at hs
  rcases hs with ((hs | hs) | hs) | hs | hs | hs
  · unfold titleS at hs; exact ⟨_, _, hs⟩
  · exact bodyS_line t v s hs
  · exact ⟨_, _, hs.2⟩
  all_goals exact ⟨_, _, hs⟩
theorem renderS_shape (t : Term) (v : Vw) : ∀ s ∈ renderS t v, s.length = 24 ∧ ∀ c ∈ s, 32 ≤ c.toNat ∧ c.toNat ≤ 126 := by
  intro s hs
  obtain ⟨l, r, rfl⟩ := renderS_line t v s hs
  exact ⟨lineS_len l r, lineS_in l r⟩
/-! PageTypes -/
theorem sign_key : ∀ c ∈ signsL, [c] ∈ keysL := by decide +kernel
theorem types_step {v : Vw} {p : List UInt8} {c : UInt8} (hc : c ∈ signsL) (hp : p.length < 24) (hd : p ≠ kDELETE) : pressS ⟨1, 0, p⟩ v [c] = (⟨1, 0, p ++ [c]⟩, [], 0) := by
  rw [pressS_ok (sign_key c hc) (by simp) (by simp) (by simp) (by simp) (by simp; omega)]
  simp only [pressK, putS, if_neg hd]
  rw [if_neg (by omega)]
theorem clr_key : kCLR ∈ keysL := by decide +kernel
theorem types_clr {v : Vw} {p : List UInt8} (h0 : p ≠ []) (hp : p.length ≤ 24) (hd : p ≠ kDELETE) : pressS ⟨1, 0, p⟩ v kCLR = (⟨1, 0, p.take (p.length - 1)⟩, [], 0) := by
  rw [pressS_ok clr_key (by simp) (by simp) (by simp) (by simp) (by simpa using hp)]
  have : pressK ⟨1, 0, p⟩ v kCLR = functionS ⟨1, 0, p⟩ v kCLR := rfl
  rw [this]
  unfold functionS
  simp only [if_pos, if_neg h0, if_neg hd]
/-! PageScrolls -/
theorem up_key : kUP ∈ keysL := by decide +kernel
theorem down_key : kDOWN ∈ keysL := by decide +kernel
theorem scroll_down {v : Vw} {n : Int} (h0 : 0 ≤ n) (h1 : n ≤ 1000000) : pressS ⟨1, n, []⟩ v kDOWN = if ((shownS v).es.length : Int) ≤ n + 5 then (⟨1, n, []⟩, [], 6) else (⟨1, n + 5, []⟩, [], 0) := by
  rw [pressS_ok down_key (by simp) (by simp) h0 h1 (by simp)]
  rfl
theorem scroll_up {v : Vw} {n : Int} (h0 : 0 ≤ n) (h1 : n + 5 ≤ 1000000) : pressS ⟨1, n + 5, []⟩ v kUP = (⟨1, n, []⟩, [], 0) := by
  rw [pressS_ok up_key (by simp) (by simp) (by simp; omega) h1 (by simp)]
  have : pressK ⟨1, n + 5, []⟩ v kUP = if n + 5 < 5 then (⟨1, n + 5, []⟩, [], 6) else (⟨1, n + 5 - 5, []⟩, [], 0) := by
    show functionS ⟨1, n + 5, []⟩ v kUP = _
    have e1 : kUP ≠ kCLR := by decide
    have e2 : kUP ≠ kLEGS := by decide
    have e3 : kUP ≠ kDIR := by decide
    have e4 : kUP ≠ kPROG := by decide
    have e5 : kUP ≠ kMSG := by decide
    have e6 : kUP ≠ kDOWN := by decide
    unfold functionS
    simp only [if_neg e1, if_neg e2, if_neg e3, if_neg e4, if_neg e5, if_neg e6, if_true]
  rw [this, if_neg (by omega), show n + 5 - 5 = n by omega]
/-! PageCopies -/
theorem altN_len8 {m : Nat} (h : m ≤ 6000000) : (altN m).length ≤ 8 := by
  have h1 : (Lib.decDigits (m / 100)).length ≤ 5 := dec_len (by decide) (by omega)
  have h2 : (Lib.decDigits (m % 100 / 10)).length ≤ 1 := dec_len (by decide) (by omega)
  have h3 : (Lib.decDigits (m % 10)).length ≤ 1 := dec_len (by decide) (by omega)
  unfold altN
  split <;> simp <;> omega
theorem altS_len9 {a : Int} (h0 : -200000 ≤ a) (h : a ≤ 6000000) : (altS a).length ≤ 9 := by
  have := altN_len8 (m := a.natAbs) (by omega)
  unfold altS
  split <;> simp <;> omega
theorem winS_len19 {lo hi : Int} (h : winOk lo hi) : (winS lo hi).length ≤ 19 := by
  obtain ⟨h1, h2, h3⟩ := h
  have a := altS_len9 h1 (by omega)
  have b := altS_len9 (a := hi) (by omega) h3
  unfold winS
  repeat' split
  all_goals simp
  all_goals omega
theorem winS_head (lo hi : Int) : ∃ c r, winS lo hi = c :: r ∧ altC c = true := by
  have key : ∀ a : Int, ∃ c r, altS a = c :: r ∧ altC c = true := by
    intro a
    have h := altS_all a
    match h2 : altS a with
    | [] => exact absurd h2 (altS_ne a)
    | c :: r => rw [h2] at h; simp at h; exact ⟨c, r, rfl, h.1⟩
  obtain ⟨c, r, e, hc⟩ := key lo
  obtain ⟨c', r', e', hc'⟩ := key hi
  unfold winS
  repeat' split
  · exact ⟨45, [], rfl, by decide⟩
  · exact ⟨c, r, e, hc⟩
  · exact ⟨c, r ++ [43], by rw [e]; rfl, hc⟩
  · exact ⟨c', r' ++ [45], by rw [e']; rfl, hc'⟩
  · exact ⟨c, r ++ 58 :: altS hi, by rw [e]; rfl, hc⟩
theorem line_keyL : ∀ i : Nat, i < 5 → [76, UInt8.ofNat (49 + i)] ∈ linesL ∧ [76, UInt8.ofNat (49 + i)] ∈ keysL := by decide +kernel
theorem line_keyR : ∀ i : Nat, i < 5 → [82, UInt8.ofNat (49 + i)] ∈ linesL ∧ [82, UInt8.ofNat (49 + i)] ∈ keysL := by decide +kernel
theorem line_row : ∀ i : Nat, i < 5 → ((UInt8.ofNat (49 + i)).toNat : Int) - 49 = i := by decide +kernel
theorem press_L {v : Vw} {n : Int} {p : List UInt8} {i : Nat} (hi : i < 5) (h0 : 0 ≤ n) (h1 : n ≤ 1000000) (hp : p.length ≤ 24) : pressS ⟨1, n, p⟩ v [76, UInt8.ofNat (49 + i)] = leftS ⟨1, n, p⟩ (shownS v) (n + i) := by
  rw [pressS_ok (line_keyL i hi).2 (by simp) (by simp) h0 h1 hp, pressK_line _ _ (.inl rfl) (by omega)]
  rfl
theorem press_R {v : Vw} {n : Int} {p : List UInt8} {i : Nat} (hi : i < 5) (h0 : 0 ≤ n) (h1 : n ≤ 1000000) (hp : p.length ≤ 24) : pressS ⟨1, n, p⟩ v [82, UInt8.ofNat (49 + i)] = rightS ⟨1, n, p⟩ (shownS v) (n + i) := by
  rw [pressS_ok (line_keyR i hi).2 (by simp) (by simp) h0 h1 hp, pressK_line _ _ (.inr rfl) (by omega)]
  rfl
theorem leftS_copy (n : Int) (p : Plan) (k : Int) : leftS ⟨1, n, []⟩ p k = (match fixAtS p k with | some f => (⟨1, n, f⟩, [], 0) | none => (⟨1, n, []⟩, [], 6)) := by
  unfold leftS
  rw [if_pos rfl]
  cases fixAtS p k <;> rfl
theorem fixAtS_lt {p : Plan} {k : Int} {f : List UInt8} (h : fixAtS p k = some f) (h0 : 0 ≤ k) : k < p.es.length := by
  unfold fixAtS legAtS at h
  rcases Int.lt_or_le k p.es.length with hk | hk
  · exact hk
  · rw [List.getElem?_eq_none (by omega)] at h
    cases h
theorem split_nil : (splitRef []).2.2 = 4 := by decide +kernel
theorem split_del : (splitRef kDELETE).2.2 = 4 := by decide +kernel
/-- A fix that was copied can be inserted. -/
theorem leftS_again {n : Int} {p : Plan} {k : Int} {f : List UInt8} (hk : k < p.es.length) (hs : (splitRef f).2.2 = 0) :
    leftS ⟨1, n, f⟩ p k = editS ⟨1, n, f⟩ [73, 78, 83, 69, 82, 84] k (32 :: f) := by
  have h1 : f ≠ [] := by rintro rfl; rw [split_nil] at hs; cases hs
  have h2 : f ≠ kDELETE := by rintro rfl; rw [split_del] at hs; cases hs
  unfold leftS
  rw [if_neg h1, if_neg h2, if_neg (by omega), if_neg (by simpa using hs)]
theorem rightS_copy (n : Int) (p : Plan) (k : Int) : rightS ⟨1, n, []⟩ p k = (match legAtS p k with | some l => (⟨1, n, (winT l.lo l.hi).1⟩, [], 0) | none => (⟨1, n, []⟩, [], 6)) := by
  unfold rightS
  cases legAtS p k with
  | none => rfl
  | some l => simp
/-- A window that was copied can be set. -/
theorem rightS_again {n : Int} {p : Plan} {k : Int} {l : Leg} (hl : legAtS p k = some l) (hw : winOk l.lo l.hi) :
    rightS ⟨1, n, winS l.lo l.hi⟩ p k = editS ⟨1, n, winS l.lo l.hi⟩ [65, 76, 84] k (32 :: winS l.lo l.hi) := by
  obtain ⟨c, r, e, hc⟩ := winS_head l.lo l.hi
  have h1 : winS l.lo l.hi ≠ [] := by rw [e]; simp
  have h2 : (cutPre 47 (winS l.lo l.hi)).2 = false := by
    rw [e]
    have : c ≠ 47 := by rintro rfl; exact absurd hc (by decide)
    simp [cutPre, this]
  unfold rightS
  rw [hl]
  simp only [if_neg h1, h2, Bool.false_eq_true, if_false]
  rw [if_neg (by rw [parseWin_winS hw]; simp)]
theorem editS_cases (t : Term) (word : List UInt8) (k : Int) (rest : List UInt8) : editS t word k rest = (t, [], 3) ∨ editS t word k rest = ({ t with pad := [] }, [69, 68, 73, 84, 32] ++ word ++ [32] ++ Lib.itoa k ++ rest, 0) := by
  unfold editS
  split
  · exact .inl rfl
  · exact .inr rfl
end Go.Proofs.YtlleijickhifmaaGreatDoor
namespace Go.Proofs.YtlleijickhifmaaGreatDoor
open Go.RowKit
set_option linter.unusedVariables false
set_option linter.unusedSimpArgs false
theorem Plan.arr_size (p : Plan) (A : Option Addr) (c : Nat) : (p.arr A c).size = 4 := rfl
theorem Plan.arr_oneL (p : Plan) (A : Option Addr) (c : Nat) : (p.arr A c).toList.all (·.oneCell') = true := by simp [Plan.arr, Value.oneCell']
theorem info_plan : (Tryz.prog.info? 26).map (·.size) = some 4 := by kernel_rfl
def Is_plan (w : World) (b o : Nat) (x : Array Value) : Prop := x.size = 4 ∧ ∀ j, j < 4 → w.cell? ⟨b, o + j, none⟩ = x[j]?
def Has_plan (w : World) (b o : Nat) : Prop := ∃ x, Is_plan w b o x
open Classical in
noncomputable def of_plan (w : World) (b o : Nat) : Array Value := if h : Has_plan w b o then h.choose else #[]
theorem of_plan_spec {w : World} {b o : Nat} (h : Has_plan w b o) : Is_plan w b o (of_plan w b o) := by
  unfold of_plan
  rw [dif_pos h]
  exact h.choose_spec
theorem of_plan_eq {w : World} {b o : Nat} {x : Array Value} (h : Is_plan w b o x) : of_plan w b o = x := by
  have hs := of_plan_spec ⟨x, h⟩
  apply Array.ext_getElem?
  intro j
  rcases Nat.lt_or_ge j 4 with hj | hj
  · exact (hs.2 j hj).symm.trans (h.2 j hj)
  · rw [Array.getElem?_eq_none (by rw [hs.1]; exact hj), Array.getElem?_eq_none (by rw [h.1]; exact hj)]
def load_plan (v : Value) : Sem Value := Instr.loadAt 26 v
theorem load_plan_fold (v : Value) : Instr.loadAt 26 v = load_plan v := rfl
theorem run_load_plan (w : World) (b o : Nat) (h : Has_plan w b o) : (load_plan (.pointer (some ⟨b, o, none⟩))).run Tryz.prog w = .ok (.agg (of_plan w b o)) w := by
  have hs := of_plan_spec h
  generalize of_plan w b o = x at hs
  have hl := run_load_agg (P := Tryz.prog) w ⟨b, o, none⟩ 26 x.toList _ (fun j v hv => by
    rw [addr_add, hs.2 j (by have := (List.getElem?_eq_some_iff.1 hv).1; rw [← hs.1]; simpa using this)]
    simpa using hv) Tryz.underlying26 rfl (by rw [info_plan]; simp [hs.1])
  simp only [load_plan, Instr.loadAt, Instr.sureAddr, Sem.run_bind, Sem.run_pure, Result.andThen_ok]
  simpa using hl
attribute [go_sem ↓] load_plan_fold
attribute [go_sem] run_load_plan
theorem Blk.is_plan {W : World} {g : Nat} {x : Array Value} (h : Blk W g x) (hx : x.size = 4) : Is_plan W g 0 x := ⟨hx, fun j _ => by rw [Nat.zero_add]; exact h.cell j⟩
def store_plan (p v : Value) : Sem Unit := Instr.storeAt 26 p v
theorem store_plan_fold (p v : Value) : Instr.storeAt 26 p v = store_plan p v := rfl
theorem run_storeN_plan (w : World) (c c' : Array Value) (hc : SzIs c 4) (hc' : SzIs c' 4) (h1 : Ones c') :
    (store_plan (.pointer (some ⟨w.heap.size, 0, none⟩)) (.agg c')).run Tryz.prog (w.alloc (.cells c 26)) = .ok () (w.alloc (.cells c' 26)) :=
  run_storeAt_new (P := Tryz.prog) w 26 c c' (by rw [show c'.size = 4 from hc']; exact info_plan) (by rw [show c'.size = 4 from hc', show c.size = 4 from hc]) (Array.all_eq_true_iff_forall_mem.2 fun v hv => (List.all_eq_true.1 (show c'.toList.all (·.oneCell') = true from h1)) v (by simpa using hv))
theorem SzIs_plan (p : Plan) (A : Option Addr) (c n : Nat) : SzIs (p.arr A c) n = (4 = n) := propext ⟨fun h => h, fun h => h⟩
theorem Ones_plan (p : Plan) (A : Option Addr) (c : Nat) : Ones (p.arr A c) = True := eq_true (Plan.arr_oneL p A c)
attribute [go_sem ↓] store_plan_fold
attribute [go_sem] run_storeN_plan SzIs_plan Ones_plan
end Go.Proofs.YtlleijickhifmaaGreatDoor
namespace Go.Proofs.YtlleijickhifmaaGreatDoor
open Go.RowKit
set_option linter.unusedVariables false
set_option linter.unusedSimpArgs false
def Term.arr (x : Term) : Array Value := #[.int .i64 x.page, .int .i64 x.first, .string ⟨x.pad.toArray⟩]
abbrev Term.val (x : Term) : Value := .agg x.arr
theorem Term.arr_size (x : Term) : x.arr.size = 3 := rfl
theorem Term.arr_sz (x : Term) : x.arr.size = 3 := by simp [Term.arr]
theorem Term.arr_one (x : Term) : x.arr.all (·.oneCell') = true := by simp [Term.arr, Value.oneCell']
theorem Term.arr0 (x : Term) : x.arr[0]? = some (.int .i64 x.page) := rfl
theorem Term.arr1 (x : Term) : x.arr[1]? = some (.int .i64 x.first) := rfl
theorem Term.arr2 (x : Term) : x.arr[2]? = some (.string ⟨x.pad.toArray⟩) := rfl
attribute [go_sem] Term.arr0 Term.arr1 Term.arr2
def Term.eqB (a b : Term) : Bool := decide (a.page = b.page) && (decide (a.first = b.first) && (decide (a.pad = b.pad)))
theorem Term.eqB_iff (a b : Term) : a.eqB b = true ↔ a = b := by
  obtain ⟨_, _, _⟩ := a
  obtain ⟨_, _, _⟩ := b
  simp [Term.eqB]
set_option maxHeartbeats 1000000 in
set_option maxRecDepth 100000 in
theorem run_eq_term (d : Nat) (a b : Term) (w : World) : (Op.equalIn (d + 3) 23 (.agg a.arr) (.agg b.arr)).run Tryz.prog w = .ok (a.eqB b) w := by
  unfold Term.arr
  simp [go_sem]
  simp only [ite_ok, Bool.and_true]
  rfl
theorem run_neq_term (a b : Term) (w : World) : (binOp .neq 23 (.agg a.arr) (.agg b.arr)).run Tryz.prog w = .ok (.bool (!a.eqB b)) w := by
  simp only [binOp]
  simp [Op.equal, Op.maxDepth, run_eq_term 9997]
theorem run_eql_term (a b : Term) (w : World) : (binOp .eql 23 (.agg a.arr) (.agg b.arr)).run Tryz.prog w = .ok (.bool (a.eqB b)) w := by
  simp only [binOp]
  simp [Op.equal, Op.maxDepth, run_eq_term 9997]
theorem info_term : (Tryz.prog.info? 23).map (·.size) = some 3 := by kernel_rfl
def Is_term (w : World) (b o : Nat) (x : Term) : Prop := ∀ j, j < 3 → w.cell? ⟨b, o + j, none⟩ = x.arr[j]?
def Has_term (w : World) (b o : Nat) : Prop := ∃ x, Is_term w b o x
theorem Term.arr_inj {x y : Term} (h : ∀ j, j < 3 → x.arr[j]? = y.arr[j]?) : x = y := by
  refine (Term.eqB_iff x y).1 ?_
  have hh : ∀ j, j < 3 → x.arr[j]? = y.arr[j]? := h
  have e0 := h 0 (by omega)
  have e1 := h 1 (by omega)
  have e2 := h 2 (by omega)
  simp [Term.arr0, Term.arr1, Term.arr2] at e0 e1 e2
  simp [Term.eqB, *]
open Classical in
noncomputable def of_term (w : World) (b o : Nat) : Term := if h : Has_term w b o then h.choose else ⟨0, 0, []⟩
theorem of_term_spec {w : World} {b o : Nat} (h : Has_term w b o) : Is_term w b o (of_term w b o) := by
  unfold of_term
  rw [dif_pos h]
  exact h.choose_spec
theorem of_term_eq {w : World} {b o : Nat} {x : Term} (h : Is_term w b o x) : of_term w b o = x :=
  Term.arr_inj fun j hj => (of_term_spec ⟨x, h⟩ j hj).symm.trans (h j hj)
theorem Has_term_drewN (w : World) (b o n : Nat) : Has_term (w.drewN n) b o = Has_term w b o := propext ⟨fun h => h, fun h => h⟩
theorem of_term_drewN (w : World) (b o n : Nat) : of_term (w.drewN n) b o = of_term w b o := rfl
theorem Is_term.below {w w' : World} {B b o : Nat} {x : Term} (h : Is_term w b o x) (hb : Below B w w') (hlt : b < B) : Is_term w' b o x := fun j hj => by rw [hb.cell (p := ⟨b, _, none⟩) hlt]; exact h j hj
theorem Is_term_new (w : World) (x : Term) (t : TypeId) : Is_term (w.alloc (.cells x.arr t)) w.heap.size 0 x := fun j _ => by rw [Nat.zero_add]; exact cell_of_row _ _ j x.arr t (0, 0) (heap_alloc_new w _)
theorem Has_term_new (w : World) (x : Term) (t : TypeId) : Has_term (w.alloc (.cells x.arr t)) w.heap.size 0 = True := eq_true ⟨x, Is_term_new w x t⟩
theorem of_term_new (w : World) (x : Term) (t : TypeId) : of_term (w.alloc (.cells x.arr t)) w.heap.size 0 = x := of_term_eq (Is_term_new w x t)
theorem Has_term_alloc (w : World) (b o : Nat) (ob : Obj) (h : b < w.heap.size) : Has_term (w.alloc ob) b o = Has_term w b o := by
  have e : ∀ j, (w.alloc ob).cell? ⟨b, o + j, none⟩ = w.cell? ⟨b, o + j, none⟩ := fun j => World.cell?_alloc_lt w ob ⟨b, o + j, none⟩ h
  simp only [Has_term, Is_term, e]
theorem of_term_alloc (w : World) (b o : Nat) (ob : Obj) (h : b < w.heap.size) (hh : Has_term w b o) : of_term (w.alloc ob) b o = of_term w b o :=
  of_term_eq fun j hj => by rw [World.cell?_alloc_lt w ob ⟨b, o + j, none⟩ h]; exact of_term_spec hh j hj
def load_term (v : Value) : Sem Value := Instr.loadAt 23 v
theorem load_term_fold (v : Value) : Instr.loadAt 23 v = load_term v := rfl
theorem run_load_term (w : World) (b o : Nat) (h : Has_term w b o) : (load_term (.pointer (some ⟨b, o, none⟩))).run Tryz.prog w = .ok (.agg (of_term w b o).arr) w := by
  have hs := of_term_spec h
  generalize of_term w b o = x at hs
  have := run_load_agg (P := Tryz.prog) w ⟨b, o, none⟩ 23 x.arr.toList _ (fun j v hv => by
    rw [addr_add, hs j (by have := (List.getElem?_eq_some_iff.1 hv).1; simpa [Term.arr_size] using this)]
    simpa using hv) Tryz.underlying23 rfl info_term
  simp only [load_term, Instr.loadAt, Instr.sureAddr, Sem.run_bind, Sem.run_pure, Result.andThen_ok]
  simpa using this
def store_term (p v : Value) : Sem Unit := Instr.storeAt 23 p v
theorem store_term_fold (p v : Value) : Instr.storeAt 23 p v = store_term p v := rfl
theorem run_store_term (w : World) (c c' : Array Value) (hc : c.size = 3) (hc' : c'.size = 3) (h1 : c'.all (·.oneCell') = true) :
    (store_term (.pointer (some ⟨w.heap.size, 0, none⟩)) (.agg c')).run Tryz.prog (w.alloc (.cells c 23)) = .ok () (w.alloc (.cells c' 23)) :=
  run_storeAt_new (P := Tryz.prog) w 23 c c' (by rw [hc']; exact info_term) (by rw [hc, hc']) h1
attribute [go_sem ↓] load_term_fold store_term_fold
attribute [go_sem] run_load_term run_store_term Has_term_drewN of_term_drewN Has_term_new of_term_new Has_term_alloc of_term_alloc
theorem info_view : (Tryz.prog.info? 44).map (·.size) = some 42 := by kernel_rfl
def Is_view (w : World) (b o : Nat) (x : Array Value) : Prop := x.size = 42 ∧ ∀ j, j < 42 → w.cell? ⟨b, o + j, none⟩ = x[j]?
def Has_view (w : World) (b o : Nat) : Prop := ∃ x, Is_view w b o x
open Classical in
noncomputable def of_view (w : World) (b o : Nat) : Array Value := if h : Has_view w b o then h.choose else #[]
theorem of_view_spec {w : World} {b o : Nat} (h : Has_view w b o) : Is_view w b o (of_view w b o) := by
  unfold of_view
  rw [dif_pos h]
  exact h.choose_spec
theorem of_view_eq {w : World} {b o : Nat} {x : Array Value} (h : Is_view w b o x) : of_view w b o = x := by
  have hs := of_view_spec ⟨x, h⟩
  apply Array.ext_getElem?
  intro j
  rcases Nat.lt_or_ge j 42 with hj | hj
  · exact (hs.2 j hj).symm.trans (h.2 j hj)
  · rw [Array.getElem?_eq_none (by rw [hs.1]; exact hj), Array.getElem?_eq_none (by rw [h.1]; exact hj)]
theorem Has_view_drewN (w : World) (b o n : Nat) : Has_view (w.drewN n) b o = Has_view w b o := propext ⟨fun h => h, fun h => h⟩
theorem of_view_drewN (w : World) (b o n : Nat) : of_view (w.drewN n) b o = of_view w b o := rfl
theorem Is_view.below {w w' : World} {B b o : Nat} {x : Array Value} (h : Is_view w b o x) (hb : Below B w w') (hlt : b < B) : Is_view w' b o x := ⟨h.1, fun j hj => by rw [hb.cell (p := ⟨b, _, none⟩) hlt]; exact h.2 j hj⟩
theorem Blk.is_view {W : World} {g : Nat} {x : Array Value} (h : Blk W g x) (hx : x.size = 42) : Is_view W g 0 x := ⟨hx, fun j _ => by rw [Nat.zero_add]; exact h.cell j⟩
def load_view (v : Value) : Sem Value := Instr.loadAt 44 v
theorem load_view_fold (v : Value) : Instr.loadAt 44 v = load_view v := rfl
theorem run_load_view (w : World) (b o : Nat) (h : Has_view w b o) : (load_view (.pointer (some ⟨b, o, none⟩))).run Tryz.prog w = .ok (.agg (of_view w b o)) w := by
  have hs := of_view_spec h
  generalize of_view w b o = x at hs
  have hl := run_load_agg (P := Tryz.prog) w ⟨b, o, none⟩ 44 x.toList _ (fun j v hv => by
    rw [addr_add, hs.2 j (by have := (List.getElem?_eq_some_iff.1 hv).1; rw [← hs.1]; simpa using this)]
    simpa using hv) Tryz.underlying44 rfl (by rw [info_view]; simp [hs.1])
  simp only [load_view, Instr.loadAt, Instr.sureAddr, Sem.run_bind, Sem.run_pure, Result.andThen_ok]
  simpa using hl
attribute [go_sem ↓] load_view_fold
attribute [go_sem] run_load_view Has_view_drewN of_view_drewN
def store_view (p v : Value) : Sem Unit := Instr.storeAt 44 p v
theorem store_view_fold (p v : Value) : Instr.storeAt 44 p v = store_view p v := rfl
theorem run_storeN_view (w : World) (c c' : Array Value) (hc : SzIs c 42) (hc' : SzIs c' 42) (h1 : Ones c') :
    (store_view (.pointer (some ⟨w.heap.size, 0, none⟩)) (.agg c')).run Tryz.prog (w.alloc (.cells c 44)) = .ok () (w.alloc (.cells c' 44)) :=
  run_storeAt_new (P := Tryz.prog) w 44 c c' (by rw [show c'.size = 42 from hc']; exact info_view) (by rw [show c'.size = 42 from hc', show c.size = 42 from hc]) (Array.all_eq_true_iff_forall_mem.2 fun v hv => (List.all_eq_true.1 (show c'.toList.all (·.oneCell') = true from h1)) v (by simpa using hv))
theorem run_storeB_view (W : World) (g o : Nat) (v : Array Value) (hv : SzIs v 42) (h1 : Ones v) (hp : Plain W g) (hn : Fits o 42 (blkOf W g)) :
    (store_view (.pointer (some ⟨g, o, none⟩)) (.agg v)).run Tryz.prog W = .ok () (W.setRow g (splice (blkOf W g) o v)) := run_store_blk W g o 42 _ v info_view hv h1 hp hn
attribute [go_sem ↓] store_view_fold
attribute [go_sem] run_storeN_view run_storeB_view
/-- Where a view's slices lie. -/
structure VAd where
  A : Option Addr
  c : Nat
  A2 : Option Addr
  c2 : Nat
  A3 : Option Addr
  c3 : Nat
/-- The cells of a view that the pages read. -/
structure Vw.At (v : Vw) (d : VAd) (arr : Array Value) : Prop where
  size : arr.size = 42
  one : arr.all (·.oneCell') = true
  active : ∀ j, j < 4 → arr[0 + j]? = (v.active.arr d.A d.c)[j]?
  temp : ∀ j, j < 4 → arr[4 + j]? = (v.temp.arr d.A2 d.c2)[j]?
  hasTemp : arr[8]? = some (.bool v.hasTemp)
  px : arr[9]? = some (.int .i64 v.px)
  py : arr[10]? = some (.int .i64 v.py)
  lx : arr[11]? = some (.int .i64 v.lx)
  ly : arr[12]? = some (.int .i64 v.ly)
  usable : arr[13]? = some (.bool v.usable)
  excluded : arr[14]? = some (.int .i64 v.excluded)
  required : arr[15]? = some (.int .i64 v.required)
  left : arr[19]? = some (.int .i64 v.left)
  lat : arr[25]? = some (.int .u8 v.lat)
  vert : arr[26]? = some (.int .u8 v.vert)
  phase : arr[27]? = some (.int .u8 v.phase)
  bank : arr[28]? = some (.int .i64 v.bank)
  talt : arr[30]? = some (.int .i64 v.talt)
  alerts : arr[32]? = some (.slice d.A3 v.alerts.length d.c3)
  last : arr[38]? = some (.int .i64 v.last)
/-- What the walks need of a view in memory. -/
structure Vw.ok (w : World) (v : Vw) (d : VAd) : Prop where
  active : v.active.small
  temp : v.temp.small
  cap : v.active.es.length ≤ d.c
  cap2 : v.temp.es.length ≤ d.c2
  cap3 : v.alerts.length ≤ d.c3
  len3 : v.alerts.length ≤ 4000000000
  each3 : ∀ s ∈ v.alerts, s.length ≤ 4000000000
  ents : Ents w d.A v.active.es
  ents2 : Ents w d.A2 v.temp.es
  strs : Strs w d.A3 v.alerts
theorem Strs.stays {w w' : World} {A : Option Addr} {ss : List (List UInt8)} (h : Strs w A ss) (hb : Below w.heap.size w w') : Strs w' A ss where
  at_ hne := by
    obtain ⟨b, o, rfl, hlt, hc⟩ := h.at_ hne
    exact ⟨b, o, rfl, Nat.lt_of_lt_of_le hlt hb.size, fun i s hs => by rw [hb.cell (p := ⟨b, _, none⟩) hlt]; exact hc i s hs⟩
theorem Vw.ok.below {w w' : World} {v : Vw} {d : VAd} (h : v.ok w d) (hb : Below w.heap.size w w') : v.ok w' d := ⟨h.active, h.temp, h.cap, h.cap2, h.cap3, h.len3, h.each3, h.ents.below (B := 0) hb, h.ents2.below (B := 0) hb, h.strs.stays hb⟩
def VAd.sA (d : VAd) (v : Vw) : Option Addr := if v.hasTemp then d.A2 else d.A
def VAd.sc (d : VAd) (v : Vw) : Nat := if v.hasTemp then d.c2 else d.c
theorem Vw.ok.shown {w : World} {v : Vw} {d : VAd} (h : v.ok w d) : (shownS v).small ∧ (shownS v).es.length ≤ d.sc v ∧ Ents w (d.sA v) (shownS v).es := by
  unfold shownS VAd.sA VAd.sc
  cases v.hasTemp
  · exact ⟨h.active, h.cap, h.ents⟩
  · exact ⟨h.temp, h.cap2, h.ents2⟩
end Go.Proofs.YtlleijickhifmaaGreatDoor
namespace Go.Proofs.YtlleijickhifmaaGreatDoor
open Go.RowKit
set_option linter.unusedVariables false
set_option linter.unusedSimpArgs false
set_option maxRecDepth 100000
def leg58 (ty : Int) (f : List UInt8) : Leg := ⟨ty, f, [], 0, false, 0, 0, 0, 0, -200000, 6000000, 0, 0⟩
def ent58 (ty : Int) (f : List UInt8) : Entry := ⟨false, leg58 ty f, 0, 0, 0, 0, 2, []⟩
def names58 : List (List UInt8) := [[65, 47, 48, 48], [66, 47, 48, 48], [67, 47, 48, 48]]
def es58 : List Entry := [ent58 1 [65, 47, 48, 48], ent58 2 [66, 47, 48, 48], ent58 2 [67, 47, 48, 48]]
def vw58 : Vw := ⟨⟨[], [], es58, 1⟩, ⟨[], [], [], 0⟩, false, 0, 0, 0, 0, false, 0, 0, 0, 0, 0, 0, 0, 0, [], 0⟩
def keys58 : List (List UInt8) := [[65], [47], [48], [48]]
def padN (k : Nat) : List UInt8 := ([65, 47, 48, 48] : List UInt8).take k
theorem p58_0 : pressS ⟨1, 0, []⟩ vw58 [65] = (⟨1, 0, [65]⟩, [], 0) := by kernel_rfl
theorem p58_1 : pressS ⟨1, 0, [65]⟩ vw58 [47] = (⟨1, 0, [65, 47]⟩, [], 0) := by kernel_rfl
theorem p58_2 : pressS ⟨1, 0, [65, 47]⟩ vw58 [48] = (⟨1, 0, [65, 47, 48]⟩, [], 0) := by kernel_rfl
theorem p58_3 : pressS ⟨1, 0, [65, 47, 48]⟩ vw58 [48] = (⟨1, 0, [65, 47, 48, 48]⟩, [], 0) := by kernel_rfl
theorem p58_N (k : Nat) (h : k < 4) : pressS ⟨1, 0, padN k⟩ vw58 (keys58.getD k []) = (⟨1, 0, padN (k + 1)⟩, [], 0) := by
  match k, h with
  | 0, _ => exact p58_0
  | 1, _ => exact p58_1
  | 2, _ => exact p58_2
  | 3, _ => exact p58_3
theorem p58_L2 : pressS ⟨1, 0, [65, 47, 48, 48]⟩ vw58 [76, 50] = (⟨1, 0, []⟩, [69, 68, 73, 84, 32, 73, 78, 83, 69, 82, 84, 32, 49, 32, 65, 47, 48, 48], 0) := by kernel_rfl
theorem p58_R1 : pressS ⟨1, 0, []⟩ vw58 [82, 49] = (⟨1, 0, [45]⟩, [], 0) := by kernel_rfl
theorem p58_R1b : pressS ⟨1, 0, [45]⟩ vw58 [82, 49] = (⟨1, 0, []⟩, [69, 68, 73, 84, 32, 65, 76, 84, 32, 48, 32, 45], 0) := by kernel_rfl
def l58 : List (List UInt8) := renderS ⟨1, 0, [45]⟩ vw58
theorem l58_0 : l58[0]? = some [65, 67, 84, 32, 76, 69, 71, 83, 32, 32, 32, 32, 32, 32, 32, 32, 32, 32, 32, 32, 32, 49, 47, 49] := by kernel_rfl
theorem l58_3 : l58[3]? = some [84, 70, 32, 60, 32, 32, 32, 32, 32, 32, 32, 32, 32, 32, 32, 32, 32, 32, 32, 32, 32, 32, 32, 32] := by kernel_rfl
theorem l58_4 : l58[4]? = some [66, 47, 48, 48, 32, 32, 32, 32, 32, 32, 32, 32, 32, 32, 32, 32, 32, 32, 32, 32, 32, 32, 32, 45] := by kernel_rfl
theorem l58_13 : l58[13]? = some [91, 45, 93, 32, 32, 32, 32, 32, 32, 32, 32, 32, 32, 32, 32, 32, 32, 32, 32, 32, 32, 32, 32, 32] := by kernel_rfl
theorem l58_len : l58.length = 14 := renderS_len _ _
end Go.Proofs.YtlleijickhifmaaGreatDoor
