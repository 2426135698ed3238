/- A text and its words: cut at every blank, and joined again. No program in sight. -/
import Derived.Test.YtjgondadpjildaaGreatDoorPk03
import Derived.Lib.Split
import Derived.Lib.Join
namespace Go.Proofs.YtjgondadpjildaaGreatDoor
set_option linter.unusedVariables false
set_option linter.unusedSimpArgs false
/-- The words of a text: the texts between its blanks. -/
def words : List UInt8 → List (List UInt8)
  | [] => [[]]
  | x :: r => if x = 32 then [] :: words r else match words r with | [] => [[x]] | a :: q => (x :: a) :: q
theorem words_ne (l : List UInt8) : words l ≠ [] := by
  cases l with
  | nil => simp [words]
  | cons x r =>
    unfold words
    split
    · simp
    · split <;> simp
theorem words_cut : ∀ l : List UInt8, words l = if (cutAt 32 l).2.2 then (cutAt 32 l).1 :: words (cutAt 32 l).2.1 else [l]
  | [] => by simp [words, cutAt]
  | x :: r => by
    have ih := words_cut r
    by_cases hx : x = 32
    · simp [words, cutAt, hx]
    · simp only [words, cutAt, hx, if_false]
      cases hf : (cutAt 32 r).2.2
      · simp [hf] at ih; simp [ih]
      · simp [hf] at ih; simp [ih]
theorem count_cutAt (c : UInt8) : ∀ l : List UInt8, l.count c = if (cutAt c l).2.2 then 1 + (cutAt c l).2.1.count c else 0
  | [] => by simp [cutAt]
  | x :: r => by
    have ih := count_cutAt c r
    by_cases hx : x = c
    · simp [cutAt, hx]; omega
    · rw [List.count_cons_of_ne hx]; simp [cutAt, hx]; exact ih
theorem cutAt_lt (c : UInt8) (l : List UInt8) (h : (cutAt c l).2.2 = true) : (cutAt c l).2.1.length < l.length := by
  have h1 := congrArg List.length (cutAt_parts c l h)
  simp only [List.length_append, List.length_cons] at h1
  omega
theorem drop_cutAt (c : UInt8) (l : List UInt8) (h : (cutAt c l).2.2 = true) : l.drop ((Lib.index l [c]).toNat + [c].length) = (cutAt c l).2.1 ∧ l.take ((Lib.index l [c]).toNat + 0) = (cutAt c l).1 := by
  rw [index_cutAt c l, h]
  have h1 := cutAt_parts c l h
  generalize (cutAt c l).1 = a at h1 ⊢
  generalize (cutAt c l).2.1 = b at h1 ⊢
  subst h1
  simp
theorem countFrom_cutAt (c : UInt8) : ∀ (f : Nat) (l : List UInt8), l.length < f → Lib.countFrom [c] f l = l.count c
  | 0, l, h => by omega
  | f + 1, l, h => by
    rw [Lib.countFrom, count_cutAt c l]
    cases hf : (cutAt c l).2.2
    · rw [if_pos (by rw [index_cutAt, hf]; rfl)]; rfl
    · rw [if_neg (by rw [index_cutAt, hf]; first | (simp; done) | (simp; omega)), (drop_cutAt c l hf).1, countFrom_cutAt c f _ (by have := cutAt_lt c l hf; omega)]
      rfl
theorem splitK_words : ∀ (k : Nat) (l : List UInt8), l.count 32 ≤ k → Lib.splitK [32] 0 k l = words l
  | 0, l, h => by
    rw [Lib.splitK, words_cut]
    have h1 := count_cutAt 32 l
    cases hf : (cutAt 32 l).2.2
    · simp
    · rw [hf] at h1; simp at h1; omega
  | k + 1, l, h => by
    rw [Lib.splitK, words_cut]
    have h1 := count_cutAt 32 l
    cases hf : (cutAt 32 l).2.2
    · rw [if_pos (by rw [index_cutAt, hf]; rfl)]; simp
    · rw [if_neg (by rw [index_cutAt, hf]; first | (simp; done) | (simp; omega)), (drop_cutAt 32 l hf).1, (drop_cutAt 32 l hf).2]
      rw [hf] at h1
      simp only [if_true] at h1 ⊢
      rw [splitK_words k _ (by omega)]
theorem split_words (l : List UInt8) : Lib.split l [32] = words l := by
  unfold Lib.split Lib.count
  rw [countFrom_cutAt 32 _ l (by omega)]
  exact splitK_words _ l (Nat.le_refl _)
theorem words_len (l : List UInt8) : (words l).length = l.count 32 + 1 := by
  induction l with
  | nil => rfl
  | cons x r ih =>
    by_cases hx : x = 32
    · simp [words, hx, ih]
    · rw [List.count_cons_of_ne hx]
      unfold words
      rw [if_neg hx]
      have h1 := words_ne r
      match h : words r with
      | [] => exact absurd h h1
      | a :: q => rw [h] at ih; simpa using ih
/-- The sum of the words' lengths, each with the blank behind it. -/
def spanW (ws : List (List UInt8)) : Nat := (ws.map fun s => s.length + 1).sum
theorem spanW_cons (a : List UInt8) (q : List (List UInt8)) : spanW (a :: q) = a.length + 1 + spanW q := by simp [spanW]
theorem spanW_words (l : List UInt8) : spanW (words l) = l.length + 1 := by
  induction l with
  | nil => rfl
  | cons x r ih =>
    by_cases hx : x = 32
    · simp [words, hx, spanW_cons, ih]; omega
    · unfold words
      rw [if_neg hx]
      have h1 := words_ne r
      match h : words r with
      | [] => exact absurd h h1
      | a :: q => rw [h, spanW_cons] at ih; simp only [spanW_cons, List.length_cons]; omega
theorem words_no : ∀ (l s : List UInt8), s ∈ words l → (32 : UInt8) ∉ s
  | [], s, h => by simp [words] at h; simp [h]
  | x :: r, s, h => by
    by_cases hx : x = 32
    · simp [words, hx] at h
      rcases h with rfl | h
      · simp
      · exact words_no r s h
    · unfold words at h
      rw [if_neg hx] at h
      have h1 := words_ne r
      have ih := words_no r
      match h2 : words r with
      | [] => exact absurd h2 h1
      | a :: q =>
        rw [h2] at h ih
        simp only [List.mem_cons] at h
        rcases h with rfl | h
        · have := ih a (by simp)
          simp only [List.mem_cons, not_or]
          exact ⟨fun e => hx e.symm, this⟩
        · exact ih s (by simp [h])
theorem words_append (a r : List UInt8) (h : (32 : UInt8) ∉ a) : words (a ++ 32 :: r) = a :: words r := by
  induction a with
  | nil => simp [words]
  | cons x a ih =>
    simp only [List.mem_cons, not_or] at h
    have hx : ¬ x = 32 := fun e => h.1 e.symm
    rw [List.cons_append, words, if_neg hx, ih h.2]
theorem words_one (a : List UInt8) (h : (32 : UInt8) ∉ a) : words a = [a] := by
  induction a with
  | nil => simp [words]
  | cons x a ih =>
    simp only [List.mem_cons, not_or] at h
    have hx : ¬ x = 32 := fun e => h.1 e.symm
    rw [words, if_neg hx, ih h.2]
theorem join_cons2 (a b : List UInt8) (q : List (List UInt8)) : Lib.join (a :: b :: q) [32] = a ++ 32 :: Lib.join (b :: q) [32] := by
  simp [Lib.join, List.intercalate, List.intersperse]
theorem join_one (a : List UInt8) : Lib.join [a] [32] = a := by simp [Lib.join, List.intercalate, List.intersperse]
theorem words_join : ∀ (ws : List (List UInt8)), ws ≠ [] → (∀ s ∈ ws, (32 : UInt8) ∉ s) → words (Lib.join ws [32]) = ws
  | [], h, _ => absurd rfl h
  | [a], _, h => by rw [join_one]; exact words_one a (h a (by simp))
  | a :: b :: q, _, h => by
    rw [join_cons2, words_append a _ (h a (by simp)), words_join (b :: q) (by simp) (fun s hs => h s (by simp at hs ⊢; right; exact hs))]
theorem join_words (l : List UInt8) : Lib.join (words l) [32] = l := by
  induction l with
  | nil => simp [words, join_one]
  | cons x r ih =>
    have h1 := words_ne r
    by_cases hx : x = 32
    · unfold words; rw [if_pos hx]
      match h : words r with
      | [] => exact absurd h h1
      | a :: q => rw [h] at ih; rw [join_cons2, ih, hx]; rfl
    · unfold words; rw [if_neg hx]
      match h : words r with
      | [] => exact absurd h h1
      | [a] => rw [h, join_one] at ih; simp only [join_one, ih]
      | a :: b :: q => rw [h, join_cons2] at ih; simp only [join_cons2, List.cons_append, ih]
theorem join_len (ws : List (List UInt8)) (h : ws ≠ []) : (Lib.join ws [32]).length + 1 = spanW ws := by
  match ws, h with
  | [a], _ => simp [join_one, spanW]
  | a :: b :: q, _ =>
    have := join_len (b :: q) (by simp)
    rw [join_cons2, spanW_cons]; simp only [List.length_append, List.length_cons]; omega
theorem mem_words_len (l s : List UInt8) (h : s ∈ words l) : s.length ≤ l.length := by
  have h1 := spanW_words l
  have : ∀ (ws : List (List UInt8)), s ∈ ws → s.length + 1 ≤ spanW ws := by
    intro ws
    induction ws with
    | nil => intro h; simp at h
    | cons a q ih =>
      intro h
      rw [spanW_cons]
      simp only [List.mem_cons] at h
      rcases h with rfl | h
      · omega
      · have := ih h; omega
  have := this _ h
  omega
end Go.Proofs.YtjgondadpjildaaGreatDoor
