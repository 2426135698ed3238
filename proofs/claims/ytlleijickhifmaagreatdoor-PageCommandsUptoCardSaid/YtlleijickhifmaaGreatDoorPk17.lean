/- The texts of windows and distances: record.WindowText, DistText, leg.distance and what the references have for them. A text and its words: cut at every blank, and joined again. No program in sight. What leg.Parse computes, in plain Lean: words taken one by one, each accepted or not. The texts of a valid leg's numbers, and leg.Text of a valid leg. The names of the types, of the program and of the reference; what a leg's check says behind a change of its window. -/
import Derived.Test.YtlleijickhifmaaGreatDoorPk16
import Derived.Test.YtlleijickhifmaaGreatDoorPk01
import Derived.Lib.Split
import Derived.Lib.Join
import Derived.Test.YtlleijickhifmaaGreatDoorPk05
import Derived.Test.YtlleijickhifmaaGreatDoorPk04
import Derived.Test.YtlleijickhifmaaGreatDoorPk07
namespace Go.Proofs.YtlleijickhifmaaGreatDoor
open Go.RowKit Go.Sort
set_option linter.unusedVariables false
set_option linter.unusedSimpArgs false
set_option maxRecDepth 100000
attribute [local go_sem] ba_cat cat_len
theorem altIn_any (a : Int) (h0 : -200000 ≤ a) (h1 : a ≤ 6000000) (w : World) (hL : Laid w) : Calls Tryz.prog 42 #[.int .i64 a] w (Ret w (.tuple #[.string ⟨(altS a).toArray⟩, .int .i64 0])) := by
  have h := altText_any a w hL
  rwa [altT_in ⟨h0, h1⟩] at h
theorem winS_1 : winS (-200000) 6000000 = [45] := rfl
theorem winS_2 (a : Int) : winS a a = altS a := by unfold winS; rw [if_neg (by omega), if_pos rfl]
theorem winS_3 {a : Int} (h1 : a ≠ -200000) (h2 : a ≠ 6000000) : winS a 6000000 = altS a ++ [43] := by unfold winS; rw [if_neg (by omega), if_neg (by omega), if_pos rfl]
theorem winS_4 {a : Int} (h1 : a ≠ -200000) (h2 : a ≠ 6000000) : winS (-200000) a = altS a ++ [45] := by unfold winS; rw [if_neg (by omega), if_neg (by omega), if_neg (by omega), if_pos rfl]
theorem winS_5 {a b : Int} (h1 : a ≠ -200000) (h2 : b ≠ 6000000) (h3 : a ≠ b) : winS a b = altS a ++ (58 :: altS b) := by unfold winS; rw [if_neg (by omega), if_neg (by omega), if_neg (by omega), if_neg (by omega)]
theorem cat_two (a b : List UInt8) : cat a b = a ++ b := rfl
set_option maxHeartbeats 4000000 in
theorem winText_in (lo hi : Int) (w : World) (hL : Laid w) (h : winOk lo hi) : Calls Tryz.prog 39 #[.agg (Win.arr ⟨lo, hi⟩)] w (Ret w (.tuple #[.string ⟨(winS lo hi).toArray⟩, .int .i64 0])) := by
  obtain ⟨h1, h2, h3⟩ := h
  have k1 : lo ≤ 6000000 := by omega
  have k2 : -200000 ≤ hi := by omega
  have La := altS_len h1 k1
  have Lb := altS_len k2 h3
  have HW := Lib.hid (show winS lo hi = if lo = -200000 ∧ hi = 6000000 then [45] else if lo = hi then altS lo else if hi = 6000000 then altS lo ++ [43] else if lo = -200000 then altS hi ++ [45] else altS lo ++ (58 :: altS hi) from rfl)
  have c1 := Lib.hid (fun w L => altIn_any lo h1 k1 w L)
  have c2 := Lib.hid (fun w L => altIn_any hi k2 h3 w L)
  generalize altS lo = A at La HW c1
  generalize altS hi = B at Lb HW c2
  have L0 := hL.alloc (.cells #[.int .i64 lo, .int .i64 hi] 51)
  have n1 : ¬ lo < -200000 := by omega
  have n2 : ¬ hi < lo := by omega
  have n3 : ¬ 6000000 < hi := by omega
  have B0 := alloc_below w (.cells #[.int .i64 lo, .int .i64 hi] 51)
  clear k1 k2
  go_enter Tryz.func39, Tryz.ntmps39
  simp only [Win.arr]
  go_wp2_with fail
  with_reducible refine callR (c1.out _ L0) ?_
  intro w1 b1 _ _ _
  have L1 := L0.below b1
  have e1 : w1.cell? ⟨w.heap.size, 1, none⟩ = some (.int .i64 hi) := ((Blk.new w #[.int .i64 lo, .int .i64 hi] 51).step b1).cell 1
  go_wp2_with fail
  with_reducible refine callR (c2.out _ L1) ?_
  intro w2 b2 _ _ _
  clear e1
  have e0 : w2.cell? ⟨w.heap.size, 0, none⟩ = some (.int .i64 lo) := (((Blk.new w #[.int .i64 lo, .int .i64 hi] 51).step b1).step b2).cell 0
  have e1 : w2.cell? ⟨w.heap.size, 1, none⟩ = some (.int .i64 hi) := (((Blk.new w #[.int .i64 lo, .int .i64 hi] 51).step b1).step b2).cell 1
  have HB := Lib.hid (below_step (below_step B0 b1) b2)
  clear b1 b2 B0 L0 L1 c1 c2
  go_wp2
  all_goals
    go_ret2
    refine Ret.text (x := (winS lo hi, 0)) ?_ HB.out
    rw [HW.out]
    (try simp only [cat_two])
    grind
theorem winText_any (lo hi : Int) (w : World) (hL : Laid w) : Calls Tryz.prog 39 #[.agg (Win.arr ⟨lo, hi⟩)] w (Ret w (textVal (winT lo hi))) := by
  by_cases h : winOk lo hi
  · rw [winT_in h]; exact winText_in lo hi w hL h
  · have HT := Lib.hid (winT_out h)
    have HO := Lib.hid h; clear h
    go_enter Tryz.func39, Tryz.ntmps39
    simp only [Win.arr]
    go_wp2_with fail
    all_goals first
      | (exfalso; apply HO.out; unfold winOk; omega)
      | (go_ret2; exact Ret.text HT.out (alloc_below _ _))
set_option maxHeartbeats 4000000 in
theorem distText_any (d : Int) (w : World) (hL : Laid w) : Calls Tryz.prog 41 #[.int .i64 d] w (Ret w (textVal (distT d))) := by
  by_cases hr : 0 ≤ d ∧ d ≤ 8000000
  · have H1 := Lib.hid (distT_in hr)
    obtain ⟨r1, r2⟩ := hr
    have l1 := dec_len9 (d / 6000) (by omega)
    have l2 := dec_len9 (d % 6000) (by omega)
    by_cases hk : d % 6000 = 0
    · have H3 := Lib.hid (distS_whole r1 hk)
      go_enter Tryz.func41, Tryz.ntmps41
      go_wp2_with fail
      with_reducible refine callR (fmtN_any (d / 6000) (by omega) (by omega) _ hL) ?_
      intro w1 b1 _ _ _
      generalize Lib.decDigits (d / 6000).toNat = D1 at l1 H3 ⊢
      go_wp2
      go_ret2
      exact Ret.text (by rw [H1.out, H3.out]) b1
    · have H3 := Lib.hid (distS_part r1 hk)
      go_enter Tryz.func41, Tryz.ntmps41
      go_wp2_with fail
      with_reducible refine callR (fmtN_any (d / 6000) (by omega) (by omega) _ hL) ?_
      intro w1 b1 _ _ _
      have L1 := hL.below b1
      generalize Lib.decDigits (d / 6000).toNat = D1 at l1 H3 ⊢
      go_wp2_with fail
      with_reducible refine callR (fmtN_any (d % 6000) (by omega) (by omega) _ L1) ?_
      intro w2 b2 _ _ _
      generalize Lib.decDigits (d % 6000).toNat = D2 at l2 H3 ⊢
      go_wp2
      go_ret2
      exact Ret.text (by rw [H1.out, H3.out]; simp [cat]) (below_step b1 b2)
  · have H1 := Lib.hid (distT_out hr)
    go_enter Tryz.func41, Tryz.ntmps41
    go_wp2
    all_goals try omega
    all_goals
      go_ret2
      exact Ret.text H1.out (Below.refl _ _)
end Go.Proofs.YtlleijickhifmaaGreatDoor
namespace Go.Proofs.YtlleijickhifmaaGreatDoor
set_option linter.unusedVariables false
set_option linter.unusedSimpArgs false
/-- The words of a text: the texts between its blanks. -/
def words : List UInt8 → List (List UInt8)
  | [] => [[]]
  | x :: r => if x = 32 then [] :: words r else match words r with | [] => [[x]] | a :: q => (x :: a) :: q
theorem words_ne (l : List UInt8) : words l ≠ [] := by
  cases l with
  | nil => simp [words]
  | cons x r =>
    unfold words
    split
    · simp
    · split <;> simp
theorem words_cut : ∀ l : List UInt8, words l = if (cutAt 32 l).2.2 then (cutAt 32 l).1 :: words (cutAt 32 l).2.1 else [l]
  | [] => by simp [words, cutAt]
  | x :: r => by
    have ih := words_cut r
    by_cases hx : x = 32
    · simp [words, cutAt, hx]
    · simp only [words, cutAt, hx, if_false]
      cases hf : (cutAt 32 r).2.2
      · simp [hf] at ih; simp [ih]
      · simp [hf] at ih; simp [ih]
theorem count_cutAt (c : UInt8) : ∀ l : List UInt8, l.count c = if (cutAt c l).2.2 then 1 + (cutAt c l).2.1.count c else 0
  | [] => by simp [cutAt]
  | x :: r => by
    have ih := count_cutAt c r
    by_cases hx : x = c
    · simp [cutAt, hx]; omega
    · rw [List.count_cons_of_ne hx]; simp [cutAt, hx]; exact ih
theorem cutAt_lt (c : UInt8) (l : List UInt8) (h : (cutAt c l).2.2 = true) : (cutAt c l).2.1.length < l.length := by
  have h1 := congrArg List.length (cutAt_parts c l h)
  simp only [List.length_append, List.length_cons] at h1
  omega
theorem drop_cutAt (c : UInt8) (l : List UInt8) (h : (cutAt c l).2.2 = true) : l.drop ((Lib.index l [c]).toNat + [c].length) = (cutAt c l).2.1 ∧ l.take ((Lib.index l [c]).toNat + 0) = (cutAt c l).1 := by
  rw [index_cutAt c l, h]
  have h1 := cutAt_parts c l h
  generalize (cutAt c l).1 = a at h1 ⊢
  generalize (cutAt c l).2.1 = b at h1 ⊢
  subst h1
  simp
theorem countFrom_cutAt (c : UInt8) : ∀ (f : Nat) (l : List UInt8), l.length < f → Lib.countFrom [c] f l = l.count c
  | 0, l, h => by omega
  | f + 1, l, h => by
    rw [Lib.countFrom, count_cutAt c l]
    cases hf : (cutAt c l).2.2
    · rw [if_pos (by rw [index_cutAt, hf]; rfl)]; rfl
    · rw [if_neg (by rw [index_cutAt, hf]; first | (simp; done) | (simp; omega)), (drop_cutAt c l hf).1, countFrom_cutAt c f _ (by have := cutAt_lt c l hf; omega)]
      rfl
theorem splitK_words : ∀ (k : Nat) (l : List UInt8), l.count 32 ≤ k → Lib.splitK [32] 0 k l = words l
  | 0, l, h => by
    rw [Lib.splitK, words_cut]
    have h1 := count_cutAt 32 l
    cases hf : (cutAt 32 l).2.2
    · simp
    · rw [hf] at h1; simp at h1; omega
  | k + 1, l, h => by
    rw [Lib.splitK, words_cut]
    have h1 := count_cutAt 32 l
    cases hf : (cutAt 32 l).2.2
    · rw [if_pos (by rw [index_cutAt, hf]; rfl)]; simp
    · rw [if_neg (by rw [index_cutAt, hf]; first | (simp; done) | (simp; omega)), (drop_cutAt 32 l hf).1, (drop_cutAt 32 l hf).2]
      rw [hf] at h1
      simp only [if_true] at h1 ⊢
      rw [splitK_words k _ (by omega)]
theorem split_words (l : List UInt8) : Lib.split l [32] = words l := by
  unfold Lib.split Lib.count
  rw [countFrom_cutAt 32 _ l (by omega)]
  exact splitK_words _ l (Nat.le_refl _)
theorem words_len (l : List UInt8) : (words l).length = l.count 32 + 1 := by
  induction l with
  | nil => rfl
  | cons x r ih =>
    by_cases hx : x = 32
    · simp [words, hx, ih]
    · rw [List.count_cons_of_ne hx]
      unfold words
      rw [if_neg hx]
      have h1 := words_ne r
      match h : words r with
      | [] => exact absurd h h1
      | a :: q => rw [h] at ih; simpa using ih
/-- The sum of the words' lengths, each with the blank behind it. -/
def spanW (ws : List (List UInt8)) : Nat := (ws.map fun s => s.length + 1).sum
theorem spanW_cons (a : List UInt8) (q : List (List UInt8)) : spanW (a :: q) = a.length + 1 + spanW q := by simp [spanW]
theorem spanW_words (l : List UInt8) : spanW (words l) = l.length + 1 := by
  induction l with
  | nil => rfl
  | cons x r ih =>
    by_cases hx : x = 32
    · simp [words, hx, spanW_cons, ih]; omega
    · unfold words
      rw [if_neg hx]
      have h1 := words_ne r
      match h : words r with
      | [] => exact absurd h h1
      | a :: q => rw [h, spanW_cons] at ih; simp only [spanW_cons, List.length_cons]; omega
theorem words_no : ∀ (l s : List UInt8), s ∈ words l → (32 : UInt8) ∉ s
  | [], s, h => by simp [words] at h; simp [h]
  | x :: r, s, h => by
    by_cases hx : x = 32
    · simp [words, hx] at h
      rcases h with rfl | h
      · simp
      · exact words_no r s h
    · unfold words at h
      rw [if_neg hx] at h
      have h1 := words_ne r
      have ih := words_no r
      match h2 : words r with
      | [] => exact absurd h2 h1
      | a :: q =>
        rw [h2] at h ih
        simp only [List.mem_cons] at h
        rcases h with rfl | h
        · have := ih a (by simp)
          simp only [List.mem_cons, not_or]
          exact ⟨fun e => hx e.symm, this⟩
        · exact ih s (by simp [h])
theorem words_append (a r : List UInt8) (h : (32 : UInt8) ∉ a) : words (a ++ 32 :: r) = a :: words r := by
  induction a with
  | nil => simp [words]
  | cons x a ih =>
    simp only [List.mem_cons, not_or] at h
    have hx : ¬ x = 32 := fun e => h.1 e.symm
    rw [List.cons_append, words, if_neg hx, ih h.2]
theorem words_one (a : List UInt8) (h : (32 : UInt8) ∉ a) : words a = [a] := by
  induction a with
  | nil => simp [words]
  | cons x a ih =>
    simp only [List.mem_cons, not_or] at h
    have hx : ¬ x = 32 := fun e => h.1 e.symm
    rw [words, if_neg hx, ih h.2]
theorem join_cons2 (a b : List UInt8) (q : List (List UInt8)) : Lib.join (a :: b :: q) [32] = a ++ 32 :: Lib.join (b :: q) [32] := by
  simp [Lib.join, List.intercalate, List.intersperse]
theorem join_one (a : List UInt8) : Lib.join [a] [32] = a := by simp [Lib.join, List.intercalate, List.intersperse]
theorem words_join : ∀ (ws : List (List UInt8)), ws ≠ [] → (∀ s ∈ ws, (32 : UInt8) ∉ s) → words (Lib.join ws [32]) = ws
  | [], h, _ => absurd rfl h
  | [a], _, h => by rw [join_one]; exact words_one a (h a (by simp))
  | a :: b :: q, _, h => by
    rw [join_cons2, words_append a _ (h a (by simp)), words_join (b :: q) (by simp) (fun s hs => h s (by simp at hs ⊢; right; exact hs))]
theorem join_words (l : List UInt8) : Lib.join (words l) [32] = l := by
  induction l with
  | nil => simp [words, join_one]
  | cons x r ih =>
    have h1 := words_ne r
    by_cases hx : x = 32
    · unfold words; rw [if_pos hx]
      match h : words r with
      | [] => exact absurd h h1
      | a :: q => rw [h] at ih; rw [join_cons2, ih, hx]; rfl
    · unfold words; rw [if_neg hx]
      match h : words r with
      | [] => exact absurd h h1
      | [a] => rw [h, join_one] at ih; simp only [join_one, ih]
      | a :: b :: q => rw [h, join_cons2] at ih; simp only [join_cons2, List.cons_append, ih]
theorem join_len (ws : List (List UInt8)) (h : ws ≠ []) : (Lib.join ws [32]).length + 1 = spanW ws := by
  match ws, h with
  | [a], _ => simp [join_one, spanW]
  | a :: b :: q, _ =>
    have := join_len (b :: q) (by simp)
    rw [join_cons2, spanW_cons]; simp only [List.length_append, List.length_cons]; omega
theorem mem_words_len (l s : List UInt8) (h : s ∈ words l) : s.length ≤ l.length := by
  have h1 := spanW_words l
  have : ∀ (ws : List (List UInt8)), s ∈ ws → s.length + 1 ≤ spanW ws := by
    intro ws
    induction ws with
    | nil => intro h; simp at h
    | cons a q ih =>
      intro h
      rw [spanW_cons]
      simp only [List.mem_cons] at h
      rcases h with rfl | h
      · omega
      · have := ih h; omega
  have := this _ h
  omega
end Go.Proofs.YtlleijickhifmaaGreatDoor
namespace Go.Proofs.YtlleijickhifmaaGreatDoor
open Go.RowKit Go.Sort
set_option linter.unusedVariables false
set_option linter.unusedSimpArgs false
def refB (s : List UInt8) : Bool := (splitRef s).2.2 == 0
/-- The distance behind a letter. -/
def legDistS (c : UInt8) : List UInt8 → Int × Bool
  | [] => (0, false)
  | x :: r => if x = c ∧ (distP r).2 = 0 ∧ (distP r).1 ≠ 0 then ((distP r).1, distS (distP r).1.toNat == r) else (0, false)
def speedB : List UInt8 → Bool
  | x :: y :: r => x == 115 && y != 48 && decide (r.length ≤ 3) && (y :: r).all isD
  | _ => false
/-- The number behind the letter s. -/
def speedS (s : List UInt8) : Int × Bool := if speedB s then ((val s.tail : Int), true) else (0, false)
/-- The type with a name among the first k, t0 if there is none. -/
def typeK (s : List UInt8) (t0 : Int) : Nat → Int
  | 0 => t0
  | k + 1 => if 0 < k ∧ namesTab.getD k [] = s then (k : Int) else typeK s t0 k
/-- A word is taken: the leg with it, and whether it is accepted. -/
abbrev Acc := List UInt8 → Leg → Leg × Bool
def accName : Acc := fun s l => ({ l with ty := typeK s l.ty 18 }, typeK s l.ty 18 != 0)
def accFix : Acc := fun s l => ({ l with fix := s }, refB s)
def accCenter : Acc := fun s l => ({ l with center := (cutPre 64 s).1 }, (cutPre 64 s).2 && refB (cutPre 64 s).1)
def accTurn : Acc := fun s l => ({ l with turn := if s = [76] then 1 else 2 }, s == [76] || s == [82])
def accCourse : Acc := fun s l => ({ l with course := (courseS s).1 }, (courseS s).2)
def accDist : Acc := fun s l => ({ l with dist := (legDistS 100 s).1 }, (legDistS 100 s).2)
def accRadius : Acc := fun s l => ({ l with radius := (legDistS 114 s).1 }, (legDistS 114 s).2)
def accTheta : Acc := fun s l => match s with
  | [] => (l, false)
  | x :: r => if x = 116 then ({ l with theta := (courseS r).1 }, (courseS r).2) else (l, false)
def accOver : Acc := fun s l => ({ l with over := s == [111, 118, 101, 114] }, s == [111, 118, 101, 114])
def winTaken (s : List UInt8) : Bool := (parseWinS s).2 == 0 && !((parseWinS s).1.1 == -200000 && (parseWinS s).1.2 == 6000000)
def accWin : Acc := fun s l => if winTaken s then ({ l with lo := (parseWinS s).1.1, hi := (parseWinS s).1.2 }, true) else (l, false)
def accSpeed : Acc := fun s l => if (speedS s).2 then ({ l with speed := (speedS s).1 }, true) else (l, false)
def accRnp : Acc := fun s l => if (legDistS 110 s).2 then ({ l with rnp := (legDistS 110 s).1 }, true) else (l, false)
/-- The reader: the words that are left, the column of the next, the column of the error; and the leg. -/
structure PS where
  ws : List (List UInt8)
  col : Int
  bad : Int
  l : Leg
def PS.need (size : Nat) (f : Acc) (x : PS) : PS :=
  if x.bad ≠ 0 then x else match x.ws with
    | [] => { x with bad := size + 2 }
    | s :: r => if (f s x.l).2 then ⟨r, x.col + (s.length + 1), 0, (f s x.l).1⟩ else { x with bad := x.col, l := (f s x.l).1 }
def PS.may (f : Acc) (x : PS) : PS :=
  if x.bad ≠ 0 then x else match x.ws with
    | [] => x
    | s :: r => if (f s x.l).2 then ⟨r, x.col + (s.length + 1), 0, (f s x.l).1⟩ else { x with l := (f s x.l).1 }
def PS.needIf (b : Bool) (size : Nat) (f : Acc) (x : PS) : PS := if b then x.need size f else x
def leg0 : Leg := ⟨0, [], [], 0, false, 0, 0, 0, 0, 0, 0, 0, 0⟩
def legOpen : Leg := { leg0 with lo := -200000, hi := 6000000 }
def PS.fields (t : Int) (n : Nat) (x : PS) : PS :=
  ((((((x.needIf (uB t 1) n accFix).needIf (uB t 2) n accCenter).needIf (uB t 4) n accTurn).needIf (uB t 16) n accCourse).needIf (uB t 32) n accDist).needIf (uB t 64) n accRadius).needIf (uB t 128) n accTheta
def PS.options (x : PS) : PS := (((x.may accOver).may accWin).may accSpeed).may accRnp
def PS.begin (s : List UInt8) : PS := PS.need s.length accName ⟨words s, 1, 0, legOpen⟩
def PS.last (s : List UInt8) : PS := ((PS.begin s).fields (PS.begin s).l.ty s.length).options
def PS.badAt (x : PS) : Int := if x.ws ≠ [] ∧ x.bad = 0 then x.col else x.bad
def PS.done (x : PS) : Leg × Int × Int :=
  if x.badAt ≠ 0 then (leg0, x.badAt, 4) else if legCheck x.l ≠ 0 then (leg0, 0, legCheck x.l) else (x.l, 0, 0)
def parseS (s : List UInt8) : Leg × Int × Int := (PS.last s).done
/-! What is kept: the column, and the lengths. -/
structure PS.Ok (n : Nat) (x : PS) : Prop where
  col : x.col + (spanW x.ws : Int) = (n : Int) + 2
  one : 1 ≤ x.col
  bad0 : 0 ≤ x.bad
  bad : x.bad ≤ (n : Int) + 2
  fix : x.l.fix.length ≤ n
  center : x.l.center.length ≤ n
  ty0 : 0 ≤ x.l.ty
  ty : x.l.ty ≤ 17
structure Acc.Ok (n : Nat) (f : Acc) : Prop where
  fix : ∀ s l, s.length ≤ n → l.fix.length ≤ n → (f s l).1.fix.length ≤ n
  center : ∀ s l, s.length ≤ n → l.center.length ≤ n → (f s l).1.center.length ≤ n
  ty0 : ∀ s l, 0 ≤ l.ty → 0 ≤ (f s l).1.ty
  ty : ∀ s l, l.ty ≤ 17 → (f s l).1.ty ≤ 17
theorem PS.Ok.word {n : Nat} {x : PS} (h : x.Ok n) {s : List UInt8} {r : List (List UInt8)} (hw : x.ws = s :: r) : s.length ≤ n := by
  have h1 := h.col
  have h2 := h.one
  rw [hw, spanW_cons] at h1
  omega
theorem PS.Ok.need {n : Nat} {x : PS} {f : Acc} (h : x.Ok n) (hf : f.Ok n) : (x.need n f).Ok n := by
  unfold PS.need
  split
  · exact h
  · split
    · exact ⟨h.col, h.one, by simp; omega, by simp, h.fix, h.center, h.ty0, h.ty⟩
    · rename_i s r hw
      have hs := h.word hw
      have hc := h.col
      have h1 := h.one
      rw [hw, spanW_cons] at hc
      split
      · exact ⟨by simp only; omega, by simp only; omega, by simp, by simp only; omega, hf.fix _ _ hs h.fix, hf.center _ _ hs h.center, hf.ty0 _ _ h.ty0, hf.ty _ _ h.ty⟩
      · exact ⟨h.col, h.one, by simp only; omega, by simp only; omega, hf.fix _ _ hs h.fix, hf.center _ _ hs h.center, hf.ty0 _ _ h.ty0, hf.ty _ _ h.ty⟩
theorem PS.Ok.may {n : Nat} {x : PS} {f : Acc} (h : x.Ok n) (hf : f.Ok n) : (x.may f).Ok n := by
  unfold PS.may
  split
  · exact h
  · split
    · exact h
    · rename_i s r hw
      have hs := h.word hw
      have hc := h.col
      have h1 := h.one
      rw [hw, spanW_cons] at hc
      split
      · exact ⟨by simp only; omega, by simp only; omega, by simp, by simp only; omega, hf.fix _ _ hs h.fix, hf.center _ _ hs h.center, hf.ty0 _ _ h.ty0, hf.ty _ _ h.ty⟩
      · exact ⟨h.col, h.one, h.bad0, h.bad, hf.fix _ _ hs h.fix, hf.center _ _ hs h.center, hf.ty0 _ _ h.ty0, hf.ty _ _ h.ty⟩
theorem PS.Ok.needIf {n : Nat} {x : PS} {f : Acc} (b : Bool) (h : x.Ok n) (hf : f.Ok n) : (x.needIf b n f).Ok n := by
  unfold PS.needIf
  split
  · exact h.need hf
  · exact h
theorem cutPre_len (c : UInt8) (s : List UInt8) : (cutPre c s).1.length ≤ s.length := by
  unfold cutPre
  split
  · split <;> simp
  · simp
theorem typeK_bd (s : List UInt8) (t : Int) : ∀ k : Nat, k ≤ 18 → (0 ≤ t → 0 ≤ typeK s t k) ∧ (t ≤ 17 → typeK s t k ≤ 17)
  | 0, _ => ⟨id, id⟩
  | k + 1, h => by
    have ih := typeK_bd s t k (by omega)
    unfold typeK
    split
    · exact ⟨fun _ => by omega, fun _ => by omega⟩
    · exact ih
theorem accName_ok (n : Nat) : accName.Ok n := ⟨fun _ _ _ h => h, fun _ _ _ h => h, fun s l h => (typeK_bd s l.ty 18 (by omega)).1 h, fun s l h => (typeK_bd s l.ty 18 (by omega)).2 h⟩
theorem accFix_ok (n : Nat) : accFix.Ok n := ⟨fun _ _ h _ => h, fun _ _ _ h => h, fun _ _ h => h, fun _ _ h => h⟩
theorem accCenter_ok (n : Nat) : accCenter.Ok n := ⟨fun _ _ _ h => h, fun s _ h _ => Nat.le_trans (cutPre_len 64 s) h, fun _ _ h => h, fun _ _ h => h⟩
theorem accTurn_ok (n : Nat) : accTurn.Ok n := ⟨fun _ _ _ h => h, fun _ _ _ h => h, fun _ _ h => h, fun _ _ h => h⟩
theorem accCourse_ok (n : Nat) : accCourse.Ok n := ⟨fun _ _ _ h => h, fun _ _ _ h => h, fun _ _ h => h, fun _ _ h => h⟩
theorem accDist_ok (n : Nat) : accDist.Ok n := ⟨fun _ _ _ h => h, fun _ _ _ h => h, fun _ _ h => h, fun _ _ h => h⟩
theorem accRadius_ok (n : Nat) : accRadius.Ok n := ⟨fun _ _ _ h => h, fun _ _ _ h => h, fun _ _ h => h, fun _ _ h => h⟩
theorem accOver_ok (n : Nat) : accOver.Ok n := ⟨fun _ _ _ h => h, fun _ _ _ h => h, fun _ _ h => h, fun _ _ h => h⟩
theorem accTheta_eq (s : List UInt8) (l : Leg) : ∃ t b, accTheta s l = ({ l with theta := t }, b) := by
  unfold accTheta
  split
  · exact ⟨l.theta, false, rfl⟩
  · split
    · exact ⟨_, _, rfl⟩
    · exact ⟨l.theta, false, rfl⟩
theorem accTheta_ok (n : Nat) : accTheta.Ok n := by
  refine ⟨?_, ?_, ?_, ?_⟩ <;> intro s l <;> obtain ⟨t, b, h⟩ := accTheta_eq s l <;> rw [h]
  · exact fun _ h => h
  · exact fun _ h => h
  · exact fun h => h
  · exact fun h => h
theorem accWin_ok (n : Nat) : accWin.Ok n := by
  refine ⟨?_, ?_, ?_, ?_⟩ <;> intro s l <;> unfold accWin <;> split
  all_goals first | exact fun _ h => h | exact fun h => h
theorem accSpeed_ok (n : Nat) : accSpeed.Ok n := by
  refine ⟨?_, ?_, ?_, ?_⟩ <;> intro s l <;> unfold accSpeed <;> split
  all_goals first | exact fun _ h => h | exact fun h => h
theorem accRnp_ok (n : Nat) : accRnp.Ok n := by
  refine ⟨?_, ?_, ?_, ?_⟩ <;> intro s l <;> unfold accRnp <;> split
  all_goals first | exact fun _ h => h | exact fun h => h
theorem PS.begin0_ok (s : List UInt8) : PS.Ok s.length ⟨words s, 1, 0, legOpen⟩ :=
  ⟨by simp only [spanW_words]; omega, by simp, by simp, by simp only; omega, by simp [legOpen, leg0], by simp [legOpen, leg0], by simp [legOpen, leg0], by simp [legOpen, leg0]⟩
end Go.Proofs.YtlleijickhifmaaGreatDoor
namespace Go.Proofs.YtlleijickhifmaaGreatDoor
open Go.RowKit Go.Sort
set_option linter.unusedVariables false
set_option linter.unusedSimpArgs false
def txOf (l : Leg) : LegTx := ⟨exactS l.course.toNat, 100 :: distS l.dist.toNat, 114 :: distS l.radius.toNat, exactS l.theta.toNat, winS l.lo l.hi, Lib.decDigits l.speed.toNat, 110 :: distS l.rnp.toNat⟩
theorem orE_zero {a b : Int} : orE a b = 0 ↔ a = 0 ∧ b = 0 := by unfold orE; grind
/-- What a leg without an error is. -/
structure LegOk (l : Leg) : Prop where
  known : knownB l.ty = true
  fix : checkRefI l.fix (uB l.ty 1) = 0
  center : checkRefI l.center (uB l.ty 2) = 0
  turn : turnE (uB l.ty 4) l.turn = 0
  over : overB l = false
  course : checkNum l.course (uB l.ty 16) 0 129599999 = 0
  dist : checkNum l.dist (uB l.ty 32) 1 2000000 = 0
  radius : checkNum l.radius (uB l.ty 64) 1 2000000 = 0
  theta : checkNum l.theta (uB l.ty 128) 0 129599999 = 0
  limits : limitsE l = 0
theorem legOk_of {l : Leg} (h : legCheck l = 0) : LegOk l := by
  unfold legCheck at h
  cases hk : knownB l.ty
  · rw [hk] at h; simp at h
  · rw [hk] at h
    simp only [if_true, orE_zero, legC2, legC3, legC4] at h
    obtain ⟨h1, h2, h3, h4, h5, h6, h7, h8, h9⟩ := h
    refine ⟨hk, h1, h2, h3, ?_, h5, h6, h7, h8, h9⟩
    cases ho : overB l
    · rfl
    · rw [ho] at h4; simp at h4
theorem legCheck_of {l : Leg} (h : LegOk l) : legCheck l = 0 := by
  unfold legCheck
  rw [h.known]
  simp only [if_true, orE_zero, legC2, legC3, legC4]
  exact ⟨h.fix, h.center, h.turn, by rw [h.over]; rfl, h.course, h.dist, h.radius, h.theta, h.limits⟩
theorem num_used {n lo hi : Int} {b : Bool} (h : checkNum n b lo hi = 0) (hb : b = true) : lo ≤ n ∧ n ≤ hi := by
  subst hb; unfold checkNum at h; grind
theorem num_free {n lo hi : Int} {b : Bool} (h : checkNum n b lo hi = 0) (hb : b = false) : n = 0 := by
  subst hb; unfold checkNum at h; grind
theorem limits_of {l : Leg} (h : limitsE l = 0) : winOk l.lo l.hi ∧ (climbsB l.ty = true → l.lo ≠ -200000) ∧ 0 ≤ l.speed ∧ l.speed ≤ 1000 ∧ 0 ≤ l.rnp ∧ l.rnp ≤ 120000 := by
  unfold limitsE at h
  unfold winOk
  grind
theorem tx_small {l : Leg} (h : LegOk l) : ∀ s ∈ [exactS l.course.toNat, 100 :: distS l.dist.toNat, 114 :: distS l.radius.toNat, exactS l.theta.toNat, winS l.lo l.hi, Lib.decDigits l.speed.toNat, 110 :: distS l.rnp.toNat], s.length ≤ 1000 := by
  obtain ⟨hw, _, s0, s1, r0, r1⟩ := limits_of h.limits
  have e1 := exactS_len l.course.toNat
  have e2 := exactS_len l.theta.toNat
  have hd : l.dist.toNat ≤ 8000000 := by
    cases hb : uB l.ty 32
    · have := num_free h.dist hb; omega
    · have := num_used h.dist hb; omega
  have hr : l.radius.toNat ≤ 8000000 := by
    cases hb : uB l.ty 64
    · have := num_free h.radius hb; omega
    · have := num_used h.radius hb; omega
  have e3 := distS_len hd
  have e4 := distS_len hr
  have e5 := winS_len hw
  have e6 : (Lib.decDigits l.speed.toNat).length ≤ 4 := dec_len (by decide) (by omega)
  have e7 := distS_len (d := l.rnp.toNat) (by omega)
  simp only [List.mem_cons, List.not_mem_nil, or_false, forall_eq_or_imp, forall_eq, List.length_cons]
  refine ⟨?_, ?_, ?_, ?_, ?_, ?_, ?_⟩ <;> omega
/-- The text of a leg. -/
def textS (l : Leg) : List UInt8 := legText l (txOf l)
end Go.Proofs.YtlleijickhifmaaGreatDoor
namespace Go.Proofs.YtlleijickhifmaaGreatDoor
open Go.RowKit
set_option linter.unusedVariables false
set_option linter.unusedSimpArgs false
theorem nameOf_no (t : Int) (h : knownB t = false) : nameOf t = [] := by
  have h1 : ¬ (1 ≤ t ∧ t ≤ 17) := by intro hh; have : knownB t = true := by simpa [knownB] using hh
                                     rw [h] at this; cases this
  unfold nameOf
  rcases Nat.lt_or_ge t.toNat 1 with h2 | h2
  · have : t.toNat = 0 := by omega
    rw [this]; rfl
  · rw [List.getD_eq_getElem?_getD, List.getElem?_eq_none (by simp [namesTab]; omega)]; rfl
theorem nameOf_some (t : Int) (h : knownB t = true) : (nameOf t).isEmpty = false := by
  have h1 : 1 ≤ t ∧ t ≤ 17 := by simpa [knownB] using h
  obtain ⟨n, rfl⟩ : ∃ n : Nat, t = n := ⟨t.toNat, by omega⟩
  have : ∀ k : Fin 17, (nameOf ((k.val + 1 : Nat) : Int)).isEmpty = false := by decide +kernel
  have h2 := this ⟨n - 1, by omega⟩
  have e : n - 1 + 1 = n := by omega
  simp only [e] at h2
  exact h2
set_option maxHeartbeats 1000000 in
theorem name16_any (t : Int) (w : World) (hL : Laid w) : Calls Tryz.prog 38 #[.int .u8 t] w (RetP w (.string ⟨(nameOf t).toArray⟩)) := by
  by_cases hk : knownB t = true
  · have hk1 : 1 ≤ t ∧ t ≤ 17 := by simpa [knownB] using hk
    have hk0 := hk1.1
    have hk2 := hk1.2
    have hk3 : 0 ≤ t ∧ t < 18 := by omega
    clear hk1
    have hu : w.cell? ⟨2, t.toNat, none⟩ = some (.string ⟨(nameOf t).toArray⟩) := hL.names _ (by omega)
    go_enter Tryz.func38, Tryz.ntmps38
    go_wp2_with (go_at_call 69; refine callP (known_any _ _) ?_)
    go_ret
    exact RetP.str rfl rfl
  · have hk : knownB t = false := by simpa using hk
    go_enter Tryz.func38, Tryz.ntmps38
    go_wp2_with (go_at_call 69; refine callP (known_any _ _) ?_)
    go_ret
    exact RetP.str (by rw [nameOf_no t hk]) rfl
/-- The leg with another window. -/
def Leg.winTo (l : Leg) (lo hi : Int) : Leg := { l with lo := lo, hi := hi }
theorem winTo_check (l : Leg) (lo hi : Int) (h : legCheck l = 0) : legCheck (l.winTo lo hi) = limitsE (l.winTo lo hi) := by
  have k := legOk_of h
  have e1 : knownB (l.winTo lo hi).ty = true := k.known
  have e2 : checkRefI (l.winTo lo hi).fix (uB (l.winTo lo hi).ty 1) = 0 := k.fix
  have e3 : checkRefI (l.winTo lo hi).center (uB (l.winTo lo hi).ty 2) = 0 := k.center
  have e4 : turnE (uB (l.winTo lo hi).ty 4) (l.winTo lo hi).turn = 0 := k.turn
  have e5 : overB (l.winTo lo hi) = false := k.over
  have e6 : checkNum (l.winTo lo hi).course (uB (l.winTo lo hi).ty 16) 0 129599999 = 0 := k.course
  have e7 : checkNum (l.winTo lo hi).dist (uB (l.winTo lo hi).ty 32) 1 2000000 = 0 := k.dist
  have e8 : checkNum (l.winTo lo hi).radius (uB (l.winTo lo hi).ty 64) 1 2000000 = 0 := k.radius
  have e9 : checkNum (l.winTo lo hi).theta (uB (l.winTo lo hi).ty 128) 0 129599999 = 0 := k.theta
  unfold legCheck legC2 legC3 legC4
  rw [e1, e2, e3, e4, e5, e6, e7, e8, e9]
  rfl
theorem winTo_bad (l : Leg) (lo hi : Int) (h : legCheck l = 0) (hb : lo < -200000 ∨ 6000000 < hi ∨ hi < lo) : legCheck (l.winTo lo hi) = 2 := by
  rw [winTo_check l lo hi h]
  unfold limitsE Leg.winTo
  rw [if_pos (by simp only; omega)]
theorem winTo_good (l : Leg) (lo hi : Int) (h : legCheck l = 0) (h1 : -200000 < lo) (h2 : hi ≤ 6000000) (h3 : lo ≤ hi) : legCheck (l.winTo lo hi) = 0 := by
  rw [winTo_check l lo hi h]
  obtain ⟨_, _, s0, s1, r0, r1⟩ := limits_of (legOk_of h).limits
  unfold limitsE Leg.winTo
  rw [if_neg (by simp only; omega), if_neg (by simp only; omega), if_neg (by simp only; omega)]
theorem winTo_low (l : Leg) (hi : Int) (h : legCheck l = 0) (h2 : hi ≤ 6000000) (h3 : -200000 ≤ hi) : legCheck (l.winTo (-200000) hi) = if climbsB l.ty then 2 else 0 := by
  rw [winTo_check l (-200000) hi h]
  obtain ⟨_, _, s0, s1, r0, r1⟩ := limits_of (legOk_of h).limits
  unfold limitsE Leg.winTo
  rw [if_neg (by simp only; omega)]
  cases hc : climbsB l.ty
  · rw [if_neg (by simp [hc]), if_neg (by simp only; omega)]; rfl
  · rw [if_pos (by simp [hc])]; rfl
end Go.Proofs.YtlleijickhifmaaGreatDoor
