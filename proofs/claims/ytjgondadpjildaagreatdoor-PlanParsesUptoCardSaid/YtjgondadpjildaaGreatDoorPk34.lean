/- The reference's split: the words of a text, each with its column. -/
import Derived.Test.YtjgondadpjildaaGreatDoorPk13
import Derived.Test.YtjgondadpjildaaGreatDoorPk20
import Derived.Test.YtjgondadpjildaaGreatDoorPk23
import Derived.Great.BuildSlice
namespace Go.Proofs.YtjgondadpjildaaGreatDoor
open Go.RowKit Go.Sort
set_option linter.unusedVariables false
set_option linter.unusedSimpArgs false
set_option maxRecDepth 100000
abbrev WC := List UInt8 × Int
def WC.arr (x : WC) : Array Value := #[.string ⟨x.1.toArray⟩, .int .i64 x.2]
def wcCells (l : List WC) : List Value := l.flatMap fun x => x.arr.toList
/-- Words with their columns, the first at c. -/
def wcol (c : Int) : List (List UInt8) → List WC
  | [] => []
  | a :: q => (a, c) :: wcol (c + (a.length + 1)) q
theorem wcol_len (c : Int) (l : List (List UInt8)) : (wcol c l).length = l.length := by
  induction l generalizing c with
  | nil => rfl
  | cons a q ih => simp [wcol, ih]
theorem wcCells_len (l : List WC) : (wcCells l).length = l.length * 2 := by
  induction l with
  | nil => rfl
  | cons x r ih => simp only [wcCells, List.flatMap_cons, List.length_append, List.length_cons] at *; rw [ih]; simp [WC.arr]; omega
theorem wcCells_app (a b : List WC) : wcCells (a ++ b) = wcCells a ++ wcCells b := by simp [wcCells]
theorem wcCells_at : ∀ (l : List WC) (i : Nat) (x : WC), l[i]? = some x → ∀ j, j < 2 → (wcCells l)[i * 2 + j]? = x.arr[j]?
  | [], i, x, h, _, _ => by simp at h
  | y :: r, 0, x, h, j, hj => by
    obtain rfl : y = x := by simpa using h
    simp only [wcCells, List.flatMap_cons, Nat.zero_mul, Nat.zero_add]
    rw [List.getElem?_append_left (by simp [WC.arr]; omega)]
    simp
  | y :: r, i + 1, x, h, j, hj => by
    have ih := wcCells_at r i x (by simpa using h) j hj
    simp only [wcCells, List.flatMap_cons] at ih ⊢
    rw [List.getElem?_append_right (by simp [WC.arr]; omega)]
    rw [← ih]
    congr 1
    simp [WC.arr]; omega
/-- The slice at A holds these words. -/
structure WSl (W : World) (A : Option Addr) (l : List WC) : Prop where
  at_ : l ≠ [] → ∃ b, A = some ⟨b, 0, none⟩ ∧ b < W.heap.size ∧ ∀ i x, l[i]? = some x → ∀ j, j < 2 → W.cell? ⟨b, i * 2 + j, none⟩ = x.arr[j]?
theorem WSl.below {W W' : World} {A : Option Addr} {l : List WC} (h : WSl W A l) (hb : Below W.heap.size W W') : WSl W' A l := by
  refine ⟨fun hne => ?_⟩
  obtain ⟨b, h1, h2, h3⟩ := h.at_ hne
  exact ⟨b, h1, Nat.lt_of_lt_of_le h2 hb.size, fun i x hx j hj => by rw [hb.cell (p := ⟨b, _, none⟩) h2]; exact h3 i x hx j hj⟩
def WOut (w0 W : World) (v : Value) (l : List WC) : Prop := W.ownsRow w0.heap.size 163 2 v l.length (wcCells l)
theorem WOut.nil (w0 W : World) : WOut w0 W (.slice none 0 0) [] := ⟨rfl, .inl ⟨rfl, rfl⟩⟩
theorem WOut.form {w0 W : World} {v : Value} {l : List WC} (h : WOut w0 W v l) : ∃ A c, v = .slice A l.length c ∧ l.length ≤ c ∧ WSl W A l ∧ (∀ a, A = some a → w0.heap.size ≤ a.block) := by
  obtain ⟨hl, h⟩ := h
  rcases h with ⟨rfl, h0⟩ | ⟨g, cap, cur, rfl, hg, hb, hn, _, hsz, hc⟩
  · refine ⟨none, 0, by rw [h0], by omega, ⟨fun hne => absurd (List.eq_nil_of_length_eq_zero h0) hne⟩, by simp⟩
  · refine ⟨some ⟨g, 0, none⟩, cap, rfl, hn, ⟨fun _ => ⟨g, rfl, ?_, ?_⟩⟩, by rintro a h; injection h with h; subst h; exact hg⟩
    · rcases Nat.lt_or_ge g W.heap.size with hlt | hge
      · exact hlt
      · rw [Array.getElem?_eq_none hge] at hb; cases hb
    · intro i x hx j hj
      have h1 := wcCells_at l i x hx j hj
      have hi : i < l.length := (List.getElem?_eq_some_iff.1 hx).1
      rw [cell_of_row W g _ cur _ _ hb, ← h1, ← hc, List.getElem?_take]
      rw [if_pos (by omega)]
      simp
theorem WOut.below {w0 W W' : World} {v : Value} {l : List WC} (h : WOut w0 W v l) (hb : Below W.heap.size W W') : WOut w0 W' v l := by
  obtain ⟨hl, h⟩ := h
  refine ⟨hl, ?_⟩
  rcases h with ⟨rfl, h0⟩ | ⟨g, cap, cur, rfl, hg, hbk, hn, hm, hsz, hc⟩
  · exact .inl ⟨rfl, h0⟩
  · have hlt : g < W.heap.size := by
      rcases Nat.lt_or_ge g W.heap.size with hlt | hge
      · exact hlt
      · rw [Array.getElem?_eq_none hge] at hbk; cases hbk
    exact .inr ⟨g, cap, cur, rfl, hg, (hb.block g hlt).trans hbk, hn, hm, hsz, hc⟩
theorem WOut.alloc {w0 W : World} {v : Value} {l : List WC} (h : WOut w0 W v l) (o : Obj) : WOut w0 (W.alloc o) v l := h.below ((Below.refl _ _).alloc (Nat.le_refl _) _)
theorem info_wc : (Tryz.prog.info? 163).map (fun i => (i.zero, i.size, i.bytes)) = some (some (.agg #[.string ⟨#[]⟩, .int .i64 0]), 2, 24) := by kernel_rfl
theorem wpList_append_wout {ops : Array Oper} {rest : List Oper} {op : Oper} {a : Act} {Q : Exit → Act → World → Prop} {w0 W : World} {v : Value} {l : List WC} (hgd : op.guard = none) (s x : Operand)
    (ho : op.op = .call { callee := .builtin .append, args := #[s, x], argTypes := #[159, 159] }) (h : WOut w0 W v l) (hs : a.eval s = v) (t : WC) (g c : Nat)
    (hx : a.eval x = .slice (some ⟨g, 0, none⟩) 1 c) (hg : Blk W g t.arr) (hn : l.length + 1 ≤ 10000000) (hb : w0.heap.size ≤ W.heap.size)
    (k : ∀ v' W', WOut w0 W' v' (l ++ [t]) → W.grownBy W' v.ownBlock → wpList Tryz.prog ops Q rest (a.put op.dst v') W') : wpList Tryz.prog ops Q (op :: rest) a W := by
  obtain ⟨i0, hi, hz0, hz1, hz2⟩ := info_parts info_wc
  refine wpList_append_own W hgd s x 159 ho w0.heap.size 163 i0 _ 2 24 Tryz.underlying159 hi hz0 hz1 hz2 rfl (by omega) v l.length (wcCells l) hs h ⟨g, 0, none⟩ 1 c (wcCells [t]) hx (by simp [wcCells, WC.arr]) ?_ (by simp [wcCells, WC.arr, Value.oneCell']) (by unfold maxLen; omega) (by omega) hb ?_
  · intro j u hu
    rw [addr_add, Nat.zero_add, hg.cell]
    simpa [wcCells] using hu
  · intro v' W' h1 h2 _
    refine k v' W' ?_ h2
    unfold WOut
    rw [List.length_append, wcCells_app]
    exact h1
theorem below_wgrown {w0 W W' : World} {v : Value} {l : List WC} (hB : Below w0.heap.size w0 W) (hO : WOut w0 W v l) (hg : W.grownBy W' v.ownBlock) : Below w0.heap.size w0 W' := by
  refine hB.grown hg hB.size ?_
  intro g he
  rcases hO.2 with ⟨rfl, _⟩ | ⟨g', cap, cur, rfl, hgb, _⟩
  · simp [Value.ownBlock] at he
  · have : g' = g := by simpa [Value.ownBlock] using he
    omega
def wb1 (parts : Array (Nat × Value)) : Sem Value := Instr.buildSlice 159 1 parts
theorem wb1_fold (parts : Array (Nat × Value)) : Instr.buildSlice 159 1 parts = wb1 parts := rfl
theorem run_wb1 (w : World) (s : ByteArray) (c : Int) : (wb1 #[(0, .agg #[.string s, .int .i64 c])]).run Tryz.prog w = .ok (.slice (some ⟨w.heap.size, 0, none⟩) 1 1) (w.alloc (.cells #[.string s, .int .i64 c] 163)) := by
  obtain ⟨i0, hi, hz0, hz1, hz2⟩ := info_parts info_wc
  refine run_buildSlice w 159 163 1 #[(0, .agg #[.string s, .int .i64 c])] #[.string s, .int .i64 c] i0 _ Tryz.underlying159 hi hz0 (by rw [hz1]; decide) (by rw [hz1]; decide) ?_
  rw [hz1]
  kernel_rfl
attribute [go_sem ↓] wb1_fold
attribute [go_sem] run_wb1
/-! What the loop has found. -/
def SplRel (s : List UInt8) (fr i : Nat) (done : List WC) : Prop :=
  (fr ≤ i ∧ i ≤ s.length ∧ (32 : UInt8) ∉ (s.drop fr).take (i - fr) ∧ done ++ wcol ((fr : Int) + 1) (words (s.drop fr)) = wcol 1 (words s)) ∨ (i = s.length + 1 ∧ done = wcol 1 (words s))
theorem spl_start (s : List UInt8) : SplRel s 0 0 [] := .inl ⟨Nat.le_refl _, Nat.zero_le _, by simp, by simp⟩
theorem spl_len {s : List UInt8} {fr i : Nat} {done : List WC} (h : SplRel s fr i done) : done.length ≤ s.length + 1 := by
  have hw := words_len s
  have hc := List.count_le_length (a := (32 : UInt8)) (l := s)
  rcases h with ⟨_, _, _, h⟩ | ⟨_, h⟩
  · have := congrArg List.length h
    rw [List.length_append, wcol_len, wcol_len] at this
    omega
  · rw [h, wcol_len]; omega
theorem spl_go {s : List UInt8} {fr i : Nat} {done : List WC} (hi : i < s.length) (hc : s[i] ≠ 32) (h : fr ≤ i ∧ i ≤ s.length ∧ (32 : UInt8) ∉ (s.drop fr).take (i - fr) ∧ done ++ wcol ((fr : Int) + 1) (words (s.drop fr)) = wcol 1 (words s)) : SplRel s fr (i + 1) done := by
  obtain ⟨h1, h2, h3, h4⟩ := h
  refine .inl ⟨by omega, by omega, ?_, h4⟩
  rw [show i + 1 - fr = (i - fr) + 1 by omega, List.take_succ_eq_append_getElem (by simp; omega)]
  simp only [List.mem_append, List.mem_singleton, not_or, List.getElem_drop]
  refine ⟨h3, ?_⟩
  simp only [show fr + (i - fr) = i by omega]
  exact fun e => hc e.symm
theorem spl_word {s : List UInt8} {fr i : Nat} {done : List WC} (hi : i < s.length) (hc : s[i] = 32) (h : fr ≤ i ∧ i ≤ s.length ∧ (32 : UInt8) ∉ (s.drop fr).take (i - fr) ∧ done ++ wcol ((fr : Int) + 1) (words (s.drop fr)) = wcol 1 (words s)) :
    SplRel s (i + 1) (i + 1) (done ++ [((s.take i).drop fr, (fr : Int) + 1)]) := by
  obtain ⟨h1, h2, h3, h4⟩ := h
  have hd : (s.drop fr).take (i - fr) = (s.take i).drop fr := by rw [List.drop_take]
  have hs : s.drop fr = (s.take i).drop fr ++ 32 :: s.drop (i + 1) := by
    rw [← hd]
    have := (List.take_append_drop (i - fr) (s.drop fr)).symm
    rw [List.drop_drop, show fr + (i - fr) = i by omega, List.drop_eq_getElem_cons hi, hc] at this
    exact this
  refine .inl ⟨Nat.le_refl _, by omega, by simp, ?_⟩
  rw [hd] at h3
  rw [hs, words_append _ _ h3] at h4
  rw [← h4, List.append_assoc]
  congr 1
  simp only [wcol, List.singleton_append]
  congr 2
  simp only [List.length_drop, List.length_take]
  omega
theorem spl_last {s : List UInt8} {fr : Nat} {done : List WC} (h : fr ≤ s.length ∧ s.length ≤ s.length ∧ (32 : UInt8) ∉ (s.drop fr).take (s.length - fr) ∧ done ++ wcol ((fr : Int) + 1) (words (s.drop fr)) = wcol 1 (words s)) :
    SplRel s (s.length + 1) (s.length + 1) (done ++ [(s.drop fr, (fr : Int) + 1)]) := by
  obtain ⟨h1, h2, h3, h4⟩ := h
  rw [List.take_of_length_le (by simp)] at h3
  rw [words_one _ h3] at h4
  exact .inr ⟨rfl, h4⟩
set_option maxHeartbeats 8000000 in
theorem rsplit_any (s : List UInt8) (w : World) (hl : s.length ≤ 1000000) : Calls Tryz.prog 137 #[.string ⟨s.toArray⟩] w fun e w' => ∃ v, e = .returned v ∧ WOut w w' v (wcol 1 (words s)) ∧ Below w.heap.size w w' := by
  go_enter Tryz.func137, Tryz.ntmps137
  go_wp2
  go_loopw [3, 4, 5] (fun v f i wr => ∃ (fr k : Nat) (done : List WC), f = .int .i64 fr ∧ i = .int .i64 k ∧ SplRel s fr k done ∧ WOut w wr v done ∧ Below w.heap.size w wr) (fun _ _ i _ => s.length + 1 - (intOf i).toNat)
  case atStart => exact ⟨0, 0, [], rfl, rfl, spl_start s, WOut.nil w w, Below.refl _ _⟩
  case round =>
    obtain ⟨fr, k, done, rfl, rfl, hS, hO, hB⟩ := hrel
    have hn := spl_len hS
    rcases hS with hS | ⟨rfl, hd⟩
    · have h1 := hS.1
      have h2 := hS.2.1
      have HS := Lib.hid hS
      clear hS
      rename_i vv wr
      have hz := hB.size
      have O4 := hO.alloc (.cells (WC.arr ((s.take k).drop fr, (fr : Int) + 1)) 163)
      have B4 := below_step hB ((Below.refl _ _).alloc (Nat.le_refl _) (.cells (WC.arr ((s.take k).drop fr, (fr : Int) + 1)) 163))
      by_cases hlt : k < s.length
      · by_cases hc : s[k] = 32
        · have e1 : ((s[k].toNat : Int) == 32) = true := by rw [hc]; rfl
          have HC := Lib.hid hc; clear hc
          go_wp2_with (at_builtin; refine wpList_append_wout rfl (.tmp 22) (.tmp 30) rfl O4 rfl ((s.take k).drop fr, (fr : Int) + 1) _ 1 rfl (Blk.new _ _ _) (by omega) (by simp; omega) ?_; intro v5 W5 O5 hg5)
          go_roundw
          case rel => exact ⟨k + 1, k + 1, _, by go_num, by go_num, spl_word hlt HC.out HS.out, O5, below_wgrown B4 O4 hg5⟩
          case measure => simp [intOf]; omega
        · have e1 : ((s[k].toNat : Int) == 32) = false := u8_ne (d := 32) hc
          have HC := Lib.hid hc; clear hc O4 B4
          go_wp2
          go_roundw
          case rel => exact ⟨fr, k + 1, done, rfl, by go_num, spl_go hlt HC.out HS.out, hO, hB⟩
          case measure => simp [intOf]; omega
      · obtain rfl : k = s.length := by omega
        clear O4 B4
        have O4 := hO.alloc (.cells (WC.arr (s.drop fr, (fr : Int) + 1)) 163)
        have B4 := below_step hB ((Below.refl _ _).alloc (Nat.le_refl _) (.cells (WC.arr (s.drop fr, (fr : Int) + 1)) 163))
        go_wp2_with (at_builtin; refine wpList_append_wout rfl (.tmp 22) (.tmp 30) rfl O4 rfl (s.drop fr, (fr : Int) + 1) _ 1 rfl (Blk.new _ _ _) (by omega) (by simp; omega) ?_; intro v5 W5 O5 hg5)
        go_roundw
        case rel => exact ⟨s.length + 1, s.length + 1, _, by go_num, by go_num, spl_last HS.out, O5, below_wgrown B4 O4 hg5⟩
        case measure => simp [intOf]
    · subst hd
      go_wp2
      go_ret
      exact ⟨_, rfl, hO, hB⟩
end Go.Proofs.YtjgondadpjildaaGreatDoor
