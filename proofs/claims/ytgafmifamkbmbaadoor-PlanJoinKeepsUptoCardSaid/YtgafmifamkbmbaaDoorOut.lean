/- What a grown slice of entries is good for. -/
import Derived.Test.YtgafmifamkbmbaaDoorJoinSpec
import Derived.Laws.OwnMore
namespace Go.Proofs.YtgafmifamkbmbaaDoor
open Go.RowKit
set_option linter.unusedVariables false
set_option linter.unusedSimpArgs false
theorem Out.nil (w0 W : World) : Out w0 W (.slice none 0 0) [] := ⟨rfl, .inl ⟨rfl, rfl⟩⟩
theorem Out.form {w0 W : World} {v : Value} {es : List Entry} (h : Out w0 W v es) : ∃ A c, v = .slice A es.length c ∧ es.length ≤ c ∧ Ents W A es ∧ (∀ a, A = some a → w0.heap.size ≤ a.block) := by
  obtain ⟨hl, h⟩ := h
  rcases h with ⟨rfl, h0⟩ | ⟨g, cap, cur, rfl, hg, hb, hn, _, hsz, hc⟩
  · refine ⟨none, 0, by rw [h0], by omega, ?_, by simp⟩
    obtain rfl : es = [] := List.eq_nil_of_length_eq_zero h0
    exact Ents.nil _ _
  · refine ⟨some ⟨g, 0, none⟩, cap, rfl, hn, ⟨fun _ => ⟨g, 0, rfl, ?_, ?_⟩⟩, by rintro a h; injection h with h; subst h; exact hg⟩
    · rcases Nat.lt_or_ge g W.heap.size with hlt | hge
      · exact hlt
      · rw [Array.getElem?_eq_none hge] at hb; cases hb
    · intro i x hx j hj
      have h1 := cellsOf_at es i x hx j hj
      have hi : i < es.length := (List.getElem?_eq_some_iff.1 hx).1
      rw [Nat.zero_add, cell_of_row W g _ cur _ _ hb, ← h1, ← hc, List.getElem?_take]
      rw [if_pos (by omega)]
      simp
theorem Out.below {w0 W W' : World} {v : Value} {es : List Entry} (h : Out w0 W v es) (hb : Below W.heap.size W W') : Out w0 W' v es := by
  obtain ⟨hl, h⟩ := h
  refine ⟨hl, ?_⟩
  rcases h with ⟨rfl, h0⟩ | ⟨g, cap, cur, rfl, hg, hbk, hn, hm, hsz, hc⟩
  · exact .inl ⟨rfl, h0⟩
  · have hlt : g < W.heap.size := by
      rcases Nat.lt_or_ge g W.heap.size with hlt | hge
      · exact hlt
      · rw [Array.getElem?_eq_none hge] at hbk; cases hbk
    exact .inr ⟨g, cap, cur, rfl, hg, (hb.block g hlt).trans hbk, hn, hm, hsz, hc⟩
theorem Out.alloc {w0 W : World} {v : Value} {es : List Entry} (h : Out w0 W v es) (o : Obj) : Out w0 (W.alloc o) v es := h.below ((Below.refl _ _).alloc (Nat.le_refl _) _)
/-- 'out = append(out, ..)': the source is a block of the entries news. -/
theorem wpList_append_out {ops : Array Oper} {rest : List Oper} {op : Oper} {a : Act} {Q : Exit → Act → World → Prop} {w0 W : World} {v : Value} {es : List Entry} (hgd : op.guard = none) (s x : Operand)
    (ho : op.op = .call { callee := .builtin .append, args := #[s, x], argTypes := #[22, 22] }) (h : Out w0 W v es) (hs : a.eval s = v) (news : List Entry) (g c n : Nat) (hnn : news.length = n)
    (hx : a.eval x = .slice (some ⟨g, 0, none⟩) n c) (hg : Blk W g (cellsOf news).toArray) (hn : es.length + news.length ≤ 1000000) (hb : w0.heap.size ≤ W.heap.size)
    (k : ∀ v' W', Out w0 W' v' (es ++ news) → W.grownBy W' v.ownBlock → wpList Tryd.prog ops Q rest (a.put op.dst v') W') : wpList Tryd.prog ops Q (op :: rest) a W := by
  obtain ⟨i0, hi, hz0, hz1, hz2⟩ := info_parts info_ent_all
  subst hnn
  refine wpList_append_own W hgd s x 22 ho w0.heap.size 41 i0 _ 20 176 Tryd.underlying22 hi hz0 hz1 hz2 rfl (by omega) v es.length (cellsOf es) hs h ⟨g, 0, none⟩ news.length c (cellsOf news) hx (cellsOf_len news) ?_ (cellsOf_one news) (by unfold maxLen; omega) (by omega) hb ?_
  · intro j u hu
    rw [addr_add, Nat.zero_add, hg.cell]
    simpa using hu
  · intro v' W' h1 h2 _
    refine k v' W' ?_ h2
    unfold Out
    rw [List.length_append, cellsOf_app]
    exact h1
theorem Blk.one (w : World) (x : Entry) (t : TypeId) : Blk (w.alloc (.cells x.arr t)) w.heap.size (cellsOf [x]).toArray := by
  have : (cellsOf [x]).toArray = x.arr := by simp [cellsOf]
  rw [this]; exact Blk.new w x.arr t
theorem Blk.two (w : World) (x y : Entry) (t : TypeId) : Blk (w.alloc (.cells (x.arr ++ y.arr) t)) w.heap.size (cellsOf [x, y]).toArray := by
  have : (cellsOf [x, y]).toArray = x.arr ++ y.arr := by simp [cellsOf]
  rw [this]; exact Blk.new w _ t
theorem Out.own_lt {w0 W : World} {v : Value} {es : List Entry} (hO : Out w0 W v es) {g : Nat} (h : v.ownBlock = some g) : g < W.heap.size := by
  rcases hO.2 with ⟨rfl, _⟩ | ⟨g', cap, cur, rfl, _, hb, _⟩
  · simp [Value.ownBlock] at h
  · have : g' = g := by simpa [Value.ownBlock] using h
    subst this
    rcases Nat.lt_or_ge g' W.heap.size with hlt | hge
    · exact hlt
    · rw [Array.getElem?_eq_none hge] at hb; cases hb
/-- A block made behind the slice's own is kept by the append. -/
theorem Blk.grown {W W' : World} {row : Option Nat} {g : Nat} {cs : Array Value} (h : Blk W g cs) (hg : W.grownBy W' row) (hne : row ≠ some g) : Blk W' g cs := by
  have hlt := h.lt
  obtain ⟨t, h⟩ := h
  exact ⟨t, (hg.block g hlt (fun e => hne e.symm)).trans h⟩
/-- What the append may have written lies behind w0. -/
theorem below_grown {w0 W W' : World} {v : Value} {es : List Entry} (hB : Below w0.heap.size w0 W) (hO : Out w0 W v es) (hg : W.grownBy W' v.ownBlock) : Below w0.heap.size w0 W' := by
  refine hB.grown hg hB.size ?_
  intro g he
  rcases hO.2 with ⟨rfl, _⟩ | ⟨g', cap, cur, rfl, hgb, _⟩
  · simp [Value.ownBlock] at he
  · have : g' = g := by simpa [Value.ownBlock] using he
    omega
end Go.Proofs.YtgafmifamkbmbaaDoor
