/- Layer 58: the view of the example. -/
import Derived.Test.YtlleijickhifmaaGreatDoorPk08
import Derived.Test.YtlleijickhifmaaGreatDoorPk07
import Derived.Test.YtlleijickhifmaaGreatDoorPk25
namespace Go.Proofs.YtlleijickhifmaaGreatDoor
open Go.RowKit
set_option linter.unusedVariables false
set_option linter.unusedSimpArgs false
set_option maxRecDepth 100000
def viewArr (es : Value) (a : Int) : Array Value := #[.string ⟨#[]⟩, .string ⟨#[]⟩, es, .int .i64 a, .string ⟨#[]⟩, .string ⟨#[]⟩, .slice none 0 0, .int .i64 0, .bool false,
  .int .i64 0, .int .i64 0, .int .i64 0, .int .i64 0, .bool false, .int .i64 0, .int .i64 0, .int .i64 0, .int .i64 0, .bool false, .int .i64 0, .slice none 0 0, .int .i64 0, .int .i64 0, .bool false, .slice none 0 0,
  .int .u8 0, .int .u8 0, .int .u8 0, .int .i64 0, .int .i64 0, .int .i64 0, .int .i64 0, .slice none 0 0, .int .i64 0, .int .i64 0, .int .i64 0, .int .i64 0, .bool false, .int .i64 0, .int .i64 0, .string ⟨#[]⟩, .int .i64 0]
/-- Block g holds the cells cs, may be written, and is not the slice's own. -/
structure Bsd (w : World) (v : Value) (g : Nat) (cs : Array Value) : Prop where
  blk : Blk w g cs
  far : v.ownBlock ≠ some g
theorem Bsd.step {w w' : World} {v v' : Value} {g : Nat} {cs : Array Value} (h : Bsd w v g cs) (k : Gro w v w' v') : Bsd w' v' g cs where
  blk := h.blk.grown k.grown h.far
  far := by
    rcases k.own with e | ⟨q, e, hq⟩
    · rw [e]; exact h.far
    · rw [e]; intro z; injection z with z; have := h.blk.lt; omega
theorem Bsd.alloc {w : World} {v : Value} {g : Nat} {cs : Array Value} (h : Bsd w v g cs) (o : Obj) : Bsd (w.alloc o) v g cs := h.step (Gro.alloc w v o)
theorem Bsd.nil {w : World} {g : Nat} {cs : Array Value} (h : Blk w g cs) : Bsd w (.slice none 0 0) g cs := ⟨h, by simp [Value.ownBlock]⟩
theorem Out.setFar {w W : World} {v : Value} {es : List Entry} {g : Nat} (h : Out w W v es) (hf : v.ownBlock ≠ some g) (k : Nat) (u : Value) : Out w (W.setCell ⟨g, k, none⟩ u) v es := by
  obtain ⟨hl, h⟩ := h
  refine ⟨hl, ?_⟩
  rcases h with ⟨rfl, h0⟩ | ⟨q, cap, cur, rfl, hg, hbk, hn, hm, hsz, hc⟩
  · exact .inl ⟨rfl, h0⟩
  · have hne : q ≠ g := by rintro rfl; exact hf (by simp [Value.ownBlock])
    exact .inr ⟨q, cap, cur, rfl, hg, (Below.heap_setCell W ⟨g, k, none⟩ u q hne).trans hbk, hn, hm, hsz, hc⟩
theorem Out.same {w W W' : World} {v : Value} {es : List Entry} (h : Out w W v es) (he : ∀ q, v.ownBlock = some q → W'.heap[q]? = W.heap[q]?) : Out w W' v es := by
  obtain ⟨hl, h⟩ := h
  refine ⟨hl, ?_⟩
  rcases h with ⟨rfl, h0⟩ | ⟨q, cap, cur, rfl, hg, hbk, hn, hm, hsz, hc⟩
  · exact .inl ⟨rfl, h0⟩
  · exact .inr ⟨q, cap, cur, rfl, hg, (he q (by simp [Value.ownBlock])).trans hbk, hn, hm, hsz, hc⟩
theorem run_storeB_view58 (W : World) (g o : Nat) (v : Array Value) (hv : SzIs v 42) (h1 : Ones v) (hp : Plain W g) (hn : Fits o 42 (blkOf W g)) :
    (store_view (.pointer (some ⟨g, o, none⟩)) (.agg v)).run Tryz.prog W = .ok () (W.setRow g (splice (blkOf W g) o v)) := run_store_blk W g o 42 _ v info_view hv h1 hp hn
theorem SzIs_v58 (e : Value) (a : Int) (n : Nat) : SzIs (viewArr e a) n = (42 = n) := propext ⟨fun h => h, fun h => h⟩
theorem Fits_v58 (e : Value) (a : Int) (o n : Nat) : Fits o n (viewArr e a) = (o + n ≤ 42) := propext ⟨fun h => h, fun h => h⟩
theorem Ones_v58 (A : Option Addr) (n c : Nat) (a : Int) : Ones (viewArr (.slice A n c) a) = True := eq_true (by simp [Ones, viewArr, Value.oneCell'])
theorem splice_v58 (e f : Value) (a b : Int) : splice (viewArr e a) 0 (viewArr f b) = viewArr f b := rfl
/-- 'out = append(out, x)' beside other blocks: the source is a block of the entries news. -/
theorem wpList_append_ogro {ops : Array Oper} {rest : List Oper} {op : Oper} {a : Act} {Q : Exit → Act → World → Prop} {w0 W : World} {v : Value} {es : List Entry} (hgd : op.guard = none) (s x : Operand)
    (ho : op.op = .call { callee := .builtin .append, args := #[s, x], argTypes := #[24, 24] }) (h : Out w0 W v es) (hs : a.eval s = v) (news : List Entry) (g c n : Nat) (hnn : news.length = n)
    (hx : a.eval x = .slice (some ⟨g, 0, none⟩) n c) (hg : Blk W g (cellsOf news).toArray) (hn : es.length + news.length ≤ 1000000) (hb : w0.heap.size ≤ W.heap.size)
    (k : ∀ v' W', Out w0 W' v' (es ++ news) → Gro W v W' v' → wpList Tryz.prog ops Q rest (a.put op.dst v') W') : wpList Tryz.prog ops Q (op :: rest) a W := by
  obtain ⟨i0, hi, hz0, hz1, hz2⟩ := info_parts info_ent_all
  subst hnn
  refine wpList_append_own_at (w := W) hgd s x 24 ho w0.heap.size 80 i0 _ 20 176 Tryz.underlying24 hi hz0 hz1 hz2 rfl (by omega) v es.length (cellsOf es) hs h ⟨g, 0, none⟩ news.length c (cellsOf news) hx (cellsOf_len news) ?_ (cellsOf_one news) (by unfold maxLen; omega) (by omega) hb ?_
  · intro j u hu
    rw [addr_add, Nat.zero_add, hg.cell]
    simpa using hu
  · intro v' W' h1 h2 _ h4
    refine k v' W' ?_ ⟨h2, ?_⟩
    · unfold Out
      rw [List.length_append, cellsOf_app]
      exact h1
    · rcases h4 with e | e
      · exact .inl e
      · exact .inr ⟨_, e, Nat.le_refl _⟩
theorem wmk58 : Win.arr ⟨-200000, 6000000⟩ = #[.int .i64 (-200000), .int .i64 6000000] := rfl
theorem bs58_0 (w : World) : (bs1 #[(0, .agg #[.bool false, .int .u8 1, .string ⟨#[65, 47, 48, 48]⟩, .string ⟨#[]⟩, .int .u8 0, .bool false, .int .i64 0, .int .i64 0, .int .i64 0, .int .i64 0, .int .i64 (-200000), .int .i64 6000000, .int .i64 0, .int .i64 0, .int .i64 0, .int .i64 0, .int .i64 0, .int .i64 0, .int .u8 2, .string ⟨#[]⟩])]).run Tryz.prog w = .ok (.slice (some ⟨w.heap.size, 0, none⟩) 1 1) (w.alloc (.cells (ent58 1 [65, 47, 48, 48]).arr 80)) := run_bs1 w (ent58 1 [65, 47, 48, 48])
theorem bs58_1 (w : World) : (bs1 #[(0, .agg #[.bool false, .int .u8 2, .string ⟨#[66, 47, 48, 48]⟩, .string ⟨#[]⟩, .int .u8 0, .bool false, .int .i64 0, .int .i64 0, .int .i64 0, .int .i64 0, .int .i64 (-200000), .int .i64 6000000, .int .i64 0, .int .i64 0, .int .i64 0, .int .i64 0, .int .i64 0, .int .i64 0, .int .u8 2, .string ⟨#[]⟩])]).run Tryz.prog w = .ok (.slice (some ⟨w.heap.size, 0, none⟩) 1 1) (w.alloc (.cells (ent58 2 [66, 47, 48, 48]).arr 80)) := run_bs1 w (ent58 2 [66, 47, 48, 48])
theorem bs58_2 (w : World) : (bs1 #[(0, .agg #[.bool false, .int .u8 2, .string ⟨#[67, 47, 48, 48]⟩, .string ⟨#[]⟩, .int .u8 0, .bool false, .int .i64 0, .int .i64 0, .int .i64 0, .int .i64 0, .int .i64 (-200000), .int .i64 6000000, .int .i64 0, .int .i64 0, .int .i64 0, .int .i64 0, .int .i64 0, .int .i64 0, .int .u8 2, .string ⟨#[]⟩])]).run Tryz.prog w = .ok (.slice (some ⟨w.heap.size, 0, none⟩) 1 1) (w.alloc (.cells (ent58 2 [67, 47, 48, 48]).arr 80)) := run_bs1 w (ent58 2 [67, 47, 48, 48])
attribute [local go_sem] run_storeB_view58 SzIs_v58 Fits_v58 Ones_v58 splice_v58 wmk58 bs58_0 bs58_1 bs58_2
def Ret58 (w : World) (e : Ending) (w' : World) : Prop := ∃ A c, e = .returned (.agg (viewArr (.slice A 3 c) 1)) ∧ 3 ≤ c ∧ Ents w' A es58 ∧ Below w.heap.size w w'
set_option maxHeartbeats 4000000 in
theorem view58_any (w : World) : Calls Tryz.prog 9 #[] w (Ret58 w) := by
  go_enter Tryz.func9, Tryz.ntmps9
  go_upto_region 1 with (fail)
  have R0 : Blk (w.alloc (.cells (viewArr (.slice none 0 0) 0) 44)) w.heap.size (viewArr (.slice none 0 0) 0) := Blk.new _ _ _
  have B0 := (Below.refl w.heap.size w).alloc (Nat.le_refl _) (.cells (viewArr (.slice none 0 0) 0) 44)
  obtain ⟨g0, hg0⟩ : ∃ g0, g0 = w.heap.size := ⟨_, rfl⟩
  have hB0 : w.heap.size ≤ g0 := by omega
  rw [← hg0] at R0 ⊢
  clear hg0
  show Code.wp _ _ _ _ (w.alloc (.cells (viewArr (.slice none 0 0) 0) 44))
  generalize w.alloc _ = W1 at R0 B0 ⊢
  go_upto_region 2 with (fail)
  have R1 := R0.alloc (.cells #[.int .i64 (-200000), .int .i64 6000000] 51)
  have Q1 := Blk.new W1 #[.int .i64 (-200000), .int .i64 6000000] 51
  have B1 := below_step B0 ((Below.refl W1.heap.size W1).alloc (Nat.le_refl _) (.cells #[.int .i64 (-200000), .int .i64 6000000] 51))
  clear R0 B0
  generalize W1.alloc _ = W2 at R1 Q1 B1 ⊢
  generalize W1.heap.size = g1 at Q1 ⊢
  go_upto_region 4 with (fail)
  show Code.wp _ _ _ _ ((W2.alloc (.cells (viewArr (.slice none 0 0) 0) 44)).alloc (.cells #[.string ⟨#[65, 47, 48, 48]⟩, .string ⟨#[66, 47, 48, 48]⟩, .string ⟨#[67, 47, 48, 48]⟩] 9))
  have R2 := (R1.alloc (.cells (viewArr (.slice none 0 0) 0) 44)).alloc (.cells #[.string ⟨#[65, 47, 48, 48]⟩, .string ⟨#[66, 47, 48, 48]⟩, .string ⟨#[67, 47, 48, 48]⟩] 9)
  have Q2 := (Q1.alloc (.cells (viewArr (.slice none 0 0) 0) 44)).alloc (.cells #[.string ⟨#[65, 47, 48, 48]⟩, .string ⟨#[66, 47, 48, 48]⟩, .string ⟨#[67, 47, 48, 48]⟩] 9)
  have V2 := (Blk.new W2 (viewArr (.slice none 0 0) 0) 44).alloc (.cells #[.string ⟨#[65, 47, 48, 48]⟩, .string ⟨#[66, 47, 48, 48]⟩, .string ⟨#[67, 47, 48, 48]⟩] 9)
  have N2 := Blk.new (W2.alloc (.cells (viewArr (.slice none 0 0) 0) 44)) #[.string ⟨#[65, 47, 48, 48]⟩, .string ⟨#[66, 47, 48, 48]⟩, .string ⟨#[67, 47, 48, 48]⟩] 9
  rw [World.size_alloc] at N2
  have B2 := below_step (below_step B1 ((Below.refl W2.heap.size W2).alloc (Nat.le_refl _) (.cells (viewArr (.slice none 0 0) 0) 44))) ((Below.refl _ _).alloc (Nat.le_refl _) (.cells #[.string ⟨#[65, 47, 48, 48]⟩, .string ⟨#[66, 47, 48, 48]⟩, .string ⟨#[67, 47, 48, 48]⟩] 9))
  have h01 : g0 ≠ W2.heap.size := by have := R1.lt; omega
  have h12 : g1 ≠ W2.heap.size := by have := Q1.lt; omega
  have h32 : W2.heap.size + 1 ≠ W2.heap.size := by omega
  have hw2 : w.heap.size ≤ W2.heap.size := B1.size
  generalize (W2.alloc _).alloc _ = W3 at R2 Q2 V2 N2 B2 ⊢
  generalize W2.heap.size + 1 = g3 at N2 h32 ⊢
  generalize W2.heap.size = g2 at V2 h01 h12 h32 hw2 ⊢
  clear R1 Q1 B1
  go_loopw [4, 5, 9] (fun _ _ i wr => ∃ (k : Nat) (v : Value), k ≤ 3 ∧ i = .int .i64 k ∧ Out w wr v (es58.take k) ∧ Bsd wr v g0 (viewArr (.slice none 0 0) 0) ∧ Bsd wr v g1 #[.int .i64 (-200000), .int .i64 6000000] ∧ Bsd wr v g2 (viewArr v 0) ∧ Bsd wr v g3 #[.string ⟨#[65, 47, 48, 48]⟩, .string ⟨#[66, 47, 48, 48]⟩, .string ⟨#[67, 47, 48, 48]⟩] ∧ Below w.heap.size w wr) (fun _ _ i _ => 3 - (intOf i).toNat)
  case atStart => exact ⟨0, .slice none 0 0, by omega, rfl, Out.nil _ _, .nil R2, .nil Q2, .nil V2, .nil N2, B2⟩
  case round =>
    obtain ⟨k, v, hk, rfl, O, R, Q, V, N, B⟩ := hrel
    clear R2 Q2 V2 N2 B2
    by_cases hlt : k < 3
    · rcases (show k = 0 ∨ k = 1 ∨ k = 2 by omega) with rfl | rfl | rfl
      · replace O : Out w wr v [] := O
        obtain ⟨A, c, rfl, hc, hE, _⟩ := O.form
        have n1 : wr.cell? ⟨g3, 0, none⟩ = some (.string ⟨#[65, 47, 48, 48]⟩) := N.blk.cell 0
        have v1 : wr.cell? ⟨g2, 2, none⟩ = some (.slice A 0 c) := V.blk.cell 2
        have v2 := V.blk.frozen
        have q1 : Has_win wr g1 0 := ⟨⟨-200000, 6000000⟩, Q.blk.is_win⟩
        have q2 : of_win wr g1 0 = ⟨-200000, 6000000⟩ := of_win_eq Q.blk.is_win
        have O := Lib.hid O
        have V := Lib.hid V
        clear hE hc
        go_wp2_with (at_builtin; refine wpList_append_ogro rfl (.tmp 20) (.tmp 26) rfl (O.out.alloc _) rfl [ent58 1 [65, 47, 48, 48]] _ 1 1 rfl rfl (Blk.one _ _ _) (by simp) (below_step B ((Below.refl _ _).alloc (Nat.le_refl _) _)).size ?_; intro v7 w7 O7 G7; replace O7 : Out w w7 v7 [ent58 1 [65, 47, 48, 48]] := O7; have B7 := below_grown (below_step B ((Below.refl _ _).alloc (Nat.le_refl _) _)) (O.out.alloc _) G7.grown; have V7 := (V.out.alloc _).step G7; have R7 := (R.alloc _).step G7; have Q7 := (Q.alloc _).step G7; have N7 := (N.alloc _).step G7; obtain ⟨A7, c7, e7, hc7, hE7, _⟩ := O7.form; subst e7; have k7 : w7.cell? ⟨g2, 2, none⟩ = some (.slice A 0 c) := V7.blk.cell 2; have f7 := V7.blk.frozen 2; have O7 := Lib.hid O7; clear hE7)
        go_roundw
        case rel => exact ⟨1, _, by omega, by go_num, Out.setFar O7.out V7.far 2 _, ⟨R7.blk.setFar h01 2 _, R7.far⟩, ⟨Q7.blk.setFar h12 2 _, Q7.far⟩, ⟨V7.blk.setCell 2 _, V7.far⟩, ⟨N7.blk.setFar h32 2 _, N7.far⟩, below_setCell B7 hw2 2 _⟩
        case measure => simp [intOf]
      · replace O : Out w wr v [ent58 1 [65, 47, 48, 48]] := O
        obtain ⟨A, c, rfl, hc, hE, _⟩ := O.form
        have n1 : wr.cell? ⟨g3, 1, none⟩ = some (.string ⟨#[66, 47, 48, 48]⟩) := N.blk.cell 1
        have v1 : wr.cell? ⟨g2, 2, none⟩ = some (.slice A 1 c) := V.blk.cell 2
        have v2 := V.blk.frozen
        have q1 : Has_win wr g1 0 := ⟨⟨-200000, 6000000⟩, Q.blk.is_win⟩
        have q2 : of_win wr g1 0 = ⟨-200000, 6000000⟩ := of_win_eq Q.blk.is_win
        have O := Lib.hid O
        have V := Lib.hid V
        clear hE hc
        go_wp2_with (at_builtin; refine wpList_append_ogro rfl (.tmp 20) (.tmp 26) rfl (O.out.alloc _) rfl [ent58 2 [66, 47, 48, 48]] _ 1 1 rfl rfl (Blk.one _ _ _) (by simp) (below_step B ((Below.refl _ _).alloc (Nat.le_refl _) _)).size ?_; intro v7 w7 O7 G7; replace O7 : Out w w7 v7 [ent58 1 [65, 47, 48, 48], ent58 2 [66, 47, 48, 48]] := O7; have B7 := below_grown (below_step B ((Below.refl _ _).alloc (Nat.le_refl _) _)) (O.out.alloc _) G7.grown; have V7 := (V.out.alloc _).step G7; have R7 := (R.alloc _).step G7; have Q7 := (Q.alloc _).step G7; have N7 := (N.alloc _).step G7; obtain ⟨A7, c7, e7, hc7, hE7, _⟩ := O7.form; subst e7; have k7 : w7.cell? ⟨g2, 2, none⟩ = some (.slice A 1 c) := V7.blk.cell 2; have f7 := V7.blk.frozen 2; have O7 := Lib.hid O7; clear hE7)
        go_roundw
        case rel => exact ⟨2, _, by omega, by go_num, Out.setFar O7.out V7.far 2 _, ⟨R7.blk.setFar h01 2 _, R7.far⟩, ⟨Q7.blk.setFar h12 2 _, Q7.far⟩, ⟨V7.blk.setCell 2 _, V7.far⟩, ⟨N7.blk.setFar h32 2 _, N7.far⟩, below_setCell B7 hw2 2 _⟩
        case measure => simp [intOf]
      · replace O : Out w wr v [ent58 1 [65, 47, 48, 48], ent58 2 [66, 47, 48, 48]] := O
        obtain ⟨A, c, rfl, hc, hE, _⟩ := O.form
        have n1 : wr.cell? ⟨g3, 2, none⟩ = some (.string ⟨#[67, 47, 48, 48]⟩) := N.blk.cell 2
        have v1 : wr.cell? ⟨g2, 2, none⟩ = some (.slice A 2 c) := V.blk.cell 2
        have v2 := V.blk.frozen
        have q1 : Has_win wr g1 0 := ⟨⟨-200000, 6000000⟩, Q.blk.is_win⟩
        have q2 : of_win wr g1 0 = ⟨-200000, 6000000⟩ := of_win_eq Q.blk.is_win
        have O := Lib.hid O
        have V := Lib.hid V
        clear hE hc
        go_wp2_with (at_builtin; refine wpList_append_ogro rfl (.tmp 20) (.tmp 26) rfl (O.out.alloc _) rfl [ent58 2 [67, 47, 48, 48]] _ 1 1 rfl rfl (Blk.one _ _ _) (by simp) (below_step B ((Below.refl _ _).alloc (Nat.le_refl _) _)).size ?_; intro v7 w7 O7 G7; replace O7 : Out w w7 v7 [ent58 1 [65, 47, 48, 48], ent58 2 [66, 47, 48, 48], ent58 2 [67, 47, 48, 48]] := O7; have B7 := below_grown (below_step B ((Below.refl _ _).alloc (Nat.le_refl _) _)) (O.out.alloc _) G7.grown; have V7 := (V.out.alloc _).step G7; have R7 := (R.alloc _).step G7; have Q7 := (Q.alloc _).step G7; have N7 := (N.alloc _).step G7; obtain ⟨A7, c7, e7, hc7, hE7, _⟩ := O7.form; subst e7; have k7 : w7.cell? ⟨g2, 2, none⟩ = some (.slice A 2 c) := V7.blk.cell 2; have f7 := V7.blk.frozen 2; have O7 := Lib.hid O7; clear hE7)
        go_roundw
        case rel => exact ⟨3, _, by omega, by go_num, Out.setFar O7.out V7.far 2 _, ⟨R7.blk.setFar h01 2 _, R7.far⟩, ⟨Q7.blk.setFar h12 2 _, Q7.far⟩, ⟨V7.blk.setCell 2 _, V7.far⟩, ⟨N7.blk.setFar h32 2 _, N7.far⟩, below_setCell B7 hw2 2 _⟩
        case measure => simp [intOf]
    · obtain rfl : k = 3 := by omega
      replace O : Out w wr v es58 := O
      obtain ⟨A, c, rfl, hc, hE, _⟩ := O.form
      have v1 : wr.cell? ⟨g2, 3, none⟩ = some (.int .i64 0) := V.blk.cell 3
      have v2 := V.blk.frozen
      go_upto_region 12 with (fail)
      have O4 := Out.setFar O V.far 3 (.int .i64 1)
      have R4 : Bsd (wr.setCell ⟨g2, 3, none⟩ (.int .i64 1)) (.slice A es58.length c) g0 (viewArr (.slice none 0 0) 0) := ⟨R.blk.setFar h01 3 _, R.far⟩
      have V4 : Blk (wr.setCell ⟨g2, 3, none⟩ (.int .i64 1)) g2 (viewArr (.slice A 3 c) 1) := V.blk.setCell 3 _
      have B4 := below_setCell B hw2 3 (.int .i64 1)
      clear v1 v2 hE O R Q V N B
      generalize wr.setCell _ _ = W4 at O4 R4 V4 B4 ⊢
      have j1 : Has_view W4 g2 0 := ⟨_, V4.is_view rfl⟩
      have j2 : of_view W4 g2 0 = viewArr (.slice A 3 c) 1 := of_view_eq (V4.is_view rfl)
      have d2 := R4.blk.plain
      have d3 := R4.blk.of
      go_wp2
      refine bodyPost_ret (results_agg1 Tryz.results9 _ _ g0 (viewArr (.slice A 3 c) 1) 42 _ rfl rfl (R4.blk.set _).cell Tryz.underlying44 rfl info_view) rfl ⟨A, c, rfl, hc, ?_, below_setRow' B4 hB0 _⟩
      have O5 : Out w (W4.setRow g0 (viewArr (.slice A 3 c) 1)) (.slice A es58.length c) es58 := O4.same fun q hq => setRow_other _ _ _ _ (by rintro rfl; exact R4.far hq)
      obtain ⟨A', c', e, _, hE, _⟩ := O5.form
      simp only [Value.slice.injEq] at e
      obtain ⟨e1, _, _⟩ := e
      subst e1
      exact hE
end Go.Proofs.YtlleijickhifmaaGreatDoor
