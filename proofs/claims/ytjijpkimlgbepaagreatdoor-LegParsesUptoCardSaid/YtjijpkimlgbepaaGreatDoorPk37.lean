/- The functions that accept a leg's options, and its name. -/
import Derived.Test.YtjijpkimlgbepaaGreatDoorPk36
namespace Go.Proofs.YtjijpkimlgbepaaGreatDoor
open Go.RowKit Go.Sort
set_option linter.unusedVariables false
set_option linter.unusedSimpArgs false
set_option maxRecDepth 100000
theorem acc_over (W : World) (lb pb : Nat) (s : List UInt8) (l : Leg) (w0 : World) (hB : Below w0.heap.size w0 W) (hL : Laid w0) (hlb : w0.heap.size ≤ lb) (hl : Blk W lb l.arr) (hp : W.cell? ⟨pb, 0, none⟩ = some (.pointer (some ⟨lb, 0, none⟩))) (hne : pb ≠ lb) (hs : s.length ≤ 4000000000) : Calls Tryz.prog 84 #[.string ⟨s.toArray⟩, .pointer (some ⟨pb, 0, none⟩)] W (RetA lb W (accOver s l)) := by
  have c1 := hl.cell 4
  have f1 := hl.frozen 4
  have L1 : Blk (W.setCell ⟨lb, 4, none⟩ (.bool (s == [111, 118, 101, 114]))) lb ({ l with over := s == [111, 118, 101, 114] } : Leg).arr := hl.setCell 4 _
  have HA := Lib.hid (show accOver s l = ({ l with over := s == [111, 118, 101, 114] }, s == [111, 118, 101, 114]) from rfl)
  generalize accOver s l = out at HA ⊢
  have c2 := L1.cell 4
  have hp2 : (W.setCell ⟨lb, 4, none⟩ (.bool (s == [111, 118, 101, 114]))).cell? ⟨pb, 0, none⟩ = some (.pointer (some ⟨lb, 0, none⟩)) := by
    rw [World.cell?_of_block (w := W) (Below.heap_setCell W ⟨lb, 4, none⟩ _ pb hne)]; exact hp
  cases h : (s == [111, 118, 101, 114])
  all_goals
    rw [h] at HA L1 c2 hp2
    go_enter Tryz.func84, Tryz.ntmps84
    go_wp2
    go_ret
    exact RetA.mk HA.out (Touch.setCell [lb] W (by simp) 4 _) L1
attribute [local go_sem] wmk
set_option maxHeartbeats 4000000 in
theorem acc_win (W : World) (lb pb : Nat) (s : List UInt8) (l : Leg) (w0 : World) (hB : Below w0.heap.size w0 W) (hL : Laid w0) (hlb : w0.heap.size ≤ lb) (hl : Blk W lb l.arr) (hp : W.cell? ⟨pb, 0, none⟩ = some (.pointer (some ⟨lb, 0, none⟩))) (hne : pb ≠ lb) (hs : s.length ≤ 4000000000) : Calls Tryz.prog 85 #[.string ⟨s.toArray⟩, .pointer (some ⟨pb, 0, none⟩)] W (RetA lb W (accWin s l)) := by
  have k1 := Lib.hid (parseWindow_any s W (hL.below hB) hs)
  have HA := Lib.hid (show accWin s l = if ((parseWinS s).2 == 0 && !((parseWinS s).1.1 == -200000 && (parseWinS s).1.2 == 6000000)) = true then ({ l with lo := (parseWinS s).1.1, hi := (parseWinS s).1.2 }, true) else (l, false) from rfl)
  generalize accWin s l = out at HA ⊢
  generalize parseWinS s = q at k1 HA
  obtain ⟨⟨lo, hi⟩, e⟩ := q
  simp only at HA
  go_enter Tryz.func85, Tryz.ntmps85
  go_wp2_with fail
  refine callR k1.out ?_
  intro w1 b1 _ _ _
  go_upto_region 2 with (fail)
  have X := Blk.new w1 #[.int .i64 lo, .int .i64 hi] 24
  have B2 := below_step b1 (alloc_below w1 (.cells #[.int .i64 lo, .int .i64 hi] 24))
  have hgl : W.heap.size ≤ w1.heap.size := b1.size
  generalize w1.alloc _ = W2 at X B2 ⊢
  generalize w1.heap.size = g at X hgl ⊢
  have h2 := hl.step B2
  have p2 : W2.cell? ⟨pb, 0, none⟩ = some (.pointer (some ⟨lb, 0, none⟩)) := (B2.cell (p := ⟨pb, 0, none⟩) (block_lt_of_cell hp)).trans hp
  have c4 : Has_win W2 g 0 := ⟨⟨lo, hi⟩, X.is_win⟩
  have c5 : of_win W2 g 0 = ⟨lo, hi⟩ := of_win_eq X.is_win
  have c1 := X.cell
  have d2 := h2.plain
  have d3 := h2.of
  have f3 : splice l.arr 9 #[.int .i64 lo, .int .i64 hi] = ({ l with lo := lo, hi := hi } : Leg).arr := rfl
  have HT := Lib.hid (show Touch [lb] W2 (W2.setRow lb ({ l with lo := lo, hi := hi } : Leg).arr) from ⟨rfl, rfl, rfl, by simp [World.setRow], fun k hk hn => setRow_other W2 lb k _ (by simpa using hn)⟩)
  clear hp
  by_cases he : e = 0
  · subst he
    by_cases h3 : lo = -200000
    · subst h3
      by_cases h4 : hi = 6000000
      · subst h4
        go_wp2
        go_ret
        exact RetA.mk HA.out (Touch.of B2) h2
      · have h4' : (hi == 6000000) = false := by simpa using h4
        have HO : Hid (out = ({ l with lo := -200000, hi := hi }, true)) := Lib.hid (by rw [HA.out, if_pos (by simp [h4])])
        clear h4
        go_wp2
        go_ret
        exact RetA.mk HO.out ((Touch.of B2).trans HT.out) (h2.set _)
    · have h3' : (lo == -200000) = false := by simpa using h3
      have HO : Hid (out = ({ l with lo := lo, hi := hi }, true)) := Lib.hid (by rw [HA.out, if_pos (by simp [h3])])
      clear h3
      go_wp2
      go_ret
      exact RetA.mk HO.out ((Touch.of B2).trans HT.out) (h2.set _)
  · have he' : (e == 0) = false := by simpa using he
    have he2 : (e != 0) = true := by simpa using he
    have HO : Hid (out = (l, false)) := Lib.hid (by rw [HA.out, if_neg (by simp [he])])
    clear he
    go_wp2
    go_ret
    exact RetA.mk HO.out (Touch.of B2) h2
theorem acc_speed (W : World) (lb pb : Nat) (s : List UInt8) (l : Leg) (w0 : World) (hB : Below w0.heap.size w0 W) (hL : Laid w0) (hlb : w0.heap.size ≤ lb) (hl : Blk W lb l.arr) (hp : W.cell? ⟨pb, 0, none⟩ = some (.pointer (some ⟨lb, 0, none⟩))) (hne : pb ≠ lb) (hs : s.length ≤ 4000000000) : Calls Tryz.prog 87 #[.string ⟨s.toArray⟩, .pointer (some ⟨pb, 0, none⟩)] W (RetA lb W (accSpeed s l)) := by
  have k1 := Lib.hid (speed_any s W hs)
  have HA := Lib.hid (show accSpeed s l = if (speedS s).2 = true then ({ l with speed := (speedS s).1 }, true) else (l, false) from rfl)
  generalize accSpeed s l = out at HA ⊢
  generalize speedS s = q at k1 HA
  obtain ⟨n, b⟩ := q
  simp only at HA
  go_enter Tryz.func87, Tryz.ntmps87
  go_wp2_with fail
  refine callR k1.out ?_
  intro w1 b1 _ _ _
  have h1 := hl.step b1
  have p2 : w1.cell? ⟨pb, 0, none⟩ = some (.pointer (some ⟨lb, 0, none⟩)) := (b1.cell (p := ⟨pb, 0, none⟩) (block_lt_of_cell hp)).trans hp
  have c1 := h1.cell 11
  have f1 := h1.frozen 11
  have L1 : Blk (w1.setCell ⟨lb, 11, none⟩ (.int .i64 n)) lb ({ l with speed := n } : Leg).arr := h1.setCell 11 _
  clear hp
  cases b
  · go_wp2
    go_ret
    exact RetA.mk HA.out (Touch.of b1) h1
  · go_wp2
    go_ret
    exact RetA.mk HA.out ((Touch.of b1).trans (Touch.setCell [lb] w1 (by simp) 11 _)) L1
theorem acc_rnp (W : World) (lb pb : Nat) (s : List UInt8) (l : Leg) (w0 : World) (hB : Below w0.heap.size w0 W) (hL : Laid w0) (hlb : w0.heap.size ≤ lb) (hl : Blk W lb l.arr) (hp : W.cell? ⟨pb, 0, none⟩ = some (.pointer (some ⟨lb, 0, none⟩))) (hne : pb ≠ lb) (hs : s.length ≤ 4000000000) : Calls Tryz.prog 89 #[.string ⟨s.toArray⟩, .pointer (some ⟨pb, 0, none⟩)] W (RetA lb W (accRnp s l)) := by
  have k1 := Lib.hid (legdist_any 110 s W (hL.below hB) hs)
  have HA := Lib.hid (show accRnp s l = if (legDistS 110 s).2 = true then ({ l with rnp := (legDistS 110 s).1 }, true) else (l, false) from rfl)
  generalize accRnp s l = out at HA ⊢
  generalize legDistS 110 s = q at k1 HA
  obtain ⟨n, b⟩ := q
  simp only at HA
  go_enter Tryz.func89, Tryz.ntmps89
  go_wp2_with fail
  refine callR k1.out ?_
  intro w1 b1 _ _ _
  have h1 := hl.step b1
  have p2 : w1.cell? ⟨pb, 0, none⟩ = some (.pointer (some ⟨lb, 0, none⟩)) := (b1.cell (p := ⟨pb, 0, none⟩) (block_lt_of_cell hp)).trans hp
  have c1 := h1.cell 12
  have f1 := h1.frozen 12
  have L1 : Blk (w1.setCell ⟨lb, 12, none⟩ (.int .i64 n)) lb ({ l with rnp := n } : Leg).arr := h1.setCell 12 _
  clear hp
  cases b
  · go_wp2
    go_ret
    exact RetA.mk HA.out (Touch.of b1) h1
  · go_wp2
    go_ret
    exact RetA.mk HA.out ((Touch.of b1).trans (Touch.setCell [lb] w1 (by simp) 12 _)) L1
end Go.Proofs.YtjijpkimlgbepaaGreatDoor
