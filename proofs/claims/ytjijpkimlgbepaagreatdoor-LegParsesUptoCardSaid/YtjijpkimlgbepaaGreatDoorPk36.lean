/- The functions that accept a leg's words. -/
import Derived.Test.YtjijpkimlgbepaaGreatDoorPk35
namespace Go.Proofs.YtjijpkimlgbepaaGreatDoor
open Go.RowKit Go.Sort
set_option linter.unusedVariables false
set_option linter.unusedSimpArgs false
set_option maxRecDepth 100000
theorem RetA.mk {lb : Nat} {W W' : World} {q : Leg × Bool} {l : Leg} {b : Bool} (h : q = (l, b)) (t : Touch [lb] W W') (hb : Blk W' lb l.arr) : RetA lb W q (.returned (.bool b)) W' := by subst h; exact ⟨rfl, t, hb⟩
theorem leg_set1 (l : Leg) (v : List UInt8) : l.arr.setIfInBounds 1 (.string ⟨v.toArray⟩) = ({ l with fix := v } : Leg).arr := rfl
theorem leg_set2 (l : Leg) (v : List UInt8) : l.arr.setIfInBounds 2 (.string ⟨v.toArray⟩) = ({ l with center := v } : Leg).arr := rfl
theorem leg_set0 (l : Leg) (v : Int) : l.arr.setIfInBounds 0 (.int .u8 v) = ({ l with ty := v } : Leg).arr := rfl
theorem leg_set3 (l : Leg) (v : Int) : l.arr.setIfInBounds 3 (.int .u8 v) = ({ l with turn := v } : Leg).arr := rfl
theorem leg_set4 (l : Leg) (v : Bool) : l.arr.setIfInBounds 4 (.bool v) = ({ l with over := v } : Leg).arr := rfl
theorem leg_set5 (l : Leg) (v : Int) : l.arr.setIfInBounds 5 (.int .i64 v) = ({ l with course := v } : Leg).arr := rfl
theorem leg_set6 (l : Leg) (v : Int) : l.arr.setIfInBounds 6 (.int .i64 v) = ({ l with dist := v } : Leg).arr := rfl
theorem leg_set7 (l : Leg) (v : Int) : l.arr.setIfInBounds 7 (.int .i64 v) = ({ l with radius := v } : Leg).arr := rfl
theorem leg_set8 (l : Leg) (v : Int) : l.arr.setIfInBounds 8 (.int .i64 v) = ({ l with theta := v } : Leg).arr := rfl
theorem leg_set11 (l : Leg) (v : Int) : l.arr.setIfInBounds 11 (.int .i64 v) = ({ l with speed := v } : Leg).arr := rfl
theorem leg_set12 (l : Leg) (v : Int) : l.arr.setIfInBounds 12 (.int .i64 v) = ({ l with rnp := v } : Leg).arr := rfl
theorem acc_fix (W : World) (lb : Nat) (s : List UInt8) (l : Leg) (w0 : World) (hB : Below w0.heap.size w0 W) (hL : Laid w0) (hlb : w0.heap.size ≤ lb) (hl : Blk W lb l.arr) (hs : s.length ≤ 4000000000) : Calls Tryz.prog 49 #[.string ⟨s.toArray⟩, .pointer (some ⟨lb, 0, none⟩)] W (RetA lb W (accFix s l)) := by
  have c1 := hl.cell 1
  have f1 := hl.frozen 1
  have L1 : Blk (W.setCell ⟨lb, 1, none⟩ (.string ⟨s.toArray⟩)) lb ({ l with fix := s } : Leg).arr := hl.setCell 1 _
  have LW := Lib.hid (hL.below (below_setCell hB hlb 1 (.string ⟨s.toArray⟩)))
  go_enter Tryz.func49, Tryz.ntmps49
  go_wp2_with fail
  with_reducible refine callR (ref_any s _ LW.out hs) ?_
  intro w1 b1 _ _ _
  go_wp2
  go_ret
  exact RetA.mk rfl ((Touch.setCell [lb] W (by simp) 1 _).trans (Touch.of b1)) (L1.step b1)
theorem acc_center (W : World) (lb : Nat) (s : List UInt8) (l : Leg) (w0 : World) (hB : Below w0.heap.size w0 W) (hL : Laid w0) (hlb : w0.heap.size ≤ lb) (hl : Blk W lb l.arr) (hs : s.length ≤ 4000000000) : Calls Tryz.prog 51 #[.string ⟨s.toArray⟩, .pointer (some ⟨lb, 0, none⟩)] W (RetA lb W (accCenter s l)) := by
  have c1 := hl.cell 2
  have f1 := hl.frozen 2
  have k1 := Lib.hid (trimPrefix_any 64 s W)
  have HA := Lib.hid (show accCenter s l = ({ l with center := (cutPre 64 s).1 }, (cutPre 64 s).2 && refB (cutPre 64 s).1) from rfl)
  have HC := Lib.hid (show ((cutPre 64 s).1 == s) = !(cutPre 64 s).2 by
    cases s with
    | nil => rfl
    | cons x r =>
      unfold cutPre
      dsimp only
      split
      · simp
      · simp)
  have hq := cutPre_len 64 s
  generalize accCenter s l = out at HA ⊢
  generalize cutPre 64 s = q at k1 HA HC hq
  obtain ⟨c, yes⟩ := q
  simp only at HA HC hq
  have L1 : Blk (W.setCell ⟨lb, 2, none⟩ (.string ⟨c.toArray⟩)) lb ({ l with center := c } : Leg).arr := hl.setCell 2 _
  have c2 := L1.cell 2
  have LW := Lib.hid (hL.below (below_setCell hB hlb 2 (.string ⟨c.toArray⟩)))
  have k2 := Lib.hid (ref_any c _ LW.out (by omega))
  cases yes
  · have hc : (c == s) = true := HC.out
    go_enter Tryz.func51, Tryz.ntmps51
    go_wp2_with (go_at_call 52; refine callP k1.out ?_)
    go_ret
    exact RetA.mk HA.out (Touch.setCell [lb] W (by simp) 2 _) L1
  · have hc : (c == s) = false := HC.out
    go_enter Tryz.func51, Tryz.ntmps51
    go_wp2_with (go_at_call 52; refine callP k1.out ?_)
    with_reducible refine callR k2.out ?_
    intro w1 b1 _ _ _
    go_wp2
    go_ret
    exact RetA.mk (by rw [HA.out]; rfl) ((Touch.setCell [lb] W (by simp) 2 _).trans (Touch.of b1)) (L1.step b1)
theorem acc_turn (W : World) (lb : Nat) (s : List UInt8) (l : Leg) (w0 : World) (hB : Below w0.heap.size w0 W) (hL : Laid w0) (hlb : w0.heap.size ≤ lb) (hl : Blk W lb l.arr) (hs : s.length ≤ 4000000000) : Calls Tryz.prog 53 #[.string ⟨s.toArray⟩, .pointer (some ⟨lb, 0, none⟩)] W (RetA lb W (accTurn s l)) := by
  have c1 := hl.cell 3
  have f1 := hl.frozen 3
  have L1 : Blk (W.setCell ⟨lb, 3, none⟩ (.int .u8 1)) lb ({ l with turn := 1 } : Leg).arr := hl.setCell 3 _
  have L2 : Blk (W.setCell ⟨lb, 3, none⟩ (.int .u8 2)) lb ({ l with turn := 2 } : Leg).arr := hl.setCell 3 _
  by_cases h1 : s = [76]
  · subst h1
    go_enter Tryz.func53, Tryz.ntmps53
    go_wp2
    go_ret
    exact RetA.mk rfl (Touch.setCell [lb] W (by simp) 3 _) L1
  · have h2 : (s == [76]) = false := by simpa using h1
    have HA := Lib.hid (show accTurn s l = ({ l with turn := 2 }, s == [82]) by unfold accTurn; simp [h1])
    generalize accTurn s l = out at HA ⊢
    clear h1
    go_enter Tryz.func53, Tryz.ntmps53
    go_wp2
    go_ret
    exact RetA.mk (by rw [HA.out]) (Touch.setCell [lb] W (by simp) 3 _) L2
theorem acc_course (W : World) (lb : Nat) (s : List UInt8) (l : Leg) (w0 : World) (hB : Below w0.heap.size w0 W) (hL : Laid w0) (hlb : w0.heap.size ≤ lb) (hl : Blk W lb l.arr) (hs : s.length ≤ 4000000000) : Calls Tryz.prog 54 #[.string ⟨s.toArray⟩, .pointer (some ⟨lb, 0, none⟩)] W (RetA lb W (accCourse s l)) := by
  have c1 := hl.cell 5
  have f1 := hl.frozen 5
  have k1 := Lib.hid (course_any s W (by omega))
  have HA := Lib.hid (show accCourse s l = ({ l with course := (courseS s).1 }, (courseS s).2) from rfl)
  generalize accCourse s l = out at HA ⊢
  generalize courseS s = q at k1 HA
  obtain ⟨n, b⟩ := q
  have L1 : Blk (W.setCell ⟨lb, 5, none⟩ (.int .i64 n)) lb ({ l with course := n } : Leg).arr := hl.setCell 5 _
  go_enter Tryz.func54, Tryz.ntmps54
  go_wp2_with (go_at_call 55; refine callP k1.out ?_)
  go_ret
  exact RetA.mk HA.out (Touch.setCell [lb] W (by simp) 5 _) L1
theorem acc_dist (W : World) (lb : Nat) (s : List UInt8) (l : Leg) (w0 : World) (hB : Below w0.heap.size w0 W) (hL : Laid w0) (hlb : w0.heap.size ≤ lb) (hl : Blk W lb l.arr) (hs : s.length ≤ 4000000000) : Calls Tryz.prog 56 #[.string ⟨s.toArray⟩, .pointer (some ⟨lb, 0, none⟩)] W (RetA lb W (accDist s l)) := by
  have k1 := Lib.hid (legdist_any 100 s W (hL.below hB) hs)
  have HA := Lib.hid (show accDist s l = ({ l with dist := (legDistS 100 s).1 }, (legDistS 100 s).2) from rfl)
  generalize accDist s l = out at HA ⊢
  generalize legDistS 100 s = q at k1 HA
  obtain ⟨n, b⟩ := q
  go_enter Tryz.func56, Tryz.ntmps56
  go_wp2_with fail
  refine callR k1.out ?_
  intro w1 b1 _ _ _
  have h1 := hl.step b1
  have c1 := h1.cell 6
  have f1 := h1.frozen 6
  have L1 : Blk (w1.setCell ⟨lb, 6, none⟩ (.int .i64 n)) lb ({ l with dist := n } : Leg).arr := h1.setCell 6 _
  go_wp2
  go_ret
  exact RetA.mk HA.out ((Touch.of b1).trans (Touch.setCell [lb] w1 (by simp) 6 _)) L1
theorem acc_radius (W : World) (lb : Nat) (s : List UInt8) (l : Leg) (w0 : World) (hB : Below w0.heap.size w0 W) (hL : Laid w0) (hlb : w0.heap.size ≤ lb) (hl : Blk W lb l.arr) (hs : s.length ≤ 4000000000) : Calls Tryz.prog 58 #[.string ⟨s.toArray⟩, .pointer (some ⟨lb, 0, none⟩)] W (RetA lb W (accRadius s l)) := by
  have k1 := Lib.hid (legdist_any 114 s W (hL.below hB) hs)
  have HA := Lib.hid (show accRadius s l = ({ l with radius := (legDistS 114 s).1 }, (legDistS 114 s).2) from rfl)
  generalize accRadius s l = out at HA ⊢
  generalize legDistS 114 s = q at k1 HA
  obtain ⟨n, b⟩ := q
  go_enter Tryz.func58, Tryz.ntmps58
  go_wp2_with fail
  refine callR k1.out ?_
  intro w1 b1 _ _ _
  have h1 := hl.step b1
  have c1 := h1.cell 7
  have f1 := h1.frozen 7
  have L1 : Blk (w1.setCell ⟨lb, 7, none⟩ (.int .i64 n)) lb ({ l with radius := n } : Leg).arr := h1.setCell 7 _
  go_wp2
  go_ret
  exact RetA.mk HA.out ((Touch.of b1).trans (Touch.setCell [lb] w1 (by simp) 7 _)) L1
theorem acc_theta (W : World) (lb : Nat) (s : List UInt8) (l : Leg) (w0 : World) (hB : Below w0.heap.size w0 W) (hL : Laid w0) (hlb : w0.heap.size ≤ lb) (hl : Blk W lb l.arr) (hs : s.length ≤ 4000000000) : Calls Tryz.prog 59 #[.string ⟨s.toArray⟩, .pointer (some ⟨lb, 0, none⟩)] W (RetA lb W (accTheta s l)) := by
  cases s with
  | nil =>
    go_enter Tryz.func59, Tryz.ntmps59
    go_wp2
    go_ret
    exact RetA.mk rfl (Touch.refl _ _) hl
  | cons x r =>
    by_cases hx : x = 116
    · subst hx
      have c1 := hl.cell 8
      have f1 := hl.frozen 8
      have k1 := Lib.hid (course_any r W (by simp at hs; omega))
      have HA := Lib.hid (show accTheta (116 :: r) l = ({ l with theta := (courseS r).1 }, (courseS r).2) from rfl)
      generalize accTheta (116 :: r) l = out at HA ⊢
      generalize courseS r = q at k1 HA
      obtain ⟨n, b⟩ := q
      have L1 : Blk (W.setCell ⟨lb, 8, none⟩ (.int .i64 n)) lb ({ l with theta := n } : Leg).arr := hl.setCell 8 _
      go_enter Tryz.func59, Tryz.ntmps59
      go_wp2_with (go_at_call 55; refine callP k1.out ?_)
      go_ret
      exact RetA.mk HA.out (Touch.setCell [lb] W (by simp) 8 _) L1
    · have h1 : ((x.toNat : Int) != 116) = true := by simp only [bne]; exact congrArg Bool.not (u8_ne (d := 116) hx)
      have HA := Lib.hid (show accTheta (x :: r) l = (l, false) by unfold accTheta; dsimp only; rw [if_neg hx])
      go_enter Tryz.func59, Tryz.ntmps59
      go_wp2
      go_ret
      exact RetA.mk HA.out (Touch.refl _ _) hl
end Go.Proofs.YtjijpkimlgbepaaGreatDoor
