/- Windows read: record.window, record.ParseWindow. leg's reader: peek, drop, need, may. leg's reader: need, may. The functions that accept a leg's words. The functions that accept a leg's options, and its name. leg.Parse: the type with a name. leg.Parse. leg.Parse: the walk. What leg.Parse accepts is the text of the leg that it returns, in plain Lean. -/
import Derived.Test.YtjgondadpjildaaGreatDoorPk29
import Derived.Test.YtjgondadpjildaaGreatDoorPk31
import Derived.RegionTactic
import Derived.Shelf.Abstract
import Derived.Test.YtjgondadpjildaaGreatDoorPk07
import Derived.Test.YtjgondadpjildaaGreatDoorPk21
namespace Go.Proofs.YtjgondadpjildaaGreatDoor
open Go.RowKit Go.Sort
set_option linter.unusedVariables false
set_option linter.unusedSimpArgs false
set_option maxRecDepth 100000
theorem results_win {fn : Func} {p t : Tmp} (h : fn.results = #[.cell p 34, .tmp t]) (tmps : Array Value) (w : World) (g : Nat) (x : Win) (hp : tmps.getD p undef = .pointer (some ⟨g, 0, none⟩)) (hx : Is_win w g 0 x) :
    (results fn tmps).run Tryz.prog w = .ok (.tuple #[.agg x.arr, tmps.getD t undef]) w := by
  have hp' : tmps[p]?.getD undef = .pointer (some ⟨g, 0, none⟩) := by simpa using hp
  have hl := run_load_agg (P := Tryz.prog) w ⟨g, 0, none⟩ 34 x.arr.toList _ (fun j v hv => by
    rw [addr_add, hx j (by have := (List.getElem?_eq_some_iff.1 hv).1; simpa [Win.arr_size] using this)]
    simpa using hv) Tryz.underlying34 rfl info_win
  simp [results, h, hp', asAddr, hl]
abbrev winBVal (x : (Int × Int) × Bool) : Value := .tuple #[.agg (Win.arr ⟨x.1.1, x.1.2⟩), .bool x.2]
abbrev winEVal (x : (Int × Int) × Int) : Value := .tuple #[.agg (Win.arr ⟨x.1.1, x.1.2⟩), .int .i64 x.2]
theorem Ret.winB {w w' : World} {x : (Int × Int) × Bool} {a b : Int} {c : Bool} (h : x = ((a, b), c)) (hw : Below w.heap.size w w') : Ret w (winBVal x) (.returned (.tuple #[.agg (Win.arr ⟨a, b⟩), .bool c])) w' := by subst h; exact ⟨rfl, hw⟩
theorem Ret.winE {w w' : World} {x : (Int × Int) × Int} {a b c : Int} (h : x = ((a, b), c)) (hw : Below w.heap.size w w') : Ret w (winEVal x) (.returned (.tuple #[.agg (Win.arr ⟨a, b⟩), .int .i64 c])) w' := by subst h; exact ⟨rfl, hw⟩
theorem wmk (a b : Int) : Win.arr ⟨a, b⟩ = #[.int .i64 a, .int .i64 b] := rfl
theorem winP_1 : winP [45] = ((-200000, 6000000), true) := rfl
theorem winP_2 {s : List UInt8} (h : s ≠ [45]) (h2 : (cutAt 58 s).2.2 = true) : winP s = (((altP (cutAt 58 s).1).1, (altP (cutAt 58 s).2.1).1), (altP (cutAt 58 s).1).2 && (altP (cutAt 58 s).2.1).2) := by unfold winP; rw [if_neg h, if_pos h2]
theorem winP_3 {s : List UInt8} (h : s ≠ [45]) (h2 : (cutAt 58 s).2.2 = false) (h3 : (cutSuf 43 s).2 = true) : winP s = (((altP (cutSuf 43 s).1).1, 6000000), (altP (cutSuf 43 s).1).2) := by unfold winP; rw [if_neg h, if_neg (by simp [h2]), if_pos h3]
theorem winP_4 {s : List UInt8} (h : s ≠ [45]) (h2 : (cutAt 58 s).2.2 = false) (h3 : (cutSuf 43 s).2 = false) (h4 : (cutSuf 45 s).2 = true) : winP s = ((-200000, (altP (cutSuf 45 s).1).1), (altP (cutSuf 45 s).1).2) := by unfold winP; rw [if_neg h, if_neg (by simp [h2]), if_neg (by simp [h3]), if_pos h4]
theorem winP_5 {s : List UInt8} (h : s ≠ [45]) (h2 : (cutAt 58 s).2.2 = false) (h3 : (cutSuf 43 s).2 = false) (h4 : (cutSuf 45 s).2 = false) : winP s = (((altP s).1, (altP s).1), (altP s).2) := by unfold winP; rw [if_neg h, if_neg (by simp [h2]), if_neg (by simp [h3]), if_neg (by simp [h4])]
theorem cutSuf_len (c : UInt8) (s : List UInt8) : (cutSuf c s).1.length ≤ s.length := by unfold cutSuf; split <;> simp
attribute [local go_sem] wmk
theorem spl_win (a b c d : Int) : splice #[.int .i64 a, .int .i64 b] 0 #[.int .i64 c, .int .i64 d] = #[.int .i64 c, .int .i64 d] := rfl
attribute [local go_sem] spl_win
set_option maxHeartbeats 8000000 in
theorem window_any (l : List UInt8) (w : World) (hL : Laid w) (hl : l.length ≤ 4000000000) : Calls Tryz.prog 228 #[.string ⟨l.toArray⟩] w (Ret w (winBVal (winP l))) := by
  by_cases h45 : l = [45]
  · subst h45
    rw [winP_1]
    go_enter Tryz.func228, Tryz.ntmps228
    go_upto_region 1 with (fail)
    have R0 := Blk.new w #[.int .i64 0, .int .i64 0] 34
    have B0 := alloc_below w (.cells #[.int .i64 0, .int .i64 0] 34)
    generalize w.alloc _ = W0 at R0 B0 ⊢
    obtain ⟨g, hg0⟩ : ∃ g, g = w.heap.size := ⟨_, rfl⟩
    rw [← hg0] at R0 ⊢
    have hg := Nat.le_of_eq hg0.symm
    clear hg0
    go_upto_region 2 with (fail)
    have X := Blk.new W0 #[.int .i64 (-200000), .int .i64 6000000] 34
    have R := R0.alloc (.cells #[.int .i64 (-200000), .int .i64 6000000] 34)
    have B := below_step B0 (alloc_below W0 (.cells #[.int .i64 (-200000), .int .i64 6000000] 34))
    have hne : g < W0.heap.size := R0.lt
    clear R0 B0
    generalize W0.alloc _ = W at X R B ⊢
    generalize W0.heap.size = g2 at X hne ⊢
    have LW := hL.below B
    have c4 : Has_win W g2 0 := ⟨⟨-200000, 6000000⟩, X.is_win⟩
    have c5 : of_win W g2 0 = ⟨-200000, 6000000⟩ := of_win_eq X.is_win
    have d2 := R.plain
    have d3 := R.of
    go_wp2
    refine bodyPost_ret (results_win Tryz.results228 _ _ g ⟨-200000, 6000000⟩ rfl (Blk.is_win (x := ⟨-200000, 6000000⟩) (R.set _))) rfl ?_; exact Ret.winB rfl (below_setRow' B hg _)
  · have q45 : (l == [45]) = false := by simpa using h45
    have HP2 := Lib.hid (winP_2 h45)
    have HP3 := Lib.hid (winP_3 h45)
    have HP4 := Lib.hid (winP_4 h45)
    have HP5 := Lib.hid (winP_5 h45)
    have k1 := Lib.hid (fun w L => cut_ret l 58 w L hl)
    have k2 := Lib.hid (fun w => cutSuffix_any 43 l w (by omega))
    have k3 := Lib.hid (fun w => cutSuffix_any 45 l w (by omega))
    have hl1 := cutAt_len 58 l
    have hl2 := cutSuf_len 43 l
    have hl3 := cutSuf_len 45 l
    clear h45
    generalize winP l = out at HP2 HP3 HP4 HP5 ⊢
    generalize cutAt 58 l = q at k1 hl1 HP2 HP3 HP4 HP5
    generalize cutSuf 43 l = q2 at k2 hl2 HP3 HP4 HP5
    generalize cutSuf 45 l = q3 at k3 hl3 HP4 HP5
    obtain ⟨a, b, two⟩ := q
    obtain ⟨a2, up⟩ := q2
    obtain ⟨a3, down⟩ := q3
    simp only at hl1 hl2 hl3 HP2 HP3 HP4 HP5
    obtain ⟨l1, l2⟩ := hl1
    go_enter Tryz.func228, Tryz.ntmps228
    go_upto_region 1 with (fail)
    have R0 := Blk.new w #[.int .i64 0, .int .i64 0] 34
    have B0 := alloc_below w (.cells #[.int .i64 0, .int .i64 0] 34)
    generalize w.alloc _ = W0 at R0 B0 ⊢
    obtain ⟨g, hg0⟩ : ∃ g, g = w.heap.size := ⟨_, rfl⟩
    rw [← hg0] at R0 ⊢
    have hg := Nat.le_of_eq hg0.symm
    clear hg0
    go_upto_region 2 with (fail)
    have X := Blk.new W0 #[.int .i64 (-200000), .int .i64 6000000] 34
    have R := R0.alloc (.cells #[.int .i64 (-200000), .int .i64 6000000] 34)
    have B := below_step B0 (alloc_below W0 (.cells #[.int .i64 (-200000), .int .i64 6000000] 34))
    have hne : g < W0.heap.size := R0.lt
    clear R0 B0
    generalize W0.alloc _ = W at X R B ⊢
    generalize W0.heap.size = g2 at X hne ⊢
    have LW := hL.below B
    go_wp2_with fail
    with_reducible refine callR (k1.out _ LW) ?_
    intro w1 b1 _ _ _
    have X1 := X.step b1
    have R1 := R.step b1
    have B1 := below_step B b1
    have L1 := LW.below b1
    clear X R B LW
    cases two
    · go_wp2_with fail
      with_reducible refine callP (k2.out _) ?_
      cases up
      · go_wp2_with fail
        with_reducible refine callP (k3.out _) ?_
        cases down
        · have ht0 : True := trivial
          have k4 := Lib.hid (fun w L => altitude_any l w L (by omega))
          generalize altP l = z at k4 HP5
          obtain ⟨n, ok⟩ := z
          have HO : Hid (out = ((n, n), ok)) := Lib.hid (by simpa using HP5.out)
          clear HP2 HP3 HP4 HP5
          go_wp2_with fail
          with_reducible refine callR (k4.out _ L1) ?_
          intro w2 b2 _ _ _
          have X2 := X1.step b2
          have R2 := R1.step b2
          have B2 := below_step B1 b2
          have d2 := R2.plain
          have d3 := R2.of
          go_wp2
          refine bodyPost_ret (results_win Tryz.results228 _ _ g ⟨n, n⟩ rfl (Blk.is_win (x := ⟨n, n⟩) (R2.set _))) rfl ?_; exact Ret.winB HO.out (below_setRow' B2 hg _)
        · have ht0 : True := trivial
          have k4 := Lib.hid (fun w L => altitude_any a3 w L (by omega))
          generalize altP a3 = z at k4 HP4
          obtain ⟨n, ok⟩ := z
          have HO : Hid (out = ((-200000, n), ok)) := Lib.hid (by simpa using HP4.out)
          clear HP2 HP3 HP4 HP5
          go_wp2_with fail
          with_reducible refine callR (k4.out _ L1) ?_
          intro w2 b2 _ _ _
          have X2 := X1.step b2
          have x1 := X2.cell 1
          have x2 := X2.frozen 1
          have X3 : Blk (w2.setCell ⟨g2, 1, none⟩ (.int .i64 n)) g2 #[.int .i64 (-200000), .int .i64 n] := X2.setCell 1 (.int .i64 n)
          have R3 := (R1.step b2).setFar (Nat.ne_of_lt hne) 1 (.int .i64 n)
          have B3 := below_setCell (below_step B1 b2) (show w.heap.size ≤ g2 by omega) 1 (.int .i64 n)
          have c4 : Has_win (w2.setCell ⟨g2, 1, none⟩ (.int .i64 n)) g2 0 := ⟨⟨-200000, n⟩, X3.is_win⟩
          have c5 : of_win (w2.setCell ⟨g2, 1, none⟩ (.int .i64 n)) g2 0 = ⟨-200000, n⟩ := of_win_eq X3.is_win
          have d2 := R3.plain
          have d3 := R3.of
          go_wp2
          refine bodyPost_ret (results_win Tryz.results228 _ _ g ⟨-200000, n⟩ rfl (Blk.is_win (x := ⟨-200000, n⟩) (R3.set _))) rfl ?_; exact Ret.winB HO.out (below_setRow' B3 hg _)
      · have ht0 : True := trivial
        have k4 := Lib.hid (fun w L => altitude_any a2 w L (by omega))
        generalize altP a2 = z at k4 HP3
        obtain ⟨n, ok⟩ := z
        have HO : Hid (out = ((n, 6000000), ok)) := Lib.hid (by simpa using HP3.out)
        clear HP2 HP3 HP4 HP5
        go_wp2_with fail
        with_reducible refine callR (k4.out _ L1) ?_
        intro w2 b2 _ _ _
        have X2 := X1.step b2
        have x1 := X2.cell 0
        have x2 := X2.frozen 0
        have X3 : Blk (w2.setCell ⟨g2, 0, none⟩ (.int .i64 n)) g2 #[.int .i64 n, .int .i64 6000000] := X2.setCell 0 (.int .i64 n)
        have R3 := (R1.step b2).setFar (Nat.ne_of_lt hne) 0 (.int .i64 n)
        have B3 := below_setCell (below_step B1 b2) (show w.heap.size ≤ g2 by omega) 0 (.int .i64 n)
        have c4 : Has_win (w2.setCell ⟨g2, 0, none⟩ (.int .i64 n)) g2 0 := ⟨⟨n, 6000000⟩, X3.is_win⟩
        have c5 : of_win (w2.setCell ⟨g2, 0, none⟩ (.int .i64 n)) g2 0 = ⟨n, 6000000⟩ := of_win_eq X3.is_win
        have d2 := R3.plain
        have d3 := R3.of
        go_wp2
        refine bodyPost_ret (results_win Tryz.results228 _ _ g ⟨n, 6000000⟩ rfl (Blk.is_win (x := ⟨n, 6000000⟩) (R3.set _))) rfl ?_; exact Ret.winB HO.out (below_setRow' B3 hg _)
    · have ht0 : True := trivial
      have k4 := Lib.hid (fun w L => altitude_any a w L (by omega))
      have k5 := Lib.hid (fun w L => altitude_any b w L (by omega))
      generalize altP a = z at k4 HP2
      obtain ⟨n, ok⟩ := z
      generalize altP b = z2 at k5 HP2
      obtain ⟨n2, ok2⟩ := z2
      have HO : Hid (out = ((n, n2), ok && ok2)) := Lib.hid (by simpa using HP2.out)
      clear HP2 HP3 HP4 HP5
      go_wp2_with fail
      with_reducible refine callR (k4.out _ L1) ?_
      intro w2 b2 _ _ _
      have L2 := L1.below b2
      go_wp2_with fail
      with_reducible refine callR (k5.out _ L2) ?_
      intro w3 b3 _ _ _
      have R3 := (R1.step b2).step b3
      have B3 := below_step (below_step B1 b2) b3
      have d2 := R3.plain
      have d3 := R3.of
      cases ok
      all_goals
        go_wp2
        refine bodyPost_ret (results_win Tryz.results228 _ _ g ⟨n, n2⟩ rfl (Blk.is_win (x := ⟨n, n2⟩) (R3.set _))) rfl ?_
        exact Ret.winB (by simpa using HO.out) (below_setRow' B3 hg _)
theorem ranged_any (a : Int) (w : World) : Calls Tryz.prog 229 #[.int .i64 a] w (RetP w (.bool (rangedB a))) := by
  go_enter Tryz.func229, Tryz.ntmps229
  go_wp2
  all_goals
    go_ret
    exact RetP.bool (by unfold rangedB; grind) rfl
def parseWinO (s : List UInt8) (q : (Int × Int) × Bool) : (Int × Int) × Int :=
  if q.2 = true then
    if rangedB q.1.1 = true ∧ rangedB q.1.2 = true then
      if q.1.2 < q.1.1 then ((0, 0), 9) else if winS q.1.1 q.1.2 = s then (q.1, 0) else ((0, 0), 4)
    else ((0, 0), 2)
  else ((0, 0), 4)
theorem parseWinO_eq (s : List UInt8) : parseWinS s = parseWinO s (winP s) := rfl
set_option maxHeartbeats 8000000 in
theorem parseWindow_any (l : List UInt8) (w : World) (hL : Laid w) (hl : l.length ≤ 4000000000) : Calls Tryz.prog 187 #[.string ⟨l.toArray⟩] w (Ret w (winEVal (parseWinS l))) := by
  have HE := Lib.hid (parseWinO_eq l)
  have k1 := Lib.hid (fun w L => window_any l w L hl)
  generalize parseWinS l = out at HE ⊢
  generalize winP l = q at HE k1
  obtain ⟨⟨lo, hi⟩, ok⟩ := q
  go_enter Tryz.func187, Tryz.ntmps187
  go_upto_region 1 with (fail)
  have R := Blk.new w #[.int .i64 0, .int .i64 0] 34
  have B := alloc_below w (.cells #[.int .i64 0, .int .i64 0] 34)
  generalize w.alloc _ = W0 at R B ⊢
  obtain ⟨g, hg0⟩ : ∃ g, g = w.heap.size := ⟨_, rfl⟩
  rw [← hg0] at R ⊢
  have hg := Nat.le_of_eq hg0.symm
  clear hg0
  have LW := hL.below B
  go_wp2_with fail
  with_reducible refine callR (k1.out _ LW) ?_
  intro w1 b1 _ _ _
  have R1 := R.step b1
  have B1 := below_step B b1
  have L1 := LW.below b1
  clear R B LW b1 k1
  go_upto_region 2 with (fail)
  have X := Blk.new w1 #[.int .i64 lo, .int .i64 hi] 34
  have R := R1.alloc (.cells #[.int .i64 lo, .int .i64 hi] 34)
  have B := below_step B1 (alloc_below w1 (.cells #[.int .i64 lo, .int .i64 hi] 34))
  have hne : g < w1.heap.size := R1.lt
  clear R1 B1
  generalize w1.alloc _ = W at X R B ⊢
  generalize w1.heap.size = g2 at X hne ⊢
  have LW := hL.below B
  have c4 : Has_win W g2 0 := ⟨⟨lo, hi⟩, X.is_win⟩
  have c5 : of_win W g2 0 = ⟨lo, hi⟩ := of_win_eq X.is_win
  have c1 := X.cell
  have d2 := R.plain
  have d3 := R.of
  cases ok
  · go_wp2
    refine bodyPost_ret (results_win Tryz.results187 _ _ g ⟨0, 0⟩ rfl (Blk.is_win (x := ⟨0, 0⟩) (R.set _))) rfl ?_
    exact Ret.winE HE.out (below_setRow' B hg _)
  · have k2 := Lib.hid (ranged_any lo)
    have k3 := Lib.hid (ranged_any hi)
    cases h1 : rangedB lo
    · have HO := Lib.hid (HE.out.trans (show parseWinO l ((lo, hi), true) = ((0, 0), 2) by simp [parseWinO, h1]))
      rw [h1] at k2
      have HH := Lib.hid h1; clear h1
      go_wp2_with (go_at_call 229; first | (with_reducible refine callP (k2.out _) ?_) | (with_reducible refine callP (k3.out _) ?_))
      refine bodyPost_ret (results_win Tryz.results187 _ _ g ⟨0, 0⟩ rfl (Blk.is_win (x := ⟨0, 0⟩) (R.set _))) rfl ?_
      exact Ret.winE HO.out (below_setRow' B hg _)
    · cases h2 : rangedB hi
      · have HO := Lib.hid (HE.out.trans (show parseWinO l ((lo, hi), true) = ((0, 0), 2) by simp [parseWinO, h1, h2]))
        rw [h1] at k2
        rw [h2] at k3
        have HH := Lib.hid h1; clear h1
        have HH2 := Lib.hid h2; clear h2
        go_wp2_with (go_at_call 229; first | (with_reducible refine callP (k2.out _) ?_) | (with_reducible refine callP (k3.out _) ?_))
        refine bodyPost_ret (results_win Tryz.results187 _ _ g ⟨0, 0⟩ rfl (Blk.is_win (x := ⟨0, 0⟩) (R.set _))) rfl ?_
        exact Ret.winE HO.out (below_setRow' B hg _)
      · have HO := Lib.hid (HE.out.trans (show parseWinO l ((lo, hi), true) = if hi < lo then ((0, 0), 9) else if winS lo hi = l then ((lo, hi), 0) else ((0, 0), 4) by simp [parseWinO, h1, h2]))
        have r1 : -200000 ≤ lo ∧ lo ≤ 6000000 := by simpa [rangedB] using h1
        have r2 : -200000 ≤ hi ∧ hi ≤ 6000000 := by simpa [rangedB] using h2
        rw [h1] at k2
        rw [h2] at k3
        have HH := Lib.hid h1; clear h1
        have HH2 := Lib.hid h2; clear h2
        by_cases hlt : hi < lo
        · have HO2 := Lib.hid (HO.out.trans (if_pos hlt))
          clear r1 r2
          go_wp2_with (go_at_call 229; first | (with_reducible refine callP (k2.out _) ?_) | (with_reducible refine callP (k3.out _) ?_))
          refine bodyPost_ret (results_win Tryz.results187 _ _ g ⟨0, 0⟩ rfl (Blk.is_win (x := ⟨0, 0⟩) (R.set _))) rfl ?_
          exact Ret.winE HO2.out (below_setRow' B hg _)
        · have HO2 := Lib.hid (HO.out.trans (if_neg hlt))
          have k4' := winText_in lo hi W LW ⟨r1.1, by omega, r2.2⟩
          rw [wmk] at k4'
          have k4 := Lib.hid k4'
          clear k4' r1 r2
          generalize winS lo hi = T at k4 HO2
          go_wp2_with (go_at_call 229; first | (with_reducible refine callP (k2.out _) ?_) | (with_reducible refine callP (k3.out _) ?_))
          with_reducible refine callR k4.out ?_
          intro w5 b5 _ _ _
          have X5 := X.step b5
          have R5 := R.step b5
          have B5 := below_step B b5
          clear X R B c4 c5 c1 d2 d3
          have c4 : Has_win w5 g2 0 := ⟨⟨lo, hi⟩, X5.is_win⟩
          have c5 : of_win w5 g2 0 = ⟨lo, hi⟩ := of_win_eq X5.is_win
          have d2 := R5.plain
          have d3 := R5.of
          by_cases hT : T = l
          · have HO3 := Lib.hid (HO2.out.trans (if_pos hT))
            subst hT
            go_wp2
            refine bodyPost_ret (results_win Tryz.results187 _ _ g ⟨lo, hi⟩ rfl (Blk.is_win (x := ⟨lo, hi⟩) (R5.set _))) rfl ?_
            exact Ret.winE HO3.out (below_setRow' B5 hg _)
          · have HO3 := Lib.hid (HO2.out.trans (if_neg hT))
            have hT1 : (T == l) = false := by simpa using hT
            go_wp2
            refine bodyPost_ret (results_win Tryz.results187 _ _ g ⟨0, 0⟩ rfl (Blk.is_win (x := ⟨0, 0⟩) (R5.set _))) rfl ?_
            exact Ret.winE HO3.out (below_setRow' B5 hg _)
end Go.Proofs.YtjgondadpjildaaGreatDoor
namespace Go.Proofs.YtjgondadpjildaaGreatDoor
open Go.RowKit Go.Sort
set_option linter.unusedVariables false
set_option linter.unusedSimpArgs false
set_option maxRecDepth 100000
def rdArr (A : Option Addr) (x : PS) (n : Nat) : Array Value := #[.slice A x.ws.length x.ws.length, .int .i64 x.col, .int .i64 n, .int .i64 x.bad]
/-- The reader in block rb, its words in block sb. -/
def Rd (W : World) (rb sb n : Nat) (x : PS) : Prop :=
  ∃ A o, Blk W rb (rdArr A x n) ∧ (x.ws ≠ [] → A = some ⟨sb, o, none⟩) ∧ ∀ j (h : j < x.ws.length), W.cell? ⟨sb, o + j, none⟩ = some (.string ⟨(x.ws[j]).toArray⟩)
theorem Rd.touch {S : List Nat} {W W' : World} {rb sb n : Nat} {x : PS} (h : Rd W rb sb n x) (t : Touch S W W') (h1 : rb ∉ S) (h2 : sb ∉ S) : Rd W' rb sb n x := by
  obtain ⟨A, o, hb, hA, hc⟩ := h
  refine ⟨A, o, t.blk h1 hb, hA, fun j hj => ?_⟩
  have hlt : sb < W.heap.size := block_lt_of_cell (hc j hj)
  rw [t.cell h2 hlt]; exact hc j hj
/-- The leg does not matter to the reader. -/
theorem Rd.leg {W : World} {rb sb n : Nat} {x : PS} (h : Rd W rb sb n x) (l : Leg) : Rd W rb sb n { x with l := l } := h
abbrev wordVal (ws : List (List UInt8)) : Value := .tuple #[.string ⟨(ws.headD []).toArray⟩, .bool (!ws.isEmpty)]
theorem peek_any (W : World) (rb sb n : Nat) (x : PS) (h : Rd W rb sb n x) : Calls Tryz.prog 135 #[.pointer (some ⟨rb, 0, none⟩)] W (RetP W (wordVal x.ws)) := by
  obtain ⟨A, o, hb, hA, hc⟩ := h
  obtain ⟨ws, col, bad, l⟩ := x
  have c0 := hb.cell 0
  simp only [rdArr] at c0
  cases ws with
  | nil =>
    have c0' : W.cell? ⟨rb, 0, none⟩ = some (.slice A 0 0) := c0
    clear c0
    go_enter Tryz.func135, Tryz.ntmps135
    go_wp2
    go_ret2
    exact ⟨rfl, rfl⟩
  | cons s r =>
    obtain rfl := hA (by simp)
    have c0' : W.cell? ⟨rb, 0, none⟩ = some (.slice (some ⟨sb, o, none⟩) (r.length + 1) (r.length + 1)) := c0
    have c1 : W.cell? ⟨sb, o, none⟩ = some (.string ⟨s.toArray⟩) := hc 0 (by simp)
    have hr : ((r.length : Int) + 1 == 0) = false := by rw [beq_eq_false_iff_ne]; omega
    clear c0 hc
    go_enter Tryz.func135, Tryz.ntmps135
    go_wp2
    go_ret2
    exact ⟨rfl, rfl⟩
/-- The call returns nothing; it touches the blocks of S alone, and leaves the reader x. -/
def RetD (S : List Nat) (W : World) (rb sb n : Nat) (x : PS) (e : Ending) (W' : World) : Prop := e = .returned (.tuple #[]) ∧ Touch S W W' ∧ Rd W' rb sb n x
def PS.next (x : PS) (s : List UInt8) (r : List (List UInt8)) : PS := ⟨r, x.col + (s.length + 1), x.bad, x.l⟩
set_option maxHeartbeats 4000000 in
theorem drop_any (W : World) (rb sb n : Nat) (x : PS) (s : List UInt8) (r : List (List UInt8)) (hx : x.ws = s :: r) (h : Rd W rb sb n x) (hne : rb ≠ sb) (hok : x.Ok n) (hn : n ≤ 4000000000) :
    Calls Tryz.prog 180 #[.pointer (some ⟨rb, 0, none⟩)] W (RetD [rb] W rb sb n (x.next s r)) := by
  obtain ⟨A, o, hb, hA, hc⟩ := h
  obtain ⟨ws, col, bad, l⟩ := x
  simp only at hx
  subst hx
  obtain rfl := hA (by simp)
  have hcol := hok.col
  have hone := hok.one
  simp only [spanW_cons] at hcol hone
  have hsl : s.length ≤ 4000000000 := by omega
  have hc1 : col ≤ 5000000000 := by omega
  have hrl : r.length ≤ 4000000000 := by
    have : ∀ q : List (List UInt8), q.length ≤ spanW q := by
      intro q
      induction q with
      | nil => simp
      | cons a q ih => rw [spanW_cons]; simp; omega
    have := this r
    omega
  have k0 : W.cell? ⟨rb, 0, none⟩ = some (.slice (some ⟨sb, o, none⟩) (r.length + 1) (r.length + 1)) := hb.cell 0
  have k1 : W.cell? ⟨rb, 1, none⟩ = some (.int .i64 col) := hb.cell 1
  have f0 := hb.frozen 0
  have f1 := hb.frozen 1
  have cs : W.cell? ⟨sb, o, none⟩ = some (.string ⟨s.toArray⟩) := hc 0 (by simp)
  have HC := Lib.hid hc
  have HB := Lib.hid hb
  have HOK := Lib.hid hok
  clear hc hb hok hcol
  go_enter Tryz.func180, Tryz.ntmps180
  go_wp2
  go_region
  have T1 : Touch [rb] W (W.setCell ⟨rb, 1, none⟩ (.int .i64 (col + ((s.length : Int) + 1)))).drew := (Touch.setCell [rb] W (by simp) 1 _).drew
  have B1 : Blk (W.setCell ⟨rb, 1, none⟩ (.int .i64 (col + ((s.length : Int) + 1)))).drew rb #[.slice (some ⟨sb, o, none⟩) (r.length + 1) (r.length + 1), .int .i64 (col + ((s.length : Int) + 1)), .int .i64 n, .int .i64 bad] := HB.out.setCell 1 (.int .i64 (col + ((s.length : Int) + 1)))
  generalize (W.setCell ⟨rb, 1, none⟩ (.int .i64 (col + ((s.length : Int) + 1)))).drew = W1 at T1 B1 ⊢
  clear k0 k1 f0 f1
  have k0 : W1.cell? ⟨rb, 0, none⟩ = some (.slice (some ⟨sb, o, none⟩) (r.length + 1) (r.length + 1)) := B1.cell 0
  have f0 := B1.frozen 0
  have HNE := Lib.hid hne
  have HC2 := Lib.hid (fun j h => (T1.cell (g := sb) (by simpa using Ne.symm hne) (block_lt_of_cell cs) (o + j)).trans (HC.out j h))
  clear hne cs HC hA
  cases r with
  | nil =>
    go_wp2
    go_end0
    refine ⟨rfl, T1.trans (Touch.setCell [rb] W1 (by simp) 0 _), some ⟨sb, o, none⟩, 0, B1.setCell 0 (.slice (some ⟨sb, o, none⟩) 0 0), fun h => absurd rfl h, fun j h => by simp [PS.next] at h⟩
  | cons s2 r =>
    have hr : (r.length + 1 == 0) = false := by simp
    go_wp2
    go_end0
    refine ⟨rfl, T1.trans (Touch.setCell [rb] W1 (by simp) 0 _), some ⟨sb, o + 1, none⟩, o + 1, B1.setCell 0 (.slice (some ⟨sb, o + 1, none⟩) (r.length + 1) (r.length + 1)), fun _ => rfl, fun j h => ?_⟩
    rw [World.cell?_of_block (w := W1) (Below.heap_setCell W1 ⟨rb, 0, none⟩ _ sb (Ne.symm HNE.out))]
    have := HC2.out (j + 1) (by simpa [PS.next] using h)
    rw [show o + 1 + j = o + (j + 1) by omega]
    exact this
end Go.Proofs.YtjgondadpjildaaGreatDoor
namespace Go.Proofs.YtjgondadpjildaaGreatDoor
open Go.RowKit Go.Sort
set_option linter.unusedVariables false
set_option linter.unusedSimpArgs false
set_option maxRecDepth 100000
/-- A word is accepted or not; the leg in block lb is what it makes of it. -/
def RetA (lb : Nat) (W : World) (q : Leg × Bool) (e : Ending) (W' : World) : Prop := e = .returned (.bool q.2) ∧ Touch [lb] W W' ∧ Blk W' lb q.1.arr
/-- The reader and its leg. -/
structure St (W : World) (rb sb lb n : Nat) (x : PS) : Prop where
  rd : Rd W rb sb n x
  leg : Blk W lb x.l.arr
def RetN (W : World) (rb sb lb n : Nat) (x : PS) (e : Ending) (W' : World) : Prop := e = .returned (.tuple #[]) ∧ Touch [rb, lb] W W' ∧ St W' rb sb lb n x
structure Apart (rb sb lb : Nat) : Prop where
  rs : rb ≠ sb
  rl : rb ≠ lb
  sl : sb ≠ lb
theorem need_bad {n : Nat} {f : Acc} {x : PS} (h : x.bad ≠ 0) : x.need n f = x := by unfold PS.need; rw [if_pos h]
theorem need_nil {n : Nat} {f : Acc} {x : PS} (h : x.bad = 0) (hw : x.ws = []) : x.need n f = { x with bad := (n : Int) + 2 } := by unfold PS.need; rw [if_neg (by simp [h])]; simp [hw]
theorem need_yes {n : Nat} {f : Acc} {x : PS} {s : List UInt8} {r : List (List UInt8)} (h : x.bad = 0) (hw : x.ws = s :: r) (hf : (f s x.l).2 = true) : x.need n f = ({ x with l := (f s x.l).1 } : PS).next s r := by
  unfold PS.need; rw [if_neg (by simp [h])]; simp [hw, hf, PS.next, h]
theorem need_no {n : Nat} {f : Acc} {x : PS} {s : List UInt8} {r : List (List UInt8)} (h : x.bad = 0) (hw : x.ws = s :: r) (hf : (f s x.l).2 = false) : x.need n f = { x with bad := x.col, l := (f s x.l).1 } := by
  unfold PS.need; rw [if_neg (by simp [h])]; simp [hw, hf]
theorem may_bad {f : Acc} {x : PS} (h : x.bad ≠ 0) : x.may f = x := by unfold PS.may; rw [if_pos h]
theorem may_nil {f : Acc} {x : PS} (h : x.bad = 0) (hw : x.ws = []) : x.may f = x := by unfold PS.may; rw [if_neg (by simp [h])]; simp [hw]
theorem may_yes {f : Acc} {x : PS} {s : List UInt8} {r : List (List UInt8)} (h : x.bad = 0) (hw : x.ws = s :: r) (hf : (f s x.l).2 = true) : x.may f = ({ x with l := (f s x.l).1 } : PS).next s r := by
  unfold PS.may; rw [if_neg (by simp [h])]; simp [hw, hf, PS.next, h]
theorem may_no {f : Acc} {x : PS} {s : List UInt8} {r : List (List UInt8)} (h : x.bad = 0) (hw : x.ws = s :: r) (hf : (f s x.l).2 = false) : x.may f = { x with l := (f s x.l).1 } := by
  unfold PS.may; rw [if_neg (by simp [h])]; simp [hw, hf]
theorem Rd.cells {W : World} {rb sb n : Nat} {x : PS} (h : Rd W rb sb n x) : W.cell? ⟨rb, 1, none⟩ = some (.int .i64 x.col) ∧ W.cell? ⟨rb, 2, none⟩ = some (.int .i64 n) ∧ W.cell? ⟨rb, 3, none⟩ = some (.int .i64 x.bad) ∧ ∀ j, W.frozen? ⟨rb, j, none⟩ = false := by
  obtain ⟨A, o, hb, hA, hc⟩ := h
  exact ⟨hb.cell 1, hb.cell 2, hb.cell 3, hb.frozen⟩
theorem Rd.setBad {W : World} {rb sb n : Nat} {x : PS} (h : Rd W rb sb n x) (hne : rb ≠ sb) (b : Int) : Rd (W.setCell ⟨rb, 3, none⟩ (.int .i64 b)) rb sb n { x with bad := b } := by
  obtain ⟨A, o, hb, hA, hc⟩ := h
  refine ⟨A, o, hb.setCell 3 (.int .i64 b), hA, fun j hj => ?_⟩
  rw [World.cell?_of_block (w := W) (Below.heap_setCell W ⟨rb, 3, none⟩ _ sb (Ne.symm hne))]
  exact hc j hj
theorem St.setBad {W : World} {rb sb lb n : Nat} {x : PS} (h : St W rb sb lb n x) (ha : Apart rb sb lb) (b : Int) : St (W.setCell ⟨rb, 3, none⟩ (.int .i64 b)) rb sb lb n { x with bad := b } :=
  ⟨h.rd.setBad ha.rs b, h.leg.setFar (Ne.symm ha.rl) 3 _⟩
set_option maxHeartbeats 4000000 in
theorem need_any (W : World) (rb sb lb n fid : Nat) (cap : Value) (x : PS) (f : Acc) (h : St W rb sb lb n x) (ha : Apart rb sb lb) (hok : x.Ok n) (hf : f.Ok n) (hn : n ≤ 4000000000)
    (hent : ∀ args w, (callFunc fid args).run Tryz.prog w = .ok (.enter fid args) w)
    (hacc : ∀ s r, x.ws = s :: r → Calls Tryz.prog fid #[.string ⟨s.toArray⟩, cap] W (RetA lb W (f s x.l))) :
    Calls Tryz.prog 121 #[.pointer (some ⟨rb, 0, none⟩), .func (.func fid) #[] #[cap]] W (RetN W rb sb lb n (x.need n f)) := by
  obtain ⟨c1, c2, c3, c4⟩ := h.rd.cells
  have hn' : (n : Int) ≤ 4000000000 := by omega
  have kp := Lib.hid (peek_any W rb sb n x h.rd)
  by_cases hb : x.bad = 0
  · rw [hb] at c3
    cases hw : x.ws with
    | nil =>
      have HO := Lib.hid (need_nil (n := n) (f := f) hb hw)
      rw [hw] at kp
      have HS := Lib.hid (h.setBad ha ((n : Int) + 2))
      clear hw hb h hacc hf hok
      generalize x.need n f = y at HO ⊢
      go_enter Tryz.func121, Tryz.ntmps121
      go_wp2_with (go_at_call 135; refine callP kp.out ?_)
      go_end0
      exact ⟨rfl, Touch.setCell _ W (by simp) 3 _, by rw [HO.out]; exact HS.out⟩
    | cons s r =>
      have hac := Lib.hid (hacc s r hw)
      have HY := Lib.hid (need_yes (n := n) (f := f) hb hw)
      have HN := Lib.hid (need_no (n := n) (f := f) hb hw)
      have HW := Lib.hid hw
      have HOK := Lib.hid hok
      have HF := Lib.hid hf
      rw [hw] at kp
      have HOK2 := Lib.hid (show ({ x with l := (f s x.l).1 } : PS).Ok n from ⟨hok.col, hok.one, hok.bad0, hok.bad, hf.fix _ _ (hok.word hw) hok.fix, hf.center _ _ (hok.word hw) hok.center, hf.ty0 _ _ hok.ty0, hf.ty _ _ hok.ty⟩)
      generalize x.need n f = y at HY HN ⊢
      clear hw hacc hok hf HOK HF
      generalize f s x.l = q at HY HN hac HOK2
      obtain ⟨l2, b⟩ := q
      simp only at HY HN HOK2
      cases b
      · go_enter Tryz.func121, Tryz.ntmps121
        go_wp2_with (go_at_call 135; refine callP kp.out ?_)
        refine hac.out.mono ?_
        rintro e W1 ⟨rfl, T1, L1⟩
        have S1 : St W1 rb sb lb n { x with l := l2 } := ⟨(h.rd.touch T1 (by simpa using ha.rl) (by simpa using ha.sl)).leg l2, L1⟩
        clear c1 c2 c3 c4 h
        obtain ⟨c1, c2, c3, c4⟩ := S1.rd.cells
        simp only [hb] at c1 c3
        have HB := Lib.hid hb; clear hb
        go_wp2
        go_end0
        exact ⟨rfl, (T1.mono (by simp)).trans (Touch.setCell _ W1 (by simp) 3 _), by rw [HN.out (by first | rfl | trivial)]; exact S1.setBad ha x.col⟩
      · go_enter Tryz.func121, Tryz.ntmps121
        go_wp2_with (go_at_call 135; refine callP kp.out ?_)
        refine hac.out.mono ?_
        rintro e W1 ⟨rfl, T1, L1⟩
        have S1 : St W1 rb sb lb n { x with l := l2 } := ⟨(h.rd.touch T1 (by simpa using ha.rl) (by simpa using ha.sl)).leg l2, L1⟩
        have kd := Lib.hid (drop_any W1 rb sb n { x with l := l2 } s r HW.out S1.rd ha.rs HOK2.out hn)
        clear c1 c2 c3 c4 h
        have HB := Lib.hid hb; clear hb
        go_wp2_with fail
        refine kd.out.mono ?_
        rintro e W2 ⟨rfl, T2, R2⟩
        go_wp2
        go_end0
        exact ⟨rfl, (T1.mono (by simp)).trans (T2.mono (by simp)), by rw [HY.out (by first | rfl | trivial)]; exact ⟨R2, T2.blk (by simpa using Ne.symm ha.rl) L1⟩⟩
  · have HO := Lib.hid (need_bad (n := n) (f := f) hb)
    have hb' : (x.bad == 0) = false := by simpa using hb
    clear hb hacc hf hok
    go_enter Tryz.func121, Tryz.ntmps121
    go_wp2
    go_end0
    exact ⟨rfl, Touch.refl _ _, by rw [HO.out]; exact h⟩
set_option maxHeartbeats 4000000 in
theorem may_any (W : World) (rb sb lb n fid : Nat) (cap : Value) (x : PS) (f : Acc) (h : St W rb sb lb n x) (ha : Apart rb sb lb) (hok : x.Ok n) (hf : f.Ok n) (hn : n ≤ 4000000000)
    (hent : ∀ args w, (callFunc fid args).run Tryz.prog w = .ok (.enter fid args) w)
    (hacc : ∀ s r, x.ws = s :: r → Calls Tryz.prog fid #[.string ⟨s.toArray⟩, cap] W (RetA lb W (f s x.l))) :
    Calls Tryz.prog 184 #[.pointer (some ⟨rb, 0, none⟩), .func (.func fid) #[] #[cap]] W (RetN W rb sb lb n (x.may f)) := by
  obtain ⟨c1, c2, c3, c4⟩ := h.rd.cells
  have kp := Lib.hid (peek_any W rb sb n x h.rd)
  by_cases hb : x.bad = 0
  · rw [hb] at c3
    cases hw : x.ws with
    | nil =>
      have HO := Lib.hid (may_nil (f := f) hb hw)
      rw [hw] at kp
      clear hw hb hacc hf hok
      generalize x.may f = y at HO ⊢
      go_enter Tryz.func184, Tryz.ntmps184
      go_wp2_with (go_at_call 135; refine callP kp.out ?_)
      go_end0
      exact ⟨rfl, Touch.refl _ _, by rw [HO.out]; exact h⟩
    | cons s r =>
      have hac := Lib.hid (hacc s r hw)
      have HY := Lib.hid (may_yes (f := f) hb hw)
      have HN := Lib.hid (may_no (f := f) hb hw)
      have HW := Lib.hid hw
      rw [hw] at kp
      have HOK2 := Lib.hid (show ({ x with l := (f s x.l).1 } : PS).Ok n from ⟨hok.col, hok.one, hok.bad0, hok.bad, hf.fix _ _ (hok.word hw) hok.fix, hf.center _ _ (hok.word hw) hok.center, hf.ty0 _ _ hok.ty0, hf.ty _ _ hok.ty⟩)
      generalize x.may f = y at HY HN ⊢
      clear hw hacc hok hf
      generalize f s x.l = q at HY HN hac HOK2
      obtain ⟨l2, b⟩ := q
      simp only at HY HN HOK2
      cases b
      · go_enter Tryz.func184, Tryz.ntmps184
        go_wp2_with (go_at_call 135; refine callP kp.out ?_)
        refine hac.out.mono ?_
        rintro e W1 ⟨rfl, T1, L1⟩
        have S1 : St W1 rb sb lb n { x with l := l2 } := ⟨(h.rd.touch T1 (by simpa using ha.rl) (by simpa using ha.sl)).leg l2, L1⟩
        clear c1 c2 c3 c4 h
        have HB := Lib.hid hb; clear hb
        go_wp2
        go_end0
        exact ⟨rfl, T1.mono (by simp), by rw [HN.out (by first | rfl | trivial)]; exact S1⟩
      · go_enter Tryz.func184, Tryz.ntmps184
        go_wp2_with (go_at_call 135; refine callP kp.out ?_)
        refine hac.out.mono ?_
        rintro e W1 ⟨rfl, T1, L1⟩
        have S1 : St W1 rb sb lb n { x with l := l2 } := ⟨(h.rd.touch T1 (by simpa using ha.rl) (by simpa using ha.sl)).leg l2, L1⟩
        have kd := Lib.hid (drop_any W1 rb sb n { x with l := l2 } s r HW.out S1.rd ha.rs HOK2.out hn)
        clear c1 c2 c3 c4 h
        have HB := Lib.hid hb; clear hb
        go_wp2_with fail
        refine kd.out.mono ?_
        rintro e W2 ⟨rfl, T2, R2⟩
        go_wp2
        go_end0
        exact ⟨rfl, (T1.mono (by simp)).trans (T2.mono (by simp)), by rw [HY.out (by first | rfl | trivial)]; exact ⟨R2, T2.blk (by simpa using Ne.symm ha.rl) L1⟩⟩
  · have HO := Lib.hid (may_bad (f := f) hb)
    have hb' : (x.bad == 0) = false := by simpa using hb
    clear hb hacc hf hok
    go_enter Tryz.func184, Tryz.ntmps184
    go_wp2_with (go_at_call 135; refine callP kp.out ?_)
    go_end0
    exact ⟨rfl, Touch.refl _ _, by rw [HO.out]; exact h⟩
end Go.Proofs.YtjgondadpjildaaGreatDoor
namespace Go.Proofs.YtjgondadpjildaaGreatDoor
open Go.RowKit Go.Sort
set_option linter.unusedVariables false
set_option linter.unusedSimpArgs false
set_option maxRecDepth 100000
theorem RetA.mk {lb : Nat} {W W' : World} {q : Leg × Bool} {l : Leg} {b : Bool} (h : q = (l, b)) (t : Touch [lb] W W') (hb : Blk W' lb l.arr) : RetA lb W q (.returned (.bool b)) W' := by subst h; exact ⟨rfl, t, hb⟩
theorem leg_set1 (l : Leg) (v : List UInt8) : l.arr.setIfInBounds 1 (.string ⟨v.toArray⟩) = ({ l with fix := v } : Leg).arr := rfl
theorem leg_set2 (l : Leg) (v : List UInt8) : l.arr.setIfInBounds 2 (.string ⟨v.toArray⟩) = ({ l with center := v } : Leg).arr := rfl
theorem leg_set0 (l : Leg) (v : Int) : l.arr.setIfInBounds 0 (.int .u8 v) = ({ l with ty := v } : Leg).arr := rfl
theorem leg_set3 (l : Leg) (v : Int) : l.arr.setIfInBounds 3 (.int .u8 v) = ({ l with turn := v } : Leg).arr := rfl
theorem leg_set4 (l : Leg) (v : Bool) : l.arr.setIfInBounds 4 (.bool v) = ({ l with over := v } : Leg).arr := rfl
theorem leg_set5 (l : Leg) (v : Int) : l.arr.setIfInBounds 5 (.int .i64 v) = ({ l with course := v } : Leg).arr := rfl
theorem leg_set6 (l : Leg) (v : Int) : l.arr.setIfInBounds 6 (.int .i64 v) = ({ l with dist := v } : Leg).arr := rfl
theorem leg_set7 (l : Leg) (v : Int) : l.arr.setIfInBounds 7 (.int .i64 v) = ({ l with radius := v } : Leg).arr := rfl
theorem leg_set8 (l : Leg) (v : Int) : l.arr.setIfInBounds 8 (.int .i64 v) = ({ l with theta := v } : Leg).arr := rfl
theorem leg_set11 (l : Leg) (v : Int) : l.arr.setIfInBounds 11 (.int .i64 v) = ({ l with speed := v } : Leg).arr := rfl
theorem leg_set12 (l : Leg) (v : Int) : l.arr.setIfInBounds 12 (.int .i64 v) = ({ l with rnp := v } : Leg).arr := rfl
theorem acc_fix (W : World) (lb : Nat) (s : List UInt8) (l : Leg) (w0 : World) (hB : Below w0.heap.size w0 W) (hL : Laid w0) (hlb : w0.heap.size ≤ lb) (hl : Blk W lb l.arr) (hs : s.length ≤ 4000000000) : Calls Tryz.prog 123 #[.string ⟨s.toArray⟩, .pointer (some ⟨lb, 0, none⟩)] W (RetA lb W (accFix s l)) := by
  have c1 := hl.cell 1
  have f1 := hl.frozen 1
  have L1 : Blk (W.setCell ⟨lb, 1, none⟩ (.string ⟨s.toArray⟩)) lb ({ l with fix := s } : Leg).arr := hl.setCell 1 _
  have LW := Lib.hid (hL.below (below_setCell hB hlb 1 (.string ⟨s.toArray⟩)))
  go_enter Tryz.func123, Tryz.ntmps123
  go_wp2_with fail
  with_reducible refine callR (ref_any s _ LW.out hs) ?_
  intro w1 b1 _ _ _
  go_wp2
  go_ret
  exact RetA.mk rfl ((Touch.setCell [lb] W (by simp) 1 _).trans (Touch.of b1)) (L1.step b1)
theorem acc_center (W : World) (lb : Nat) (s : List UInt8) (l : Leg) (w0 : World) (hB : Below w0.heap.size w0 W) (hL : Laid w0) (hlb : w0.heap.size ≤ lb) (hl : Blk W lb l.arr) (hs : s.length ≤ 4000000000) : Calls Tryz.prog 125 #[.string ⟨s.toArray⟩, .pointer (some ⟨lb, 0, none⟩)] W (RetA lb W (accCenter s l)) := by
  have c1 := hl.cell 2
  have f1 := hl.frozen 2
  have k1 := Lib.hid (trimPrefix_any 64 s W)
  have HA := Lib.hid (show accCenter s l = ({ l with center := (cutPre 64 s).1 }, (cutPre 64 s).2 && refB (cutPre 64 s).1) from rfl)
  have HC := Lib.hid (show ((cutPre 64 s).1 == s) = !(cutPre 64 s).2 by
    cases s with
    | nil => rfl
    | cons x r =>
      unfold cutPre
      dsimp only
      split
      · simp
      · simp)
  have hq := cutPre_len 64 s
  generalize accCenter s l = out at HA ⊢
  generalize cutPre 64 s = q at k1 HA HC hq
  obtain ⟨c, yes⟩ := q
  simp only at HA HC hq
  have L1 : Blk (W.setCell ⟨lb, 2, none⟩ (.string ⟨c.toArray⟩)) lb ({ l with center := c } : Leg).arr := hl.setCell 2 _
  have c2 := L1.cell 2
  have LW := Lib.hid (hL.below (below_setCell hB hlb 2 (.string ⟨c.toArray⟩)))
  have k2 := Lib.hid (ref_any c _ LW.out (by omega))
  cases yes
  · have hc : (c == s) = true := HC.out
    go_enter Tryz.func125, Tryz.ntmps125
    go_wp2_with (go_at_call 126; refine callP k1.out ?_)
    go_ret
    exact RetA.mk HA.out (Touch.setCell [lb] W (by simp) 2 _) L1
  · have hc : (c == s) = false := HC.out
    go_enter Tryz.func125, Tryz.ntmps125
    go_wp2_with (go_at_call 126; refine callP k1.out ?_)
    with_reducible refine callR k2.out ?_
    intro w1 b1 _ _ _
    go_wp2
    go_ret
    exact RetA.mk (by rw [HA.out]; rfl) ((Touch.setCell [lb] W (by simp) 2 _).trans (Touch.of b1)) (L1.step b1)
theorem acc_turn (W : World) (lb : Nat) (s : List UInt8) (l : Leg) (w0 : World) (hB : Below w0.heap.size w0 W) (hL : Laid w0) (hlb : w0.heap.size ≤ lb) (hl : Blk W lb l.arr) (hs : s.length ≤ 4000000000) : Calls Tryz.prog 127 #[.string ⟨s.toArray⟩, .pointer (some ⟨lb, 0, none⟩)] W (RetA lb W (accTurn s l)) := by
  have c1 := hl.cell 3
  have f1 := hl.frozen 3
  have L1 : Blk (W.setCell ⟨lb, 3, none⟩ (.int .u8 1)) lb ({ l with turn := 1 } : Leg).arr := hl.setCell 3 _
  have L2 : Blk (W.setCell ⟨lb, 3, none⟩ (.int .u8 2)) lb ({ l with turn := 2 } : Leg).arr := hl.setCell 3 _
  by_cases h1 : s = [76]
  · subst h1
    go_enter Tryz.func127, Tryz.ntmps127
    go_wp2
    go_ret
    exact RetA.mk rfl (Touch.setCell [lb] W (by simp) 3 _) L1
  · have h2 : (s == [76]) = false := by simpa using h1
    have HA := Lib.hid (show accTurn s l = ({ l with turn := 2 }, s == [82]) by unfold accTurn; simp [h1])
    generalize accTurn s l = out at HA ⊢
    clear h1
    go_enter Tryz.func127, Tryz.ntmps127
    go_wp2
    go_ret
    exact RetA.mk (by rw [HA.out]) (Touch.setCell [lb] W (by simp) 3 _) L2
theorem acc_course (W : World) (lb : Nat) (s : List UInt8) (l : Leg) (w0 : World) (hB : Below w0.heap.size w0 W) (hL : Laid w0) (hlb : w0.heap.size ≤ lb) (hl : Blk W lb l.arr) (hs : s.length ≤ 4000000000) : Calls Tryz.prog 128 #[.string ⟨s.toArray⟩, .pointer (some ⟨lb, 0, none⟩)] W (RetA lb W (accCourse s l)) := by
  have c1 := hl.cell 5
  have f1 := hl.frozen 5
  have k1 := Lib.hid (course_any s W (by omega))
  have HA := Lib.hid (show accCourse s l = ({ l with course := (courseS s).1 }, (courseS s).2) from rfl)
  generalize accCourse s l = out at HA ⊢
  generalize courseS s = q at k1 HA
  obtain ⟨n, b⟩ := q
  have L1 : Blk (W.setCell ⟨lb, 5, none⟩ (.int .i64 n)) lb ({ l with course := n } : Leg).arr := hl.setCell 5 _
  go_enter Tryz.func128, Tryz.ntmps128
  go_wp2_with (go_at_call 129; refine callP k1.out ?_)
  go_ret
  exact RetA.mk HA.out (Touch.setCell [lb] W (by simp) 5 _) L1
theorem acc_dist (W : World) (lb : Nat) (s : List UInt8) (l : Leg) (w0 : World) (hB : Below w0.heap.size w0 W) (hL : Laid w0) (hlb : w0.heap.size ≤ lb) (hl : Blk W lb l.arr) (hs : s.length ≤ 4000000000) : Calls Tryz.prog 130 #[.string ⟨s.toArray⟩, .pointer (some ⟨lb, 0, none⟩)] W (RetA lb W (accDist s l)) := by
  have k1 := Lib.hid (legdist_any 100 s W (hL.below hB) hs)
  have HA := Lib.hid (show accDist s l = ({ l with dist := (legDistS 100 s).1 }, (legDistS 100 s).2) from rfl)
  generalize accDist s l = out at HA ⊢
  generalize legDistS 100 s = q at k1 HA
  obtain ⟨n, b⟩ := q
  go_enter Tryz.func130, Tryz.ntmps130
  go_wp2_with fail
  refine callR k1.out ?_
  intro w1 b1 _ _ _
  have h1 := hl.step b1
  have c1 := h1.cell 6
  have f1 := h1.frozen 6
  have L1 : Blk (w1.setCell ⟨lb, 6, none⟩ (.int .i64 n)) lb ({ l with dist := n } : Leg).arr := h1.setCell 6 _
  go_wp2
  go_ret
  exact RetA.mk HA.out ((Touch.of b1).trans (Touch.setCell [lb] w1 (by simp) 6 _)) L1
theorem acc_radius (W : World) (lb : Nat) (s : List UInt8) (l : Leg) (w0 : World) (hB : Below w0.heap.size w0 W) (hL : Laid w0) (hlb : w0.heap.size ≤ lb) (hl : Blk W lb l.arr) (hs : s.length ≤ 4000000000) : Calls Tryz.prog 132 #[.string ⟨s.toArray⟩, .pointer (some ⟨lb, 0, none⟩)] W (RetA lb W (accRadius s l)) := by
  have k1 := Lib.hid (legdist_any 114 s W (hL.below hB) hs)
  have HA := Lib.hid (show accRadius s l = ({ l with radius := (legDistS 114 s).1 }, (legDistS 114 s).2) from rfl)
  generalize accRadius s l = out at HA ⊢
  generalize legDistS 114 s = q at k1 HA
  obtain ⟨n, b⟩ := q
  go_enter Tryz.func132, Tryz.ntmps132
  go_wp2_with fail
  refine callR k1.out ?_
  intro w1 b1 _ _ _
  have h1 := hl.step b1
  have c1 := h1.cell 7
  have f1 := h1.frozen 7
  have L1 : Blk (w1.setCell ⟨lb, 7, none⟩ (.int .i64 n)) lb ({ l with radius := n } : Leg).arr := h1.setCell 7 _
  go_wp2
  go_ret
  exact RetA.mk HA.out ((Touch.of b1).trans (Touch.setCell [lb] w1 (by simp) 7 _)) L1
theorem acc_theta (W : World) (lb : Nat) (s : List UInt8) (l : Leg) (w0 : World) (hB : Below w0.heap.size w0 W) (hL : Laid w0) (hlb : w0.heap.size ≤ lb) (hl : Blk W lb l.arr) (hs : s.length ≤ 4000000000) : Calls Tryz.prog 133 #[.string ⟨s.toArray⟩, .pointer (some ⟨lb, 0, none⟩)] W (RetA lb W (accTheta s l)) := by
  cases s with
  | nil =>
    go_enter Tryz.func133, Tryz.ntmps133
    go_wp2
    go_ret
    exact RetA.mk rfl (Touch.refl _ _) hl
  | cons x r =>
    by_cases hx : x = 116
    · subst hx
      have c1 := hl.cell 8
      have f1 := hl.frozen 8
      have k1 := Lib.hid (course_any r W (by simp at hs; omega))
      have HA := Lib.hid (show accTheta (116 :: r) l = ({ l with theta := (courseS r).1 }, (courseS r).2) from rfl)
      generalize accTheta (116 :: r) l = out at HA ⊢
      generalize courseS r = q at k1 HA
      obtain ⟨n, b⟩ := q
      have L1 : Blk (W.setCell ⟨lb, 8, none⟩ (.int .i64 n)) lb ({ l with theta := n } : Leg).arr := hl.setCell 8 _
      go_enter Tryz.func133, Tryz.ntmps133
      go_wp2_with (go_at_call 129; refine callP k1.out ?_)
      go_ret
      exact RetA.mk HA.out (Touch.setCell [lb] W (by simp) 8 _) L1
    · have h1 : ((x.toNat : Int) != 116) = true := by simp only [bne]; exact congrArg Bool.not (u8_ne (d := 116) hx)
      have HA := Lib.hid (show accTheta (x :: r) l = (l, false) by unfold accTheta; dsimp only; rw [if_neg hx])
      go_enter Tryz.func133, Tryz.ntmps133
      go_wp2
      go_ret
      exact RetA.mk HA.out (Touch.refl _ _) hl
end Go.Proofs.YtjgondadpjildaaGreatDoor
namespace Go.Proofs.YtjgondadpjildaaGreatDoor
open Go.RowKit Go.Sort
set_option linter.unusedVariables false
set_option linter.unusedSimpArgs false
set_option maxRecDepth 100000
theorem acc_over (W : World) (lb pb : Nat) (s : List UInt8) (l : Leg) (w0 : World) (hB : Below w0.heap.size w0 W) (hL : Laid w0) (hlb : w0.heap.size ≤ lb) (hl : Blk W lb l.arr) (hp : W.cell? ⟨pb, 0, none⟩ = some (.pointer (some ⟨lb, 0, none⟩))) (hne : pb ≠ lb) (hs : s.length ≤ 4000000000) : Calls Tryz.prog 185 #[.string ⟨s.toArray⟩, .pointer (some ⟨pb, 0, none⟩)] W (RetA lb W (accOver s l)) := by
  have c1 := hl.cell 4
  have f1 := hl.frozen 4
  have L1 : Blk (W.setCell ⟨lb, 4, none⟩ (.bool (s == [111, 118, 101, 114]))) lb ({ l with over := s == [111, 118, 101, 114] } : Leg).arr := hl.setCell 4 _
  have HA := Lib.hid (show accOver s l = ({ l with over := s == [111, 118, 101, 114] }, s == [111, 118, 101, 114]) from rfl)
  generalize accOver s l = out at HA ⊢
  have c2 := L1.cell 4
  have hp2 : (W.setCell ⟨lb, 4, none⟩ (.bool (s == [111, 118, 101, 114]))).cell? ⟨pb, 0, none⟩ = some (.pointer (some ⟨lb, 0, none⟩)) := by
    rw [World.cell?_of_block (w := W) (Below.heap_setCell W ⟨lb, 4, none⟩ _ pb hne)]; exact hp
  cases h : (s == [111, 118, 101, 114])
  all_goals
    rw [h] at HA L1 c2 hp2
    go_enter Tryz.func185, Tryz.ntmps185
    go_wp2
    go_ret
    exact RetA.mk HA.out (Touch.setCell [lb] W (by simp) 4 _) L1
attribute [local go_sem] wmk
set_option maxHeartbeats 4000000 in
theorem acc_win (W : World) (lb pb : Nat) (s : List UInt8) (l : Leg) (w0 : World) (hB : Below w0.heap.size w0 W) (hL : Laid w0) (hlb : w0.heap.size ≤ lb) (hl : Blk W lb l.arr) (hp : W.cell? ⟨pb, 0, none⟩ = some (.pointer (some ⟨lb, 0, none⟩))) (hne : pb ≠ lb) (hs : s.length ≤ 4000000000) : Calls Tryz.prog 186 #[.string ⟨s.toArray⟩, .pointer (some ⟨pb, 0, none⟩)] W (RetA lb W (accWin s l)) := by
  have k1 := Lib.hid (parseWindow_any s W (hL.below hB) hs)
  have HA := Lib.hid (show accWin s l = if ((parseWinS s).2 == 0 && !((parseWinS s).1.1 == -200000 && (parseWinS s).1.2 == 6000000)) = true then ({ l with lo := (parseWinS s).1.1, hi := (parseWinS s).1.2 }, true) else (l, false) from rfl)
  generalize accWin s l = out at HA ⊢
  generalize parseWinS s = q at k1 HA
  obtain ⟨⟨lo, hi⟩, e⟩ := q
  simp only at HA
  go_enter Tryz.func186, Tryz.ntmps186
  go_wp2_with fail
  refine callR k1.out ?_
  intro w1 b1 _ _ _
  go_upto_region 2 with (fail)
  have X := Blk.new w1 #[.int .i64 lo, .int .i64 hi] 34
  have B2 := below_step b1 (alloc_below w1 (.cells #[.int .i64 lo, .int .i64 hi] 34))
  have hgl : W.heap.size ≤ w1.heap.size := b1.size
  generalize w1.alloc _ = W2 at X B2 ⊢
  generalize w1.heap.size = g at X hgl ⊢
  have h2 := hl.step B2
  have p2 : W2.cell? ⟨pb, 0, none⟩ = some (.pointer (some ⟨lb, 0, none⟩)) := (B2.cell (p := ⟨pb, 0, none⟩) (block_lt_of_cell hp)).trans hp
  have c4 : Has_win W2 g 0 := ⟨⟨lo, hi⟩, X.is_win⟩
  have c5 : of_win W2 g 0 = ⟨lo, hi⟩ := of_win_eq X.is_win
  have c1 := X.cell
  have d2 := h2.plain
  have d3 := h2.of
  have f3 : splice l.arr 9 #[.int .i64 lo, .int .i64 hi] = ({ l with lo := lo, hi := hi } : Leg).arr := rfl
  have HT := Lib.hid (show Touch [lb] W2 (W2.setRow lb ({ l with lo := lo, hi := hi } : Leg).arr) from ⟨rfl, rfl, rfl, by simp [World.setRow], fun k hk hn => setRow_other W2 lb k _ (by simpa using hn)⟩)
  clear hp
  by_cases he : e = 0
  · subst he
    by_cases h3 : lo = -200000
    · subst h3
      by_cases h4 : hi = 6000000
      · subst h4
        go_wp2
        go_ret
        exact RetA.mk HA.out (Touch.of B2) h2
      · have h4' : (hi == 6000000) = false := by simpa using h4
        have HO : Hid (out = ({ l with lo := -200000, hi := hi }, true)) := Lib.hid (by rw [HA.out, if_pos (by simp [h4])])
        clear h4
        go_wp2
        go_ret
        exact RetA.mk HO.out ((Touch.of B2).trans HT.out) (h2.set _)
    · have h3' : (lo == -200000) = false := by simpa using h3
      have HO : Hid (out = ({ l with lo := lo, hi := hi }, true)) := Lib.hid (by rw [HA.out, if_pos (by simp [h3])])
      clear h3
      go_wp2
      go_ret
      exact RetA.mk HO.out ((Touch.of B2).trans HT.out) (h2.set _)
  · have he' : (e == 0) = false := by simpa using he
    have he2 : (e != 0) = true := by simpa using he
    have HO : Hid (out = (l, false)) := Lib.hid (by rw [HA.out, if_neg (by simp [he])])
    clear he
    go_wp2
    go_ret
    exact RetA.mk HO.out (Touch.of B2) h2
theorem acc_speed (W : World) (lb pb : Nat) (s : List UInt8) (l : Leg) (w0 : World) (hB : Below w0.heap.size w0 W) (hL : Laid w0) (hlb : w0.heap.size ≤ lb) (hl : Blk W lb l.arr) (hp : W.cell? ⟨pb, 0, none⟩ = some (.pointer (some ⟨lb, 0, none⟩))) (hne : pb ≠ lb) (hs : s.length ≤ 4000000000) : Calls Tryz.prog 188 #[.string ⟨s.toArray⟩, .pointer (some ⟨pb, 0, none⟩)] W (RetA lb W (accSpeed s l)) := by
  have k1 := Lib.hid (speed_any s W hs)
  have HA := Lib.hid (show accSpeed s l = if (speedS s).2 = true then ({ l with speed := (speedS s).1 }, true) else (l, false) from rfl)
  generalize accSpeed s l = out at HA ⊢
  generalize speedS s = q at k1 HA
  obtain ⟨n, b⟩ := q
  simp only at HA
  go_enter Tryz.func188, Tryz.ntmps188
  go_wp2_with fail
  refine callR k1.out ?_
  intro w1 b1 _ _ _
  have h1 := hl.step b1
  have p2 : w1.cell? ⟨pb, 0, none⟩ = some (.pointer (some ⟨lb, 0, none⟩)) := (b1.cell (p := ⟨pb, 0, none⟩) (block_lt_of_cell hp)).trans hp
  have c1 := h1.cell 11
  have f1 := h1.frozen 11
  have L1 : Blk (w1.setCell ⟨lb, 11, none⟩ (.int .i64 n)) lb ({ l with speed := n } : Leg).arr := h1.setCell 11 _
  clear hp
  cases b
  · go_wp2
    go_ret
    exact RetA.mk HA.out (Touch.of b1) h1
  · go_wp2
    go_ret
    exact RetA.mk HA.out ((Touch.of b1).trans (Touch.setCell [lb] w1 (by simp) 11 _)) L1
theorem acc_rnp (W : World) (lb pb : Nat) (s : List UInt8) (l : Leg) (w0 : World) (hB : Below w0.heap.size w0 W) (hL : Laid w0) (hlb : w0.heap.size ≤ lb) (hl : Blk W lb l.arr) (hp : W.cell? ⟨pb, 0, none⟩ = some (.pointer (some ⟨lb, 0, none⟩))) (hne : pb ≠ lb) (hs : s.length ≤ 4000000000) : Calls Tryz.prog 190 #[.string ⟨s.toArray⟩, .pointer (some ⟨pb, 0, none⟩)] W (RetA lb W (accRnp s l)) := by
  have k1 := Lib.hid (legdist_any 110 s W (hL.below hB) hs)
  have HA := Lib.hid (show accRnp s l = if (legDistS 110 s).2 = true then ({ l with rnp := (legDistS 110 s).1 }, true) else (l, false) from rfl)
  generalize accRnp s l = out at HA ⊢
  generalize legDistS 110 s = q at k1 HA
  obtain ⟨n, b⟩ := q
  simp only at HA
  go_enter Tryz.func190, Tryz.ntmps190
  go_wp2_with fail
  refine callR k1.out ?_
  intro w1 b1 _ _ _
  have h1 := hl.step b1
  have p2 : w1.cell? ⟨pb, 0, none⟩ = some (.pointer (some ⟨lb, 0, none⟩)) := (b1.cell (p := ⟨pb, 0, none⟩) (block_lt_of_cell hp)).trans hp
  have c1 := h1.cell 12
  have f1 := h1.frozen 12
  have L1 : Blk (w1.setCell ⟨lb, 12, none⟩ (.int .i64 n)) lb ({ l with rnp := n } : Leg).arr := h1.setCell 12 _
  clear hp
  cases b
  · go_wp2
    go_ret
    exact RetA.mk HA.out (Touch.of b1) h1
  · go_wp2
    go_ret
    exact RetA.mk HA.out ((Touch.of b1).trans (Touch.setCell [lb] w1 (by simp) 12 _)) L1
end Go.Proofs.YtjgondadpjildaaGreatDoor
namespace Go.Proofs.YtjgondadpjildaaGreatDoor
open Go.RowKit Go.Sort
set_option linter.unusedVariables false
set_option linter.unusedSimpArgs false
set_option maxRecDepth 100000
def namesVals : List Value := namesTab.map fun n => .string ⟨n.toArray⟩
theorem names_idx (w : World) : ∀ k : Nat, k < 18 → (Instr.index 120 (.agg namesVals.toArray) (.int .i64 (k : Nat))).run Tryz.prog w = .ok (.string ⟨(namesTab.getD k []).toArray⟩) w
  | 0, _ => by kernel_rfl
  | 1, _ => by kernel_rfl
  | 2, _ => by kernel_rfl
  | 3, _ => by kernel_rfl
  | 4, _ => by kernel_rfl
  | 5, _ => by kernel_rfl
  | 6, _ => by kernel_rfl
  | 7, _ => by kernel_rfl
  | 8, _ => by kernel_rfl
  | 9, _ => by kernel_rfl
  | 10, _ => by kernel_rfl
  | 11, _ => by kernel_rfl
  | 12, _ => by kernel_rfl
  | 13, _ => by kernel_rfl
  | 14, _ => by kernel_rfl
  | 15, _ => by kernel_rfl
  | 16, _ => by kernel_rfl
  | 17, _ => by kernel_rfl
  | k + 18, h => by omega

theorem names_cell {w : World} (hL : Laid w) (j : Nat) (v : Value) (h : namesVals[j]? = some v) : w.cell? ((⟨1, 0, none⟩ : Addr).add j) = some v := by
  have hj : j < 18 := by have := (List.getElem?_eq_some_iff.1 h).1; simpa [namesVals, namesTab] using this
  rw [addr_add, Nat.zero_add, hL.names j hj]
  rw [← h]
  unfold namesVals
  rw [List.getElem?_map]
  have : namesTab[j]? = some (namesTab.getD j []) := by
    have hl : j < namesTab.length := hj
    simp [hl]
  rw [this]; rfl
theorem typeK_succ (s : List UInt8) (t : Int) (k : Nat) : typeK s t (k + 1) = if 0 < k ∧ namesTab.getD k [] = s then (k : Int) else typeK s t k := rfl
set_option maxHeartbeats 4000000 in
theorem acc_name (W : World) (lb : Nat) (s : List UInt8) (l : Leg) (hL : Laid W) (hlb : 1 ≠ lb) (hl : Blk W lb l.arr) (hs : s.length ≤ 4000000000) (h0 : 0 ≤ l.ty) (h1 : l.ty ≤ 17) : Calls Tryz.prog 122 #[.string ⟨s.toArray⟩, .pointer (some ⟨lb, 0, none⟩)] W (RetA lb W (accName s l)) := by
  have hi := names_idx
  have HA := Lib.hid (show accName s l = ({ l with ty := typeK s l.ty 18 }, typeK s l.ty 18 != 0) from rfl)
  generalize accName s l = out at HA ⊢
  have hc := Lib.hid (fun j v h => names_cell hL j v h)
  go_enter Tryz.func122, Tryz.ntmps122
  go_wp2_with ((with_reducible refine at_load 120 (.global 1) rfl ?_); refine wpList_load_agg rfl 120 (.global 1) rfl ⟨1, 0, none⟩ rfl namesVals _ hc.out Tryz.underlying120 rfl (by kernel_rfl) ?_)
  go_loopw [7] (fun i wr => ∃ k : Nat, k ≤ 18 ∧ i = .int .i64 k ∧ Touch [lb] W wr ∧ Blk wr lb ({ l with ty := typeK s l.ty k } : Leg).arr) (fun i _ => 18 - (intOf i).toNat)
  case atStart => exact ⟨0, by omega, rfl, Touch.refl _ _, hl⟩
  case round =>
    obtain ⟨k, hk, rfl, T, B⟩ := hrel
    have bd := typeK_bd s l.ty k hk
    have bd0 := bd.1 h0
    have bd1 := bd.2 h1
    clear bd
    by_cases hlt : k < 18
    · have hik := names_idx wr k hlt
      have HS := Lib.hid (typeK_succ s l.ty k)
      have hlt' : (k : Int) < 18 := by omega
      have c0 := B.cell 0
      have f0 := B.frozen 0
      have B1 : Blk (wr.setCell ⟨lb, 0, none⟩ (.int .u8 (k : Int))) lb ({ l with ty := (k : Int) } : Leg).arr := B.setCell 0 _
      have hu : IntKind.u8.wrap (k : Int) = (k : Int) := by simp only [IntKind.wrap, IntKind.bits, IntKind.signed]; simp; omega
      clear hi
      generalize namesTab.getD k [] = nm at hik HS
      by_cases hn : nm = s
      · subst hn
        by_cases hk0 : 0 < k
        · have hk0' : (0 : Int) < k := by omega
          go_wp2
          go_roundw
          case rel => exact ⟨k + 1, by omega, by go_num, T.trans (Touch.setCell [lb] wr (by simp) 0 _), by rw [HS.out, if_pos ⟨hk0, rfl⟩]; exact B1⟩
          case measure => simp [intOf]; omega
        · have hk0' : ¬ (0 : Int) < k := by omega
          go_wp2
          go_roundw
          case rel => exact ⟨k + 1, by omega, by go_num, T, by rw [HS.out, if_neg (fun e => hk0 e.1)]; exact B⟩
          case measure => simp [intOf]; omega
      · have hn' : (nm == s) = false := by simpa using hn
        have HN := Lib.hid hn; clear hn
        go_wp2
        go_roundw
        case rel => exact ⟨k + 1, by omega, by go_num, T, by rw [HS.out, if_neg (fun e => HN.out e.2)]; exact B⟩
        case measure => simp [intOf]; omega
    · obtain rfl : k = 18 := by omega
      generalize typeK s l.ty 18 = t at HA B bd0 bd1
      have c0 : wr.cell? ⟨lb, 0, none⟩ = some (.int .u8 t) := B.cell 0
      go_wp2
      go_ret
      exact RetA.mk HA.out T B
end Go.Proofs.YtjgondadpjildaaGreatDoor
namespace Go.Proofs.YtjgondadpjildaaGreatDoor
open Go.RowKit Go.Sort
set_option linter.unusedVariables false
set_option linter.unusedSimpArgs false
set_option maxRecDepth 100000
/-- A reader and its leg that a call has made since w0. -/
structure PSt (w0 W : World) (rb sb lb n : Nat) (x : PS) : Prop where
  st : St W rb sb lb n x
  below : Below w0.heap.size w0 W
  apart : Apart rb sb lb
  rb0 : w0.heap.size ≤ rb
  lb0 : w0.heap.size ≤ lb
  ok : x.Ok n
theorem PSt.next {w0 W W' : World} {rb sb lb n : Nat} {x y : PS} (h : PSt w0 W rb sb lb n x) (t : Touch [rb, lb] W W') (s : St W' rb sb lb n y) (hy : y.Ok n) : PSt w0 W' rb sb lb n y :=
  ⟨s, t.below h.below (by intro z hz; simp at hz; rcases hz with rfl | rfl; exact h.rb0; exact h.lb0), h.apart, h.rb0, h.lb0, hy⟩
theorem St.step {W W' : World} {rb sb lb n : Nat} {x : PS} (h : St W rb sb lb n x) (b : Below W.heap.size W W') : St W' rb sb lb n x :=
  ⟨h.rd.touch (S := []) (Touch.of b) (by simp) (by simp), h.leg.step b⟩
theorem PSt.step {w0 W W' : World} {rb sb lb n : Nat} {x : PS} (h : PSt w0 W rb sb lb n x) (b : Below W.heap.size W W') : PSt w0 W' rb sb lb n x :=
  ⟨h.st.step b, below_step h.below b, h.apart, h.rb0, h.lb0, h.ok⟩
def RetM (w0 W : World) (rb sb lb n : Nat) (x : PS) (e : Ending) (W' : World) : Prop := e = .returned (.tuple #[]) ∧ Touch [rb, lb] W W' ∧ PSt w0 W' rb sb lb n x
theorem PS.Ok.wlen {n : Nat} {x : PS} (h : x.Ok n) (hn : n ≤ 4000000000) {s : List UInt8} {r : List (List UInt8)} (hw : x.ws = s :: r) : s.length ≤ 4000000000 := Nat.le_trans (h.word hw) hn
theorem ent_over : ∀ args w, (callFunc 185 args).run Tryz.prog w = .ok (.enter 185 args) w := enters_of (⟨Tryz.func185, Tryz.ntmps185⟩ : _ ∧ _).1 (by kernel_rfl) rfl
theorem ent_win : ∀ args w, (callFunc 186 args).run Tryz.prog w = .ok (.enter 186 args) w := enters_of (⟨Tryz.func186, Tryz.ntmps186⟩ : _ ∧ _).1 (by kernel_rfl) rfl
theorem ent_speed : ∀ args w, (callFunc 188 args).run Tryz.prog w = .ok (.enter 188 args) w := enters_of (⟨Tryz.func188, Tryz.ntmps188⟩ : _ ∧ _).1 (by kernel_rfl) rfl
theorem ent_rnp : ∀ args w, (callFunc 190 args).run Tryz.prog w = .ok (.enter 190 args) w := enters_of (⟨Tryz.func190, Tryz.ntmps190⟩ : _ ∧ _).1 (by kernel_rfl) rfl
theorem ent_name : ∀ args w, (callFunc 122 args).run Tryz.prog w = .ok (.enter 122 args) w := enters_of (⟨Tryz.func122, Tryz.ntmps122⟩ : _ ∧ _).1 (by kernel_rfl) rfl
theorem ent_fix : ∀ args w, (callFunc 123 args).run Tryz.prog w = .ok (.enter 123 args) w := enters_of (⟨Tryz.func123, Tryz.ntmps123⟩ : _ ∧ _).1 (by kernel_rfl) rfl
theorem ent_center : ∀ args w, (callFunc 125 args).run Tryz.prog w = .ok (.enter 125 args) w := enters_of (⟨Tryz.func125, Tryz.ntmps125⟩ : _ ∧ _).1 (by kernel_rfl) rfl
theorem ent_turn : ∀ args w, (callFunc 127 args).run Tryz.prog w = .ok (.enter 127 args) w := enters_of (⟨Tryz.func127, Tryz.ntmps127⟩ : _ ∧ _).1 (by kernel_rfl) rfl
theorem ent_course : ∀ args w, (callFunc 128 args).run Tryz.prog w = .ok (.enter 128 args) w := enters_of (⟨Tryz.func128, Tryz.ntmps128⟩ : _ ∧ _).1 (by kernel_rfl) rfl
theorem ent_dist : ∀ args w, (callFunc 130 args).run Tryz.prog w = .ok (.enter 130 args) w := enters_of (⟨Tryz.func130, Tryz.ntmps130⟩ : _ ∧ _).1 (by kernel_rfl) rfl
theorem ent_radius : ∀ args w, (callFunc 132 args).run Tryz.prog w = .ok (.enter 132 args) w := enters_of (⟨Tryz.func132, Tryz.ntmps132⟩ : _ ∧ _).1 (by kernel_rfl) rfl
theorem ent_theta : ∀ args w, (callFunc 133 args).run Tryz.prog w = .ok (.enter 133 args) w := enters_of (⟨Tryz.func133, Tryz.ntmps133⟩ : _ ∧ _).1 (by kernel_rfl) rfl
set_option maxHeartbeats 4000000 in
theorem options_any (w0 W : World) (rb sb lb n : Nat) (x : PS) (hL : Laid w0) (h : PSt w0 W rb sb lb n x) (hn : n ≤ 4000000000) :
    Calls Tryz.prog 134 #[.pointer (some ⟨rb, 0, none⟩), .pointer (some ⟨lb, 0, none⟩)] W (RetM w0 W rb sb lb n x.options) := by
  go_enter Tryz.func134, Tryz.ntmps134
  go_wp2_with fail
  have P0 := h.step (alloc_below W (.cells #[.pointer (some ⟨lb, 0, none⟩)] 156))
  have hpb : (W.alloc (.cells #[.pointer (some ⟨lb, 0, none⟩)] 156)).cell? ⟨W.heap.size, 0, none⟩ = some (.pointer (some ⟨lb, 0, none⟩)) := cell_of_row _ _ 0 _ _ _ (heap_alloc_new W _)
  have T0 : Touch [rb, lb] W (W.alloc (.cells #[.pointer (some ⟨lb, 0, none⟩)] 156)) := Touch.of (alloc_below W _)
  have nb1 : W.heap.size ≠ lb := Nat.ne_of_gt h.st.leg.lt
  have nb2 : W.heap.size ≠ rb := by
    obtain ⟨A, o, hb, _⟩ := h.st.rd
    exact Nat.ne_of_gt hb.lt
  generalize W.alloc _ = W0 at P0 hpb T0 ⊢
  generalize W.heap.size = pb at hpb nb1 nb2 ⊢
  with_reducible refine (may_any _ rb sb lb n _ _ x accOver P0.st P0.apart P0.ok (accOver_ok n) hn ent_over fun s r hw => acc_over _ lb pb s _ w0 P0.below hL P0.lb0 P0.st.leg hpb nb1 (P0.ok.wlen hn hw)).mono ?_
  rintro e W1 ⟨rfl, t1, s1⟩
  have P1 := P0.next t1 s1 (P0.ok.may (accOver_ok n))
  have T1 := T0.trans t1
  have hpb := (t1.cell (g := pb) (by simp; exact ⟨nb2, nb1⟩) (block_lt_of_cell hpb) 0).trans hpb
  go_wp2_with fail
  with_reducible refine (may_any _ rb sb lb n _ _ (x.may accOver) accWin P1.st P1.apart P1.ok (accWin_ok n) hn ent_win fun s r hw => acc_win _ lb pb s _ w0 P1.below hL P1.lb0 P1.st.leg hpb nb1 (P1.ok.wlen hn hw)).mono ?_
  rintro e W2 ⟨rfl, t2, s2⟩
  have P2 := P1.next t2 s2 (P1.ok.may (accWin_ok n))
  have T2 := T1.trans t2
  have hpb := (t2.cell (g := pb) (by simp; exact ⟨nb2, nb1⟩) (block_lt_of_cell hpb) 0).trans hpb
  go_wp2_with fail
  with_reducible refine (may_any _ rb sb lb n _ _ ((x.may accOver).may accWin) accSpeed P2.st P2.apart P2.ok (accSpeed_ok n) hn ent_speed fun s r hw => acc_speed _ lb pb s _ w0 P2.below hL P2.lb0 P2.st.leg hpb nb1 (P2.ok.wlen hn hw)).mono ?_
  rintro e W3 ⟨rfl, t3, s3⟩
  have P3 := P2.next t3 s3 (P2.ok.may (accSpeed_ok n))
  have T3 := T2.trans t3
  have hpb := (t3.cell (g := pb) (by simp; exact ⟨nb2, nb1⟩) (block_lt_of_cell hpb) 0).trans hpb
  go_wp2_with fail
  with_reducible refine (may_any _ rb sb lb n _ _ (((x.may accOver).may accWin).may accSpeed) accRnp P3.st P3.apart P3.ok (accRnp_ok n) hn ent_rnp fun s r hw => acc_rnp _ lb pb s _ w0 P3.below hL P3.lb0 P3.st.leg hpb nb1 (P3.ok.wlen hn hw)).mono ?_
  rintro e W4 ⟨rfl, t4, s4⟩
  have P4 := P3.next t4 s4 (P3.ok.may (accRnp_ok n))
  have T4 := T3.trans t4
  go_wp2
  go_end0
  exact ⟨rfl, T4, P4⟩
end Go.Proofs.YtjgondadpjildaaGreatDoor
namespace Go.Proofs.YtjgondadpjildaaGreatDoor
open Go.RowKit Go.Sort
set_option linter.unusedVariables false
set_option linter.unusedSimpArgs false
set_option maxRecDepth 100000
theorem splitB_list (l : List UInt8) : (Lib.splitB ⟨#[32]⟩ 0 (Lib.countB ⟨l.toArray⟩ ⟨#[32]⟩) ⟨l.toArray⟩).map Value.string = (words l).map fun q => Value.string ⟨q.toArray⟩ := by
  have h := Lib.splitB_data ⟨#[32]⟩ 0 (Lib.countB ⟨l.toArray⟩ ⟨#[32]⟩) ⟨l.toArray⟩
  have hc : Lib.countB ⟨l.toArray⟩ ⟨#[32]⟩ = Lib.count l [32] := by rfl
  have h2 : Lib.splitK [32] 0 (Lib.countB ⟨l.toArray⟩ ⟨#[32]⟩) l = words l := by
    rw [hc]; exact split_words l
  rw [← h2, ← show _ = Lib.splitK [32] 0 (Lib.countB ⟨l.toArray⟩ ⟨#[32]⟩) l from h, List.map_map]
  rfl
theorem countB_words (l : List UInt8) : Lib.countB ⟨l.toArray⟩ ⟨#[32]⟩ + 1 = (words l).length := by
  rw [words_len]
  have hc : Lib.countB ⟨l.toArray⟩ ⟨#[32]⟩ = Lib.count l [32] := by rfl
  rw [hc, Lib.count, countFrom_cutAt 32 _ l (by omega)]
def strCells (ws : List (List UInt8)) : Array Value := (ws.map fun q => Value.string ⟨q.toArray⟩).toArray
theorem split_any (l : List UInt8) (w : World) (hL : Laid w) (hl : l.length ≤ 4000000000) : Calls Tryz.prog 32 #[.string ⟨l.toArray⟩, .string ⟨#[32]⟩] w fun e w' =>
    e = .returned (.slice (some ⟨w.heap.size, 0, none⟩) (words l).length (words l).length) ∧ w' = w.alloc (.cells (strCells (words l)) 9) := by
  obtain ⟨m, hm⟩ := hL.maxLen
  have h := Tryz.strings_Split ⟨l.toArray⟩ ⟨#[32]⟩ m w (by simp [ByteArray.size]; omega) hm (by decide)
  rw [countB_words, splitB_list] at h
  exact h
theorem results_leg3 {fn : Func} {p t u : Tmp} (h : fn.results = #[.cell p 36, .tmp t, .tmp u]) (tmps : Array Value) (w : World) (g : Nat) (x : Leg) (hp : tmps.getD p undef = .pointer (some ⟨g, 0, none⟩)) (hx : Is_leg w g 0 x) :
    (results fn tmps).run Tryz.prog w = .ok (.tuple #[.agg x.arr, tmps.getD t undef, tmps.getD u undef]) w := by
  have hp' : tmps[p]?.getD undef = .pointer (some ⟨g, 0, none⟩) := by simpa using hp
  have hl := run_load_agg (P := Tryz.prog) w ⟨g, 0, none⟩ 36 x.arr.toList _ (fun j v hv => by
    rw [addr_add, hx j (by have := (List.getElem?_eq_some_iff.1 hv).1; simpa [Leg.arr_size] using this)]
    simpa using hv) Tryz.underlying36 rfl info_leg
  simp [results, h, hp', asAddr, hl]
abbrev parseVal (x : Leg × Int × Int) : Value := .tuple #[x.1.val, .int .i64 x.2.1, .int .i64 x.2.2]
theorem Ret.parse {w w' : World} {x : Leg × Int × Int} {l : Leg} {a b : Int} (h : x = (l, a, b)) (hw : Below w.heap.size w w') : Ret w (parseVal x) (.returned (.tuple #[.agg l.arr, .int .i64 a, .int .i64 b])) w' := by subst h; exact ⟨rfl, hw⟩
theorem leg0_arr : leg0.arr = #[.int .u8 0, .string ⟨#[]⟩, .string ⟨#[]⟩, .int .u8 0, .bool false, .int .i64 0, .int .i64 0, .int .i64 0, .int .i64 0, .int .i64 0, .int .i64 0, .int .i64 0, .int .i64 0] := rfl
theorem legOpen_arr : legOpen.arr = #[.int .u8 0, .string ⟨#[]⟩, .string ⟨#[]⟩, .int .u8 0, .bool false, .int .i64 0, .int .i64 0, .int .i64 0, .int .i64 0, .int .i64 (-200000), .int .i64 6000000, .int .i64 0, .int .i64 0] := rfl
theorem needIf_no {b : Bool} {n : Nat} {f : Acc} {x : PS} (h : b = false) : x.needIf b n f = x := by subst h; rfl
theorem needIf_yes {b : Bool} {n : Nat} {f : Acc} {x : PS} (h : b = true) : x.needIf b n f = x.need n f := by subst h; rfl
theorem done_bad {y : PS} (hb : y.bad ≠ 0) : y.done = (leg0, y.bad, 4) := by
  have h : y.badAt = y.bad := by unfold PS.badAt; rw [if_neg (fun e => hb e.2)]
  unfold PS.done; rw [h, if_pos hb]
theorem done_more {y : PS} (hb : y.bad = 0) (hw : y.ws ≠ []) (hc : 1 ≤ y.col) : y.done = (leg0, y.col, 4) := by
  have h : y.badAt = y.col := by unfold PS.badAt; rw [if_pos ⟨hw, hb⟩]
  unfold PS.done; rw [h, if_pos (by omega)]
theorem done_end {y : PS} (hb : y.bad = 0) (hw : y.ws = []) : y.done = if legCheck y.l ≠ 0 then (leg0, 0, legCheck y.l) else (y.l, 0, 0) := by
  have h : y.badAt = 0 := by unfold PS.badAt; rw [if_neg (fun e => e.1 hw)]; exact hb
  unfold PS.done; rw [h, if_neg (by simp)]
theorem is_leg0 {w : World} {g : Nat} (h : Blk w g leg0.arr) : Is_leg (w.setRow g #[.int .u8 0, .string ⟨#[]⟩, .string ⟨#[]⟩, .int .u8 0, .bool false, .int .i64 0, .int .i64 0, .int .i64 0, .int .i64 0, .int .i64 0, .int .i64 0, .int .i64 0, .int .i64 0]) g 0 leg0 := by
  rw [← leg0_arr]; exact (h.set _).is_leg
attribute [local go_sem] bit_eq bit_ne
set_option maxHeartbeats 3000000 in
theorem parse_aux (l : List UInt8) (w : World) (hL : Laid w) (hl : l.length ≤ 4000000000) (out : Leg × Int × Int) (HOUT : Hid (out = parseS l)) : Calls Tryz.prog 77 #[.string ⟨l.toArray⟩] w (Ret w (parseVal out)) := by
  go_enter Tryz.func77, Tryz.ntmps77
  go_upto_region 1 with (fail)
  have R := Blk.new w leg0.arr 36
  have B := alloc_below w (.cells leg0.arr 36)
  rw [leg0_arr] at R B
  generalize w.alloc _ = w0 at R B ⊢
  obtain ⟨g, hg0⟩ : ∃ g, g = w.heap.size := ⟨_, rfl⟩
  rw [← hg0] at R ⊢
  have hg := Nat.le_of_eq hg0.symm
  clear hg0
  have L0 := hL.below B
  go_wp2_with fail
  refine (split_any l w0 L0 hl).mono ?_
  rintro e w1 ⟨rfl, rfl⟩
  have C1 := Blk.new w0 (strCells (words l)) 9
  have b1 := alloc_below w0 (.cells (strCells (words l)) 9)
  generalize w0.alloc _ = w1 at C1 b1 ⊢
  go_upto_region 2 with (fail)
  have D1 := Blk.new w1 #[.slice (some ⟨w0.heap.size, 0, none⟩) (words l).length (words l).length, .int .i64 1, .int .i64 (l.length : Int), .int .i64 0] 149
  have b2 := alloc_below w1 (.cells #[.slice (some ⟨w0.heap.size, 0, none⟩) (words l).length (words l).length, .int .i64 1, .int .i64 (l.length : Int), .int .i64 0] 149)
  have n1 : w0.heap.size < w1.heap.size := C1.lt
  generalize w1.alloc _ = w2 at D1 b2 ⊢
  have C2 := C1.step b2
  have B2 := below_step b1 b2
  have n2 : w1.heap.size < w2.heap.size := D1.lt
  generalize w1.heap.size = rb at D1 n1 n2 ⊢
  clear b1 b2 C1
  generalize hsb : w0.heap.size = sb at D1 C2 n1 ⊢
  go_upto_region 3 with (fail)
  have X3 := Blk.new w2 legOpen.arr 36
  have b3 := alloc_below w2 (.cells legOpen.arr 36)
  rw [legOpen_arr] at X3 b3
  generalize w2.alloc _ = w3 at X3 b3 ⊢
  rw [← legOpen_arr] at X3
  have D3 := D1.step b3
  have C3 := C2.step b3
  have B3 := below_step B2 b3
  generalize w2.heap.size = lb at X3 n2 ⊢
  have P0 : PSt w0 w3 rb sb lb l.length ⟨words l, 1, 0, legOpen⟩ := ⟨⟨⟨some ⟨sb, 0, none⟩, 0, D3, fun _ => rfl, fun j hj => by
      have hj' : j < (words l).length := hj
      rw [C3.cell, Nat.zero_add]
      simp [strCells, hj']⟩, X3⟩, B3, ⟨by omega, by omega, by omega⟩, by omega, by omega, PS.begin0_ok l⟩
  clear D1 D3 C2 C3 X3 b3 B2 B3 n1 n2 hsb
  have R0 := R
  have hgl : g < w0.heap.size := R.lt
  have hnl : 1 ≠ lb := by have := L0.lt_names; have := P0.lb0; omega
  go_wp2_with fail
  with_reducible refine (need_any _ rb sb lb l.length _ _ _ accName P0.st P0.apart P0.ok (accName_ok _) hl ent_name fun s r hw => acc_name _ lb s _ (L0.below P0.below) hnl P0.st.leg (P0.ok.wlen hl hw) P0.ok.ty0 P0.ok.ty).mono ?_
  rintro e w4 ⟨rfl, t4, s4⟩
  have P1 := P0.next t4 s4 (P0.ok.need (accName_ok _))
  have HX := Lib.hid (show out = ((((PS.begin l).fields (PS.begin l).l.ty l.length).options).done) from HOUT.out)
  clear HOUT
  have e1 : (PS.need l.length accName ⟨words l, 1, 0, legOpen⟩) = PS.begin l := rfl
  rw [e1] at P1
  generalize PS.begin l = x at P1 HX
  clear e1 t4 s4 P0
  have c0 : w4.cell? ⟨lb, 0, none⟩ = some (.int .u8 x.l.ty) := P1.st.leg.cell 0
  have ty0 := P1.ok.ty0
  have ty1 := P1.ok.ty
  generalize hty : x.l.ty = ty at c0 ty0 ty1 HX
  have HTY := Lib.hid hty; clear hty
  have hu : w4.cell? ⟨0, ty.toNat, none⟩ = some (.int .u16 (usesOf ty)) := (L0.below P1.below).uses _ (by omega)
  have hty3 : 0 ≤ ty ∧ ty < 18 := by omega
  unfold PS.fields at HX
  go_upto_if 28 with (fail)
  clear hu c0
  go_cut [] (fun wx => PSt w0 wx rb sb lb l.length (x.needIf (uB ty 1) l.length accFix))
  case first =>
    cases hb : uB ty 1
    · go_wp2; go_meet; rw [needIf_no hb]; exact P1
    · go_wp2_with fail
      with_reducible refine (need_any _ rb sb lb l.length _ _ _ accFix P1.st P1.apart P1.ok (accFix_ok _) hl ent_fix fun s r hw => acc_fix _ lb s _ w0 P1.below L0 P1.lb0 P1.st.leg (P1.ok.wlen hl hw)).mono ?_
      rintro e w5 ⟨rfl, t5, s5⟩
      go_wp2
      go_meet
      rw [needIf_yes hb]
      exact P1.next t5 s5 (P1.ok.need (accFix_ok _))
  case rest =>
  clear P1
  have P1 := hcut
  clear hcut
  generalize x.needIf (uB ty 1) l.length accFix = x1 at P1 HX
  go_upto_if 34 with (fail)
  go_cut [] (fun wx => PSt w0 wx rb sb lb l.length (x1.needIf (uB ty 2) l.length accCenter))
  case first =>
    cases hb : uB ty 2
    · go_wp2; go_meet; rw [needIf_no hb]; exact P1
    · go_wp2_with fail
      with_reducible refine (need_any _ rb sb lb l.length _ _ _ accCenter P1.st P1.apart P1.ok (accCenter_ok _) hl ent_center fun s r hw => acc_center _ lb s _ w0 P1.below L0 P1.lb0 P1.st.leg (P1.ok.wlen hl hw)).mono ?_
      rintro e w5 ⟨rfl, t5, s5⟩
      go_wp2
      go_meet
      rw [needIf_yes hb]
      exact P1.next t5 s5 (P1.ok.need (accCenter_ok _))
  case rest =>
  clear P1
  have P1 := hcut
  clear hcut
  generalize x1.needIf (uB ty 2) l.length accCenter = x2 at P1 HX
  go_upto_if 40 with (fail)
  go_cut [] (fun wx => PSt w0 wx rb sb lb l.length (x2.needIf (uB ty 4) l.length accTurn))
  case first =>
    cases hb : uB ty 4
    · go_wp2; go_meet; rw [needIf_no hb]; exact P1
    · go_wp2_with fail
      with_reducible refine (need_any _ rb sb lb l.length _ _ _ accTurn P1.st P1.apart P1.ok (accTurn_ok _) hl ent_turn fun s r hw => acc_turn _ lb s _ w0 P1.below L0 P1.lb0 P1.st.leg (P1.ok.wlen hl hw)).mono ?_
      rintro e w5 ⟨rfl, t5, s5⟩
      go_wp2
      go_meet
      rw [needIf_yes hb]
      exact P1.next t5 s5 (P1.ok.need (accTurn_ok _))
  case rest =>
  clear P1
  have P1 := hcut
  clear hcut
  generalize x2.needIf (uB ty 4) l.length accTurn = x3 at P1 HX
  go_upto_if 46 with (fail)
  go_cut [] (fun wx => PSt w0 wx rb sb lb l.length (x3.needIf (uB ty 16) l.length accCourse))
  case first =>
    cases hb : uB ty 16
    · go_wp2; go_meet; rw [needIf_no hb]; exact P1
    · go_wp2_with fail
      with_reducible refine (need_any _ rb sb lb l.length _ _ _ accCourse P1.st P1.apart P1.ok (accCourse_ok _) hl ent_course fun s r hw => acc_course _ lb s _ w0 P1.below L0 P1.lb0 P1.st.leg (P1.ok.wlen hl hw)).mono ?_
      rintro e w5 ⟨rfl, t5, s5⟩
      go_wp2
      go_meet
      rw [needIf_yes hb]
      exact P1.next t5 s5 (P1.ok.need (accCourse_ok _))
  case rest =>
  clear P1
  have P1 := hcut
  clear hcut
  generalize x3.needIf (uB ty 16) l.length accCourse = x4 at P1 HX
  go_upto_if 52 with (fail)
  go_cut [] (fun wx => PSt w0 wx rb sb lb l.length (x4.needIf (uB ty 32) l.length accDist))
  case first =>
    cases hb : uB ty 32
    · go_wp2; go_meet; rw [needIf_no hb]; exact P1
    · go_wp2_with fail
      with_reducible refine (need_any _ rb sb lb l.length _ _ _ accDist P1.st P1.apart P1.ok (accDist_ok _) hl ent_dist fun s r hw => acc_dist _ lb s _ w0 P1.below L0 P1.lb0 P1.st.leg (P1.ok.wlen hl hw)).mono ?_
      rintro e w5 ⟨rfl, t5, s5⟩
      go_wp2
      go_meet
      rw [needIf_yes hb]
      exact P1.next t5 s5 (P1.ok.need (accDist_ok _))
  case rest =>
  clear P1
  have P1 := hcut
  clear hcut
  generalize x4.needIf (uB ty 32) l.length accDist = x5 at P1 HX
  go_upto_if 58 with (fail)
  go_cut [] (fun wx => PSt w0 wx rb sb lb l.length (x5.needIf (uB ty 64) l.length accRadius))
  case first =>
    cases hb : uB ty 64
    · go_wp2; go_meet; rw [needIf_no hb]; exact P1
    · go_wp2_with fail
      with_reducible refine (need_any _ rb sb lb l.length _ _ _ accRadius P1.st P1.apart P1.ok (accRadius_ok _) hl ent_radius fun s r hw => acc_radius _ lb s _ w0 P1.below L0 P1.lb0 P1.st.leg (P1.ok.wlen hl hw)).mono ?_
      rintro e w5 ⟨rfl, t5, s5⟩
      go_wp2
      go_meet
      rw [needIf_yes hb]
      exact P1.next t5 s5 (P1.ok.need (accRadius_ok _))
  case rest =>
  clear P1
  have P1 := hcut
  clear hcut
  generalize x5.needIf (uB ty 64) l.length accRadius = x6 at P1 HX
  go_upto_if 64 with (fail)
  go_cut [] (fun wx => PSt w0 wx rb sb lb l.length (x6.needIf (uB ty 128) l.length accTheta))
  case first =>
    cases hb : uB ty 128
    · go_wp2; go_meet; rw [needIf_no hb]; exact P1
    · go_wp2_with fail
      with_reducible refine (need_any _ rb sb lb l.length _ _ _ accTheta P1.st P1.apart P1.ok (accTheta_ok _) hl ent_theta fun s r hw => acc_theta _ lb s _ w0 P1.below L0 P1.lb0 P1.st.leg (P1.ok.wlen hl hw)).mono ?_
      rintro e w5 ⟨rfl, t5, s5⟩
      go_wp2
      go_meet
      rw [needIf_yes hb]
      exact P1.next t5 s5 (P1.ok.need (accTheta_ok _))
  case rest =>
  clear P1
  have P1 := hcut
  clear hcut
  generalize x6.needIf (uB ty 128) l.length accTheta = x7 at P1 HX
  go_wp2_with fail
  with_reducible refine (options_any w0 _ rb sb lb l.length x7 L0 P1 hl).mono ?_
  rintro e w5 ⟨rfl, t5, P2⟩
  generalize x7.options = y at P2 HX
  clear P1 t5
  have kp := Lib.hid (peek_any w5 rb sb l.length y P2.st.rd)
  obtain ⟨q1, q2, q3, q4⟩ := P2.st.rd.cells
  have R5 := R0.below P2.below hgl
  have B5 := B.trans (P2.below.mono B.size)
  have hc1 := P2.ok.one
  have hrg : rb ≠ g := by have := P2.rb0; omega
  have hlg : lb ≠ g := by have := P2.lb0; omega
  have R5d : Blk w5.drew g leg0.arr := R5
  have d2 := R5.plain
  have d3 : blkOf w5 g = leg0.arr := R5.of
  have d4 := R5d.plain
  have d5 := R5d.of
  have f3 : splice leg0.arr 0 leg0.arr = leg0.arr := rfl
  rw [leg0_arr] at d3 d5 f3
  by_cases hb : y.bad = 0
  · rw [hb] at q3
    cases hw : y.ws with
    | nil =>
      have HO := Lib.hid (HX.out.trans (done_end hb hw))
      rw [hw] at kp
      have HSM := Lib.hid (show y.l.small from ⟨Nat.le_trans P2.ok.fix hl, Nat.le_trans P2.ok.center hl⟩)
      have X5 := P2.st.leg
      have i1 : Has_leg w5 lb 0 := ⟨_, X5.is_leg⟩
      have i2 : of_leg w5 lb 0 = y.l := of_leg_eq X5.is_leg
      have kc := Lib.hid (check_any y.l w5 (L0.below P2.below) HSM.out)
      clear HX hb hw
      go_wp2_with (go_at_call 135; refine callP kp.out ?_)
      with_reducible refine callR kc.out ?_
      intro w6 b6 _ _ _
      have R6 := R5.step b6
      have B6 := below_step B5 b6
      have X6 := X5.step b6
      clear d2 d3 d4 d5 i1 i2
      have i1 : Has_leg w6 lb 0 := ⟨_, X6.is_leg⟩
      have i2 : of_leg w6 lb 0 = y.l := of_leg_eq X6.is_leg
      have d2 := R6.plain
      have d3 := R6.of
      by_cases he : legCheck y.l = 0
      · have HO2 := Lib.hid (HO.out.trans (if_neg (by simp [he])))
        have f4 : splice leg0.arr 0 y.l.arr = y.l.arr := rfl
        rw [leg0_arr] at f4
        rw [he]
        clear he HO
        go_upto_region 28 with (fail)
        rename_i hK
        have HK := Lib.hid hK
        clear hK
        go_wp2
        refine HK.out _ _ (wp_ret ?_)
        show bodyPost Tryz.prog _ _ Exit.ret _ _
        refine bodyPost_ret (results_leg3 Tryz.results77 _ _ g y.l rfl (Blk.is_leg (x := y.l) (R6.set _))) rfl ?_
        exact Ret.parse HO2.out (below_setRow' B6 hg _)
      · have HO2 := Lib.hid (HO.out.trans (if_pos he))
        have he1 : (legCheck y.l == 0) = false := by simpa using he
        clear he HO
        generalize legCheck y.l = ec at he1 HO2 ⊢
        go_upto_region 27 with (fail)
        rename_i hK
        have HK := Lib.hid hK
        clear hK
        go_wp2
        refine HK.out _ _ (wp_ret ?_)
        show bodyPost Tryz.prog _ _ Exit.ret _ _
        refine bodyPost_ret (results_leg3 Tryz.results77 _ _ g leg0 rfl (is_leg0 R6)) rfl ?_
        have Bf := below_setRow' B6 hg leg0.arr
        rw [leg0_arr] at Bf
        exact Ret.parse HO2.out Bf
    | cons s r =>
      have HO := Lib.hid (HX.out.trans (done_more hb (by simp [hw]) hc1))
      rw [hw] at kp
      have S6 := P2.st.setBad P2.apart y.col
      clear HX hb hw
      generalize y.col = col at q1 hc1 HO S6
      have hc0 : (col == 0) = false := by rw [beq_eq_false_iff_ne]; omega
      have R6 := R5.setFar (Ne.symm hrg) 3 (.int .i64 col)
      have B6 := below_setCell B5 (show w.heap.size ≤ rb by have := P2.rb0; have := B.size; omega) 3 (.int .i64 col)
      have r3 : (w5.setCell ⟨rb, 3, none⟩ (.int .i64 col)).cell? ⟨rb, 3, none⟩ = some (.int .i64 col) := S6.rd.cells.2.2.1
      clear d2 d3 d4 d5
      go_upto_region 23 with (go_at_call 135; refine callP kp.out ?_)
      generalize w5.setCell ⟨rb, 3, none⟩ (.int .i64 col) = w6 at R6 B6 r3 ⊢
      have R6d : Blk w6.drew g leg0.arr := R6
      have d2 := R6.plain
      have d3 : blkOf w6 g = leg0.arr := R6.of
      have d4 := R6d.plain
      have d5 := R6d.of
      rw [leg0_arr] at d3 d5
      go_wp2
      go_region
      rename_i hK
      refine hK _ _ (wp_ret ?_)
      show bodyPost Tryz.prog _ _ Exit.ret _ _
      refine bodyPost_ret (results_leg3 Tryz.results77 _ _ g leg0 rfl (is_leg0 R6d)) rfl ?_
      have Bf := below_setRow' B6.drew hg leg0.arr
      rw [leg0_arr] at Bf
      exact Ret.parse HO.out Bf
  · have hb' : (y.bad == 0) = false := by simpa using hb
    have HO := Lib.hid (HX.out.trans (done_bad hb))
    clear HX
    generalize y.bad = bad at q3 hb' HO
    clear hb
    cases hw : y.ws
    all_goals
      rw [hw] at kp
      clear hw
      go_wp2_with (go_at_call 135; refine callP kp.out ?_)
      go_region
      rename_i hK
      refine hK _ _ (wp_ret ?_)
      show bodyPost Tryz.prog _ _ Exit.ret _ _
      refine bodyPost_ret (results_leg3 Tryz.results77 _ _ g leg0 rfl (is_leg0 R5d)) rfl ?_
      have Bf := below_setRow' B5.drew hg leg0.arr
      rw [leg0_arr] at Bf
      exact Ret.parse HO.out Bf
theorem parse_any (l : List UInt8) (w : World) (hL : Laid w) (hl : l.length ≤ 4000000000) : Calls Tryz.prog 77 #[.string ⟨l.toArray⟩] w (Ret w (parseVal (parseS l))) := parse_aux l w hL hl _ (Lib.hid rfl)
end Go.Proofs.YtjgondadpjildaaGreatDoor
namespace Go.Proofs.YtjgondadpjildaaGreatDoor
open Go.RowKit Go.Sort
set_option linter.unusedVariables false
set_option linter.unusedSimpArgs false
theorem need_back {n : Nat} {x : PS} {f : Acc} (h1 : 1 ≤ x.col) (h : (x.need n f).bad = 0) : x.bad = 0 ∧ ∃ s, x.ws = s :: (x.need n f).ws ∧ (f s x.l).2 = true ∧ (x.need n f).l = (f s x.l).1 := by
  unfold PS.need at h ⊢
  by_cases hb : x.bad ≠ 0
  · rw [if_pos hb] at h; exact absurd h hb
  · rw [if_neg hb] at h ⊢
    match hw : x.ws with
    | [] => rw [hw] at h; simp only at h; omega
    | s :: r =>
      rw [hw] at h
      simp only at h ⊢
      by_cases ha : (f s x.l).2 = true
      · rw [if_pos ha]; exact ⟨by omega, s, rfl, ha, rfl⟩
      · rw [if_neg ha] at h; simp only at h; omega
theorem may_back {x : PS} {f : Acc} (h : (x.may f).bad = 0) : x.bad = 0 ∧ ((∃ s, x.ws = s :: (x.may f).ws ∧ (f s x.l).2 = true ∧ (x.may f).l = (f s x.l).1) ∨ (x.ws = (x.may f).ws ∧ ((x.may f).l = x.l ∨ ∃ s, (f s x.l).2 = false ∧ (x.may f).l = (f s x.l).1))) := by
  unfold PS.may at h ⊢
  by_cases hb : x.bad ≠ 0
  · rw [if_pos hb] at h; exact absurd h hb
  · rw [if_neg hb] at h ⊢
    match hw : x.ws with
    | [] => refine ⟨by omega, .inr ⟨?_, .inl rfl⟩⟩; simp only [hw]
    | s :: r =>
      rw [hw] at h
      simp only at h ⊢
      by_cases ha : (f s x.l).2 = true
      · rw [if_pos ha]; exact ⟨by omega, .inl ⟨s, rfl, ha, rfl⟩⟩
      · rw [if_neg ha]; refine ⟨by omega, .inr ⟨?_, .inr ⟨s, by simpa using ha, rfl⟩⟩⟩; simp only [hw]
theorem needIf_back {n : Nat} {x : PS} {f : Acc} {b : Bool} (h1 : 1 ≤ x.col) (h : (x.needIf b n f).bad = 0) : x.bad = 0 ∧ ((b = false ∧ x.needIf b n f = x) ∨ (b = true ∧ ∃ s, x.ws = s :: (x.needIf b n f).ws ∧ (f s x.l).2 = true ∧ (x.needIf b n f).l = (f s x.l).1)) := by
  cases b
  · exact ⟨h, .inl ⟨rfl, rfl⟩⟩
  · obtain ⟨a, s, c⟩ := need_back h1 h
    exact ⟨a, .inr ⟨rfl, s, c⟩⟩
/-- One wanted word: what it was, and which field it set. -/
theorem step_back {n : Nat} {x : PS} {f : Acc} {b : Bool} {α : Type} (get : Leg → α) (set : Leg → α → Leg) (txt : α → List UInt8) (hs : ∀ l, set l (get l) = l) (h1 : 1 ≤ x.col) (h : (x.needIf b n f).bad = 0)
    (hf : ∀ s l, (f s l).2 = true → ∃ v, (f s l).1 = set l v ∧ s = txt v) :
    x.bad = 0 ∧ ∃ v, x.ws = opt b (txt v) ++ (x.needIf b n f).ws ∧ (x.needIf b n f).l = set x.l v := by
  obtain ⟨h0, hc⟩ := needIf_back h1 h
  refine ⟨h0, ?_⟩
  rcases hc with ⟨rfl, e⟩ | ⟨rfl, s, e1, e2, e3⟩
  · exact ⟨get x.l, by rw [e]; rfl, by rw [e, hs]⟩
  · obtain ⟨v, v1, v2⟩ := hf s x.l e2
    exact ⟨v, by rw [e1, v2]; rfl, by rw [e3, v1]⟩
theorem acc_col {n : Nat} {x : PS} (h : x.Ok n) : 1 ≤ x.col := h.one
theorem fields_back {n : Nat} {t : Int} {x : PS} (hx : x.Ok n) (h : (x.fields t n).bad = 0) : x.bad = 0 ∧ ∃ fx ce tu co di ra th,
    x.ws = opt (uB t 1) fx ++ (opt (uB t 2) (64 :: ce) ++ (opt (uB t 4) (if tu = 1 then [76] else [82]) ++ (opt (uB t 16) (exactS (Int.toNat co)) ++ (opt (uB t 32) (100 :: distS (Int.toNat di)) ++ (opt (uB t 64) (114 :: distS (Int.toNat ra)) ++ (opt (uB t 128) (116 :: exactS (Int.toNat th)) ++ (x.fields t n).ws)))))) ∧
    (x.fields t n).l = { x.l with fix := fx, center := ce, turn := tu, course := co, dist := di, radius := ra, theta := th } := by
  unfold PS.fields at h ⊢
  have o1 := hx.needIf (uB t 1) (accFix_ok n)
  have o2 := o1.needIf (uB t 2) (accCenter_ok n)
  have o3 := o2.needIf (uB t 4) (accTurn_ok n)
  have o4 := o3.needIf (uB t 16) (accCourse_ok n)
  have o5 := o4.needIf (uB t 32) (accDist_ok n)
  have o6 := o5.needIf (uB t 64) (accRadius_ok n)
  obtain ⟨b7, th, w7, l7⟩ := step_back (·.theta) (fun l v => { l with theta := v }) (fun v => 116 :: exactS (Int.toNat v)) (fun _ => rfl) o6.one h (fun s l e => by
    unfold accTheta at e ⊢
    split at e
    · cases e
    · rename_i c r
      by_cases hc : c = 116
      · rw [if_pos hc] at e
        have := courseS_back e
        exact ⟨(courseS r).1, by simp only [hc, if_true], by rw [hc, this.2.2]⟩
      · rw [if_neg hc] at e; cases e)
  obtain ⟨b6, ra, w6, l6⟩ := step_back (·.radius) (fun l v => { l with radius := v }) (fun v => 114 :: distS (Int.toNat v)) (fun _ => rfl) o5.one b7 (fun s l e => ⟨_, rfl, (legDist_back e).2⟩)
  obtain ⟨b5, di, w5, l5⟩ := step_back (·.dist) (fun l v => { l with dist := v }) (fun v => 100 :: distS (Int.toNat v)) (fun _ => rfl) o4.one b6 (fun s l e => ⟨_, rfl, (legDist_back e).2⟩)
  obtain ⟨b4, co, w4, l4⟩ := step_back (·.course) (fun l v => { l with course := v }) (fun v => exactS (Int.toNat v)) (fun _ => rfl) o3.one b5 (fun s l e => ⟨_, rfl, (courseS_back e).2.2.symm⟩)
  obtain ⟨b3, tu, w3, l3⟩ := step_back (·.turn) (fun l v => { l with turn := v }) (fun v => if v = 1 then [76] else [82]) (fun _ => rfl) o2.one b4 (fun s l e => by
    refine ⟨_, rfl, ?_⟩
    unfold accTurn at e
    simp only [Bool.or_eq_true, beq_iff_eq] at e
    rcases e with e | e <;> rw [e] <;> rfl)
  obtain ⟨b2, ce, w2, l2⟩ := step_back (·.center) (fun l v => { l with center := v }) (fun v => 64 :: v) (fun _ => rfl) o1.one b3 (fun s l e => by
    refine ⟨_, rfl, ?_⟩
    unfold accCenter at e
    simp only [Bool.and_eq_true] at e
    have h2 := e.1
    unfold cutPre at h2 ⊢
    split at h2
    · rename_i c r
      by_cases hc : c = 64
      · simp only [hc, if_true]
      · rw [if_neg hc] at h2; cases h2
    · cases h2)
  obtain ⟨b1, fx, w1, l1⟩ := step_back (·.fix) (fun l v => { l with fix := v }) (fun v => v) (fun _ => rfl) hx.one b2 (fun s l e => ⟨s, rfl, rfl⟩)
  refine ⟨b1, fx, ce, tu, co, di, ra, th, ?_, ?_⟩
  · rw [w1, w2, w3, w4, w5, w6, w7]
  · rw [l7, l6, l5, l4, l3, l2, l1]
/-- One word that may stand. -/
theorem may_step {x : PS} {f : Acc} {α : Type} (get : Leg → α) (set : Leg → α → Leg) (txt : α → List UInt8) (has : α → Bool) (hs : ∀ l, set l (get l) = l) (d : α) (hd : has d = false) (hg : get x.l = d) (h : (x.may f).bad = 0)
    (hf : ∀ s l, (f s l).2 = true → ∃ v, (f s l).1 = set l v ∧ s = txt v ∧ has v = true) (hn : ∀ s l, get l = d → (f s l).2 = false → (f s l).1 = l) :
    x.bad = 0 ∧ ∃ v, x.ws = opt (has v) (txt v) ++ (x.may f).ws ∧ (x.may f).l = set x.l v := by
  obtain ⟨h0, hc⟩ := may_back h
  refine ⟨h0, ?_⟩
  rcases hc with ⟨s, e1, e2, e3⟩ | ⟨e1, e2⟩
  · obtain ⟨v, v1, v2, v3⟩ := hf s x.l e2
    exact ⟨v, by rw [e1, v2, v3]; rfl, by rw [e3, v1]⟩
  · refine ⟨d, by rw [hd, e1]; rfl, ?_⟩
    rw [← hg, hs]
    rcases e2 with e2 | ⟨s, e2, e3⟩
    · exact e2
    · rw [e3]; exact hn s x.l hg e2
theorem options_back {x : PS} (ho : x.l.over = false) (hw : x.l.lo = -200000 ∧ x.l.hi = 6000000) (hs : x.l.speed = 0) (hr : x.l.rnp = 0) (h : x.options.bad = 0) : x.bad = 0 ∧ ∃ o lo hi sp rn,
    x.ws = opt o [111, 118, 101, 114] ++ (opt (lo != -200000 || hi != 6000000) (winS lo hi) ++ (opt (sp != 0) (115 :: Lib.decDigits (Int.toNat sp)) ++ (opt (rn != 0) (110 :: distS (Int.toNat rn)) ++ x.options.ws))) ∧
    x.options.l = { x.l with over := o, lo := lo, hi := hi, speed := sp, rnp := rn } := by
  unfold PS.options at h ⊢
  have back4 := may_back h
  have back3 := may_back back4.1
  have back2 := may_back back3.1
  obtain ⟨b1, o, w1, l1⟩ := may_step (x := x) (f := accOver) (·.over) (fun l v => { l with over := v }) (fun _ => [111, 118, 101, 114]) (fun v => v) (fun _ => rfl) false rfl ho back2.1
    (fun s l e => by
      unfold accOver at e ⊢
      simp only at e ⊢
      exact ⟨true, by rw [e], by simpa using e, rfl⟩)
    (fun s l e0 e => by
      unfold accOver at e ⊢
      simp only at e ⊢
      rw [e, ← e0])
  obtain ⟨b2, ⟨lo, hi⟩, w2, l2⟩ := may_step (x := x.may accOver) (f := accWin) (fun l => (l.lo, l.hi)) (fun l v => { l with lo := v.1, hi := v.2 }) (fun v => winS v.1 v.2) (fun v => v.1 != -200000 || v.2 != 6000000) (fun _ => rfl) (-200000, 6000000) rfl
    (by rw [l1]; simp only [hw.1, hw.2]) back3.1
    (fun s l e => by
      unfold accWin at e ⊢
      by_cases ht : winTaken s = true
      · rw [if_pos ht]
        obtain ⟨_, k2, k3⟩ := win_back ht
        refine ⟨((parseWinS s).1.1, (parseWinS s).1.2), rfl, k2.symm, ?_⟩
        simp only [Bool.or_eq_true, bne_iff_ne, ne_eq]
        rcases Int.decEq (parseWinS s).1.1 (-200000) with h1 | h1
        · exact .inl h1
        · exact .inr fun h2 => k3 ⟨h1, h2⟩
      · rw [if_neg ht] at e; cases e)
    (fun s l e0 e => by
      unfold accWin at e ⊢
      by_cases ht : winTaken s = true
      · rw [if_pos ht] at e; cases e
      · rw [if_neg ht])
  obtain ⟨b3, sp, w3, l3⟩ := may_step (x := (x.may accOver).may accWin) (f := accSpeed) (·.speed) (fun l v => { l with speed := v }) (fun v => 115 :: Lib.decDigits (Int.toNat v)) (fun v => v != 0) (fun _ => rfl) 0 rfl
    (by rw [l2, l1]; exact hs) back4.1
    (fun s l e => by
      unfold accSpeed at e ⊢
      by_cases ht : (speedS s).2 = true
      · rw [if_pos ht]
        obtain ⟨k1, k2⟩ := speed_back ht
        exact ⟨_, rfl, k2, by simp; omega⟩
      · rw [if_neg ht] at e; cases e)
    (fun s l e0 e => by
      unfold accSpeed at e ⊢
      by_cases ht : (speedS s).2 = true
      · rw [if_pos ht] at e; cases e
      · rw [if_neg ht])
  obtain ⟨b4, rn, w4, l4⟩ := may_step (x := ((x.may accOver).may accWin).may accSpeed) (f := accRnp) (·.rnp) (fun l v => { l with rnp := v }) (fun v => 110 :: distS (Int.toNat v)) (fun v => v != 0) (fun _ => rfl) 0 rfl
    (by rw [l3, l2, l1]; exact hr) h
    (fun s l e => by
      unfold accRnp at e ⊢
      by_cases ht : (legDistS 110 s).2 = true
      · rw [if_pos ht]
        obtain ⟨k1, k2⟩ := legDist_back ht
        exact ⟨_, rfl, k2, by simp; omega⟩
      · rw [if_neg ht] at e; cases e)
    (fun s l e0 e => by
      unfold accRnp at e ⊢
      by_cases ht : (legDistS 110 s).2 = true
      · rw [if_pos ht] at e; cases e
      · rw [if_neg ht])
  refine ⟨b1, o, lo, hi, sp, rn, ?_, ?_⟩
  · rw [w1, w2, w3, w4]
  · rw [l4, l3, l2, l1]
theorem begin_back {s : List UInt8} (h : (PS.begin s).bad = 0) : ∃ t, knownB t = true ∧ words s = nameOf t :: (PS.begin s).ws ∧ (PS.begin s).l = { legOpen with ty := t } := by
  unfold PS.begin at h ⊢
  obtain ⟨_, w, e1, e2, e3⟩ := need_back (by simp) h
  have h2 : typeK w 0 18 ≠ 0 := by
    have h3 : (typeK w 0 18 != 0) = true := e2
    simpa using h3
  obtain ⟨k1, k2⟩ := typeK_back w 18 (by omega) h2
  exact ⟨typeK w 0 18, k1, by rw [k2]; exact e1, e3⟩
theorem begin_ok (s : List UInt8) : (PS.begin s).Ok s.length := by
  unfold PS.begin
  exact (PS.begin0_ok s).need (accName_ok _)
theorem fields_ok {n : Nat} {x : PS} (t : Int) (h : x.Ok n) : (x.fields t n).Ok n := by
  unfold PS.fields
  exact ((((((h.needIf _ (accFix_ok n)).needIf _ (accCenter_ok n)).needIf _ (accTurn_ok n)).needIf _ (accCourse_ok n)).needIf _ (accDist_ok n)).needIf _ (accRadius_ok n)).needIf _ (accTheta_ok n)
theorem last_ok (s : List UInt8) : (PS.last s).Ok s.length := by
  unfold PS.last PS.options
  exact ((((fields_ok _ (begin_ok s)).may (accOver_ok _)).may (accWin_ok _)).may (accSpeed_ok _)).may (accRnp_ok _)
/-- The three cases of a reading. -/
theorem parse_cases (s : List UInt8) : (∃ c, parseS s = (leg0, c, 4) ∧ c ≠ 0) ∨ (∃ e, parseS s = (leg0, 0, e) ∧ e ≠ 0) ∨ (legCheck (parseS s).1 = 0 ∧ textS (parseS s).1 = s ∧ parseS s = ((parseS s).1, 0, 0) ∧ (parseS s).1.fix.length ≤ s.length ∧ (parseS s).1.center.length ≤ s.length) := by
  have hk := last_ok s
  unfold parseS PS.done
  by_cases hb : (PS.last s).badAt ≠ 0
  · left; rw [if_pos hb]; exact ⟨_, rfl, hb⟩
  · rw [if_neg hb]
    by_cases hc : legCheck (PS.last s).l ≠ 0
    · right; left; rw [if_pos hc]; exact ⟨_, rfl, hc⟩
    · right; right
      rw [if_neg hc]
      have hc0 : legCheck (PS.last s).l = 0 := by omega
      have h1 := hk.one
      have hws : (PS.last s).ws = [] ∧ (PS.last s).bad = 0 := by
        unfold PS.badAt at hb
        by_cases hq : (PS.last s).ws ≠ [] ∧ (PS.last s).bad = 0
        · rw [if_pos hq] at hb; omega
        · rw [if_neg hq] at hb
          have h0 : (PS.last s).bad = 0 := by omega
          refine ⟨?_, h0⟩
          cases hw : (PS.last s).ws with
          | nil => rfl
          | cons a r => exact absurd ⟨by rw [hw]; simp, h0⟩ hq
      refine ⟨hc0, ?_, rfl, hk.fix, hk.center⟩
      have hws2 := hws
      unfold PS.last at hws2
      have ob := begin_ok s
      have bo : ∀ x : PS, x.options.bad = 0 → x.bad = 0 := fun x h => by
        unfold PS.options at h
        exact (may_back (may_back (may_back (may_back h).1).1).1).1
      have bb := (fields_back ob (bo _ hws2.2)).1
      obtain ⟨t, kt, wb, lb⟩ := begin_back bb
      have ot : (PS.begin s).l.ty = t := by rw [lb]
      rw [ot] at hws2
      obtain ⟨_, fx, ce, tu, co, di, ra, th, wf, lf⟩ := fields_back ob (bo _ hws2.2)
      rw [lb] at lf
      obtain ⟨_, o, lo, hi, sp, rn, wo, lo'⟩ := options_back (x := (PS.begin s).fields t s.length) (by rw [lf]; rfl) (by rw [lf]; exact ⟨rfl, rfl⟩) (by rw [lf]; rfl) (by rw [lf]; rfl) hws2.2
      have hl : (PS.last s).l = ⟨t, fx, ce, tu, o, co, di, ra, th, lo, hi, sp, rn⟩ := by
        unfold PS.last
        rw [ot, lo', lf]
      have hj : s = Lib.join (words s) [32] := (join_words s).symm
      refine Eq.trans ?_ hj.symm
      rw [textS_eq hc0, hl, wb, wf, wo, hws2.1]
      congr 1
      simp only [legWords, winB, txOf, List.append_assoc, List.append_nil, List.singleton_append, List.cons_append, List.nil_append]
end Go.Proofs.YtjgondadpjildaaGreatDoor
