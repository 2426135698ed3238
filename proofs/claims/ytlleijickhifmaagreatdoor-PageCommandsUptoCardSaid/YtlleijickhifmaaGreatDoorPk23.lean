/- Windows read: record.window, record.ParseWindow. -/
import Derived.Test.YtlleijickhifmaaGreatDoorPk22
namespace Go.Proofs.YtlleijickhifmaaGreatDoor
open Go.RowKit Go.Sort
set_option linter.unusedVariables false
set_option linter.unusedSimpArgs false
set_option maxRecDepth 100000
theorem results_win {fn : Func} {p t : Tmp} (h : fn.results = #[.cell p 51, .tmp t]) (tmps : Array Value) (w : World) (g : Nat) (x : Win) (hp : tmps.getD p undef = .pointer (some ⟨g, 0, none⟩)) (hx : Is_win w g 0 x) :
    (results fn tmps).run Tryz.prog w = .ok (.tuple #[.agg x.arr, tmps.getD t undef]) w := by
  have hp' : tmps[p]?.getD undef = .pointer (some ⟨g, 0, none⟩) := by simpa using hp
  have hl := run_load_agg (P := Tryz.prog) w ⟨g, 0, none⟩ 51 x.arr.toList _ (fun j v hv => by
    rw [addr_add, hx j (by have := (List.getElem?_eq_some_iff.1 hv).1; simpa [Win.arr_size] using this)]
    simpa using hv) Tryz.underlying51 rfl info_win
  simp [results, h, hp', asAddr, hl]
abbrev winBVal (x : (Int × Int) × Bool) : Value := .tuple #[.agg (Win.arr ⟨x.1.1, x.1.2⟩), .bool x.2]
abbrev winEVal (x : (Int × Int) × Int) : Value := .tuple #[.agg (Win.arr ⟨x.1.1, x.1.2⟩), .int .i64 x.2]
theorem Ret.winB {w w' : World} {x : (Int × Int) × Bool} {a b : Int} {c : Bool} (h : x = ((a, b), c)) (hw : Below w.heap.size w w') : Ret w (winBVal x) (.returned (.tuple #[.agg (Win.arr ⟨a, b⟩), .bool c])) w' := by subst h; exact ⟨rfl, hw⟩
theorem Ret.winE {w w' : World} {x : (Int × Int) × Int} {a b c : Int} (h : x = ((a, b), c)) (hw : Below w.heap.size w w') : Ret w (winEVal x) (.returned (.tuple #[.agg (Win.arr ⟨a, b⟩), .int .i64 c])) w' := by subst h; exact ⟨rfl, hw⟩
theorem wmk (a b : Int) : Win.arr ⟨a, b⟩ = #[.int .i64 a, .int .i64 b] := rfl
theorem winP_1 : winP [45] = ((-200000, 6000000), true) := rfl
theorem winP_2 {s : List UInt8} (h : s ≠ [45]) (h2 : (cutAt 58 s).2.2 = true) : winP s = (((altP (cutAt 58 s).1).1, (altP (cutAt 58 s).2.1).1), (altP (cutAt 58 s).1).2 && (altP (cutAt 58 s).2.1).2) := by unfold winP; rw [if_neg h, if_pos h2]
theorem winP_3 {s : List UInt8} (h : s ≠ [45]) (h2 : (cutAt 58 s).2.2 = false) (h3 : (cutSuf 43 s).2 = true) : winP s = (((altP (cutSuf 43 s).1).1, 6000000), (altP (cutSuf 43 s).1).2) := by unfold winP; rw [if_neg h, if_neg (by simp [h2]), if_pos h3]
theorem winP_4 {s : List UInt8} (h : s ≠ [45]) (h2 : (cutAt 58 s).2.2 = false) (h3 : (cutSuf 43 s).2 = false) (h4 : (cutSuf 45 s).2 = true) : winP s = ((-200000, (altP (cutSuf 45 s).1).1), (altP (cutSuf 45 s).1).2) := by unfold winP; rw [if_neg h, if_neg (by simp [h2]), if_neg (by simp [h3]), if_pos h4]
theorem winP_5 {s : List UInt8} (h : s ≠ [45]) (h2 : (cutAt 58 s).2.2 = false) (h3 : (cutSuf 43 s).2 = false) (h4 : (cutSuf 45 s).2 = false) : winP s = (((altP s).1, (altP s).1), (altP s).2) := by unfold winP; rw [if_neg h, if_neg (by simp [h2]), if_neg (by simp [h3]), if_neg (by simp [h4])]
theorem cutSuf_len (c : UInt8) (s : List UInt8) : (cutSuf c s).1.length ≤ s.length := by unfold cutSuf; split <;> simp
attribute [local go_sem] wmk
theorem spl_win (a b c d : Int) : splice #[.int .i64 a, .int .i64 b] 0 #[.int .i64 c, .int .i64 d] = #[.int .i64 c, .int .i64 d] := rfl
attribute [local go_sem] spl_win
set_option maxHeartbeats 8000000 in
theorem window_any (l : List UInt8) (w : World) (hL : Laid w) (hl : l.length ≤ 4000000000) : Calls Tryz.prog 57 #[.string ⟨l.toArray⟩] w (Ret w (winBVal (winP l))) := by
  by_cases h45 : l = [45]
  · subst h45
    rw [winP_1]
    go_enter Tryz.func57, Tryz.ntmps57
    go_upto_region 1 with (fail)
    have R0 := Blk.new w #[.int .i64 0, .int .i64 0] 51
    have B0 := alloc_below w (.cells #[.int .i64 0, .int .i64 0] 51)
    generalize w.alloc _ = W0 at R0 B0 ⊢
    obtain ⟨g, hg0⟩ : ∃ g, g = w.heap.size := ⟨_, rfl⟩
    rw [← hg0] at R0 ⊢
    have hg := Nat.le_of_eq hg0.symm
    clear hg0
    go_upto_region 2 with (fail)
    have X := Blk.new W0 #[.int .i64 (-200000), .int .i64 6000000] 51
    have R := R0.alloc (.cells #[.int .i64 (-200000), .int .i64 6000000] 51)
    have B := below_step B0 (alloc_below W0 (.cells #[.int .i64 (-200000), .int .i64 6000000] 51))
    have hne : g < W0.heap.size := R0.lt
    clear R0 B0
    generalize W0.alloc _ = W at X R B ⊢
    generalize W0.heap.size = g2 at X hne ⊢
    have LW := hL.below B
    have c4 : Has_win W g2 0 := ⟨⟨-200000, 6000000⟩, X.is_win⟩
    have c5 : of_win W g2 0 = ⟨-200000, 6000000⟩ := of_win_eq X.is_win
    have d2 := R.plain
    have d3 := R.of
    go_wp2
    refine bodyPost_ret (results_win Tryz.results57 _ _ g ⟨-200000, 6000000⟩ rfl (Blk.is_win (x := ⟨-200000, 6000000⟩) (R.set _))) rfl ?_; exact Ret.winB rfl (below_setRow' B hg _)
  · have q45 : (l == [45]) = false := by simpa using h45
    have HP2 := Lib.hid (winP_2 h45)
    have HP3 := Lib.hid (winP_3 h45)
    have HP4 := Lib.hid (winP_4 h45)
    have HP5 := Lib.hid (winP_5 h45)
    have k1 := Lib.hid (fun w L => cut_ret l 58 w L hl)
    have k2 := Lib.hid (fun w => cutSuffix_any 43 l w (by omega))
    have k3 := Lib.hid (fun w => cutSuffix_any 45 l w (by omega))
    have hl1 := cutAt_len 58 l
    have hl2 := cutSuf_len 43 l
    have hl3 := cutSuf_len 45 l
    clear h45
    generalize winP l = out at HP2 HP3 HP4 HP5 ⊢
    generalize cutAt 58 l = q at k1 hl1 HP2 HP3 HP4 HP5
    generalize cutSuf 43 l = q2 at k2 hl2 HP3 HP4 HP5
    generalize cutSuf 45 l = q3 at k3 hl3 HP4 HP5
    obtain ⟨a, b, two⟩ := q
    obtain ⟨a2, up⟩ := q2
    obtain ⟨a3, down⟩ := q3
    simp only at hl1 hl2 hl3 HP2 HP3 HP4 HP5
    obtain ⟨l1, l2⟩ := hl1
    go_enter Tryz.func57, Tryz.ntmps57
    go_upto_region 1 with (fail)
    have R0 := Blk.new w #[.int .i64 0, .int .i64 0] 51
    have B0 := alloc_below w (.cells #[.int .i64 0, .int .i64 0] 51)
    generalize w.alloc _ = W0 at R0 B0 ⊢
    obtain ⟨g, hg0⟩ : ∃ g, g = w.heap.size := ⟨_, rfl⟩
    rw [← hg0] at R0 ⊢
    have hg := Nat.le_of_eq hg0.symm
    clear hg0
    go_upto_region 2 with (fail)
    have X := Blk.new W0 #[.int .i64 (-200000), .int .i64 6000000] 51
    have R := R0.alloc (.cells #[.int .i64 (-200000), .int .i64 6000000] 51)
    have B := below_step B0 (alloc_below W0 (.cells #[.int .i64 (-200000), .int .i64 6000000] 51))
    have hne : g < W0.heap.size := R0.lt
    clear R0 B0
    generalize W0.alloc _ = W at X R B ⊢
    generalize W0.heap.size = g2 at X hne ⊢
    have LW := hL.below B
    go_wp2_with fail
    with_reducible refine callR (k1.out _ LW) ?_
    intro w1 b1 _ _ _
    have X1 := X.step b1
    have R1 := R.step b1
    have B1 := below_step B b1
    have L1 := LW.below b1
    clear X R B LW
    cases two
    · go_wp2_with fail
      with_reducible refine callP (k2.out _) ?_
      cases up
      · go_wp2_with fail
        with_reducible refine callP (k3.out _) ?_
        cases down
        · have ht0 : True := trivial
          have k4 := Lib.hid (fun w L => altitude_any l w L (by omega))
          generalize altP l = z at k4 HP5
          obtain ⟨n, ok⟩ := z
          have HO : Hid (out = ((n, n), ok)) := Lib.hid (by simpa using HP5.out)
          clear HP2 HP3 HP4 HP5
          go_wp2_with fail
          with_reducible refine callR (k4.out _ L1) ?_
          intro w2 b2 _ _ _
          have X2 := X1.step b2
          have R2 := R1.step b2
          have B2 := below_step B1 b2
          have d2 := R2.plain
          have d3 := R2.of
          go_wp2
          refine bodyPost_ret (results_win Tryz.results57 _ _ g ⟨n, n⟩ rfl (Blk.is_win (x := ⟨n, n⟩) (R2.set _))) rfl ?_; exact Ret.winB HO.out (below_setRow' B2 hg _)
        · have ht0 : True := trivial
          have k4 := Lib.hid (fun w L => altitude_any a3 w L (by omega))
          generalize altP a3 = z at k4 HP4
          obtain ⟨n, ok⟩ := z
          have HO : Hid (out = ((-200000, n), ok)) := Lib.hid (by simpa using HP4.out)
          clear HP2 HP3 HP4 HP5
          go_wp2_with fail
          with_reducible refine callR (k4.out _ L1) ?_
          intro w2 b2 _ _ _
          have X2 := X1.step b2
          have x1 := X2.cell 1
          have x2 := X2.frozen 1
          have X3 : Blk (w2.setCell ⟨g2, 1, none⟩ (.int .i64 n)) g2 #[.int .i64 (-200000), .int .i64 n] := X2.setCell 1 (.int .i64 n)
          have R3 := (R1.step b2).setFar (Nat.ne_of_lt hne) 1 (.int .i64 n)
          have B3 := below_setCell (below_step B1 b2) (show w.heap.size ≤ g2 by omega) 1 (.int .i64 n)
          have c4 : Has_win (w2.setCell ⟨g2, 1, none⟩ (.int .i64 n)) g2 0 := ⟨⟨-200000, n⟩, X3.is_win⟩
          have c5 : of_win (w2.setCell ⟨g2, 1, none⟩ (.int .i64 n)) g2 0 = ⟨-200000, n⟩ := of_win_eq X3.is_win
          have d2 := R3.plain
          have d3 := R3.of
          go_wp2
          refine bodyPost_ret (results_win Tryz.results57 _ _ g ⟨-200000, n⟩ rfl (Blk.is_win (x := ⟨-200000, n⟩) (R3.set _))) rfl ?_; exact Ret.winB HO.out (below_setRow' B3 hg _)
      · have ht0 : True := trivial
        have k4 := Lib.hid (fun w L => altitude_any a2 w L (by omega))
        generalize altP a2 = z at k4 HP3
        obtain ⟨n, ok⟩ := z
        have HO : Hid (out = ((n, 6000000), ok)) := Lib.hid (by simpa using HP3.out)
        clear HP2 HP3 HP4 HP5
        go_wp2_with fail
        with_reducible refine callR (k4.out _ L1) ?_
        intro w2 b2 _ _ _
        have X2 := X1.step b2
        have x1 := X2.cell 0
        have x2 := X2.frozen 0
        have X3 : Blk (w2.setCell ⟨g2, 0, none⟩ (.int .i64 n)) g2 #[.int .i64 n, .int .i64 6000000] := X2.setCell 0 (.int .i64 n)
        have R3 := (R1.step b2).setFar (Nat.ne_of_lt hne) 0 (.int .i64 n)
        have B3 := below_setCell (below_step B1 b2) (show w.heap.size ≤ g2 by omega) 0 (.int .i64 n)
        have c4 : Has_win (w2.setCell ⟨g2, 0, none⟩ (.int .i64 n)) g2 0 := ⟨⟨n, 6000000⟩, X3.is_win⟩
        have c5 : of_win (w2.setCell ⟨g2, 0, none⟩ (.int .i64 n)) g2 0 = ⟨n, 6000000⟩ := of_win_eq X3.is_win
        have d2 := R3.plain
        have d3 := R3.of
        go_wp2
        refine bodyPost_ret (results_win Tryz.results57 _ _ g ⟨n, 6000000⟩ rfl (Blk.is_win (x := ⟨n, 6000000⟩) (R3.set _))) rfl ?_; exact Ret.winB HO.out (below_setRow' B3 hg _)
    · have ht0 : True := trivial
      have k4 := Lib.hid (fun w L => altitude_any a w L (by omega))
      have k5 := Lib.hid (fun w L => altitude_any b w L (by omega))
      generalize altP a = z at k4 HP2
      obtain ⟨n, ok⟩ := z
      generalize altP b = z2 at k5 HP2
      obtain ⟨n2, ok2⟩ := z2
      have HO : Hid (out = ((n, n2), ok && ok2)) := Lib.hid (by simpa using HP2.out)
      clear HP2 HP3 HP4 HP5
      go_wp2_with fail
      with_reducible refine callR (k4.out _ L1) ?_
      intro w2 b2 _ _ _
      have L2 := L1.below b2
      go_wp2_with fail
      with_reducible refine callR (k5.out _ L2) ?_
      intro w3 b3 _ _ _
      have R3 := (R1.step b2).step b3
      have B3 := below_step (below_step B1 b2) b3
      have d2 := R3.plain
      have d3 := R3.of
      cases ok
      all_goals
        go_wp2
        refine bodyPost_ret (results_win Tryz.results57 _ _ g ⟨n, n2⟩ rfl (Blk.is_win (x := ⟨n, n2⟩) (R3.set _))) rfl ?_
        exact Ret.winB (by simpa using HO.out) (below_setRow' B3 hg _)
theorem ranged_any (a : Int) (w : World) : Calls Tryz.prog 58 #[.int .i64 a] w (RetP w (.bool (rangedB a))) := by
  go_enter Tryz.func58, Tryz.ntmps58
  go_wp2
  all_goals
    go_ret
    exact RetP.bool (by unfold rangedB; grind) rfl
def parseWinO (s : List UInt8) (q : (Int × Int) × Bool) : (Int × Int) × Int :=
  if q.2 = true then
    if rangedB q.1.1 = true ∧ rangedB q.1.2 = true then
      if q.1.2 < q.1.1 then ((0, 0), 9) else if winS q.1.1 q.1.2 = s then (q.1, 0) else ((0, 0), 4)
    else ((0, 0), 2)
  else ((0, 0), 4)
theorem parseWinO_eq (s : List UInt8) : parseWinS s = parseWinO s (winP s) := rfl
set_option maxHeartbeats 8000000 in
theorem parseWindow_any (l : List UInt8) (w : World) (hL : Laid w) (hl : l.length ≤ 4000000000) : Calls Tryz.prog 32 #[.string ⟨l.toArray⟩] w (Ret w (winEVal (parseWinS l))) := by
  have HE := Lib.hid (parseWinO_eq l)
  have k1 := Lib.hid (fun w L => window_any l w L hl)
  generalize parseWinS l = out at HE ⊢
  generalize winP l = q at HE k1
  obtain ⟨⟨lo, hi⟩, ok⟩ := q
  go_enter Tryz.func32, Tryz.ntmps32
  go_upto_region 1 with (fail)
  have R := Blk.new w #[.int .i64 0, .int .i64 0] 51
  have B := alloc_below w (.cells #[.int .i64 0, .int .i64 0] 51)
  generalize w.alloc _ = W0 at R B ⊢
  obtain ⟨g, hg0⟩ : ∃ g, g = w.heap.size := ⟨_, rfl⟩
  rw [← hg0] at R ⊢
  have hg := Nat.le_of_eq hg0.symm
  clear hg0
  have LW := hL.below B
  go_wp2_with fail
  with_reducible refine callR (k1.out _ LW) ?_
  intro w1 b1 _ _ _
  have R1 := R.step b1
  have B1 := below_step B b1
  have L1 := LW.below b1
  clear R B LW b1 k1
  go_upto_region 2 with (fail)
  have X := Blk.new w1 #[.int .i64 lo, .int .i64 hi] 51
  have R := R1.alloc (.cells #[.int .i64 lo, .int .i64 hi] 51)
  have B := below_step B1 (alloc_below w1 (.cells #[.int .i64 lo, .int .i64 hi] 51))
  have hne : g < w1.heap.size := R1.lt
  clear R1 B1
  generalize w1.alloc _ = W at X R B ⊢
  generalize w1.heap.size = g2 at X hne ⊢
  have LW := hL.below B
  have c4 : Has_win W g2 0 := ⟨⟨lo, hi⟩, X.is_win⟩
  have c5 : of_win W g2 0 = ⟨lo, hi⟩ := of_win_eq X.is_win
  have c1 := X.cell
  have d2 := R.plain
  have d3 := R.of
  cases ok
  · go_wp2
    refine bodyPost_ret (results_win Tryz.results32 _ _ g ⟨0, 0⟩ rfl (Blk.is_win (x := ⟨0, 0⟩) (R.set _))) rfl ?_
    exact Ret.winE HE.out (below_setRow' B hg _)
  · have k2 := Lib.hid (ranged_any lo)
    have k3 := Lib.hid (ranged_any hi)
    cases h1 : rangedB lo
    · have HO := Lib.hid (HE.out.trans (show parseWinO l ((lo, hi), true) = ((0, 0), 2) by simp [parseWinO, h1]))
      rw [h1] at k2
      have HH := Lib.hid h1; clear h1
      go_wp2_with (go_at_call 58; first | (with_reducible refine callP (k2.out _) ?_) | (with_reducible refine callP (k3.out _) ?_))
      refine bodyPost_ret (results_win Tryz.results32 _ _ g ⟨0, 0⟩ rfl (Blk.is_win (x := ⟨0, 0⟩) (R.set _))) rfl ?_
      exact Ret.winE HO.out (below_setRow' B hg _)
    · cases h2 : rangedB hi
      · have HO := Lib.hid (HE.out.trans (show parseWinO l ((lo, hi), true) = ((0, 0), 2) by simp [parseWinO, h1, h2]))
        rw [h1] at k2
        rw [h2] at k3
        have HH := Lib.hid h1; clear h1
        have HH2 := Lib.hid h2; clear h2
        go_wp2_with (go_at_call 58; first | (with_reducible refine callP (k2.out _) ?_) | (with_reducible refine callP (k3.out _) ?_))
        refine bodyPost_ret (results_win Tryz.results32 _ _ g ⟨0, 0⟩ rfl (Blk.is_win (x := ⟨0, 0⟩) (R.set _))) rfl ?_
        exact Ret.winE HO.out (below_setRow' B hg _)
      · have HO := Lib.hid (HE.out.trans (show parseWinO l ((lo, hi), true) = if hi < lo then ((0, 0), 9) else if winS lo hi = l then ((lo, hi), 0) else ((0, 0), 4) by simp [parseWinO, h1, h2]))
        have r1 : -200000 ≤ lo ∧ lo ≤ 6000000 := by simpa [rangedB] using h1
        have r2 : -200000 ≤ hi ∧ hi ≤ 6000000 := by simpa [rangedB] using h2
        rw [h1] at k2
        rw [h2] at k3
        have HH := Lib.hid h1; clear h1
        have HH2 := Lib.hid h2; clear h2
        by_cases hlt : hi < lo
        · have HO2 := Lib.hid (HO.out.trans (if_pos hlt))
          clear r1 r2
          go_wp2_with (go_at_call 58; first | (with_reducible refine callP (k2.out _) ?_) | (with_reducible refine callP (k3.out _) ?_))
          refine bodyPost_ret (results_win Tryz.results32 _ _ g ⟨0, 0⟩ rfl (Blk.is_win (x := ⟨0, 0⟩) (R.set _))) rfl ?_
          exact Ret.winE HO2.out (below_setRow' B hg _)
        · have HO2 := Lib.hid (HO.out.trans (if_neg hlt))
          have k4' := winText_in lo hi W LW ⟨r1.1, by omega, r2.2⟩
          rw [wmk] at k4'
          have k4 := Lib.hid k4'
          clear k4' r1 r2
          generalize winS lo hi = T at k4 HO2
          go_wp2_with (go_at_call 58; first | (with_reducible refine callP (k2.out _) ?_) | (with_reducible refine callP (k3.out _) ?_))
          with_reducible refine callR k4.out ?_
          intro w5 b5 _ _ _
          have X5 := X.step b5
          have R5 := R.step b5
          have B5 := below_step B b5
          clear X R B c4 c5 c1 d2 d3
          have c4 : Has_win w5 g2 0 := ⟨⟨lo, hi⟩, X5.is_win⟩
          have c5 : of_win w5 g2 0 = ⟨lo, hi⟩ := of_win_eq X5.is_win
          have d2 := R5.plain
          have d3 := R5.of
          by_cases hT : T = l
          · have HO3 := Lib.hid (HO2.out.trans (if_pos hT))
            subst hT
            go_wp2
            refine bodyPost_ret (results_win Tryz.results32 _ _ g ⟨lo, hi⟩ rfl (Blk.is_win (x := ⟨lo, hi⟩) (R5.set _))) rfl ?_
            exact Ret.winE HO3.out (below_setRow' B5 hg _)
          · have HO3 := Lib.hid (HO2.out.trans (if_neg hT))
            have hT1 : (T == l) = false := by simpa using hT
            go_wp2
            refine bodyPost_ret (results_win Tryz.results32 _ _ g ⟨0, 0⟩ rfl (Blk.is_win (x := ⟨0, 0⟩) (R5.set _))) rfl ?_
            exact Ret.winE HO3.out (below_setRow' B5 hg _)
end Go.Proofs.YtlleijickhifmaaGreatDoor
