/- leg's reader: need, may. -/
import Derived.Test.YtjijpkimlgbepaaGreatDoorPk34
namespace Go.Proofs.YtjijpkimlgbepaaGreatDoor
open Go.RowKit Go.Sort
set_option linter.unusedVariables false
set_option linter.unusedSimpArgs false
set_option maxRecDepth 100000
/-- A word is accepted or not; the leg in block lb is what it makes of it. -/
def RetA (lb : Nat) (W : World) (q : Leg × Bool) (e : Ending) (W' : World) : Prop := e = .returned (.bool q.2) ∧ Touch [lb] W W' ∧ Blk W' lb q.1.arr
/-- The reader and its leg. -/
structure St (W : World) (rb sb lb n : Nat) (x : PS) : Prop where
  rd : Rd W rb sb n x
  leg : Blk W lb x.l.arr
def RetN (W : World) (rb sb lb n : Nat) (x : PS) (e : Ending) (W' : World) : Prop := e = .returned (.tuple #[]) ∧ Touch [rb, lb] W W' ∧ St W' rb sb lb n x
structure Apart (rb sb lb : Nat) : Prop where
  rs : rb ≠ sb
  rl : rb ≠ lb
  sl : sb ≠ lb
theorem need_bad {n : Nat} {f : Acc} {x : PS} (h : x.bad ≠ 0) : x.need n f = x := by unfold PS.need; rw [if_pos h]
theorem need_nil {n : Nat} {f : Acc} {x : PS} (h : x.bad = 0) (hw : x.ws = []) : x.need n f = { x with bad := (n : Int) + 2 } := by unfold PS.need; rw [if_neg (by simp [h])]; simp [hw]
theorem need_yes {n : Nat} {f : Acc} {x : PS} {s : List UInt8} {r : List (List UInt8)} (h : x.bad = 0) (hw : x.ws = s :: r) (hf : (f s x.l).2 = true) : x.need n f = ({ x with l := (f s x.l).1 } : PS).next s r := by
  unfold PS.need; rw [if_neg (by simp [h])]; simp [hw, hf, PS.next, h]
theorem need_no {n : Nat} {f : Acc} {x : PS} {s : List UInt8} {r : List (List UInt8)} (h : x.bad = 0) (hw : x.ws = s :: r) (hf : (f s x.l).2 = false) : x.need n f = { x with bad := x.col, l := (f s x.l).1 } := by
  unfold PS.need; rw [if_neg (by simp [h])]; simp [hw, hf]
theorem may_bad {f : Acc} {x : PS} (h : x.bad ≠ 0) : x.may f = x := by unfold PS.may; rw [if_pos h]
theorem may_nil {f : Acc} {x : PS} (h : x.bad = 0) (hw : x.ws = []) : x.may f = x := by unfold PS.may; rw [if_neg (by simp [h])]; simp [hw]
theorem may_yes {f : Acc} {x : PS} {s : List UInt8} {r : List (List UInt8)} (h : x.bad = 0) (hw : x.ws = s :: r) (hf : (f s x.l).2 = true) : x.may f = ({ x with l := (f s x.l).1 } : PS).next s r := by
  unfold PS.may; rw [if_neg (by simp [h])]; simp [hw, hf, PS.next, h]
theorem may_no {f : Acc} {x : PS} {s : List UInt8} {r : List (List UInt8)} (h : x.bad = 0) (hw : x.ws = s :: r) (hf : (f s x.l).2 = false) : x.may f = { x with l := (f s x.l).1 } := by
  unfold PS.may; rw [if_neg (by simp [h])]; simp [hw, hf]
theorem Rd.cells {W : World} {rb sb n : Nat} {x : PS} (h : Rd W rb sb n x) : W.cell? ⟨rb, 1, none⟩ = some (.int .i64 x.col) ∧ W.cell? ⟨rb, 2, none⟩ = some (.int .i64 n) ∧ W.cell? ⟨rb, 3, none⟩ = some (.int .i64 x.bad) ∧ ∀ j, W.frozen? ⟨rb, j, none⟩ = false := by
  obtain ⟨A, o, hb, hA, hc⟩ := h
  exact ⟨hb.cell 1, hb.cell 2, hb.cell 3, hb.frozen⟩
theorem Rd.setBad {W : World} {rb sb n : Nat} {x : PS} (h : Rd W rb sb n x) (hne : rb ≠ sb) (b : Int) : Rd (W.setCell ⟨rb, 3, none⟩ (.int .i64 b)) rb sb n { x with bad := b } := by
  obtain ⟨A, o, hb, hA, hc⟩ := h
  refine ⟨A, o, hb.setCell 3 (.int .i64 b), hA, fun j hj => ?_⟩
  rw [World.cell?_of_block (w := W) (Below.heap_setCell W ⟨rb, 3, none⟩ _ sb (Ne.symm hne))]
  exact hc j hj
theorem St.setBad {W : World} {rb sb lb n : Nat} {x : PS} (h : St W rb sb lb n x) (ha : Apart rb sb lb) (b : Int) : St (W.setCell ⟨rb, 3, none⟩ (.int .i64 b)) rb sb lb n { x with bad := b } :=
  ⟨h.rd.setBad ha.rs b, h.leg.setFar (Ne.symm ha.rl) 3 _⟩
set_option maxHeartbeats 4000000 in
theorem need_any (W : World) (rb sb lb n fid : Nat) (cap : Value) (x : PS) (f : Acc) (h : St W rb sb lb n x) (ha : Apart rb sb lb) (hok : x.Ok n) (hf : f.Ok n) (hn : n ≤ 4000000000)
    (hent : ∀ args w, (callFunc fid args).run Tryz.prog w = .ok (.enter fid args) w)
    (hacc : ∀ s r, x.ws = s :: r → Calls Tryz.prog fid #[.string ⟨s.toArray⟩, cap] W (RetA lb W (f s x.l))) :
    Calls Tryz.prog 47 #[.pointer (some ⟨rb, 0, none⟩), .func (.func fid) #[] #[cap]] W (RetN W rb sb lb n (x.need n f)) := by
  obtain ⟨c1, c2, c3, c4⟩ := h.rd.cells
  have hn' : (n : Int) ≤ 4000000000 := by omega
  have kp := Lib.hid (peek_any W rb sb n x h.rd)
  by_cases hb : x.bad = 0
  · rw [hb] at c3
    cases hw : x.ws with
    | nil =>
      have HO := Lib.hid (need_nil (n := n) (f := f) hb hw)
      rw [hw] at kp
      have HS := Lib.hid (h.setBad ha ((n : Int) + 2))
      clear hw hb h hacc hf hok
      generalize x.need n f = y at HO ⊢
      go_enter Tryz.func47, Tryz.ntmps47
      go_wp2_with (go_at_call 61; refine callP kp.out ?_)
      go_end0
      exact ⟨rfl, Touch.setCell _ W (by simp) 3 _, by rw [HO.out]; exact HS.out⟩
    | cons s r =>
      have hac := Lib.hid (hacc s r hw)
      have HY := Lib.hid (need_yes (n := n) (f := f) hb hw)
      have HN := Lib.hid (need_no (n := n) (f := f) hb hw)
      have HW := Lib.hid hw
      have HOK := Lib.hid hok
      have HF := Lib.hid hf
      rw [hw] at kp
      have HOK2 := Lib.hid (show ({ x with l := (f s x.l).1 } : PS).Ok n from ⟨hok.col, hok.one, hok.bad0, hok.bad, hf.fix _ _ (hok.word hw) hok.fix, hf.center _ _ (hok.word hw) hok.center, hf.ty0 _ _ hok.ty0, hf.ty _ _ hok.ty⟩)
      generalize x.need n f = y at HY HN ⊢
      clear hw hacc hok hf HOK HF
      generalize f s x.l = q at HY HN hac HOK2
      obtain ⟨l2, b⟩ := q
      simp only at HY HN HOK2
      cases b
      · go_enter Tryz.func47, Tryz.ntmps47
        go_wp2_with (go_at_call 61; refine callP kp.out ?_)
        refine hac.out.mono ?_
        rintro e W1 ⟨rfl, T1, L1⟩
        have S1 : St W1 rb sb lb n { x with l := l2 } := ⟨(h.rd.touch T1 (by simpa using ha.rl) (by simpa using ha.sl)).leg l2, L1⟩
        clear c1 c2 c3 c4 h
        obtain ⟨c1, c2, c3, c4⟩ := S1.rd.cells
        simp only [hb] at c1 c3
        have HB := Lib.hid hb; clear hb
        go_wp2
        go_end0
        exact ⟨rfl, (T1.mono (by simp)).trans (Touch.setCell _ W1 (by simp) 3 _), by rw [HN.out (by first | rfl | trivial)]; exact S1.setBad ha x.col⟩
      · go_enter Tryz.func47, Tryz.ntmps47
        go_wp2_with (go_at_call 61; refine callP kp.out ?_)
        refine hac.out.mono ?_
        rintro e W1 ⟨rfl, T1, L1⟩
        have S1 : St W1 rb sb lb n { x with l := l2 } := ⟨(h.rd.touch T1 (by simpa using ha.rl) (by simpa using ha.sl)).leg l2, L1⟩
        have kd := Lib.hid (drop_any W1 rb sb n { x with l := l2 } s r HW.out S1.rd ha.rs HOK2.out hn)
        clear c1 c2 c3 c4 h
        have HB := Lib.hid hb; clear hb
        go_wp2_with fail
        refine kd.out.mono ?_
        rintro e W2 ⟨rfl, T2, R2⟩
        go_wp2
        go_end0
        exact ⟨rfl, (T1.mono (by simp)).trans (T2.mono (by simp)), by rw [HY.out (by first | rfl | trivial)]; exact ⟨R2, T2.blk (by simpa using Ne.symm ha.rl) L1⟩⟩
  · have HO := Lib.hid (need_bad (n := n) (f := f) hb)
    have hb' : (x.bad == 0) = false := by simpa using hb
    clear hb hacc hf hok
    go_enter Tryz.func47, Tryz.ntmps47
    go_wp2
    go_end0
    exact ⟨rfl, Touch.refl _ _, by rw [HO.out]; exact h⟩
set_option maxHeartbeats 4000000 in
theorem may_any (W : World) (rb sb lb n fid : Nat) (cap : Value) (x : PS) (f : Acc) (h : St W rb sb lb n x) (ha : Apart rb sb lb) (hok : x.Ok n) (hf : f.Ok n) (hn : n ≤ 4000000000)
    (hent : ∀ args w, (callFunc fid args).run Tryz.prog w = .ok (.enter fid args) w)
    (hacc : ∀ s r, x.ws = s :: r → Calls Tryz.prog fid #[.string ⟨s.toArray⟩, cap] W (RetA lb W (f s x.l))) :
    Calls Tryz.prog 83 #[.pointer (some ⟨rb, 0, none⟩), .func (.func fid) #[] #[cap]] W (RetN W rb sb lb n (x.may f)) := by
  obtain ⟨c1, c2, c3, c4⟩ := h.rd.cells
  have kp := Lib.hid (peek_any W rb sb n x h.rd)
  by_cases hb : x.bad = 0
  · rw [hb] at c3
    cases hw : x.ws with
    | nil =>
      have HO := Lib.hid (may_nil (f := f) hb hw)
      rw [hw] at kp
      clear hw hb hacc hf hok
      generalize x.may f = y at HO ⊢
      go_enter Tryz.func83, Tryz.ntmps83
      go_wp2_with (go_at_call 61; refine callP kp.out ?_)
      go_end0
      exact ⟨rfl, Touch.refl _ _, by rw [HO.out]; exact h⟩
    | cons s r =>
      have hac := Lib.hid (hacc s r hw)
      have HY := Lib.hid (may_yes (f := f) hb hw)
      have HN := Lib.hid (may_no (f := f) hb hw)
      have HW := Lib.hid hw
      rw [hw] at kp
      have HOK2 := Lib.hid (show ({ x with l := (f s x.l).1 } : PS).Ok n from ⟨hok.col, hok.one, hok.bad0, hok.bad, hf.fix _ _ (hok.word hw) hok.fix, hf.center _ _ (hok.word hw) hok.center, hf.ty0 _ _ hok.ty0, hf.ty _ _ hok.ty⟩)
      generalize x.may f = y at HY HN ⊢
      clear hw hacc hok hf
      generalize f s x.l = q at HY HN hac HOK2
      obtain ⟨l2, b⟩ := q
      simp only at HY HN HOK2
      cases b
      · go_enter Tryz.func83, Tryz.ntmps83
        go_wp2_with (go_at_call 61; refine callP kp.out ?_)
        refine hac.out.mono ?_
        rintro e W1 ⟨rfl, T1, L1⟩
        have S1 : St W1 rb sb lb n { x with l := l2 } := ⟨(h.rd.touch T1 (by simpa using ha.rl) (by simpa using ha.sl)).leg l2, L1⟩
        clear c1 c2 c3 c4 h
        have HB := Lib.hid hb; clear hb
        go_wp2
        go_end0
        exact ⟨rfl, T1.mono (by simp), by rw [HN.out (by first | rfl | trivial)]; exact S1⟩
      · go_enter Tryz.func83, Tryz.ntmps83
        go_wp2_with (go_at_call 61; refine callP kp.out ?_)
        refine hac.out.mono ?_
        rintro e W1 ⟨rfl, T1, L1⟩
        have S1 : St W1 rb sb lb n { x with l := l2 } := ⟨(h.rd.touch T1 (by simpa using ha.rl) (by simpa using ha.sl)).leg l2, L1⟩
        have kd := Lib.hid (drop_any W1 rb sb n { x with l := l2 } s r HW.out S1.rd ha.rs HOK2.out hn)
        clear c1 c2 c3 c4 h
        have HB := Lib.hid hb; clear hb
        go_wp2_with fail
        refine kd.out.mono ?_
        rintro e W2 ⟨rfl, T2, R2⟩
        go_wp2
        go_end0
        exact ⟨rfl, (T1.mono (by simp)).trans (T2.mono (by simp)), by rw [HY.out (by first | rfl | trivial)]; exact ⟨R2, T2.blk (by simpa using Ne.symm ha.rl) L1⟩⟩
  · have HO := Lib.hid (may_bad (f := f) hb)
    have hb' : (x.bad == 0) = false := by simpa using hb
    clear hb hacc hf hok
    go_enter Tryz.func83, Tryz.ntmps83
    go_wp2_with (go_at_call 61; refine callP kp.out ?_)
    go_end0
    exact ⟨rfl, Touch.refl _ _, by rw [HO.out]; exact h⟩
end Go.Proofs.YtjijpkimlgbepaaGreatDoor
