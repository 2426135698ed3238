/- edit.read; walk. strings.Split and strings.SplitN at one byte. -/
import Derived.Test.YtlleijickhifmaaGreatDoorPk43
import Derived.Test.YtlleijickhifmaaGreatDoorPk38
import Derived.Test.YtlleijickhifmaaGreatDoorPk22
import Derived.Test.YtlleijickhifmaaGreatDoorPk23
import Derived.Test.YtlleijickhifmaaGreatDoorPk16
import Derived.Test.YtlleijickhifmaaGreatDoorPk13
import Derived.Test.YtlleijickhifmaaGreatDoorPk17
namespace Go.Proofs.YtlleijickhifmaaGreatDoor
open Go.RowKit Go.Sort
set_option linter.unusedVariables false
set_option linter.unusedSimpArgs false
set_option maxRecDepth 100000
theorem atoiP_any (l : List UInt8) (w : World) (hl : l.length ≤ 4000000000) (hR : ErrsAt w) : Calls Tryz.prog 31 #[.string ⟨l.toArray⟩] w (RetNum w (atoiP l)) := by
  unfold atoiP
  cases hp : Lib.atoiAll l with
  | ok v =>
    refine (Tryz.strconv_Atoi_ok ⟨l.toArray⟩ (by simp [ByteArray.size]; omega) v (by simpa using hp) w).mono fun e w' ⟨h1, h2⟩ => ⟨⟨_, h1⟩, ?_⟩
    rcases h2 with rfl | ⟨t, rfl⟩
    · exact Below.refl _ _
    · exact Lib.bytesWorld_below _ _ _
  | range =>
    obtain ⟨ev, h1, h2⟩ := hR.range
    exact (Tryz.strconv_Atoi_range ⟨l.toArray⟩ (by simp [ByteArray.size]; omega) (by simpa using hp) ev w h1 h2).mono fun e w' ⟨N, h3, _, _, h4⟩ => ⟨⟨_, by simpa using h3⟩, h4⟩
  | _ =>
    obtain ⟨ev, h1, h2⟩ := hR.form
    exact (Tryz.strconv_Atoi_syntax ⟨l.toArray⟩ (by simp [ByteArray.size]; omega) (by simpa using hp) ev w h1 h2).mono fun e w' ⟨N, h3, _, _, h4⟩ => ⟨⟨_, h3⟩, h4⟩
/-- The call writes block g alone; it holds x now. -/
def RetRd (W : World) (g : Nat) (x : EditV) (e : Ending) (W' : World) : Prop := e = .returned (.tuple #[]) ∧ Touch [g] W W' ∧ Blk W' g x.arr
theorem touch_setRowE {g : Nat} (w : World) (cs : Array Value) : Touch [g] w (w.setRow g cs) :=
  ⟨rfl, rfl, rfl, by simp [World.setRow], fun k _ hn => setRow_other w g k _ (fun e => hn (by simp [e]))⟩
theorem splice_edtW (x : EditV) (a b : Int) : splice x.arr 6 (Win.arr ⟨a, b⟩) = ({ x with lo := a, hi := b } : EditV).arr := rfl
theorem readF_small {x : EditV} {c : UInt8} {s : List UInt8} (h : x.small) (hs : s.length ≤ 4000000000) : (readF x c s).small := by
  obtain ⟨h1, h2, h3, h4⟩ := h
  unfold readF
  split
  · exact ⟨h1, h2, h3, h4⟩
  split
  · exact ⟨hs, h2, h3, h4⟩
  split
  · exact ⟨h1, hs, h3, h4⟩
  split
  · split
    · exact ⟨h1, h2, h3, h4⟩
    · exact ⟨h1, h2, hs, h4⟩
  split
  · split
    · exact ⟨h1, h2, h3, h4⟩
    · exact ⟨h1, h2, h3, hs⟩
  split
  · exact ⟨h1, h2, h3, h4⟩
  split
  · exact ⟨h1, h2, h3, h4⟩
  split
  · exact ⟨h1, h2, h3, h4⟩
  split
  · exact ⟨h1, h2, h3, h4⟩
  · exact ⟨h1, h2, h3, h4⟩
set_option maxHeartbeats 4000000 in
theorem eread_any (x : EditV) (c : UInt8) (hc : c ∈ edOrder) (s : List UInt8) (g : Nat) (W : World) (hL : Laid W) (hR : ErrsAt W) (hX : Blk W g x.arr) (hs : s.length ≤ 4000000000) :
    Calls Tryz.prog 17 #[.pointer (some ⟨g, 0, none⟩), .int .u8 (c.toNat : Int), .string ⟨s.toArray⟩] W (RetRd W g (readF x c s)) := by
  have c0 := hX.cell
  have f0 := hX.frozen
  simp only [edOrder, List.mem_cons, List.not_mem_nil, or_false] at hc
  rcases hc with rfl | rfl | rfl | rfl | rfl | rfl | rfl | rfl | rfl | rfl
  · have kc := Lib.hid (atoiP_any s W hs hR)
    have HE := Lib.hid (show readF x 97 s = { x with at_ := atoiP s } from rfl)
    generalize atoiP s = n at kc HE
    go_enter Tryz.func17, Tryz.ntmps17
    go_wp2_with (go_at_call 31; (with_reducible refine callNum kc.out ?_); intro ev w1 b1; clear c0 f0; have X1 := hX.step b1; have c1 := X1.cell; have f1 := X1.frozen)
    go_end0
    exact ⟨rfl, (Touch.of b1).trans (Touch.setCell _ _ (by simp) 1 _), by rw [HE.out]; exact X1.setCell 1 _⟩
  · go_enter Tryz.func17, Tryz.ntmps17
    go_wp2
    go_end0
    exact ⟨rfl, Touch.setCell _ _ (by simp) 2 _, hX.setCell 2 _⟩
  · go_enter Tryz.func17, Tryz.ntmps17
    go_wp2
    go_end0
    exact ⟨rfl, Touch.setCell _ _ (by simp) 3 _, hX.setCell 3 _⟩
  · by_cases hd : s = [45]
    · subst hd
      go_enter Tryz.func17, Tryz.ntmps17
      go_wp2
      go_end0
      exact ⟨rfl, Touch.refl _ _, hX⟩
    · have HE := Lib.hid (show readF x 119 s = { x with rway := s } from if_neg hd)
      have h0 : (s == [45]) = false := by simpa using hd
      clear hd
      go_enter Tryz.func17, Tryz.ntmps17
      go_wp2
      go_end0
      exact ⟨rfl, Touch.setCell _ _ (by simp) 4 _, by rw [HE.out]; exact hX.setCell 4 _⟩
  · by_cases hd : s = [45]
    · subst hd
      go_enter Tryz.func17, Tryz.ntmps17
      go_wp2
      go_end0
      exact ⟨rfl, Touch.refl _ _, hX⟩
    · have HE := Lib.hid (show readF x 116 s = { x with trans := s } from if_neg hd)
      have h0 : (s == [45]) = false := by simpa using hd
      clear hd
      go_enter Tryz.func17, Tryz.ntmps17
      go_wp2
      go_end0
      exact ⟨rfl, Touch.setCell _ _ (by simp) 5 _, by rw [HE.out]; exact hX.setCell 5 _⟩
  · have kc := Lib.hid (parseWindow_any s W hL hs)
    have HE := Lib.hid (show readF x 104 s = { x with lo := (parseWinS s).1.1, hi := (parseWinS s).1.2 } from rfl)
    generalize parseWinS s = q at kc HE
    obtain ⟨⟨a, b⟩, m⟩ := q
    go_enter Tryz.func17, Tryz.ntmps17
    go_wp2_with (go_at_call 32; (with_reducible refine callR kc.out ?_); intro w1 b1 _ _ _; clear c0 f0; have X1 := hX.step b1; have d2 := X1.plain; have d3 := X1.of; have d4 := splice_edtW x a b)
    go_end0
    exact ⟨rfl, (Touch.of b1).trans (touch_setRowE _ _), by rw [HE.out]; exact X1.set _⟩
  · have kc := Lib.hid (parseIntP_any s W hs hR)
    have HE := Lib.hid (show readF x 115 s = { x with speed := numP s } from rfl)
    generalize numP s = n at kc HE
    go_enter Tryz.func17, Tryz.ntmps17
    go_wp2_with (go_at_call 33; (with_reducible refine callNum kc.out ?_); intro ev w1 b1; clear c0 f0; have X1 := hX.step b1; have c1 := X1.cell; have f1 := X1.frozen)
    go_end0
    exact ⟨rfl, (Touch.of b1).trans (Touch.setCell _ _ (by simp) 8 _), by rw [HE.out]; exact X1.setCell 8 _⟩
  · have kc := Lib.hid (parseExact_any s W (by omega))
    have HE := Lib.hid (show readF x 99 s = { x with course := (parseExS s).1 } from rfl)
    generalize parseExS s = q at kc HE
    obtain ⟨n, m⟩ := q
    go_enter Tryz.func17, Tryz.ntmps17
    go_wp2_with (go_at_call 34; (with_reducible refine callP kc.out ?_))
    go_end0
    exact ⟨rfl, Touch.setCell _ _ (by simp) 9 _, by rw [HE.out]; exact hX.setCell 9 _⟩
  · have kc := Lib.hid (parseDist_any s W hL hs)
    have HE := Lib.hid (show readF x 100 s = { x with dist := (distP s).1 } from rfl)
    generalize distP s = q at kc HE
    obtain ⟨n, m⟩ := q
    go_enter Tryz.func17, Tryz.ntmps17
    go_wp2_with (go_at_call 35; (with_reducible refine callR kc.out ?_); intro w1 b1 _ _ _; clear c0 f0; have X1 := hX.step b1; have c1 := X1.cell; have f1 := X1.frozen)
    go_end0
    exact ⟨rfl, (Touch.of b1).trans (Touch.setCell _ _ (by simp) 10 _), by rw [HE.out]; exact X1.setCell 10 _⟩
  · by_cases hd : s = [76]
    · subst hd
      go_enter Tryz.func17, Tryz.ntmps17
      go_wp2
      go_end0
      exact ⟨rfl, (Touch.setCell _ W (by simp) 11 _).trans (Touch.setCell _ _ (by simp) 11 _), (hX.setCell 11 _).setCell 11 _⟩
    · have HE := Lib.hid (show readF x 117 s = { x with turn := 2 } by show ({ x with turn := if s = [76] then 1 else 2 } : EditV) = _; rw [if_neg hd])
      have h0 : (s == [76]) = false := by simpa using hd
      clear hd
      go_enter Tryz.func17, Tryz.ntmps17
      go_wp2
      go_end0
      exact ⟨rfl, Touch.setCell _ _ (by simp) 11 _, by rw [HE.out]; exact hX.setCell 11 _⟩
end Go.Proofs.YtlleijickhifmaaGreatDoor
namespace Go.Proofs.YtlleijickhifmaaGreatDoor
open Go.RowKit Go.Sort
set_option linter.unusedVariables false
set_option linter.unusedSimpArgs false
set_option maxRecDepth 100000
theorem splitC_len (c : UInt8) (l : List UInt8) : (splitC c l).length = l.count c + 1 := by
  induction l with
  | nil => rfl
  | cons x r ih =>
    by_cases hx : x = c
    · simp [splitC, hx, ih]
    · rw [List.count_cons_of_ne hx]
      unfold splitC
      rw [if_neg hx]
      have h1 := splitC_ne c r
      match h : splitC c r with
      | [] => exact absurd h h1
      | a :: q => rw [h] at ih; simpa using ih
theorem splitK_splitC (c : UInt8) : ∀ (k : Nat) (l : List UInt8), l.count c ≤ k → Lib.splitK [c] 0 k l = splitC c l
  | 0, l, h => by
    rw [Lib.splitK, splitC_cut]
    have h1 := count_cutAt c l
    cases hf : (cutAt c l).2.2
    · simp
    · rw [hf] at h1; simp at h1; omega
  | k + 1, l, h => by
    rw [Lib.splitK, splitC_cut]
    have h1 := count_cutAt c l
    cases hf : (cutAt c l).2.2
    · rw [if_pos (by rw [index_cutAt, hf]; rfl)]; simp
    · rw [if_neg (by rw [index_cutAt, hf]; first | (simp; done) | (simp; omega)), (drop_cutAt c l hf).1, (drop_cutAt c l hf).2]
      rw [hf] at h1
      simp only [if_true] at h1 ⊢
      rw [splitK_splitC c k _ (by omega)]
theorem splitK_cutN : ∀ (k : Nat) (l : List UInt8), Lib.splitK [32] 0 k l = cutN k l
  | 0, l => rfl
  | k + 1, l => by
    rw [Lib.splitK, cutN]
    cases hf : (cutAt 32 l).2.2
    · rw [if_pos (by rw [index_cutAt, hf]; rfl)]; simp
    · rw [if_neg (by rw [index_cutAt, hf]; first | (simp; done) | (simp; omega)), (drop_cutAt 32 l hf).1, (drop_cutAt 32 l hf).2, splitK_cutN k]
      simp
/-- Cutting at more blanks than there are bytes changes nothing. -/
theorem cutN_more : ∀ (k j : Nat) (l : List UInt8), l.length ≤ k → cutN (k + j) l = cutN k l
  | 0, j, l, h => by
    have : l = [] := List.eq_nil_of_length_eq_zero (by omega)
    subst this
    cases j with
    | zero => rfl
    | succ j => simp [cutN, cutAt]
  | k + 1, j, l, h => by
    rw [show k + 1 + j = (k + j) + 1 by omega, cutN, cutN]
    cases hf : (cutAt 32 l).2.2
    · simp
    · have := cutAt_lt 32 l hf
      simp only [if_true]
      rw [cutN_more k j _ (by omega)]
theorem cutN_min (k : Nat) (l : List UInt8) : cutN (min (k + 1) (l.length + 1) - 1) l = cutN k l := by
  by_cases h : k ≤ l.length
  · rw [show min (k + 1) (l.length + 1) - 1 = k by omega]
  · rw [show min (k + 1) (l.length + 1) - 1 = l.length by omega]
    obtain ⟨j, rfl⟩ : ∃ j, k = l.length + j := ⟨k - l.length, by omega⟩
    rw [cutN_more l.length j l (Nat.le_refl _)]
theorem splitB_strs (c : UInt8) (k : Nat) (l : List UInt8) : (Lib.splitB ⟨#[c]⟩ 0 k ⟨l.toArray⟩).map Value.string = (Lib.splitK [c] 0 k l).map fun q => Value.string ⟨q.toArray⟩ := by
  have h := Lib.splitB_data ⟨#[c]⟩ 0 k ⟨l.toArray⟩
  rw [← show _ = Lib.splitK [c] 0 k l from h, List.map_map]
  rfl
theorem splitB_len (c : UInt8) (k : Nat) (l : List UInt8) : (Lib.splitB ⟨#[c]⟩ 0 k ⟨l.toArray⟩).length = (Lib.splitK [c] 0 k l).length := by
  have := congrArg List.length (splitB_strs c k l)
  simpa using this
theorem countB_c (c : UInt8) (l : List UInt8) : Lib.countB ⟨l.toArray⟩ ⟨#[c]⟩ = l.count c := by
  have hc : Lib.countB ⟨l.toArray⟩ ⟨#[c]⟩ = Lib.count l [c] := by rfl
  rw [hc, Lib.count, countFrom_cutAt c _ l (by omega)]
def strCellsC (ws : List (List UInt8)) : Array Value := (ws.map fun q => Value.string ⟨q.toArray⟩).toArray
theorem splitC_any (c : UInt8) (l : List UInt8) (w : World) (hL : Laid w) (hl : l.length ≤ 4000000000) : Calls Tryz.prog 16 #[.string ⟨l.toArray⟩, .string ⟨#[c]⟩] w fun e w' =>
    e = .returned (.slice (some ⟨w.heap.size, 0, none⟩) (splitC c l).length (splitC c l).length) ∧ w' = w.alloc (.cells (strCellsC (splitC c l)) 9) := by
  obtain ⟨m, hm⟩ := hL.maxLen
  have h := Tryz.strings_Split ⟨l.toArray⟩ ⟨#[c]⟩ m w (by simp [ByteArray.size]; omega) hm (Nat.le_refl 1)
  rw [splitB_strs, countB_c, splitK_splitC c _ l (Nat.le_refl _), ← splitC_len] at h
  exact h
theorem splitC_strs (c : UInt8) (l : List UInt8) (w : World) (hL : Laid w) (hl : l.length ≤ 4000000000) (hc : l.length < 9000000000) : Calls Tryz.prog 16 #[.string ⟨l.toArray⟩, .string ⟨#[c]⟩] w (RetStrs w (splitC c l)) := by
  refine (splitC_any c l w hL hl).mono ?_
  rintro e w' ⟨rfl, rfl⟩
  refine ⟨_, rfl, ?_, (Below.refl _ _).alloc (Nat.le_refl _) _⟩
  have hlen : (splitC c l).length ≤ l.length + 1 := by rw [splitC_len]; have := List.count_le_length (a := c) (l := l); omega
  exact World.ownsRow_lit (e := 9) (base := w.heap.size) (size := 1) w (strCellsC (splitC c l)) (splitC c l).length (Nat.le_refl _) (by unfold maxLen; omega) (by simp [strCellsC])
end Go.Proofs.YtlleijickhifmaaGreatDoor
