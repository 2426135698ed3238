/- Digits of a fixed width, and the references' own decimal numbers. Directions in degrees, minutes, seconds and hundredths: angle.Exact, angle.ParseExact and what the references have for them. Directions read: angle.ParseExact and what the references have for them. angle.join, angle.ParseExact, leg.course and what the references have for them. -/
import Derived.Test.YtijfmfdnagjlpaaGreatDoorPk15
import Derived.Test.YtijfmfdnagjlpaaGreatDoorPk11
namespace Go.Proofs.YtijfmfdnagjlpaaGreatDoor
open Go.RowKit Go.Sort
set_option linter.unusedVariables false
set_option linter.unusedSimpArgs false
set_option maxRecDepth 100000
/-- The last k digits of n. -/
def digW : Nat → Nat → List UInt8
  | 0, _ => []
  | k + 1, n => digW k (n / 10) ++ [dg (n % 10)]
theorem digW_len (k n : Nat) : (digW k n).length = k := by
  induction k generalizing n with
  | zero => rfl
  | succ k ih => simp [digW, ih]
attribute [local go_sem] ba_cat cat_len
theorem alloc_below (w : World) (o : Obj) : Below w.heap.size w (w.alloc o) := (Below.refl _ _).alloc (Nat.le_refl _) _
theorem conv1 (W : World) (y : Int) (h : 0 ≤ y) : (convert 55 9 (.slice (some ⟨W.heap.size, 0, none⟩) 1 1)).run Tryz.prog (W.alloc (.cells #[.int .u8 (48 + y)] 5)) = .ok (.string ⟨[dg y.toNat].toArray⟩) (W.alloc (.cells #[.int .u8 (48 + y)] 5)) := by
  have h1 := run_convert_bytes_arg (P := Tryz.prog) (W.alloc (.cells #[.int .u8 (48 + y)] 5)) 55 5 Tryz.underlying55 Tryz.underlying5 W.heap.size 0 1 1 [48 + y] rfl (by
    intro i hi
    obtain rfl : i = 0 := by omega
    exact (cell_of_row _ _ 0 #[.int .u8 (48 + y)] _ _ (heap_alloc_new W _))) 9 Tryz.underlying9
  rw [h1]
  unfold strOfNums dg
  rw [show (48 + y) = ((48 + y.toNat : Nat) : Int) by omega]
  rfl
theorem conv1g (y : Int) (h : 0 ≤ y) (W : World) (g : Nat) (hc : W.cell? ⟨g, 0, none⟩ = some (.int .u8 (48 + y))) : (convert 55 9 (.slice (some ⟨g, 0, none⟩) 1 1)).run Tryz.prog W = .ok (.string ⟨[dg y.toNat].toArray⟩) W := by
  have h1 := run_convert_bytes_arg (P := Tryz.prog) W 55 5 Tryz.underlying55 Tryz.underlying5 g 0 1 1 [48 + y] rfl (by
    intro i hi
    obtain rfl : i = 0 := by omega
    exact hc) 9 Tryz.underlying9
  rw [h1]
  unfold strOfNums dg
  rw [show (48 + y) = ((48 + y.toNat : Nat) : Int) by omega]
  rfl
def valS (l : List UInt8) : Int × Bool := if val l ≤ 4611686018427387904 then ((val l : Int), true) else (0, false)
theorem val_take_le (l : List UInt8) (k : Nat) : val (l.take k) ≤ val l := by
  have h := congrArg val (List.take_append_drop k l)
  unfold val at *
  rw [numV_append] at h
  have := numV_ge (l.drop k) (numV 0 (l.take k))
  omega
theorem rvalue8_any (l : List UInt8) (w : World) (hl : l.length ≤ 4611686018427387904) (hd : l.all isD = true) : Calls Tryz.prog 114 #[.string ⟨l.toArray⟩] w (RetP w (numVal (valS l))) := by
  have HD := Lib.hid hd; clear hd
  go_enter Tryz.func114, Tryz.ntmps114
  go_wp2
  go_loop [4, 5] (fun n i => ∃ k : Nat, k ≤ l.length ∧ i = .int .i64 k ∧ n = .int .i64 (val (l.take k) : Nat) ∧ val (l.take k) ≤ 4611686018427387904) (fun _ i => l.length - (intOf i).toNat)
  case atStart => exact ⟨0, by omega, rfl, by simp [val, numV_nil], by simp [val, numV_nil]⟩
  case round =>
    obtain ⟨k, hk, rfl, rfl, hv⟩ := hrel
    by_cases hlt : k < l.length
    · have HS := Lib.hid (val_take_succ l k hlt)
      have HL := Lib.hid (val_take_le l (k + 1))
      have hc : 48 ≤ l[k].toNat ∧ l[k].toNat ≤ 57 := by
        have := List.all_eq_true.1 HD.out l[k] (List.getElem_mem hlt)
        simpa [isD] using this
      have hc1 := hc.1
      have hc2 := hc.2
      clear hc
      generalize val (l.take k) = m at hv HS ⊢
      go_wp2
      all_goals first
        | (go_ret2; refine RetP.num ?_ rfl; have h1 := HS.out; have h2 := HL.out; unfold valS; rw [if_neg (by omega)])
        | (go_round
           case rel => exact ⟨k + 1, by omega, by go_num, by rw [HS.out]; congr 1; omega, by rw [HS.out]; omega⟩
           case measure => simp [intOf]; omega)
    · have HT := Lib.hid (List.take_of_length_le (l := l) (i := k) (by omega))
      generalize l.take k = t at hv HT ⊢
      go_wp2
      go_ret2
      refine RetP.num ?_ rfl
      rw [HT.out] at hv ⊢
      unfold valS
      rw [if_pos hv]
end Go.Proofs.YtijfmfdnagjlpaaGreatDoor
namespace Go.Proofs.YtijfmfdnagjlpaaGreatDoor
open Go.RowKit Go.Sort
set_option linter.unusedVariables false
set_option linter.unusedSimpArgs false
set_option maxRecDepth 100000
/-- Degrees with three digits, minutes, seconds and hundredths with two. -/
def exactS (a : Nat) : List UInt8 := digW 3 (a / 360000) ++ digW 2 (a % 360000 / 6000) ++ digW 2 (a % 6000 / 100) ++ digW 2 (a % 100)
theorem exactS_len (a : Nat) : (exactS a).length = 9 := by simp [exactS, digW_len]
end Go.Proofs.YtijfmfdnagjlpaaGreatDoor
namespace Go.Proofs.YtijfmfdnagjlpaaGreatDoor
open Go.RowKit Go.Sort
set_option linter.unusedVariables false
set_option linter.unusedSimpArgs false
set_option maxRecDepth 100000
attribute [local go_sem] ba_cat cat_len
def angP (l : List UInt8) : Int × Bool :=
  if l.length = 9 ∧ l.all isD = true ∧ val ((l.drop 3).take 2) < 60 ∧ val ((l.drop 5).take 2) < 60 then
    ((val (l.take 3) : Int) * 360000 + (val ((l.drop 3).take 2) : Int) * 6000 + (val ((l.drop 5).take 2) : Int) * 100 + (val (l.drop 7) : Int), true) else (0, false)
theorem nine {l : List UInt8} (h : l.length = 9) : ∃ c0 c1 c2 c3 c4 c5 c6 c7 c8, l = [c0, c1, c2, c3, c4, c5, c6, c7, c8] := by
  match l, h with
  | [c0, c1, c2, c3, c4, c5, c6, c7, c8], _ => exact ⟨c0, c1, c2, c3, c4, c5, c6, c7, c8, rfl⟩
theorem angP_len {l : List UInt8} (h : l.length ≠ 9) : angP l = (0, false) := by unfold angP; rw [if_neg (fun x => h x.1)]
theorem numS_bd (l : List UInt8) (h : l.length ≤ 3) : 0 ≤ (numS l).1 ∧ (numS l).1 < 1000 := by
  unfold numS
  split
  · rename_i ha
    have h1 := val_lt l ha
    have h2 : 10 ^ l.length ≤ 10 ^ 3 := Nat.pow_le_pow_right (by decide) h
    simp only
    omega
  · simp
theorem numS_yes {l : List UInt8} (h : l.all isD = true) : numS l = ((val l : Int), true) := by unfold numS; rw [if_pos h]
theorem numS_snd (l : List UInt8) : (numS l).2 = l.all isD := by
  unfold numS
  split
  · rename_i h; rw [h]
  · rename_i h; simpa using h
theorem numS_bd2 (l : List UInt8) (h : l.length ≤ 2) : 0 ≤ (numS l).1 ∧ (numS l).1 < 1000 := numS_bd l (by omega)
/-- What join and angle return of nine bytes. -/
theorem angP_nine (c0 c1 c2 c3 c4 c5 c6 c7 c8 : UInt8) : angP [c0, c1, c2, c3, c4, c5, c6, c7, c8] =
    if (numS [c0, c1, c2]).2 = true ∧ (numS [c3, c4]).2 = true ∧ (numS [c5, c6]).2 = true ∧ (numS [c7, c8]).2 = true ∧ (numS [c3, c4]).1 < 60 ∧ (numS [c5, c6]).1 < 60 then
      ((numS [c0, c1, c2]).1 * 360000 + (numS [c3, c4]).1 * 6000 + (numS [c5, c6]).1 * 100 + (numS [c7, c8]).1, true) else (0, false) := by
  simp only [numS_snd]
  unfold angP
  simp only [List.length_cons, List.length_nil, List.all_cons, List.all_nil, Bool.and_true, Bool.and_eq_true, List.drop, List.take, true_and]
  by_cases ha : ((isD c0 = true ∧ isD c1 = true ∧ isD c2 = true) ∧ (isD c3 = true ∧ isD c4 = true) ∧ (isD c5 = true ∧ isD c6 = true) ∧ isD c7 = true ∧ isD c8 = true)
  · obtain ⟨⟨a0, a1, a2⟩, ⟨a3, a4⟩, ⟨a5, a6⟩, a7, a8⟩ := ha
    rw [numS_yes (l := [c0, c1, c2]) (by simp [*]), numS_yes (l := [c3, c4]) (by simp [*]), numS_yes (l := [c5, c6]) (by simp [*]), numS_yes (l := [c7, c8]) (by simp [*])]
    simp only [a0, a1, a2, a3, a4, a5, a6, a7, a8, true_and, Int.ofNat_lt, and_self]
    by_cases hm : val [c3, c4] < 60 ∧ val [c5, c6] < 60
    · rw [if_pos hm, if_pos (by omega)]
    · rw [if_neg hm, if_neg (by omega)]
  · rw [if_neg (by intro h; exact ha (by simp only [h, and_self])), if_neg (by intro h; exact ha ⟨h.1, h.2.1, h.2.2.1, h.2.2.2.1⟩)]
end Go.Proofs.YtijfmfdnagjlpaaGreatDoor
namespace Go.Proofs.YtijfmfdnagjlpaaGreatDoor
open Go.RowKit Go.Sort
set_option linter.unusedVariables false
set_option linter.unusedSimpArgs false
set_option maxRecDepth 100000
def parseExS (l : List UInt8) : Int × Int := if (angP l).2 = true then (if (angP l).1 < 129600000 then ((angP l).1, 0) else (0, 2)) else (0, 4)
abbrev intsVal (x : Int × Int) : Value := .tuple #[.int .i64 x.1, .int .i64 x.2]
theorem RetP.ints {w w' : World} {n b : Int} {x : Int × Int} (h : x = (n, b)) (hw : w = w') : RetP w (intsVal x) (.returned (.tuple #[.int .i64 n, .int .i64 b])) w' := ⟨by rw [h], hw⟩
def courseS (l : List UInt8) : Int × Bool := if l.length = 9 then ((parseExS l).1, (parseExS l).2 == 0) else (0, false)
end Go.Proofs.YtijfmfdnagjlpaaGreatDoor
