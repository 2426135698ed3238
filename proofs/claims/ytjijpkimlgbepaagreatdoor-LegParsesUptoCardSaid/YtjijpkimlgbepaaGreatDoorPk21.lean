/- Digits of a fixed width, and the references' own decimal numbers. -/
import Derived.Test.YtjijpkimlgbepaaGreatDoorPk20
namespace Go.Proofs.YtjijpkimlgbepaaGreatDoor
open Go.RowKit Go.Sort
set_option linter.unusedVariables false
set_option linter.unusedSimpArgs false
set_option maxRecDepth 100000
/-- The last k digits of n. -/
def digW : Nat → Nat → List UInt8
  | 0, _ => []
  | k + 1, n => digW k (n / 10) ++ [dg (n % 10)]
theorem digW_len (k n : Nat) : (digW k n).length = k := by
  induction k generalizing n with
  | zero => rfl
  | succ k ih => simp [digW, ih]
attribute [local go_sem] ba_cat cat_len
theorem alloc_below (w : World) (o : Obj) : Below w.heap.size w (w.alloc o) := (Below.refl _ _).alloc (Nat.le_refl _) _
theorem conv1 (W : World) (y : Int) (h : 0 ≤ y) : (convert 73 9 (.slice (some ⟨W.heap.size, 0, none⟩) 1 1)).run Tryz.prog (W.alloc (.cells #[.int .u8 (48 + y)] 5)) = .ok (.string ⟨[dg y.toNat].toArray⟩) (W.alloc (.cells #[.int .u8 (48 + y)] 5)) := by
  have h1 := run_convert_bytes_arg (P := Tryz.prog) (W.alloc (.cells #[.int .u8 (48 + y)] 5)) 73 5 Tryz.underlying73 Tryz.underlying5 W.heap.size 0 1 1 [48 + y] rfl (by
    intro i hi
    obtain rfl : i = 0 := by omega
    exact (cell_of_row _ _ 0 #[.int .u8 (48 + y)] _ _ (heap_alloc_new W _))) 9 Tryz.underlying9
  rw [h1]
  unfold strOfNums dg
  rw [show (48 + y) = ((48 + y.toNat : Nat) : Int) by omega]
  rfl
theorem rdigits4_any (n : Int) (c : Nat) (w : World) (h0 : 0 ≤ n) (h1 : n ≤ 9223372036854775807) (hc : c ≤ 100) : Calls Tryz.prog 104 #[.int .i64 n, .int .i64 c] w (Ret w (.string ⟨(digW c n.toNat).toArray⟩)) := by
  go_enter Tryz.func104, Tryz.ntmps104
  go_wp2
  go_loopw [0, 5, 7] (fun x s i W => ∃ (u : Int) (l : List UInt8) (k : Nat), 0 ≤ u ∧ u ≤ 9223372036854775807 ∧ k ≤ c ∧ x = .int .i64 u ∧ s = .string ⟨l.toArray⟩ ∧ i = .int .i64 k ∧ l.length = k ∧ digW c n.toNat = digW (c - k) u.toNat ++ l ∧ Below w.heap.size w W) (fun _ _ i _ => c - (intOf i).toNat)
  case atStart => exact ⟨n, [], 0, by omega, by omega, by omega, rfl, rfl, rfl, by simp, by simp, Below.refl _ _⟩
  case round =>
    obtain ⟨u, l, k, hu0, hu, hk, rfl, rfl, rfl, hl, hq, hB⟩ := hrel
    have HQ := Lib.hid hq; clear hq
    by_cases hlt : k < c
    · have e1 := conv1 wr (u % 10) (by omega)
      have HD := Lib.hid (show digW (c - k) u.toNat = digW (c - (k + 1)) (u / 10).toNat ++ [dg (u % 10).toNat] by rw [show c - k = c - (k + 1) + 1 by omega, digW, show u.toNat / 10 = (u / 10).toNat by omega, show u.toNat % 10 = (u % 10).toNat by omega])
      have hl1 : l.length ≤ 100 := by omega
      have HL := Lib.hid hl; clear hl
      go_wp2
      go_roundw
      case rel => exact ⟨u / 10, _, k + 1, by omega, by omega, by omega, rfl, rfl, by go_num, by simp [cat]; have := HL.out; omega, by rw [HQ.out, HD.out]; simp [cat], (below_step hB (alloc_below _ _))⟩
      case measure => simp [intOf]; omega
    · go_wp2
      go_ret
      exact Ret.str (by rw [HQ.out, show c - k = 0 by omega]; rfl) hB
theorem conv1g (y : Int) (h : 0 ≤ y) (W : World) (g : Nat) (hc : W.cell? ⟨g, 0, none⟩ = some (.int .u8 (48 + y))) : (convert 73 9 (.slice (some ⟨g, 0, none⟩) 1 1)).run Tryz.prog W = .ok (.string ⟨[dg y.toNat].toArray⟩) W := by
  have h1 := run_convert_bytes_arg (P := Tryz.prog) W 73 5 Tryz.underlying73 Tryz.underlying5 g 0 1 1 [48 + y] rfl (by
    intro i hi
    obtain rfl : i = 0 := by omega
    exact hc) 9 Tryz.underlying9
  rw [h1]
  unfold strOfNums dg
  rw [show (48 + y) = ((48 + y.toNat : Nat) : Int) by omega]
  rfl
theorem rdecimal_any (k : Nat) : ∀ (n : Int) (w : World), n.toNat ≤ k → 0 ≤ n → n ≤ 9223372036854775807 → Calls Tryz.prog 45 #[.int .i64 n] w (Ret w (.string ⟨(Lib.decDigits n.toNat).toArray⟩)) := by
  induction k using Nat.strongRecOn with
  | ind k ih =>
    intro n w hk h0 h1
    by_cases hlt : n < 10
    · have e1 := conv1 w n h0
      have HE := Lib.hid (dec_small (u := n.toNat) (by omega))
      clear ih
      go_enter Tryz.func45, Tryz.ntmps45
      go_wp2
      go_ret
      exact Ret.str (by rw [HE.out]) (alloc_below _ _)
    · have i1 := Lib.hid (fun w => ih (n / 10).toNat (by omega) (n / 10) w (Nat.le_refl _) (by omega) (by omega))
      have HE := Lib.hid (show Lib.decDigits n.toNat = Lib.decDigits (n / 10).toNat ++ [dg (n % 10).toNat] by rw [dec_big (by omega), show n.toNat / 10 = (n / 10).toNat by omega, show n.toNat % 10 = (n % 10).toNat by omega])
      have hl1 : (Lib.decDigits (n / 10).toNat).length ≤ 19 := dec_len (by decide) (by omega)
      have e1 := conv1g (n % 10) (by omega)
      clear ih
      go_enter Tryz.func45, Tryz.ntmps45
      go_wp2
      have q1 : n.tdiv 10 = n / 10 := Int.tdiv_eq_ediv_of_nonneg h0
      have q2 : n.tmod 10 = n % 10 := Int.tmod_eq_emod_of_nonneg h0
      have q3 : IntKind.i64.wrap (n / 10) = n / 10 := IntWalk.i64_in _ (by omega)
      have q4 : IntKind.i64.wrap (n % 10) = n % 10 := IntWalk.i64_in _ (by omega)
      have q5 : IntKind.i64.wrap (48 + n % 10) = 48 + n % 10 := IntWalk.i64_in _ (by omega)
      have q6 : IntKind.u8.wrap (48 + n % 10) = 48 + n % 10 := by simp only [IntKind.wrap, IntKind.bits, IntKind.signed]; simp; omega
      have q7 : ¬ 9223372036854775807 < (Lib.decDigits (n / 10).toNat).length + 1 := by omega
      go_region_with (go_at_call 45; ((with_reducible refine callR (i1.out _) ?_); intro w1 hb1 hc1 hf1 hz1))
      all_goals go_wp2
      all_goals go_ret
      all_goals refine Ret.str (by rw [HE.out]; rfl) ?_
      all_goals first
        | exact below_step (below_step (Below.refl _ _).drew hb1) (alloc_below _ _)
        | exact below_step (alloc_below _ _).drew hb1
        | (go_grown; done)
def valS (l : List UInt8) : Int × Bool := if val l ≤ 4611686018427387904 then ((val l : Int), true) else (0, false)
theorem val_take_le (l : List UInt8) (k : Nat) : val (l.take k) ≤ val l := by
  have h := congrArg val (List.take_append_drop k l)
  unfold val at *
  rw [numV_append] at h
  have := numV_ge (l.drop k) (numV 0 (l.take k))
  omega
theorem rvalue8_any (l : List UInt8) (w : World) (hl : l.length ≤ 4611686018427387904) (hd : l.all isD = true) : Calls Tryz.prog 133 #[.string ⟨l.toArray⟩] w (RetP w (numVal (valS l))) := by
  have HD := Lib.hid hd; clear hd
  go_enter Tryz.func133, Tryz.ntmps133
  go_wp2
  go_loop [4, 5] (fun n i => ∃ k : Nat, k ≤ l.length ∧ i = .int .i64 k ∧ n = .int .i64 (val (l.take k) : Nat) ∧ val (l.take k) ≤ 4611686018427387904) (fun _ i => l.length - (intOf i).toNat)
  case atStart => exact ⟨0, by omega, rfl, by simp [val, numV_nil], by simp [val, numV_nil]⟩
  case round =>
    obtain ⟨k, hk, rfl, rfl, hv⟩ := hrel
    by_cases hlt : k < l.length
    · have HS := Lib.hid (val_take_succ l k hlt)
      have HL := Lib.hid (val_take_le l (k + 1))
      have hc : 48 ≤ l[k].toNat ∧ l[k].toNat ≤ 57 := by
        have := List.all_eq_true.1 HD.out l[k] (List.getElem_mem hlt)
        simpa [isD] using this
      have hc1 := hc.1
      have hc2 := hc.2
      clear hc
      generalize val (l.take k) = m at hv HS ⊢
      go_wp2
      all_goals first
        | (go_ret2; refine RetP.num ?_ rfl; have h1 := HS.out; have h2 := HL.out; unfold valS; rw [if_neg (by omega)])
        | (go_round
           case rel => exact ⟨k + 1, by omega, by go_num, by rw [HS.out]; congr 1; omega, by rw [HS.out]; omega⟩
           case measure => simp [intOf]; omega)
    · have HT := Lib.hid (List.take_of_length_le (l := l) (i := k) (by omega))
      generalize l.take k = t at hv HT ⊢
      go_wp2
      go_ret2
      refine RetP.num ?_ rfl
      rw [HT.out] at hv ⊢
      unfold valS
      rw [if_pos hv]
end Go.Proofs.YtjijpkimlgbepaaGreatDoor
