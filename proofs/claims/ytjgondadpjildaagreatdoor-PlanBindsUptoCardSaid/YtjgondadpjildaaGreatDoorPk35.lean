/- fixed: the size, the division, the sign; the program's; walks. fixed.MulDivRound; the reference's quotient and Round; walks. plane.To; walk. -/
import Derived.Test.YtjgondadpjildaaGreatDoorPk33
import Derived.Test.YtjgondadpjildaaGreatDoorPk34
import Derived.Test.YtjgondadpjildaaGreatDoorPk01
import Derived.Test.YtjgondadpjildaaGreatDoorPk30
import Derived.Test.YtjgondadpjildaaGreatDoorPk32
namespace Go.Proofs.YtjgondadpjildaaGreatDoor
open Go.RowKit Go.Sort
set_option linter.unusedVariables false
set_option linter.unusedSimpArgs false
set_option maxRecDepth 100000
theorem u64_mod (x : Int) : IntKind.u64.wrap x = x % 18446744073709551616 := rfl
theorem fsize_any (a : Int) (h : i64 a) (w : World) : Calls Tryz.prog 168 #[.int .i64 a] w (RetP w (.int .u64 ((a.natAbs : Nat) : Int))) := by
  obtain ⟨h0, h1⟩ := h
  go_enter Tryz.func168, Tryz.ntmps168
  go_wp2
  all_goals (go_ret; exact RetP.int (by try rw [u64_mod]
                                        try rw [u64_mod]
                                        omega) rfl)
theorem fdiv_any (l d : Nat) (hl : l < 18446744073709551616) (hd0 : 0 < d) (hd : d < 18446744073709551616) (w : World) : Calls Tryz.prog 170 #[.int .u64 0, .int .u64 (l : Int), .int .u64 (d : Int)] w (Ret w (.tuple #[.int .u64 ((l / d : Nat) : Int), .int .u64 ((l % d : Nat) : Int)])) := by
  have e1 : ((l / d : Nat) : Int) = IntKind.u64.wrap ((l : Int) / (d : Int)) := by
    have : l / d ≤ l := Nat.div_le_self _ _
    rw [u64_mod, ← Int.natCast_ediv]
    generalize l / d = q at *
    omega
  have e2 : ((l % d : Nat) : Int) = (l : Int) % (d : Int) := Int.natCast_emod _ _
  go_enter Tryz.func170, Tryz.ntmps170
  go_wp2
  go_region
  go_wp2
  go_ret2
  exact ⟨by rw [← e1, ← e2]; rfl, by go_grown⟩
theorem fsigned_pos (n : Int) (h0 : 0 ≤ n) (hn : n < 9223372036854775808) (w : World) : Calls Tryz.prog 171 #[.int .u64 n, .bool false] w (RetP w (.tuple #[.int .i64 n, .int .i64 0])) := by
  go_enter Tryz.func171, Tryz.ntmps171
  go_wp2
  go_ret2
  exact ⟨rfl, rfl⟩
theorem fsigned_neg (n : Int) (h0 : 0 ≤ n) (hn : n < 9223372036854775808) (w : World) : Calls Tryz.prog 171 #[.int .u64 n, .bool true] w (RetP w (.tuple #[.int .i64 (-n), .int .i64 0])) := by
  have e : wrap64 (IntKind.u64.wrap (-n)) = -n := by
    rw [u64_mod]
    unfold wrap64
    omega
  go_enter Tryz.func171, Tryz.ntmps171
  go_wp2
  go_ret2
  exact ⟨by rw [e]; rfl, rfl⟩
/-- What is rounded up in size. -/
def awayN (neg : Bool) (n c : Nat) : Nat := if neg then (if c - n % c < n % c then 1 else 0) else (if c - n % c ≤ n % c then 1 else 0)
theorem awayN_le {neg : Bool} {n c : Nat} (hc : 0 < c) : n / c + awayN neg n c ≤ n := by
  unfold awayN
  split
  · exact near_lt hc
  · exact near_le hc
theorem nearS_eq (a c : Int) : nearS a c = if decide (a < 0) then -((a.natAbs / c.natAbs + awayN (decide (a < 0)) a.natAbs c.natAbs : Nat) : Int) else ((a.natAbs / c.natAbs + awayN (decide (a < 0)) a.natAbs c.natAbs : Nat) : Int) := by
  unfold nearS awayN
  by_cases h : a < 0
  · simp only [h, decide_true, if_true]
  · simp only [h, decide_false, if_false, Bool.false_eq_true]
theorem fmul_any (x y : Nat) (hx : x < 18446744073709551616) (hy : y < 18446744073709551616) (h : x * y < 18446744073709551616) (w : World) : Calls Tryz.prog 169 #[.int .u64 (x : Int), .int .u64 (y : Int)] w (RetP w (.tuple #[.int .u64 0, .int .u64 ((x * y : Nat) : Int)])) := by
  refine (Tryz.bits_Mul64 x y hx hy w).mono fun e w' hh => ?_
  rw [Nat.div_eq_of_lt h, Nat.mod_eq_of_lt h] at hh
  exact ⟨hh.1, hh.2.symm⟩
theorem fscale_neg (a b c : Int) (a0 : 0 < a) (a1 : i64 a) (b1 : i64 b) (c0 : 0 < c) (c1 : i64 c) (hn : a.natAbs * b.natAbs < 9223372036854775808) (hb : b < 0) (w : World) : Calls Tryz.prog 116 #[.int .i64 a, .int .i64 b, .int .i64 c, .int .u8 2] w (Ret w (.tuple #[.int .i64 (nearS (a * b) c), .int .i64 0])) := by
  have e0 : (a * b).natAbs = a.natAbs * b.natAbs := Int.natAbs_mul a b
  have e1 : decide (a * b < 0) = true := by
    rw [decide_eq_true_eq]; exact Int.mul_neg_of_pos_of_neg a0 hb
  have hnear := nearS_eq (a * b) c
  rw [e1, if_pos rfl, e0] at hnear
  have hle := awayN_le (neg := true) (n := a.natAbs * b.natAbs) (c := c.natAbs) (by omega)
  have hak : awayN true (a.natAbs * b.natAbs) c.natAbs = if c.natAbs - (a.natAbs * b.natAbs) % c.natAbs < (a.natAbs * b.natAbs) % c.natAbs then 1 else 0 := rfl
  have hr : (a.natAbs * b.natAbs) % c.natAbs < c.natAbs := Nat.mod_lt _ (by omega)
  have hna : a.natAbs < 18446744073709551616 := by have := a1.1; have := a1.2; omega
  have hnb : b.natAbs < 18446744073709551616 := by have := b1.1; have := b1.2; omega
  have hc63 : c.natAbs < 9223372036854775808 := by have := c1.1; have := c1.2; omega
  have hcp : 0 < c.natAbs := by omega
  have k1 := Lib.hid (fsize_any a a1)
  have k2 := Lib.hid (fsize_any b b1)
  have k3 := Lib.hid (fsize_any c c1)
  have k4 := Lib.hid (fun w => fmul_any a.natAbs b.natAbs hna hnb (Nat.lt_trans hn (by decide)) w)
  have k5 := Lib.hid (fun w => fdiv_any (a.natAbs * b.natAbs) c.natAbs (Nat.lt_trans hn (by decide)) hcp (Nat.lt_trans hc63 (by decide)) w)
  have hq63 : (a.natAbs * b.natAbs) / c.natAbs ≤ a.natAbs * b.natAbs := Nat.div_le_self _ _
  clear e0 e1
  generalize nearS (a * b) c = out at *
  generalize awayN true (a.natAbs * b.natAbs) c.natAbs = k at *
  generalize a.natAbs * b.natAbs / c.natAbs = q at *
  generalize a.natAbs * b.natAbs % c.natAbs = r at *
  generalize a.natAbs * b.natAbs = n at *
  generalize c.natAbs = d at *
  generalize a.natAbs = na at *
  generalize b.natAbs = nb at *
  rw [Int.natCast_add] at hnear
  have k6 := Lib.hid (show ∀ w, Calls Tryz.prog 171 #[.int .u64 ((q : Int) + k), .bool true] w (RetP w (.tuple #[.int .i64 out, .int .i64 0])) from fun w => by rw [hnear]; exact fsigned_neg ((q : Int) + k) (by omega) (by omega) w)
  have hd0 : (0 : Int) < d := by omega
  have hrd : (r : Int) < d := by omega
  have hw : IntKind.u64.wrap ((d : Int) - r) = (d : Int) - r := by rw [u64_mod]; omega
  have hw2 : IntKind.u64.wrap ((q : Int) + 1) = (q : Int) + 1 := by rw [u64_mod]; omega
  have hn63 : (n : Int) < 9223372036854775808 := by omega
  have hq64 : (q : Int) < 9223372036854775808 := by omega
  have hd63 : (d : Int) < 9223372036854775808 := by omega
  have hdn : ¬ (0 : Int) ≥ d := by omega
  have ha : (a < 0) = False := by simp; omega
  have hb' : (b < 0) = True := by simp; omega
  have hc : (c < 0) = False := by simp; omega
  have hcz : (c == 0) = false := by simp; omega
  have hki : (k : Int) = if ((d : Int) - r < (r : Int)) then 1 else 0 := by
    rw [hak]
    split <;> split <;> omega
  have hr0 : (0 : Int) ≤ r := by omega
  have k7 := Lib.hid (show ¬ ((d : Int) - r < (r : Int)) → ∀ w, Calls Tryz.prog 171 #[.int .u64 (q : Int), .bool true] w (RetP w (.tuple #[.int .i64 out, .int .i64 0])) from fun h w => by have := k6.out w; rw [hki, if_neg h, Int.add_zero] at this; exact this)
  have k8 := Lib.hid (show ((d : Int) - r < (r : Int)) → ∀ w, Calls Tryz.prog 171 #[.int .u64 ((q : Int) + 1), .bool true] w (RetP w (.tuple #[.int .i64 out, .int .i64 0])) from fun h w => by have := k6.out w; rw [hki, if_pos h] at this; exact this)
  have hq0 : (0 : Int) ≤ q := by omega
  clear hn hnear hle hr hq63 hc63 hak hcp hna hnb hki k6
  generalize (k : Int) = ki at *
  generalize (q : Int) = qi at *
  generalize (r : Int) = ri at *
  generalize (n : Int) = ni at *
  generalize (d : Int) = di at *
  generalize (na : Int) = nai at *
  generalize (nb : Int) = nbi at *
  go_enter Tryz.func116, Tryz.ntmps116
  go_wp2_with (first | (go_at_call 168; first | (with_reducible refine callP (k1.out _) ?_) | (with_reducible refine callP (k2.out _) ?_) | (with_reducible refine callP (k3.out _) ?_)) | (go_at_call 169; (with_reducible refine callP (k4.out _) ?_)) | (go_at_call 170; (with_reducible refine callR (k5.out _) ?_; intro _ _ _ _ _)) | (go_at_call 171; first | (with_reducible refine callP (k7.out (by omega) _) ?_) | (with_reducible refine callP (k8.out (by omega) _) ?_)))
  all_goals (go_ret2; exact ⟨rfl, by assumption⟩)
theorem fscale_pos (a b c : Int) (a0 : 0 < a) (a1 : i64 a) (b1 : i64 b) (c0 : 0 < c) (c1 : i64 c) (hn : a.natAbs * b.natAbs < 9223372036854775808) (hb : 0 ≤ b) (w : World) : Calls Tryz.prog 116 #[.int .i64 a, .int .i64 b, .int .i64 c, .int .u8 2] w (Ret w (.tuple #[.int .i64 (nearS (a * b) c), .int .i64 0])) := by
  have e0 : (a * b).natAbs = a.natAbs * b.natAbs := Int.natAbs_mul a b
  have e1 : decide (a * b < 0) = false := by
    rw [decide_eq_false_iff_not]; exact Int.not_lt.mpr (Int.mul_nonneg (Int.le_of_lt a0) hb)
  have hnear := nearS_eq (a * b) c
  rw [e1, if_neg Bool.false_ne_true, e0] at hnear
  have hle := awayN_le (neg := false) (n := a.natAbs * b.natAbs) (c := c.natAbs) (by omega)
  have hak : awayN false (a.natAbs * b.natAbs) c.natAbs = if c.natAbs - (a.natAbs * b.natAbs) % c.natAbs ≤ (a.natAbs * b.natAbs) % c.natAbs then 1 else 0 := rfl
  have hr : (a.natAbs * b.natAbs) % c.natAbs < c.natAbs := Nat.mod_lt _ (by omega)
  have hna : a.natAbs < 18446744073709551616 := by have := a1.1; have := a1.2; omega
  have hnb : b.natAbs < 18446744073709551616 := by have := b1.1; have := b1.2; omega
  have hc63 : c.natAbs < 9223372036854775808 := by have := c1.1; have := c1.2; omega
  have hcp : 0 < c.natAbs := by omega
  have k1 := Lib.hid (fsize_any a a1)
  have k2 := Lib.hid (fsize_any b b1)
  have k3 := Lib.hid (fsize_any c c1)
  have k4 := Lib.hid (fun w => fmul_any a.natAbs b.natAbs hna hnb (Nat.lt_trans hn (by decide)) w)
  have k5 := Lib.hid (fun w => fdiv_any (a.natAbs * b.natAbs) c.natAbs (Nat.lt_trans hn (by decide)) hcp (Nat.lt_trans hc63 (by decide)) w)
  have hq63 : (a.natAbs * b.natAbs) / c.natAbs ≤ a.natAbs * b.natAbs := Nat.div_le_self _ _
  clear e0 e1
  generalize nearS (a * b) c = out at *
  generalize awayN false (a.natAbs * b.natAbs) c.natAbs = k at *
  generalize a.natAbs * b.natAbs / c.natAbs = q at *
  generalize a.natAbs * b.natAbs % c.natAbs = r at *
  generalize a.natAbs * b.natAbs = n at *
  generalize c.natAbs = d at *
  generalize a.natAbs = na at *
  generalize b.natAbs = nb at *
  rw [Int.natCast_add] at hnear
  have k6 := Lib.hid (show ∀ w, Calls Tryz.prog 171 #[.int .u64 ((q : Int) + k), .bool false] w (RetP w (.tuple #[.int .i64 out, .int .i64 0])) from fun w => by rw [hnear]; exact fsigned_pos ((q : Int) + k) (by omega) (by omega) w)
  have hd0 : (0 : Int) < d := by omega
  have hrd : (r : Int) < d := by omega
  have hw : IntKind.u64.wrap ((d : Int) - r) = (d : Int) - r := by rw [u64_mod]; omega
  have hw2 : IntKind.u64.wrap ((q : Int) + 1) = (q : Int) + 1 := by rw [u64_mod]; omega
  have hn63 : (n : Int) < 9223372036854775808 := by omega
  have hq64 : (q : Int) < 9223372036854775808 := by omega
  have hd63 : (d : Int) < 9223372036854775808 := by omega
  have hdn : ¬ (0 : Int) ≥ d := by omega
  have ha : (a < 0) = False := by simp; omega
  have hb' : (b < 0) = False := by simp; omega
  have hc : (c < 0) = False := by simp; omega
  have hcz : (c == 0) = false := by simp; omega
  have hki : (k : Int) = if ((d : Int) - r ≤ (r : Int)) then 1 else 0 := by
    rw [hak]
    split <;> split <;> omega
  have hr0 : (0 : Int) ≤ r := by omega
  have k7 := Lib.hid (show ¬ ((d : Int) - r ≤ (r : Int)) → ∀ w, Calls Tryz.prog 171 #[.int .u64 (q : Int), .bool false] w (RetP w (.tuple #[.int .i64 out, .int .i64 0])) from fun h w => by have := k6.out w; rw [hki, if_neg h, Int.add_zero] at this; exact this)
  have k8 := Lib.hid (show ((d : Int) - r ≤ (r : Int)) → ∀ w, Calls Tryz.prog 171 #[.int .u64 ((q : Int) + 1), .bool false] w (RetP w (.tuple #[.int .i64 out, .int .i64 0])) from fun h w => by have := k6.out w; rw [hki, if_pos h] at this; exact this)
  have hq0 : (0 : Int) ≤ q := by omega
  clear hn hnear hle hr hq63 hc63 hak hcp hna hnb hki k6
  generalize (k : Int) = ki at *
  generalize (q : Int) = qi at *
  generalize (r : Int) = ri at *
  generalize (n : Int) = ni at *
  generalize (d : Int) = di at *
  generalize (na : Int) = nai at *
  generalize (nb : Int) = nbi at *
  go_enter Tryz.func116, Tryz.ntmps116
  go_wp2_with (first | (go_at_call 168; first | (with_reducible refine callP (k1.out _) ?_) | (with_reducible refine callP (k2.out _) ?_) | (with_reducible refine callP (k3.out _) ?_)) | (go_at_call 169; (with_reducible refine callP (k4.out _) ?_)) | (go_at_call 170; (with_reducible refine callR (k5.out _) ?_; intro _ _ _ _ _)) | (go_at_call 171; first | (with_reducible refine callP (k7.out (by first | omega | grind) _) ?_) | (with_reducible refine callP (k8.out (by first | omega | grind) _) ?_)))
  all_goals (go_ret2; exact ⟨rfl, by assumption⟩)
end Go.Proofs.YtjgondadpjildaaGreatDoor
namespace Go.Proofs.YtjgondadpjildaaGreatDoor
open Go.RowKit Go.Sort
set_option linter.unusedVariables false
set_option linter.unusedSimpArgs false
set_option maxRecDepth 100000
theorem mdr_any (a b c : Int) (a0 : 0 < a) (a1 : i64 a) (b1 : i64 b) (c0 : 0 < c) (c1 : i64 c) (hn : a.natAbs * b.natAbs < 9223372036854775808) (w : World) : Calls Tryz.prog 72 #[.int .i64 a, .int .i64 b, .int .i64 c] w (Ret w (.tuple #[.int .i64 (nearS (a * b) c), .int .i64 0])) := by
  have k := Lib.hid (show ∀ w, Calls Tryz.prog 116 #[.int .i64 a, .int .i64 b, .int .i64 c, .int .u8 2] w (Ret w (.tuple #[.int .i64 (nearS (a * b) c), .int .i64 0])) from fun w => by
    by_cases h : b < 0
    · exact fscale_neg a b c a0 a1 b1 c0 c1 hn h w
    · exact fscale_pos a b c a0 a1 b1 c0 c1 hn (by omega) w)
  generalize nearS (a * b) c = out at *
  go_enter Tryz.func72, Tryz.ntmps72
  go_wp2_with (go_at_call 116; (with_reducible refine callR (k.out _) ?_); intro _ _ _ _ _)
  go_ret2
  exact ⟨rfl, by assumption⟩
end Go.Proofs.YtjgondadpjildaaGreatDoor
namespace Go.Proofs.YtjgondadpjildaaGreatDoor
open Go.RowKit Go.Sort
set_option linter.unusedVariables false
set_option linter.unusedSimpArgs false
set_option maxRecDepth 100000
/-- A point of a pair. -/
def ptP (p : Int × Int) : Pt := ⟨p.1, p.2⟩
theorem Fits_pt (x : Pt) (o n : Nat) : Fits o n x.arr = (o + n ≤ 2) := propext ⟨fun h => h, fun h => h⟩
theorem splice_pt (a b : Pt) : splice a.arr 0 b.arr = b.arr := rfl
attribute [go_sem] Fits_pt splice_pt
def bpt (parts : Array (Nat × Value)) : Sem Value := Instr.build 38 parts
theorem bpt_fold (parts : Array (Nat × Value)) : Instr.build 38 parts = bpt parts := rfl
theorem run_bpt0 (w : World) : (bpt #[]).run Tryz.prog w = .ok (.agg (Pt.arr ⟨0, 0⟩)) w := run_build w _ _ _ (by kernel_rfl)
theorem run_bpt2 (w : World) (a b : Int) : (bpt #[(0, .int .i64 a), (1, .int .i64 b)]).run Tryz.prog w = .ok (.agg (Pt.arr ⟨a, b⟩)) w := run_build w _ _ _ (by kernel_rfl)
attribute [local go_sem ↓] bpt_fold
attribute [local go_sem] run_bpt0 run_bpt2
/-- What the walk meets of the products of a local vector. -/
theorem near_args {v : Int} (h1 : -3221225472 ≤ v ∧ v ≤ 3221225472) : i64 v ∧ (20626481 : Int).natAbs * v.natAbs < 9223372036854775808 := by
  unfold i64
  constructor
  · omega
  · have : v.natAbs ≤ 3221225472 := by omega
    show 20626481 * v.natAbs < _
    omega
theorem alloc_below3 (w : World) (o : Obj) : Below w.heap.size w (w.alloc o) := (Below.refl _ _).alloc (Nat.le_refl _) _
set_option maxHeartbeats 4000000 in
theorem planeto_any (a b c d : Int) (w : World) : Calls Tryz.prog 31 #[.agg (Pos.arr ⟨a, b⟩), .agg (Pos.arr ⟨c, d⟩)] w (Ret w (.tuple #[.agg (ptP (toPlane a b c d).1).arr, .int .i64 (toPlane a b c d).2])) := by
  have k1 := Lib.hid (origin_any a b)
  have k2 := Lib.hid (svalid_any c d)
  have HT := Lib.hid (show toPlane a b c d = if originB a b && posB c d then toS3 (localS a b c d) else ((0, 0), 1) from rfl)
  have HL := Lib.hid (show originB a b = true → posB c d = true → ∀ w, Calls Tryz.prog 71 #[.agg (Pos.arr ⟨a, b⟩), .agg (Pos.arr ⟨c, d⟩)] w (Ret w (.tuple #[.agg (localV a b c d).arr, .int .i64 0])) from fun h1 h2 w =>
    sLocal_any a b c d (by unfold originB at h1; simp only [Bool.and_eq_true] at h1; exact h1.1) h2 w)
  have HV : localV a b c d = V3.vec (localS a b c d) := rfl
  rw [HV] at HL
  clear HV
  have hin := Lib.hid (localS_in a b c d)
  generalize toPlane a b c d = out at *
  generalize originB a b = ob at *
  generalize posB c d = pb at *
  generalize localS a b c d = v at *
  go_enter Tryz.func31, Tryz.ntmps31
  go_upto_region 1 with (fail)
  generalize hW : ((w.alloc _).alloc _).alloc _ = W
  have X0 : Blk W w.heap.size (Pos.arr ⟨a, b⟩) := by rw [← hW]; exact ((Blk.new w _ _).alloc _).alloc _
  have Y0 : Blk W (w.heap.size + 1) (Pos.arr ⟨c, d⟩) := by rw [← hW, ← World.size_alloc w (.cells (Pos.arr ⟨a, b⟩) 23)]; exact (Blk.new _ _ _).alloc _
  have R0 : Blk W (w.heap.size + 1 + 1) (Pt.arr ⟨0, 0⟩) := by rw [← hW, ← World.size_alloc w (.cells (Pos.arr ⟨a, b⟩) 23), ← World.size_alloc (w.alloc (.cells (Pos.arr ⟨a, b⟩) 23)) (.cells (Pos.arr ⟨c, d⟩) 23)]; exact Blk.new _ _ _
  have B0 : Below w.heap.size w W := by rw [← hW]; go_grown
  clear hW
  obtain ⟨g1, hg1⟩ : ∃ g, g = w.heap.size + 1 := ⟨_, rfl⟩
  obtain ⟨g2, hg2⟩ : ∃ g, g = w.heap.size + 1 + 1 := ⟨_, rfl⟩
  obtain ⟨g0, hg0⟩ : ∃ g, g = w.heap.size := ⟨_, rfl⟩
  rw [← hg2] at R0 ⊢
  rw [← hg1] at Y0 ⊢
  rw [← hg0] at X0 ⊢
  have hgle : w.heap.size ≤ g2 := by omega
  clear hg0 hg1 hg2
  have HX := Lib.hid (fun W' (h : Below W.heap.size W W') => X0.step h)
  have HY := Lib.hid (fun W' (h : Below W.heap.size W W') => Y0.step h)
  have HR := Lib.hid (fun W' (h : Below W.heap.size W W') => R0.step h)
  have i1 : Has_pos W g0 0 := ⟨_, X0.is_pos⟩
  have i2 : of_pos W g0 0 = ⟨a, b⟩ := of_pos_eq X0.is_pos
  have BB := Lib.hid (fun W' (h : Below W.heap.size W W') => below_step B0 h)
  clear X0 Y0 R0 B0
  cases ob with
  | false =>
    have HO := Lib.hid (show out = ((0, 0), 1) by rw [HT.out]; rfl)
    go_upto_region 2 with (go_at_call 69; (with_reducible refine callR (k1.out _) ?_); intro w1 b1 _ _ _)
    have R1 := HR.out w1 b1
    have d2 := R1.plain
    have d3 := R1.of
    go_wp2
    exact bodyPost_ret (results_agg Tryz.results31 _ _ g2 (Pt.arr ⟨0, 0⟩) 2 _ rfl rfl (R1.set _).cell Tryz.underlying38 rfl info_pt) rfl ⟨by rw [HO.out]; rfl, below_setRow' (BB.out _ b1) hgle _⟩
  | true =>
    cases pb with
    | false =>
      have HO := Lib.hid (show out = ((0, 0), 1) by rw [HT.out]; rfl)
      go_upto_region 2 with (first
        | (go_at_call 69; (with_reducible refine callR (k1.out _) ?_); intro w1 b1 _ _ _
           have i3 : Has_pos w1 g1 0 := ⟨_, (HY.out w1 b1).is_pos⟩
           have i4 : of_pos w1 g1 0 = ⟨c, d⟩ := of_pos_eq (HY.out w1 b1).is_pos)
        | (go_at_call 70; (with_reducible refine callR (k2.out _) ?_); intro w2 b2 _ _ _
           have b12 := below_step b1 b2
           have R1 := HR.out w2 b12
           have d2 := R1.plain
           have d3 := R1.of))
      go_wp2
      exact bodyPost_ret (results_agg Tryz.results31 _ _ g2 (Pt.arr ⟨0, 0⟩) 2 _ rfl rfl (R1.set _).cell Tryz.underlying38 rfl info_pt) rfl ⟨by rw [HO.out]; rfl, below_setRow' (BB.out _ b12) hgle _⟩
    | true =>
      have k3 := Lib.hid (HL.out rfl rfl)
      have HO := Lib.hid (show out = toS3 v by rw [HT.out]; rfl)
      clear HT HL
      go_upto_region 3 with (first
        | (go_at_call 69; (with_reducible refine callR (k1.out _) ?_); intro w1 b1 _ _ _
           have i3 : Has_pos w1 g1 0 := ⟨_, (HY.out w1 b1).is_pos⟩
           have i4 : of_pos w1 g1 0 = ⟨c, d⟩ := of_pos_eq (HY.out w1 b1).is_pos)
        | (go_at_call 70; (with_reducible refine callR (k2.out _) ?_); intro w2 b2 _ _ _))
      have b12 := below_step b1 b2
      have X2 := HX.out _ b12
      have Y2 := HY.out _ b12
      have R2 := HR.out _ b12
      have B2 := BB.out _ b12
      clear i1 i2 i3 i4 HX HY HR BB b1 b2 b12 k1 k2
      have i1 : Has_pos w2 g0 0 := ⟨_, X2.is_pos⟩
      have i2 : of_pos w2 g0 0 = ⟨a, b⟩ := of_pos_eq X2.is_pos
      have i3 : Has_pos w2 g1 0 := ⟨_, Y2.is_pos⟩
      have i4 : of_pos w2 g1 0 = ⟨c, d⟩ := of_pos_eq Y2.is_pos
      go_upto_region 4 with ((go_at_call 71; (with_reducible refine callR (k3.out _) ?_); intro w3 b3 _ _ _))
      have B3 := below_step B2 b3
      have R3 := R2.step b3
      clear i1 i2 i3 i4 X2 Y2 R2 B2 b3 k3
      obtain ⟨x, y, z⟩ := v
      have hv : V3.vec (x, y, z) = ⟨x, y, z⟩ := rfl
      rw [hv]
      have hin' := hin.out
      have nx := near_args (v := x) hin'.1
      have ny := near_args (v := y) hin'.2.1
      have nz : i64 z := (near_args (v := z) hin'.2.2).1
      have X4 := Blk.new w3 (Vec.arr ⟨x, y, z⟩) 102
      have B4 := below_step B3 (alloc_below3 w3 (.cells (Vec.arr ⟨x, y, z⟩) 102))
      have R4 := R3.alloc (.cells (Vec.arr ⟨x, y, z⟩) 102)
      generalize w3.alloc _ = W4 at X4 B4 R4 ⊢
      generalize w3.heap.size = g4 at X4 ⊢
      clear R3 B3 hin' hin hv
      have k0 : W4.cell? ⟨g4, 0, none⟩ = some (.int .i64 x) := X4.cell 0
      have k1 : W4.cell? ⟨g4, 1, none⟩ = some (.int .i64 y) := X4.cell 1
      have k2 : W4.cell? ⟨g4, 2, none⟩ = some (.int .i64 z) := X4.cell 2
      by_cases hz : z ≤ 0
      · have HO2 := Lib.hid (show out = ((0, 0), 2) by rw [HO.out]; exact if_pos hz)
        have d2 := R4.plain
        have d3 := R4.of
        clear HO nx ny
        go_wp2
        exact bodyPost_ret (results_agg Tryz.results31 _ _ g2 (Pt.arr ⟨0, 0⟩) 2 _ rfl rfl (R4.set _).cell Tryz.underlying38 rfl info_pt) rfl ⟨by rw [HO2.out]; rfl, below_setRow' B4 hgle _⟩
      · have HO2 := Lib.hid (show out = if pointOkB (nearS (20626481 * x) z) (nearS (20626481 * y) z) then ((nearS (20626481 * x) z, nearS (20626481 * y) z), 0) else ((0, 0), 2) by rw [HO.out]; exact if_neg hz)
        have m1 := Lib.hid (mdr_any 20626481 x z (by decide) (by unfold i64; omega) nx.1 (by omega) nz nx.2)
        have m2 := Lib.hid (mdr_any 20626481 y z (by decide) (by unfold i64; omega) ny.1 (by omega) nz ny.2)
        have HV := Lib.hid (ptvalid_any (nearS (20626481 * x) z) (nearS (20626481 * y) z))
        clear HO nx ny nz
        generalize nearS (20626481 * x) z = px at *
        generalize nearS (20626481 * y) z = py at *
        generalize pointOkB px py = pv at *
        go_upto_region 7 with (go_at_call 72; (with_reducible refine callR (m1.out _) ?_); intro w5 b5 _ _ _)
        have k1 : w5.cell? ⟨g4, 1, none⟩ = some (.int .i64 y) := (X4.step b5).cell 1
        have k2 : w5.cell? ⟨g4, 2, none⟩ = some (.int .i64 z) := (X4.step b5).cell 2
        clear k0
        go_upto_region 8 with (go_at_call 72; (with_reducible refine callR (m2.out _) ?_); intro w6 b6 _ _ _)
        have R6 := (R4.step b5).step b6
        have B6 := below_step (below_step B4 b5) b6
        clear k1 k2 X4 b5 b6 R4 B4 m1 m2
        go_upto_region 9 with (fail)
        have X7 := Blk.new w6 (Pt.arr ⟨px, py⟩) 38
        have B7 := below_step B6 (alloc_below3 w6 (.cells (Pt.arr ⟨px, py⟩) 38))
        have R7 := R6.alloc (.cells (Pt.arr ⟨px, py⟩) 38)
        generalize w6.alloc _ = W7 at X7 B7 R7 ⊢
        generalize w6.heap.size = g7 at X7 ⊢
        clear R6 B6
        have i1 : Has_pt W7 g7 0 := ⟨_, X7.is_pt⟩
        have i2 : of_pt W7 g7 0 = ⟨px, py⟩ := of_pt_eq X7.is_pt
        cases pv with
        | false =>
          have HO3 := Lib.hid (show out = ((0, 0), 2) from HO2.out)
          clear HO2
          go_upto_region 10 with (go_at_call 73; (with_reducible refine callR (HV.out _) ?_); intro w8 b8 _ _ _)
          have X8 := X7.step b8
          have R8 := R7.step b8
          have B8 := below_step B7 b8
          clear i1 i2 X7 R7 B7 b8
          have i1 : Has_pt w8 g7 0 := ⟨_, X8.is_pt⟩
          have i2 : of_pt w8 g7 0 = ⟨px, py⟩ := of_pt_eq X8.is_pt
          have d2 := R8.plain
          have d3 := R8.of
          go_wp2
          exact bodyPost_ret (results_agg Tryz.results31 _ _ g2 (Pt.arr ⟨0, 0⟩) 2 _ rfl rfl (R8.set _).cell Tryz.underlying38 rfl info_pt) rfl ⟨by rw [HO3.out]; rfl, below_setRow' B8 hgle _⟩
        | true =>
          have HO3 := Lib.hid (show out = ((px, py), 0) from HO2.out)
          clear HO2
          go_upto_region 11 with (go_at_call 73; (with_reducible refine callR (HV.out _) ?_); intro w8 b8 _ _ _)
          have X8 := X7.step b8
          have R8 := R7.step b8
          have B8 := below_step B7 b8
          clear i1 i2 X7 R7 B7 b8
          have i1 : Has_pt w8 g7 0 := ⟨_, X8.is_pt⟩
          have i2 : of_pt w8 g7 0 = ⟨px, py⟩ := of_pt_eq X8.is_pt
          have d2 := R8.plain
          have d3 := R8.of
          go_wp2
          exact bodyPost_ret (results_agg Tryz.results31 _ _ g2 (Pt.arr ⟨px, py⟩) 2 _ rfl rfl (R8.set _).cell Tryz.underlying38 rfl info_pt) rfl ⟨by rw [HO3.out]; rfl, below_setRow' B8 hgle _⟩
end Go.Proofs.YtjgondadpjildaaGreatDoor
