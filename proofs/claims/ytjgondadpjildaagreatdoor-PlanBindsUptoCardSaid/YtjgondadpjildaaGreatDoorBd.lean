/- ref01: the size, the product by one, the long division; walks. The reference's quotient and Round; walks. ref10.To; walk (printed by mkref.py out of XPlaneB). ref14.Find, ref18.none; walks. ref18.Fix, ref18.Point; walks. ref21.Bind; walk (printed by mkref.py out of XBindA). PlanBinds: the law's walk (printed by mkref.py; its beginning is that of XLawPt). -/
import Derived.Test.YtjgondadpjildaaGreatDoorPk34
import Derived.Test.YtjgondadpjildaaGreatDoorPk01
import Derived.Laws.Bits64
import Derived.Laws.Bits64b
import Derived.Test.YtjgondadpjildaaGreatDoorPk35
import Derived.Laws.BitsAllLaws
import Derived.Test.YtjgondadpjildaaGreatDoorPk33
import Derived.Test.YtjgondadpjildaaGreatDoorPk26
import Derived.Test.YtjgondadpjildaaGreatDoorPk36
import Derived.Test.YtjgondadpjildaaGreatDoorPk10
import Derived.Test.YtjgondadpjildaaGreatDoorPk46
import Derived.Test.YtjgondadpjildaaGreatDoorPk39
namespace Go.Proofs.YtjgondadpjildaaGreatDoor
open Go.RowKit Go.Sort
set_option linter.unusedVariables false
set_option linter.unusedSimpArgs false
set_option maxRecDepth 100000
theorem u64_modR (x : Int) : IntKind.u64.wrap x = x % 18446744073709551616 := rfl
theorem results_tmp3 {fn : Func} {t u v : Tmp} (h : fn.results = #[.tmp t, .tmp u, .tmp v]) (tmps : Array Value) (P : Program) (w : World) :
    (results fn tmps).run P w = .ok (.tuple #[tmps.getD t undef, tmps.getD u undef, tmps.getD v undef]) w := by simp [results, h]
theorem u64_id {x : Int} (h0 : 0 ≤ x) (h1 : x < 18446744073709551616) : IntKind.u64.wrap x = x := by rw [u64_modR]; omega
theorem rsize_any (a : Int) (h0 : -9223372036854775808 ≤ a) (h1 : a ≤ 9223372036854775807) (w : World) : Calls Tryz.prog 214 #[.int .i64 a] w (RetP w (.int .u64 ((a.natAbs : Nat) : Int))) := by
  go_enter Tryz.func214, Tryz.ntmps214
  go_wp2
  all_goals (go_ret; exact RetP.int (by try rw [u64_modR]
                                        try rw [u64_modR]
                                        try unfold wrap64
                                        omega) rfl)
theorem and_low {x : Nat} (hx : x < 18446744073709551616) : bits .and .u64 (x : Int) 4294967295 = ((x % 4294967296 : Nat) : Int) := by
  have := bits_and_u64_nat x 4294967295 hx (by decide)
  rw [show (4294967295 : Nat) = 2 ^ 32 - 1 by decide, Nat.and_two_pow_sub_one_eq_mod] at this
  exact this
theorem rproduct_one (x : Nat) (hx : x < 18446744073709551616) (w : World) : Calls Tryz.prog 213 #[.int .u64 (x : Int), .int .u64 1] w (RetP w (.tuple #[.int .u64 0, .int .u64 (x : Int)])) := by
  have e1 : bits .and .u64 1 4294967295 = 1 := by decide
  have e2 := and_low hx
  have hl : x % 4294967296 < 4294967296 := Nat.mod_lt _ (by decide)
  have hh : x / 4294967296 < 4294967296 := by omega
  have hs : x = x / 4294967296 * 4294967296 + x % 4294967296 := by omega
  have hx2 : (x : Int) / 4294967296 = ((x / 4294967296 : Nat) : Int) := by omega
  generalize x / 4294967296 = h at *
  generalize x % 4294967296 = l at *
  have e3 := and_low (x := h) (by omega)
  have e4 := and_low (x := l) (by omega)
  rw [Nat.mod_eq_of_lt hh] at e3
  rw [Nat.mod_eq_of_lt hl] at e4
  have hor := bits_or_u64_nat (h * 4294967296) l (by omega) (by omega)
  rw [or_half hl, ← hs] at hor
  rw [Int.natCast_mul, show ((4294967296 : Nat) : Int) = 4294967296 from rfl] at hor
  clear hs
  generalize (x : Int) = xi at *
  have hi0 : (0 : Int) ≤ h := by omega
  have li0 : (0 : Int) ≤ l := by omega
  have hi1 : (h : Int) < 4294967296 := by omega
  have li1 : (l : Int) < 4294967296 := by omega
  generalize (h : Int) = hi at *
  generalize (l : Int) = li at *
  have w1 : IntKind.u64.wrap hi = hi := u64_id hi0 (by omega)
  have w2 : IntKind.u64.wrap li = li := u64_id li0 (by omega)
  have w3 : IntKind.u64.wrap (hi * 4294967296) = hi * 4294967296 := u64_id (by omega) (by omega)
  have w4 : hi / 4294967296 = 0 := by omega
  have w5 : li / 4294967296 = 0 := by omega
  have w6 : IntKind.u64.wrap 0 = 0 := rfl
  go_enter Tryz.func213, Tryz.ntmps213
  go_wp2
  go_ret2
  exact ⟨by simp only [e1, e2, e3, e4, hor, hx2, w1, w2, w3, w4, w5, w6, Int.mul_one, Int.mul_zero, Int.zero_add, Int.add_zero, Int.zero_mul, Int.zero_ediv]; rfl, rfl⟩
def dsI (s : DS) : Prop := s.hi < 18446744073709551616 ∧ s.lo < 18446744073709551616 ∧ s.qhi < 18446744073709551616 ∧ s.qlo < 18446744073709551616 ∧ s.r < 18446744073709551616
theorem dsI_zero {hi lo : Nat} (h1 : hi < 18446744073709551616) (h2 : lo < 18446744073709551616) : dsI ⟨hi, lo, 0, 0, 0⟩ := ⟨h1, h2, (by decide : 0 < 18446744073709551616), (by decide : 0 < 18446744073709551616), (by decide : 0 < 18446744073709551616)⟩
theorem or_bits {x b : Nat} (hx : x < 18446744073709551616) (hb : b < 18446744073709551616) : bits .or .u64 (IntKind.u64.wrap ((x : Int) * 2)) ((b : Int) / 9223372036854775808) = ((x * 2 % 18446744073709551616 + b / 9223372036854775808 : Nat) : Int) := by
  have e1 : IntKind.u64.wrap ((x : Int) * 2) = ((x * 2 % 18446744073709551616 : Nat) : Int) := by rw [u64_modR]; omega
  have e2 : (b : Int) / 9223372036854775808 = ((b / 9223372036854775808 : Nat) : Int) := by omega
  rw [e1, e2, bits_or_u64_nat _ _ (Nat.mod_lt _ (by decide)) (by omega), or_bit (H := 9223372036854775808) (by decide) (by omega)]
theorem or_ones {x : Nat} : bits .or .u64 (((x * 2 % 18446744073709551616 : Nat) : Int)) 1 = ((x * 2 % 18446744073709551616 + 1 : Nat) : Int) := by
  have := bits_or_u64_nat (x * 2 % 18446744073709551616) 1 (Nat.mod_lt _ (by decide)) (by decide)
  rw [or_one (H := 9223372036854775808) (by decide)] at this
  exact this
theorem rdivide_any (hi lo c : Nat) (h1 : hi < 18446744073709551616) (h2 : lo < 18446744073709551616) (hc : c < 18446744073709551616) (w : World) :
    Calls Tryz.prog 215 #[.int .u64 (hi : Int), .int .u64 (lo : Int), .int .u64 (c : Int)] w (RetP w (.tuple #[.int .u64 ((dloop c 128 ⟨hi, lo, 0, 0, 0⟩).qhi : Int), .int .u64 ((dloop c 128 ⟨hi, lo, 0, 0, 0⟩).qlo : Int), .int .u64 ((dloop c 128 ⟨hi, lo, 0, 0, 0⟩).r : Int)])) := by
  have h0 := dsI_zero h1 h2
  generalize hD' : dloop c 128 ⟨hi, lo, 0, 0, 0⟩ = D
  have hD := Lib.hid hD'
  clear hD'
  go_enter Tryz.func215, Tryz.ntmps215
  go_wp2
  go_loopw [0, 1, 6, 7, 8, 9] (fun a b q p r i W => ∃ (k : Nat) (s : DS), k ≤ 128 ∧ dsI s ∧ a = .int .u64 (s.hi : Int) ∧ b = .int .u64 (s.lo : Int) ∧ q = .int .u64 (s.qhi : Int) ∧ p = .int .u64 (s.qlo : Int) ∧ r = .int .u64 (s.r : Int) ∧ i = .int .i64 k ∧ dloop c (128 - k) s = D ∧ W = w) (fun _ _ _ _ _ i _ => 128 - (intOf i).toNat)
  case atStart => exact ⟨0, ⟨hi, lo, 0, 0, 0⟩, Nat.zero_le _, h0, rfl, rfl, rfl, rfl, rfl, rfl, hD.out, rfl⟩
  case round =>
    obtain ⟨k, s, hk, ⟨i1, i2, i3, i4, i5⟩, rfl, rfl, rfl, rfl, rfl, rfl, hd, rfl⟩ := hrel
    have HD := Lib.hid hd; clear hd
    have HS := Lib.hid (show dstep c s = dstep c s from rfl)
    obtain ⟨shi, slo, sqh, sql, sr⟩ := s
    simp only at i1 i2 i3 i4 i5
    have hs : sr / 9223372036854775808 ≤ 1 := by omega
    have o1 := or_bits i5 i1
    have o2 := or_bits i1 i2
    have o3 := or_bits i3 i4
    have o4 : IntKind.u64.wrap ((slo : Int) * 2) = ((slo * 2 % 18446744073709551616 : Nat) : Int) := by rw [u64_modR]; omega
    have o5 : IntKind.u64.wrap ((sql : Int) * 2) = ((sql * 2 % 18446744073709551616 : Nat) : Int) := by rw [u64_modR]; omega
    have o6 : bits .or .u64 ((sql : Int) * 2 % 18446744073709551616) 1 = (sql : Int) * 2 % 18446744073709551616 + 1 := by
      have := or_ones (x := sql)
      rw [show ((sql * 2 % 18446744073709551616 : Nat) : Int) = (sql : Int) * 2 % 18446744073709551616 by omega] at this
      rw [this]; omega
    by_cases hlt : k < 128
    · have hst := Lib.hid (show dloop c (128 - k) ⟨shi, slo, sqh, sql, sr⟩ = dloop c (128 - (k + 1)) (dstep c ⟨shi, slo, sqh, sql, sr⟩) by
        rw [show 128 - k = (128 - (k + 1)) + 1 by omega]; rfl)
      go_wp2
      all_goals
        refine ⟨?_, by simp [intOf]; omega⟩
        rename_i hT
        try simp only [beq_iff_eq, beq_eq_false_iff_ne, ne_eq] at hT
        first
          | (refine ⟨k + 1, ⟨shi * 2 % 18446744073709551616 + slo / 9223372036854775808, slo * 2 % 18446744073709551616, sqh * 2 % 18446744073709551616 + sql / 9223372036854775808, sql * 2 % 18446744073709551616 + 1, (sr * 2 % 18446744073709551616 + shi / 9223372036854775808 + 18446744073709551616 - c) % 18446744073709551616⟩, by omega, ⟨?_, ?_, ?_, ?_, ?_⟩, congrArg (Value.int .u64) ?_, congrArg (Value.int .u64) ?_, congrArg (Value.int .u64) ?_, congrArg (Value.int .u64) ?_, congrArg (Value.int .u64) ?_, congrArg (Value.int .i64) ?_, ?hd, ?ht⟩
             case ht => exact trivial
             case hd => exact (show dstep c ⟨shi, slo, sqh, sql, sr⟩ = _ from if_pos (by first | (left; simp only; omega) | (right; simp only; omega))) ▸ (hst.out.symm.trans HD.out)
             all_goals try simp only [o6]
             all_goals try rw [u64_modR]
             all_goals omega)
          | (refine ⟨k + 1, ⟨shi * 2 % 18446744073709551616 + slo / 9223372036854775808, slo * 2 % 18446744073709551616, sqh * 2 % 18446744073709551616 + sql / 9223372036854775808, sql * 2 % 18446744073709551616, sr * 2 % 18446744073709551616 + shi / 9223372036854775808⟩, by omega, ⟨?_, ?_, ?_, ?_, ?_⟩, congrArg (Value.int .u64) ?_, congrArg (Value.int .u64) ?_, congrArg (Value.int .u64) ?_, congrArg (Value.int .u64) ?_, congrArg (Value.int .u64) ?_, congrArg (Value.int .i64) ?_, ?hd, ?ht⟩
             case ht => exact trivial
             case hd => exact (show dstep c ⟨shi, slo, sqh, sql, sr⟩ = _ from if_neg (by simp only; omega)) ▸ (hst.out.symm.trans HD.out)
             all_goals try simp only []
             all_goals omega)
    · go_wp2
      obtain rfl : k = 128 := by omega
      have := HD.out
      refine bodyPost_ret (results_tmp3 rfl _ _ _) rfl ?_
      exact ⟨by rw [← this]; rfl, rfl⟩
end Go.Proofs.YtjgondadpjildaaGreatDoor
namespace Go.Proofs.YtjgondadpjildaaGreatDoor
open Go.RowKit Go.Sort
set_option linter.unusedVariables false
set_option linter.unusedSimpArgs false
set_option maxRecDepth 100000
theorem nat_not64 (m : Nat) (h : m < 18446744073709551616) : 18446744073709551615 ^^^ m = 18446744073709551615 - m := by
  have h1 : (BitVec.allOnes 64 ^^^ BitVec.ofNat 64 m) = ~~~ (BitVec.ofNat 64 m) := BitVec.allOnes_xor
  have h2 := congrArg BitVec.toNat h1
  rw [BitVec.toNat_xor, BitVec.toNat_not, BitVec.toNat_ofNat, Nat.mod_eq_of_lt (by simpa using h)] at h2
  simpa using h2
theorem u64_not (m : Int) (h0 : 0 ≤ m) (h1 : m < 18446744073709551616) : bits .xor .u64 IntKind.u64.max m = 18446744073709551615 - m := by
  obtain ⟨M, rfl⟩ := Int.eq_ofNat_of_zero_le h0
  have h := u64_xor_nat 18446744073709551615 M (by decide) (by omega)
  rw [nat_not64 M (by omega)] at h
  refine Eq.trans ?_ (h.trans ?_)
  · rfl
  · omega
theorem neg_back (m : Int) (h0 : 0 ≤ m) (h1 : m < 9223372036854775808) : wrap64 (IntKind.u64.wrap (bits .xor .u64 IntKind.u64.max m + 1)) = -m := by
  rw [u64_not m (by omega) (by omega), u64_mod]
  unfold wrap64
  omega
theorem rdivide_small (n c : Nat) (hn : n < 18446744073709551616) (hc : 0 < c) (hc63 : c < 9223372036854775808) (w : World) :
    Calls Tryz.prog 215 #[.int .u64 0, .int .u64 (n : Int), .int .u64 (c : Int)] w (RetP w (.tuple #[.int .u64 0, .int .u64 ((n / c : Nat) : Int), .int .u64 ((n % c : Nat) : Int)])) := by
  obtain ⟨h1, h2, h3⟩ := dloop_small hn hc (Nat.le_of_lt hc63)
  have := rdivide_any 0 n c (by decide) hn (by omega) w
  rw [h1, h2, h3] at this
  exact this
theorem rquo_neg (a c : Int) (a0 : a < 0) (a1 : -9223372036854775807 ≤ a) (c0 : 0 < c) (c1 : i64 c) (w : World) : Calls Tryz.prog 164 #[.int .i64 a, .int .i64 1, .int .i64 c, .int .i64 2] w (Ret w (.tuple #[.int .i64 (nearS a c), .int .i64 0])) := by
  have e1 : decide (a < 0) = true := by rw [decide_eq_true_eq]; exact a0
  have hnear := nearS_eq a c
  rw [e1, if_pos rfl] at hnear
  have hle := awayN_le (neg := true) (n := a.natAbs) (c := c.natAbs) (by omega)
  have hak : awayN true a.natAbs c.natAbs = if c.natAbs - a.natAbs % c.natAbs < a.natAbs % c.natAbs then 1 else 0 := rfl
  have hr : a.natAbs % c.natAbs < c.natAbs := Nat.mod_lt _ (by omega)
  have hna : a.natAbs < 9223372036854775808 := by omega
  have hc63 : c.natAbs < 9223372036854775808 := by have := c1.1; have := c1.2; omega
  have hcp : 0 < c.natAbs := by omega
  have k1 := Lib.hid (rsize_any a (by omega) (by omega))
  have k2 := Lib.hid (rsize_any 1 (by omega) (by omega))
  have k3 := Lib.hid (rsize_any c c1.1 c1.2)
  have k4 := Lib.hid (rproduct_one a.natAbs (by omega))
  have k5 := Lib.hid (rdivide_small a.natAbs c.natAbs (by omega) hcp hc63)
  have hq63 : a.natAbs / c.natAbs ≤ a.natAbs := Nat.div_le_self _ _
  rw [show ((Int.natAbs 1 : Nat) : Int) = 1 from rfl] at k2
  clear e1
  generalize nearS a c = out at *
  generalize awayN true a.natAbs c.natAbs = k at *
  generalize a.natAbs / c.natAbs = q at *
  generalize a.natAbs % c.natAbs = r at *
  generalize c.natAbs = d at *
  generalize a.natAbs = na at *
  rw [Int.natCast_add] at hnear
  have hd0 : (0 : Int) < d := by omega
  have hrd : (r : Int) < d := by omega
  have hw : IntKind.u64.wrap ((d : Int) - r) = (d : Int) - r := by rw [u64_mod]; omega
  have hw2 : IntKind.u64.wrap ((q : Int) + 1) = (q : Int) + 1 := by rw [u64_mod]; omega
  have hq64 : (q : Int) < 9223372036854775808 := by omega
  have hd63 : (d : Int) < 9223372036854775808 := by omega
  have ha : (a < 0) = True := by simp; omega
  have hc : (c < 0) = False := by simp; omega
  have hcz : (c == 0) = false := by simp; omega
  have hki : (k : Int) = if ((d : Int) - r < (r : Int)) then 1 else 0 := by
    rw [hak]
    split <;> split <;> omega
  have hqk : (q : Int) + k < 9223372036854775808 := by omega
  have hr0 : (0 : Int) ≤ r := by omega
  have hq0 : (0 : Int) ≤ q := by omega
  have HN := Lib.hid hnear
  clear hnear hle hr hq63 hc63 hak hcp hna
  generalize (k : Int) = ki at *
  generalize (q : Int) = qi at *
  generalize (r : Int) = ri at *
  generalize (d : Int) = di at *
  generalize (na : Int) = nai at *
  have HK := Lib.hid hki
  have HQ := Lib.hid hqk
  clear hki hqk
  go_enter Tryz.func164, Tryz.ntmps164
  go_upto_region 10 with (first | (go_at_call 214; first | (with_reducible refine callP (k1.out _) ?_) | (with_reducible refine callP (k2.out _) ?_) | (with_reducible refine callP (k3.out _) ?_)) | (go_at_call 213; (with_reducible refine callP (k4.out _) ?_)) | (go_at_call 215; (with_reducible refine callP (k5.out _) ?_)))
  clear k1 k2 k3 k4 k5 hw
  generalize di - ri = t at *
  have HK2 := HK.out
  clear HK hd0 hd63 hrd
  by_cases ht : t < ri
  · rw [if_pos ht] at HK2
    have h10 : qi + 1 < 9223372036854775808 := by have := HQ.out; omega
    go_upto_region 16 with (fail)
    obtain ⟨m, hm⟩ : ∃ m, qi + 1 = m := ⟨_, rfl⟩
    rw [hm] at h10 ⊢
    have hout : out = -m := by rw [HN.out, HK2, hm]
    have m0 : 0 < m := by omega
    clear HN HQ HK2 hw2 hq64 hm ht a1 c1 hc ha
    have e1 : (m == 0) = false := by simp; omega
    have e2 : ¬ (9223372036854775808 < m) := by omega
    have e3 : (m == 9223372036854775808) = false := by simp; omega
    go_upto_region 21 with (fail)
    clear a0 c0 hcz e1 e2 e3 hq0 hr0
    go_wp2
    all_goals go_ret2
    all_goals refine ⟨congrArg Ending.returned (congrArg Value.tuple (congrArg (fun z => #[Value.int .i64 z, .int .i64 0]) ?_)), Below.refl _ _⟩
    all_goals exact neg_back m (by omega) h10
  · rw [if_neg ht] at HK2
    have h10 : qi < 9223372036854775808 := by have := HQ.out; omega
    have hout : out = -qi := by rw [HN.out, HK2, Int.add_zero]
    clear HN HQ HK2 hw2 hq64 a1 c1 hc ha
    have ht2 : ¬ t < ri := ht
    have e2 : ¬ (9223372036854775808 < qi) := by omega
    have e3 : (qi == 9223372036854775808) = false := by simp; omega
    rcases Bool.eq_false_or_eq_true (ri == t) with hrt | hrt
    · go_upto_region 18 with (fail)
      go_upto_region 21 with (fail)
      clear a0 c0 hcz e2 e3 hr0 ht ht2 hrt
      go_wp2
      all_goals go_ret2
      all_goals refine ⟨congrArg Ending.returned (congrArg Value.tuple (congrArg (fun z => #[Value.int .i64 z, .int .i64 0]) ?_)), Below.refl _ _⟩
      all_goals exact neg_back qi hq0 h10
    · go_upto_region 18 with (fail)
      go_upto_region 21 with (fail)
      clear a0 c0 hcz e2 e3 hr0 ht ht2 hrt
      go_wp2
      all_goals go_ret2
      all_goals refine ⟨congrArg Ending.returned (congrArg Value.tuple (congrArg (fun z => #[Value.int .i64 z, .int .i64 0]) ?_)), Below.refl _ _⟩
      all_goals exact neg_back qi hq0 h10
theorem rquo_pos (a c : Int) (a0 : 0 ≤ a) (a1 : a ≤ 9223372036854775807) (c0 : 0 < c) (c1 : i64 c) (w : World) : Calls Tryz.prog 164 #[.int .i64 a, .int .i64 1, .int .i64 c, .int .i64 2] w (Ret w (.tuple #[.int .i64 (nearS a c), .int .i64 0])) := by
  have e1 : decide (a < 0) = false := by rw [decide_eq_false_iff_not]; omega
  have hnear := nearS_eq a c
  rw [e1, if_neg (by decide)] at hnear
  have hle := awayN_le (neg := false) (n := a.natAbs) (c := c.natAbs) (by omega)
  have hak : awayN false a.natAbs c.natAbs = if c.natAbs - a.natAbs % c.natAbs ≤ a.natAbs % c.natAbs then 1 else 0 := rfl
  have hr : a.natAbs % c.natAbs < c.natAbs := Nat.mod_lt _ (by omega)
  have hna : a.natAbs < 9223372036854775808 := by omega
  have hc63 : c.natAbs < 9223372036854775808 := by have := c1.1; have := c1.2; omega
  have hcp : 0 < c.natAbs := by omega
  have k1 := Lib.hid (rsize_any a (by omega) (by omega))
  have k2 := Lib.hid (rsize_any 1 (by omega) (by omega))
  have k3 := Lib.hid (rsize_any c c1.1 c1.2)
  have k4 := Lib.hid (rproduct_one a.natAbs (by omega))
  have k5 := Lib.hid (rdivide_small a.natAbs c.natAbs (by omega) hcp hc63)
  have hq63 : a.natAbs / c.natAbs ≤ a.natAbs := Nat.div_le_self _ _
  rw [show ((Int.natAbs 1 : Nat) : Int) = 1 from rfl] at k2
  clear e1
  generalize nearS a c = out at *
  generalize awayN false a.natAbs c.natAbs = k at *
  generalize a.natAbs / c.natAbs = q at *
  generalize a.natAbs % c.natAbs = r at *
  generalize c.natAbs = d at *
  generalize a.natAbs = na at *
  rw [Int.natCast_add] at hnear
  have hd0 : (0 : Int) < d := by omega
  have hrd : (r : Int) < d := by omega
  have hw : IntKind.u64.wrap ((d : Int) - r) = (d : Int) - r := by rw [u64_mod]; omega
  have hw2 : IntKind.u64.wrap ((q : Int) + 1) = (q : Int) + 1 := by rw [u64_mod]; omega
  have hq64 : (q : Int) < 9223372036854775808 := by omega
  have hd63 : (d : Int) < 9223372036854775808 := by omega
  have ha : (a < 0) = False := by simp; omega
  have hc : (c < 0) = False := by simp; omega
  have hcz : (c == 0) = false := by simp; omega
  have hki : (k : Int) = if ((d : Int) - r ≤ (r : Int)) then 1 else 0 := by
    rw [hak]
    split <;> split <;> omega
  have hqk : (q : Int) + k < 9223372036854775808 := by omega
  have hr0 : (0 : Int) ≤ r := by omega
  have hq0 : (0 : Int) ≤ q := by omega
  have HN := Lib.hid hnear
  clear hnear hle hr hq63 hc63 hak hcp hna
  generalize (k : Int) = ki at *
  generalize (q : Int) = qi at *
  generalize (r : Int) = ri at *
  generalize (d : Int) = di at *
  generalize (na : Int) = nai at *
  have HK := Lib.hid hki
  have HQ := Lib.hid hqk
  clear hki hqk
  go_enter Tryz.func164, Tryz.ntmps164
  go_upto_region 10 with (first | (go_at_call 214; first | (with_reducible refine callP (k1.out _) ?_) | (with_reducible refine callP (k2.out _) ?_) | (with_reducible refine callP (k3.out _) ?_)) | (go_at_call 213; (with_reducible refine callP (k4.out _) ?_)) | (go_at_call 215; (with_reducible refine callP (k5.out _) ?_)))
  clear k1 k2 k3 k4 k5 hw
  generalize di - ri = t at *
  have HK2 := HK.out
  clear HK hd0 hd63 hrd
  by_cases ht : t < ri
  · rw [if_pos (by omega)] at HK2
    have h10 : qi + 1 < 9223372036854775808 := by have := HQ.out; omega
    go_upto_region 16 with (fail)
    obtain ⟨m, hm⟩ : ∃ m, qi + 1 = m := ⟨_, rfl⟩
    rw [hm] at h10 ⊢
    have hout : out = m := by rw [HN.out, HK2, hm]
    have m0 : 0 < m := by omega
    clear HN HQ HK2 hw2 hq64 hm ht a1 c1 hc ha
    have e1 : (m == 0) = false := by simp; omega
    have e2 : ¬ (9223372036854775808 < m) := by omega
    have e3 : (m == 9223372036854775808) = false := by simp; omega
    go_upto_region 18 with (fail)
    go_upto_region 22 with (fail)
    clear a0 c0 hcz e1 e2 e3 hq0 hr0
    go_wp2
    all_goals go_ret2
    all_goals refine ⟨congrArg Ending.returned (congrArg Value.tuple (congrArg (fun z => #[Value.int .i64 z, .int .i64 0]) ?_)), Below.refl _ _⟩
    all_goals omega
  by_cases hte : t = ri
  · rw [if_pos (by omega)] at HK2
    subst hte
    have h10 : qi + 1 < 9223372036854775808 := by have := HQ.out; omega
    go_upto_region 16 with (fail)
    obtain ⟨m, hm⟩ : ∃ m, qi + 1 = m := ⟨_, rfl⟩
    rw [hm] at h10 ⊢
    have hout : out = m := by rw [HN.out, HK2, hm]
    have m0 : 0 < m := by omega
    clear HN HQ HK2 hw2 hq64 hm ht a1 c1 hc ha
    have e1 : (m == 0) = false := by simp; omega
    have e2 : ¬ (9223372036854775808 < m) := by omega
    have e3 : (m == 9223372036854775808) = false := by simp; omega
    go_upto_region 18 with (fail)
    go_upto_region 22 with (fail)
    clear a0 c0 hcz e1 e2 e3 hq0 hr0
    go_wp2
    all_goals go_ret2
    all_goals refine ⟨congrArg Ending.returned (congrArg Value.tuple (congrArg (fun z => #[Value.int .i64 z, .int .i64 0]) ?_)), Below.refl _ _⟩
    all_goals omega
  · rw [if_neg (by omega)] at HK2
    have h10 : qi < 9223372036854775808 := by have := HQ.out; omega
    have hout : out = qi := by rw [HN.out, HK2, Int.add_zero]
    have ht2 : (ri == t) = false := by simp; omega
    have e2 : ¬ (9223372036854775808 < qi) := by omega
    have e3 : (qi == 9223372036854775808) = false := by simp; omega
    clear HN HQ HK2 hw2 hq64 a1 c1 hc ha
    go_upto_region 18 with (fail)
    go_upto_region 22 with (fail)
    clear a0 c0 hcz e2 e3 hr0 ht ht2 hte
    go_wp2
    all_goals go_ret2
    all_goals refine ⟨congrArg Ending.returned (congrArg Value.tuple (congrArg (fun z => #[Value.int .i64 z, .int .i64 0]) ?_)), Below.refl _ _⟩
    all_goals omega
theorem rround_any (a c : Int) (a1 : -9223372036854775807 ≤ a) (a2 : a ≤ 9223372036854775807) (c0 : 0 < c) (c1 : i64 c) (w : World) : Calls Tryz.prog 110 #[.int .i64 a, .int .i64 c] w (Ret w (.tuple #[.int .i64 (nearS a c), .int .i64 0])) := by
  have k := Lib.hid (show ∀ w, Calls Tryz.prog 164 #[.int .i64 a, .int .i64 1, .int .i64 c, .int .i64 2] w (Ret w (.tuple #[.int .i64 (nearS a c), .int .i64 0])) from fun w => by
    by_cases h : a < 0
    · exact rquo_neg a c h a1 c0 c1 w
    · exact rquo_pos a c (by omega) a2 c0 c1 w)
  generalize nearS a c = out at *
  go_enter Tryz.func110, Tryz.ntmps110
  go_wp2_with (go_at_call 164; (with_reducible refine callR (k.out _) ?_); intro _ _ _ _ _)
  go_ret2
  exact ⟨rfl, by assumption⟩
end Go.Proofs.YtjgondadpjildaaGreatDoor
namespace Go.Proofs.YtjgondadpjildaaGreatDoor
open Go.RowKit Go.Sort
set_option linter.unusedVariables false
set_option linter.unusedSimpArgs false
set_option maxRecDepth 100000
attribute [local go_sem ↓] bpt_fold
attribute [local go_sem] run_bpt0 run_bpt2
set_option maxHeartbeats 4000000 in
theorem rplaneto_any (a b c d : Int) (w : World) : Calls Tryz.prog 67 #[.agg (Pos.arr ⟨a, b⟩), .agg (Pos.arr ⟨c, d⟩)] w (Ret w (.tuple #[.agg (ptP (toPlane a b c d).1).arr, .int .i64 (toPlane a b c d).2])) := by
  have k1 := Lib.hid (rorigin_any a b)
  have k2 := Lib.hid (rsvalid_any c d)
  have HT := Lib.hid (show toPlane a b c d = if originB a b && posB c d then toS3 (localS a b c d) else ((0, 0), 1) from rfl)
  have HL := Lib.hid (show originB a b = true → posB c d = true → ∀ w, Calls Tryz.prog 109 #[.agg (Pos.arr ⟨a, b⟩), .agg (Pos.arr ⟨c, d⟩)] w (Ret w (.tuple #[.agg (localV a b c d).arr, .int .i64 0])) from fun h1 h2 w =>
    rLocal_any a b c d (by unfold originB at h1; simp only [Bool.and_eq_true] at h1; exact h1.1) h2 w)
  have HV : localV a b c d = V3.vec (localS a b c d) := rfl
  rw [HV] at HL
  clear HV
  have hin := Lib.hid (localS_in a b c d)
  generalize toPlane a b c d = out at *
  generalize originB a b = ob at *
  generalize posB c d = pb at *
  generalize localS a b c d = v at *
  go_enter Tryz.func67, Tryz.ntmps67
  go_upto_region 1 with (fail)
  generalize hW : ((w.alloc _).alloc _).alloc _ = W
  have X0 : Blk W w.heap.size (Pos.arr ⟨a, b⟩) := by rw [← hW]; exact ((Blk.new w _ _).alloc _).alloc _
  have Y0 : Blk W (w.heap.size + 1) (Pos.arr ⟨c, d⟩) := by rw [← hW, ← World.size_alloc w (.cells (Pos.arr ⟨a, b⟩) 23)]; exact (Blk.new _ _ _).alloc _
  have R0 : Blk W (w.heap.size + 1 + 1) (Pt.arr ⟨0, 0⟩) := by rw [← hW, ← World.size_alloc w (.cells (Pos.arr ⟨a, b⟩) 23), ← World.size_alloc (w.alloc (.cells (Pos.arr ⟨a, b⟩) 23)) (.cells (Pos.arr ⟨c, d⟩) 23)]; exact Blk.new _ _ _
  have B0 : Below w.heap.size w W := by rw [← hW]; go_grown
  clear hW
  obtain ⟨g1, hg1⟩ : ∃ g, g = w.heap.size + 1 := ⟨_, rfl⟩
  obtain ⟨g2, hg2⟩ : ∃ g, g = w.heap.size + 1 + 1 := ⟨_, rfl⟩
  obtain ⟨g0, hg0⟩ : ∃ g, g = w.heap.size := ⟨_, rfl⟩
  rw [← hg2] at R0 ⊢
  rw [← hg1] at Y0 ⊢
  rw [← hg0] at X0 ⊢
  have hgle : w.heap.size ≤ g2 := by omega
  clear hg0 hg1 hg2
  have HX := Lib.hid (fun W' (h : Below W.heap.size W W') => X0.step h)
  have HY := Lib.hid (fun W' (h : Below W.heap.size W W') => Y0.step h)
  have HR := Lib.hid (fun W' (h : Below W.heap.size W W') => R0.step h)
  have i1 : Has_pos W g0 0 := ⟨_, X0.is_pos⟩
  have i2 : of_pos W g0 0 = ⟨a, b⟩ := of_pos_eq X0.is_pos
  have BB := Lib.hid (fun W' (h : Below W.heap.size W W') => below_step B0 h)
  clear X0 Y0 R0 B0
  cases ob with
  | false =>
    have HO := Lib.hid (show out = ((0, 0), 1) by rw [HT.out]; rfl)
    go_upto_region 2 with (go_at_call 107; (with_reducible refine callR (k1.out _) ?_); intro w1 b1 _ _ _)
    have R1 := HR.out w1 b1
    have d2 := R1.plain
    have d3 := R1.of
    go_wp2
    exact bodyPost_ret (results_agg Tryz.results67 _ _ g2 (Pt.arr ⟨0, 0⟩) 2 _ rfl rfl (R1.set _).cell Tryz.underlying38 rfl info_pt) rfl ⟨by rw [HO.out]; rfl, below_setRow' (BB.out _ b1) hgle _⟩
  | true =>
    cases pb with
    | false =>
      have HO := Lib.hid (show out = ((0, 0), 1) by rw [HT.out]; rfl)
      go_upto_region 2 with (first
        | (go_at_call 107; (with_reducible refine callR (k1.out _) ?_); intro w1 b1 _ _ _
           have i3 : Has_pos w1 g1 0 := ⟨_, (HY.out w1 b1).is_pos⟩
           have i4 : of_pos w1 g1 0 = ⟨c, d⟩ := of_pos_eq (HY.out w1 b1).is_pos)
        | (go_at_call 108; (with_reducible refine callR (k2.out _) ?_); intro w2 b2 _ _ _
           have b12 := below_step b1 b2
           have R1 := HR.out w2 b12
           have d2 := R1.plain
           have d3 := R1.of))
      go_wp2
      exact bodyPost_ret (results_agg Tryz.results67 _ _ g2 (Pt.arr ⟨0, 0⟩) 2 _ rfl rfl (R1.set _).cell Tryz.underlying38 rfl info_pt) rfl ⟨by rw [HO.out]; rfl, below_setRow' (BB.out _ b12) hgle _⟩
    | true =>
      have k3 := Lib.hid (HL.out rfl rfl)
      have HO := Lib.hid (show out = toS3 v by rw [HT.out]; rfl)
      clear HT HL
      go_upto_region 3 with (first
        | (go_at_call 107; (with_reducible refine callR (k1.out _) ?_); intro w1 b1 _ _ _
           have i3 : Has_pos w1 g1 0 := ⟨_, (HY.out w1 b1).is_pos⟩
           have i4 : of_pos w1 g1 0 = ⟨c, d⟩ := of_pos_eq (HY.out w1 b1).is_pos)
        | (go_at_call 108; (with_reducible refine callR (k2.out _) ?_); intro w2 b2 _ _ _))
      have b12 := below_step b1 b2
      have X2 := HX.out _ b12
      have Y2 := HY.out _ b12
      have R2 := HR.out _ b12
      have B2 := BB.out _ b12
      clear i1 i2 i3 i4 HX HY HR BB b1 b2 b12 k1 k2
      have i1 : Has_pos w2 g0 0 := ⟨_, X2.is_pos⟩
      have i2 : of_pos w2 g0 0 = ⟨a, b⟩ := of_pos_eq X2.is_pos
      have i3 : Has_pos w2 g1 0 := ⟨_, Y2.is_pos⟩
      have i4 : of_pos w2 g1 0 = ⟨c, d⟩ := of_pos_eq Y2.is_pos
      go_upto_region 4 with ((go_at_call 109; (with_reducible refine callR (k3.out _) ?_); intro w3 b3 _ _ _))
      have B3 := below_step B2 b3
      have R3 := R2.step b3
      clear i1 i2 i3 i4 X2 Y2 R2 B2 b3 k3
      obtain ⟨x, y, z⟩ := v
      have hv : V3.vec (x, y, z) = ⟨x, y, z⟩ := rfl
      rw [hv]
      have hin' := hin.out
      have bx : -3221225472 ≤ x ∧ x ≤ 3221225472 := hin'.1
      have by' : -3221225472 ≤ y ∧ y ≤ 3221225472 := hin'.2.1
      have nx := near_args (v := x) hin'.1
      have ny := near_args (v := y) hin'.2.1
      have nz : i64 z := (near_args (v := z) hin'.2.2).1
      have X4 := Blk.new w3 (Vec.arr ⟨x, y, z⟩) 102
      have B4 := below_step B3 (alloc_below3 w3 (.cells (Vec.arr ⟨x, y, z⟩) 102))
      have R4 := R3.alloc (.cells (Vec.arr ⟨x, y, z⟩) 102)
      generalize w3.alloc _ = W4 at X4 B4 R4 ⊢
      generalize w3.heap.size = g4 at X4 ⊢
      clear R3 B3 hin' hin hv
      have k0 : W4.cell? ⟨g4, 0, none⟩ = some (.int .i64 x) := X4.cell 0
      have k1 : W4.cell? ⟨g4, 1, none⟩ = some (.int .i64 y) := X4.cell 1
      have k2 : W4.cell? ⟨g4, 2, none⟩ = some (.int .i64 z) := X4.cell 2
      by_cases hz : z ≤ 0
      · have HO2 := Lib.hid (show out = ((0, 0), 2) by rw [HO.out]; exact if_pos hz)
        have d2 := R4.plain
        have d3 := R4.of
        clear HO nx ny
        go_wp2
        exact bodyPost_ret (results_agg Tryz.results67 _ _ g2 (Pt.arr ⟨0, 0⟩) 2 _ rfl rfl (R4.set _).cell Tryz.underlying38 rfl info_pt) rfl ⟨by rw [HO2.out]; rfl, below_setRow' B4 hgle _⟩
      · have HO2 := Lib.hid (show out = if pointOkB (nearS (20626481 * x) z) (nearS (20626481 * y) z) then ((nearS (20626481 * x) z, nearS (20626481 * y) z), 0) else ((0, 0), 2) by rw [HO.out]; exact if_neg hz)
        have m1 := Lib.hid (rround_any (20626481 * x) z (by omega) (by omega) (by omega) nz)
        have m2 := Lib.hid (rround_any (20626481 * y) z (by omega) (by omega) (by omega) nz)
        have HV := Lib.hid (rptvalid_any (nearS (20626481 * x) z) (nearS (20626481 * y) z))
        clear HO nx ny nz
        generalize nearS (20626481 * x) z = px at *
        generalize nearS (20626481 * y) z = py at *
        generalize pointOkB px py = pv at *
        go_upto_region 7 with (go_at_call 110; (with_reducible refine callR (m1.out _) ?_); intro w5 b5 _ _ _)
        have k1 : w5.cell? ⟨g4, 1, none⟩ = some (.int .i64 y) := (X4.step b5).cell 1
        have k2 : w5.cell? ⟨g4, 2, none⟩ = some (.int .i64 z) := (X4.step b5).cell 2
        clear k0
        go_upto_region 8 with (go_at_call 110; (with_reducible refine callR (m2.out _) ?_); intro w6 b6 _ _ _)
        have R6 := (R4.step b5).step b6
        have B6 := below_step (below_step B4 b5) b6
        clear k1 k2 X4 b5 b6 R4 B4 m1 m2
        go_upto_region 9 with (fail)
        have X7 := Blk.new w6 (Pt.arr ⟨px, py⟩) 38
        have B7 := below_step B6 (alloc_below3 w6 (.cells (Pt.arr ⟨px, py⟩) 38))
        have R7 := R6.alloc (.cells (Pt.arr ⟨px, py⟩) 38)
        generalize w6.alloc _ = W7 at X7 B7 R7 ⊢
        generalize w6.heap.size = g7 at X7 ⊢
        clear R6 B6
        have i1 : Has_pt W7 g7 0 := ⟨_, X7.is_pt⟩
        have i2 : of_pt W7 g7 0 = ⟨px, py⟩ := of_pt_eq X7.is_pt
        cases pv with
        | false =>
          have HO3 := Lib.hid (show out = ((0, 0), 2) from HO2.out)
          clear HO2
          go_upto_region 10 with (go_at_call 111; (with_reducible refine callR (HV.out _) ?_); intro w8 b8 _ _ _)
          have X8 := X7.step b8
          have R8 := R7.step b8
          have B8 := below_step B7 b8
          clear i1 i2 X7 R7 B7 b8
          have i1 : Has_pt w8 g7 0 := ⟨_, X8.is_pt⟩
          have i2 : of_pt w8 g7 0 = ⟨px, py⟩ := of_pt_eq X8.is_pt
          have d2 := R8.plain
          have d3 := R8.of
          go_wp2
          exact bodyPost_ret (results_agg Tryz.results67 _ _ g2 (Pt.arr ⟨0, 0⟩) 2 _ rfl rfl (R8.set _).cell Tryz.underlying38 rfl info_pt) rfl ⟨by rw [HO3.out]; rfl, below_setRow' B8 hgle _⟩
        | true =>
          have HO3 := Lib.hid (show out = ((px, py), 0) from HO2.out)
          clear HO2
          go_upto_region 11 with (go_at_call 111; (with_reducible refine callR (HV.out _) ?_); intro w8 b8 _ _ _)
          have X8 := X7.step b8
          have R8 := R7.step b8
          have B8 := below_step B7 b8
          clear i1 i2 X7 R7 B7 b8
          have i1 : Has_pt w8 g7 0 := ⟨_, X8.is_pt⟩
          have i2 : of_pt w8 g7 0 = ⟨px, py⟩ := of_pt_eq X8.is_pt
          have d2 := R8.plain
          have d3 := R8.of
          go_wp2
          exact bodyPost_ret (results_agg Tryz.results67 _ _ g2 (Pt.arr ⟨px, py⟩) 2 _ rfl rfl (R8.set _).cell Tryz.underlying38 rfl info_pt) rfl ⟨by rw [HO3.out]; rfl, below_setRow' B8 hgle _⟩
end Go.Proofs.YtjgondadpjildaaGreatDoor
namespace Go.Proofs.YtjgondadpjildaaGreatDoor
open Go.RowKit Go.Sort
set_option linter.unusedVariables false
set_option linter.unusedSimpArgs false
set_option maxRecDepth 100000
attribute [local go_sem ↓] bfix_fold
attribute [local go_sem] run_bfix0
theorem none_any (b : Bool) (w : World) : Calls Tryz.prog 106 #[.bool b] w (RetP w (.int .i64 (if b then 0 else 6))) := by
  cases b
  all_goals
    go_enter Tryz.func106, Tryz.ntmps106
    go_wp2
    go_ret
    exact RetP.int rfl rfl
set_option maxHeartbeats 2000000 in
theorem rfixfind_any (l : List FixV) (r : List UInt8) (A : Option Addr) (c : Nat) (w : World) (hI : Items w A 7 (l.map FixV.arr)) (hlc : l.length ≤ c) (hn : l.length ≤ 9000000000) (hs : ∀ f ∈ l, f.small) :
    Calls Tryz.prog 105 #[.slice A l.length c, .string ⟨r.toArray⟩] w (Ret w (.tuple #[.agg ((findV l r).getD noFix).arr, .bool (findV l r).isSome])) := by
  go_enter Tryz.func105, Tryz.ntmps105
  go_upto_region 1 with (fail)
  rw [← noFix_arr]
  have Y0 : Blk (w.alloc (.cells noFix.arr 69)) w.heap.size noFix.arr := Blk.new _ _ _
  have B0 := alloc_below3 w (.cells noFix.arr 69)
  generalize hW : w.alloc _ = W
  have hE : w.alloc (.cells noFix.arr 69) = W := hW
  rw [hE] at Y0 B0
  clear hW hE
  obtain ⟨g1, hg1⟩ : ∃ g, g = w.heap.size := ⟨_, rfl⟩
  rw [← hg1] at Y0 ⊢
  have hgle : w.heap.size ≤ g1 := Nat.le_of_eq hg1.symm
  clear hg1
  go_wp2
  go_loopw [10] (fun i wr => ∃ k : Nat, k ≤ l.length ∧ i = .int .i64 k ∧ findV l r = findV (l.drop k) r ∧ Blk wr g1 noFix.arr ∧ Below w.heap.size w wr) (fun i _ => l.length - (intOf i).toNat)
  case atStart => exact ⟨0, by omega, rfl, rfl, Y0, B0⟩
  case round =>
    clear Y0 B0
    obtain ⟨k, hk, rfl, hf, Y1, BW⟩ := hrel
    have HF := Lib.hid hf
    clear hf
    by_cases hlt : k < l.length
    · obtain ⟨b, off, hA, hb, hcl⟩ := hI.get (k := k) (by simpa using hlt)
      clear hcl hb
      subst hA
      have hd := Lib.hid (List.drop_eq_getElem_cons hlt)
      have hx := fixItem hI BW hlt
      have hsm := hs _ (List.getElem_mem hlt)
      generalize l[k] = f at hd hx hsm
      have HD := Lib.hid (show findV l r = if f.ref == r then some f else findV (l.drop (k + 1)) r by rw [HF.out, hd.out]; rfl)
      clear HF hd
      have kr := Lib.hid (rfixref_any f hsm)
      generalize f.ref = t at kr HD
      have hkc : k < c := by omega
      have i1 : Has_fixv wr b (off + k * 7) := ⟨_, hx⟩
      have i2 : of_fixv wr b (off + k * 7) = f := of_fixv_eq hx
      go_upto_region 4 with (fail)
      have Z2 := Blk.new wr f.arr 69
      have Y2 := Y1.alloc (.cells f.arr 69)
      have B2 := below_step BW (alloc_below3 wr (.cells f.arr 69))
      generalize hW : wr.alloc _ = W2
      have hE : wr.alloc (.cells f.arr 69) = W2 := hW
      rw [hE] at Z2 Y2 B2
      clear hW hE i1 i2 hx Y1 BW
      generalize wr.heap.size = g7 at Z2 ⊢
      have i1 : Has_fixv W2 g7 0 := ⟨_, Z2.is_fixv⟩
      have i2 : of_fixv W2 g7 0 = f := of_fixv_eq Z2.is_fixv
      have HZ := Lib.hid (fun w' (h : Below W2.heap.size W2 w') => Z2.step h)
      have HY := Lib.hid (fun w' (h : Below W2.heap.size W2 w') => Y2.step h)
      have HB := Lib.hid (fun w' (h : Below W2.heap.size W2 w') => below_step B2 h)
      clear Z2 Y2 B2
      rcases Bool.eq_false_or_eq_true (t == r) with ht | ht
      · have HO := Lib.hid (show findV l r = some f by rw [HD.out, ht]; rfl)
        clear HD
        go_wp2_with (go_at_call 157; (with_reducible refine callR (kr.out _) ?_); intro w3 b3 _ _ _
                     have i3 : Has_fixv w3 g7 0 := ⟨_, (HZ.out _ b3).is_fixv⟩
                     have i4 : of_fixv w3 g7 0 = f := of_fixv_eq (HZ.out _ b3).is_fixv
                     have d2 := (HY.out _ b3).plain
                     have d3 := (HY.out _ b3).of)
        exact bodyPost_ret (results_agg Tryz.results105 _ _ g1 f.arr 7 _ rfl rfl ((HY.out _ b3).set _).cell Tryz.underlying69 rfl info_fixv) rfl ⟨by rw [HO.out]; rfl, below_setRow' (HB.out _ b3) hgle _⟩
      · have HO := Lib.hid (show findV l r = findV (l.drop (k + 1)) r by rw [HD.out, ht]; rfl)
        clear HD
        go_wp2_with (go_at_call 157; (with_reducible refine callR (kr.out _) ?_); intro w3 b3 _ _ _)
        go_roundw
        case rel => exact ⟨k + 1, by omega, by go_num, HO.out, HY.out _ b3, HB.out _ b3⟩
        case measure => simp [intOf]; omega
    · have HO := Lib.hid (show findV l r = none by rw [HF.out, List.drop_of_length_le (by omega)]; rfl)
      have d2 := Y1.plain
      have d3 := Y1.of
      clear HF
      go_wp2
      exact bodyPost_ret (results_agg Tryz.results105 _ _ g1 noFix.arr 7 _ rfl rfl (Y1.set _).cell Tryz.underlying69 rfl info_fixv) rfl ⟨by rw [HO.out]; rfl, below_setRow' BW hgle _⟩
end Go.Proofs.YtjgondadpjildaaGreatDoor
namespace Go.Proofs.YtjgondadpjildaaGreatDoor
open Go.RowKit Go.Sort
set_option linter.unusedVariables false
set_option linter.unusedSimpArgs false
set_option maxRecDepth 100000
attribute [local go_sem ↓] bfix_fold bpt_fold
attribute [local go_sem] run_bfix0 run_bpt0 run_bpt2
theorem rnavfix_any (d : DBs) (l : List FixV) (r : List UInt8) (w : World) (hD : DbAt w d l) :
    Calls Tryz.prog 66 #[.agg d.cells, .string ⟨r.toArray⟩] w (Ret w (.tuple #[.agg (fixV l r).1.arr, .int .i64 (fixV l r).2])) := by
  have HF := Lib.hid (fixV_find l r)
  have hcall := Lib.hid (fun w' (h : Below w.heap.size w w') => rfixfind_any l r d.fa d.fc w' (hD.below h).items hD.cap hD.len hD.small)
  rw [← hD.fn] at hcall
  have c6 := hD.ok.c6
  generalize fixV l r = out at HF ⊢
  generalize findV l r = o at hcall HF
  generalize d.fa = A at *
  generalize d.fn = n at *
  generalize d.fc = c at *
  generalize d.cells = cs at c6 ⊢
  clear hD
  go_enter Tryz.func66, Tryz.ntmps66
  go_upto_region 1 with (fail)
  rw [← noFix_arr]
  have X0 : Blk (w.alloc (.cells cs 30)) w.heap.size cs := Blk.new w _ _
  have B0 := alloc_below3 w (.cells cs 30)
  have hsz : (w.alloc (.cells cs 30)).heap.size = w.heap.size + 1 := World.size_alloc _ _
  generalize w.alloc _ = W0 at X0 B0 hsz ⊢
  rw [← hsz]
  have Y1 : Blk (W0.alloc (.cells noFix.arr 69)) W0.heap.size noFix.arr := Blk.new W0 _ _
  have B1 := below_step B0 (alloc_below3 W0 (.cells noFix.arr 69))
  have X1 := X0.alloc (.cells noFix.arr 69)
  have hgle : w.heap.size ≤ W0.heap.size := B0.size
  generalize W0.alloc _ = W at Y1 B1 X1 ⊢
  generalize W0.heap.size = g1 at Y1 hgle ⊢
  generalize w.heap.size = g0 at X1 ⊢
  have k6 : W.cell? ⟨g0, 6, none⟩ = some (.slice A n c) := (X1.cell 6).trans c6
  have hcall := Lib.hid (hcall.out W B1)
  clear X0 B0 hsz c6
  go_upto_region 2 with (go_at_call 105; (with_reducible refine callR hcall.out ?_); intro w2 b2 _ _ _)
  have Y2 := (Y1.step b2).alloc (.cells (o.getD noFix).arr 69)
  have Z2 := Blk.new w2 (o.getD noFix).arr 69
  have B2 := below_step (below_step B1 b2) (alloc_below3 w2 (.cells (o.getD noFix).arr 69))
  generalize w2.alloc _ = W2 at Y2 Z2 B2 ⊢
  generalize w2.heap.size = g2 at Z2 ⊢
  clear hcall k6 X1 Y1 B1 b2
  have HO := Lib.hid (show out = (o.getD noFix, if o.isSome then 0 else 6) from HF.out)
  generalize o.getD noFix = f at *
  generalize o.isSome = bo at *
  have DR : Below W2.heap.size W2 W2.drew := (Below.refl _ _).drew
  have Z3 : Blk W2.drew g2 f.arr := Z2.step DR
  have Y3 := Y2.step DR
  have B3 := below_step B2 DR
  have i1 : Has_fixv W2.drew g2 0 := ⟨_, Z3.is_fixv⟩
  have i2 : of_fixv W2.drew g2 0 = f := of_fixv_eq Z3.is_fixv
  have d2 := Y3.plain
  have d3 := Y3.of
  clear Y2 Z2 B2 DR
  clear HF
  have kn := Lib.hid (none_any bo)
  generalize (if bo = true then (0 : Int) else 6) = e at *
  go_region_with (go_at_call 106; (with_reducible refine callP (kn.out _) ?_))
  all_goals go_wp2
  all_goals exact bodyPost_ret (results_agg Tryz.results66 _ _ g1 f.arr 7 _ rfl rfl (Y3.set _).cell Tryz.underlying69 rfl info_fixv) rfl ⟨by rw [HO.out]; rfl, below_setRow' B3 hgle _⟩
set_option maxHeartbeats 2000000 in
theorem rnavpoint_any (d : DBs) (l : List FixV) (r : List UInt8) (w : World) (hD : DbAt w d l) :
    Calls Tryz.prog 29 #[.agg d.cells, .string ⟨r.toArray⟩] w (Ret w (.tuple #[.agg (ptP (pointV d.lat d.lon l r).1).arr, .int .i64 (pointV d.lat d.lon l r).2])) := by
  have HF := Lib.hid (pointV_find d.lat d.lon l r)
  have hcall := Lib.hid (fun w' (h : Below w.heap.size w w') => rnavfix_any d l r w' (hD.below h))
  have HP := Lib.hid (rplaneto_any d.lat d.lon (fixV l r).1.lat (fixV l r).1.lon)
  have HP4 := Lib.hid (fun W g (h : Blk W g d.cells) => h.pos4 hD.ok)
  have hsz9 := hD.ok.size
  generalize fixV l r = fe at *
  generalize pointV d.lat d.lon l r = out at HF ⊢
  generalize hto : toPlane d.lat d.lon fe.1.lat fe.1.lon = pt at *
  obtain ⟨f, e⟩ := fe
  generalize d.cells = cs at *
  generalize d.lat = la at *
  generalize d.lon = lo at *
  clear hD hto
  go_enter Tryz.func29, Tryz.ntmps29
  go_upto_region 1 with (fail)
  have X0 : Blk (w.alloc (.cells cs 30)) w.heap.size cs := Blk.new w _ _
  have B0 := alloc_below3 w (.cells cs 30)
  have hsz : (w.alloc (.cells cs 30)).heap.size = w.heap.size + 1 := World.size_alloc _ _
  generalize w.alloc _ = W0 at X0 B0 hsz ⊢
  rw [← hsz]
  have Y1 : Blk (W0.alloc (.cells (Pt.arr ⟨0, 0⟩) 38)) W0.heap.size (Pt.arr ⟨0, 0⟩) := Blk.new W0 _ _
  have B1 := below_step B0 (alloc_below3 W0 (.cells (Pt.arr ⟨0, 0⟩) 38))
  have X1 := X0.alloc (.cells (Pt.arr ⟨0, 0⟩) 38)
  have hgle : w.heap.size ≤ W0.heap.size := B0.size
  generalize hW : W0.alloc _ = W
  have hE : W0.alloc (.cells (Pt.arr ⟨0, 0⟩) 38) = W := hW
  rw [hE] at Y1 B1 X1
  clear hW hE
  generalize W0.heap.size = g1 at Y1 hgle ⊢
  generalize w.heap.size = g0 at X1 ⊢
  have i1 : Has_db W g0 0 := ⟨_, X1.is_db hsz9⟩
  have i2 : of_db W g0 0 = cs := of_db_eq (X1.is_db hsz9)
  have hcall := Lib.hid (hcall.out W B1)
  clear X0 B0 hsz
  go_upto_region 2 with (go_at_call 66; (with_reducible refine callR hcall.out ?_); intro w2 b2 _ _ _)
  have Y2 := (Y1.step b2).alloc (.cells f.arr 69)
  have X2 := (X1.step b2).alloc (.cells f.arr 69)
  have Z2 := Blk.new w2 f.arr 69
  have B2 := below_step (below_step B1 b2) (alloc_below3 w2 (.cells f.arr 69))
  generalize hW : w2.alloc _ = W2
  have hE : w2.alloc (.cells f.arr 69) = W2 := hW
  rw [hE] at Y2 X2 Z2 B2
  clear hW hE
  generalize w2.heap.size = g2 at Z2 ⊢
  have d2 := Y2.plain
  have d3 := Y2.of
  clear hcall i1 i2 X1 Y1 B1 b2
  by_cases he : e = 0
  · have HO := Lib.hid (show out = pt by rw [HF.out]; exact if_pos he)
    have j1 : Has_pos W2 g0 4 := ⟨_, HP4.out _ _ X2⟩
    have j2 : of_pos W2 g0 4 = ⟨la, lo⟩ := of_pos_eq (HP4.out _ _ X2)
    have j3 : Has_pos W2 g2 3 := ⟨_, f.pos Z2.is_fixv⟩
    have j4 : of_pos W2 g2 3 = ⟨f.lat, f.lon⟩ := of_pos_eq (f.pos Z2.is_fixv)
    clear HF
    have HY := Lib.hid (fun W' (h : Below W2.heap.size W2 W') => Y2.step h)
    have HB := Lib.hid (fun W' (h : Below W2.heap.size W2 W') => below_step B2 h)
    clear d2 d3 Y2 B2
    go_wp2_with (go_at_call 67; (with_reducible refine callR (HP.out _) ?_); intro w3 b3 _ _ _; have d2 := (HY.out _ b3).plain; have d3 := (HY.out _ b3).of)
    exact bodyPost_ret (results_agg Tryz.results29 _ _ g1 (ptP pt.1).arr 2 _ rfl rfl ((HY.out _ b3).set _).cell Tryz.underlying38 rfl info_pt) rfl ⟨by rw [HO.out]; rfl, below_setRow' (HB.out _ b3) hgle _⟩
  · have HO := Lib.hid (show out = ((0, 0), e) by rw [HF.out]; exact if_neg he)
    clear HF
    go_wp2
    exact bodyPost_ret (results_agg Tryz.results29 _ _ g1 (Pt.arr ⟨0, 0⟩) 2 _ rfl rfl (Y2.set _).cell Tryz.underlying38 rfl info_pt) rfl ⟨by rw [HO.out]; rfl, below_setRow' B2 hgle _⟩
end Go.Proofs.YtjgondadpjildaaGreatDoor
namespace Go.Proofs.YtjgondadpjildaaGreatDoor
open Go.RowKit Go.Sort
set_option linter.unusedVariables false
set_option linter.unusedSimpArgs false
set_option maxRecDepth 100000
attribute [local go_sem ↓] bentB_fold
attribute [local go_sem] run_bentB splice_entE splice_entM
set_option maxHeartbeats 8000000 in
theorem rbind_any (d : DBs) (l : List FixV) (legs : List Leg) (A : Option Addr) (c : Nat) (sec : Int) (via : List UInt8) (w : World) (hL : Laid w) (hD : DbAt w d l)
    (hI : Items w A 13 (legs.map Leg.arr)) (hlc : legs.length ≤ c) (hn : legs.length ≤ 1000000) (hs : ∀ x ∈ legs, x.small) (hv : via.length ≤ 4000000000) :
    Calls Tryz.prog 9 #[.agg d.cells, .slice A legs.length c, .int .u8 sec, .string ⟨via.toArray⟩] w (RetBd w (bindS (pointV d.lat d.lon l) legs sec via)) := by
  have hcall := Lib.hid (fun r w' (h : Below w.heap.size w w') => rnavpoint_any d l r w' (hD.below h))
  generalize pointV d.lat d.lon l = pt at hcall ⊢
  have hsz9 := hD.ok.size
  generalize d.cells = cs at *
  clear hD
  have ks := Lib.hid (rsection_any sec)
  have kv := Lib.hid (fun w' (h : Below w.heap.size w w') => rvia_any via w' hv)
  have HL := Lib.hid (fun w' (h : Below w.heap.size w w') => hL.below h)
  clear hL
  go_enter Tryz.func9, Tryz.ntmps9
  go_upto_region 1 with (fail)
  have X0 : Blk (w.alloc (.cells cs 30)) w.heap.size cs := Blk.new w _ _
  have B0 := alloc_below3 w (.cells cs 30)
  generalize w.alloc _ = W at X0 B0 ⊢
  obtain ⟨g0, hg0⟩ : ∃ g, g = w.heap.size := ⟨_, rfl⟩
  rw [← hg0] at X0 ⊢
  clear hg0
  cases hsb : sectionB sec with
  | false =>
    have HO := Lib.hid (show bindS pt legs sec via = ([], 17) by unfold bindS; rw [hsb]; rfl)
    rw [hsb] at ks
    go_wp2_with (go_at_call 26; (with_reducible refine callP (ks.out _) ?_))
    go_ret2
    rw [HO.out]
    exact RetBd.err _ _ _ B0
  | true =>
    rw [hsb] at ks
    have hq := Lib.hid (kv.out W B0)
    cases hvb : viaB via with
    | false =>
      have HO := Lib.hid (show bindS pt legs sec via = ([], 5) by unfold bindS; rw [hsb, hvb]; rfl)
      rw [hvb] at hq
      go_wp2_with (first | (go_at_call 26; (with_reducible refine callP (ks.out _) ?_)) | (go_at_call 27; (with_reducible refine callP hq.out ?_)))
      go_ret2
      rw [HO.out]
      exact RetBd.err _ _ _ B0
    | true =>
      have HS := Lib.hid (bindS_loop pt legs sec via hsb hvb)
      rw [hvb] at hq
      go_upto_region 6 with (first | (go_at_call 26; (with_reducible refine callP (ks.out _) ?_)) | (go_at_call 27; (with_reducible refine callP hq.out ?_)))
      have X1 := X0
      have B1 := B0
      clear X0 B0 hq
      obtain ⟨W1, hW1⟩ : ∃ W1, W1 = W := ⟨_, rfl⟩
      rw [← hW1] at X1 B1 ⊢
      clear hW1
      have I1 : Items W1 A 13 (legs.map Leg.arr) := hI.below B1
      have HC := Lib.hid (fun r w' (h : Below W1.heap.size W1 w') => hcall.out r w' (below_step B1 h))
      have HLw := Lib.hid (fun w' (h : Below W1.heap.size W1 w') => HL.out w' (below_step B1 h))
      have HX := Lib.hid (fun w' (h : Below W1.heap.size W1 w') => X1.step h)
      clear kv ks hsb hvb hcall HL hI
      have BH := Lib.hid B1
      clear B1 X1
      go_wp2
      go_loopw [10, 27] (fun o i wr => ∃ (k : Nat) (es : List Entry), k ≤ legs.length ∧ i = .int .i64 k ∧ es = (legs.take k).map (bindX pt sec via) ∧ es.length = k ∧ bindGoE pt legs = bindGoE pt (legs.drop k) ∧ Out W1 wr o es ∧ Below W1.heap.size W1 wr) (fun _ i _ => legs.length - (intOf i).toNat)
      case atStart => exact ⟨0, [], by omega, rfl, rfl, rfl, rfl, Out.nil _ _, Below.refl _ _⟩
      case round =>
        obtain ⟨k, es, hk, rfl, hes, hel, hgo, O, BW⟩ := hrel
        have HES := Lib.hid hes
        have HEL := Lib.hid hel
        have HGO := Lib.hid hgo
        clear hes hel hgo
        by_cases hlt : k < legs.length
        · obtain ⟨b, off, hA, hb, hcl⟩ := I1.get (k := k) (by simpa using hlt)
          clear hcl hb
          subst hA
          have hx := legItem I1 BW hlt
          have hsm := hs _ (List.getElem_mem hlt)
          have HT := Lib.hid (show (legs.take (k + 1)).map (bindX pt sec via) = es ++ [bindX pt sec via legs[k]] by rw [HES.out, List.take_succ_eq_append_getElem hlt, List.map_append]; rfl)
          have HG := Lib.hid (show bindGoE pt legs = orE (orE (legCheck legs[k]) (orE (ptOf pt legs[k].fix).2 (ptOf pt legs[k].center).2)) (bindGoE pt (legs.drop (k + 1))) by rw [HGO.out, List.drop_eq_getElem_cons hlt]; rfl)
          clear HES HGO
          generalize legs[k] = x at hx hsm HT HG
          obtain ⟨rest, hrest⟩ : ∃ rest, bindGoE pt (legs.drop (k + 1)) = rest := ⟨_, rfl⟩
          rw [hrest] at HG
          have HRS := Lib.hid hrest
          clear hrest
          have hkc : k < c := by omega
          have i1 : Has_leg wr b (off + k * 13) := ⟨_, hx⟩
          have i2 : of_leg wr b (off + k * 13) = x := of_leg_eq hx
          have HO := Lib.hid (fun w' (h : Below wr.heap.size wr w') => O.below h)
          have HB := Lib.hid (fun w' (h : Below wr.heap.size wr w') => BW.trans (h.mono BW.size))
          clear O hx
          go_upto_region 9 with (fail)
          clear i1 i2
          have P0 : Blk (wr.alloc (.cells x.arr 36)) wr.heap.size x.arr := Blk.new _ _ _
          have D0 := alloc_below3 wr (.cells x.arr 36)
          generalize wr.alloc _ = W2 at P0 D0 ⊢
          obtain ⟨g1, hg1⟩ : ∃ g, g = wr.heap.size := ⟨_, rfl⟩
          rw [← hg1] at P0 ⊢
          clear hg1
          have hck := Lib.hid (rcheck_any x W2 hsm)
          have HXE := Lib.hid (show bindX pt sec via x = ⟨false, x, (ptOf pt x.fix).1.1, (ptOf pt x.fix).1.2, (ptOf pt x.center).1.1, (ptOf pt x.center).1.2, sec, via⟩ from rfl)
          generalize legCheck x = ck at hck HG
          have i1 : Has_leg W2 g1 0 := ⟨_, P0.is_leg⟩
          have i2 : of_leg W2 g1 0 = x := of_leg_eq P0.is_leg
          by_cases hc0 : ck = 0
          · subst hc0
            go_upto_region 12 with (go_at_call 28; (with_reducible refine callR hck.out ?_); intro w3 b3 _ _ _)
            have P3 := P0.step b3
            have D3 := below_step D0 b3
            clear i1 i2 P0 D0 b3 hck
            have i1 : Has_leg w3 g1 0 := ⟨_, P3.is_leg⟩
            have i2 : of_leg w3 g1 0 = x := of_leg_eq P3.is_leg
            go_upto_region 13 with (fail)
            clear i1 i2
            have P4 := P3.alloc (.cells (⟨false, x, 0, 0, 0, 0, sec, via⟩ : Entry).arr 41)
            have E4 := Blk.new w3 (⟨false, x, 0, 0, 0, 0, sec, via⟩ : Entry).arr 41
            have D4 := below_step D3 (alloc_below3 w3 (.cells (⟨false, x, 0, 0, 0, 0, sec, via⟩ : Entry).arr 41))
            generalize hW : w3.alloc _ = W4
            have hE : w3.alloc (.cells (⟨false, x, 0, 0, 0, 0, sec, via⟩ : Entry).arr 41) = W4 := hW
            rw [hE] at P4 E4 D4
            clear hW hE
            obtain ⟨g2, hg2⟩ : ∃ g, g = w3.heap.size := ⟨_, rfl⟩
            rw [← hg2] at E4 ⊢
            have hne : wr.heap.size ≤ g2 := by rw [hg2]; exact D3.size
            clear hg2 P3 D3
            obtain ⟨F, hF⟩ : ∃ F, x.fix = F := ⟨_, rfl⟩
            have k1 : W4.cell? ⟨g1, 1, none⟩ = some (.string ⟨F.toArray⟩) := by rw [← hF]; exact P4.cell 1
            rw [hF] at HXE HG
            obtain ⟨⟨⟨fx, fy⟩, fe⟩, hfp⟩ : ∃ fp, ptOf pt F = fp := ⟨_, rfl⟩
            rw [hfp] at HXE HG
            clear hF
            go_upto_if 42 with (fail)
            go_cut [15, 16, 27] from 27 to 74 (fun _ _ i wx => i = .int .i64 k ∧ fe = 0 ∧ Blk wx g1 x.arr ∧ Blk wx g2 (⟨false, x, fx, fy, 0, 0, sec, via⟩ : Entry).arr ∧ Below wr.heap.size wr wx)
            case first =>
              by_cases hf0 : F = []
              · have e : ((fx, fy), fe) = ((0, 0), 0) := by rw [← hfp, hf0]; rfl
                simp only [Prod.mk.injEq] at e
                obtain ⟨⟨rfl, rfl⟩, rfl⟩ := e
                subst hf0
                clear hfp HG HXE
                go_wp2
                go_meet
                exact ⟨by trivial, by trivial, P4, E4, D4⟩
              · have e : pt F = ((fx, fy), fe) := by rw [← hfp]; unfold ptOf; rw [if_neg (by simpa using hf0)]
                have hfb : F.isEmpty = false := by simpa using hf0
                clear hf0
                have hcall := Lib.hid (show Calls Tryz.prog 29 #[.agg cs, .string ⟨F.toArray⟩] W4 (Ret W4 (.tuple #[.agg (Pt.arr ⟨fx, fy⟩), .int .i64 fe])) from by have := HC.out F W4 (HB.out _ D4); rw [e] at this; exact this)
                have i1 : Has_db W4 g0 0 := ⟨_, (HX.out _ (HB.out _ D4)).is_db hsz9⟩
                have i2 : of_db W4 g0 0 = cs := of_db_eq ((HX.out _ (HB.out _ D4)).is_db hsz9)
                have HP := Lib.hid (fun w' (h : Below W4.heap.size W4 w') => P4.step h)
                have HE := Lib.hid (fun w' (h : Below W4.heap.size W4 w') => E4.step h)
                have HD := Lib.hid (fun w' (h : Below W4.heap.size W4 w') => below_step D4 h)
                have hne2 : g1 ≠ g2 := by intro h; subst h; have h1 := P4.of; have h2 := E4.of; rw [h1] at h2; have := congrArg Array.size h2; simp [Leg.arr, Entry.arr] at this
                clear P4 E4 D4 hfp e
                by_cases he : fe = 0
                · subst he
                  go_wp2_with (go_at_call 29; (with_reducible refine callR hcall.out ?_); intro w5 b5 _ _ _; have d2 := ((HE.out _ b5).alloc (.cells (Pt.arr ⟨fx, fy⟩) 38)).plain; have d3 := ((HE.out _ b5).alloc (.cells (Pt.arr ⟨fx, fy⟩) 38)).of)
                  all_goals try (exfalso; have hq : (!F.isEmpty) = false := (by assumption); rw [hfb] at hq; exact absurd hq (by decide))
                  go_meet
                  exact ⟨by trivial, by trivial, ((HP.out _ b5).alloc _).far hne2 _, ((HE.out _ b5).alloc _).set _, below_setRow' ((HD.out _ b5).alloc (HD.out _ b5).size _) hne _⟩
                · have HR := Lib.hid (show bindS pt legs sec via = ([], fe) by
                    have h1 : bindGoE pt legs = fe := by rw [HG.out]; simp [orE, he]
                    rw [HS.out, h1, if_neg he])
                  clear HS HG HXE
                  go_wp2_with (go_at_call 29; (with_reducible refine callR hcall.out ?_); intro w5 b5 _ _ _; have d2 := ((HE.out _ b5).alloc (.cells (Pt.arr ⟨fx, fy⟩) 38)).plain; have d3 := ((HE.out _ b5).alloc (.cells (Pt.arr ⟨fx, fy⟩) 38)).of)
                  all_goals try (exfalso; have hq : (!F.isEmpty) = false := (by assumption); rw [hfb] at hq; exact absurd hq (by decide))
                  go_ret2
                  rw [HR.out]
                  exact RetBd.err _ _ _ (below_step BH.out (HB.out _ ((HD.out _ b5).alloc (HD.out _ b5).size _)))
            case rest =>
              obtain ⟨rfl, rfl, P5, E5, D5⟩ := hcut
              clear P4 E4 D4 k1 hfp
              obtain ⟨F, hF⟩ : ∃ F, x.center = F := ⟨_, rfl⟩
              have k1 : wc.cell? ⟨g1, 2, none⟩ = some (.string ⟨F.toArray⟩) := by rw [← hF]; exact P5.cell 2
              rw [hF] at HXE HG
              obtain ⟨⟨⟨mx, my⟩, me⟩, hfp⟩ : ∃ fp, ptOf pt F = fp := ⟨_, rfl⟩
              rw [hfp] at HXE HG
              clear hF
              go_upto_if 57 with (fail)
              go_cut [17, 18, 27] from 27 to 74 (fun _ _ i wx => i = .int .i64 k ∧ me = 0 ∧ Blk wx g1 x.arr ∧ Blk wx g2 (⟨false, x, fx, fy, mx, my, sec, via⟩ : Entry).arr ∧ Below wr.heap.size wr wx)
              case first =>
                by_cases hf0 : F = []
                · have e : ((mx, my), me) = ((0, 0), 0) := by rw [← hfp, hf0]; rfl
                  simp only [Prod.mk.injEq] at e
                  obtain ⟨⟨rfl, rfl⟩, rfl⟩ := e
                  subst hf0
                  clear hfp HG HXE
                  go_wp2
                  go_meet
                  exact ⟨by trivial, by trivial, P5, E5, D5⟩
                · have e : pt F = ((mx, my), me) := by rw [← hfp]; unfold ptOf; rw [if_neg (by simpa using hf0)]
                  have hfb : F.isEmpty = false := by simpa using hf0
                  clear hf0
                  have hcall := Lib.hid (show Calls Tryz.prog 29 #[.agg cs, .string ⟨F.toArray⟩] wc (Ret wc (.tuple #[.agg (Pt.arr ⟨mx, my⟩), .int .i64 me])) from by have := HC.out F wc (HB.out _ D5); rw [e] at this; exact this)
                  have i1 : Has_db wc g0 0 := ⟨_, (HX.out _ (HB.out _ D5)).is_db hsz9⟩
                  have i2 : of_db wc g0 0 = cs := of_db_eq ((HX.out _ (HB.out _ D5)).is_db hsz9)
                  have HP := Lib.hid (fun w' (h : Below wc.heap.size wc w') => P5.step h)
                  have HE := Lib.hid (fun w' (h : Below wc.heap.size wc w') => E5.step h)
                  have HD := Lib.hid (fun w' (h : Below wc.heap.size wc w') => below_step D5 h)
                  have hne2 : g1 ≠ g2 := by intro h; subst h; have h1 := P5.of; have h2 := E5.of; rw [h1] at h2; have := congrArg Array.size h2; simp [Leg.arr, Entry.arr] at this
                  clear P5 E5 D5 hfp e
                  by_cases he : me = 0
                  · subst he
                    go_wp2_with (go_at_call 29; (with_reducible refine callR hcall.out ?_); intro w5 b5 _ _ _; have d2 := ((HE.out _ b5).alloc (.cells (Pt.arr ⟨mx, my⟩) 38)).plain; have d3 := ((HE.out _ b5).alloc (.cells (Pt.arr ⟨mx, my⟩) 38)).of)
                    all_goals try (exfalso; have hq : (!F.isEmpty) = false := (by assumption); rw [hfb] at hq; exact absurd hq (by decide))
                    go_meet
                    exact ⟨by trivial, by trivial, ((HP.out _ b5).alloc _).far hne2 _, ((HE.out _ b5).alloc _).set _, below_setRow' ((HD.out _ b5).alloc (HD.out _ b5).size _) hne _⟩
                  · have HR := Lib.hid (show bindS pt legs sec via = ([], me) by
                      have h1 : bindGoE pt legs = me := by rw [HG.out]; simp [orE, he]
                      rw [HS.out, h1, if_neg he])
                    clear HS HG HXE
                    go_wp2_with (go_at_call 29; (with_reducible refine callR hcall.out ?_); intro w5 b5 _ _ _; have d2 := ((HE.out _ b5).alloc (.cells (Pt.arr ⟨mx, my⟩) 38)).plain; have d3 := ((HE.out _ b5).alloc (.cells (Pt.arr ⟨mx, my⟩) 38)).of)
                    all_goals try (exfalso; have hq : (!F.isEmpty) = false := (by assumption); rw [hfb] at hq; exact absurd hq (by decide))
                    go_ret2
                    rw [HR.out]
                    exact RetBd.err _ _ _ (below_step BH.out (HB.out _ ((HD.out _ b5).alloc (HD.out _ b5).size _)))
              case rest =>
                obtain ⟨rfl, rfl, P6, E6, D6⟩ := hcut
                clear P5 E5 D5 k1 hfp P6
                obtain ⟨y, hy⟩ : ∃ y, (⟨false, x, fx, fy, mx, my, sec, via⟩ : Entry) = y := ⟨_, rfl⟩
                have HY := Lib.hid (show bindX pt sec via x = y by rw [HXE.out, ← hy])
                rw [hy] at E6
                have HG2 := Lib.hid (show bindGoE pt legs = rest from HG.out)
                clear hy HXE HG
                have i1 : Has_ent wc g2 0 := ⟨_, E6.is_ent⟩
                have i2 : of_ent wc g2 0 = y := of_ent_eq E6.is_ent
                have OA := Lib.hid ((HO.out _ D6).alloc (.cells y.arr 41))
                have BA := Lib.hid ((HB.out _ D6).alloc (HB.out _ D6).size (.cells y.arr 41))
                have hen := HEL.out
                have hba : W1.heap.size ≤ (wc.alloc (.cells y.arr 41)).heap.size := BA.out.size
                go_wp2_with (at_builtin; refine wpList_append_out rfl (.tmp 70) (.tmp 72) rfl OA.out rfl [y] wc.heap.size 1 1 rfl rfl (Blk.one wc y _) (by simp; omega) hba ?_; intro v5 W5 O5 hg5)
                go_roundw
                case rel =>
                  exact ⟨k + 1, es ++ [y], by omega, by go_num, by rw [HT.out, HY.out], by simp; omega, by rw [HG2.out, HRS.out], O5, below_grown BA.out OA.out hg5⟩
                case measure => simp [intOf]; omega
          · have HR := Lib.hid (show bindS pt legs sec via = ([], ck) by
              have h1 : bindGoE pt legs = ck := by rw [HG.out]; simp [orE, hc0]
              rw [HS.out, h1, if_neg hc0])
            clear HS HG
            go_wp2_with (go_at_call 28; (with_reducible refine callR hck.out ?_); intro w3 b3 _ _ _)
            go_ret2
            rw [HR.out]
            exact RetBd.err _ _ _ (below_step BH.out (HB.out _ (below_step D0 b3)))
        · have hes := HES.out
          rw [List.take_of_length_le (by omega)] at hes
          have HR := Lib.hid (show bindS pt legs sec via = (es, 0) by
            have h1 : bindGoE pt legs = 0 := by rw [HGO.out, List.drop_of_length_le (by omega)]; rfl
            rw [HS.out, if_pos h1, ← hes])
          obtain ⟨A2, c2, rfl, hc2, hE2, _⟩ := O.form
          clear HS HGO HES hes O
          go_wp2
          go_ret2
          rw [HR.out]
          exact ⟨A2, c2, rfl, hc2, hE2, below_step BH.out BW⟩
end Go.Proofs.YtjgondadpjildaaGreatDoor
namespace Go.Proofs.YtjgondadpjildaaGreatDoor
open Go.RowKit Go.Sort
set_option linter.unusedVariables false
set_option linter.unusedSimpArgs false
set_option maxRecDepth 100000
theorem bindS_len (pt : List UInt8 → (Int × Int) × Int) (legs : List Leg) (sec : Int) (via : List UInt8) : (bindS pt legs sec via).1.length ≤ legs.length := by
  unfold bindS
  split
  · exact Nat.zero_le _
  · split
    · exact Nat.zero_le _
    · split
      · simp
      · exact Nat.zero_le _
set_option maxHeartbeats 8000000 in
theorem lawBinds_any (d : DBs) (l : List FixV) (legs : List Leg) (A : Option Addr) (c : Nat) (x : Entry) (w : World) (hL : Laid w) (hD : DbAt w d l)
    (hI : Items w A 13 (legs.map Leg.arr)) (hlc : legs.length ≤ c) (hs : ∀ y ∈ legs, y.small) (hv : x.via.length ≤ 4000000000) :
    Calls Tryz.prog 3 #[.agg d.cells, .slice A legs.length c, .agg x.arr] w (Ret w (.bool true)) := by
  go_enter Tryz.func3, Tryz.ntmps3
  go_upto_region 1 with (fail)
  have X0 : Blk (w.alloc (.cells d.cells 30)) w.heap.size d.cells := Blk.new w _ _
  have B0 := alloc_below3 w (.cells d.cells 30)
  have hsz : (w.alloc (.cells d.cells 30)).heap.size = w.heap.size + 1 := World.size_alloc _ _
  generalize w.alloc _ = W0 at X0 B0 hsz ⊢
  rw [← hsz]
  have Y1 : Blk (W0.alloc (.cells x.arr 41)) W0.heap.size x.arr := Blk.new W0 _ _
  have B1 := below_step B0 (alloc_below3 W0 (.cells x.arr 41))
  have X1 := X0.alloc (.cells x.arr 41)
  generalize W0.alloc _ = W at Y1 B1 X1 ⊢
  generalize W0.heap.size = g5 at Y1 ⊢
  generalize w.heap.size = g3 at X1 ⊢
  clear X0 B0 hsz
  go_upto_region 3 with (go_at_call 7; refine callR (awake_any W (hL.below B1)) ?_; intro w1 b1 _ _ _)
  have X2 := X1.step b1
  have Y2 := Y1.step b1
  have B2 := below_step B1 b1
  have I2 := hI.below B2
  have D2 := hD.below B2
  have L2 := hL.below B2
  have hle : w.heap.size ≤ W.heap.size := B1.size
  clear X1 Y1 B1 b1 hL hI hD
  have c6 : w1.cell? ⟨g3, 6, none⟩ = some (.slice d.fa d.fn d.fc) := (X2.cell 6).trans D2.ok.c6
  by_cases h120 : (120 : Int) < (legs.length : Int)
  · go_wp2
    go_ret
    exact Ret.bool rfl B2
  have h120' : ¬ (120 : Int) < (legs.length : Int) := h120
  by_cases h400 : (400 : Int) < (d.fn : Int)
  · go_wp2
    go_ret
    exact Ret.bool rfl B2
  have hle2 := bindS_len (pointV d.lat d.lon l) legs x.sec x.via
  have HB := Lib.hid (bind_any d l legs A c x.sec x.via w1 L2 D2 I2 hlc (by omega) hs hv)
  have HR := Lib.hid (fun w' (h : Below w1.heap.size w1 w') => rbind_any d l legs A c x.sec x.via w' (L2.below h) (D2.below h) (I2.below h) hlc (by omega) hs hv)
  have hsz9 := D2.ok.size
  have i1 : Has_db w1 g3 0 := ⟨_, X2.is_db hsz9⟩
  have i2 : of_db w1 g3 0 = d.cells := of_db_eq (X2.is_db hsz9)
  have k18 : w1.cell? ⟨g5, 18, none⟩ = some (.int .u8 x.sec) := Y2.cell 18
  have k19 : w1.cell? ⟨g5, 19, none⟩ = some (.string ⟨x.via.toArray⟩) := Y2.cell 19
  generalize bindS (pointV d.lat d.lon l) legs x.sec x.via = out at *
  generalize d.cells = cs at *
  clear D2 L2 I2
  obtain ⟨es, e⟩ := out
  have hle2 : es.length ≤ legs.length := hle2
  go_upto_region 6 with (go_at_call 8; refine HB.out.mono ?_; rintro e w2 ⟨A2, c2, rfl, hc2, hE2, b2⟩)
  have hE2 : Ents w2 A2 es := hE2
  have hc2 : es.length ≤ c2 := hc2
  have hcall := Lib.hid (HR.out w2 b2)
  have X3 := X2.step b2
  have Y3 := Y2.step b2
  have B3 := below_step B2 b2
  clear i1 i2 k18 k19 X2 Y2 B2 HB HR b2 c6
  have i1 : Has_db w2 g3 0 := ⟨_, X3.is_db hsz9⟩
  have i2 : of_db w2 g3 0 = cs := of_db_eq (X3.is_db hsz9)
  have k18 : w2.cell? ⟨g5, 18, none⟩ = some (.int .u8 x.sec) := Y3.cell 18
  have k19 : w2.cell? ⟨g5, 19, none⟩ = some (.string ⟨x.via.toArray⟩) := Y3.cell 19
  go_upto_region 7 with (go_at_call 9; refine hcall.out.mono ?_; rintro e w3 ⟨A3, c3, rfl, hc3, hE3, b3⟩)
  have hE3 : Ents w3 A3 es := hE3
  have hc3 : es.length ≤ c3 := hc3
  have E2 := hE2.below (B := 0) b3
  have B4 := below_step B3 b3
  have HQ := Lib.hid (equal_any es es A2 A3 c2 c3 w3 (by omega) (by omega) hc2 hc3 E2 hE3)
  rw [(eqGo_iff es es).2 rfl] at HQ
  clear i1 i2 k18 k19 X3 Y3 B3 hcall b3 hE2
  go_wp2_with (go_at_call 10; refine callQ HQ.out ?_; intro n)
  go_ret
  exact Ret.bool rfl (below_drewN B4 n)
end Go.Proofs.YtjgondadpjildaaGreatDoor
