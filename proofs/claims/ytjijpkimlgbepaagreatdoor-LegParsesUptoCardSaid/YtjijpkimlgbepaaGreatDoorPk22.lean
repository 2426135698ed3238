/- Directions in degrees, minutes, seconds and hundredths: angle.Exact, angle.ParseExact and what the references have for them. -/
import Derived.Test.YtjijpkimlgbepaaGreatDoorPk21
import Derived.Laws.OwnMore
namespace Go.Proofs.YtjijpkimlgbepaaGreatDoor
open Go.RowKit Go.Sort
set_option linter.unusedVariables false
set_option linter.unusedSimpArgs false
set_option maxRecDepth 100000
def bval (c : UInt8) : Value := .int .u8 c.toNat
def bvals (l : List UInt8) : List Value := l.map bval
/-- The slice v, made since B, holds the bytes l. -/
def BOut (B : Nat) (W : World) (v : Value) (l : List UInt8) : Prop := W.ownsRow B 5 1 v l.length (bvals l)
theorem BOut.nil (B : Nat) (W : World) : BOut B W (.slice none 0 0) [] := ⟨rfl, .inl ⟨rfl, rfl⟩⟩
theorem info_u8 : (Tryz.prog.info? 5).map (fun i => (i.zero, i.size, i.bytes)) = some (some (.int .u8 0), 1, 1) := by kernel_rfl
/-- 'b = append(b, c)': the source is a new block of one byte. -/
theorem wpList_append_bout {ops : Array Oper} {rest : List Oper} {op : Oper} {a : Act} {Q : Exit → Act → World → Prop} {B : Nat} {W : World} {v : Value} {l : List UInt8} (hgd : op.guard = none) (s x : Operand)
    (ho : op.op = .call { callee := .builtin .append, args := #[s, x], argTypes := #[73, 73] }) (h : BOut B W v l) (hs : a.eval s = v) (t : UInt8) (g c : Nat)
    (hx : a.eval x = .slice (some ⟨g, 0, none⟩) 1 c) (hg : W.cell? ⟨g, 0, none⟩ = some (bval t)) (hn : l.length + 1 ≤ 10000000) (hb : B ≤ W.heap.size)
    (k : ∀ v' W', BOut B W' v' (l ++ [t]) → W.grownBy W' v.ownBlock → wpList Tryz.prog ops Q rest (a.put op.dst v') W') : wpList Tryz.prog ops Q (op :: rest) a W := by
  obtain ⟨i0, hi, hz0, hz1, hz2⟩ := info_parts info_u8
  refine wpList_append_own W hgd s x 73 ho B 5 i0 _ 1 1 Tryz.underlying73 hi hz0 hz1 hz2 rfl (by omega) v l.length (bvals l) hs h ⟨g, 0, none⟩ 1 c [bval t] hx rfl ?_ (by simp [bval, Value.oneCell']) (by unfold maxLen; omega) (by omega) hb ?_
  · intro j u hu
    match j, hu with
    | 0, hu => rw [addr_add, Nat.zero_add, hg]; simpa using hu
    | j + 1, hu => simp at hu
  · intro v' W' h1 h2 _
    refine k v' W' ?_ h2
    unfold BOut
    rw [List.length_append, bvals, List.map_append]
    exact h1
theorem below_bgrown {B : Nat} {w0 W W' : World} {v : Value} {l : List UInt8} (hB : Below B w0 W) (hle : B ≤ W.heap.size) (hO : BOut B W v l) (hg : W.grownBy W' v.ownBlock) : Below B w0 W' := by
  refine hB.grown hg hle ?_
  intro g he
  rcases hO.2 with ⟨rfl, _⟩ | ⟨g', cap, cur, rfl, hgb, _⟩
  · simp [Value.ownBlock] at he
  · have : g' = g := by simpa [Value.ownBlock] using he
    omega
/-- The call returns a slice of bytes l made since B; what was there below B is as it was. -/
def RetB (B : Nat) (w : World) (l : List UInt8) (e : Ending) (w' : World) : Prop := ∃ v, e = .returned v ∧ BOut B w' v l ∧ Below B w w' ∧ B ≤ w'.heap.size
theorem BOut.form {B : Nat} {W : World} {v : Value} {l : List UInt8} (h : BOut B W v l) : ∃ A c, v = .slice A l.length c := by
  obtain ⟨hl, h⟩ := h
  rcases h with ⟨rfl, h0⟩ | ⟨g, cap, cur, rfl, hg, hb, hn, _, hsz, hc⟩
  · exact ⟨none, 0, by rw [h0]⟩
  · exact ⟨_, _, rfl⟩
theorem set_digit (l : List UInt8) (m : Nat) (d : UInt8) (r : List UInt8) : (bvals (l ++ List.replicate (m + 1) 48 ++ r)).set (l.length + m) (bval d) = bvals (l ++ List.replicate m 48 ++ (d :: r)) := by
  rw [List.replicate_succ']
  unfold bvals
  simp only [List.map_append, List.map_cons, List.map_nil, List.append_assoc]
  rw [List.set_append_right _ _ (by simp), List.set_append_right _ _ (by simp)]
  simp
theorem BOut.some {B : Nat} {W : World} {v : Value} {l : List UInt8} (h : BOut B W v l) (h0 : 0 < l.length) : ∃ g cap, v = .slice (.some ⟨g, 0, none⟩) l.length cap ∧ B ≤ g := by
  obtain ⟨hl, h⟩ := h
  rcases h with ⟨rfl, h1⟩ | ⟨g, cap, cur, rfl, hg, hb, hn, _, hsz, hc⟩
  · omega
  · exact ⟨g, cap, rfl, hg⟩
theorem BOut.cellAt {B g n cap : Nat} {W : World} {l : List UInt8} (h : BOut B W (.slice (.some ⟨g, 0, none⟩) n cap) l) (hn : n = l.length) (j : Nat) (hj : j < l.length) : W.cell? ⟨g, j, none⟩ = .some (bval l[j]) := by
  subst hn
  rw [World.ownsRow.cellAt h j (by omega)]
  simp [bvals, hj]
theorem BOut.stored {B g n cap : Nat} {W : World} {l l' : List UInt8} (h : BOut B W (.slice (.some ⟨g, 0, none⟩) n cap) l) (hn : n = l.length) (hB : B ≤ g) (j : Nat) (d : UInt8) (he : (bvals l).set j (bval d) = bvals l') (hl : l'.length = l.length) : BOut B (W.setCell ⟨g, j, none⟩ (bval d)) (.slice (.some ⟨g, 0, none⟩) n cap) l' := by
  subst hn
  have := (World.ownsRow.stored h j (bval d)).1
  rw [he] at this
  unfold BOut
  rw [hl]
  exact this
set_option maxHeartbeats 2000000 in
theorem adigits_any (B : Nat) (v : Value) (l : List UInt8) (n : Int) (c : Nat) (w : World) (hO : BOut B w v l) (hle : B ≤ w.heap.size) (h0 : 0 ≤ n) (h1 : n ≤ 9223372036854775807) (hc0 : 0 < c) (hc : c ≤ 100) (hl : l.length ≤ 1000) : Calls Tryz.prog 100 #[v, .int .i64 n, .int .i64 c] w (RetB B w (l ++ digW c n.toNat)) := by
  obtain ⟨A0, c0, rfl⟩ := hO.form
  have HO := Lib.hid hO; clear hO
  go_enter Tryz.func100, Tryz.ntmps100
  go_wp2
  go_loopw [0, 12] (fun s i W => ∃ (k : Nat), k ≤ c ∧ i = .int .i64 k ∧ BOut B W s (l ++ List.replicate k 48) ∧ Below B w W ∧ B ≤ W.heap.size) (fun _ i _ => c - (intOf i).toNat)
  case atStart => exact ⟨0, by omega, rfl, by simpa using HO.out, Below.refl _ _, hle⟩
  case round =>
    obtain ⟨k, hk, rfl, hO, hB, hle'⟩ := hrel
    by_cases hlt : k < c
    · have O1 := Lib.hid (World.ownsRow.alloc hO (.cells #[.int .u8 48] 5))
      have B1 := Lib.hid (hB.alloc hle' (.cells #[.int .u8 48] 5))
      have HO := Lib.hid hO; clear hO
      go_wp2_with (at_builtin; refine wpList_append_bout rfl (.tmp 14) (.tmp 15) rfl O1.out rfl 48 _ _ rfl (cell_of_row _ _ 0 #[.int .u8 48] _ _ (heap_alloc_new _ _)) (by simp; omega) (by simp; omega) ?_; intro v2 W2 hO2 hg2)
      have hz := hg2.size
      go_roundw
      case rel => exact ⟨k + 1, by omega, by go_num, by rw [List.replicate_succ', ← List.append_assoc]; exact hO2, below_bgrown B1.out (by simp; omega) O1.out hg2, by simp at hz; omega⟩
      case measure => simp [intOf]; omega
    · obtain rfl : k = c := by omega
      obtain ⟨g, cap, rfl, hBg⟩ := hO.some (by simp; omega)
      simp only [List.length_append, List.length_replicate] at hO ⊢
      obtain ⟨N, hN⟩ : ∃ N : Nat, N = l.length + k := ⟨_, rfl⟩
      rw [← hN] at hO ⊢
      have HO2 := Lib.hid hO; clear hO HO
      have n1 : 1 ≤ N := by omega
      have n2 : N ≤ 2000 := by omega
      have n3 : ((N : Int) - 1) = (l.length : Int) + (k : Int) - 1 := by omega
      have HN := Lib.hid hN; clear hN
      have HN3 := Lib.hid n3; clear n3
      go_wp2
      go_loopw [1, 8] (fun x i W => ∃ (m : Nat) (u : Int) (r : List UInt8), m ≤ k ∧ 0 ≤ u ∧ u ≤ 9223372036854775807 ∧ x = .int .i64 u ∧ i = .int .i64 ((l.length : Int) + m - 1) ∧ BOut B W (.slice (some ⟨g, 0, none⟩) N cap) (l ++ List.replicate m 48 ++ r) ∧ m + r.length = k ∧ digW k n.toNat = digW m u.toNat ++ r ∧ Below B w W ∧ B ≤ W.heap.size) (fun _ i _ => (intOf i + 1).toNat)
      case atStart => exact ⟨k, n, [], by omega, h0, h1, rfl, by rw [HN3.out], by simpa using HO2.out, by simp, by simp, hB, hle'⟩
      case round =>
        obtain ⟨m, u, r, hm, hu0, hu, rfl, rfl, hO, hr, hq, hB, hle'⟩ := hrel
        have HQ := Lib.hid hq; clear hq
        cases m with
        | zero =>
          have HO := Lib.hid hO; clear hO
          go_wp2
          go_ret
          refine ⟨_, rfl, ?_, hB, hle'⟩
          rw [HQ.out]
          simpa [digW] using HO.out
        | succ m =>
          have hlen : N = (l ++ List.replicate (m + 1) 48 ++ r).length := by have := HN.out; simp; omega
          have c1 := hO.cellAt hlen (l.length + m) (by simp; omega)
          have f1 : wr.frozen? ⟨g, l.length + m, none⟩ = false := World.ownsRow.frozenAt (by rw [hlen] at hO; exact hO) _
          have hbd : Value.int .u8 (48 + u % 10) = bval (dg (u % 10).toNat) := by unfold bval; rw [dg_toNat (by omega)]; congr 1; omega
          have hS := Lib.hid (hO.stored hlen hBg (l.length + m) (dg (u % 10).toNat) (set_digit l m (dg (u % 10).toNat) r) (by simp; omega))
          have HBD := Lib.hid hbd; clear hbd
          unfold bval at c1
          obtain ⟨X, hX⟩ : ∃ X : Int, X = ((l ++ List.replicate (m + 1) 48 ++ r)[l.length + m]'(by simp; omega)).toNat := ⟨_, rfl⟩
          rw [← hX] at c1
          clear hX
          have HO := Lib.hid hO; clear hO
          have hj : (l.length : Int) + ((m + 1 : Nat) : Int) - 1 = ((l.length + m : Nat) : Int) := by omega
          rw [hj]
          clear hj
          have HD := Lib.hid (show digW (m + 1) u.toNat = digW m (u / 10).toNat ++ [dg (u % 10).toNat] by rw [digW, show u.toNat / 10 = (u / 10).toNat by omega, show u.toNat % 10 = (u % 10).toNat by omega])
          obtain ⟨J, hJ⟩ : ∃ J : Nat, J = l.length + m := ⟨_, rfl⟩
          rw [← hJ] at c1 f1 hS ⊢
          have q1 : l.length ≤ J := by omega
          have q2 : J < N := by have := HN.out; omega
          have q3 : (J : Int) < (N : Int) := by omega
          have HL := Lib.hid hlen; clear hlen
          have HJ := Lib.hid hJ; clear hJ
          go_wp2
          go_roundw
          case rel => exact ⟨m, u / 10, dg (u % 10).toNat :: r, by omega, by omega, by omega, rfl, (by have := HJ.out; go_num), (by rw [HBD.out]; exact hS.out), by simp; omega, by rw [HQ.out, HD.out]; simp, hB.setCell (by simpa using hBg) _, by simpa using hle'⟩
          case measure => simp [intOf]
theorem conv_bout {B : Nat} {W : World} {v : Value} {l : List UInt8} (h : BOut B W v l) : (convert 73 9 v).run Tryz.prog W = .ok (.string ⟨l.toArray⟩) W := by
  rcases Nat.eq_zero_or_pos l.length with h0 | h0
  · obtain rfl : l = [] := List.eq_nil_of_length_eq_zero h0
    obtain ⟨hl, h⟩ := h
    rcases h with ⟨rfl, h1⟩ | ⟨g, cap, cur, rfl, hg, hb, hn, _, hsz, hc⟩
    · exact run_convert_bytes_nil W 73 5 Tryz.underlying73 Tryz.underlying5 0 0 9 Tryz.underlying9
    · exact run_convert_bytes_arg W 73 5 Tryz.underlying73 Tryz.underlying5 g 0 0 cap [] rfl (by intro i hi; omega) 9 Tryz.underlying9
  · obtain ⟨g, cap, rfl, hB⟩ := h.some h0
    rw [run_convert_bytes_arg W 73 5 Tryz.underlying73 Tryz.underlying5 g 0 l.length cap (l.map fun c => (c.toNat : Int)) (by simp) (by
      intro i hi
      rw [Nat.zero_add, h.cellAt rfl i hi]
      simp [bval, hi]) 9 Tryz.underlying9]
    unfold strOfNums
    rw [List.map_map]
    congr 3
    have : (fun n : Int => UInt8.ofNat n.toNat) ∘ (fun c : UInt8 => (c.toNat : Int)) = id := by
      funext c; simp
    rw [this, List.map_id]
/-- Degrees with three digits, minutes, seconds and hundredths with two. -/
def exactS (a : Nat) : List UInt8 := digW 3 (a / 360000) ++ digW 2 (a % 360000 / 6000) ++ digW 2 (a % 6000 / 100) ++ digW 2 (a % 100)
theorem exactS_len (a : Nat) : (exactS a).length = 9 := by simp [exactS, digW_len]
set_option maxHeartbeats 2000000 in
theorem asplit_any (a : Int) (w : World) (h0 : 0 ≤ a) (h1 : a < 129600000) : Calls Tryz.prog 67 #[.slice none 0 0, .int .i64 a, .int .i64 3] w (RetB w.heap.size w (exactS a.toNat)) := by
  go_enter Tryz.func67, Tryz.ntmps67
  go_wp2_with fail
  refine (adigits_any w.heap.size (.slice none 0 0) [] (a / 360000) 3 w (BOut.nil _ _) (Nat.le_refl _) (by omega) (by omega) (by decide) (by decide) (by decide)).mono ?_
  rintro e w1 ⟨v1, rfl, O1, B1, L1⟩
  go_wp2_with fail
  refine (adigits_any w.heap.size v1 _ (a % 360000 / 6000) 2 w1 O1 L1 (by omega) (by omega) (by decide) (by decide) (by simp [digW_len])).mono ?_
  rintro e w2 ⟨v2, rfl, O2, B2, L2⟩
  go_wp2_with fail
  refine (adigits_any w.heap.size v2 _ (a % 6000 / 100) 2 w2 O2 L2 (by omega) (by omega) (by decide) (by decide) (by simp [digW_len])).mono ?_
  rintro e w3 ⟨v3, rfl, O3, B3, L3⟩
  go_wp2_with fail
  refine (adigits_any w.heap.size v3 _ (a % 100) 2 w3 O3 L3 (by omega) (by omega) (by decide) (by decide) (by simp [digW_len])).mono ?_
  rintro e w4 ⟨v4, rfl, O4, B4, L4⟩
  go_wp2
  go_ret
  refine ⟨v4, rfl, ?_, ((B1.trans B2).trans B3).trans B4, L4⟩
  have e1 : exactS a.toNat = [] ++ digW 3 (a / 360000).toNat ++ digW 2 (a % 360000 / 6000).toNat ++ digW 2 (a % 6000 / 100).toNat ++ digW 2 (a % 100).toNat := by
    unfold exactS
    rw [show a.toNat / 360000 = (a / 360000).toNat by omega, show a.toNat % 360000 / 6000 = (a % 360000 / 6000).toNat by omega, show a.toNat % 6000 / 100 = (a % 6000 / 100).toNat by omega, show a.toNat % 100 = (a % 100).toNat by omega]
    simp
  rw [e1]
  exact O4
theorem norm_any (a : Int) (w : World) (h0 : 0 ≤ a) (h1 : a < 129600000) : Calls Tryz.prog 68 #[.int .i64 a] w (RetP w (.int .i64 a)) := by
  have h2 : a % 129600000 = a := by omega
  go_enter Tryz.func68, Tryz.ntmps68
  go_wp2
  go_ret
  exact RetP.int (by omega) rfl
theorem rnorm_any (a : Int) (w : World) (h0 : 0 ≤ a) (h1 : a < 129600000) : Calls Tryz.prog 75 #[.int .i64 a] w (RetP w (.int .i64 a)) := by
  have h2 : a % 129600000 = a := by omega
  go_enter Tryz.func75, Tryz.ntmps75
  go_wp2
  go_ret
  exact RetP.int (by omega) rfl
theorem exact_any (a : Int) (w : World) (h0 : 0 ≤ a) (h1 : a < 129600000) : Calls Tryz.prog 37 #[.int .i64 a] w (Ret w (.string ⟨(exactS a.toNat).toArray⟩)) := by
  go_enter Tryz.func37, Tryz.ntmps37
  go_wp2_with (go_at_call 68; refine callP (norm_any _ _ h0 h1) ?_)
  refine (asplit_any a w h0 h1).mono ?_
  rintro e w1 ⟨v1, rfl, O1, B1, L1⟩
  have e1 := conv_bout O1
  go_wp2
  go_ret
  exact Ret.str rfl B1
end Go.Proofs.YtjijpkimlgbepaaGreatDoor
