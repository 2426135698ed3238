/- PageCopies: the statement walked. Printed by wip/mklwcopies.py. -/
import Derived.Test.YtijfmfdnagjlpaaGreatDoorPk46
namespace Go.Proofs.YtijfmfdnagjlpaaGreatDoor
open Go.RowKit Go.Sort
set_option linter.unusedVariables false
set_option linter.unusedSimpArgs false
set_option maxRecDepth 100000
theorem line_key (side : UInt8) (hs : side = 76 ∨ side = 82) (r : Nat) (hr : r ≤ 4) : [side, UInt8.ofNat (49 + r)] ∈ keysL := by
  have : r = 0 ∨ r = 1 ∨ r = 2 ∨ r = 3 ∨ r = 4 := by omega
  rcases hs with rfl | rfl <;> rcases this with rfl | rfl | rfl | rfl | rfl <;> decide +kernel
theorem press_left (v : Vw) (f : Int) (h0 : 0 ≤ f) (h1 : f ≤ 1000000) (r : Nat) (hr : r ≤ 4) (p : List UInt8) (hp : p.length ≤ 24) : pressS ⟨1, f, p⟩ v [76, UInt8.ofNat (49 + r)] = leftS ⟨1, f, p⟩ (shownS v) (f + r) := by
  rw [pressS_ok (line_key 76 (.inl rfl) r hr) (by simp) (by simp) h0 h1 hp, pressK_line _ _ (.inl rfl) hr]
  rfl
theorem press_right (v : Vw) (f : Int) (h0 : 0 ≤ f) (h1 : f ≤ 1000000) (r : Nat) (hr : r ≤ 4) (p : List UInt8) (hp : p.length ≤ 24) : pressS ⟨1, f, p⟩ v [82, UInt8.ofNat (49 + r)] = rightS ⟨1, f, p⟩ (shownS v) (f + r) := by
  rw [pressS_ok (line_key 82 (.inr rfl) r hr) (by simp) (by simp) h0 h1 hp, pressK_line _ _ (.inr rfl) hr]
  rfl
theorem press_long (v : Vw) (f : Int) (p key : List UInt8) (hp : ¬ p.length ≤ 24) : pressS ⟨1, f, p⟩ v key = (⟨1, f, p⟩, [], 1) := by
  rw [pressS_eq, if_pos]
  unfold pressBad
  have : 24 < p.length := by omega
  simp [this]
theorem conv49 (W : World) (r : Nat) (hr : r ≤ 4) : (convert 55 9 (.slice (some ⟨W.heap.size, 0, none⟩) 1 1)).run Tryz.prog (W.alloc (.cells #[.int .u8 (49 + (r : Int))] 5)) = .ok (.string ⟨#[UInt8.ofNat (49 + r)]⟩) (W.alloc (.cells #[.int .u8 (49 + (r : Int))] 5)) := by
  have hB := Blk.new W #[.int .u8 (49 + (r : Int))] 5
  have hc : ((UInt8.ofNat (49 + r)).toNat : Int) = 49 + (r : Int) := by rw [lines_num r hr]; omega
  have hb : Buf (W.alloc (.cells #[.int .u8 (49 + (r : Int))] 5)) W.heap.size [UInt8.ofNat (49 + r)] := ⟨hB.lt, fun j hj => by
    obtain rfl : j = 0 := by simpa using hj
    rw [hB.cell]
    show some (Value.int .u8 (49 + (r : Int))) = some (.int .u8 ((UInt8.ofNat (49 + r)).toNat : Int))
    rw [hc], fun j hj => hB.frozen j⟩
  exact conv_buf hb 1 rfl
attribute [local go_sem] run_storeN_term SzIs_term Fits_term Ones_term run_eql_term run_neq_term ba_append
set_option maxHeartbeats 16000000 in
theorem lawCopies_any (v : Vw) (d : VAd) (arr : Array Value) (n1 n2 : Int) (h10 : 0 ≤ n1) (h11 : n1 ≤ 255) (h20 : 0 ≤ n2) (h21 : n2 ≤ 255) (w : World) (hv : v.At d arr) (hO : Open58 w) (hok : v.ok w d) :
    Calls Tryz.prog 6 #[.agg arr, .int .u8 n1, .int .u8 n2] w (Ret w (.bool true)) := by
  go_enter Tryz.func6, Tryz.ntmps6
  go_upto_region 1 with (fail)
  have V0 := Blk.new w arr 44
  have B0 := (Below.refl w.heap.size w).alloc (Nat.le_refl _) (.cells arr 44)
  generalize w.alloc _ = W at V0 B0 ⊢
  generalize w.heap.size = gv at V0 ⊢
  go_upto_region 3 with (go_at_call 9; (with_reducible refine callRB (awake58p_any _ (hO.below B0)) ?_); intro w1 B1)
  have V1 := V0.step B1
  have C1 := below_step B0 B1
  clear V0 B0 B1
  have j1 : Has_view w1 gv 0 := ⟨_, V1.is_view hv.size⟩
  have j2 : of_view w1 gv 0 = arr := of_view_eq (V1.is_view hv.size)
  have HS := Lib.hid (small58_any v d arr hv w1)
  cases hs : smallB v
  · rw [hs] at HS
    go_wp2_with (go_at_call 10; (with_reducible refine callRB HS.out ?_); intro w2 B2)
    go_ret
    exact Ret.bool rfl (below_step C1 B2)
  · rw [hs] at HS
    go_upto_region 5 with (go_at_call 10; (with_reducible refine callRB HS.out ?_); intro w2 B2)
    have V2 := V1.step B2
    have C2 := below_step C1 B2
    clear V1 C1 B2 j1 j2 HS hs
    go_upto_region 6 with (fail)
    obtain ⟨f, hf⟩ : ∃ f : Int, n2 % 100 = f := ⟨_, rfl⟩
    obtain ⟨r, hr⟩ : ∃ r : Nat, n1 % 5 = r := ⟨(n1 % 5).toNat, by omega⟩
    have hr4 : r ≤ 4 := by omega
    have hf0 : 0 ≤ f := by omega
    have hf1 : f ≤ 100 := by omega
    rw [hf]
    clear hf
    show Code.wp _ _ _ _ (w2.alloc (.cells (Term.arr ⟨1, f, []⟩) 23))
    have Z3 := (Below.refl w2.heap.size w2).alloc (Nat.le_refl _) (.cells (Term.arr ⟨1, f, []⟩) 23)
    have V3 := V2.step Z3
    have C3 := below_step C2 Z3
    have T3 := Blk.new w2 (Term.arr ⟨1, f, []⟩) 23
    clear V2 C2 Z3
    generalize w2.alloc _ = W3 at V3 C3 T3 ⊢
    generalize w2.heap.size = gt at T3 ⊢
    obtain ⟨ch, hch⟩ : ∃ ch, UInt8.ofNat (49 + r) = ch := ⟨_, rfl⟩
    have cv := conv49 W3 r hr4
    rw [hch] at cv
    go_upto_region 7 with (fail)
    have Z4 := (Below.refl W3.heap.size W3).alloc (Nat.le_refl _) (.cells #[.int .u8 (49 + (r : Int))] 5)
    have V4 := V3.step Z4
    have C4 := below_step C3 Z4
    have T4 := T3.step Z4
    clear V3 C3 T3 Z4 cv
    generalize W3.alloc _ = W4 at V4 C4 T4 ⊢
    obtain ⟨k, hk⟩ : ∃ k : Int, f + (r : Int) = k := ⟨_, rfl⟩
    have hk0 : 0 ≤ k := by omega
    have HL : Hid (∀ p : List UInt8, p.length ≤ 24 → pressS ⟨1, f, p⟩ v [76, ch] = leftS ⟨1, f, p⟩ (shownS v) k) := Lib.hid (fun p hp => by rw [← hch, ← hk]; exact press_left v f hf0 (by omega) r hr4 p hp)
    have HRt : Hid (∀ p : List UInt8, p.length ≤ 24 → pressS ⟨1, f, p⟩ v [82, ch] = rightS ⟨1, f, p⟩ (shownS v) k) := Lib.hid (fun p hp => by rw [← hch, ← hk]; exact press_right v f hf0 (by omega) r hr4 p hp)
    have HX : Hid (∀ (p : List UInt8) (s : UInt8), ¬ p.length ≤ 24 → pressS ⟨1, f, p⟩ v [s, ch] = (⟨1, f, p⟩, [], 1)) := Lib.hid (fun p s hp => press_long v f p _ hp)
    have hsm := hok.shown.1
    have e1 := Term.eqB_self
    clear hch hk hr hr4
    have hO4 := hO.below C4
    have j1 : Has_view W4 gv 0 := ⟨_, V4.is_view hv.size⟩
    have j2 : of_view W4 gv 0 = arr := of_view_eq (V4.is_view hv.size)
    have x4 := T4.has_term
    have x5 := T4.of_term
    have HP := press58_any ⟨1, f, []⟩ v d arr hv [76, ch] W4 hO4.words hO4.laid hO4.err (hok.below C4) (by simp) (Nat.zero_le _)
    rw [HL.out [] (by simp), leftS_copy] at HP
    cases hfx : fixAtS (shownS v) k with
    | none =>
      rw [hfx] at HP
      have HP := Lib.hid HP
      go_upto_region 8 with (go_at_call 11; (with_reducible refine callTR HP.out ?_); intro w5 B5)
      have Z5 := (Below.refl w5.heap.size w5).alloc (Nat.le_refl _) (.cells (Term.arr ⟨1, f, []⟩) 23)
      have D5 := below_step B5 Z5
      have Q5 := Blk.new w5 (Term.arr ⟨1, f, []⟩) 23
      have T5 := T4.step D5
      have V5 := V4.step D5
      have C5 := below_step C4 D5
      clear j1 j2 x4 x5 HP B5 Z5 D5 hO4 V4 T4 C4
      generalize w5.alloc _ = W5 at Q5 T5 V5 C5 ⊢
      generalize w5.heap.size = g5 at Q5 ⊢
      have y1 := Q5.has_term
      have y2 := Q5.of_term
      have y3 := T5.has_term
      have y4 := T5.of_term
      have y5 := Q5.cell
      have HSp : Hid (Calls Tryz.prog 18 #[.string ⟨#[]⟩] W5 (RetQ W5 (.tuple #[.string ⟨#[]⟩, .string ⟨#[]⟩, .int .i64 4]))) := Lib.hid (by
        have h := splitRef_any [] W5 (hO.below C5).laid (by simp)
        rw [show splitRef [] = ([], [], 4) by decide +kernel] at h
        exact h)
      go_upto_region 15 with (go_at_call 18; (with_reducible refine callQ HSp.out ?_); intro nq)
      have D6 : Below W5.heap.size W5 (W5.drewN nq) := below_drewN (Below.refl _ _) _
      have T6 := T5.step D6
      have V6 := V5.step D6
      have C6 := below_step C5 D6
      clear y1 y2 y3 y4 y5 HSp Q5 T5 V5 C5 D6
      generalize W5.drewN nq = W6 at T6 V6 C6 ⊢
      have hO_a := hO.below C6
      have j1 : Has_view W6 gv 0 := ⟨_, V6.is_view hv.size⟩
      have j2 : of_view W6 gv 0 = arr := of_view_eq (V6.is_view hv.size)
      have x4 := T6.has_term
      have x5 := T6.of_term
      have HP := press58_any ⟨1, f, []⟩ v d arr hv [82, ch] W6 hO_a.words hO_a.laid hO_a.err (hok.below C6) (by simp) (Nat.zero_le _)
      rw [HRt.out [] (by simp), rightS_copy] at HP
      cases hlg : legAtS (shownS v) k with
      | none =>
        rw [hlg] at HP
        have HP := Lib.hid HP
        go_upto_region 16 with (go_at_call 11; (with_reducible refine callTR HP.out ?_); intro w7 B7)
        have Z7 := (Below.refl w7.heap.size w7).alloc (Nat.le_refl _) (.cells (Term.arr ⟨1, f, []⟩) 23)
        have D7 := below_step B7 Z7
        have Q7 := Blk.new w7 (Term.arr ⟨1, f, []⟩) 23
        have T7 := T6.step D7
        have C7 := below_step C6 D7
        clear j1 j2 x4 x5 HP B7 Z7 D7
        generalize w7.alloc _ = W7 at Q7 T7 C7 ⊢
        generalize w7.heap.size = g7 at Q7 ⊢
        have y1 := Q7.has_term
        have y2 := Q7.of_term
        have y3 := T7.has_term
        have y4 := T7.of_term
        go_wp2
        go_ret
        exact Ret.bool rfl C7
      | some lg =>
        rw [hlg] at HP
        simp only at HP
        have hw19 : (winT lg.lo lg.hi).1.length ≤ 19 ∧ ((winT lg.lo lg.hi).1 ≠ [] → rightS ⟨1, f, (winT lg.lo lg.hi).1⟩ (shownS v) k = editS ⟨1, f, (winT lg.lo lg.hi).1⟩ [65, 76, 84] k (32 :: (winT lg.lo lg.hi).1)) := by
          by_cases hw : winOk lg.lo lg.hi
          · rw [winT_in hw]
            exact ⟨winS_len19 hw, fun _ => rightS_again hlg hw⟩
          · rw [winT_out hw]
            exact ⟨by simp, fun h => absurd rfl h⟩
        generalize (winT lg.lo lg.hi).1 = wt at HP hw19
        obtain ⟨hw19, hag⟩ := hw19
        have HP := Lib.hid HP
        go_upto_region 16 with (go_at_call 11; (with_reducible refine callTR HP.out ?_); intro w7 B7)
        have Z7 := (Below.refl w7.heap.size w7).alloc (Nat.le_refl _) (.cells (Term.arr ⟨1, f, wt⟩) 23)
        have D7 := below_step B7 Z7
        have Q7 := Blk.new w7 (Term.arr ⟨1, f, wt⟩) 23
        have V7 := V6.step D7
        have C7 := below_step C6 D7
        clear j1 j2 x4 x5 HP B7 Z7 D7
        generalize w7.alloc _ = W7 at Q7 V7 C7 ⊢
        generalize w7.heap.size = g7 at Q7 ⊢
        have y5 := Q7.cell
        by_cases hwe : wt = []
        · subst hwe
          go_wp2
          go_ret
          exact Ret.bool rfl C7
        · have hwe' : (wt == []) = false := by simpa using hwe
          have hwe2 : wt.isEmpty = false := by simpa using hwe
          go_upto_region 20 with (fail)
          replace hag := hag hwe
          have hO7 := hO.below C7
          have j1 : Has_view W7 gv 0 := ⟨_, V7.is_view hv.size⟩
          have j2 : of_view W7 gv 0 = arr := of_view_eq (V7.is_view hv.size)
          have x4 := Q7.has_term
          have x5 := Q7.of_term
          have HP := press58_any ⟨1, f, wt⟩ v d arr hv [82, ch] W7 hO7.words hO7.laid hO7.err (hok.below C7) (by simp) (by show wt.length ≤ _; omega)
          rw [HRt.out wt (by omega), hag] at HP
          rcases editS_cases ⟨1, f, wt⟩ [65, 76, 84] k (32 :: wt) with he | he
          · rw [he] at HP
            have HP := Lib.hid HP
            clear he hag hwe hwe' hwe2
            go_wp2_with (go_at_call 11; (with_reducible refine callTR HP.out ?_); intro w8 B8)
            go_ret
            exact Ret.bool rfl (below_step C7 B8)
          · rw [he] at HP
            obtain ⟨cmd, hcmd⟩ : ∃ cmd, [69, 68, 73, 84, 32] ++ [65, 76, 84] ++ [32] ++ Lib.itoa k ++ (32 :: wt) = cmd := ⟨_, rfl⟩
            have hc1 : 8 < cmd.length := by rw [← hcmd]; simp <;> omega
            have hc2 : cmd.take 8 = [69, 68, 73, 84, 32, 65, 76, 84] := by rw [← hcmd]; rfl
            have hc3 : (8 : Int) < (cmd.length : Int) := by omega
            rw [hcmd] at HP
            have HP := Lib.hid HP
            clear he hag hwe hwe' hwe2 hcmd hc1
            go_wp2_with (go_at_call 11; (with_reducible refine callTR HP.out ?_); intro w8 B8)
            go_ret
            exact Ret.bool rfl (below_step C7 B8)
    | some fx =>
      rw [hfx] at HP
      simp only at HP
      have hfl : fx.length ≤ 4000000000 := by
        unfold fixAtS legAtS at hfx
        cases hx : (shownS v).es[k.toNat]? with
        | none => rw [hx] at hfx; cases hfx
        | some x =>
          rw [hx] at hfx
          have := (hsm.each x (List.mem_of_getElem? hx)).leg.fix
          simp only at hfx
          split at hfx
          · rename_i heq
            split at heq
            · cases heq
            · injection heq with heq
              split at hfx
              · injection hfx with hfx
                rw [← hfx, ← heq]; exact this
              · cases hfx
          · cases hfx
      have hkl := fixAtS_lt hfx hk0
      have HP := Lib.hid HP
      go_upto_region 8 with (go_at_call 11; (with_reducible refine callTR HP.out ?_); intro w5 B5)
      have Z5 := (Below.refl w5.heap.size w5).alloc (Nat.le_refl _) (.cells (Term.arr ⟨1, f, fx⟩) 23)
      have D5 := below_step B5 Z5
      have Q5 := Blk.new w5 (Term.arr ⟨1, f, fx⟩) 23
      have T5 := T4.step D5
      have V5 := V4.step D5
      have C5 := below_step C4 D5
      clear j1 j2 x4 x5 HP B5 Z5 D5 hO4 V4 T4 C4
      generalize w5.alloc _ = W5 at Q5 T5 V5 C5 ⊢
      generalize w5.heap.size = g5 at Q5 ⊢
      have y5 := Q5.cell
      have HSp := splitRef_any fx W5 (hO.below C5).laid hfl
      have hag : (splitRef fx).2.2 = 0 → leftS ⟨1, f, fx⟩ (shownS v) k = editS ⟨1, f, fx⟩ [73, 78, 83, 69, 82, 84] k (32 :: fx) := fun h => leftS_again hkl h
      generalize splitRef fx = sp at HSp hag
      obtain ⟨sa, sb, se⟩ := sp
      simp only at hag
      have HSp := Lib.hid HSp
      by_cases hse : se = 0
      · replace hag := hag hse
        subst hse
        go_upto_region 12 with (go_at_call 18; (with_reducible refine callQ HSp.out ?_); intro nq)
        have D6 : Below W5.heap.size W5 (W5.drewN nq) := below_drewN (Below.refl _ _) _
        have T6 := T5.step D6
        have V6 := V5.step D6
        have Q6 := Q5.step D6
        have C6 := below_step C5 D6
        clear y5 HSp Q5 T5 V5 C5 D6
        generalize W5.drewN nq = W6 at T6 V6 C6 Q6 ⊢
        have hO6 := hO.below C6
        have j1 : Has_view W6 gv 0 := ⟨_, V6.is_view hv.size⟩
        have j2 : of_view W6 gv 0 = arr := of_view_eq (V6.is_view hv.size)
        have x4 := Q6.has_term
        have x5 := Q6.of_term
        have HP := press58_any ⟨1, f, fx⟩ v d arr hv [76, ch] W6 hO6.words hO6.laid hO6.err (hok.below C6) (by simp) hfl
        by_cases h24 : fx.length ≤ 24
        · rw [HL.out fx h24, hag] at HP
          rcases editS_cases ⟨1, f, fx⟩ [73, 78, 83, 69, 82, 84] k (32 :: fx) with he | he
          · rw [he] at HP
            have HP := Lib.hid HP
            have H24 := Lib.hid h24
            clear he hag h24
            go_upto_region 15 with (go_at_call 11; (with_reducible refine callTR HP.out ?_); intro w8 B8; have y9 := (Q6.step B8).cell)
            have T8 := T6.step B8
            have V8 := V6.step B8
            have C8 := below_step C6 B8
            clear j1 j2 x4 x5 HP B8 y9 T6 V6 C6 Q6
            have hO_b := hO.below C8
            have j1 : Has_view w8 gv 0 := ⟨_, V8.is_view hv.size⟩
            have j2 : of_view w8 gv 0 = arr := of_view_eq (V8.is_view hv.size)
            have x4 := T8.has_term
            have x5 := T8.of_term
            have HP := press58_any ⟨1, f, []⟩ v d arr hv [82, ch] w8 hO_b.words hO_b.laid hO_b.err (hok.below C8) (by simp) (Nat.zero_le _)
            rw [HRt.out [] (by simp), rightS_copy] at HP
            cases hlg : legAtS (shownS v) k with
            | none =>
              rw [hlg] at HP
              have HP := Lib.hid HP
              go_upto_region 16 with (go_at_call 11; (with_reducible refine callTR HP.out ?_); intro w7 B7)
              have Z7 := (Below.refl w7.heap.size w7).alloc (Nat.le_refl _) (.cells (Term.arr ⟨1, f, []⟩) 23)
              have D7 := below_step B7 Z7
              have Q7 := Blk.new w7 (Term.arr ⟨1, f, []⟩) 23
              have T7 := T8.step D7
              have C7 := below_step C8 D7
              clear j1 j2 x4 x5 HP B7 Z7 D7
              generalize w7.alloc _ = W7 at Q7 T7 C7 ⊢
              generalize w7.heap.size = g7 at Q7 ⊢
              have y1 := Q7.has_term
              have y2 := Q7.of_term
              have y3 := T7.has_term
              have y4 := T7.of_term
              go_wp2
              go_ret
              exact Ret.bool rfl C7
            | some lg =>
              rw [hlg] at HP
              simp only at HP
              have hw19 : (winT lg.lo lg.hi).1.length ≤ 19 ∧ ((winT lg.lo lg.hi).1 ≠ [] → rightS ⟨1, f, (winT lg.lo lg.hi).1⟩ (shownS v) k = editS ⟨1, f, (winT lg.lo lg.hi).1⟩ [65, 76, 84] k (32 :: (winT lg.lo lg.hi).1)) := by
                by_cases hw : winOk lg.lo lg.hi
                · rw [winT_in hw]
                  exact ⟨winS_len19 hw, fun _ => rightS_again hlg hw⟩
                · rw [winT_out hw]
                  exact ⟨by simp, fun h => absurd rfl h⟩
              generalize (winT lg.lo lg.hi).1 = wt at HP hw19
              obtain ⟨hw19, hag⟩ := hw19
              have HP := Lib.hid HP
              go_upto_region 16 with (go_at_call 11; (with_reducible refine callTR HP.out ?_); intro w7 B7)
              have Z7 := (Below.refl w7.heap.size w7).alloc (Nat.le_refl _) (.cells (Term.arr ⟨1, f, wt⟩) 23)
              have D7 := below_step B7 Z7
              have Q7 := Blk.new w7 (Term.arr ⟨1, f, wt⟩) 23
              have V7 := V8.step D7
              have C7 := below_step C8 D7
              clear j1 j2 x4 x5 HP B7 Z7 D7
              generalize w7.alloc _ = W7 at Q7 V7 C7 ⊢
              generalize w7.heap.size = g7 at Q7 ⊢
              have y5 := Q7.cell
              by_cases hwe : wt = []
              · subst hwe
                go_wp2
                go_ret
                exact Ret.bool rfl C7
              · have hwe' : (wt == []) = false := by simpa using hwe
                have hwe2 : wt.isEmpty = false := by simpa using hwe
                go_upto_region 20 with (fail)
                replace hag := hag hwe
                have hO7 := hO.below C7
                have j1 : Has_view W7 gv 0 := ⟨_, V7.is_view hv.size⟩
                have j2 : of_view W7 gv 0 = arr := of_view_eq (V7.is_view hv.size)
                have x4 := Q7.has_term
                have x5 := Q7.of_term
                have HP := press58_any ⟨1, f, wt⟩ v d arr hv [82, ch] W7 hO7.words hO7.laid hO7.err (hok.below C7) (by simp) (by show wt.length ≤ _; omega)
                rw [HRt.out wt (by omega), hag] at HP
                rcases editS_cases ⟨1, f, wt⟩ [65, 76, 84] k (32 :: wt) with he | he
                · rw [he] at HP
                  have HP := Lib.hid HP
                  clear he hag hwe hwe' hwe2
                  go_wp2_with (go_at_call 11; (with_reducible refine callTR HP.out ?_); intro w8 B8)
                  go_ret
                  exact Ret.bool rfl (below_step C7 B8)
                · rw [he] at HP
                  obtain ⟨cmd, hcmd⟩ : ∃ cmd, [69, 68, 73, 84, 32] ++ [65, 76, 84] ++ [32] ++ Lib.itoa k ++ (32 :: wt) = cmd := ⟨_, rfl⟩
                  have hc1 : 8 < cmd.length := by rw [← hcmd]; simp <;> omega
                  have hc2 : cmd.take 8 = [69, 68, 73, 84, 32, 65, 76, 84] := by rw [← hcmd]; rfl
                  have hc3 : (8 : Int) < (cmd.length : Int) := by omega
                  rw [hcmd] at HP
                  have HP := Lib.hid HP
                  clear he hag hwe hwe' hwe2 hcmd hc1
                  go_wp2_with (go_at_call 11; (with_reducible refine callTR HP.out ?_); intro w8 B8)
                  go_ret
                  exact Ret.bool rfl (below_step C7 B8)
          · rw [he] at HP
            obtain ⟨cm, hcm⟩ : ∃ cm, [69, 68, 73, 84, 32] ++ [73, 78, 83, 69, 82, 84] ++ [32] ++ Lib.itoa k ++ (32 :: fx) = cm := ⟨_, rfl⟩
            have hd1 : 11 ≤ cm.length := by rw [← hcm]; simp <;> omega
            have hd2 : cm.take 11 = [69, 68, 73, 84, 32, 73, 78, 83, 69, 82, 84] := by rw [← hcm]; rfl
            have hd3 : ¬ (cm.length : Int) < 11 := by omega
            rw [hcm] at HP
            have HP := Lib.hid HP
            clear he hag h24 hcm
            go_upto_region 15 with (go_at_call 11; (with_reducible refine callTR HP.out ?_); intro w8 B8; have y9 := (Q6.step B8).cell)
            have T8 := T6.step B8
            have V8 := V6.step B8
            have C8 := below_step C6 B8
            clear j1 j2 x4 x5 HP B8 y9 T6 V6 C6 Q6 hd1 hd2 hd3
            have hO_c := hO.below C8
            have j1 : Has_view w8 gv 0 := ⟨_, V8.is_view hv.size⟩
            have j2 : of_view w8 gv 0 = arr := of_view_eq (V8.is_view hv.size)
            have x4 := T8.has_term
            have x5 := T8.of_term
            have HP := press58_any ⟨1, f, []⟩ v d arr hv [82, ch] w8 hO_c.words hO_c.laid hO_c.err (hok.below C8) (by simp) (Nat.zero_le _)
            rw [HRt.out [] (by simp), rightS_copy] at HP
            cases hlg : legAtS (shownS v) k with
            | none =>
              rw [hlg] at HP
              have HP := Lib.hid HP
              go_upto_region 16 with (go_at_call 11; (with_reducible refine callTR HP.out ?_); intro w7 B7)
              have Z7 := (Below.refl w7.heap.size w7).alloc (Nat.le_refl _) (.cells (Term.arr ⟨1, f, []⟩) 23)
              have D7 := below_step B7 Z7
              have Q7 := Blk.new w7 (Term.arr ⟨1, f, []⟩) 23
              have T7 := T8.step D7
              have C7 := below_step C8 D7
              clear j1 j2 x4 x5 HP B7 Z7 D7
              generalize w7.alloc _ = W7 at Q7 T7 C7 ⊢
              generalize w7.heap.size = g7 at Q7 ⊢
              have y1 := Q7.has_term
              have y2 := Q7.of_term
              have y3 := T7.has_term
              have y4 := T7.of_term
              go_wp2
              go_ret
              exact Ret.bool rfl C7
            | some lg =>
              rw [hlg] at HP
              simp only at HP
              have hw19 : (winT lg.lo lg.hi).1.length ≤ 19 ∧ ((winT lg.lo lg.hi).1 ≠ [] → rightS ⟨1, f, (winT lg.lo lg.hi).1⟩ (shownS v) k = editS ⟨1, f, (winT lg.lo lg.hi).1⟩ [65, 76, 84] k (32 :: (winT lg.lo lg.hi).1)) := by
                by_cases hw : winOk lg.lo lg.hi
                · rw [winT_in hw]
                  exact ⟨winS_len19 hw, fun _ => rightS_again hlg hw⟩
                · rw [winT_out hw]
                  exact ⟨by simp, fun h => absurd rfl h⟩
              generalize (winT lg.lo lg.hi).1 = wt at HP hw19
              obtain ⟨hw19, hag⟩ := hw19
              have HP := Lib.hid HP
              go_upto_region 16 with (go_at_call 11; (with_reducible refine callTR HP.out ?_); intro w7 B7)
              have Z7 := (Below.refl w7.heap.size w7).alloc (Nat.le_refl _) (.cells (Term.arr ⟨1, f, wt⟩) 23)
              have D7 := below_step B7 Z7
              have Q7 := Blk.new w7 (Term.arr ⟨1, f, wt⟩) 23
              have V7 := V8.step D7
              have C7 := below_step C8 D7
              clear j1 j2 x4 x5 HP B7 Z7 D7
              generalize w7.alloc _ = W7 at Q7 V7 C7 ⊢
              generalize w7.heap.size = g7 at Q7 ⊢
              have y5 := Q7.cell
              by_cases hwe : wt = []
              · subst hwe
                go_wp2
                go_ret
                exact Ret.bool rfl C7
              · have hwe' : (wt == []) = false := by simpa using hwe
                have hwe2 : wt.isEmpty = false := by simpa using hwe
                go_upto_region 20 with (fail)
                replace hag := hag hwe
                have hO7 := hO.below C7
                have j1 : Has_view W7 gv 0 := ⟨_, V7.is_view hv.size⟩
                have j2 : of_view W7 gv 0 = arr := of_view_eq (V7.is_view hv.size)
                have x4 := Q7.has_term
                have x5 := Q7.of_term
                have HP := press58_any ⟨1, f, wt⟩ v d arr hv [82, ch] W7 hO7.words hO7.laid hO7.err (hok.below C7) (by simp) (by show wt.length ≤ _; omega)
                rw [HRt.out wt (by omega), hag] at HP
                rcases editS_cases ⟨1, f, wt⟩ [65, 76, 84] k (32 :: wt) with he | he
                · rw [he] at HP
                  have HP := Lib.hid HP
                  clear he hag hwe hwe' hwe2
                  go_wp2_with (go_at_call 11; (with_reducible refine callTR HP.out ?_); intro w8 B8)
                  go_ret
                  exact Ret.bool rfl (below_step C7 B8)
                · rw [he] at HP
                  obtain ⟨cmd, hcmd⟩ : ∃ cmd, [69, 68, 73, 84, 32] ++ [65, 76, 84] ++ [32] ++ Lib.itoa k ++ (32 :: wt) = cmd := ⟨_, rfl⟩
                  have hc1 : 8 < cmd.length := by rw [← hcmd]; simp <;> omega
                  have hc2 : cmd.take 8 = [69, 68, 73, 84, 32, 65, 76, 84] := by rw [← hcmd]; rfl
                  have hc3 : (8 : Int) < (cmd.length : Int) := by omega
                  rw [hcmd] at HP
                  have HP := Lib.hid HP
                  clear he hag hwe hwe' hwe2 hcmd hc1
                  go_wp2_with (go_at_call 11; (with_reducible refine callTR HP.out ?_); intro w8 B8)
                  go_ret
                  exact Ret.bool rfl (below_step C7 B8)
        · rw [HX.out fx 76 h24] at HP
          have HP := Lib.hid HP
          have h24' : ¬ (fx.length : Int) ≤ 24 := by omega
          clear hag h24
          go_upto_region 15 with (go_at_call 11; (with_reducible refine callTR HP.out ?_); intro w8 B8; have y9 := (Q6.step B8).cell)
          have T8 := T6.step B8
          have V8 := V6.step B8
          have C8 := below_step C6 B8
          clear j1 j2 x4 x5 HP B8 y9 T6 V6 C6 Q6 h24'
          have hO_d := hO.below C8
          have j1 : Has_view w8 gv 0 := ⟨_, V8.is_view hv.size⟩
          have j2 : of_view w8 gv 0 = arr := of_view_eq (V8.is_view hv.size)
          have x4 := T8.has_term
          have x5 := T8.of_term
          have HP := press58_any ⟨1, f, []⟩ v d arr hv [82, ch] w8 hO_d.words hO_d.laid hO_d.err (hok.below C8) (by simp) (Nat.zero_le _)
          rw [HRt.out [] (by simp), rightS_copy] at HP
          cases hlg : legAtS (shownS v) k with
          | none =>
            rw [hlg] at HP
            have HP := Lib.hid HP
            go_upto_region 16 with (go_at_call 11; (with_reducible refine callTR HP.out ?_); intro w7 B7)
            have Z7 := (Below.refl w7.heap.size w7).alloc (Nat.le_refl _) (.cells (Term.arr ⟨1, f, []⟩) 23)
            have D7 := below_step B7 Z7
            have Q7 := Blk.new w7 (Term.arr ⟨1, f, []⟩) 23
            have T7 := T8.step D7
            have C7 := below_step C8 D7
            clear j1 j2 x4 x5 HP B7 Z7 D7
            generalize w7.alloc _ = W7 at Q7 T7 C7 ⊢
            generalize w7.heap.size = g7 at Q7 ⊢
            have y1 := Q7.has_term
            have y2 := Q7.of_term
            have y3 := T7.has_term
            have y4 := T7.of_term
            go_wp2
            go_ret
            exact Ret.bool rfl C7
          | some lg =>
            rw [hlg] at HP
            simp only at HP
            have hw19 : (winT lg.lo lg.hi).1.length ≤ 19 ∧ ((winT lg.lo lg.hi).1 ≠ [] → rightS ⟨1, f, (winT lg.lo lg.hi).1⟩ (shownS v) k = editS ⟨1, f, (winT lg.lo lg.hi).1⟩ [65, 76, 84] k (32 :: (winT lg.lo lg.hi).1)) := by
              by_cases hw : winOk lg.lo lg.hi
              · rw [winT_in hw]
                exact ⟨winS_len19 hw, fun _ => rightS_again hlg hw⟩
              · rw [winT_out hw]
                exact ⟨by simp, fun h => absurd rfl h⟩
            generalize (winT lg.lo lg.hi).1 = wt at HP hw19
            obtain ⟨hw19, hag⟩ := hw19
            have HP := Lib.hid HP
            go_upto_region 16 with (go_at_call 11; (with_reducible refine callTR HP.out ?_); intro w7 B7)
            have Z7 := (Below.refl w7.heap.size w7).alloc (Nat.le_refl _) (.cells (Term.arr ⟨1, f, wt⟩) 23)
            have D7 := below_step B7 Z7
            have Q7 := Blk.new w7 (Term.arr ⟨1, f, wt⟩) 23
            have V7 := V8.step D7
            have C7 := below_step C8 D7
            clear j1 j2 x4 x5 HP B7 Z7 D7
            generalize w7.alloc _ = W7 at Q7 V7 C7 ⊢
            generalize w7.heap.size = g7 at Q7 ⊢
            have y5 := Q7.cell
            by_cases hwe : wt = []
            · subst hwe
              go_wp2
              go_ret
              exact Ret.bool rfl C7
            · have hwe' : (wt == []) = false := by simpa using hwe
              have hwe2 : wt.isEmpty = false := by simpa using hwe
              go_upto_region 20 with (fail)
              replace hag := hag hwe
              have hO7 := hO.below C7
              have j1 : Has_view W7 gv 0 := ⟨_, V7.is_view hv.size⟩
              have j2 : of_view W7 gv 0 = arr := of_view_eq (V7.is_view hv.size)
              have x4 := Q7.has_term
              have x5 := Q7.of_term
              have HP := press58_any ⟨1, f, wt⟩ v d arr hv [82, ch] W7 hO7.words hO7.laid hO7.err (hok.below C7) (by simp) (by show wt.length ≤ _; omega)
              rw [HRt.out wt (by omega), hag] at HP
              rcases editS_cases ⟨1, f, wt⟩ [65, 76, 84] k (32 :: wt) with he | he
              · rw [he] at HP
                have HP := Lib.hid HP
                clear he hag hwe hwe' hwe2
                go_wp2_with (go_at_call 11; (with_reducible refine callTR HP.out ?_); intro w8 B8)
                go_ret
                exact Ret.bool rfl (below_step C7 B8)
              · rw [he] at HP
                obtain ⟨cmd, hcmd⟩ : ∃ cmd, [69, 68, 73, 84, 32] ++ [65, 76, 84] ++ [32] ++ Lib.itoa k ++ (32 :: wt) = cmd := ⟨_, rfl⟩
                have hc1 : 8 < cmd.length := by rw [← hcmd]; simp <;> omega
                have hc2 : cmd.take 8 = [69, 68, 73, 84, 32, 65, 76, 84] := by rw [← hcmd]; rfl
                have hc3 : (8 : Int) < (cmd.length : Int) := by omega
                rw [hcmd] at HP
                have HP := Lib.hid HP
                clear he hag hwe hwe' hwe2 hcmd hc1
                go_wp2_with (go_at_call 11; (with_reducible refine callTR HP.out ?_); intro w8 B8)
                go_ret
                exact Ret.bool rfl (below_step C7 B8)
      · have hse' : (se == 0) = false := by simpa using hse
        clear hag hse
        go_upto_region 15 with (go_at_call 18; (with_reducible refine callQ HSp.out ?_); intro nq)
        have D6 : Below W5.heap.size W5 (W5.drewN nq) := below_drewN (Below.refl _ _) _
        have T6 := T5.step D6
        have V6 := V5.step D6
        have C6 := below_step C5 D6
        clear y5 HSp Q5 T5 V5 C5 D6
        generalize W5.drewN nq = W6 at T6 V6 C6 ⊢
        have hO_e := hO.below C6
        have j1 : Has_view W6 gv 0 := ⟨_, V6.is_view hv.size⟩
        have j2 : of_view W6 gv 0 = arr := of_view_eq (V6.is_view hv.size)
        have x4 := T6.has_term
        have x5 := T6.of_term
        have HP := press58_any ⟨1, f, []⟩ v d arr hv [82, ch] W6 hO_e.words hO_e.laid hO_e.err (hok.below C6) (by simp) (Nat.zero_le _)
        rw [HRt.out [] (by simp), rightS_copy] at HP
        cases hlg : legAtS (shownS v) k with
        | none =>
          rw [hlg] at HP
          have HP := Lib.hid HP
          go_upto_region 16 with (go_at_call 11; (with_reducible refine callTR HP.out ?_); intro w7 B7)
          have Z7 := (Below.refl w7.heap.size w7).alloc (Nat.le_refl _) (.cells (Term.arr ⟨1, f, []⟩) 23)
          have D7 := below_step B7 Z7
          have Q7 := Blk.new w7 (Term.arr ⟨1, f, []⟩) 23
          have T7 := T6.step D7
          have C7 := below_step C6 D7
          clear j1 j2 x4 x5 HP B7 Z7 D7
          generalize w7.alloc _ = W7 at Q7 T7 C7 ⊢
          generalize w7.heap.size = g7 at Q7 ⊢
          have y1 := Q7.has_term
          have y2 := Q7.of_term
          have y3 := T7.has_term
          have y4 := T7.of_term
          go_wp2
          go_ret
          exact Ret.bool rfl C7
        | some lg =>
          rw [hlg] at HP
          simp only at HP
          have hw19 : (winT lg.lo lg.hi).1.length ≤ 19 ∧ ((winT lg.lo lg.hi).1 ≠ [] → rightS ⟨1, f, (winT lg.lo lg.hi).1⟩ (shownS v) k = editS ⟨1, f, (winT lg.lo lg.hi).1⟩ [65, 76, 84] k (32 :: (winT lg.lo lg.hi).1)) := by
            by_cases hw : winOk lg.lo lg.hi
            · rw [winT_in hw]
              exact ⟨winS_len19 hw, fun _ => rightS_again hlg hw⟩
            · rw [winT_out hw]
              exact ⟨by simp, fun h => absurd rfl h⟩
          generalize (winT lg.lo lg.hi).1 = wt at HP hw19
          obtain ⟨hw19, hag⟩ := hw19
          have HP := Lib.hid HP
          go_upto_region 16 with (go_at_call 11; (with_reducible refine callTR HP.out ?_); intro w7 B7)
          have Z7 := (Below.refl w7.heap.size w7).alloc (Nat.le_refl _) (.cells (Term.arr ⟨1, f, wt⟩) 23)
          have D7 := below_step B7 Z7
          have Q7 := Blk.new w7 (Term.arr ⟨1, f, wt⟩) 23
          have V7 := V6.step D7
          have C7 := below_step C6 D7
          clear j1 j2 x4 x5 HP B7 Z7 D7
          generalize w7.alloc _ = W7 at Q7 V7 C7 ⊢
          generalize w7.heap.size = g7 at Q7 ⊢
          have y5 := Q7.cell
          by_cases hwe : wt = []
          · subst hwe
            go_wp2
            go_ret
            exact Ret.bool rfl C7
          · have hwe' : (wt == []) = false := by simpa using hwe
            have hwe2 : wt.isEmpty = false := by simpa using hwe
            go_upto_region 20 with (fail)
            replace hag := hag hwe
            have hO7 := hO.below C7
            have j1 : Has_view W7 gv 0 := ⟨_, V7.is_view hv.size⟩
            have j2 : of_view W7 gv 0 = arr := of_view_eq (V7.is_view hv.size)
            have x4 := Q7.has_term
            have x5 := Q7.of_term
            have HP := press58_any ⟨1, f, wt⟩ v d arr hv [82, ch] W7 hO7.words hO7.laid hO7.err (hok.below C7) (by simp) (by show wt.length ≤ _; omega)
            rw [HRt.out wt (by omega), hag] at HP
            rcases editS_cases ⟨1, f, wt⟩ [65, 76, 84] k (32 :: wt) with he | he
            · rw [he] at HP
              have HP := Lib.hid HP
              clear he hag hwe hwe' hwe2
              go_wp2_with (go_at_call 11; (with_reducible refine callTR HP.out ?_); intro w8 B8)
              go_ret
              exact Ret.bool rfl (below_step C7 B8)
            · rw [he] at HP
              obtain ⟨cmd, hcmd⟩ : ∃ cmd, [69, 68, 73, 84, 32] ++ [65, 76, 84] ++ [32] ++ Lib.itoa k ++ (32 :: wt) = cmd := ⟨_, rfl⟩
              have hc1 : 8 < cmd.length := by rw [← hcmd]; simp <;> omega
              have hc2 : cmd.take 8 = [69, 68, 73, 84, 32, 65, 76, 84] := by rw [← hcmd]; rfl
              have hc3 : (8 : Int) < (cmd.length : Int) := by omega
              rw [hcmd] at HP
              have HP := Lib.hid HP
              clear he hag hwe hwe' hwe2 hcmd hc1
              go_wp2_with (go_at_call 11; (with_reducible refine callTR HP.out ?_); intro w8 B8)
              go_ret
              exact Ret.bool rfl (below_step C7 B8)
end Go.Proofs.YtijfmfdnagjlpaaGreatDoor
