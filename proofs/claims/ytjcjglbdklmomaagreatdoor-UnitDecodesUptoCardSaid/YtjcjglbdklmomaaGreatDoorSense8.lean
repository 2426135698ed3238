/- Layer 57: the scanner's numbers. -/
import Derived.Test.YtjcjglbdklmomaaGreatDoorSense7
namespace Go.Proofs.YtjcjglbdklmomaaGreatDoor
open Go.RowKit
set_option linter.unusedVariables false
set_option linter.unusedSimpArgs false
def RetS (B : Nat) (w : World) (g : Nat) (v : Value) (st : Scan) (e : Ending) (w' : World) : Prop := e = .returned v ∧ Scn B w' g st ∧ Touch [g] w w'
theorem RetS.int {w w' : World} {B g : Nat} {k : IntKind} {a b : Int} {st : Scan} (h : a = b) (h1 : Scn B w' g st) (h2 : Touch [g] w w') : RetS B w g (.int k b) st (.returned (.int k a)) w' := ⟨by rw [h], h1, h2⟩
theorem tk_len (n : Nat) (st : Scan) : (tk n st).1.length = n := by
  unfold tk; split
  · simp
  · simp; omega
theorem head_one (l : List UInt8) (h : l.length = 1) : l.headD 0 = l[0]'(by omega) := by
  match l, h with
  | [x], _ => rfl
theorem wrap_i64s {N : Int} (h0 : 0 ≤ N) (h1 : N < 18446744073709551616) : wrap64 N = s64 N := by
  unfold wrap64 s64; split <;> omega
theorem wrap_i32s {N : Int} (h0 : 0 ≤ N) (h1 : N < 4294967296) : wrap64 (wrap32 N) = s32 N := by
  unfold wrap64 wrap32 s32; split <;> omega
theorem s32_in (N : Int) (h0 : 0 ≤ N) (h1 : N < 4294967296) : -2147483648 ≤ s32 N ∧ s32 N < 2147483648 := by unfold s32; split <;> omega
set_option maxHeartbeats 2000000 in
set_option maxRecDepth 100000 in
theorem one_any (B g : Nat) (st : Scan) (w : World) (h : Scn B w g st) : Calls Tryz.prog 18 #[.pointer (some ⟨g, 0, none⟩)] w (RetS B w g (.int .u8 (oneS st).1.toNat) (oneS st).2) := by
  go_enter Tryz.func18, Tryz.ntmps18
  go_wp2_with fail
  refine (take_any 1 (.inl rfl) B g st w h).mono ?_
  rintro e w1 ⟨A, c, rfl, hc, hR, hS, hT⟩
  have hl := tk_len 1 st
  obtain ⟨b, off, rfl, hb, he⟩ := hR.get (k := 0) (by omega)
  have e0 : w1.cell? ⟨b, off, none⟩ = some (.int .u8 ((tk 1 st).1[0]'(by omega)).toNat) := he 0 (by omega)
  have HX := Lib.hid (show (oneS st).1 = (tk 1 st).1[0]'(by omega) by unfold oneS; exact head_one _ hl)
  have HS := Lib.hid hS
  clear he hR hS
  generalize (tk 1 st).1[0]'(by omega) = x at e0 HX
  go_wp2
  go_ret
  exact RetS.int (by rw [HX.out]) HS.out hT
set_option maxHeartbeats 2000000 in
set_option maxRecDepth 100000 in
theorem sbig_any (B g : Nat) (st : Scan) (w : World) (h : Scn B w g st) : Calls Tryz.prog 19 #[.pointer (some ⟨g, 0, none⟩)] w (RetS B w g (.int .i64 (bigS st).1) (bigS st).2) := by
  go_enter Tryz.func19, Tryz.ntmps19
  go_wp2_with fail
  refine (take_any 8 (.inr (.inr rfl)) B g st w h).mono ?_
  rintro e w1 ⟨A, c, rfl, hc, hR, hS, hT⟩
  have hl := tk_len 8 st
  have hc1 := unumber_any A (tk 8 st).1 c _ w1 hR (by omega) (by omega)
  rw [hl] at hc1
  have HS := Lib.hid hS
  have HB := Lib.hid (numB_bound (tk 8 st).1)
  have HC := Lib.hid hc1
  clear hS hR hl hc1
  go_wp2_with fail
  refine callP HC.out ?_
  go_wp2
  go_ret
  refine RetS.int ?_ HS.out hT
  have hb := HB.out
  rw [tk_len] at hb
  exact wrap_i64s hb.1 hb.2
set_option maxHeartbeats 2000000 in
set_option maxRecDepth 100000 in
theorem small_any (B g : Nat) (st : Scan) (w : World) (h : Scn B w g st) : Calls Tryz.prog 20 #[.pointer (some ⟨g, 0, none⟩)] w (RetS B w g (.int .i64 (smallS st).1) (smallS st).2) := by
  go_enter Tryz.func20, Tryz.ntmps20
  go_wp2_with fail
  refine (take_any 4 (.inr (.inl rfl)) B g st w h).mono ?_
  rintro e w1 ⟨A, c, rfl, hc, hR, hS, hT⟩
  have hl := tk_len 4 st
  have hc1 := unumber_any A (tk 4 st).1 c _ w1 hR (by omega) (by omega)
  rw [hl] at hc1
  have HS := Lib.hid hS
  have HB := Lib.hid (numB_bound (tk 4 st).1)
  have HC := Lib.hid hc1
  clear hS hR hl hc1
  go_wp2_with fail
  refine callP HC.out ?_
  go_wp2
  go_ret
  refine RetS.int ?_ HS.out hT
  have hb := HB.out
  rw [tk_len] at hb
  exact wrap_i32s hb.1 hb.2
/-- slices.Equal on bytes. -/
theorem eq_drop (l m : List UInt8) (k : Nat) (h : k < l.length) (hm : l.length = m.length) : (decide (l.drop k = m.drop k) : Bool) = (decide (l[k] = m[k]'(by omega)) && decide (l.drop (k+1) = m.drop (k+1))) := by
  rw [Bool.eq_iff_iff, decide_eq_true_iff, Bool.and_eq_true, decide_eq_true_iff, decide_eq_true_iff, List.drop_eq_getElem_cons h, List.drop_eq_getElem_cons (show k < m.length by omega), List.cons.injEq]
theorem u8_dec (x y : UInt8) (b : Bool) (h : ((x.toNat : Int) == (y.toNat : Int)) = b) : decide (x = y) = b := by
  subst h
  rw [Bool.eq_iff_iff, decide_eq_true_iff, beq_iff_eq]
  constructor
  · rintro rfl; rfl
  · intro e; exact UInt8.toNat_inj.1 (by omega)
set_option maxHeartbeats 2000000 in
set_option maxRecDepth 100000 in
theorem sleq_any (A A2 : Option Addr) (l m : List UInt8) (c c2 G G2 : Nat) (w : World) (hR : Rd w G A l) (hS : Rd w G2 A2 m) (h1 : l.length ≤ c) (h2 : m.length ≤ c2) (h3 : l.length ≤ 4000000000) (h4 : m.length ≤ 4000000000) :
    Calls Tryz.prog 23 #[.slice A l.length c, .slice A2 m.length c2] w (RetQ w (.bool (decide (l = m)))) := by
  by_cases hl : l.length = m.length
  case neg =>
    have hne : ¬ l = m := fun e => hl (by rw [e])
    have hd : ((l.length : Int) == (m.length : Int)) = false := by simp; omega
    go_enter Tryz.func23, Tryz.ntmps23
    go_wp2
    go_ret
    exact RetQ.bool (by simp [hne]) ⟨0, rfl⟩
  have hd : ((l.length : Int) == (m.length : Int)) = true := by simp; omega
  have HL := Lib.hid hl; clear hl
  have hL2 : (l.length : Int) ≤ m.length := by have := HL.out; omega
  go_enter Tryz.func23, Tryz.ntmps23
  go_wp2
  go_loopw [13] (fun i wr => ∃ (k n : Nat), k ≤ l.length ∧ i = .int .i64 k ∧ wr = w.drewN n ∧ decide (l = m) = decide (l.drop k = m.drop k)) (fun i _ => l.length - (intOf i).toNat)
  case atStart => exact ⟨0, 0, by omega, rfl, rfl, rfl⟩
  case round =>
    obtain ⟨k, n, hk, rfl, rfl, hq⟩ := hrel
    have HQ := Lib.hid hq; clear hq
    by_cases hlt : k < l.length
    · have hltm : k < m.length := by have := HL.out; omega
      obtain ⟨b, off, hA, hb, he⟩ := hR.get hlt
      obtain ⟨b2, off2, hA2, hb2, he2⟩ := hS.get hltm
      subst hA; subst hA2
      have hd2 := Lib.hid (eq_drop l m k hlt HL.out)
      have e1 := he k hlt
      have e2 := he2 k hltm
      clear he he2 hR hS
      unfold bval at e1 e2
      generalize l[k] = x at e1 hd2
      generalize m[k] = y at e2 hd2
      obtain ⟨t, ht⟩ : ∃ t, ((x.toNat : Int) == (y.toNat : Int)) = t := ⟨_, rfl⟩
      have HT := Lib.hid (u8_dec x y t ht)
      go_upto_region 6 with (fail)
      go_quiet (fail)
      cases t
      · go_wp2
        go_ret
        exact RetQ.bool (by rw [HQ.out, hd2.out, HT.out]; rfl) ⟨_, World.drewN_drewN _ _ _⟩
      · go_wp2
        go_roundw
        case rel => exact ⟨k + 1, _, by omega, by go_num, rfl, by rw [HQ.out, hd2.out, HT.out, Bool.true_and]⟩
        case measure => simp [intOf]; omega
    · go_wp2
      go_ret
      exact RetQ.bool (by rw [HQ.out, List.drop_of_length_le (by omega), List.drop_of_length_le (by have := HL.out; omega)]; rfl) ⟨_, rfl⟩
end Go.Proofs.YtjcjglbdklmomaaGreatDoor
