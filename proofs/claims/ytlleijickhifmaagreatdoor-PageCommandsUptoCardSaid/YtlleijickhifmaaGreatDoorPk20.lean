/- Altitudes, windows and distances read: record.altitude, window, ParseWindow, ParseDist; leg.dist, leg.speed, leg.ref. -/
import Derived.Test.YtlleijickhifmaaGreatDoorPk17
import Derived.Lib.AtoiErrMem
namespace Go.Proofs.YtlleijickhifmaaGreatDoor
open Go.RowKit Go.Sort
set_option linter.unusedVariables false
set_option linter.unusedSimpArgs false
set_option maxRecDepth 100000
theorem trimPre (c : UInt8) (l : List UInt8) : Lib.trimPrefix l [c] = (cutPre c l).1 ∧ Lib.hasPrefix l [c] = (cutPre c l).2 := by
  cases l with
  | nil => exact ⟨rfl, rfl⟩
  | cons x r =>
    by_cases h : x = c
    · subst h; simp [Lib.trimPrefix, Lib.hasPrefix, cutPre]
    · have h' : ¬ c = x := fun e => h e.symm
      simp [Lib.trimPrefix, Lib.hasPrefix, cutPre, h, h', List.isPrefixOf]
theorem hasSuf (c : UInt8) (l : List UInt8) : Lib.hasSuffix l [c] = decide (l.getLast? = some c) := by
  unfold Lib.hasSuffix
  rw [Bool.eq_iff_iff, List.isSuffixOf_iff_suffix, decide_eq_true_eq]
  constructor
  · rintro ⟨t, rfl⟩; simp
  · intro h
    obtain ⟨t, rfl⟩ := List.getLast?_eq_some_iff.1 h
    exact ⟨t, rfl⟩
theorem trimSuf (c : UInt8) (l : List UInt8) : Lib.trimSuffix l [c] = (cutSuf c l).1 ∧ Lib.hasSuffix l [c] = (cutSuf c l).2 := by
  unfold Lib.trimSuffix cutSuf
  rw [hasSuf]
  by_cases h : l.getLast? = some c
  · simp [h, List.dropLast_eq_take]
  · simp [h]
theorem cutPrefix_any (c : UInt8) (l : List UInt8) (w : World) : Calls Tryz.prog 49 #[.string ⟨l.toArray⟩, .string ⟨#[c]⟩] w (RetP w (.tuple #[.string ⟨(cutPre c l).1.toArray⟩, .bool (cutPre c l).2])) := by
  have h := Tryz.strings_CutPrefix ⟨l.toArray⟩ ⟨#[c]⟩ w
  simp only [(trimPre c l).1, (trimPre c l).2] at h
  exact h.mono fun e w' ⟨h1, h2⟩ => ⟨h1, h2.symm⟩
theorem cutSuffix_any (c : UInt8) (l : List UInt8) (w : World) (hl : l.length ≤ 4611686018427387904) : Calls Tryz.prog 90 #[.string ⟨l.toArray⟩, .string ⟨#[c]⟩] w (RetP w (.tuple #[.string ⟨(cutSuf c l).1.toArray⟩, .bool (cutSuf c l).2])) := by
  have h := Tryz.strings_CutSuffix ⟨l.toArray⟩ ⟨#[c]⟩ w (by simp [ByteArray.size]; omega)
  simp only [(trimSuf c l).1, (trimSuf c l).2] at h
  exact h.mono fun e w' ⟨h1, h2⟩ => ⟨h1, h2.symm⟩
/-- strconv.ParseInt of up to 18 digits. -/
theorem parseInt_any (l : List UInt8) (w : World) (hp : plainB l = true) (hl : l.length ≤ 18) : Calls Tryz.prog 33 #[.string ⟨l.toArray⟩, .int .i64 10, .int .i64 64] w (Ret w (.tuple #[.int .i64 (val l : Nat), .nilIface])) := by
  have hv := val_lt l (plainB_all hp)
  have h2 : 10 ^ l.length ≤ 10 ^ 18 := Nat.pow_le_pow_right (by decide) hl
  have h3 : (10 : Nat) ^ 18 = 1000000000000000000 := by decide
  have h := Tryz.strconv_ParseInt_10_at64_ok ⟨l.toArray⟩ (by simp [ByteArray.size]; omega) (val l : Nat) (parseInt_plain l (plainB_ne hp) (plainB_all hp) (by omega)) w
  refine h.mono fun e w' ⟨h1, h2⟩ => ⟨h1, ?_⟩
  rcases h2 with rfl | ⟨t, rfl⟩
  · exact Below.refl _ _
  · exact Lib.bytesWorld_below _ _ _
theorem cut_ret (l : List UInt8) (c : UInt8) (w : World) (hL : Laid w) (hl : l.length ≤ 4000000000) :
    Calls Tryz.prog 61 #[.string ⟨l.toArray⟩, .string ⟨#[c]⟩] w (Ret w (.tuple #[.string ⟨(cutAt c l).1.toArray⟩, .string ⟨(cutAt c l).2.1.toArray⟩, .bool (cutAt c l).2.2])) :=
  (cut_any l c w hL hl).mono fun e w' ⟨h1, n, h2⟩ => ⟨h1, by rw [h2]; exact below_drewN (Below.refl _ _) n⟩
theorem Ret.num {w w' : World} {n : Int} {b : Bool} {x : Int × Bool} (h : x = (n, b)) (hw : Below w.heap.size w w') : Ret w (numVal x) (.returned (.tuple #[.int .i64 n, .bool b])) w' := ⟨by rw [h], hw⟩
theorem Ret.ints {w w' : World} {n b : Int} {x : Int × Int} (h : x = (n, b)) (hw : Below w.heap.size w w') : Ret w (intsVal x) (.returned (.tuple #[.int .i64 n, .int .i64 b])) w' := ⟨by rw [h], hw⟩
theorem feetV_bd (l : List UInt8) (h : plainB l = true) : 0 ≤ feetV l ∧ feetV l ≤ 1099511627776 := by
  unfold feetV
  split
  · rename_i hl
    have hv := val_lt l (plainB_all h)
    have h2 : 10 ^ l.length ≤ 10 ^ 9 := Nat.pow_le_pow_right (by decide) (by omega)
    have h3 : (10 : Nat) ^ 9 = 1000000000 := by decide
    omega
  · omega
theorem altP3_bad1 {m : Bool} {f h : List UInt8} {p : Bool} (hp : plainB f = false) : altP3 m f h p = (0, false) := by unfold altP3; rw [if_neg (by simp [hp])]
theorem altP3_bad2 {m : Bool} {f h : List UInt8} (hh : hundB h = false) : altP3 m f h true = (0, false) := by unfold altP3; rw [if_neg (by simp [hh])]
def altOut (m : Bool) (n : Int) : Int × Bool := if m then (-n, n != 0) else (n, true)
theorem altP3_ok {m : Bool} {f h : List UInt8} {p : Bool} (hp : plainB f = true) (hh : p = false ∨ hundB h = true) : altP3 m f h p = altOut m (feetV f * 100 + (if p then (val h : Int) else 0)) := by
  unfold altP3 altOut
  rw [if_pos ⟨hp, hh⟩]
  cases m
  · simp
  · simp only [if_true]
    refine Prod.ext rfl ?_
    rw [Bool.eq_iff_iff]
    simp
theorem hundB_two {h : List UInt8} (hh : hundB h = true) : ∃ a b : UInt8, h = [a, b] ∧ (48 ≤ a.toNat ∧ a.toNat ≤ 57) ∧ (48 ≤ b.toNat ∧ b.toNat ≤ 57) ∧ ¬ (a = 48 ∧ b = 48) := by
  match h, hh with
  | [a, b], hh => simp [hundB, isD] at hh; exact ⟨a, b, rfl, hh.1.1, hh.1.2, fun e => by rcases hh.2 with h | h; exact h e.1; exact h e.2⟩
theorem val_two (a b : UInt8) (ha : 48 ≤ a.toNat) (hb : 48 ≤ b.toNat) : (val [a, b] : Int) = ((a.toNat : Int) - 48) * 10 + ((b.toNat : Int) - 48) := by
  simp only [val, numV_cons, numV_nil]; omega
set_option maxHeartbeats 4000000 in
theorem altitude_any (l : List UInt8) (w : World) (hL : Laid w) (hl : l.length ≤ 4000000000) : Calls Tryz.prog 89 #[.string ⟨l.toArray⟩] w (Ret w (numVal (altP l))) := by
  have HE := Lib.hid (show altP l = altP3 (cutPre 45 l).2 (cutAt 46 (cutPre 45 l).1).1 (cutAt 46 (cutPre 45 l).1).2.1 (cutAt 46 (cutPre 45 l).1).2.2 from rfl)
  have k1 := Lib.hid (cutPrefix_any 45 l w)
  have hl1 := cutPre_len 45 l
  generalize cutPre 45 l = q at k1 hl1 HE
  obtain ⟨r, minus⟩ := q
  simp only at hl1
  have k2 := Lib.hid (cut_ret r 46 w hL (by omega))
  have hl2 := cutAt_len 46 r
  simp only at HE
  generalize cutAt 46 r = q at k2 hl2 HE
  obtain ⟨feet, hund, point⟩ := q
  simp only at hl2 HE
  obtain ⟨l2, l3⟩ := hl2
  generalize altP l = out at HE ⊢
  cases hp : plainB feet
  · have HO := Lib.hid (HE.out.trans (altP3_bad1 hp))
    have k3 := Lib.hid (plain_any feet w (by omega))
    rw [hp] at k3
    have HP := Lib.hid hp; clear hp HE
    go_enter Tryz.func89, Tryz.ntmps89
    go_wp2_with fail
    with_reducible refine callP k1.out ?_
    go_wp2_with fail
    with_reducible refine callR k2.out ?_
    intro w1 b1 _ _ _
    go_wp2_with fail
    with_reducible refine callP (plain_any feet w1 (by omega)) ?_
    rw [HP.out]
    go_wp2
    go_ret2
    exact Ret.num HO.out b1
  · have HP := Lib.hid hp; clear hp
    have fb := feetV_bd feet HP.out
    obtain ⟨fb1, fb2⟩ := fb
    have HF1 := Lib.hid (show feet.length < 10 → feetV feet = (val feet : Nat) from fun h => by unfold feetV; rw [if_pos h])
    have HF2 := Lib.hid (show ¬ feet.length < 10 → feetV feet = 1099511627776 from fun h => by unfold feetV; rw [if_neg h])
    have HF3 := Lib.hid (show feet.length < 10 → val feet ≤ 1099511627776 from fun h => by have := HF1.out h; omega)
    cases hpt : point
    · subst hpt
      have HO := Lib.hid (HE.out.trans (altP3_ok HP.out (.inl rfl)))
      clear HE
      generalize feetV feet = F at fb1 fb2 HF1 HF2 HF3 HO
      go_enter Tryz.func89, Tryz.ntmps89
      go_wp2_with fail
      with_reducible refine callP k1.out ?_
      go_wp2_with fail
      with_reducible refine callR k2.out ?_
      intro w1 b1 _ _ _
      go_wp2_with fail
      with_reducible refine callP (plain_any feet w1 (by omega)) ?_
      rw [HP.out]
      by_cases h10 : feet.length < 10
      · have HV := Lib.hid (HF1.out h10)
        have hv := HF3.out h10
        go_wp2_with fail
        with_reducible refine callR (parseInt_any feet w1 HP.out (by omega)) ?_
        intro w2 b2 _ _ _
        generalize val feet = V at HV hv ⊢
        obtain ⟨V', hV'⟩ : ∃ V' : Int, V' = (V : Nat) := ⟨_, rfl⟩
        rw [← hV']
        have hV0 : 0 ≤ V' := by omega
        have hV1 : V' ≤ 1099511627776 := by omega
        have HV' := Lib.hid hV'; clear hV' hv
        cases minus
        all_goals
          go_wp2
          go_ret2
          refine Ret.num ?_ (below_step b1 b2)
          rw [HO.out, HV.out, HV'.out]
          simp [altOut]
      · have HV := Lib.hid (HF2.out h10)
        cases minus
        all_goals
          go_wp2
          go_ret2
          refine Ret.num ?_ b1
          rw [HO.out, HV.out]
          rfl
    · subst hpt
      cases hh : hundB hund
      · have HO := Lib.hid (HE.out.trans (altP3_bad2 hh))
        have HH := Lib.hid hh; clear hh HE
        by_cases h2 : hund.length = 2
        · match hund, h2 with
          | [a, b], _ =>
            go_enter Tryz.func89, Tryz.ntmps89
            go_wp2_with fail
            with_reducible refine callP k1.out ?_
            go_wp2_with fail
            with_reducible refine callR k2.out ?_
            intro w1 b1 _ _ _
            go_wp2_with fail
            with_reducible refine callP (plain_any feet w1 (by omega)) ?_
            rw [HP.out]
            go_wp2
            all_goals first
              | (go_ret2; exact Ret.num HO.out b1)
              | (exfalso; have hx := HH.out; simp [hundB, isD] at hx; grind)
        · have h2' : ((hund.length : Int) != 2) = true := by
            simp only [bne_iff_ne]; omega
          go_enter Tryz.func89, Tryz.ntmps89
          go_wp2_with fail
          with_reducible refine callP k1.out ?_
          go_wp2_with fail
          with_reducible refine callR k2.out ?_
          intro w1 b1 _ _ _
          go_wp2_with fail
          with_reducible refine callP (plain_any feet w1 (by omega)) ?_
          rw [HP.out]
          go_wp2
          go_ret2
          exact Ret.num HO.out b1
      · obtain ⟨a, b, rfl, ⟨a1, a2⟩, ⟨b1, b2⟩, hn⟩ := hundB_two hh
        have HO := Lib.hid (HE.out.trans (altP3_ok HP.out (.inr hh)))
        simp only [if_true, val_two a b a1 b1] at HO
        clear HE hh
        have HNN := Lib.hid hn; clear hn
        generalize feetV feet = F at fb1 fb2 HF1 HF2 HF3 HO
        go_enter Tryz.func89, Tryz.ntmps89
        go_wp2_with fail
        with_reducible refine callP k1.out ?_
        go_wp2_with fail
        with_reducible refine callR k2.out ?_
        intro w1 e1 _ _ _
        go_wp2_with fail
        with_reducible refine callP (plain_any feet w1 (by omega)) ?_
        rw [HP.out]
        go_wp2
        all_goals try (exfalso; have hx := HNN.out; grind)
        rename_i hz
        clear hz
        go_quiet (fail)
        have L1 := below_drewN e1 nq
        generalize w1.drewN nq = w3 at L1 ⊢
        obtain ⟨k, hk⟩ : ∃ k : Int, k = ((a.toNat : Int) - 48) * 10 + ((b.toNat : Int) - 48) := ⟨_, rfl⟩
        rw [← hk] at HO ⊢
        have q0 : 0 ≤ k := by omega
        have q1 : k ≤ 99 := by omega
        clear hk
        by_cases h10 : feet.length < 10
        · have HV := Lib.hid (HF1.out h10)
          have hv := HF3.out h10
          go_wp2_with fail
          with_reducible refine callR (parseInt_any feet w3 HP.out (by omega)) ?_
          intro w2 c2 _ _ _
          generalize val feet = V at HV hv ⊢
          obtain ⟨V', hV'⟩ : ∃ V' : Int, V' = (V : Nat) := ⟨_, rfl⟩
          rw [← hV']
          have hV0 : 0 ≤ V' := by omega
          have hV1 : V' ≤ 1099511627776 := by omega
          have HV' := Lib.hid hV'; clear hV' hv
          cases minus
          all_goals
            go_wp2
            go_ret2
            refine Ret.num ?_ (below_step L1 c2)
            rw [HO.out, HV.out, HV'.out]
            simp [altOut]
        · have HV := Lib.hid (HF2.out h10)
          cases minus
          all_goals
            go_wp2
            go_ret2
            refine Ret.num ?_ L1
            rw [HO.out, HV.out]
            simp [altOut]
end Go.Proofs.YtlleijickhifmaaGreatDoor
