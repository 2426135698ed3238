/- Altitudes, windows and distances read: record.altitude, window, ParseWindow, ParseDist; leg.dist, leg.speed, leg.ref. Distances read: record.ParseDist, leg.dist, leg.speed. leg.dist, leg.speed. A block of the caller's own that is written cell by cell; what a call that writes such blocks leaves alone. What is laid stays where only blocks of the caller's own are written. Windows read: record.window, record.ParseWindow. The reference's windows are the program's, in plain Lean. Edits in plain Lean: their fields, the first error, the text, the loose reading of a text. No program in sight. How long the text of a valid plan may be. No program in sight. -/
import Derived.Test.YtcgmemkkcaipfaaGreatDoorPk14
import Derived.Lib.AtoiErrMem
import Derived.Lib.ConvBytes
import Derived.Test.YtcgmemkkcaipfaaGreatDoorPk03
import Derived.Test.YtcgmemkkcaipfaaGreatDoorPk11
import Derived.Lib.AtoiAll
namespace Go.Proofs.YtcgmemkkcaipfaaGreatDoor
open Go.RowKit Go.Sort
set_option linter.unusedVariables false
set_option linter.unusedSimpArgs false
set_option maxRecDepth 100000
theorem trimPre (c : UInt8) (l : List UInt8) : Lib.trimPrefix l [c] = (cutPre c l).1 ∧ Lib.hasPrefix l [c] = (cutPre c l).2 := by
  cases l with
  | nil => exact ⟨rfl, rfl⟩
  | cons x r =>
    by_cases h : x = c
    · subst h; simp [Lib.trimPrefix, Lib.hasPrefix, cutPre]
    · have h' : ¬ c = x := fun e => h e.symm
      simp [Lib.trimPrefix, Lib.hasPrefix, cutPre, h, h', List.isPrefixOf]
theorem hasSuf (c : UInt8) (l : List UInt8) : Lib.hasSuffix l [c] = decide (l.getLast? = some c) := by
  unfold Lib.hasSuffix
  rw [Bool.eq_iff_iff, List.isSuffixOf_iff_suffix, decide_eq_true_eq]
  constructor
  · rintro ⟨t, rfl⟩; simp
  · intro h
    obtain ⟨t, rfl⟩ := List.getLast?_eq_some_iff.1 h
    exact ⟨t, rfl⟩
theorem trimSuf (c : UInt8) (l : List UInt8) : Lib.trimSuffix l [c] = (cutSuf c l).1 ∧ Lib.hasSuffix l [c] = (cutSuf c l).2 := by
  unfold Lib.trimSuffix cutSuf
  rw [hasSuf]
  by_cases h : l.getLast? = some c
  · simp [h, List.dropLast_eq_take]
  · simp [h]
theorem cutPrefix_any (c : UInt8) (l : List UInt8) (w : World) : Calls Tryz.prog 237 #[.string ⟨l.toArray⟩, .string ⟨#[c]⟩] w (RetP w (.tuple #[.string ⟨(cutPre c l).1.toArray⟩, .bool (cutPre c l).2])) := by
  have h := Tryz.strings_CutPrefix ⟨l.toArray⟩ ⟨#[c]⟩ w
  simp only [(trimPre c l).1, (trimPre c l).2] at h
  exact h.mono fun e w' ⟨h1, h2⟩ => ⟨h1, h2.symm⟩
theorem cutSuffix_any (c : UInt8) (l : List UInt8) (w : World) (hl : l.length ≤ 4611686018427387904) : Calls Tryz.prog 206 #[.string ⟨l.toArray⟩, .string ⟨#[c]⟩] w (RetP w (.tuple #[.string ⟨(cutSuf c l).1.toArray⟩, .bool (cutSuf c l).2])) := by
  have h := Tryz.strings_CutSuffix ⟨l.toArray⟩ ⟨#[c]⟩ w (by simp [ByteArray.size]; omega)
  simp only [(trimSuf c l).1, (trimSuf c l).2] at h
  exact h.mono fun e w' ⟨h1, h2⟩ => ⟨h1, h2.symm⟩
/-- strconv.ParseInt of up to 18 digits. -/
theorem parseInt_any (l : List UInt8) (w : World) (hp : plainB l = true) (hl : l.length ≤ 18) : Calls Tryz.prog 108 #[.string ⟨l.toArray⟩, .int .i64 10, .int .i64 64] w (Ret w (.tuple #[.int .i64 (val l : Nat), .nilIface])) := by
  have hv := val_lt l (plainB_all hp)
  have h2 : 10 ^ l.length ≤ 10 ^ 18 := Nat.pow_le_pow_right (by decide) hl
  have h3 : (10 : Nat) ^ 18 = 1000000000000000000 := by decide
  have h := Tryz.strconv_ParseInt_10_at64_ok ⟨l.toArray⟩ (by simp [ByteArray.size]; omega) (val l : Nat) (parseInt_plain l (plainB_ne hp) (plainB_all hp) (by omega)) w
  refine h.mono fun e w' ⟨h1, h2⟩ => ⟨h1, ?_⟩
  rcases h2 with rfl | ⟨t, rfl⟩
  · exact Below.refl _ _
  · exact Lib.bytesWorld_below _ _ _
theorem cut_ret (l : List UInt8) (c : UInt8) (w : World) (hL : Laid w) (hl : l.length ≤ 4000000000) :
    Calls Tryz.prog 147 #[.string ⟨l.toArray⟩, .string ⟨#[c]⟩] w (Ret w (.tuple #[.string ⟨(cutAt c l).1.toArray⟩, .string ⟨(cutAt c l).2.1.toArray⟩, .bool (cutAt c l).2.2])) :=
  (cut_any l c w hL hl).mono fun e w' ⟨h1, n, h2⟩ => ⟨h1, by rw [h2]; exact below_drewN (Below.refl _ _) n⟩
theorem Ret.num {w w' : World} {n : Int} {b : Bool} {x : Int × Bool} (h : x = (n, b)) (hw : Below w.heap.size w w') : Ret w (numVal x) (.returned (.tuple #[.int .i64 n, .bool b])) w' := ⟨by rw [h], hw⟩
theorem Ret.ints {w w' : World} {n b : Int} {x : Int × Int} (h : x = (n, b)) (hw : Below w.heap.size w w') : Ret w (intsVal x) (.returned (.tuple #[.int .i64 n, .int .i64 b])) w' := ⟨by rw [h], hw⟩
theorem feetV_bd (l : List UInt8) (h : plainB l = true) : 0 ≤ feetV l ∧ feetV l ≤ 1099511627776 := by
  unfold feetV
  split
  · rename_i hl
    have hv := val_lt l (plainB_all h)
    have h2 : 10 ^ l.length ≤ 10 ^ 9 := Nat.pow_le_pow_right (by decide) (by omega)
    have h3 : (10 : Nat) ^ 9 = 1000000000 := by decide
    omega
  · omega
theorem altP3_bad1 {m : Bool} {f h : List UInt8} {p : Bool} (hp : plainB f = false) : altP3 m f h p = (0, false) := by unfold altP3; rw [if_neg (by simp [hp])]
theorem altP3_bad2 {m : Bool} {f h : List UInt8} (hh : hundB h = false) : altP3 m f h true = (0, false) := by unfold altP3; rw [if_neg (by simp [hh])]
def altOut (m : Bool) (n : Int) : Int × Bool := if m then (-n, n != 0) else (n, true)
theorem altP3_ok {m : Bool} {f h : List UInt8} {p : Bool} (hp : plainB f = true) (hh : p = false ∨ hundB h = true) : altP3 m f h p = altOut m (feetV f * 100 + (if p then (val h : Int) else 0)) := by
  unfold altP3 altOut
  rw [if_pos ⟨hp, hh⟩]
  cases m
  · simp
  · simp only [if_true]
    refine Prod.ext rfl ?_
    rw [Bool.eq_iff_iff]
    simp
theorem hundB_two {h : List UInt8} (hh : hundB h = true) : ∃ a b : UInt8, h = [a, b] ∧ (48 ≤ a.toNat ∧ a.toNat ≤ 57) ∧ (48 ≤ b.toNat ∧ b.toNat ≤ 57) ∧ ¬ (a = 48 ∧ b = 48) := by
  match h, hh with
  | [a, b], hh => simp [hundB, isD] at hh; exact ⟨a, b, rfl, hh.1.1, hh.1.2, fun e => by rcases hh.2 with h | h; exact h e.1; exact h e.2⟩
theorem val_two (a b : UInt8) (ha : 48 ≤ a.toNat) (hb : 48 ≤ b.toNat) : (val [a, b] : Int) = ((a.toNat : Int) - 48) * 10 + ((b.toNat : Int) - 48) := by
  simp only [val, numV_cons, numV_nil]; omega
set_option maxHeartbeats 4000000 in
theorem altitude_any (l : List UInt8) (w : World) (hL : Laid w) (hl : l.length ≤ 4000000000) : Calls Tryz.prog 205 #[.string ⟨l.toArray⟩] w (Ret w (numVal (altP l))) := by
  have HE := Lib.hid (show altP l = altP3 (cutPre 45 l).2 (cutAt 46 (cutPre 45 l).1).1 (cutAt 46 (cutPre 45 l).1).2.1 (cutAt 46 (cutPre 45 l).1).2.2 from rfl)
  have k1 := Lib.hid (cutPrefix_any 45 l w)
  have hl1 := cutPre_len 45 l
  generalize cutPre 45 l = q at k1 hl1 HE
  obtain ⟨r, minus⟩ := q
  simp only at hl1
  have k2 := Lib.hid (cut_ret r 46 w hL (by omega))
  have hl2 := cutAt_len 46 r
  simp only at HE
  generalize cutAt 46 r = q at k2 hl2 HE
  obtain ⟨feet, hund, point⟩ := q
  simp only at hl2 HE
  obtain ⟨l2, l3⟩ := hl2
  generalize altP l = out at HE ⊢
  cases hp : plainB feet
  · have HO := Lib.hid (HE.out.trans (altP3_bad1 hp))
    have k3 := Lib.hid (plain_any feet w (by omega))
    rw [hp] at k3
    have HP := Lib.hid hp; clear hp HE
    go_enter Tryz.func205, Tryz.ntmps205
    go_wp2_with fail
    with_reducible refine callP k1.out ?_
    go_wp2_with fail
    with_reducible refine callR k2.out ?_
    intro w1 b1 _ _ _
    go_wp2_with fail
    with_reducible refine callP (plain_any feet w1 (by omega)) ?_
    rw [HP.out]
    go_wp2
    go_ret2
    exact Ret.num HO.out b1
  · have HP := Lib.hid hp; clear hp
    have fb := feetV_bd feet HP.out
    obtain ⟨fb1, fb2⟩ := fb
    have HF1 := Lib.hid (show feet.length < 10 → feetV feet = (val feet : Nat) from fun h => by unfold feetV; rw [if_pos h])
    have HF2 := Lib.hid (show ¬ feet.length < 10 → feetV feet = 1099511627776 from fun h => by unfold feetV; rw [if_neg h])
    have HF3 := Lib.hid (show feet.length < 10 → val feet ≤ 1099511627776 from fun h => by have := HF1.out h; omega)
    cases hpt : point
    · subst hpt
      have HO := Lib.hid (HE.out.trans (altP3_ok HP.out (.inl rfl)))
      clear HE
      generalize feetV feet = F at fb1 fb2 HF1 HF2 HF3 HO
      go_enter Tryz.func205, Tryz.ntmps205
      go_wp2_with fail
      with_reducible refine callP k1.out ?_
      go_wp2_with fail
      with_reducible refine callR k2.out ?_
      intro w1 b1 _ _ _
      go_wp2_with fail
      with_reducible refine callP (plain_any feet w1 (by omega)) ?_
      rw [HP.out]
      by_cases h10 : feet.length < 10
      · have HV := Lib.hid (HF1.out h10)
        have hv := HF3.out h10
        go_wp2_with fail
        with_reducible refine callR (parseInt_any feet w1 HP.out (by omega)) ?_
        intro w2 b2 _ _ _
        generalize val feet = V at HV hv ⊢
        obtain ⟨V', hV'⟩ : ∃ V' : Int, V' = (V : Nat) := ⟨_, rfl⟩
        rw [← hV']
        have hV0 : 0 ≤ V' := by omega
        have hV1 : V' ≤ 1099511627776 := by omega
        have HV' := Lib.hid hV'; clear hV' hv
        cases minus
        all_goals
          go_wp2
          go_ret2
          refine Ret.num ?_ (below_step b1 b2)
          rw [HO.out, HV.out, HV'.out]
          simp [altOut]
      · have HV := Lib.hid (HF2.out h10)
        cases minus
        all_goals
          go_wp2
          go_ret2
          refine Ret.num ?_ b1
          rw [HO.out, HV.out]
          rfl
    · subst hpt
      cases hh : hundB hund
      · have HO := Lib.hid (HE.out.trans (altP3_bad2 hh))
        have HH := Lib.hid hh; clear hh HE
        by_cases h2 : hund.length = 2
        · match hund, h2 with
          | [a, b], _ =>
            go_enter Tryz.func205, Tryz.ntmps205
            go_wp2_with fail
            with_reducible refine callP k1.out ?_
            go_wp2_with fail
            with_reducible refine callR k2.out ?_
            intro w1 b1 _ _ _
            go_wp2_with fail
            with_reducible refine callP (plain_any feet w1 (by omega)) ?_
            rw [HP.out]
            go_wp2
            all_goals first
              | (go_ret2; exact Ret.num HO.out b1)
              | (exfalso; have hx := HH.out; simp [hundB, isD] at hx; grind)
        · have h2' : ((hund.length : Int) != 2) = true := by
            simp only [bne_iff_ne]; omega
          go_enter Tryz.func205, Tryz.ntmps205
          go_wp2_with fail
          with_reducible refine callP k1.out ?_
          go_wp2_with fail
          with_reducible refine callR k2.out ?_
          intro w1 b1 _ _ _
          go_wp2_with fail
          with_reducible refine callP (plain_any feet w1 (by omega)) ?_
          rw [HP.out]
          go_wp2
          go_ret2
          exact Ret.num HO.out b1
      · obtain ⟨a, b, rfl, ⟨a1, a2⟩, ⟨b1, b2⟩, hn⟩ := hundB_two hh
        have HO := Lib.hid (HE.out.trans (altP3_ok HP.out (.inr hh)))
        simp only [if_true, val_two a b a1 b1] at HO
        clear HE hh
        have HNN := Lib.hid hn; clear hn
        generalize feetV feet = F at fb1 fb2 HF1 HF2 HF3 HO
        go_enter Tryz.func205, Tryz.ntmps205
        go_wp2_with fail
        with_reducible refine callP k1.out ?_
        go_wp2_with fail
        with_reducible refine callR k2.out ?_
        intro w1 e1 _ _ _
        go_wp2_with fail
        with_reducible refine callP (plain_any feet w1 (by omega)) ?_
        rw [HP.out]
        go_wp2
        all_goals try (exfalso; have hx := HNN.out; grind)
        rename_i hz
        clear hz
        go_quiet (fail)
        have L1 := below_drewN e1 nq
        generalize w1.drewN nq = w3 at L1 ⊢
        obtain ⟨k, hk⟩ : ∃ k : Int, k = ((a.toNat : Int) - 48) * 10 + ((b.toNat : Int) - 48) := ⟨_, rfl⟩
        rw [← hk] at HO ⊢
        have q0 : 0 ≤ k := by omega
        have q1 : k ≤ 99 := by omega
        clear hk
        by_cases h10 : feet.length < 10
        · have HV := Lib.hid (HF1.out h10)
          have hv := HF3.out h10
          go_wp2_with fail
          with_reducible refine callR (parseInt_any feet w3 HP.out (by omega)) ?_
          intro w2 c2 _ _ _
          generalize val feet = V at HV hv ⊢
          obtain ⟨V', hV'⟩ : ∃ V' : Int, V' = (V : Nat) := ⟨_, rfl⟩
          rw [← hV']
          have hV0 : 0 ≤ V' := by omega
          have hV1 : V' ≤ 1099511627776 := by omega
          have HV' := Lib.hid hV'; clear hV' hv
          cases minus
          all_goals
            go_wp2
            go_ret2
            refine Ret.num ?_ (below_step L1 c2)
            rw [HO.out, HV.out, HV'.out]
            simp [altOut]
        · have HV := Lib.hid (HF2.out h10)
          cases minus
          all_goals
            go_wp2
            go_ret2
            refine Ret.num ?_ L1
            rw [HO.out, HV.out]
            simp [altOut]
end Go.Proofs.YtcgmemkkcaipfaaGreatDoor
namespace Go.Proofs.YtcgmemkkcaipfaaGreatDoor
open Go.RowKit Go.Sort
set_option linter.unusedVariables false
set_option linter.unusedSimpArgs false
set_option maxRecDepth 100000
theorem distP3_bad1 {a r : List UInt8} {b : Bool} (hp : plainB a = false) : distP3 a r b = (0, 4) := by unfold distP3; rw [if_neg (by simp [hp])]
theorem distP3_bad2 {a r : List UInt8} (hr : restOk r = false) : distP3 a r true = (0, 4) := by unfold distP3; rw [if_neg (by simp [hr])]
theorem distP3_one {a r : List UInt8} (hp : plainB a = true) : distP3 a r false = if 9 < a.length then (0, 2) else if 8000000 < val a * 6000 then (0, 2) else (((val a * 6000 : Nat) : Int), 0) := by
  unfold distP3; rw [if_pos ⟨hp, .inl rfl⟩]; simp
theorem distP3_two {a r : List UInt8} (hp : plainB a = true) (hr : restOk r = true) : distP3 a r true = if 6000 ≤ val r then (0, 4) else if 9 < a.length then (0, 2) else if 8000000 < val a * 6000 + val r then (0, 2) else (((val a * 6000 + val r : Nat) : Int), 0) := by
  unfold distP3; rw [if_pos ⟨hp, .inr hr⟩]; simp
theorem val_nine {a : List UInt8} (hp : plainB a = true) (h : a.length ≤ 9) : val a < 1000000000 := by
  have hv := val_lt a (plainB_all hp)
  have h2 : 10 ^ a.length ≤ 10 ^ 9 := Nat.pow_le_pow_right (by decide) h
  have h3 : (10 : Nat) ^ 9 = 1000000000 := by decide
  omega
set_option maxHeartbeats 4000000 in
theorem parseDist_any (l : List UInt8) (w : World) (hL : Laid w) (hl : l.length ≤ 4000000000) : Calls Tryz.prog 110 #[.string ⟨l.toArray⟩] w (Ret w (intsVal (distP l))) := by
  have HE := Lib.hid (show distP l = distP3 (cutAt 43 l).1 (cutAt 43 l).2.1 (cutAt 43 l).2.2 from rfl)
  have k1 := Lib.hid (cut_ret l 43 w hL hl)
  have hl2 := cutAt_len 43 l
  generalize cutAt 43 l = q at k1 hl2 HE
  obtain ⟨miles, rest, two⟩ := q
  simp only at hl2 HE
  obtain ⟨l2, l3⟩ := hl2
  generalize distP l = out at HE ⊢
  cases hp : plainB miles
  · have HO := Lib.hid (HE.out.trans (distP3_bad1 hp))
    have HP := Lib.hid hp; clear hp HE
    go_enter Tryz.func110, Tryz.ntmps110
    go_wp2_with fail
    with_reducible refine callR k1.out ?_
    intro w1 b1 _ _ _
    go_wp2_with fail
    with_reducible refine callP (plain_any miles w1 (by omega)) ?_
    rw [HP.out]
    go_wp2
    go_ret2
    exact Ret.ints HO.out b1
  · have HP := Lib.hid hp; clear hp
    cases two
    · have HO := Lib.hid (HE.out.trans (distP3_one HP.out))
      clear HE
      go_enter Tryz.func110, Tryz.ntmps110
      go_wp2_with fail
      with_reducible refine callR k1.out ?_
      intro w1 b1 _ _ _
      go_wp2_with fail
      with_reducible refine callP (plain_any miles w1 (by omega)) ?_
      rw [HP.out]
      by_cases h9 : 9 < miles.length
      · go_wp2
        go_ret2
        exact Ret.ints (by rw [HO.out, if_pos h9]) b1
      · have hv := val_nine HP.out (by omega)
        go_wp2_with fail
        with_reducible refine callR (parseInt_any miles w1 HP.out (by omega)) ?_
        intro w2 b2 _ _ _
        have HO' := Lib.hid (HO.out.trans (if_neg h9))
        clear HO
        generalize val miles = V at HO' hv ⊢
        obtain ⟨V', hV'⟩ : ∃ V' : Int, V' = (V : Nat) := ⟨_, rfl⟩
        rw [← hV']
        have hV0 : 0 ≤ V' := by omega
        have hV1 : V' ≤ 1000000000 := by omega
        have HV' := Lib.hid hV'; clear hV' hv
        go_wp2
        all_goals
          go_ret2
          refine Ret.ints ?_ (below_step b1 b2)
          have e := HV'.out
          rw [HO'.out]
          first
            | (rw [if_pos (by omega)]; done)
            | (rw [if_neg (by omega)]; refine Prod.ext ?_ rfl; simp only; omega)
    · cases hr : plainB rest
      · have HO := Lib.hid (HE.out.trans (distP3_bad2 (by unfold restOk; rw [hr]; rfl)))
        have HR := Lib.hid hr; clear hr HE
        go_enter Tryz.func110, Tryz.ntmps110
        go_wp2_with fail
        with_reducible refine callR k1.out ?_
        intro w1 b1 _ _ _
        go_wp2_with fail
        with_reducible refine callP (plain_any miles w1 (by omega)) ?_
        rw [HP.out]
        go_wp2_with fail
        with_reducible refine callP (plain_any rest w1 (by omega)) ?_
        rw [HR.out]
        go_wp2
        go_ret2
        exact Ret.ints HO.out b1
      · have HR := Lib.hid hr; clear hr
        have HK := Lib.hid (show restOk rest = (!(rest == [48]) && decide (rest.length ≤ 4)) by unfold restOk; rw [HR.out]; rfl)
        cases hk : restOk rest
        · have HO := Lib.hid (HE.out.trans (distP3_bad2 hk))
          rw [hk] at HK
          clear HE hk
          go_enter Tryz.func110, Tryz.ntmps110
          go_wp2_with fail
          with_reducible refine callR k1.out ?_
          intro w1 b1 _ _ _
          go_wp2_with fail
          with_reducible refine callP (plain_any miles w1 (by omega)) ?_
          rw [HP.out]
          go_wp2_with fail
          with_reducible refine callP (plain_any rest w1 (by omega)) ?_
          rw [HR.out]
          go_wp2_with fail
          all_goals first
            | (go_ret2; exact Ret.ints HO.out b1)
            | (exfalso; have hx := HK.out; grind)
        · have HO := Lib.hid (HE.out.trans (distP3_two HP.out hk))
          rw [hk] at HK
          clear HE hk
          have hr4 : rest.length ≤ 4 := by have := HK.out; simp at this; omega
          have vr : val rest < 1000000000 := val_nine HR.out (by omega)
          go_enter Tryz.func110, Tryz.ntmps110
          go_wp2_with fail
          with_reducible refine callR k1.out ?_
          intro w1 b1 _ _ _
          have L1 := hL.below b1
          go_wp2_with fail
          with_reducible refine callP (plain_any miles w1 (by omega)) ?_
          rw [HP.out]
          go_wp2_with fail
          with_reducible refine callP (plain_any rest w1 (by omega)) ?_
          rw [HR.out]
          go_wp2_with fail
          all_goals try (exfalso; have hx := HK.out; grind)
          with_reducible refine callR (parseInt_any rest w1 HR.out (by omega)) ?_
          intro w2 b2 _ _ _
          generalize val rest = R at HO vr ⊢
          obtain ⟨R', hR'⟩ : ∃ R' : Int, R' = (R : Nat) := ⟨_, rfl⟩
          rw [← hR']
          have hR0 : 0 ≤ R' := by omega
          have hR1 : R' ≤ 1000000000 := by omega
          have HR' := Lib.hid hR'; clear hR' vr
          by_cases h9 : 9 < miles.length
          · go_wp2
            all_goals
              go_ret2
              refine Ret.ints ?_ (below_step b1 b2)
              have e := HR'.out
              rw [HO.out]
              first
                | (rw [if_pos (by omega)]; done)
                | (rw [if_neg (by omega), if_pos h9]; done)
          · have hv := val_nine HP.out (by omega)
            have vp := Lib.hid (fun w => parseInt_any miles w HP.out (by omega))
            generalize val miles = V at HO hv vp ⊢
            obtain ⟨V', hV'⟩ : ∃ V' : Int, V' = (V : Nat) := ⟨_, rfl⟩
            rw [← hV'] at vp
            have hV0 : 0 ≤ V' := by omega
            have hV1 : V' ≤ 1000000000 := by omega
            have HV' := Lib.hid hV'; clear hV' hv
            go_wp2_with (go_at_call 108; ((with_reducible refine callR (vp.out _) ?_); intro w3 b3 _ _ _))
            all_goals
              go_ret2
              first | refine Ret.ints ?_ (below_step (below_step b1 b2) b3) | refine Ret.ints ?_ (below_step b1 b2)
              have e := HR'.out
              have e2 := HV'.out
              rw [HO.out]
              first
                | (rw [if_pos (by omega)]; done)
                | (rw [if_neg (by omega), if_neg h9, if_pos (by omega)]; done)
                | (rw [if_neg (by omega), if_neg h9, if_neg (by omega)]; refine Prod.ext ?_ rfl; simp only; omega)
end Go.Proofs.YtcgmemkkcaipfaaGreatDoor
namespace Go.Proofs.YtcgmemkkcaipfaaGreatDoor
open Go.RowKit Go.Sort
set_option linter.unusedVariables false
set_option linter.unusedSimpArgs false
set_option maxRecDepth 100000
theorem legDist_nil (c : UInt8) : legDistS c [] = (0, false) := rfl
theorem legDist_no {c x : UInt8} {r : List UInt8} (h : ¬ x = c) : legDistS c (x :: r) = (0, false) := by unfold legDistS; dsimp only; rw [if_neg (fun e => h e.1)]
theorem legDist_bad {c : UInt8} {r : List UInt8} (h : ¬ ((distP r).2 = 0 ∧ (distP r).1 ≠ 0)) : legDistS c (c :: r) = (0, false) := by unfold legDistS; dsimp only; rw [if_neg (fun e => h e.2)]
theorem legDist_ok {c : UInt8} {r : List UInt8} (h : (distP r).2 = 0 ∧ (distP r).1 ≠ 0) : legDistS c (c :: r) = ((distP r).1, distS (distP r).1.toNat == r) := by unfold legDistS; dsimp only; rw [if_pos ⟨rfl, h⟩]
/-- The number so far: ten times what stood ahead, and a digit. -/
theorem speedS_no {l : List UInt8} (h : speedB l = false) : speedS l = (0, false) := by unfold speedS; rw [h]; rfl
theorem speedS_ok {l : List UInt8} (h : speedB l = true) : speedS l = ((val l.tail : Int), true) := by unfold speedS; rw [h]; rfl
theorem speedB_two (x y : UInt8) (r : List UInt8) : speedB (x :: y :: r) = (x == 115 && y != 48 && decide (r.length ≤ 3) && (y :: r).all isD) := rfl
end Go.Proofs.YtcgmemkkcaipfaaGreatDoor
namespace Go.Proofs.YtcgmemkkcaipfaaGreatDoor
open Go.RowKit
set_option linter.unusedVariables false
set_option linter.unusedSimpArgs false
theorem Blk.setCell {W : World} {g : Nat} {cs : Array Value} (h : Blk W g cs) (k : Nat) (v : Value) : Blk (W.setCell ⟨g, k, none⟩ v) g (cs.setIfInBounds k v) := by
  obtain ⟨t, h⟩ := h
  have hlt : g < W.heap.size := by
    rcases Nat.lt_or_ge g W.heap.size with hlt | hge
    · exact hlt
    · rw [Array.getElem?_eq_none hge] at h; cases h
  refine ⟨t, ?_⟩
  simp only [World.setCell, Array.getElem?_modify, if_true, h]
  rfl
theorem Blk.setFar {W : World} {g g' : Nat} {cs : Array Value} (h : Blk W g cs) (hne : g ≠ g') (k : Nat) (v : Value) : Blk (W.setCell ⟨g', k, none⟩ v) g cs := by
  obtain ⟨t, h⟩ := h
  exact ⟨t, (Below.heap_setCell W ⟨g', k, none⟩ v g hne).trans h⟩
/-- All blocks but those of S are as they were. -/
structure Touch (S : List Nat) (w w' : World) : Prop where
  os : w'.os = w.os
  tape : w'.tape = w.tape
  output : w'.output = w.output
  size : w.heap.size ≤ w'.heap.size
  block : ∀ k, k < w.heap.size → k ∉ S → w'.heap[k]? = w.heap[k]?
theorem Touch.refl (S : List Nat) (w : World) : Touch S w w := ⟨rfl, rfl, rfl, Nat.le_refl _, fun _ _ _ => rfl⟩
theorem Touch.trans {S : List Nat} {a b c : World} (h : Touch S a b) (k : Touch S b c) : Touch S a c :=
  ⟨k.os.trans h.os, k.tape.trans h.tape, k.output.trans h.output, Nat.le_trans h.size k.size, fun i hi hn => (k.block i (Nat.lt_of_lt_of_le hi h.size) hn).trans (h.block i hi hn)⟩
theorem Touch.of {S : List Nat} {w w' : World} (h : Below w.heap.size w w') : Touch S w w' := ⟨h.os, h.tape, h.output, h.size, fun k hk _ => h.block k hk⟩
theorem Touch.mono {S T : List Nat} {w w' : World} (h : Touch S w w') (hs : ∀ x ∈ S, x ∈ T) : Touch T w w' := ⟨h.os, h.tape, h.output, h.size, fun k hk hn => h.block k hk (fun e => hn (hs k e))⟩
theorem Touch.setCell (S : List Nat) (w : World) {g : Nat} (hg : g ∈ S) (k : Nat) (v : Value) : Touch S w (w.setCell ⟨g, k, none⟩ v) :=
  ⟨rfl, rfl, rfl, by simp [World.setCell], fun i hi hn => Below.heap_setCell _ _ _ _ (fun e => hn (by rw [show i = g from e]; exact hg))⟩
theorem Touch.below {S : List Nat} {w0 w w' : World} (h : Touch S w w') (hb : Below w0.heap.size w0 w) (hs : ∀ x ∈ S, w0.heap.size ≤ x) : Below w0.heap.size w0 w' :=
  hb.trans ⟨h.os, h.tape, h.output, h.size, fun k hk => h.block k (Nat.lt_of_lt_of_le hk hb.size) (fun e => by have := hs k e; omega)⟩
theorem Touch.blk {S : List Nat} {w w' : World} {g : Nat} {cs : Array Value} (h : Touch S w w') (hg : g ∉ S) (hb : Blk w g cs) : Blk w' g cs := by
  have hlt := hb.lt
  obtain ⟨t, hb⟩ := hb
  exact ⟨t, (h.block g hlt hg).trans hb⟩
theorem Touch.cell {S : List Nat} {w w' : World} {g : Nat} (h : Touch S w w') (hg : g ∉ S) (hlt : g < w.heap.size) (j : Nat) : w'.cell? ⟨g, j, none⟩ = w.cell? ⟨g, j, none⟩ := World.cell?_of_block (w := w) (h.block g hlt hg)
theorem Touch.drewN {S : List Nat} {w w' : World} (h : Touch S w w') (n : Nat) : Touch S w (w'.drewN n) := ⟨h.os, h.tape, h.output, h.size, h.block⟩
theorem Touch.drew {S : List Nat} {w w' : World} (h : Touch S w w') : Touch S w w'.drew := ⟨h.os, h.tape, h.output, h.size, h.block⟩
theorem below_setCell {B g : Nat} {w0 w : World} (hb : Below B w0 w) (hBg : B ≤ g) (k : Nat) (v : Value) : Below B w0 (w.setCell ⟨g, k, none⟩ v) := hb.setCell (by simpa using hBg) v
end Go.Proofs.YtcgmemkkcaipfaaGreatDoor
namespace Go.Proofs.YtcgmemkkcaipfaaGreatDoor
open Go.RowKit
set_option linter.unusedVariables false
set_option linter.unusedSimpArgs false
theorem Laid.touch {S : List Nat} {w0 w w' : World} (h : Laid w0) (hb : Below w0.heap.size w0 w) (t : Touch S w w') (hs : ∀ x ∈ S, w0.heap.size ≤ x) : Laid w' := h.below (t.below hb hs)
end Go.Proofs.YtcgmemkkcaipfaaGreatDoor
namespace Go.Proofs.YtcgmemkkcaipfaaGreatDoor
open Go.RowKit Go.Sort
set_option linter.unusedVariables false
set_option linter.unusedSimpArgs false
set_option maxRecDepth 100000
theorem results_win {fn : Func} {p t : Tmp} (h : fn.results = #[.cell p 36, .tmp t]) (tmps : Array Value) (w : World) (g : Nat) (x : Win) (hp : tmps.getD p undef = .pointer (some ⟨g, 0, none⟩)) (hx : Is_win w g 0 x) :
    (results fn tmps).run Tryz.prog w = .ok (.tuple #[.agg x.arr, tmps.getD t undef]) w := by
  have hp' : tmps[p]?.getD undef = .pointer (some ⟨g, 0, none⟩) := by simpa using hp
  have hl := run_load_agg (P := Tryz.prog) w ⟨g, 0, none⟩ 36 x.arr.toList _ (fun j v hv => by
    rw [addr_add, hx j (by have := (List.getElem?_eq_some_iff.1 hv).1; simpa [Win.arr_size] using this)]
    simpa using hv) Tryz.underlying36 rfl info_win
  simp [results, h, hp', asAddr, hl]
abbrev winBVal (x : (Int × Int) × Bool) : Value := .tuple #[.agg (Win.arr ⟨x.1.1, x.1.2⟩), .bool x.2]
abbrev winEVal (x : (Int × Int) × Int) : Value := .tuple #[.agg (Win.arr ⟨x.1.1, x.1.2⟩), .int .i64 x.2]
theorem Ret.winB {w w' : World} {x : (Int × Int) × Bool} {a b : Int} {c : Bool} (h : x = ((a, b), c)) (hw : Below w.heap.size w w') : Ret w (winBVal x) (.returned (.tuple #[.agg (Win.arr ⟨a, b⟩), .bool c])) w' := by subst h; exact ⟨rfl, hw⟩
theorem Ret.winE {w w' : World} {x : (Int × Int) × Int} {a b c : Int} (h : x = ((a, b), c)) (hw : Below w.heap.size w w') : Ret w (winEVal x) (.returned (.tuple #[.agg (Win.arr ⟨a, b⟩), .int .i64 c])) w' := by subst h; exact ⟨rfl, hw⟩
theorem wmk (a b : Int) : Win.arr ⟨a, b⟩ = #[.int .i64 a, .int .i64 b] := rfl
theorem winP_1 : winP [45] = ((-200000, 6000000), true) := rfl
theorem winP_2 {s : List UInt8} (h : s ≠ [45]) (h2 : (cutAt 58 s).2.2 = true) : winP s = (((altP (cutAt 58 s).1).1, (altP (cutAt 58 s).2.1).1), (altP (cutAt 58 s).1).2 && (altP (cutAt 58 s).2.1).2) := by unfold winP; rw [if_neg h, if_pos h2]
theorem winP_3 {s : List UInt8} (h : s ≠ [45]) (h2 : (cutAt 58 s).2.2 = false) (h3 : (cutSuf 43 s).2 = true) : winP s = (((altP (cutSuf 43 s).1).1, 6000000), (altP (cutSuf 43 s).1).2) := by unfold winP; rw [if_neg h, if_neg (by simp [h2]), if_pos h3]
theorem winP_4 {s : List UInt8} (h : s ≠ [45]) (h2 : (cutAt 58 s).2.2 = false) (h3 : (cutSuf 43 s).2 = false) (h4 : (cutSuf 45 s).2 = true) : winP s = ((-200000, (altP (cutSuf 45 s).1).1), (altP (cutSuf 45 s).1).2) := by unfold winP; rw [if_neg h, if_neg (by simp [h2]), if_neg (by simp [h3]), if_pos h4]
theorem winP_5 {s : List UInt8} (h : s ≠ [45]) (h2 : (cutAt 58 s).2.2 = false) (h3 : (cutSuf 43 s).2 = false) (h4 : (cutSuf 45 s).2 = false) : winP s = (((altP s).1, (altP s).1), (altP s).2) := by unfold winP; rw [if_neg h, if_neg (by simp [h2]), if_neg (by simp [h3]), if_neg (by simp [h4])]
theorem cutSuf_len (c : UInt8) (s : List UInt8) : (cutSuf c s).1.length ≤ s.length := by unfold cutSuf; split <;> simp
attribute [local go_sem] wmk
theorem spl_win (a b c d : Int) : splice #[.int .i64 a, .int .i64 b] 0 #[.int .i64 c, .int .i64 d] = #[.int .i64 c, .int .i64 d] := rfl
attribute [local go_sem] spl_win
set_option maxHeartbeats 8000000 in
theorem window_any (l : List UInt8) (w : World) (hL : Laid w) (hl : l.length ≤ 4000000000) : Calls Tryz.prog 163 #[.string ⟨l.toArray⟩] w (Ret w (winBVal (winP l))) := by
  by_cases h45 : l = [45]
  · subst h45
    rw [winP_1]
    go_enter Tryz.func163, Tryz.ntmps163
    go_upto_region 1 with (fail)
    have R0 := Blk.new w #[.int .i64 0, .int .i64 0] 36
    have B0 := alloc_below w (.cells #[.int .i64 0, .int .i64 0] 36)
    generalize w.alloc _ = W0 at R0 B0 ⊢
    obtain ⟨g, hg0⟩ : ∃ g, g = w.heap.size := ⟨_, rfl⟩
    rw [← hg0] at R0 ⊢
    have hg := Nat.le_of_eq hg0.symm
    clear hg0
    go_upto_region 2 with (fail)
    have X := Blk.new W0 #[.int .i64 (-200000), .int .i64 6000000] 36
    have R := R0.alloc (.cells #[.int .i64 (-200000), .int .i64 6000000] 36)
    have B := below_step B0 (alloc_below W0 (.cells #[.int .i64 (-200000), .int .i64 6000000] 36))
    have hne : g < W0.heap.size := R0.lt
    clear R0 B0
    generalize W0.alloc _ = W at X R B ⊢
    generalize W0.heap.size = g2 at X hne ⊢
    have LW := hL.below B
    have c4 : Has_win W g2 0 := ⟨⟨-200000, 6000000⟩, X.is_win⟩
    have c5 : of_win W g2 0 = ⟨-200000, 6000000⟩ := of_win_eq X.is_win
    have d2 := R.plain
    have d3 := R.of
    go_wp2
    refine bodyPost_ret (results_win Tryz.results163 _ _ g ⟨-200000, 6000000⟩ rfl (Blk.is_win (x := ⟨-200000, 6000000⟩) (R.set _))) rfl ?_; exact Ret.winB rfl (below_setRow' B hg _)
  · have q45 : (l == [45]) = false := by simpa using h45
    have HP2 := Lib.hid (winP_2 h45)
    have HP3 := Lib.hid (winP_3 h45)
    have HP4 := Lib.hid (winP_4 h45)
    have HP5 := Lib.hid (winP_5 h45)
    have k1 := Lib.hid (fun w L => cut_ret l 58 w L hl)
    have k2 := Lib.hid (fun w => cutSuffix_any 43 l w (by omega))
    have k3 := Lib.hid (fun w => cutSuffix_any 45 l w (by omega))
    have hl1 := cutAt_len 58 l
    have hl2 := cutSuf_len 43 l
    have hl3 := cutSuf_len 45 l
    clear h45
    generalize winP l = out at HP2 HP3 HP4 HP5 ⊢
    generalize cutAt 58 l = q at k1 hl1 HP2 HP3 HP4 HP5
    generalize cutSuf 43 l = q2 at k2 hl2 HP3 HP4 HP5
    generalize cutSuf 45 l = q3 at k3 hl3 HP4 HP5
    obtain ⟨a, b, two⟩ := q
    obtain ⟨a2, up⟩ := q2
    obtain ⟨a3, down⟩ := q3
    simp only at hl1 hl2 hl3 HP2 HP3 HP4 HP5
    obtain ⟨l1, l2⟩ := hl1
    go_enter Tryz.func163, Tryz.ntmps163
    go_upto_region 1 with (fail)
    have R0 := Blk.new w #[.int .i64 0, .int .i64 0] 36
    have B0 := alloc_below w (.cells #[.int .i64 0, .int .i64 0] 36)
    generalize w.alloc _ = W0 at R0 B0 ⊢
    obtain ⟨g, hg0⟩ : ∃ g, g = w.heap.size := ⟨_, rfl⟩
    rw [← hg0] at R0 ⊢
    have hg := Nat.le_of_eq hg0.symm
    clear hg0
    go_upto_region 2 with (fail)
    have X := Blk.new W0 #[.int .i64 (-200000), .int .i64 6000000] 36
    have R := R0.alloc (.cells #[.int .i64 (-200000), .int .i64 6000000] 36)
    have B := below_step B0 (alloc_below W0 (.cells #[.int .i64 (-200000), .int .i64 6000000] 36))
    have hne : g < W0.heap.size := R0.lt
    clear R0 B0
    generalize W0.alloc _ = W at X R B ⊢
    generalize W0.heap.size = g2 at X hne ⊢
    have LW := hL.below B
    go_wp2_with fail
    with_reducible refine callR (k1.out _ LW) ?_
    intro w1 b1 _ _ _
    have X1 := X.step b1
    have R1 := R.step b1
    have B1 := below_step B b1
    have L1 := LW.below b1
    clear X R B LW
    cases two
    · go_wp2_with fail
      with_reducible refine callP (k2.out _) ?_
      cases up
      · go_wp2_with fail
        with_reducible refine callP (k3.out _) ?_
        cases down
        · have ht0 : True := trivial
          have k4 := Lib.hid (fun w L => altitude_any l w L (by omega))
          generalize altP l = z at k4 HP5
          obtain ⟨n, ok⟩ := z
          have HO : Hid (out = ((n, n), ok)) := Lib.hid (by simpa using HP5.out)
          clear HP2 HP3 HP4 HP5
          go_wp2_with fail
          with_reducible refine callR (k4.out _ L1) ?_
          intro w2 b2 _ _ _
          have X2 := X1.step b2
          have R2 := R1.step b2
          have B2 := below_step B1 b2
          have d2 := R2.plain
          have d3 := R2.of
          go_wp2
          refine bodyPost_ret (results_win Tryz.results163 _ _ g ⟨n, n⟩ rfl (Blk.is_win (x := ⟨n, n⟩) (R2.set _))) rfl ?_; exact Ret.winB HO.out (below_setRow' B2 hg _)
        · have ht0 : True := trivial
          have k4 := Lib.hid (fun w L => altitude_any a3 w L (by omega))
          generalize altP a3 = z at k4 HP4
          obtain ⟨n, ok⟩ := z
          have HO : Hid (out = ((-200000, n), ok)) := Lib.hid (by simpa using HP4.out)
          clear HP2 HP3 HP4 HP5
          go_wp2_with fail
          with_reducible refine callR (k4.out _ L1) ?_
          intro w2 b2 _ _ _
          have X2 := X1.step b2
          have x1 := X2.cell 1
          have x2 := X2.frozen 1
          have X3 : Blk (w2.setCell ⟨g2, 1, none⟩ (.int .i64 n)) g2 #[.int .i64 (-200000), .int .i64 n] := X2.setCell 1 (.int .i64 n)
          have R3 := (R1.step b2).setFar (Nat.ne_of_lt hne) 1 (.int .i64 n)
          have B3 := below_setCell (below_step B1 b2) (show w.heap.size ≤ g2 by omega) 1 (.int .i64 n)
          have c4 : Has_win (w2.setCell ⟨g2, 1, none⟩ (.int .i64 n)) g2 0 := ⟨⟨-200000, n⟩, X3.is_win⟩
          have c5 : of_win (w2.setCell ⟨g2, 1, none⟩ (.int .i64 n)) g2 0 = ⟨-200000, n⟩ := of_win_eq X3.is_win
          have d2 := R3.plain
          have d3 := R3.of
          go_wp2
          refine bodyPost_ret (results_win Tryz.results163 _ _ g ⟨-200000, n⟩ rfl (Blk.is_win (x := ⟨-200000, n⟩) (R3.set _))) rfl ?_; exact Ret.winB HO.out (below_setRow' B3 hg _)
      · have ht0 : True := trivial
        have k4 := Lib.hid (fun w L => altitude_any a2 w L (by omega))
        generalize altP a2 = z at k4 HP3
        obtain ⟨n, ok⟩ := z
        have HO : Hid (out = ((n, 6000000), ok)) := Lib.hid (by simpa using HP3.out)
        clear HP2 HP3 HP4 HP5
        go_wp2_with fail
        with_reducible refine callR (k4.out _ L1) ?_
        intro w2 b2 _ _ _
        have X2 := X1.step b2
        have x1 := X2.cell 0
        have x2 := X2.frozen 0
        have X3 : Blk (w2.setCell ⟨g2, 0, none⟩ (.int .i64 n)) g2 #[.int .i64 n, .int .i64 6000000] := X2.setCell 0 (.int .i64 n)
        have R3 := (R1.step b2).setFar (Nat.ne_of_lt hne) 0 (.int .i64 n)
        have B3 := below_setCell (below_step B1 b2) (show w.heap.size ≤ g2 by omega) 0 (.int .i64 n)
        have c4 : Has_win (w2.setCell ⟨g2, 0, none⟩ (.int .i64 n)) g2 0 := ⟨⟨n, 6000000⟩, X3.is_win⟩
        have c5 : of_win (w2.setCell ⟨g2, 0, none⟩ (.int .i64 n)) g2 0 = ⟨n, 6000000⟩ := of_win_eq X3.is_win
        have d2 := R3.plain
        have d3 := R3.of
        go_wp2
        refine bodyPost_ret (results_win Tryz.results163 _ _ g ⟨n, 6000000⟩ rfl (Blk.is_win (x := ⟨n, 6000000⟩) (R3.set _))) rfl ?_; exact Ret.winB HO.out (below_setRow' B3 hg _)
    · have ht0 : True := trivial
      have k4 := Lib.hid (fun w L => altitude_any a w L (by omega))
      have k5 := Lib.hid (fun w L => altitude_any b w L (by omega))
      generalize altP a = z at k4 HP2
      obtain ⟨n, ok⟩ := z
      generalize altP b = z2 at k5 HP2
      obtain ⟨n2, ok2⟩ := z2
      have HO : Hid (out = ((n, n2), ok && ok2)) := Lib.hid (by simpa using HP2.out)
      clear HP2 HP3 HP4 HP5
      go_wp2_with fail
      with_reducible refine callR (k4.out _ L1) ?_
      intro w2 b2 _ _ _
      have L2 := L1.below b2
      go_wp2_with fail
      with_reducible refine callR (k5.out _ L2) ?_
      intro w3 b3 _ _ _
      have R3 := (R1.step b2).step b3
      have B3 := below_step (below_step B1 b2) b3
      have d2 := R3.plain
      have d3 := R3.of
      cases ok
      all_goals
        go_wp2
        refine bodyPost_ret (results_win Tryz.results163 _ _ g ⟨n, n2⟩ rfl (Blk.is_win (x := ⟨n, n2⟩) (R3.set _))) rfl ?_
        exact Ret.winB (by simpa using HO.out) (below_setRow' B3 hg _)
theorem ranged_any (a : Int) (w : World) : Calls Tryz.prog 164 #[.int .i64 a] w (RetP w (.bool (rangedB a))) := by
  go_enter Tryz.func164, Tryz.ntmps164
  go_wp2
  all_goals
    go_ret
    exact RetP.bool (by unfold rangedB; grind) rfl
def parseWinO (s : List UInt8) (q : (Int × Int) × Bool) : (Int × Int) × Int :=
  if q.2 = true then
    if rangedB q.1.1 = true ∧ rangedB q.1.2 = true then
      if q.1.2 < q.1.1 then ((0, 0), 9) else if winS q.1.1 q.1.2 = s then (q.1, 0) else ((0, 0), 4)
    else ((0, 0), 2)
  else ((0, 0), 4)
theorem parseWinO_eq (s : List UInt8) : parseWinS s = parseWinO s (winP s) := rfl
set_option maxHeartbeats 8000000 in
theorem parseWindow_any (l : List UInt8) (w : World) (hL : Laid w) (hl : l.length ≤ 4000000000) : Calls Tryz.prog 107 #[.string ⟨l.toArray⟩] w (Ret w (winEVal (parseWinS l))) := by
  have HE := Lib.hid (parseWinO_eq l)
  have k1 := Lib.hid (fun w L => window_any l w L hl)
  generalize parseWinS l = out at HE ⊢
  generalize winP l = q at HE k1
  obtain ⟨⟨lo, hi⟩, ok⟩ := q
  go_enter Tryz.func107, Tryz.ntmps107
  go_upto_region 1 with (fail)
  have R := Blk.new w #[.int .i64 0, .int .i64 0] 36
  have B := alloc_below w (.cells #[.int .i64 0, .int .i64 0] 36)
  generalize w.alloc _ = W0 at R B ⊢
  obtain ⟨g, hg0⟩ : ∃ g, g = w.heap.size := ⟨_, rfl⟩
  rw [← hg0] at R ⊢
  have hg := Nat.le_of_eq hg0.symm
  clear hg0
  have LW := hL.below B
  go_wp2_with fail
  with_reducible refine callR (k1.out _ LW) ?_
  intro w1 b1 _ _ _
  have R1 := R.step b1
  have B1 := below_step B b1
  have L1 := LW.below b1
  clear R B LW b1 k1
  go_upto_region 2 with (fail)
  have X := Blk.new w1 #[.int .i64 lo, .int .i64 hi] 36
  have R := R1.alloc (.cells #[.int .i64 lo, .int .i64 hi] 36)
  have B := below_step B1 (alloc_below w1 (.cells #[.int .i64 lo, .int .i64 hi] 36))
  have hne : g < w1.heap.size := R1.lt
  clear R1 B1
  generalize w1.alloc _ = W at X R B ⊢
  generalize w1.heap.size = g2 at X hne ⊢
  have LW := hL.below B
  have c4 : Has_win W g2 0 := ⟨⟨lo, hi⟩, X.is_win⟩
  have c5 : of_win W g2 0 = ⟨lo, hi⟩ := of_win_eq X.is_win
  have c1 := X.cell
  have d2 := R.plain
  have d3 := R.of
  cases ok
  · go_wp2
    refine bodyPost_ret (results_win Tryz.results107 _ _ g ⟨0, 0⟩ rfl (Blk.is_win (x := ⟨0, 0⟩) (R.set _))) rfl ?_
    exact Ret.winE HE.out (below_setRow' B hg _)
  · have k2 := Lib.hid (ranged_any lo)
    have k3 := Lib.hid (ranged_any hi)
    cases h1 : rangedB lo
    · have HO := Lib.hid (HE.out.trans (show parseWinO l ((lo, hi), true) = ((0, 0), 2) by simp [parseWinO, h1]))
      rw [h1] at k2
      have HH := Lib.hid h1; clear h1
      go_wp2_with (go_at_call 164; first | (with_reducible refine callP (k2.out _) ?_) | (with_reducible refine callP (k3.out _) ?_))
      refine bodyPost_ret (results_win Tryz.results107 _ _ g ⟨0, 0⟩ rfl (Blk.is_win (x := ⟨0, 0⟩) (R.set _))) rfl ?_
      exact Ret.winE HO.out (below_setRow' B hg _)
    · cases h2 : rangedB hi
      · have HO := Lib.hid (HE.out.trans (show parseWinO l ((lo, hi), true) = ((0, 0), 2) by simp [parseWinO, h1, h2]))
        rw [h1] at k2
        rw [h2] at k3
        have HH := Lib.hid h1; clear h1
        have HH2 := Lib.hid h2; clear h2
        go_wp2_with (go_at_call 164; first | (with_reducible refine callP (k2.out _) ?_) | (with_reducible refine callP (k3.out _) ?_))
        refine bodyPost_ret (results_win Tryz.results107 _ _ g ⟨0, 0⟩ rfl (Blk.is_win (x := ⟨0, 0⟩) (R.set _))) rfl ?_
        exact Ret.winE HO.out (below_setRow' B hg _)
      · have HO := Lib.hid (HE.out.trans (show parseWinO l ((lo, hi), true) = if hi < lo then ((0, 0), 9) else if winS lo hi = l then ((lo, hi), 0) else ((0, 0), 4) by simp [parseWinO, h1, h2]))
        have r1 : -200000 ≤ lo ∧ lo ≤ 6000000 := by simpa [rangedB] using h1
        have r2 : -200000 ≤ hi ∧ hi ≤ 6000000 := by simpa [rangedB] using h2
        rw [h1] at k2
        rw [h2] at k3
        have HH := Lib.hid h1; clear h1
        have HH2 := Lib.hid h2; clear h2
        by_cases hlt : hi < lo
        · have HO2 := Lib.hid (HO.out.trans (if_pos hlt))
          clear r1 r2
          go_wp2_with (go_at_call 164; first | (with_reducible refine callP (k2.out _) ?_) | (with_reducible refine callP (k3.out _) ?_))
          refine bodyPost_ret (results_win Tryz.results107 _ _ g ⟨0, 0⟩ rfl (Blk.is_win (x := ⟨0, 0⟩) (R.set _))) rfl ?_
          exact Ret.winE HO2.out (below_setRow' B hg _)
        · have HO2 := Lib.hid (HO.out.trans (if_neg hlt))
          have k4' := winText_in lo hi W LW ⟨r1.1, by omega, r2.2⟩
          rw [wmk] at k4'
          have k4 := Lib.hid k4'
          clear k4' r1 r2
          generalize winS lo hi = T at k4 HO2
          go_wp2_with (go_at_call 164; first | (with_reducible refine callP (k2.out _) ?_) | (with_reducible refine callP (k3.out _) ?_))
          with_reducible refine callR k4.out ?_
          intro w5 b5 _ _ _
          have X5 := X.step b5
          have R5 := R.step b5
          have B5 := below_step B b5
          clear X R B c4 c5 c1 d2 d3
          have c4 : Has_win w5 g2 0 := ⟨⟨lo, hi⟩, X5.is_win⟩
          have c5 : of_win w5 g2 0 = ⟨lo, hi⟩ := of_win_eq X5.is_win
          have d2 := R5.plain
          have d3 := R5.of
          by_cases hT : T = l
          · have HO3 := Lib.hid (HO2.out.trans (if_pos hT))
            subst hT
            go_wp2
            refine bodyPost_ret (results_win Tryz.results107 _ _ g ⟨lo, hi⟩ rfl (Blk.is_win (x := ⟨lo, hi⟩) (R5.set _))) rfl ?_
            exact Ret.winE HO3.out (below_setRow' B5 hg _)
          · have HO3 := Lib.hid (HO2.out.trans (if_neg hT))
            have hT1 : (T == l) = false := by simpa using hT
            go_wp2
            refine bodyPost_ret (results_win Tryz.results107 _ _ g ⟨0, 0⟩ rfl (Blk.is_win (x := ⟨0, 0⟩) (R5.set _))) rfl ?_
            exact Ret.winE HO3.out (below_setRow' B5 hg _)
end Go.Proofs.YtcgmemkkcaipfaaGreatDoor
namespace Go.Proofs.YtcgmemkkcaipfaaGreatDoor
open Go.RowKit Go.Sort
set_option linter.unusedVariables false
set_option linter.unusedSimpArgs false
set_option maxRecDepth 100000
def rwinO (ra rb : Int × Bool × Bool) (kind : Int) (s : List UInt8) : (Int × Int) × Int :=
  if !(ra.2.1 && rb.2.1) then ((0, 0), 4)
  else if !(ra.2.2 && rb.2.2) then ((0, 0), 2)
  else if rb.1 < ra.1 then ((0, 0), 9)
  else if winS (if kind = 2 then -200000 else ra.1) (if kind = 1 then 6000000 else rb.1) = s then (((if kind = 2 then -200000 else ra.1), (if kind = 1 then 6000000 else rb.1)), 0) else ((0, 0), 4)
def rparseWinS (s : List UInt8) : (Int × Int) × Int :=
  if s = [45] then ((-200000, 6000000), 0)
  else if (cutAt 58 s).2.2 then rwinO (raltP (cutAt 58 s).1) (raltP (cutAt 58 s).2.1) 3 s
  else if (cutSuf 43 s).2 then rwinO (raltP (cutSuf 43 s).1) (raltP (cutSuf 43 s).1) 1 s
  else if (cutSuf 45 s).2 then rwinO (raltP (cutSuf 45 s).1) (raltP (cutSuf 45 s).1) 2 s
  else rwinO (raltP s) (raltP s) 0 s
theorem raltN_in {neg : Bool} {n : Int} (h : (raltN neg n).2.2 = true) : -200000 ≤ (raltN neg n).1 ∧ (raltN neg n).1 ≤ 6000000 := by
  unfold raltN at h ⊢
  simp only [Bool.and_eq_true, decide_eq_true_eq] at h
  exact h
theorem ralt_in {s : List UInt8} (h : (raltP s).2.2 = true) : -200000 ≤ (raltP s).1 ∧ (raltP s).1 ≤ 6000000 := by
  unfold raltP raltT at h ⊢
  revert h
  repeat' split
  · intro h; cases h
  · intro h; cases h
  · intro h; cases h
  · exact raltN_in
theorem ralt_form {s : List UInt8} (h : (raltP s).2.2 = true) : (raltP s).2.1 = true := by
  unfold raltP raltT raltN at h ⊢
  revert h
  repeat' split
  all_goals simp
/-- The reference's windows are the program's. -/
theorem rwin_same (s : List UInt8) : ((rparseWinS s).2 = 0 ↔ (parseWinS s).2 = 0) ∧ ((rparseWinS s).2 = 0 → (rparseWinS s).1 = (parseWinS s).1) := by
  have key : ∀ (a b : List UInt8) (kind : Int) (q : (Int × Int) × Bool), q = (((if kind = 2 then -200000 else (altP a).1), (if kind = 1 then 6000000 else (altP b).1)), (altP a).2 && (altP b).2) → ((kind = 1 ∨ kind = 2) → a = b) →
      ((rwinO (raltP a) (raltP b) kind s).2 = 0 ↔ (parseWinO s q).2 = 0) ∧ ((rwinO (raltP a) (raltP b) kind s).2 = 0 → (rwinO (raltP a) (raltP b) kind s).1 = (parseWinO s q).1) := by
    intro a b kind q hq hk
    obtain ⟨a1, a2⟩ := ralt_altP a
    obtain ⟨b1, b2⟩ := ralt_altP b
    have a3 := fun h => ralt_form (s := a) h
    have b3 := fun h => ralt_form (s := b) h
    have a4 := fun h => ralt_in (s := a) h
    have b4 := fun h => ralt_in (s := b) h
    subst hq
    unfold rwinO parseWinO
    simp only
    have rlo : rangedB (-200000) = true := by decide
    have rhi : rangedB 6000000 = true := by decide
    by_cases h12 : kind = 1 ∨ kind = 2
    · have hab := hk h12
      subst hab
      cases ha : ((raltP a).2.1 && (raltP a).2.2)
      · rw [ha] at a1
        have hne : ¬ ((altP a).2 = true ∧ rangedB (altP a).1 = true) := by rintro ⟨h1, h2⟩; rw [h1, h2] at a1; cases a1
        have h1 : ((if !((raltP a).2.1 && (raltP a).2.1) then ((0, 0), 4) else if !((raltP a).2.2 && (raltP a).2.2) then ((0, 0), 2) else if (raltP a).1 < (raltP a).1 then ((0, 0), 9) else if winS (if kind = 2 then -200000 else (raltP a).1) (if kind = 1 then 6000000 else (raltP a).1) = s then (((if kind = 2 then -200000 else (raltP a).1), (if kind = 1 then 6000000 else (raltP a).1)), 0) else ((0, 0), 4)) : (Int × Int) × Int).2 ≠ 0 := by
          cases h5 : (raltP a).2.1
          · simp
          · rw [h5] at ha
            have h6 : (raltP a).2.2 = false := by simpa using ha
            rw [h6]; simp
        have h2 : ((if ((altP a).2 && (altP a).2) = true then (if rangedB (if kind = 2 then -200000 else (altP a).1) = true ∧ rangedB (if kind = 1 then 6000000 else (altP a).1) = true then (if (if kind = 1 then 6000000 else (altP a).1) < (if kind = 2 then -200000 else (altP a).1) then ((0, 0), 9) else if winS (if kind = 2 then -200000 else (altP a).1) (if kind = 1 then 6000000 else (altP a).1) = s then ((((if kind = 2 then -200000 else (altP a).1)), (if kind = 1 then 6000000 else (altP a).1)), 0) else ((0, 0), 4)) else ((0, 0), 2)) else ((0, 0), 4)) : (Int × Int) × Int).2 ≠ 0 := by
          cases h5 : (altP a).2
          · simp
          · have h6 : rangedB (altP a).1 = false := by
              cases h7 : rangedB (altP a).1
              · rfl
              · exact absurd ⟨h5, h7⟩ hne
            rcases h12 with rfl | rfl <;> simp [h6]
        exact ⟨⟨fun h => absurd h h1, fun h => absurd h h2⟩, fun h => absurd h h1⟩
      · rw [ha] at a1
        have e1 := a2 a1.symm
        simp only [Bool.and_eq_true] at ha
        have hr := a1.symm
        simp only [Bool.and_eq_true] at hr
        have hin := a4 ha.2
        rw [ha.1, ha.2, hr.1, e1]
        rw [e1] at hin
        rcases h12 with rfl | rfl
        · simp only [hr.2, rhi]
          have : ¬ (6000000 < (altP a).1) := by omega
          simp [this, hr.2, rhi]
        · simp only [hr.2, rlo]
          have : ¬ ((altP a).1 < -200000) := by omega
          simp [this, hr.2, rlo]
    · have k1 : ¬ kind = 1 := fun h => h12 (.inl h)
      have k2 : ¬ kind = 2 := fun h => h12 (.inr h)
      simp only [k1, k2, if_false]
      cases ha : ((raltP a).2.1 && (raltP a).2.2)
      · rw [ha] at a1
        cases h5 : (raltP a).2.1
        · cases h8 : (altP a).2
          · simp
          · have h6 : rangedB (altP a).1 = false := by rw [h8] at a1; simpa using a1.symm
            cases (altP b).2 <;> simp [h6]
        · have h6 : (raltP a).2.2 = false := by rw [h5] at ha; simpa using ha
          cases h8 : (altP a).2
          · cases (raltP b).2.1 <;> simp [h6]
          · have h7 : rangedB (altP a).1 = false := by rw [h8] at a1; simpa using a1.symm
            cases (altP b).2 <;> cases (raltP b).2.1 <;> simp [h6, h7]
      · rw [ha] at a1
        have e1 := a2 a1.symm
        simp only [Bool.and_eq_true] at ha
        have hr := a1.symm
        simp only [Bool.and_eq_true] at hr
        rw [ha.1, ha.2, hr.1, e1, hr.2]
        cases hb : ((raltP b).2.1 && (raltP b).2.2)
        · rw [hb] at b1
          cases h5 : (raltP b).2.1
          · cases h8 : (altP b).2
            · simp
            · have h6 : rangedB (altP b).1 = false := by rw [h8] at b1; simpa using b1.symm
              simp [h6]
          · have h6 : (raltP b).2.2 = false := by rw [h5] at hb; simpa using hb
            cases h8 : (altP b).2
            · simp [h6]
            · have h7 : rangedB (altP b).1 = false := by rw [h8] at b1; simpa using b1.symm
              simp [h6, h7]
        · rw [hb] at b1
          have e2 := b2 b1.symm
          simp only [Bool.and_eq_true] at hb
          have hr2 := b1.symm
          simp only [Bool.and_eq_true] at hr2
          rw [hb.1, hb.2, hr2.1, e2, hr2.2]
          simp
  rw [parseWinO_eq]
  unfold rparseWinS
  by_cases h45 : s = [45]
  · subst h45
    rw [if_pos rfl, winP_1]
    decide
  · rw [if_neg h45]
    cases h58 : (cutAt 58 s).2.2
    · simp only [Bool.false_eq_true, if_false]
      cases h43 : (cutSuf 43 s).2
      · simp only [Bool.false_eq_true, if_false]
        cases h4 : (cutSuf 45 s).2
        · simp only [Bool.false_eq_true, if_false]
          exact key s s 0 _ (by rw [winP_5 h45 h58 h43 h4]; simp) (by intro h; omega)
        · simp only [if_true]
          exact key _ _ 2 _ (by rw [winP_4 h45 h58 h43 h4]; simp) (fun _ => rfl)
      · simp only [if_true]
        exact key _ _ 1 _ (by rw [winP_3 h45 h58 h43]; simp) (fun _ => rfl)
    · simp only [if_true]
      exact key _ _ 3 _ (by rw [winP_2 h45 h58]; simp) (by intro h; omega)
end Go.Proofs.YtcgmemkkcaipfaaGreatDoor
namespace Go.Proofs.YtcgmemkkcaipfaaGreatDoor
open Go.RowKit
set_option linter.unusedVariables false
set_option linter.unusedSimpArgs false
/-- strconv.Atoi's number, its error left aside. -/
def atoiP (l : List UInt8) : Int := match Lib.atoiAll l with | .ok n => n | .range => Lib.atoiSat l | .syntax => 0
theorem atoiP_small : ∀ n : Fin 61, atoiP (Lib.itoa (n.val : Int)) = (n.val : Int) := by decide +kernel
theorem atoiP_itoa {n : Int} (h0 : 0 ≤ n) (h : n ≤ 60) : atoiP (Lib.itoa n) = n := by
  obtain ⟨u, rfl⟩ : ∃ u : Nat, n = u := ⟨n.toNat, by omega⟩
  exact atoiP_small ⟨u, by omega⟩
structure EditV where
  op : Int
  at_ : Int
  ref : List UInt8
  name : List UInt8
  rway : List UInt8
  trans : List UInt8
  lo : Int
  hi : Int
  speed : Int
  course : Int
  dist : Int
  turn : Int
def edit0 : EditV := ⟨0, 0, [], [], [], [], 0, 0, 0, 0, 0, 0⟩
/-- The fields in the order of the check; the letters are the program's. -/
def edOrder : List UInt8 := [97, 114, 110, 119, 116, 104, 115, 99, 100, 117]
/-- The fields that an operation uses, in the order of its text. -/
def formF (op : Int) : List UInt8 :=
  ([[], [97, 114], [97], [97], [97, 104], [97, 115], [97, 100], [97, 99, 100, 117], [97, 114, 110], [110, 119, 116], [110, 119, 116], [110, 116], [97, 110]] : List (List UInt8)).getD op.toNat []
/-- The word of an operation. -/
def formW (op : Int) : List UInt8 :=
  ([[], [73, 78, 83, 69, 82, 84], [68, 69, 76, 69, 84, 69], [68, 73, 82, 69, 67, 84], [65, 76, 84], [83, 80, 68], [82, 78, 80], [72, 79, 76, 68], [65, 73, 82, 87, 65, 89],
    [68, 69, 80, 65, 82, 84, 85, 82, 69], [65, 82, 82, 73, 86, 65, 76], [65, 80, 80, 82, 79, 65, 67, 72], [68, 73, 86, 69, 82, 84]] : List (List UInt8)).getD op.toNat []
def betweenS (n lo hi : Int) : Int := if n < lo ∨ hi < n then 2 else 0
def namedS (b : Bool) : Int := if b then 0 else 5
def checkF (e : EditV) (c : UInt8) : Int :=
  if c = 97 then betweenS e.at_ 0 60
  else if c = 114 then namedS (refB e.ref)
  else if c = 110 then (if e.op = 12 then namedS (pairB e.name 47 6) else namedS (nameB e.name 8))
  else if c = 119 then namedS (e.rway.isEmpty || nameB e.rway 6)
  else if c = 116 then namedS (e.trans.isEmpty || nameB e.trans 8)
  else if c = 104 then (if e.lo < -200000 ∨ e.hi < e.lo ∨ 6000000 < e.hi then 2 else 0)
  else if c = 115 then betweenS e.speed 0 1000
  else if c = 99 then betweenS e.course 0 129599999
  else if c = 100 then (if e.op = 6 then betweenS e.dist 0 120000 else betweenS e.dist 1 2000000)
  else if c = 117 then (if e.turn = 1 ∨ e.turn = 2 then 0 else 1)
  else 0
def zeroF (e : EditV) (c : UInt8) : Bool :=
  if c = 97 then e.at_ == 0
  else if c = 114 then e.ref.isEmpty
  else if c = 110 then e.name.isEmpty
  else if c = 119 then e.rway.isEmpty
  else if c = 116 then e.trans.isEmpty
  else if c = 104 then e.lo == 0 && e.hi == 0
  else if c = 115 then e.speed == 0
  else if c = 99 then e.course == 0
  else if c = 100 then e.dist == 0
  else e.turn == 0
/-- What the check of one field says. -/
def stE (e : EditV) (c : UInt8) : Int := if (formF e.op).contains c then checkF e c else if zeroF e c then 0 else 1
def chkGo (e : EditV) : List UInt8 → Int
  | [] => 0
  | c :: r => orE (stE e c) (chkGo e r)
/-- The first error of an edit. -/
def editCheck (e : EditV) : Int := if e.op < 1 ∨ 12 < e.op then 17 else chkGo e edOrder
def writeF (e : EditV) (c : UInt8) : List UInt8 :=
  if c = 97 then Lib.itoa e.at_
  else if c = 114 then e.ref
  else if c = 110 then e.name
  else if c = 119 then dashB e.rway
  else if c = 116 then dashB e.trans
  else if c = 104 then (winT e.lo e.hi).1
  else if c = 115 then Lib.itoa e.speed
  else if c = 99 then exactS e.course.toNat
  else if c = 100 then (distT e.dist).1
  else if e.turn = 1 then [76] else [82]
/-- The words of an edit's fields, each behind a blank. -/
def tailT (e : EditV) : List UInt8 → List UInt8
  | [] => []
  | c :: r => 32 :: (writeF e c ++ tailT e r)
/-- The text of an edit. -/
def editText (e : EditV) : List UInt8 := if editCheck e != 0 then [] else formW e.op ++ tailT e (formF e.op)
def readF (e : EditV) (c : UInt8) (s : List UInt8) : EditV :=
  if c = 97 then { e with at_ := atoiP s }
  else if c = 114 then { e with ref := s }
  else if c = 110 then { e with name := s }
  else if c = 119 then (if s = [45] then e else { e with rway := s })
  else if c = 116 then (if s = [45] then e else { e with trans := s })
  else if c = 104 then { e with lo := (parseWinS s).1.1, hi := (parseWinS s).1.2 }
  else if c = 115 then { e with speed := numP s }
  else if c = 99 then { e with course := (parseExS s).1 }
  else if c = 100 then { e with dist := (distP s).1 }
  else { e with turn := if s = [76] then 1 else 2 }
def readGo : EditV → List UInt8 → List (List UInt8) → EditV
  | e, c :: r, s :: ws => readGo (readF e c s) r ws
  | e, _, _ => e
/-- What was read, if its text is the one. -/
def okP (s : List UInt8) (e : EditV) : Option EditV := if editText e = s then some e else none
/-- The operation's reading of a text, if its word and the number of its fields fit and the text is that of what was read. -/
def tryOp (s : List UInt8) (ws : List (List UInt8)) (op : Int) : Option EditV :=
  if op = 0 ∨ formW op ≠ ws.headD [] ∨ (formF op).length ≠ ws.length - 1 then none
  else okP s (readGo { edit0 with op := op } (formF op) ws.tail)
/-- edit.Parse from an operation on; n operations are left. -/
def parseFrom (s : List UInt8) (ws : List (List UInt8)) : Nat → Nat → EditV × Int
  | _, 0 => (edit0, 4)
  | k, n + 1 => match tryOp s ws k with
    | some e => (e, 0)
    | none => parseFrom s ws (k + 1) n
def editParse (s : List UInt8) : EditV × Int := parseFrom s (splitC 32 s) 0 13
/-! The reference's order of reading. -/
def smallS (s : List UInt8) : Int := if s.length ≤ 4 ∧ s.all isD = true then (val s : Int) else 0
def rreadF (e : EditV) (c : UInt8) (s : List UInt8) : EditV :=
  if c = 97 then { e with at_ := smallS s }
  else if c = 114 then { e with ref := s }
  else if c = 110 then { e with name := s }
  else if c = 119 then { e with rway := undashB s }
  else if c = 116 then { e with trans := undashB s }
  else if c = 104 then { e with lo := (rparseWinS s).1.1, hi := (rparseWinS s).1.2 }
  else if c = 115 then { e with speed := smallS s }
  else if c = 99 then { e with course := (parseExS s).1 }
  else if c = 100 then { e with dist := (distP s).1 }
  else { e with turn := if s = [82] then 2 else 1 }
def rreadGo : EditV → List UInt8 → List UInt8 → EditV
  | e, [], _ => e
  | e, c :: r, s => rreadGo (rreadF e c (head32 s)) r (tail32 s)
def opOf (w : List UInt8) : Int := (((List.range 12).map fun (i : Nat) => (i : Int) + 1).foldl (fun o k => if formW k = w then k else o) 0)
def okR (s : List UInt8) (e : EditV) : EditV × Int := if editText e = [] ∨ editText e ≠ s then (edit0, 4) else (e, 0)
def reditParse (s : List UInt8) : EditV × Int := okR s (rreadGo { edit0 with op := opOf (head32 s) } (formF (opOf (head32 s))) (tail32 s))
end Go.Proofs.YtcgmemkkcaipfaaGreatDoor
namespace Go.Proofs.YtcgmemkkcaipfaaGreatDoor
open Go.RowKit
set_option linter.unusedVariables false
set_option linter.unusedSimpArgs false
theorem altN_lenT8 {m : Nat} (h : m ≤ 6000000) : (altN m).length ≤ 8 := by
  have h1 : (Lib.decDigits (m / 100)).length ≤ 5 := dec_len (by decide) (by omega)
  have h2 : (Lib.decDigits (m % 100 / 10)).length ≤ 1 := dec_len (by decide) (by omega)
  have h3 : (Lib.decDigits (m % 10)).length ≤ 1 := dec_len (by decide) (by omega)
  unfold altN
  split <;> simp <;> omega
theorem altS_lenT9 {a : Int} (h0 : -200000 ≤ a) (h : a ≤ 6000000) : (altS a).length ≤ 9 := by
  have := altN_lenT8 (m := a.natAbs) (by omega)
  unfold altS
  split <;> simp <;> omega
theorem winS_lenT19 {lo hi : Int} (h : winOk lo hi) : (winS lo hi).length ≤ 19 := by
  obtain ⟨h1, h2, h3⟩ := h
  have a := altS_lenT9 h1 (by omega)
  have b := altS_lenT9 (a := hi) (by omega) h3
  unfold winS
  repeat' split
  all_goals simp
  all_goals omega
theorem tx_tight {l : Leg} (h : LegOk l) : ∀ s ∈ [exactS l.course.toNat, 100 :: distS l.dist.toNat, 114 :: distS l.radius.toNat, exactS l.theta.toNat, winS l.lo l.hi, Lib.decDigits l.speed.toNat, 110 :: distS l.rnp.toNat], s.length ≤ 26 := by
  obtain ⟨hw, _, s0, s1, r0, r1⟩ := limits_of h.limits
  have e1 := exactS_len l.course.toNat
  have e2 := exactS_len l.theta.toNat
  have hd : l.dist.toNat ≤ 8000000 := by
    cases hb : uB l.ty 32
    · have := num_free h.dist hb; omega
    · have := num_used h.dist hb; omega
  have hr : l.radius.toNat ≤ 8000000 := by
    cases hb : uB l.ty 64
    · have := num_free h.radius hb; omega
    · have := num_used h.radius hb; omega
  have e3 := distS_len hd
  have e4 := distS_len hr
  have e5 := winS_lenT19 hw
  have e6 : (Lib.decDigits l.speed.toNat).length ≤ 4 := dec_len (by decide) (by omega)
  have e7 := distS_len (d := l.rnp.toNat) (by omega)
  simp only [List.mem_cons, List.not_mem_nil, or_false, forall_eq_or_imp, forall_eq, List.length_cons]
  refine ⟨?_, ?_, ?_, ?_, ?_, ?_, ?_⟩ <;> omega
theorem spanW_leT {B : Nat} : ∀ ws : List (List UInt8), (∀ s ∈ ws, s.length ≤ B) → spanW ws ≤ ws.length * (B + 1)
  | [], _ => by simp [spanW]
  | a :: q, h => by
    have h1 := spanW_leT q fun s hs => h s (by simp [hs])
    have h2 := h a (by simp)
    rw [spanW_cons, List.length_cons, Nat.add_mul]
    omega
theorem ref_lenT {s : List UInt8} (h : refB s = true) : s.length ≤ 13 := by
  have h0 : (splitRef s).2.2 = 0 := by simpa [refB] using h
  unfold splitRef splitRef3 at h0
  by_cases hq : (cutAt 47 s).2.2 = true
  · rw [if_pos hq] at h0
    by_cases hn : (nameB (cutAt 47 s).1 6 && (nameB (cutAt 47 s).2.1 6 || shortB (cutAt 47 s).2.1)) = true
    · have hp := congrArg List.length (cutAt_parts 47 s hq)
      simp only [Bool.and_eq_true, Bool.or_eq_true] at hn
      have nl : ∀ {l : List UInt8}, nameB l 6 = true → l.length ≤ 6 := fun {l} h => by
        unfold nameB at h
        split at h
        · cases h
        · simp only [Bool.and_eq_true, decide_eq_true_eq] at h; omega
      have a1 := nl hn.1
      have a2 : (cutAt 47 s).2.1.length ≤ 6 := by
        rcases hn.2 with h2 | h2
        · exact nl h2
        · unfold shortB at h2; simp only [Bool.and_eq_true, beq_iff_eq] at h2; omega
      simp only [List.length_append, List.length_cons] at hp
      omega
    · rw [if_neg hn] at h0; cases h0
  · rw [if_neg hq] at h0; cases h0
theorem textS_lenT {l : Leg} (h : legCheck l = 0) : (textS l).length ≤ 335 := by
  have hO := legOk_of h
  have hne : legWords l (txOf l) ≠ [] := by rw [legWords_eq]; simp
  have h1 := join_len _ hne
  have h2 := legWords_len l (txOf l)
  have h3 : ∀ s ∈ legWords l (txOf l), s.length ≤ 27 := by
    intro s hs
    have h3 := nameOf_len l.ty
    have hm := tx_tight hO
    simp only [List.mem_cons, List.not_mem_nil, or_false, forall_eq_or_imp, forall_eq, List.length_cons] at hm
    obtain ⟨m1, m2, m3, m4, m5, m6, m7⟩ := hm
    simp only [legWords, List.mem_append, List.mem_singleton] at hs
    have big : ∀ {b : Bool} {t x : List UInt8}, (b = true → t.length ≤ 27) → x ∈ opt b t → x.length ≤ 27 := fun {b t x} ht hx => by
      cases b
      · cases hx
      · have : x = t := by simpa [opt] using hx
        rw [this]; exact ht rfl
    rcases hs with (((((((((((hs | hs) | hs) | hs) | hs) | hs) | hs) | hs) | hs) | hs) | hs) | hs)
    · rw [hs]; omega
    · exact big (fun hb => by have := ref_lenT (refB_iff.2 (by have := hO.fix; rwa [hb] at this)); omega) hs
    · exact big (fun hb => by have := ref_lenT (refB_iff.2 (by have := hO.center; rwa [hb] at this)); simp only [List.length_cons]; omega) hs
    · exact big (fun hb => by split <;> simp) hs
    all_goals exact big (fun hb => by simp only [txOf, List.length_cons, List.length_nil]; omega) hs
  have h4 := spanW_leT _ h3
  rw [textS_eq h]
  have h5 : (legWords l (txOf l)).length * (27 + 1) ≤ 12 * 28 := Nat.mul_le_mul h2 (Nat.le_refl _)
  omega
theorem nameB_lenT {l : List UInt8} {m : Nat} (h : nameB l m = true) : l.length ≤ m := by
  unfold nameB at h
  split at h
  · cases h
  · simp only [Bool.and_eq_true, decide_eq_true_eq] at h; omega
theorem pairB_lenT {l : List UInt8} {c : UInt8} {m : Nat} (h : pairB l c m = true) : l.length ≤ 2 * m + 1 := by
  unfold pairB pair3 at h
  simp only [Bool.and_eq_true, Bool.or_eq_true, Bool.not_eq_true'] at h
  obtain ⟨h1, h2⟩ := h
  have a1 := nameB_lenT h1
  cases hq : (cutAt c l).2.2
  · rw [cutAt_falseS c l hq] at a1; omega
  · rw [hq] at h2
    have h2 : nameB (cutAt c l).2.1 m = true := by simpa using h2
    have a2 := nameB_lenT h2
    have hp := congrArg List.length (cutAt_parts c l hq)
    simp only [List.length_append, List.length_cons] at hp
    omega
theorem dash_lenT {s : List UInt8} {n : Nat} (h : s.length ≤ n) (hn : 1 ≤ n) : (dashB s).length ≤ n := by
  unfold dashB
  split
  · simpa using hn
  · exact h
theorem itoa_lenT {n : Int} (h0 : -9999999 ≤ n) (h1 : n ≤ 9999999) : (Lib.itoa n).length ≤ 8 := by
  by_cases hn : 0 ≤ n
  · obtain ⟨u, rfl⟩ : ∃ u : Nat, n = u := ⟨n.toNat, by omega⟩
    rw [Lib.itoa_nonneg]
    have := dec_len (u := u) (k := 7) (by decide) (by omega)
    omega
  · obtain ⟨u, rfl⟩ : ∃ u : Nat, n = -(u : Int) := ⟨n.natAbs, by omega⟩
    rw [Lib.itoa_neg u (by omega)]
    have := dec_len (u := u) (k := 7) (by decide) (by omega)
    simp; omega
theorem point_lenT {s : List UInt8} {x y : Int} (hx : -2000000 ≤ x ∧ x ≤ 2000000) (hy : -2000000 ≤ y ∧ y ≤ 2000000) : (pointText s x y).length ≤ 17 := by
  unfold pointText
  have := itoa_lenT (n := x) (by omega) (by omega)
  have := itoa_lenT (n := y) (by omega) (by omega)
  split
  · simp
  · simp; omega
theorem line_lenT {x : Entry} (h : x.gap = false → aloneE x = 0) : (lineOf txOf x).length ≤ 399 := by
  cases hg : x.gap
  · obtain ⟨hl, s1, s5, hv, ex, ey, mx, my, _⟩ := alone_parts (h hg)
    obtain ⟨c, hc, _⟩ := letter_sec s1 s5
    have a1 := textS_lenT hl
    have a2 := point_lenT (s := x.leg.fix) ex ey
    have a3 := point_lenT (s := x.leg.center) mx my
    have a4 : (dashB x.via).length ≤ 17 := by
      refine dash_lenT ?_ (by omega)
      unfold viaB at hv
      rcases Bool.or_eq_true_iff.1 hv with hv | hv
      · have : x.via = [] := by simpa using hv
        rw [this]; simp
      · exact pairB_lenT (m := 8) hv
    rw [lineOf_parts hg c hc]
    simp only [List.length_append, List.length_cons, List.length_nil]
    omega
  · unfold lineOf
    rw [hg]
    simp
theorem join_lenT (c : UInt8) : ∀ ls : List (List UInt8), (∀ s ∈ ls, s.length ≤ 399) → (Lib.join ls [c]).length ≤ 400 * ls.length
  | [], _ => by simp [Lib.join]
  | [a], h => by
    have : Lib.join [a] [c] = a := by simp [Lib.join]
    have := h a (by simp)
    simp_all; omega
  | a :: b :: r, h => by
    have e : Lib.join (a :: b :: r) [c] = a ++ c :: Lib.join (b :: r) [c] := by simp [Lib.join]
    have h1 := h a (by simp)
    have h2 := join_lenT c (b :: r) (fun s hs => h s (by simp [hs]))
    rw [e]
    simp only [List.length_append, List.length_cons] at *
    omega
theorem planT_len {p : Plan} (h : planCheck p = 0) : (planT p).length ≤ 24400 := by
  obtain ⟨hlen, hgo, a1, a2⟩ := planCheck_ok h
  obtain ⟨h1, h2⟩ := place_of h
  have pl : ∀ s : List UInt8, placeB s = true → (dashB s).length ≤ 13 := fun s hs => by
    refine dash_lenT ?_ (by omega)
    unfold placeB at hs
    rcases Bool.or_eq_true_iff.1 hs with hs | hs
    · have : s = [] := by simpa using hs
      rw [this]; simp
    · exact pairB_lenT (m := 6) hs
  have b1 := pl _ h1
  have b2 := pl _ h2
  have b3 := itoa_lenT (n := p.active) (by omega) (by omega)
  rw [planT_eq h]
  have := join_lenT 10 (headLine p :: p.es.map (lineOf txOf)) (fun s hs => by
    rcases List.mem_cons.1 hs with rfl | hs
    · rw [head_parts]
      simp only [List.length_append, List.length_cons, List.length_nil]
      omega
    · obtain ⟨x, hx, rfl⟩ := List.mem_map.1 hs
      exact line_lenT (fun hg => check_each _ _ _ hgo x hx hg))
  simp only [List.length_cons, List.length_map] at this
  omega
/-! What the two parsers answer. -/
def plan0 : Plan := ⟨[], [], [], 0⟩
def parseP (s : List UInt8) : Plan × Int :=
  match readP s with
  | none => (plan0, 4)
  | some p => if planT p = [] ∨ planT p ≠ s then (plan0, 4) else (p, 0)
def parseR (s : List UInt8) : Plan × Int :=
  if 24400 < s.length then (plan0, 4) else if planT (readR s) = [] ∨ planT (readR s) ≠ s then (plan0, 4) else (readR s, 0)
theorem parseP_ok {p : Plan} (h : planCheck p = 0) : parseP (planT p) = (p, 0) := by
  unfold parseP
  rw [(read_back h).1]
  simp only
  rw [if_neg]
  intro e
  rcases e with e | e
  · exact planT_ne h e
  · exact e rfl
theorem parseR_ok {p : Plan} (h : planCheck p = 0) : parseR (planT p) = (p, 0) := by
  unfold parseR
  rw [(read_back h).2, if_neg (by have := planT_len h; omega), if_neg]
  intro e
  rcases e with e | e
  · exact planT_ne h e
  · exact e rfl
theorem parseP_cases (s : List UInt8) : parseP s = (plan0, 4) ∨ ∃ p, planCheck p = 0 ∧ planT p = s ∧ parseP s = (p, 0) := by
  unfold parseP
  cases hr : readP s with
  | none => exact .inl rfl
  | some p =>
    simp only
    by_cases hc : planT p = [] ∨ planT p ≠ s
    · rw [if_pos hc]; exact .inl rfl
    · rw [if_neg hc]
      simp only [not_or, ne_eq, Decidable.not_not] at hc
      refine .inr ⟨p, ?_, hc.2, rfl⟩
      by_cases hk : planCheck p = 0
      · exact hk
      · exact absurd (planT_bad hk) hc.1
theorem parseR_cases (s : List UInt8) : parseR s = (plan0, 4) ∨ ∃ p, planCheck p = 0 ∧ planT p = s ∧ parseR s = (p, 0) := by
  unfold parseR
  split
  · exact .inl rfl
  · by_cases hc : planT (readR s) = [] ∨ planT (readR s) ≠ s
    · rw [if_pos hc]; exact .inl rfl
    · rw [if_neg hc]
      simp only [not_or, ne_eq, Decidable.not_not] at hc
      refine .inr ⟨readR s, ?_, hc.2, rfl⟩
      by_cases hk : planCheck (readR s) = 0
      · exact hk
      · exact absurd (planT_bad hk) hc.1
/-- The program and the reference read every text alike. -/
theorem parse_same (s : List UInt8) : parseP s = parseR s := by
  rcases parseP_cases s with h | ⟨p, hk, rfl, h⟩
  · rcases parseR_cases s with h2 | ⟨p, hk, rfl, h2⟩
    · rw [h, h2]
    · rw [parseP_ok hk, parseR_ok hk]
  · rw [parseP_ok hk, parseR_ok hk]
end Go.Proofs.YtcgmemkkcaipfaaGreatDoor
