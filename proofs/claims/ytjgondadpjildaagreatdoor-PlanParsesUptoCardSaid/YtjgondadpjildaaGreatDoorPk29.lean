/- strings.Split and strings.SplitN at one byte. Altitudes, windows and distances read: record.altitude, window, ParseWindow, ParseDist; leg.dist, leg.speed, leg.ref. Distances read: record.ParseDist, leg.dist, leg.speed. leg.dist, leg.speed. -/
import Derived.Test.YtjgondadpjildaaGreatDoorPk20
import Derived.Test.YtjgondadpjildaaGreatDoorPk21
import Derived.Test.YtjgondadpjildaaGreatDoorPk19
import Derived.Lib.AtoiErrMem
import Derived.Lib.ConvBytes
namespace Go.Proofs.YtjgondadpjildaaGreatDoor
open Go.RowKit Go.Sort
set_option linter.unusedVariables false
set_option linter.unusedSimpArgs false
set_option maxRecDepth 100000
theorem splitC_len (c : UInt8) (l : List UInt8) : (splitC c l).length = l.count c + 1 := by
  induction l with
  | nil => rfl
  | cons x r ih =>
    by_cases hx : x = c
    · simp [splitC, hx, ih]
    · rw [List.count_cons_of_ne hx]
      unfold splitC
      rw [if_neg hx]
      have h1 := splitC_ne c r
      match h : splitC c r with
      | [] => exact absurd h h1
      | a :: q => rw [h] at ih; simpa using ih
theorem splitK_splitC (c : UInt8) : ∀ (k : Nat) (l : List UInt8), l.count c ≤ k → Lib.splitK [c] 0 k l = splitC c l
  | 0, l, h => by
    rw [Lib.splitK, splitC_cut]
    have h1 := count_cutAt c l
    cases hf : (cutAt c l).2.2
    · simp
    · rw [hf] at h1; simp at h1; omega
  | k + 1, l, h => by
    rw [Lib.splitK, splitC_cut]
    have h1 := count_cutAt c l
    cases hf : (cutAt c l).2.2
    · rw [if_pos (by rw [index_cutAt, hf]; rfl)]; simp
    · rw [if_neg (by rw [index_cutAt, hf]; first | (simp; done) | (simp; omega)), (drop_cutAt c l hf).1, (drop_cutAt c l hf).2]
      rw [hf] at h1
      simp only [if_true] at h1 ⊢
      rw [splitK_splitC c k _ (by omega)]
theorem splitK_cutN : ∀ (k : Nat) (l : List UInt8), Lib.splitK [32] 0 k l = cutN k l
  | 0, l => rfl
  | k + 1, l => by
    rw [Lib.splitK, cutN]
    cases hf : (cutAt 32 l).2.2
    · rw [if_pos (by rw [index_cutAt, hf]; rfl)]; simp
    · rw [if_neg (by rw [index_cutAt, hf]; first | (simp; done) | (simp; omega)), (drop_cutAt 32 l hf).1, (drop_cutAt 32 l hf).2, splitK_cutN k]
      simp
/-- Cutting at more blanks than there are bytes changes nothing. -/
theorem cutN_more : ∀ (k j : Nat) (l : List UInt8), l.length ≤ k → cutN (k + j) l = cutN k l
  | 0, j, l, h => by
    have : l = [] := List.eq_nil_of_length_eq_zero (by omega)
    subst this
    cases j with
    | zero => rfl
    | succ j => simp [cutN, cutAt]
  | k + 1, j, l, h => by
    rw [show k + 1 + j = (k + j) + 1 by omega, cutN, cutN]
    cases hf : (cutAt 32 l).2.2
    · simp
    · have := cutAt_lt 32 l hf
      simp only [if_true]
      rw [cutN_more k j _ (by omega)]
theorem cutN_min (k : Nat) (l : List UInt8) : cutN (min (k + 1) (l.length + 1) - 1) l = cutN k l := by
  by_cases h : k ≤ l.length
  · rw [show min (k + 1) (l.length + 1) - 1 = k by omega]
  · rw [show min (k + 1) (l.length + 1) - 1 = l.length by omega]
    obtain ⟨j, rfl⟩ : ∃ j, k = l.length + j := ⟨k - l.length, by omega⟩
    rw [cutN_more l.length j l (Nat.le_refl _)]
theorem splitB_strs (c : UInt8) (k : Nat) (l : List UInt8) : (Lib.splitB ⟨#[c]⟩ 0 k ⟨l.toArray⟩).map Value.string = (Lib.splitK [c] 0 k l).map fun q => Value.string ⟨q.toArray⟩ := by
  have h := Lib.splitB_data ⟨#[c]⟩ 0 k ⟨l.toArray⟩
  rw [← show _ = Lib.splitK [c] 0 k l from h, List.map_map]
  rfl
theorem splitB_len (c : UInt8) (k : Nat) (l : List UInt8) : (Lib.splitB ⟨#[c]⟩ 0 k ⟨l.toArray⟩).length = (Lib.splitK [c] 0 k l).length := by
  have := congrArg List.length (splitB_strs c k l)
  simpa using this
theorem countB_c (c : UInt8) (l : List UInt8) : Lib.countB ⟨l.toArray⟩ ⟨#[c]⟩ = l.count c := by
  have hc : Lib.countB ⟨l.toArray⟩ ⟨#[c]⟩ = Lib.count l [c] := by rfl
  rw [hc, Lib.count, countFrom_cutAt c _ l (by omega)]
def strCellsC (ws : List (List UInt8)) : Array Value := (ws.map fun q => Value.string ⟨q.toArray⟩).toArray
theorem splitC_any (c : UInt8) (l : List UInt8) (w : World) (hL : Laid w) (hl : l.length ≤ 4000000000) : Calls Tryz.prog 32 #[.string ⟨l.toArray⟩, .string ⟨#[c]⟩] w fun e w' =>
    e = .returned (.slice (some ⟨w.heap.size, 0, none⟩) (splitC c l).length (splitC c l).length) ∧ w' = w.alloc (.cells (strCellsC (splitC c l)) 9) := by
  obtain ⟨m, hm⟩ := hL.maxLen
  have h := Tryz.strings_Split ⟨l.toArray⟩ ⟨#[c]⟩ m w (by simp [ByteArray.size]; omega) hm (Nat.le_refl 1)
  rw [splitB_strs, countB_c, splitK_splitC c _ l (Nat.le_refl _), ← splitC_len] at h
  exact h
theorem splitC_strs (c : UInt8) (l : List UInt8) (w : World) (hL : Laid w) (hl : l.length ≤ 4000000000) (hc : l.length < 9000000000) : Calls Tryz.prog 32 #[.string ⟨l.toArray⟩, .string ⟨#[c]⟩] w (RetStrs w (splitC c l)) := by
  refine (splitC_any c l w hL hl).mono ?_
  rintro e w' ⟨rfl, rfl⟩
  refine ⟨_, rfl, ?_, (Below.refl _ _).alloc (Nat.le_refl _) _⟩
  have hlen : (splitC c l).length ≤ l.length + 1 := by rw [splitC_len]; have := List.count_le_length (a := c) (l := l); omega
  exact World.ownsRow_lit (e := 9) (base := w.heap.size) (size := 1) w (strCellsC (splitC c l)) (splitC c l).length (Nat.le_refl _) (by unfold maxLen; omega) (by simp [strCellsC])
end Go.Proofs.YtjgondadpjildaaGreatDoor
namespace Go.Proofs.YtjgondadpjildaaGreatDoor
open Go.RowKit Go.Sort
set_option linter.unusedVariables false
set_option linter.unusedSimpArgs false
set_option maxRecDepth 100000
theorem trimPre (c : UInt8) (l : List UInt8) : Lib.trimPrefix l [c] = (cutPre c l).1 ∧ Lib.hasPrefix l [c] = (cutPre c l).2 := by
  cases l with
  | nil => exact ⟨rfl, rfl⟩
  | cons x r =>
    by_cases h : x = c
    · subst h; simp [Lib.trimPrefix, Lib.hasPrefix, cutPre]
    · have h' : ¬ c = x := fun e => h e.symm
      simp [Lib.trimPrefix, Lib.hasPrefix, cutPre, h, h', List.isPrefixOf]
theorem hasSuf (c : UInt8) (l : List UInt8) : Lib.hasSuffix l [c] = decide (l.getLast? = some c) := by
  unfold Lib.hasSuffix
  rw [Bool.eq_iff_iff, List.isSuffixOf_iff_suffix, decide_eq_true_eq]
  constructor
  · rintro ⟨t, rfl⟩; simp
  · intro h
    obtain ⟨t, rfl⟩ := List.getLast?_eq_some_iff.1 h
    exact ⟨t, rfl⟩
theorem trimSuf (c : UInt8) (l : List UInt8) : Lib.trimSuffix l [c] = (cutSuf c l).1 ∧ Lib.hasSuffix l [c] = (cutSuf c l).2 := by
  unfold Lib.trimSuffix cutSuf
  rw [hasSuf]
  by_cases h : l.getLast? = some c
  · simp [h, List.dropLast_eq_take]
  · simp [h]
theorem cutPrefix_any (c : UInt8) (l : List UInt8) (w : World) : Calls Tryz.prog 259 #[.string ⟨l.toArray⟩, .string ⟨#[c]⟩] w (RetP w (.tuple #[.string ⟨(cutPre c l).1.toArray⟩, .bool (cutPre c l).2])) := by
  have h := Tryz.strings_CutPrefix ⟨l.toArray⟩ ⟨#[c]⟩ w
  simp only [(trimPre c l).1, (trimPre c l).2] at h
  exact h.mono fun e w' ⟨h1, h2⟩ => ⟨h1, h2.symm⟩
theorem cutSuffix_any (c : UInt8) (l : List UInt8) (w : World) (hl : l.length ≤ 4611686018427387904) : Calls Tryz.prog 248 #[.string ⟨l.toArray⟩, .string ⟨#[c]⟩] w (RetP w (.tuple #[.string ⟨(cutSuf c l).1.toArray⟩, .bool (cutSuf c l).2])) := by
  have h := Tryz.strings_CutSuffix ⟨l.toArray⟩ ⟨#[c]⟩ w (by simp [ByteArray.size]; omega)
  simp only [(trimSuf c l).1, (trimSuf c l).2] at h
  exact h.mono fun e w' ⟨h1, h2⟩ => ⟨h1, h2.symm⟩
theorem trimPrefix_any (c : UInt8) (l : List UInt8) (w : World) : Calls Tryz.prog 126 #[.string ⟨l.toArray⟩, .string ⟨#[c]⟩] w (RetP w (.string ⟨(cutPre c l).1.toArray⟩)) := by
  have h := Tryz.strings_TrimPrefix ⟨l.toArray⟩ ⟨#[c]⟩ w
  simp only [(trimPre c l).1] at h
  exact h.mono fun e w' ⟨h1, h2⟩ => ⟨h1, h2.symm⟩
/-- strconv.ParseInt of up to 18 digits. -/
theorem parseInt_any (l : List UInt8) (w : World) (hp : plainB l = true) (hl : l.length ≤ 18) : Calls Tryz.prog 75 #[.string ⟨l.toArray⟩, .int .i64 10, .int .i64 64] w (Ret w (.tuple #[.int .i64 (val l : Nat), .nilIface])) := by
  have hv := val_lt l (plainB_all hp)
  have h2 : 10 ^ l.length ≤ 10 ^ 18 := Nat.pow_le_pow_right (by decide) hl
  have h3 : (10 : Nat) ^ 18 = 1000000000000000000 := by decide
  have h := Tryz.strconv_ParseInt_10_at64_ok ⟨l.toArray⟩ (by simp [ByteArray.size]; omega) (val l : Nat) (parseInt_plain l (plainB_ne hp) (plainB_all hp) (by omega)) w
  refine h.mono fun e w' ⟨h1, h2⟩ => ⟨h1, ?_⟩
  rcases h2 with rfl | ⟨t, rfl⟩
  · exact Below.refl _ _
  · exact Lib.bytesWorld_below _ _ _
theorem cut_ret (l : List UInt8) (c : UInt8) (w : World) (hL : Laid w) (hl : l.length ≤ 4000000000) :
    Calls Tryz.prog 100 #[.string ⟨l.toArray⟩, .string ⟨#[c]⟩] w (Ret w (.tuple #[.string ⟨(cutAt c l).1.toArray⟩, .string ⟨(cutAt c l).2.1.toArray⟩, .bool (cutAt c l).2.2])) :=
  (cut_any l c w hL hl).mono fun e w' ⟨h1, n, h2⟩ => ⟨h1, by rw [h2]; exact below_drewN (Below.refl _ _) n⟩
theorem Ret.num {w w' : World} {n : Int} {b : Bool} {x : Int × Bool} (h : x = (n, b)) (hw : Below w.heap.size w w') : Ret w (numVal x) (.returned (.tuple #[.int .i64 n, .bool b])) w' := ⟨by rw [h], hw⟩
theorem Ret.ints {w w' : World} {n b : Int} {x : Int × Int} (h : x = (n, b)) (hw : Below w.heap.size w w') : Ret w (intsVal x) (.returned (.tuple #[.int .i64 n, .int .i64 b])) w' := ⟨by rw [h], hw⟩
theorem ref_any (l : List UInt8) (w : World) (hL : Laid w) (hl : l.length ≤ 4000000000) : Calls Tryz.prog 124 #[.string ⟨l.toArray⟩] w (Ret w (.bool (refB l))) := by
  have k := Lib.hid (splitRef_any l w hL hl)
  have HE := Lib.hid (show refB l = ((splitRef l).2.2 == 0) from rfl)
  generalize splitRef l = x at k HE
  obtain ⟨a, b, n⟩ := x
  go_enter Tryz.func124, Tryz.ntmps124
  go_wp2_with (go_at_call 102; ((with_reducible refine callQ k.out ?_); intro m))
  go_ret
  exact Ret.bool HE.out.symm (below_drewN (Below.refl _ _) _)
theorem feetV_bd (l : List UInt8) (h : plainB l = true) : 0 ≤ feetV l ∧ feetV l ≤ 1099511627776 := by
  unfold feetV
  split
  · rename_i hl
    have hv := val_lt l (plainB_all h)
    have h2 : 10 ^ l.length ≤ 10 ^ 9 := Nat.pow_le_pow_right (by decide) (by omega)
    have h3 : (10 : Nat) ^ 9 = 1000000000 := by decide
    omega
  · omega
theorem altP3_bad1 {m : Bool} {f h : List UInt8} {p : Bool} (hp : plainB f = false) : altP3 m f h p = (0, false) := by unfold altP3; rw [if_neg (by simp [hp])]
theorem altP3_bad2 {m : Bool} {f h : List UInt8} (hh : hundB h = false) : altP3 m f h true = (0, false) := by unfold altP3; rw [if_neg (by simp [hh])]
def altOut (m : Bool) (n : Int) : Int × Bool := if m then (-n, n != 0) else (n, true)
theorem altP3_ok {m : Bool} {f h : List UInt8} {p : Bool} (hp : plainB f = true) (hh : p = false ∨ hundB h = true) : altP3 m f h p = altOut m (feetV f * 100 + (if p then (val h : Int) else 0)) := by
  unfold altP3 altOut
  rw [if_pos ⟨hp, hh⟩]
  cases m
  · simp
  · simp only [if_true]
    refine Prod.ext rfl ?_
    rw [Bool.eq_iff_iff]
    simp
theorem hundB_two {h : List UInt8} (hh : hundB h = true) : ∃ a b : UInt8, h = [a, b] ∧ (48 ≤ a.toNat ∧ a.toNat ≤ 57) ∧ (48 ≤ b.toNat ∧ b.toNat ≤ 57) ∧ ¬ (a = 48 ∧ b = 48) := by
  match h, hh with
  | [a, b], hh => simp [hundB, isD] at hh; exact ⟨a, b, rfl, hh.1.1, hh.1.2, fun e => by rcases hh.2 with h | h; exact h e.1; exact h e.2⟩
theorem val_two (a b : UInt8) (ha : 48 ≤ a.toNat) (hb : 48 ≤ b.toNat) : (val [a, b] : Int) = ((a.toNat : Int) - 48) * 10 + ((b.toNat : Int) - 48) := by
  simp only [val, numV_cons, numV_nil]; omega
set_option maxHeartbeats 4000000 in
theorem altitude_any (l : List UInt8) (w : World) (hL : Laid w) (hl : l.length ≤ 4000000000) : Calls Tryz.prog 247 #[.string ⟨l.toArray⟩] w (Ret w (numVal (altP l))) := by
  have HE := Lib.hid (show altP l = altP3 (cutPre 45 l).2 (cutAt 46 (cutPre 45 l).1).1 (cutAt 46 (cutPre 45 l).1).2.1 (cutAt 46 (cutPre 45 l).1).2.2 from rfl)
  have k1 := Lib.hid (cutPrefix_any 45 l w)
  have hl1 := cutPre_len 45 l
  generalize cutPre 45 l = q at k1 hl1 HE
  obtain ⟨r, minus⟩ := q
  simp only at hl1
  have k2 := Lib.hid (cut_ret r 46 w hL (by omega))
  have hl2 := cutAt_len 46 r
  simp only at HE
  generalize cutAt 46 r = q at k2 hl2 HE
  obtain ⟨feet, hund, point⟩ := q
  simp only at hl2 HE
  obtain ⟨l2, l3⟩ := hl2
  generalize altP l = out at HE ⊢
  cases hp : plainB feet
  · have HO := Lib.hid (HE.out.trans (altP3_bad1 hp))
    have k3 := Lib.hid (plain_any feet w (by omega))
    rw [hp] at k3
    have HP := Lib.hid hp; clear hp HE
    go_enter Tryz.func247, Tryz.ntmps247
    go_wp2_with fail
    with_reducible refine callP k1.out ?_
    go_wp2_with fail
    with_reducible refine callR k2.out ?_
    intro w1 b1 _ _ _
    go_wp2_with fail
    with_reducible refine callP (plain_any feet w1 (by omega)) ?_
    rw [HP.out]
    go_wp2
    go_ret2
    exact Ret.num HO.out b1
  · have HP := Lib.hid hp; clear hp
    have fb := feetV_bd feet HP.out
    obtain ⟨fb1, fb2⟩ := fb
    have HF1 := Lib.hid (show feet.length < 10 → feetV feet = (val feet : Nat) from fun h => by unfold feetV; rw [if_pos h])
    have HF2 := Lib.hid (show ¬ feet.length < 10 → feetV feet = 1099511627776 from fun h => by unfold feetV; rw [if_neg h])
    have HF3 := Lib.hid (show feet.length < 10 → val feet ≤ 1099511627776 from fun h => by have := HF1.out h; omega)
    cases hpt : point
    · subst hpt
      have HO := Lib.hid (HE.out.trans (altP3_ok HP.out (.inl rfl)))
      clear HE
      generalize feetV feet = F at fb1 fb2 HF1 HF2 HF3 HO
      go_enter Tryz.func247, Tryz.ntmps247
      go_wp2_with fail
      with_reducible refine callP k1.out ?_
      go_wp2_with fail
      with_reducible refine callR k2.out ?_
      intro w1 b1 _ _ _
      go_wp2_with fail
      with_reducible refine callP (plain_any feet w1 (by omega)) ?_
      rw [HP.out]
      by_cases h10 : feet.length < 10
      · have HV := Lib.hid (HF1.out h10)
        have hv := HF3.out h10
        go_wp2_with fail
        with_reducible refine callR (parseInt_any feet w1 HP.out (by omega)) ?_
        intro w2 b2 _ _ _
        generalize val feet = V at HV hv ⊢
        obtain ⟨V', hV'⟩ : ∃ V' : Int, V' = (V : Nat) := ⟨_, rfl⟩
        rw [← hV']
        have hV0 : 0 ≤ V' := by omega
        have hV1 : V' ≤ 1099511627776 := by omega
        have HV' := Lib.hid hV'; clear hV' hv
        cases minus
        all_goals
          go_wp2
          go_ret2
          refine Ret.num ?_ (below_step b1 b2)
          rw [HO.out, HV.out, HV'.out]
          simp [altOut]
      · have HV := Lib.hid (HF2.out h10)
        cases minus
        all_goals
          go_wp2
          go_ret2
          refine Ret.num ?_ b1
          rw [HO.out, HV.out]
          rfl
    · subst hpt
      cases hh : hundB hund
      · have HO := Lib.hid (HE.out.trans (altP3_bad2 hh))
        have HH := Lib.hid hh; clear hh HE
        by_cases h2 : hund.length = 2
        · match hund, h2 with
          | [a, b], _ =>
            go_enter Tryz.func247, Tryz.ntmps247
            go_wp2_with fail
            with_reducible refine callP k1.out ?_
            go_wp2_with fail
            with_reducible refine callR k2.out ?_
            intro w1 b1 _ _ _
            go_wp2_with fail
            with_reducible refine callP (plain_any feet w1 (by omega)) ?_
            rw [HP.out]
            go_wp2
            all_goals first
              | (go_ret2; exact Ret.num HO.out b1)
              | (exfalso; have hx := HH.out; simp [hundB, isD] at hx; grind)
        · have h2' : ((hund.length : Int) != 2) = true := by
            simp only [bne_iff_ne]; omega
          go_enter Tryz.func247, Tryz.ntmps247
          go_wp2_with fail
          with_reducible refine callP k1.out ?_
          go_wp2_with fail
          with_reducible refine callR k2.out ?_
          intro w1 b1 _ _ _
          go_wp2_with fail
          with_reducible refine callP (plain_any feet w1 (by omega)) ?_
          rw [HP.out]
          go_wp2
          go_ret2
          exact Ret.num HO.out b1
      · obtain ⟨a, b, rfl, ⟨a1, a2⟩, ⟨b1, b2⟩, hn⟩ := hundB_two hh
        have HO := Lib.hid (HE.out.trans (altP3_ok HP.out (.inr hh)))
        simp only [if_true, val_two a b a1 b1] at HO
        clear HE hh
        have HNN := Lib.hid hn; clear hn
        generalize feetV feet = F at fb1 fb2 HF1 HF2 HF3 HO
        go_enter Tryz.func247, Tryz.ntmps247
        go_wp2_with fail
        with_reducible refine callP k1.out ?_
        go_wp2_with fail
        with_reducible refine callR k2.out ?_
        intro w1 e1 _ _ _
        go_wp2_with fail
        with_reducible refine callP (plain_any feet w1 (by omega)) ?_
        rw [HP.out]
        go_wp2
        all_goals try (exfalso; have hx := HNN.out; grind)
        rename_i hz
        clear hz
        go_quiet (fail)
        have L1 := below_drewN e1 nq
        generalize w1.drewN nq = w3 at L1 ⊢
        obtain ⟨k, hk⟩ : ∃ k : Int, k = ((a.toNat : Int) - 48) * 10 + ((b.toNat : Int) - 48) := ⟨_, rfl⟩
        rw [← hk] at HO ⊢
        have q0 : 0 ≤ k := by omega
        have q1 : k ≤ 99 := by omega
        clear hk
        by_cases h10 : feet.length < 10
        · have HV := Lib.hid (HF1.out h10)
          have hv := HF3.out h10
          go_wp2_with fail
          with_reducible refine callR (parseInt_any feet w3 HP.out (by omega)) ?_
          intro w2 c2 _ _ _
          generalize val feet = V at HV hv ⊢
          obtain ⟨V', hV'⟩ : ∃ V' : Int, V' = (V : Nat) := ⟨_, rfl⟩
          rw [← hV']
          have hV0 : 0 ≤ V' := by omega
          have hV1 : V' ≤ 1099511627776 := by omega
          have HV' := Lib.hid hV'; clear hV' hv
          cases minus
          all_goals
            go_wp2
            go_ret2
            refine Ret.num ?_ (below_step L1 c2)
            rw [HO.out, HV.out, HV'.out]
            simp [altOut]
        · have HV := Lib.hid (HF2.out h10)
          cases minus
          all_goals
            go_wp2
            go_ret2
            refine Ret.num ?_ L1
            rw [HO.out, HV.out]
            simp [altOut]
end Go.Proofs.YtjgondadpjildaaGreatDoor
namespace Go.Proofs.YtjgondadpjildaaGreatDoor
open Go.RowKit Go.Sort
set_option linter.unusedVariables false
set_option linter.unusedSimpArgs false
set_option maxRecDepth 100000
theorem distP3_bad1 {a r : List UInt8} {b : Bool} (hp : plainB a = false) : distP3 a r b = (0, 4) := by unfold distP3; rw [if_neg (by simp [hp])]
theorem distP3_bad2 {a r : List UInt8} (hr : restOk r = false) : distP3 a r true = (0, 4) := by unfold distP3; rw [if_neg (by simp [hr])]
theorem distP3_one {a r : List UInt8} (hp : plainB a = true) : distP3 a r false = if 9 < a.length then (0, 2) else if 8000000 < val a * 6000 then (0, 2) else (((val a * 6000 : Nat) : Int), 0) := by
  unfold distP3; rw [if_pos ⟨hp, .inl rfl⟩]; simp
theorem distP3_two {a r : List UInt8} (hp : plainB a = true) (hr : restOk r = true) : distP3 a r true = if 6000 ≤ val r then (0, 4) else if 9 < a.length then (0, 2) else if 8000000 < val a * 6000 + val r then (0, 2) else (((val a * 6000 + val r : Nat) : Int), 0) := by
  unfold distP3; rw [if_pos ⟨hp, .inr hr⟩]; simp
theorem val_nine {a : List UInt8} (hp : plainB a = true) (h : a.length ≤ 9) : val a < 1000000000 := by
  have hv := val_lt a (plainB_all hp)
  have h2 : 10 ^ a.length ≤ 10 ^ 9 := Nat.pow_le_pow_right (by decide) h
  have h3 : (10 : Nat) ^ 9 = 1000000000 := by decide
  omega
set_option maxHeartbeats 4000000 in
theorem parseDist_any (l : List UInt8) (w : World) (hL : Laid w) (hl : l.length ≤ 4000000000) : Calls Tryz.prog 183 #[.string ⟨l.toArray⟩] w (Ret w (intsVal (distP l))) := by
  have HE := Lib.hid (show distP l = distP3 (cutAt 43 l).1 (cutAt 43 l).2.1 (cutAt 43 l).2.2 from rfl)
  have k1 := Lib.hid (cut_ret l 43 w hL hl)
  have hl2 := cutAt_len 43 l
  generalize cutAt 43 l = q at k1 hl2 HE
  obtain ⟨miles, rest, two⟩ := q
  simp only at hl2 HE
  obtain ⟨l2, l3⟩ := hl2
  generalize distP l = out at HE ⊢
  cases hp : plainB miles
  · have HO := Lib.hid (HE.out.trans (distP3_bad1 hp))
    have HP := Lib.hid hp; clear hp HE
    go_enter Tryz.func183, Tryz.ntmps183
    go_wp2_with fail
    with_reducible refine callR k1.out ?_
    intro w1 b1 _ _ _
    go_wp2_with fail
    with_reducible refine callP (plain_any miles w1 (by omega)) ?_
    rw [HP.out]
    go_wp2
    go_ret2
    exact Ret.ints HO.out b1
  · have HP := Lib.hid hp; clear hp
    cases two
    · have HO := Lib.hid (HE.out.trans (distP3_one HP.out))
      clear HE
      go_enter Tryz.func183, Tryz.ntmps183
      go_wp2_with fail
      with_reducible refine callR k1.out ?_
      intro w1 b1 _ _ _
      go_wp2_with fail
      with_reducible refine callP (plain_any miles w1 (by omega)) ?_
      rw [HP.out]
      by_cases h9 : 9 < miles.length
      · go_wp2
        go_ret2
        exact Ret.ints (by rw [HO.out, if_pos h9]) b1
      · have hv := val_nine HP.out (by omega)
        go_wp2_with fail
        with_reducible refine callR (parseInt_any miles w1 HP.out (by omega)) ?_
        intro w2 b2 _ _ _
        have HO' := Lib.hid (HO.out.trans (if_neg h9))
        clear HO
        generalize val miles = V at HO' hv ⊢
        obtain ⟨V', hV'⟩ : ∃ V' : Int, V' = (V : Nat) := ⟨_, rfl⟩
        rw [← hV']
        have hV0 : 0 ≤ V' := by omega
        have hV1 : V' ≤ 1000000000 := by omega
        have HV' := Lib.hid hV'; clear hV' hv
        go_wp2
        all_goals
          go_ret2
          refine Ret.ints ?_ (below_step b1 b2)
          have e := HV'.out
          rw [HO'.out]
          first
            | (rw [if_pos (by omega)]; done)
            | (rw [if_neg (by omega)]; refine Prod.ext ?_ rfl; simp only; omega)
    · cases hr : plainB rest
      · have HO := Lib.hid (HE.out.trans (distP3_bad2 (by unfold restOk; rw [hr]; rfl)))
        have HR := Lib.hid hr; clear hr HE
        go_enter Tryz.func183, Tryz.ntmps183
        go_wp2_with fail
        with_reducible refine callR k1.out ?_
        intro w1 b1 _ _ _
        go_wp2_with fail
        with_reducible refine callP (plain_any miles w1 (by omega)) ?_
        rw [HP.out]
        go_wp2_with fail
        with_reducible refine callP (plain_any rest w1 (by omega)) ?_
        rw [HR.out]
        go_wp2
        go_ret2
        exact Ret.ints HO.out b1
      · have HR := Lib.hid hr; clear hr
        have HK := Lib.hid (show restOk rest = (!(rest == [48]) && decide (rest.length ≤ 4)) by unfold restOk; rw [HR.out]; rfl)
        cases hk : restOk rest
        · have HO := Lib.hid (HE.out.trans (distP3_bad2 hk))
          rw [hk] at HK
          clear HE hk
          go_enter Tryz.func183, Tryz.ntmps183
          go_wp2_with fail
          with_reducible refine callR k1.out ?_
          intro w1 b1 _ _ _
          go_wp2_with fail
          with_reducible refine callP (plain_any miles w1 (by omega)) ?_
          rw [HP.out]
          go_wp2_with fail
          with_reducible refine callP (plain_any rest w1 (by omega)) ?_
          rw [HR.out]
          go_wp2_with fail
          all_goals first
            | (go_ret2; exact Ret.ints HO.out b1)
            | (exfalso; have hx := HK.out; grind)
        · have HO := Lib.hid (HE.out.trans (distP3_two HP.out hk))
          rw [hk] at HK
          clear HE hk
          have hr4 : rest.length ≤ 4 := by have := HK.out; simp at this; omega
          have vr : val rest < 1000000000 := val_nine HR.out (by omega)
          go_enter Tryz.func183, Tryz.ntmps183
          go_wp2_with fail
          with_reducible refine callR k1.out ?_
          intro w1 b1 _ _ _
          have L1 := hL.below b1
          go_wp2_with fail
          with_reducible refine callP (plain_any miles w1 (by omega)) ?_
          rw [HP.out]
          go_wp2_with fail
          with_reducible refine callP (plain_any rest w1 (by omega)) ?_
          rw [HR.out]
          go_wp2_with fail
          all_goals try (exfalso; have hx := HK.out; grind)
          with_reducible refine callR (parseInt_any rest w1 HR.out (by omega)) ?_
          intro w2 b2 _ _ _
          generalize val rest = R at HO vr ⊢
          obtain ⟨R', hR'⟩ : ∃ R' : Int, R' = (R : Nat) := ⟨_, rfl⟩
          rw [← hR']
          have hR0 : 0 ≤ R' := by omega
          have hR1 : R' ≤ 1000000000 := by omega
          have HR' := Lib.hid hR'; clear hR' vr
          by_cases h9 : 9 < miles.length
          · go_wp2
            all_goals
              go_ret2
              refine Ret.ints ?_ (below_step b1 b2)
              have e := HR'.out
              rw [HO.out]
              first
                | (rw [if_pos (by omega)]; done)
                | (rw [if_neg (by omega), if_pos h9]; done)
          · have hv := val_nine HP.out (by omega)
            have vp := Lib.hid (fun w => parseInt_any miles w HP.out (by omega))
            generalize val miles = V at HO hv vp ⊢
            obtain ⟨V', hV'⟩ : ∃ V' : Int, V' = (V : Nat) := ⟨_, rfl⟩
            rw [← hV'] at vp
            have hV0 : 0 ≤ V' := by omega
            have hV1 : V' ≤ 1000000000 := by omega
            have HV' := Lib.hid hV'; clear hV' hv
            go_wp2_with (go_at_call 75; ((with_reducible refine callR (vp.out _) ?_); intro w3 b3 _ _ _))
            all_goals
              go_ret2
              first | refine Ret.ints ?_ (below_step (below_step b1 b2) b3) | refine Ret.ints ?_ (below_step b1 b2)
              have e := HR'.out
              have e2 := HV'.out
              rw [HO.out]
              first
                | (rw [if_pos (by omega)]; done)
                | (rw [if_neg (by omega), if_neg h9, if_pos (by omega)]; done)
                | (rw [if_neg (by omega), if_neg h9, if_neg (by omega)]; refine Prod.ext ?_ rfl; simp only; omega)
end Go.Proofs.YtjgondadpjildaaGreatDoor
namespace Go.Proofs.YtjgondadpjildaaGreatDoor
open Go.RowKit Go.Sort
set_option linter.unusedVariables false
set_option linter.unusedSimpArgs false
set_option maxRecDepth 100000
theorem legDist_nil (c : UInt8) : legDistS c [] = (0, false) := rfl
theorem legDist_no {c x : UInt8} {r : List UInt8} (h : ¬ x = c) : legDistS c (x :: r) = (0, false) := by unfold legDistS; dsimp only; rw [if_neg (fun e => h e.1)]
theorem legDist_bad {c : UInt8} {r : List UInt8} (h : ¬ ((distP r).2 = 0 ∧ (distP r).1 ≠ 0)) : legDistS c (c :: r) = (0, false) := by unfold legDistS; dsimp only; rw [if_neg (fun e => h e.2)]
theorem legDist_ok {c : UInt8} {r : List UInt8} (h : (distP r).2 = 0 ∧ (distP r).1 ≠ 0) : legDistS c (c :: r) = ((distP r).1, distS (distP r).1.toNat == r) := by unfold legDistS; dsimp only; rw [if_pos ⟨rfl, h⟩]
set_option maxHeartbeats 4000000 in
theorem legdist_any (c : UInt8) (l : List UInt8) (w : World) (hL : Laid w) (hl : l.length ≤ 4000000000) : Calls Tryz.prog 131 #[.int .u8 (c.toNat : Int), .string ⟨l.toArray⟩] w (Ret w (numVal (legDistS c l))) := by
  cases l with
  | nil =>
    go_enter Tryz.func131, Tryz.ntmps131
    go_wp2
    go_ret2
    exact Ret.num rfl (Below.refl _ _)
  | cons x r =>
    by_cases hx : x = c
    · subst hx
      have k1 := Lib.hid (parseDist_any r w hL (by simp at hl; omega))
      have HB := Lib.hid (legDist_bad (c := x) (r := r))
      have HK := Lib.hid (legDist_ok (c := x) (r := r))
      have HD := Lib.hid (distS_distP (s := r))
      generalize legDistS x (x :: r) = out at HB HK ⊢
      generalize distP r = q at k1 HB HK HD
      obtain ⟨d, e⟩ := q
      simp only at HB HK HD
      by_cases hok : e = 0 ∧ d ≠ 0
      · obtain ⟨rfl, hd⟩ := hok
        obtain ⟨d0, d1⟩ := HD.out rfl
        have k2 := Lib.hid (fun w L => distText_any d w L)
        rw [distT_in ⟨d0, d1⟩] at k2
        have HO := Lib.hid (HK.out ⟨rfl, hd⟩)
        have hd' : (d == 0) = false := by simpa using hd
        clear HB HK HD hd
        have h9 : (distS d.toNat).length ≤ 10 := distS_len (by omega)
        generalize distS d.toNat = D at k2 HO h9
        go_enter Tryz.func131, Tryz.ntmps131
        go_wp2_with fail
        with_reducible refine callR k1.out ?_
        intro w1 b1 _ _ _
        have L1 := hL.below b1
        go_wp2_with fail
        with_reducible refine callR (k2.out _ L1) ?_
        intro w2 b2 _ _ _
        go_wp2
        go_quiet (fail)
        go_wp2
        go_ret2
        refine Ret.num ?_ (below_drewN (below_step b1 b2) _)
        rw [HO.out]
      · have HO := Lib.hid (HB.out hok)
        have HN := Lib.hid hok
        clear HB HK HD hok
        go_enter Tryz.func131, Tryz.ntmps131
        go_wp2_with fail
        with_reducible refine callR k1.out ?_
        intro w1 b1 _ _ _
        go_wp2_with fail
        all_goals first
          | (go_ret2; exact Ret.num HO.out b1)
          | (exfalso; have := HN.out; grind)
    · have h1 : ((x.toNat : Int) != (c.toNat : Int)) = true := by simp only [bne, u8_ne hx]; rfl
      have HO := Lib.hid (legDist_no (r := r) hx)
      go_enter Tryz.func131, Tryz.ntmps131
      go_wp2
      go_ret2
      exact Ret.num HO.out (Below.refl _ _)
/-- The number so far: ten times what stood ahead, and a digit. -/
theorem speedS_no {l : List UInt8} (h : speedB l = false) : speedS l = (0, false) := by unfold speedS; rw [h]; rfl
theorem speedS_ok {l : List UInt8} (h : speedB l = true) : speedS l = ((val l.tail : Int), true) := by unfold speedS; rw [h]; rfl
theorem speedB_two (x y : UInt8) (r : List UInt8) : speedB (x :: y :: r) = (x == 115 && y != 48 && decide (r.length ≤ 3) && (y :: r).all isD) := rfl
set_option maxHeartbeats 4000000 in
theorem speed_any (l : List UInt8) (w : World) (hl : l.length ≤ 4000000000) : Calls Tryz.prog 189 #[.string ⟨l.toArray⟩] w (Ret w (numVal (speedS l))) := by
  by_cases h25 : 2 ≤ l.length ∧ l.length ≤ 5
  · match l, h25 with
    | x :: y :: r, h25 =>
      have hr : r.length ≤ 3 := by have := h25.2; simp at this; omega
      clear h25 hl
      by_cases hx : x = 115 ∧ ¬ y = 48
      · obtain ⟨rfl, hy⟩ := hx
        have HB := Lib.hid (show speedB (115 :: y :: r) = (y :: r).all isD by rw [speedB_two]; simp [hy, hr])
        have hy1 : ((y.toNat : Int) == 48) = false := u8_ne (d := 48) hy
        clear hy
        have cv := Lib.run_convert_string_bytes (P := Tryz.prog) w 9 125 5 ⟨(y :: r).toArray⟩ Tryz.underlying9 Tryz.underlying125 Tryz.underlying5
        have cb := Lib.bytesWorld_below w 5 ⟨(y :: r).toArray⟩
        have cc := Lib.hid (fun j hj => Lib.bytesWorld_cell w 5 ⟨(y :: r).toArray⟩ j hj)
        have HS := Lib.hid (fun h => speedS_ok (l := 115 :: y :: r) h)
        have HN := Lib.hid (fun h => speedS_no (l := 115 :: y :: r) h)
        simp only [List.tail_cons] at HS
        generalize hs : speedS (115 :: y :: r) = out at HS HN ⊢
        clear hs
        generalize hw1 : Lib.bytesWorld w 5 ⟨(y :: r).toArray⟩ = w1 at cv cb cc
        clear hw1
        go_enter Tryz.func189, Tryz.ntmps189
        go_wp2
        go_loop [4, 29] (fun n i => ∃ k : Nat, k ≤ r.length + 1 ∧ i = .int .i64 k ∧ n = .int .i64 (val ((y :: r).take k) : Nat) ∧ ((y :: r).take k).all isD = true) (fun _ i => r.length + 1 - (intOf i).toNat)
        case atStart => exact ⟨0, by omega, rfl, by simp [val, numV_nil], by simp⟩
        case round =>
          obtain ⟨k, hk, rfl, rfl, ha⟩ := hrel
          have hv := val_take_lt (y :: r) k (by omega) ha
          by_cases hlt : k < r.length + 1
          · have hlt' : k < (y :: r).length := by simpa using hlt
            have HS2 := Lib.hid (val_take_succ (y :: r) k hlt')
            have HA := Lib.hid (take_all_succ isD (y :: r) k hlt' ha)
            have HF := Lib.hid (fun hd => all_take_false (l := y :: r) hlt' hd)
            have hc : w1.cell? ⟨w.heap.size, k, none⟩ = some (.int .u8 ((y :: r)[k].toNat : Nat)) := by
              have := cc.out k (by simp [ByteArray.size]; omega)
              rw [this]; simp [List.getD, hlt]
            clear ha
            generalize val ((y :: r).take k) = m at hv HS2 ⊢
            generalize hcc : (y :: r)[k] = c at hc HS2 HA HF
            clear hcc
            go_wp2
            all_goals first
              | (go_ret2
                 refine Ret.num ?_ cb
                 exact HN.out (by rw [HB.out]; exact HF.out (by grind [isD])))
              | (go_round
                 case rel => exact ⟨k + 1, by omega, by go_num, by rw [HS2.out]; congr 1; omega, HA.out (by grind [isD])⟩
                 case measure => simp [intOf]; omega)
          · rw [List.take_of_length_le (by simp; omega)] at ha
            have HA := Lib.hid ha; clear ha
            have HT := Lib.hid (List.take_of_length_le (l := y :: r) (i := k) (by simp; omega))
            generalize (y :: r).take k = t at hv HT ⊢
            go_wp2
            go_ret2
            refine Ret.num ?_ cb
            rw [HT.out]
            exact HS.out (by rw [HB.out]; exact HA.out)
      · have HO := Lib.hid (speedS_no (l := x :: y :: r) (by rw [speedB_two]; grind))
        have HX := Lib.hid hx; clear hx
        generalize speedS (x :: y :: r) = out at HO ⊢
        have e1 := @u8_ne x 115
        have e2 := @u8_ne y 48
        by_cases hx1 : x = 115
        · by_cases hy1 : y = 48
          · subst hx1; subst hy1
            go_enter Tryz.func189, Tryz.ntmps189
            go_wp2
            go_ret2
            exact Ret.num HO.out (Below.refl _ _)
          · exact absurd ⟨hx1, hy1⟩ HX.out
        · have f1 : ((x.toNat : Int) != 115) = true := by simp only [bne, e1 hx1]; exact congrArg Bool.not (e1 hx1)
          clear e1 e2
          go_enter Tryz.func189, Tryz.ntmps189
          go_wp2
          go_ret2
          exact Ret.num HO.out (Below.refl _ _)
  · have HO := Lib.hid (speedS_no (l := l) (by
      match l, h25 with
      | [], _ => rfl
      | [x], _ => rfl
      | x :: y :: r, h25 => rw [speedB_two]; simp at h25; simp; intros; omega))
    generalize speedS l = out at HO ⊢
    have h25' := Lib.hid h25; clear h25
    by_cases h2 : l.length < 2
    · have h2' : (l.length : Int) < 2 := by omega
      go_enter Tryz.func189, Tryz.ntmps189
      go_wp2
      go_ret2
      exact Ret.num HO.out (Below.refl _ _)
    · have h5 : (5 : Int) < l.length := by have := h25'.out; omega
      go_enter Tryz.func189, Tryz.ntmps189
      go_wp2
      go_ret2
      exact Ret.num HO.out (Below.refl _ _)
end Go.Proofs.YtjgondadpjildaaGreatDoor
