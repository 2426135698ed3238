/- Layer 58: ParseNumber from 0 to 1000. Layer 58: the reference's ParseNumber from 0 to 1000. -/
import Derived.Test.YtijfmfdnagjlpaaGreatDoorPk13
import Derived.Test.YtijfmfdnagjlpaaGreatDoorPk15
import Derived.Test.YtijfmfdnagjlpaaGreatDoorPk21
namespace Go.Proofs.YtijfmfdnagjlpaaGreatDoor
open Go.RowKit
set_option linter.unusedVariables false
set_option linter.unusedSimpArgs false
/-- What the sentinel of strconv holds. -/
def ErrAt (w : World) : Prop := ∃ ev, w.cell? ⟨7, 0, none⟩ = some ev ∧ (ev = .nilIface ∨ ∃ te pe, ev = .iface te pe)
theorem ErrAt.below {w w' : World} (h : ErrAt w) (hb : Below w.heap.size w w') : ErrAt w' := by
  obtain ⟨ev, h1, h2⟩ := h
  exact ⟨ev, by rw [hb.cell (p := ⟨_, 0, none⟩) (block_lt_of_cell h1)]; exact h1, h2⟩
def RetE (W : World) (n : Int) : Ending → World → Prop := fun e w' => ∃ v : Int, e = .returned (.tuple #[.int .i64 v, .int .i64 n]) ∧ Below W.heap.size W w'
def RetNE (W : World) (r : Lib.NumEnd Int) : Ending → World → Prop := fun e w' => Below W.heap.size W w' ∧ ((∃ n, e = .returned (.tuple #[.int .i64 n, .nilIface]) ∧ r = .ok n) ∨ ∃ n t p, e = .returned (.tuple #[.int .i64 n, .iface t p]) ∧ r = .range)
theorem parseIntX_any (l : List UInt8) (w : World) (hl : l.length ≤ 4000000000) (hR : ErrAt w) (hs : Lib.parseIntB 64 l ≠ .syntax) : Calls Tryz.prog 85 #[.string ⟨l.toArray⟩, .int .i64 10, .int .i64 64] w (RetNE w (Lib.parseIntB 64 l)) := by
  cases hp : Lib.parseIntB 64 l with
  | ok v =>
    refine (Tryz.strconv_ParseInt_10_at64_ok ⟨l.toArray⟩ (by simp [ByteArray.size]; omega) v (by simpa using hp) w).mono fun e w' ⟨h1, h2⟩ => ⟨?_, .inl ⟨v, h1, rfl⟩⟩
    rcases h2 with rfl | ⟨t, rfl⟩
    · exact Below.refl _ _
    · exact Lib.bytesWorld_below _ _ _
  | range =>
    obtain ⟨ev, h1, h2⟩ := hR
    refine (Tryz.strconv_ParseInt_10_at64_range ⟨l.toArray⟩ (by simp [ByteArray.size]; omega) (by simpa using hp) ev w h1 h2).mono fun e w' ⟨N, h3, _, _, h4⟩ => ⟨h4, .inr ⟨_, _, _, h3, rfl⟩⟩
  | _ => exact absurd hp hs
theorem uintM_cases (M : Nat) (hM : 1000 < M) : ∀ (l : List UInt8) (a : Nat), l.all isD = true → Lib.parseUintM M a l = .ok (numV a l) ∨ (Lib.parseUintM M a l = .range ∧ 1000 < numV a l)
  | [], a, _ => .inl rfl
  | c :: r, a, h => by
    simp only [List.all_cons, Bool.and_eq_true] at h
    have hc : 48 ≤ c.toNat ∧ c.toNat ≤ 57 := by simpa [isD] using h.1
    have hge := numV_ge r (10 * a + (c.toNat - 48))
    simp only [numV_cons]
    rw [Lib.parseUintM, if_pos hc]
    by_cases h1 : 1844674407370955162 ≤ a
    · rw [if_pos h1]; exact .inr ⟨rfl, by omega⟩
    · rw [if_neg h1]
      by_cases h2 : M < a * 10 + (c.toNat - 48)
      · rw [if_pos h2]; exact .inr ⟨rfl, by omega⟩
      · rw [if_neg h2, Nat.mul_comm a 10]
        exact uintM_cases M hM r _ h.2
theorem intB_plus {l : List UInt8} (h : plainB l = true) : Lib.parseIntB 64 l = .ok (val l : Int) ∨ (Lib.parseIntB 64 l = .range ∧ 1000 < val l) := by
  have ha := plainB_all h
  have hne := plainB_ne h
  cases l with
  | nil => exact absurd rfl hne
  | cons c r =>
    have h' := ha
    simp only [List.all_cons, Bool.and_eq_true] at h'
    have hc : 48 ≤ c.toNat ∧ c.toNat ≤ 57 := by simpa [isD] using h'.1
    rw [Lib.parseIntB_plain 64 c r (by omega) (by omega), Lib.parseUintB, if_neg (by simp)]
    rcases uintM_cases (2 ^ 64 - 1) (by decide) (c :: r) 0 ha with e | ⟨e, hv⟩
    · rw [e]
      simp only [Lib.signlessC]
      by_cases hb : 2 ^ (64 - 1) ≤ numV 0 (c :: r)
      · rw [if_pos hb]; exact .inr ⟨rfl, by unfold val; omega⟩
      · rw [if_neg hb]; exact .inl rfl
    · rw [e]; exact .inr ⟨rfl, hv⟩
theorem val_plain_pos {l : List UInt8} (h : plainB l = true) (h0 : l ≠ [48]) : 0 < val l := by
  cases l with
  | nil => simp [plainB] at h
  | cons c r =>
    simp only [plainB, Bool.and_eq_true, List.all_cons] at h
    refine val_pos c r h.2.1 ?_
    rintro rfl
    cases r with
    | nil => exact h0 rfl
    | cons d r => simp at h
theorem intB_minus {l : List UInt8} (h : plainB l = true) (h0 : l ≠ [48]) : (∃ n : Int, Lib.parseIntB 64 (45 :: l) = .ok n ∧ n < 0) ∨ Lib.parseIntB 64 (45 :: l) = .range := by
  have ha := plainB_all h
  have hp := val_plain_pos h h0
  rw [Lib.parseIntB_minus, Lib.parseUintB, if_neg (plainB_ne h)]
  rcases uintM_cases (2 ^ 64 - 1) (by decide) l 0 ha with e | ⟨e, hv⟩
  · rw [e]
    simp only [Lib.signedC]
    by_cases hb : 2 ^ (64 - 1) < numV 0 l
    · rw [if_pos hb]; exact .inr rfl
    · rw [if_neg hb]; refine .inl ⟨_, rfl, ?_⟩; unfold val at hp; omega
  · rw [e]; exact .inr rfl
theorem cutPre_true {c : UInt8} {l : List UInt8} (h : (cutPre c l).2 = true) : l = c :: (cutPre c l).1 := by
  cases l with
  | nil => simp [cutPre] at h
  | cons d r =>
    by_cases e : d = c
    · simp [cutPre, e]
    · simp [cutPre, e] at h
theorem cutPre_false {c : UInt8} {l : List UInt8} (h : (cutPre c l).2 = false) : (cutPre c l).1 = l := by
  cases l with
  | nil => simp [cutPre]
  | cons d r =>
    by_cases e : d = c
    · simp [cutPre, e] at h
    · simp [cutPre, e]
theorem RetE.mk {w w' : World} {v n : Int} (hw : Below w.heap.size w w') : RetE w n (.returned (.tuple #[.int .i64 v, .int .i64 n])) w' := ⟨v, rfl, hw⟩
theorem callNE {P : Program} {f : FuncId} {args : Array Value} {W : World} {r : Lib.NumEnd Int} {K : Ending → World → Prop} (h : Calls P f args W (RetNE W r)) (k1 : ∀ n w', Below W.heap.size W w' → r = .ok n → K (.returned (.tuple #[.int .i64 n, .nilIface])) w')
    (k2 : ∀ n t p w', Below W.heap.size W w' → r = .range → K (.returned (.tuple #[.int .i64 n, .iface t p])) w') : Calls P f args W K :=
  h.mono fun e w' ⟨hb, h⟩ => by
    rcases h with ⟨n, rfl, hr⟩ | ⟨n, t, p, rfl, hr⟩
    · exact k1 n w' hb hr
    · exact k2 n t p w' hb hr
theorem speedE_form {l : List UInt8} (h : (!plainB (cutPre 45 l).1 || ((cutPre 45 l).2 && (cutPre 45 l).1 == [48])) = true) : speedE l = 4 := by unfold speedE; rw [if_pos h]
theorem speedE_minus {l : List UInt8} (h : (!plainB (cutPre 45 l).1 || ((cutPre 45 l).2 && (cutPre 45 l).1 == [48])) = false) (h2 : (cutPre 45 l).2 = true) : speedE l = 2 := by unfold speedE; rw [if_neg (by simp [h]), if_pos h2]
theorem speedE_plus {l : List UInt8} (h : (!plainB (cutPre 45 l).1 || ((cutPre 45 l).2 && (cutPre 45 l).1 == [48])) = false) (h2 : (cutPre 45 l).2 = false) : speedE l = if 1000 < val l then 2 else 0 := by unfold speedE; rw [if_neg (by simp [h]), if_neg (by simp [h2])]
theorem bytes_48 (l : List UInt8) : (⟨l.toArray⟩ : ByteArray) = ⟨#[48]⟩ ↔ l = [48] := by rw [show (#[48] : Array UInt8) = [48].toArray from rfl, beq_str]
theorem ne_ok {P : Program} {f : FuncId} {args : Array Value} {W : World} {r : Lib.NumEnd Int} {n : Int} (h : Calls P f args W (RetNE W r)) (hr : r = .ok n) : Calls P f args W (Ret W (.tuple #[.int .i64 n, .nilIface])) :=
  h.mono fun e w' ⟨hb, h⟩ => by
    rcases h with ⟨n', rfl, h⟩ | ⟨n, t, p, rfl, h⟩
    · rw [hr] at h; injection h with h; subst h; exact ⟨rfl, hb⟩
    · rw [hr] at h; cases h
theorem callNR {P : Program} {f : FuncId} {args : Array Value} {W : World} {r : Lib.NumEnd Int} {K : Ending → World → Prop} (h : Calls P f args W (RetNE W r)) (hr : r = .range)
    (k2 : ∀ n t p w', Below W.heap.size W w' → K (.returned (.tuple #[.int .i64 n, .iface t p])) w') : Calls P f args W K :=
  h.mono fun e w' ⟨hb, h⟩ => by
    rcases h with ⟨n, rfl, h⟩ | ⟨n, t, p, rfl, h⟩
    · rw [hr] at h; cases h
    · exact k2 n t p w' hb
set_option maxHeartbeats 4000000 in
set_option maxRecDepth 100000 in
theorem parseNum_any (l : List UInt8) (w : World) (hl : l.length ≤ 4000000000) (hR : ErrAt w) : Calls Tryz.prog 61 #[.string ⟨l.toArray⟩, .int .i64 0, .int .i64 1000] w (RetE w (speedE l)) := by
  have hq := parseIntX_any l w hl hR
  have hc := Lib.hid (cutPrefix_any 45 l w)
  obtain ⟨c, hp⟩ : ∃ c, plainB (cutPre 45 l).1 = c := ⟨_, rfl⟩
  obtain ⟨b, hb⟩ : ∃ b, (cutPre 45 l).2 = b := ⟨_, rfl⟩
  have h4 := @speedE_form l
  have h5 := @speedE_minus l
  have h6 := @speedE_plus l
  have h7 : (cutPre 45 l).1.length ≤ l.length := cutPre_len 45 l
  have m1 := @cutPre_true 45 l
  have m2 := @cutPre_false 45 l
  rw [hb] at h4 h5 h6 m1 m2 hc
  generalize (cutPre 45 l).1 = t at *
  rw [hp] at h4 h5 h6
  have hpl := Lib.hid (plain_any t w (by omega))
  rw [hp] at hpl
  clear hb
  cases c
  · have H4 := Lib.hid (h4 (by simp))
    go_enter Tryz.func61, Tryz.ntmps61
    go_wp2_with (first | (go_at_call 60; refine callP hc.out ?_) | (go_at_call 84; refine callP hpl.out ?_))
    go_ret2
    rw [H4.out]; exact RetE.mk (Below.refl _ _)
  · cases b
    · have E := m2 rfl
      subst E
      have H6 := Lib.hid (h6 (by simp) rfl)
      have hi := intB_plus hp
      have hq := Lib.hid (hq (by rcases hi with h | h <;> simp [h]))
      clear h4 h5 h6 m1 m2 h7
      rcases hi with hi | ⟨hi, hv⟩
      · have hk := Lib.hid (ne_ok hq.out hi)
        generalize val t = v at hk H6
        clear hi hq
        by_cases hv : 1000 < v
        · go_enter Tryz.func61, Tryz.ntmps61
          go_wp2_with (first | (go_at_call 60; refine callP hc.out ?_) | (go_at_call 84; refine callP hpl.out ?_) | (go_at_call 85; refine callRB hk.out ?_; intro w1 B1))
          go_ret2
          rw [H6.out, if_pos hv]; exact RetE.mk B1
        · go_enter Tryz.func61, Tryz.ntmps61
          go_wp2_with (first | (go_at_call 60; refine callP hc.out ?_) | (go_at_call 84; refine callP hpl.out ?_) | (go_at_call 85; refine callRB hk.out ?_; intro w1 B1))
          go_ret2
          rw [H6.out, if_neg hv]; exact RetE.mk B1
      · have hk := Lib.hid hi
        clear hi
        go_enter Tryz.func61, Tryz.ntmps61
        go_wp2_with (first | (go_at_call 60; refine callP hc.out ?_) | (go_at_call 84; refine callP hpl.out ?_) | (go_at_call 85; refine callNR hq.out hk.out ?_; intro n ty p w1 B1))
        go_ret2
        rw [H6.out, if_pos hv]; exact RetE.mk B1
    · have E := Lib.hid (m1 rfl)
      by_cases h48 : t = [48]
      · subst h48
        have H4 := Lib.hid (h4 (by simp))
        clear h4 h5 h6 m1 m2
        go_enter Tryz.func61, Tryz.ntmps61
        go_wp2_with (first | (go_at_call 60; refine callP hc.out ?_) | (go_at_call 84; refine callP hpl.out ?_))
        go_ret2
        rw [H4.out]; exact RetE.mk (Below.refl _ _)
      · have H5 := Lib.hid (h5 (by simp [h48]) rfl)
        have hi := intB_minus hp h48
        rw [← E.out] at hi
        have hq := Lib.hid (hq (by rcases hi with ⟨n, h, _⟩ | h <;> simp [h]))
        have hne : (t == [48]) = false := by simp [h48]
        clear h4 h5 h6 m1 m2 h7
        rcases hi with ⟨n, hi, hv⟩ | hi
        · have hk := Lib.hid (ne_ok hq.out hi)
          clear hi hq
          go_enter Tryz.func61, Tryz.ntmps61
          go_wp2_with (first | (go_at_call 60; refine callP hc.out ?_) | (go_at_call 84; refine callP hpl.out ?_) | (go_at_call 85; refine callRB hk.out ?_; intro w1 B1))
          go_ret2
          rw [H5.out]; exact RetE.mk B1
        · have hk := Lib.hid hi
          clear hi
          go_enter Tryz.func61, Tryz.ntmps61
          go_wp2_with (first | (go_at_call 60; refine callP hc.out ?_) | (go_at_call 84; refine callP hpl.out ?_) | (go_at_call 85; refine callNR hq.out hk.out ?_; intro n ty p w1 B1))
          go_ret2
          rw [H5.out]; exact RetE.mk B1
end Go.Proofs.YtijfmfdnagjlpaaGreatDoor
namespace Go.Proofs.YtijfmfdnagjlpaaGreatDoor
open Go.RowKit
set_option linter.unusedVariables false
set_option linter.unusedSimpArgs false
theorem numV_drop (l : List UInt8) (a k : Nat) (h : k < l.length) : numV a (l.drop k) = numV (10 * a + (l[k].toNat - 48)) (l.drop (k + 1)) := by rw [List.drop_eq_getElem_cons h, numV_cons]
theorem isD_get {t : List UInt8} (h : t.all isD = true) {k : Nat} (hk : k < t.length) : 48 ≤ t[k].toNat ∧ t[k].toNat ≤ 57 := by
  have := List.all_eq_true.1 h t[k] (List.getElem_mem hk)
  simpa [isD] using this
theorem lim10 (a d : Nat) (hd : d ≤ 9) : ((-9223372036854775808 : Int) + d).tdiv 10 = -(((9223372036854775808 - d) / 10 : Nat) : Int) := by
  rw [show (-9223372036854775808 : Int) + d = -((9223372036854775808 - d : Nat) : Int) by omega, Int.neg_tdiv]
  rfl
theorem wrap_in (x : Int) (h : -9223372036854775808 ≤ x ∧ x ≤ 9223372036854775807) : wrap64 x = x := by unfold wrap64; omega
theorem ten_minus {a d : Nat} (h : 10 * a + d ≤ 9223372036854775808) : Value.int .i64 (wrap64 (wrap64 (10 * -(a : Int)) - (d : Int))) = .int .i64 (-((10 * a + d : Nat) : Int)) := by
  rw [wrap_in (10 * -(a : Int)) (by omega), wrap_in _ (by omega)]
  congr 1; omega
set_option maxHeartbeats 4000000 in
set_option maxRecDepth 100000 in
theorem rparseNum_any (l : List UInt8) (w : World) (hl : l.length ≤ 4000000000) : Calls Tryz.prog 66 #[.string ⟨l.toArray⟩, .int .i64 0, .int .i64 1000] w (RetE w (speedE l)) := by
  cases l with
  | nil =>
    have hpl := Lib.hid (rplain_any [] w (by simp))
    go_enter Tryz.func66, Tryz.ntmps66
    go_wp2_with ((go_at_call 91; refine callP hpl.out ?_))
    go_ret2
    exact RetE.mk (Below.refl _ _)
  | cons x r =>
    by_cases hx : x = 45
    · subst hx
      have hrl : r.length ≤ 4000000000 := by simp at hl; omega
      have hpl := Lib.hid (rplain_any r w (by omega))
      have hc : cutPre 45 (45 :: r) = (r, true) := by simp [cutPre]
      have h4 := @speedE_form (45 :: r)
      have h5 := @speedE_minus (45 :: r)
      rw [hc] at h4 h5
      clear hc
      generalize speedE (45 :: r) = se at *
      cases hp : plainB r
      · rw [hp] at hpl h4 h5
        have H4 := Lib.hid (h4 (by simp))
        clear h4 h5
        go_enter Tryz.func66, Tryz.ntmps66
        go_wp2_with ((go_at_call 91; refine callP hpl.out ?_))
        go_ret2
        rw [H4.out]; exact RetE.mk (Below.refl _ _)
      · rw [hp] at hpl h4 h5
        by_cases h48 : r = [48]
        · subst h48
          have H4 := Lib.hid (h4 (by simp))
          clear h4 h5
          go_enter Tryz.func66, Tryz.ntmps66
          go_wp2_with ((go_at_call 91; refine callP hpl.out ?_))
          go_ret2
          rw [H4.out]; exact RetE.mk (Below.refl _ _)
        · have H5 := Lib.hid (h5 (by simp [h48]) rfl)
          have hne : (r == [48]) = false := by simp [h48]
          have HD := Lib.hid (fun k => @isD_get r (plainB_all hp) k)
          have HP := val_plain_pos hp h48
          clear h4 h5 hp h48
          go_enter Tryz.func66, Tryz.ntmps66
          go_wp2_with ((go_at_call 91; refine callP hpl.out ?_))
          clear hne hpl
          go_loop [10, 11] (fun n i => ∃ k a : Nat, k ≤ r.length ∧ i = .int .i64 k ∧ n = .int .i64 (-(a : Int)) ∧ a ≤ 9223372036854775808 ∧ val r = numV a (r.drop k)) (fun _ i => r.length - (intOf i).toNat)
          case atStart => exact ⟨0, 0, by omega, rfl, rfl, by omega, rfl⟩
          case round =>
            obtain ⟨k, a, hk, rfl, rfl, ha, hq⟩ := hrel
            have hq0 := hq; have HQ := Lib.hid hq; clear hq
            by_cases hlt : k < r.length
            · clear hq0
              have HS := Lib.hid (numV_drop r a k hlt)
              have hD := HD.out k hlt
              have HG := Lib.hid (numV_ge (r.drop (k + 1)))
              have hs1 := Lib.hid (show ((r[k].toNat : Int) - 48) = ((r[k].toNat - 48 : Nat) : Int) by omega)
              have hd9 : r[k].toNat - 48 ≤ 9 := by omega
              have HL := Lib.hid (lim10 a (r[k].toNat - 48) hd9)
              go_wp2
              · rename_i h _
                go_ret2
                have h2 : 9223372036854775808 < 10 * a + (r[k].toNat - 48) := by rw [hs1.out, HL.out] at h; omega
                have h3 := HG.out (10 * a + (r[k].toNat - 48))
                rw [H5.out]; exact RetE.mk (Below.refl _ _)
              · rename_i h
                have h2 : 10 * a + (r[k].toNat - 48) ≤ 9223372036854775808 := by rw [hs1.out, HL.out] at h; omega
                go_round
                case rel => exact ⟨k + 1, 10 * a + (r[k].toNat - 48), by omega, by go_num, by rw [hs1.out, ten_minus h2], h2, by rw [HQ.out, HS.out]⟩
                case measure => simp [intOf]; omega
            · rw [List.drop_of_length_le (by omega), numV_nil] at hq0
              clear HQ HD
              rw [hq0] at HP
              clear hq0
              go_wp2
              go_ret2
              rw [H5.out]; exact RetE.mk (Below.refl _ _)
    · have hpl := Lib.hid (rplain_any (x :: r) w (by omega))
      have hc : cutPre 45 (x :: r) = (x :: r, false) := by simp [cutPre, hx]
      have h4 := @speedE_form (x :: r)
      have h6 := @speedE_plus (x :: r)
      rw [hc] at h4 h6
      clear hc
      have hxn : ¬ ((x.toNat : Int) = 45) := by intro e; exact hx (UInt8.toNat_inj.1 (by have : (45 : UInt8).toNat = 45 := rfl; omega))
      have hx1 : ((x.toNat : Int) == 45) = false := by simpa using hxn
      clear hxn
      generalize speedE (x :: r) = se at *
      cases hp : plainB (x :: r)
      · rw [hp] at hpl h4 h6
        have H4 := Lib.hid (h4 (by simp))
        clear h4 h6
        go_enter Tryz.func66, Tryz.ntmps66
        go_wp2_with ((go_at_call 91; refine callP hpl.out ?_))
        go_ret2
        rw [H4.out]; exact RetE.mk (Below.refl _ _)
      · rw [hp] at hpl h4 h6
        have H5 := Lib.hid (h6 (by simp) rfl)
        have HD := Lib.hid (fun k => @isD_get (x :: r) (plainB_all hp) k)
        clear h4 h6 hp
        go_enter Tryz.func66, Tryz.ntmps66
        go_wp2_with ((go_at_call 91; refine callP hpl.out ?_))
        clear hpl hx1 hx
        have hxl : (x :: r).length ≤ 4000000000 := hl
        generalize x :: r = t at *
        go_loop [10, 11] (fun n i => ∃ k a : Nat, k ≤ t.length ∧ i = .int .i64 k ∧ n = .int .i64 (-(a : Int)) ∧ a ≤ 9223372036854775808 ∧ val t = numV a (t.drop k)) (fun _ i => t.length - (intOf i).toNat)
        case atStart => exact ⟨0, 0, by omega, rfl, rfl, by omega, rfl⟩
        case round =>
          obtain ⟨k, a, hk, rfl, rfl, ha, hq⟩ := hrel
          have hq0 := hq; have HQ := Lib.hid hq; clear hq
          by_cases hlt : k < t.length
          · clear hq0
            have HS := Lib.hid (numV_drop t a k hlt)
            have hD := HD.out k hlt
            have HG := Lib.hid (numV_ge (t.drop (k + 1)))
            have hs1 := Lib.hid (show ((t[k].toNat : Int) - 48) = ((t[k].toNat - 48 : Nat) : Int) by omega)
            have hd9 : t[k].toNat - 48 ≤ 9 := by omega
            have HL := Lib.hid (lim10 a (t[k].toNat - 48) hd9)
            go_wp2
            · rename_i h _
              go_ret2
              have h2 : 9223372036854775808 < 10 * a + (t[k].toNat - 48) := by rw [hs1.out, HL.out] at h; omega
              have h3 := HG.out (10 * a + (t[k].toNat - 48))
              rw [H5.out, if_pos (by rw [HQ.out, HS.out]; omega)]; exact RetE.mk (Below.refl _ _)
            · rename_i h
              have h2 : 10 * a + (t[k].toNat - 48) ≤ 9223372036854775808 := by rw [hs1.out, HL.out] at h; omega
              go_round
              case rel => exact ⟨k + 1, 10 * a + (t[k].toNat - 48), by omega, by go_num, by rw [hs1.out, ten_minus h2], h2, by rw [HQ.out, HS.out]⟩
              case measure => simp [intOf]; omega
          · rw [List.drop_of_length_le (by omega), numV_nil] at hq0
            clear HQ HD
            rw [hq0] at H5
            clear hq0
            by_cases h63 : a = 9223372036854775808
            · subst h63
              go_wp2
              go_ret2
              rw [H5.out, if_pos (by omega)]; exact RetE.mk (Below.refl _ _)
            · have hb : (-(a : Int) == -9223372036854775808) = false := by simp; omega
              by_cases hm : 1000 < a
              · go_wp2
                go_ret2
                rw [H5.out, if_pos hm]; exact RetE.mk (Below.refl _ _)
              · go_wp2
                go_ret2
                rw [H5.out, if_neg hm]; exact RetE.mk (Below.refl _ _)
end Go.Proofs.YtijfmfdnagjlpaaGreatDoor
