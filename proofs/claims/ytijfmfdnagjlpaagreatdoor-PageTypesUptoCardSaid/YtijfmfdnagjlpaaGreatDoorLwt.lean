/- PageTypes: the statement walked. -/
import Derived.Test.YtijfmfdnagjlpaaGreatDoorPk46
namespace Go.Proofs.YtijfmfdnagjlpaaGreatDoor
open Go.RowKit Go.Sort
set_option linter.unusedVariables false
set_option linter.unusedSimpArgs false
set_option maxRecDepth 100000
theorem sign_take (k : Nat) (h : k < 41) : (signsL.take (k + 1)).drop k = [signsL.getD k 0] := by
  rw [List.take_succ_eq_append_getElem (show k < signsL.length from h), List.drop_append]
  have : (signsL.take k).length = k := by rw [List.length_take]; exact Nat.min_eq_left (Nat.le_of_lt h)
  rw [List.drop_of_length_le (by omega), this]
  simp [List.getD_eq_getElem?_getD, List.getElem?_eq_getElem (show k < signsL.length from h)]
theorem sign_get (k : Nat) (h : k < 41) : signsL.getD k 0 ∈ signsL := by
  rw [List.getD_eq_getElem?_getD, List.getElem?_eq_getElem (show k < signsL.length from h)]
  exact List.getElem_mem _
attribute [local go_sem] run_storeN_term run_storeB_term splice_term SzIs_term Fits_term Ones_term run_eql_term run_neq_term ba_append
set_option maxHeartbeats 8000000 in
theorem lawTypes_any (v : Vw) (d : VAd) (arr : Array Value) (A : Option Addr) (l : List UInt8) (c : Nat) (w : World) (hv : v.At d arr) (hO : Open58 w) (hok : v.ok w d) (hR : Rb w A l) (hlc : l.length ≤ c) (hl : l.length ≤ 4000000000) :
    Calls Tryz.prog 7 #[.agg arr, .slice A l.length c] w (Ret w (.bool true)) := by
  go_enter Tryz.func7, Tryz.ntmps7
  go_upto_region 1 with (fail)
  have V0 := Blk.new w arr 44
  have B0 := (Below.refl w.heap.size w).alloc (Nat.le_refl _) (.cells arr 44)
  generalize w.alloc _ = W at V0 B0 ⊢
  generalize w.heap.size = gv at V0 ⊢
  go_upto_region 3 with (go_at_call 9; (with_reducible refine callRB (awake58p_any _ (hO.below B0)) ?_); intro w1 B1)
  have V1 := V0.step B1
  have C1 := below_step B0 B1
  clear V0 B0 B1
  have j1 : Has_view w1 gv 0 := ⟨_, V1.is_view hv.size⟩
  have j2 : of_view w1 gv 0 = arr := of_view_eq (V1.is_view hv.size)
  have HS := Lib.hid (small58_any v d arr hv w1)
  cases hs : smallB v
  · rw [hs] at HS
    go_wp2_with (go_at_call 10; (with_reducible refine callRB HS.out ?_); intro w2 B2)
    go_ret
    exact Ret.bool rfl (below_step C1 B2)
  · rw [hs] at HS
    by_cases h24 : 24 < l.length
    · have h24' : (24 : Int) < (l.length : Int) := by omega
      go_wp2_with (go_at_call 10; (with_reducible refine callRB HS.out ?_); intro w2 B2)
      go_ret
      exact Ret.bool rfl (below_step C1 B2)
    · have h24' : ¬ (24 : Int) < (l.length : Int) := by omega
      go_upto_region 6 with (first
        | (go_at_call 10; (with_reducible refine callRB HS.out ?_); intro w2 B2)
        | (go_at_call 13; (with_reducible refine callRB (start58_any _) ?_); intro w3 B3))
      have Z3 := (Below.refl w3.heap.size w3).alloc (Nat.le_refl _) (.cells (Term.arr ⟨1, 0, []⟩) 23)
      have D3 := below_step (below_step B2 B3) Z3
      have V3 := V1.step D3
      have C3 := below_step C1 D3
      have T3 := Blk.new w3 (Term.arr ⟨1, 0, []⟩) 23
      have hvt : gv ≠ w3.heap.size := by have := (V1.step (below_step B2 B3)).lt; omega
      have hg3 : w.heap.size ≤ w3.heap.size := (below_step C1 (below_step B2 B3)).size
      clear V1 C1 B2 B3 Z3 D3 j1 j2 HS hs
      generalize w3.alloc _ = W3 at V3 C3 T3 ⊢
      generalize w3.heap.size = gt at T3 hg3 hvt ⊢
      obtain ⟨n, hn⟩ : ∃ n, l.length = n := ⟨_, rfl⟩
      have HNl := Lib.hid hn
      rw [hn] at h24 hlc ⊢
      clear hn h24' hl
      go_upto_region 7 with (fail)
      go_loopw [6, 8, 9, 10, 24] (fun p _ _ _ i wr => ∃ (k : Nat) (ps : List UInt8), k ≤ n ∧ ps.length = k ∧ ps ≠ kDELETE ∧ p = .string ⟨ps.toArray⟩ ∧ i = .int .i64 k ∧ Blk wr gt (Term.arr ⟨1, 0, ps⟩) ∧ Blk wr gv arr ∧ Below w.heap.size w wr) (fun _ _ _ _ i _ => n - (intOf i).toNat)
      case atStart => exact ⟨0, [], by omega, rfl, by decide, rfl, rfl, T3, V3, C3⟩
      case round =>
        obtain ⟨k, ps, hk, hpl, hpd, rfl, rfl, T, V, C⟩ := hrel
        clear T3 V3 C3
        by_cases hlt : k < n
        · have hlt' : (k : Int) < (n : Int) := by omega
          obtain ⟨b, o, hA, hb, hc⟩ := hR.at_ (by rintro rfl; have := HNl.out; simp at this; omega)
          subst hA
          obtain ⟨x, hx⟩ : ∃ x, l[k]? = some x := ⟨_, List.getElem?_eq_getElem (by have := HNl.out; omega)⟩
          have q1 : wr.cell? ⟨b, o + k, none⟩ = some (.int .u8 x.toNat) := by rw [C.cell (p := ⟨b, _, none⟩) hb]; exact hc k x hx
          obtain ⟨z, hz⟩ : ∃ z : Nat, x.toNat % 41 = z := ⟨_, rfl⟩
          have hz41 : z < 41 := by omega
          have hz2 : ((x.toNat : Int) % 41) = (z : Int) := by omega
          have HPl := Lib.hid hpl
          clear hc hx hpl
          go_upto_region 10 with (fail)
          rw [show (wrap64 (x.toNat : Int)).tmod 41 = (z : Int) by rw [IntWalk.wrap64_in _ (by have := x.toNat_lt; omega), Int.tmod_eq_emod_of_nonneg (by omega)]; exact hz2]
          obtain ⟨ch, hch⟩ : ∃ ch, signsL.getD z 0 = ch := ⟨_, rfl⟩
          have a4 : List.drop z (65 :: List.take z [66, 67, 68, 69, 70, 71, 72, 73, 74, 75, 76, 77, 78, 79, 80, 81, 82, 83, 84, 85, 86, 87, 88, 89, 90, 48, 49, 50, 51, 52, 53, 54, 55, 56, 57, 47, 46, 58, 43, 45]) = [ch] := by rw [← hch]; exact sign_take z hz41
          have b1 : ¬ 9223372036854775807 < ((ps.length + 1 : Nat) : Int) := by have := HPl.out; omega
          have hmem : ch ∈ signsL := hch ▸ sign_get z hz41
          clear hz hz2 hch
          go_upto_region 12 with (fail)
          have hps : ps.length < 24 := by have := HPl.out; omega
          go_cut [10] (fun e wx => e = .int .i64 0 ∧ Blk wx gt (Term.arr ⟨1, 0, ps ++ [ch]⟩) ∧ Blk wx gv arr ∧ Below w.heap.size w wx)
          case first =>
            have dr : Below wr.heap.size wr wr.drew := (Below.refl _ _).drew
            have hOr := (hO.below C).below dr
            have j1 : Has_view wr.drew gv 0 := ⟨_, (V.step dr).is_view hv.size⟩
            have j2 : of_view wr.drew gv 0 = arr := of_view_eq ((V.step dr).is_view hv.size)
            have x4 := (T.step dr).has_term
            have x5 := (T.step dr).of_term
            have a3 : IntKind.i64.wrap ((z : Int) + 1) = (z : Int) + 1 := IntWalk.i64_in _ (by omega)
            have HP := press58_any ⟨1, 0, ps⟩ v d arr hv [ch] wr.drew hOr.words hOr.laid hOr.err ((hok.below C).below dr) (by simp) (by show ps.length ≤ _; omega)
            rw [types_step hmem hps hpd] at HP
            have HP := Lib.hid HP
            have hps2 := Lib.hid hps
            clear hps q1 hb
            go_region_with (go_at_call 11; (with_reducible refine callTR HP.out ?_); intro w5 B5; have T5 := (T.step dr).step B5; have q2 := T5.plain; have q3 := T5.of; have V5 := Lib.hid ((V.step dr).step B5); have u5 := Lib.hid (below_step (below_step C dr) B5))
            all_goals
              go_wp2
              go_meet
              exact ⟨rfl, T5.set _, V5.out.far hvt _, below_setRow' u5.out hg3 _⟩
          case rest =>
            obtain ⟨rfl, T6, V6, C6⟩ := hcut
            obtain ⟨pd, hpd2⟩ : ∃ pd, ps ++ [ch] = pd := ⟨_, rfl⟩
            have hpl2 : Hid (pd.length = k + 1) := Lib.hid (by rw [← hpd2]; simp; exact HPl.out)
            rw [hpd2] at T6 ⊢
            clear a4 b1 q1 hb hpd2 T V hps
            have y1 := T6.cell
            by_cases hd : pd = kDELETE
            · subst hd
              go_wp2
              go_ret
              exact Ret.bool rfl C6
            · have hd' : (pd == [68, 69, 76, 69, 84, 69]) = false := by simpa [kDELETE] using hd
              go_wp2
              go_roundw
              case rel => exact ⟨k + 1, pd, by omega, hpl2.out, hd, rfl, by go_num, T6, V6, C6⟩
              case measure => simp [intOf]; omega
        · obtain rfl : k = n := by omega
          clear hR HNl
          go_upto_region 21 with (fail)
          have HPl := Lib.hid hpl
          go_loopw [71] (fun i wr => ∃ j : Nat, j ≤ k ∧ i = .int .i64 j ∧ Blk wr gt (Term.arr ⟨1, 0, ps.take (k - j)⟩) ∧ Blk wr gv arr ∧ Below w.heap.size w wr) (fun i _ => k - (intOf i).toNat)
          case atStart => exact ⟨0, by omega, rfl, by rw [Nat.sub_zero, List.take_of_length_le (by omega)]; exact T, V, C⟩
          case round =>
            obtain ⟨j, hj, rfl, T, V, C⟩ := hrel
            obtain ⟨pk, hpk⟩ : ∃ pk, ps.take (k - j) = pk := ⟨_, rfl⟩
            have hpkl : pk.length = k - j := by rw [← hpk, List.length_take]; have := HPl.out; omega
            have HK := Lib.hid hpk
            rw [hpk] at T
            clear hpk hpl hpd
            have y1 := T.cell
            by_cases hlt2 : j < k
            · have hlt3 : (j : Int) < (k : Int) := by omega
              by_cases hd : pk = kDELETE
              · subst hd
                clear hpkl
                go_wp2
                go_ret
                exact Ret.bool rfl C
              · have hd' : (pk == [68, 69, 76, 69, 84, 69]) = false := by simpa [kDELETE] using hd
                have hOr := hO.below C
                have j1 : Has_view wr gv 0 := ⟨_, V.is_view hv.size⟩
                have j2 : of_view wr gv 0 = arr := of_view_eq (V.is_view hv.size)
                have x4 := T.has_term
                have x5 := T.of_term
                have HP := press58_any ⟨1, 0, pk⟩ v d arr hv [67, 76, 82] wr hOr.words hOr.laid hOr.err (hok.below C) (by decide) (by show pk.length ≤ _; omega)
                rw [show pressS ⟨1, 0, pk⟩ v [67, 76, 82] = _ from types_clr (v := v) (p := pk) (by rintro rfl; simp at hpkl; omega) (by omega) hd] at HP
                have HNx := Lib.hid (show pk.take (pk.length - 1) = ps.take (k - (j + 1)) by rw [hpkl, ← HK.out, List.take_take]; congr 1; omega)
                generalize pk.take (pk.length - 1) = pn at HP HNx
                have HP := Lib.hid HP
                clear hpkl hd
                go_wp2_with (go_at_call 11; (with_reducible refine callTR HP.out ?_); intro w5 B5; have T5 := T.step B5; have q2 := T5.plain; have q3 := T5.of; have V5 := V.step B5; have u5 := below_step C B5)
                go_roundw
                case rel => exact ⟨j + 1, by omega, by go_num, by rw [← HNx.out]; exact T5.set _, V5.far hvt _, below_setRow' u5 hg3 _⟩
                case measure => simp [intOf]; omega
            · obtain rfl : j = k := by omega
              have : pk = [] := List.eq_nil_of_length_eq_zero (by omega)
              subst this
              clear hpkl
              go_wp2
              go_ret
              exact Ret.bool rfl C
end Go.Proofs.YtijfmfdnagjlpaaGreatDoor
