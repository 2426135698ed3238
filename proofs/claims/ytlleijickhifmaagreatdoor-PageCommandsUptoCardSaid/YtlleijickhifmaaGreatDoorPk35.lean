/- Layer 58: the example of the chapter: awake returns true. -/
import Derived.Test.YtlleijickhifmaaGreatDoorPk26
import Derived.Test.YtlleijickhifmaaGreatDoorPk27
import Derived.Test.YtlleijickhifmaaGreatDoorPk34
namespace Go.Proofs.YtlleijickhifmaaGreatDoor
open Go.RowKit Go.Sort
set_option linter.unusedVariables false
set_option linter.unusedSimpArgs false
set_option maxRecDepth 100000
def ad58 (A : Option Addr) (c : Nat) : VAd := ⟨A, c, none, 0, none, 0⟩
theorem at58 (A : Option Addr) (c : Nat) : vw58.At (ad58 A c) (viewArr (.slice A 3 c) 1) := by
  refine ⟨rfl, by simp [viewArr, Value.oneCell'], ?_, ?_, rfl, rfl, rfl, rfl, rfl, rfl, rfl, rfl, rfl, rfl, rfl, rfl, rfl, rfl, rfl, rfl⟩
  · intro j hj
    match j, hj with
    | 0, _ | 1, _ | 2, _ | 3, _ => rfl
  · intro j hj
    match j, hj with
    | 0, _ | 1, _ | 2, _ | 3, _ => rfl
theorem ok58 {w : World} {A : Option Addr} {c : Nat} (hc : 3 ≤ c) (hE : Ents w A es58) : vw58.ok w (ad58 A c) := by
  refine ⟨⟨by decide, by decide, by decide, ?_⟩, ⟨by decide, by decide, by decide, ?_⟩, hc, Nat.zero_le _, Nat.zero_le _, Nat.zero_le _, ?_, hE, Ents.nil _ _, ⟨fun h => absurd rfl h⟩⟩
  · intro x hx
    simp only [vw58, es58, List.mem_cons, List.not_mem_nil, or_false] at hx
    rcases hx with rfl | rfl | rfl <;> exact ⟨⟨by decide, by decide⟩, by decide⟩
  · intro x hx; cases hx
  · intro x hx; cases hx
theorem rng58 : vw58.rng := by
  refine ⟨⟨?_⟩, ⟨?_⟩, ⟨by decide, by decide⟩, ⟨by decide, by decide⟩, ⟨by decide, by decide⟩, ⟨by decide, by decide⟩, ⟨by decide, by decide⟩, ⟨by decide, by decide⟩, ⟨by decide, by decide⟩, ⟨by decide, by decide⟩, by decide, by decide, by decide⟩
  · intro x hx
    simp only [vw58, es58, List.mem_cons, List.not_mem_nil, or_false] at hx
    rcases hx with rfl | rfl | rfl <;> exact ⟨by decide, by decide⟩
  · intro x hx; cases hx
theorem start58_any (w : World) : Calls Tryz.prog 8 #[] w (Ret w (.agg (Term.arr ⟨1, 0, []⟩))) := by
  go_enter Tryz.func8, Tryz.ntmps8
  go_wp2
  exact bodyPost_ret (results_agg1 Tryz.results8 _ _ w.heap.size (Term.arr ⟨1, 0, []⟩) 3 _ rfl rfl (Blk.new w (Term.arr ⟨1, 0, []⟩) _).cell Tryz.underlying23 rfl info_term) rfl ⟨rfl, (Below.refl _ _).alloc (Nat.le_refl _) _⟩
attribute [local go_sem] run_storeB_term SzIs_term Fits_term Ones_term splice_term run_storeB_view58 SzIs_v58 Fits_v58 Ones_v58 splice_v58
attribute [local go_sem] Plain_newS blkOf_newS Plain_newS2 blkOf_newS2 setRow_sizeS Plain_farS1 blkOf_farS1 Plain_farS2 blkOf_farS2 Plain_oldS2 blkOf_oldS2
set_option maxHeartbeats 8000000 in
theorem awake58p_any (w : World) (hO : Open58 w) : Calls Tryz.prog 4 #[] w (Ret w (.bool true)) := by
  go_enter Tryz.func4, Tryz.ntmps4
  go_upto_region 2 with (first
    | (go_at_call 8; refine callRB (start58_any _) ?_; intro w1 B1)
    | (go_at_call 9; refine (view58_any _).mono ?_; rintro e w2 ⟨A, c, rfl, hc, hE, B2⟩))
  show Code.wp _ _ _ _ ((((w2.alloc (.cells zeroT.arr 23)).alloc (.cells (viewArr (.slice none 0 0) 0) 44)).setRow w2.heap.size (Term.arr ⟨1, 0, []⟩)).setRow (w2.heap.size + 1) (viewArr (.slice A 3 c) 1))
  obtain ⟨X3, V3, C3⟩ := two_filled w2 zeroT.arr (Term.arr ⟨1, 0, []⟩) (viewArr (.slice none 0 0) 0) (viewArr (.slice A 3 c) 1) 23 44
  have B02 := below_step B1 B2
  have hO2 : Open58 w2 := hO.below B02
  generalize ((w2.alloc _).alloc _ |>.setRow _ _).setRow _ _ = W3 at X3 V3 C3 ⊢
  obtain ⟨gt, hgt⟩ : ∃ gt, gt = w2.heap.size := ⟨_, rfl⟩
  obtain ⟨gv, hgv⟩ : ∃ gv, gv = w2.heap.size + 1 := ⟨_, rfl⟩
  rw [← hgv] at V3 ⊢
  rw [← hgt] at X3 ⊢
  have htv : gv ≠ gt := by omega
  have hg2 : w2.heap.size ≤ gt := by omega
  have hgg : Hid (gt = w2.heap.size) := Lib.hid hgt
  clear hgt hgv
  go_upto_region 3 with (fail)
  show Code.wp _ _ _ _ (W3.alloc (.cells #[.string ⟨#[65]⟩, .string ⟨#[47]⟩, .string ⟨#[48]⟩, .string ⟨#[48]⟩] 9))
  have X4 := X3.alloc (.cells #[.string ⟨#[65]⟩, .string ⟨#[47]⟩, .string ⟨#[48]⟩, .string ⟨#[48]⟩] 9)
  have V4 := V3.alloc (.cells #[.string ⟨#[65]⟩, .string ⟨#[47]⟩, .string ⟨#[48]⟩, .string ⟨#[48]⟩] 9)
  have K4 := Blk.new W3 #[.string ⟨#[65]⟩, .string ⟨#[47]⟩, .string ⟨#[48]⟩, .string ⟨#[48]⟩] 9
  have C4 := below_step C3 ((Below.refl W3.heap.size W3).alloc (Nat.le_refl _) (.cells #[.string ⟨#[65]⟩, .string ⟨#[47]⟩, .string ⟨#[48]⟩, .string ⟨#[48]⟩] 9))
  have hkt : W3.heap.size ≠ gt := by have := X3.lt; omega
  clear X3 V3 C3
  generalize W3.alloc _ = W4 at X4 V4 K4 C4 ⊢
  generalize W3.heap.size = gk at K4 hkt ⊢
  go_loopw [4, 5, 6, 14] (fun _ _ _ i wr => ∃ k : Nat, k ≤ 4 ∧ i = .int .i64 k ∧ Blk wr gt (Term.arr ⟨1, 0, padN k⟩) ∧ Blk wr gv (viewArr (.slice A 3 c) 1) ∧ Blk wr gk #[.string ⟨#[65]⟩, .string ⟨#[47]⟩, .string ⟨#[48]⟩, .string ⟨#[48]⟩] ∧ Below w2.heap.size w2 wr) (fun _ _ _ i _ => 4 - (intOf i).toNat)
  case atStart => exact ⟨0, by omega, rfl, X4, V4, K4, C4⟩
  case round =>
    obtain ⟨k, hk, rfl, X, V, K, C⟩ := hrel
    clear X4 V4 K4 C4
    have hOr := hO2.below C
    have hEr : Ents wr A es58 := hE.below (B := 0) C
    have x4 := X.has_term
    have x5 := X.of_term
    have j1 : Has_view wr gv 0 := ⟨_, V.is_view rfl⟩
    have j2 : of_view wr gv 0 = viewArr (.slice A 3 c) 1 := of_view_eq (V.is_view rfl)
    by_cases hlt : k < 4
    · have HP := press58_any ⟨1, 0, padN k⟩ vw58 (ad58 A c) _ (at58 A c) (keys58.getD k []) wr hOr.words hOr.laid hOr.err (ok58 hc hEr) (by rcases (show k = 0 ∨ k = 1 ∨ k = 2 ∨ k = 3 by omega) with rfl | rfl | rfl | rfl <;> decide) (by simp [padN]; omega)
      rw [p58_N k hlt] at HP
      have fc : wr.cell? ⟨gk, k, none⟩ = some (.string ⟨(keys58.getD k []).toArray⟩) := by
        rw [K.cell]
        rcases (show k = 0 ∨ k = 1 ∨ k = 2 ∨ k = 3 by omega) with rfl | rfl | rfl | rfl <;> rfl
      generalize keys58.getD k [] = key at HP fc
      generalize hp' : padN (k + 1) = p' at HP ⊢
      have HQ := Lib.hid hp'
      clear hp'
      have HP := Lib.hid HP
      go_wp2_with (go_at_call 6; (with_reducible refine callTR HP.out ?_); intro w5 B5; have X5 := X.step B5; have q2 := X5.plain; have q3 := X5.of)
      go_roundw
      case rel => exact ⟨k + 1, by omega, by go_num, by rw [HQ.out]; exact X5.set _, (V.step B5).far htv _, (K.step B5).far hkt _, below_setRow' (below_step C B5) hg2 _⟩
      case measure => simp [intOf]; omega
    · obtain rfl : k = 4 := by omega
      replace X : Blk wr gt (Term.arr ⟨1, 0, [65, 47, 48, 48]⟩) := X
      replace x5 : of_term wr gt 0 = ⟨1, 0, [65, 47, 48, 48]⟩ := x5
      have HP := press58_any ⟨1, 0, [65, 47, 48, 48]⟩ vw58 (ad58 A c) _ (at58 A c) [76, 50] wr hOr.words hOr.laid hOr.err (ok58 hc hEr) (by decide) (by decide)
      rw [p58_L2] at HP
      have HP := Lib.hid HP
      clear K hkt
      go_upto_region 12 with (go_at_call 6; (with_reducible refine callTR HP.out ?_); intro w5 B5; have X5 := X.step B5; have q2 := X5.plain; have q3 := X5.of)
      have X6 := X5.set (Term.arr ⟨1, 0, []⟩)
      have V6 := (V.step B5).far htv (Term.arr ⟨1, 0, []⟩)
      have C6 := below_setRow' (below_step C B5) hg2 (Term.arr ⟨1, 0, []⟩)
      clear X V C x4 x5 j1 j2 HP X5 q2 q3 B5 hOr hEr
      generalize w5.setRow _ _ = W6 at X6 V6 C6 ⊢
      have hO6 := hO2.below C6
      have hE6 : Ents W6 A es58 := hE.below (B := 0) C6
      have x4 := X6.has_term
      have x5 := X6.of_term
      have x6 := X6.cell
      have j1 : Has_view W6 gv 0 := ⟨_, V6.is_view rfl⟩
      have j2 : of_view W6 gv 0 = viewArr (.slice A 3 c) 1 := of_view_eq (V6.is_view rfl)
      have HP := press58_any ⟨1, 0, []⟩ vw58 (ad58 A c) _ (at58 A c) [82, 49] W6 hO6.words hO6.laid hO6.err (ok58 hc hE6) (by decide) (by decide)
      rw [p58_R1] at HP
      have HP := Lib.hid HP
      go_upto_region 15 with (go_at_call 6; (with_reducible refine callTR HP.out ?_); intro w7 B7; have X7 := X6.step B7; have q2 := X7.plain; have q3 := X7.of)
      have X8 := X7.set (Term.arr ⟨1, 0, [45]⟩)
      have V8 := (V6.step B7).far htv (Term.arr ⟨1, 0, [45]⟩)
      have C8 := below_setRow' (below_step C6 B7) hg2 (Term.arr ⟨1, 0, [45]⟩)
      clear X6 V6 C6 x4 x5 x6 j1 j2 HP X7 q2 q3 B7 hO6 hE6
      generalize w7.setRow _ _ = W8 at X8 V8 C8 ⊢
      have hO8 := hO2.below C8
      have hE8 : Ents W8 A es58 := hE.below (B := 0) C8
      have x4 := X8.has_term
      have x5 := X8.of_term
      have x6 := X8.cell
      have j1 : Has_view W8 gv 0 := ⟨_, V8.is_view rfl⟩
      have j2 : of_view W8 gv 0 = viewArr (.slice A 3 c) 1 := of_view_eq (V8.is_view rfl)
      have HP := press58_any ⟨1, 0, [45]⟩ vw58 (ad58 A c) _ (at58 A c) [82, 49] W8 hO8.words hO8.laid hO8.err (ok58 hc hE8) (by decide) (by decide)
      rw [p58_R1b] at HP
      have HP := Lib.hid HP
      go_upto_region 18 with (go_at_call 6; (with_reducible refine callTR HP.out ?_); intro w9 B9; have X9 := X8.step B9)
      have V9 := V8.step B9
      have C9 := below_step C8 B9
      clear X8 V8 C8 x4 x5 x6 j1 j2 HP B9 hO8 hE8
      have hO9 := hO2.below C9
      have hE9 : Ents w9 A es58 := hE.below (B := 0) C9
      have x4 := X9.has_term
      have x5 := X9.of_term
      have j1 : Has_view w9 gv 0 := ⟨_, V9.is_view rfl⟩
      have j2 : of_view w9 gv 0 = viewArr (.slice A 3 c) 1 := of_view_eq (V9.is_view rfl)
      have HR : Hid (Calls Tryz.prog 10 #[.agg (Term.arr ⟨1, 0, [45]⟩), .agg (viewArr (.slice A 3 c) 1)] w9 (RetStrs w9 l58)) := Lib.hid (render_any ⟨1, 0, [45]⟩ vw58 (ad58 A c) _ (at58 A c) rng58 w9 hO9.laid (ok58 hc hE9) ⟨by decide, by decide⟩ (by decide))
      go_upto_region 19 with (go_at_call 10; (with_reducible refine callStrs' HR.out ?_); intro v10 w10 O10 B10)
      obtain ⟨Ar, cr, rfl, hcr, hSr⟩ := O10.form
      obtain ⟨b, o, rfl, hbl, hcell⟩ := hSr.at_ (by intro e; have := l58_len; rw [e] at this; cases this)
      have r0 := hcell 0 _ l58_0
      have r3 := hcell 3 _ l58_3
      have r4 := hcell 4 _ l58_4
      have r13 := hcell 13 _ l58_13
      have rl := l58_len
      unfold sval at r0 r3 r4 r13
      rw [Nat.add_zero] at r0
      have C10 := below_step C9 B10
      clear hcell O10 HR x4 x5 j1 j2
      rw [rl] at *
      go_wp2
      go_ret
      exact Ret.bool rfl (below_step B02 (C10.mono (Nat.le_refl _)))
end Go.Proofs.YtlleijickhifmaaGreatDoor
