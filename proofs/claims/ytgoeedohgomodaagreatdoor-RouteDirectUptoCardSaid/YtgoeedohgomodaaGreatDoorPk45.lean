/- Lemmas and walks. -/
import Derived.Test.YtgoeedohgomodaaGreatDoorPk38
import Derived.Test.YtgoeedohgomodaaGreatDoorPk41
import Derived.Test.YtgoeedohgomodaaGreatDoorPk44
set_option linter.unusedSimpArgs false
set_option linter.unusedVariables false
namespace Go.Proofs.YtgoeedohgomodaaGreatDoor
open Go.RowKit Go.Sort
set_option maxRecDepth 100000
attribute [local go_sem] of_itm_drewO Plain_drewR blkOf_drewR Plain_newS blkOf_newS Plain_newS2 blkOf_newS2 Plain_oldS2 setRow_drewO Has_db_alloc5 of_db_alloc5 Has_db_drewO of_db_drewO
attribute [local go_sem ↓] bawyG_fold
attribute [local go_sem] run_bawyG awyArr_ones awyArr_sz awyArr_fits awyArr_splice
set_option maxHeartbeats 16000000 in
theorem bstep3_any {w : World} {d : DBs} {G : GDB} {iA : Option Addr} {ic : Nat} {xs : List ItemV} (hS : RS w d G iA ic xs) (es : List Entry) (L : Option Addr) (c g : Nat) (W : World) (h : Bu w W g d.cells (.slice iA xs.length ic) L c es) (he : es.length ≤ 250000) (i : Nat) (hi : i < xs.length) (hn : xs.length ≤ 124) (word : List UInt8) (hw : word.length ≤ 4000000000)
    (hk : (xs.getD i noItem).kind = 3) (hi1 : i + 1 < xs.length) :
    Calls Tryz.prog 41 #[.pointer (some ⟨g, 0, none⟩), .int .i64 i, .string ⟨word.toArray⟩] W (RetSt w W g d.cells (.slice iA xs.length ic) (itemStep (lookR G) xs word i es)) := by
  have HS := Lib.hid hS
  have HB := Lib.hid h
  have HXS := Lib.hid (getD_short hS.xsS)
  obtain ⟨m, hm⟩ : ∃ m, xs.length = m + 1 := ⟨xs.length - 1, by omega⟩
  obtain ⟨b, off, hiA, hic, hcl⟩ := hS.itm hi
  obtain ⟨b', off', hiA', hmc, hcl'⟩ := hS.itm (i := m) (by omega)
  obtain ⟨rfl, rfl⟩ : b' = b ∧ off' = off := by
    rw [hiA] at hiA'
    injection hiA' with e1
    injection e1 with e2 e3
    exact ⟨e2.symm, e3.symm⟩
  have IS := Lib.hid (fun W' (D : Below W.heap.size W W') => show W'.cell? ⟨g, 9, none⟩ = some (.slice (some ⟨b', off', none⟩) (m + 1) ic) ∧ Has_itm W' b' (off' + i * 3) ∧ of_itm W' b' (off' + i * 3) = xs.getD i noItem ∧ Has_itm W' b' (off' + m * 3) ∧ of_itm W' b' (off' + m * 3) = xs.getD m noItem from
    ⟨by have := (HB.out.step D).c9; rw [hiA, hm] at this; exact this, ⟨_, hcl W' (HB.out.step D).bel⟩, of_itm_eq (hcl W' (HB.out.step D).bel), ⟨_, hcl' W' (HB.out.step D).bel⟩, of_itm_eq (hcl' W' (HB.out.step D).bel)⟩)
  have HM := Lib.hid hm
  have HIA := Lib.hid hiA
  have HK := Lib.hid hk
  generalize hx : xs.getD i noItem = x at *
  generalize hz : xs.getD m noItem = z at *
  have HX := Lib.hid hx
  have HZ := Lib.hid hz
  have him : i < m + 1 := by omega
  have hm124 : m ≤ 124 := by omega
  have hlt1 : (i : Int) < ((m : Int) + 1) := by omega
  have hwr : IntKind.i64.wrap (m : Int) = (m : Int) := by rw [IntKind.wrap_i64]; omega
  have hlt2 : (m : Int) < ((m : Int) + 1) := by omega
  clear hS h hiA hiA' hcl hcl' hx hz hk hm hi hn
  go_enter Tryz.func41, Tryz.ntmps41
  go_upto_region 1 with (fail)
  go_cut [8, 9] from 24 to 42 (fun u v wx => ∃ q8 q9, u = .pointer (some ⟨q8, 0, none⟩) ∧ v = .pointer (some ⟨q9, 0, none⟩) ∧ Blk wx q8 x.arr ∧ Blk wx q9 z.arr ∧ g < q8 ∧ Below W.heap.size W wx)
  case first =>
    have D2 : Below W.heap.size W W.drew := (Below.refl _ _).drew
    go_region_held3 (fun w' => w'.cell? ⟨g, 9, none⟩ = some (.slice (some ⟨b', off', none⟩) (m + 1) ic) ∧ Has_itm w' b' (off' + i * 3) ∧ of_itm w' b' (off' + i * 3) = x ∧ Has_itm w' b' (off' + m * 3) ∧ of_itm w' b' (off' + m * 3) = z)
      ((refine IS.out _ ?_; repeat' (first | assumption | omega | (refine below_setRow' ?_ ?_ _) | (refine Below.alloc ?_ ?_ _) | (refine Below.drew ?_) | exact Below.refl _ _ | (simp; done) | (simp; omega))))
      (fail)
    all_goals
      go_wp2
      go_meet
      first
        | (obtain ⟨a1, a2, a3⟩ := two_filled W noItem.arr x.arr noItem.arr z.arr 57 57; exact ⟨_, _, rfl, rfl, a1.step (Below.refl _ _).drew, a2.step (Below.refl _ _).drew, (by have := HB.out.lt; omega), a3.drew⟩)
        | (obtain ⟨a1, a2, a3⟩ := two_filledO W noItem.arr noItem.arr x.arr z.arr 57 57; exact ⟨_, _, rfl, rfl, a1.step (Below.refl _ _).drew, a2.step (Below.refl _ _).drew, (by have := HB.out.lt; omega), a3.drew⟩)
        | (obtain ⟨a1, a2, a3⟩ := two_filled W noItem.arr z.arr noItem.arr x.arr 57 57; exact ⟨_, _, rfl, rfl, a2.step (Below.refl _ _).drew, a1.step (Below.refl _ _).drew, (by have := HB.out.lt; omega), a3.drew⟩)
        | (obtain ⟨a1, a2, a3⟩ := two_filledO W noItem.arr noItem.arr z.arr x.arr 57 57; exact ⟨_, _, rfl, rfl, a2.step (Below.refl _ _).drew, a1.step (Below.refl _ _).drew, (by have := HB.out.lt; omega), a3.drew⟩)
  case rest =>
  obtain ⟨q8, q9, rfl, rfl, X8, X9, hgq, BC⟩ := hcut
  have B1 := HB.out.step BC
  have O1 := Lib.hid (OnlyB.of (g := g) BC)
  obtain ⟨xk, xn, xt⟩ := x
  obtain rfl : xk = 3 := HK.out
  have c0 : wc.cell? ⟨q8, 0, none⟩ = some (.int .u8 3) := X8.cell 0
  have HC := Lib.hid (show itemStep (lookR G) xs word i es = nameS (lookR G) es ⟨3, xn, xt⟩ (xs.getD (i + 1) noItem) i by
    unfold itemStep; rw [HX.out]; rfl)
  have hxn : xn.length ≤ 4000000000 := by have := (HXS.out i).small.1; rw [HX.out] at this; exact this
  have c1 : wc.cell? ⟨q8, 1, none⟩ = some (.string ⟨xn.toArray⟩) := X8.cell 1
  have HAL := Lib.hid (show awyLook G.airways xn = match awyFind xn G.airways with | none => (noAwy, 6) | some a => (a, 0) from rfl)
  have kb := Lib.hid (bairway_any d G es L c g _ w wc xn B1 (HS.out.gd.below B1.bel))
  have HNA := Lib.hid (show nameS (lookR G) es ⟨3, xn, xt⟩ (xs.getD (i + 1) noItem) i = match awyFind xn G.airways with
    | some a => ((alongS (lookR G) es a (xs.getD (i + 1) noItem) i).1, (if (alongS (lookR G) es a (xs.getD (i + 1) noItem) i).2.2 = 0 then (i : Int) + 1 else (alongS (lookR G) es a (xs.getD (i + 1) noItem) i).2.1, (alongS (lookR G) es a (xs.getD (i + 1) noItem) i).2.2))
    | none => atI i (if (nearG G es xn).2 ≠ 0 then (es, (nearG G es xn).2) else addS (lookR G) es [toLeg 2 (nearG G es xn).1] 2 []) from rfl)
  have HO := Lib.hid (HC.out.trans HNA.out)
  generalize itemStep (lookR G) xs word i es = out at *
  have HB1 := Lib.hid B1
  have HX8 := Lib.hid X8
  clear HX HZ IS HXS X9 B1 X8 HC HNA
  cases hf : awyFind xn G.airways with
  | some a =>
    rw [hf] at HO HAL
    have hr : awyLook G.airways xn = (a, 0) := HAL.out
    rw [hr] at kb
    have has := HS.out.gd.airS a (awyFind_mem hf)
    clear HAL hf hr
    dsimp only at HO
    go_upto_region 18 with (go_at_call 75; (with_reducible refine callAwB (kb.out) ?_); intro cs3 w3 h3 b3; obtain ⟨A6, c6, hcs, h6a, h6b⟩ := h3.ex; subst hcs)
    obtain ⟨Y4, d4⟩ := filledO w3 (awyArr noAwy none 0) (awyArr a A6 c6) 81
    have D4 := below_step b3 d4
    have h4 := h3.below d4
    have B4 := HB1.out.step D4
    have O4 := Lib.hid (O1.out.trans (OnlyB.of D4))
    clear h3 b3 h6a h6b kb D4 d4
    generalize hw4 : World.setRow (World.alloc w3 _) _ _ = w4
    have hw4' : (w3.alloc (.cells (awyArr noAwy none 0) 81)).setRow w3.heap.size (awyArr a A6 c6) = w4 := hw4
    rw [hw4'] at h4 Y4 B4 O4
    clear hw4 hw4'
    generalize w3.heap.size = q13 at Y4 ⊢
    have kl := Lib.hid (balong_any HS.out es L c g w4 B4 (by omega) a (awyArr a A6 c6) h4 has i hi1 (by have := HM.out; omega))
    have j1 : Has_awy w4 q13 0 := ⟨_, Y4.is_awy rfl⟩
    have j2 : of_awy w4 q13 0 = awyArr a A6 c6 := of_awy_eq (Y4.is_awy rfl)
    generalize alongS (lookR G) es a (xs.getD (i + 1) noItem) i = r at *
    obtain ⟨rl, rj, re⟩ := r
    dsimp only at HO
    clear h4 Y4 B4
    by_cases hz : re = 0
    · subst hz
      have HO2 := Lib.hid (show out = (rl, ((i : Int) + 1, 0)) by rw [HO.out, if_pos rfl])
      clear HO
      go_wp2_with (go_at_call 76; (with_reducible refine callBI kl.out ?_); intro L5 c5 w5 B5 O5)
      go_ret2
      exact RetSt.of (q := (rl, 0)) HO2.out B5 (O4.out.trans O5)
    · have hz' : (re == 0) = false := by simpa using hz
      have HO2 := Lib.hid (show out = (rl, (rj, re)) by rw [HO.out, if_neg hz])
      have HZ2 := Lib.hid hz
      clear HO hz
      go_wp2_with (go_at_call 76; (with_reducible refine callBI kl.out ?_); intro L5 c5 w5 B5 O5)
      go_ret2
      exact RetSt.err (by rw [HO2.out]) HZ2.out (O4.out.trans O5)
  | none =>
    rw [hf] at HO HAL
    have hr : awyLook G.airways xn = (noAwy, 6) := HAL.out
    rw [hr] at kb
    clear HAL hf hr
    dsimp only at HO
    have hnl := nearG_len HS.out.sh es xn
    have kn := Lib.hid (fun W' (D : Below wc.heap.size wc W') => bnear_any HS.out es L c g _ W' (HB1.out.step D) (by omega) xn hxn)
    go_upto_region 22 with (go_at_call 75; (with_reducible refine callAwB (kb.out) ?_); intro cs3 w3 h3 b3; obtain ⟨A6, c6, hcs, h6a, h6b⟩ := h3.ex; subst hcs)
    obtain ⟨_, d4⟩ := filledO w3 (awyArr noAwy none 0) (awyArr noAwy A6 c6) 81
    have D4 := below_step b3 d4
    have B4 := Lib.hid (HB1.out.step D4)
    have O4 := Lib.hid (O1.out.trans (OnlyB.of D4))
    have X4 := HX8.out.step D4
    have kn4 := Lib.hid (kn.out _ D4)
    clear h3 b3 h6a h6b kb D4 kn d4
    generalize hw4 : World.setRow (World.alloc w3 _) _ _ = w4
    have hw4' : (w3.alloc (.cells (awyArr noAwy none 0) 81)).setRow w3.heap.size (awyArr noAwy A6 c6) = w4 := hw4
    rw [hw4'] at B4 O4 X4 kn4
    clear hw4 hw4'
    have c14 : w4.cell? ⟨q8, 1, none⟩ = some (.string ⟨xn.toArray⟩) := X4.cell 1
    generalize nearG G es xn = nr at *
    obtain ⟨nf, ne⟩ := nr
    dsimp only at HO hnl
    by_cases hz : ne = 0
    rotate_left
    · have hz' : (ne != 0) = true := by simpa using hz
      have HO2 := Lib.hid (show out = atI i (es, ne) by rw [HO.out, if_pos hz])
      clear HO hz
      go_wp2_with (go_at_call 77; (with_reducible refine callR kn4.out ?_); intro w5 b5 _ _ _)
      go_ret2
      exact RetSt.of (q := (es, ne)) HO2.out (B4.out.step b5) (O4.out.trans (OnlyB.of b5))
    · subst hz
      have HO2 := Lib.hid (show out = atI i (addS (lookR G) es [toLeg 2 nf] 2 []) by rw [HO.out, if_neg (not_not_intro rfl)])
      clear HO
      go_wp2_with (first
        | (go_at_call 77; (with_reducible refine callR kn4.out ?_); intro w5 b5 _ _ _)
        | (go_at_call 72; (with_reducible refine callR (rfree_any _) ?_); intro w6 b6 _ _ _)
        | (go_at_call 71; (with_reducible refine callLg (rto_any 2 nf (-200000) 6000000 _) ?_); intro A7 w7 I7 b7; have f7 := below_step (below_step b5 b6) b7)
        | (go_at_call 70; (with_reducible refine callBu (HS.out.add1e (B4.out.step f7) 2 nf A7 2 I7 hnl (by omega)) ?_); intro L8 c8 w8 B8 O8))
      go_ret2
      exact RetSt.of HO2.out B8 (O4.out.trans ((OnlyB.of f7).trans O8))
end Go.Proofs.YtgoeedohgomodaaGreatDoor
