/- Lemmas and walks. -/
import Derived.Test.YtgoeedohgomodaaGreatDoorPk38
import Derived.Test.YtgoeedohgomodaaGreatDoorPk40
import Derived.Test.YtgoeedohgomodaaGreatDoorPk33
import Derived.Deep.CutBlock
set_option linter.unusedSimpArgs false
set_option linter.unusedVariables false
namespace Go.Proofs.YtgoeedohgomodaaGreatDoor
open Go.RowKit Go.Sort
set_option maxRecDepth 100000
attribute [local go_sem] of_itm_drewO Plain_drewR blkOf_drewR Plain_newS blkOf_newS Plain_newS2 blkOf_newS2 Plain_oldS2 setRow_drewO Has_db_alloc5 of_db_alloc5 Has_db_drewO of_db_drewO
set_option maxHeartbeats 16000000 in
theorem bstep6_any {w : World} {d : DBs} {G : GDB} {iA : Option Addr} {ic : Nat} {xs : List ItemV} (hS : RS w d G iA ic xs) (es : List Entry) (L : Option Addr) (c g : Nat) (W : World) (h : Bu w W g d.cells (.slice iA xs.length ic) L c es) (he : es.length ≤ 250000) (i : Nat) (hi : i < xs.length) (hn : xs.length ≤ 124) (word : List UInt8) (hw : word.length ≤ 4000000000)
    (hk : (xs.getD i noItem).kind = 6) :
    Calls Tryz.prog 41 #[.pointer (some ⟨g, 0, none⟩), .int .i64 i, .string ⟨word.toArray⟩] W (RetSt w W g d.cells (.slice iA xs.length ic) (itemStep (lookR G) xs word i es)) := by
  have HS := Lib.hid hS
  have HB := Lib.hid h
  have HXS := Lib.hid (getD_short hS.xsS)
  obtain ⟨m, hm⟩ : ∃ m, xs.length = m + 1 := ⟨xs.length - 1, by omega⟩
  obtain ⟨b, off, hiA, hic, hcl⟩ := hS.itm hi
  obtain ⟨b', off', hiA', hmc, hcl'⟩ := hS.itm (i := m) (by omega)
  obtain ⟨rfl, rfl⟩ : b' = b ∧ off' = off := by
    rw [hiA] at hiA'
    injection hiA' with e1
    injection e1 with e2 e3
    exact ⟨e2.symm, e3.symm⟩
  have IS := Lib.hid (fun W' (D : Below W.heap.size W W') => show W'.cell? ⟨g, 9, none⟩ = some (.slice (some ⟨b', off', none⟩) (m + 1) ic) ∧ Has_itm W' b' (off' + i * 3) ∧ of_itm W' b' (off' + i * 3) = xs.getD i noItem ∧ Has_itm W' b' (off' + m * 3) ∧ of_itm W' b' (off' + m * 3) = xs.getD m noItem from
    ⟨by have := (HB.out.step D).c9; rw [hiA, hm] at this; exact this, ⟨_, hcl W' (HB.out.step D).bel⟩, of_itm_eq (hcl W' (HB.out.step D).bel), ⟨_, hcl' W' (HB.out.step D).bel⟩, of_itm_eq (hcl' W' (HB.out.step D).bel)⟩)
  have HM := Lib.hid hm
  have HIA := Lib.hid hiA
  have HK := Lib.hid hk
  generalize hx : xs.getD i noItem = x at *
  generalize hz : xs.getD m noItem = z at *
  have HX := Lib.hid hx
  have HZ := Lib.hid hz
  have him : i < m + 1 := by omega
  have hm124 : m ≤ 124 := by omega
  have hlt1 : (i : Int) < ((m : Int) + 1) := by omega
  have hwr : IntKind.i64.wrap (m : Int) = (m : Int) := by rw [IntKind.wrap_i64]; omega
  have hlt2 : (m : Int) < ((m : Int) + 1) := by omega
  clear hS h hiA hiA' hcl hcl' hx hz hk hm hi hn
  go_enter Tryz.func41, Tryz.ntmps41
  go_upto_region 1 with (fail)
  go_cut [8, 9] from 24 to 42 (fun u v wx => ∃ q8 q9, u = .pointer (some ⟨q8, 0, none⟩) ∧ v = .pointer (some ⟨q9, 0, none⟩) ∧ Blk wx q8 x.arr ∧ Blk wx q9 z.arr ∧ g < q8 ∧ Below W.heap.size W wx)
  case first =>
    have D2 : Below W.heap.size W W.drew := (Below.refl _ _).drew
    go_region_held3 (fun w' => w'.cell? ⟨g, 9, none⟩ = some (.slice (some ⟨b', off', none⟩) (m + 1) ic) ∧ Has_itm w' b' (off' + i * 3) ∧ of_itm w' b' (off' + i * 3) = x ∧ Has_itm w' b' (off' + m * 3) ∧ of_itm w' b' (off' + m * 3) = z)
      ((refine IS.out _ ?_; repeat' (first | assumption | omega | (refine below_setRow' ?_ ?_ _) | (refine Below.alloc ?_ ?_ _) | (refine Below.drew ?_) | exact Below.refl _ _ | (simp; done) | (simp; omega))))
      (fail)
    all_goals
      go_wp2
      go_meet
      first
        | (obtain ⟨a1, a2, a3⟩ := two_filled W noItem.arr x.arr noItem.arr z.arr 57 57; exact ⟨_, _, rfl, rfl, a1.step (Below.refl _ _).drew, a2.step (Below.refl _ _).drew, (by have := HB.out.lt; omega), a3.drew⟩)
        | (obtain ⟨a1, a2, a3⟩ := two_filledO W noItem.arr noItem.arr x.arr z.arr 57 57; exact ⟨_, _, rfl, rfl, a1.step (Below.refl _ _).drew, a2.step (Below.refl _ _).drew, (by have := HB.out.lt; omega), a3.drew⟩)
        | (obtain ⟨a1, a2, a3⟩ := two_filled W noItem.arr z.arr noItem.arr x.arr 57 57; exact ⟨_, _, rfl, rfl, a2.step (Below.refl _ _).drew, a1.step (Below.refl _ _).drew, (by have := HB.out.lt; omega), a3.drew⟩)
        | (obtain ⟨a1, a2, a3⟩ := two_filledO W noItem.arr noItem.arr z.arr x.arr 57 57; exact ⟨_, _, rfl, rfl, a2.step (Below.refl _ _).drew, a1.step (Below.refl _ _).drew, (by have := HB.out.lt; omega), a3.drew⟩)
  case rest =>
  obtain ⟨q8, q9, rfl, rfl, X8, X9, hgq, BC⟩ := hcut
  have B1 := HB.out.step BC
  have O1 := Lib.hid (OnlyB.of (g := g) BC)
  obtain ⟨xk, xn, xt⟩ := x
  obtain rfl : xk = 6 := HK.out
  have c0 : wc.cell? ⟨q8, 0, none⟩ = some (.int .u8 6) := X8.cell 0
  have HC := Lib.hid (show itemStep (lookR G) xs word i es = atI i (loadS (lookR G) es ⟨6, xn, xt⟩ z 2 3) by
    have e : xs.getD (xs.length - 1) noItem = z := by rw [HM.out]; exact HZ.out
    unfold itemStep; rw [HX.out, e]; rfl)
  have hxs : ItemV.short ⟨6, xn, xt⟩ := by have := HXS.out i; rw [HX.out] at this; exact this
  have hzs : z.short := by have := HXS.out m; rw [HZ.out] at this; exact this
  have kl := Lib.hid (bload_any HS.out es L c g _ wc B1 (by omega) ⟨6, xn, xt⟩ z hxs hzs 2 3)
  have i1 : Has_itm wc q8 0 := ⟨_, X8.is_itm⟩
  have i2 : of_itm wc q8 0 = ⟨6, xn, xt⟩ := of_itm_eq X8.is_itm
  have i3 : Has_itm wc q9 0 := ⟨_, X9.is_itm⟩
  have i4 : of_itm wc q9 0 = z := of_itm_eq X9.is_itm
  generalize itemStep (lookR G) xs word i es = out at *
  clear HX HZ IS HXS X9 B1 X8 hxs hzs
  go_wp2_with (go_at_call 74; (with_reducible refine callBu kl.out ?_); intro L4 c4 w4 B4 O4)
  go_ret2
  exact RetSt.of HC.out B4 (O1.out.trans O4)
set_option maxHeartbeats 16000000 in
theorem bstep7_any {w : World} {d : DBs} {G : GDB} {iA : Option Addr} {ic : Nat} {xs : List ItemV} (hS : RS w d G iA ic xs) (es : List Entry) (L : Option Addr) (c g : Nat) (W : World) (h : Bu w W g d.cells (.slice iA xs.length ic) L c es) (he : es.length ≤ 250000) (i : Nat) (hi : i < xs.length) (hn : xs.length ≤ 124) (word : List UInt8) (hw : word.length ≤ 4000000000)
    (hk : (xs.getD i noItem).kind = 7) :
    Calls Tryz.prog 41 #[.pointer (some ⟨g, 0, none⟩), .int .i64 i, .string ⟨word.toArray⟩] W (RetSt w W g d.cells (.slice iA xs.length ic) (itemStep (lookR G) xs word i es)) := by
  have HS := Lib.hid hS
  have HB := Lib.hid h
  have HXS := Lib.hid (getD_short hS.xsS)
  obtain ⟨m, hm⟩ : ∃ m, xs.length = m + 1 := ⟨xs.length - 1, by omega⟩
  obtain ⟨b, off, hiA, hic, hcl⟩ := hS.itm hi
  obtain ⟨b', off', hiA', hmc, hcl'⟩ := hS.itm (i := m) (by omega)
  obtain ⟨rfl, rfl⟩ : b' = b ∧ off' = off := by
    rw [hiA] at hiA'
    injection hiA' with e1
    injection e1 with e2 e3
    exact ⟨e2.symm, e3.symm⟩
  have IS := Lib.hid (fun W' (D : Below W.heap.size W W') => show W'.cell? ⟨g, 9, none⟩ = some (.slice (some ⟨b', off', none⟩) (m + 1) ic) ∧ Has_itm W' b' (off' + i * 3) ∧ of_itm W' b' (off' + i * 3) = xs.getD i noItem ∧ Has_itm W' b' (off' + m * 3) ∧ of_itm W' b' (off' + m * 3) = xs.getD m noItem from
    ⟨by have := (HB.out.step D).c9; rw [hiA, hm] at this; exact this, ⟨_, hcl W' (HB.out.step D).bel⟩, of_itm_eq (hcl W' (HB.out.step D).bel), ⟨_, hcl' W' (HB.out.step D).bel⟩, of_itm_eq (hcl' W' (HB.out.step D).bel)⟩)
  have HM := Lib.hid hm
  have HIA := Lib.hid hiA
  have HK := Lib.hid hk
  generalize hx : xs.getD i noItem = x at *
  generalize hz : xs.getD m noItem = z at *
  have HX := Lib.hid hx
  have HZ := Lib.hid hz
  have him : i < m + 1 := by omega
  have hm124 : m ≤ 124 := by omega
  have hlt1 : (i : Int) < ((m : Int) + 1) := by omega
  have hwr : IntKind.i64.wrap (m : Int) = (m : Int) := by rw [IntKind.wrap_i64]; omega
  have hlt2 : (m : Int) < ((m : Int) + 1) := by omega
  clear hS h hiA hiA' hcl hcl' hx hz hk hm hi hn
  go_enter Tryz.func41, Tryz.ntmps41
  go_upto_region 1 with (fail)
  go_cut [8, 9] from 24 to 42 (fun u v wx => ∃ q8 q9, u = .pointer (some ⟨q8, 0, none⟩) ∧ v = .pointer (some ⟨q9, 0, none⟩) ∧ Blk wx q8 x.arr ∧ Blk wx q9 z.arr ∧ g < q8 ∧ Below W.heap.size W wx)
  case first =>
    have D2 : Below W.heap.size W W.drew := (Below.refl _ _).drew
    go_region_held3 (fun w' => w'.cell? ⟨g, 9, none⟩ = some (.slice (some ⟨b', off', none⟩) (m + 1) ic) ∧ Has_itm w' b' (off' + i * 3) ∧ of_itm w' b' (off' + i * 3) = x ∧ Has_itm w' b' (off' + m * 3) ∧ of_itm w' b' (off' + m * 3) = z)
      ((refine IS.out _ ?_; repeat' (first | assumption | omega | (refine below_setRow' ?_ ?_ _) | (refine Below.alloc ?_ ?_ _) | (refine Below.drew ?_) | exact Below.refl _ _ | (simp; done) | (simp; omega))))
      (fail)
    all_goals
      go_wp2
      go_meet
      first
        | (obtain ⟨a1, a2, a3⟩ := two_filled W noItem.arr x.arr noItem.arr z.arr 57 57; exact ⟨_, _, rfl, rfl, a1.step (Below.refl _ _).drew, a2.step (Below.refl _ _).drew, (by have := HB.out.lt; omega), a3.drew⟩)
        | (obtain ⟨a1, a2, a3⟩ := two_filledO W noItem.arr noItem.arr x.arr z.arr 57 57; exact ⟨_, _, rfl, rfl, a1.step (Below.refl _ _).drew, a2.step (Below.refl _ _).drew, (by have := HB.out.lt; omega), a3.drew⟩)
        | (obtain ⟨a1, a2, a3⟩ := two_filled W noItem.arr z.arr noItem.arr x.arr 57 57; exact ⟨_, _, rfl, rfl, a2.step (Below.refl _ _).drew, a1.step (Below.refl _ _).drew, (by have := HB.out.lt; omega), a3.drew⟩)
        | (obtain ⟨a1, a2, a3⟩ := two_filledO W noItem.arr noItem.arr z.arr x.arr 57 57; exact ⟨_, _, rfl, rfl, a2.step (Below.refl _ _).drew, a1.step (Below.refl _ _).drew, (by have := HB.out.lt; omega), a3.drew⟩)
  case rest =>
  obtain ⟨q8, q9, rfl, rfl, X8, X9, hgq, BC⟩ := hcut
  have B1 := HB.out.step BC
  have O1 := Lib.hid (OnlyB.of (g := g) BC)
  obtain ⟨xk, xn, xt⟩ := x
  obtain rfl : xk = 7 := HK.out
  have c0 : wc.cell? ⟨q8, 0, none⟩ = some (.int .u8 7) := X8.cell 0
  have HC := Lib.hid (show itemStep (lookR G) xs word i es = atI i (loadS (lookR G) es ⟨7, xn, xt⟩ z 3 4) by
    have e : xs.getD (xs.length - 1) noItem = z := by rw [HM.out]; exact HZ.out
    unfold itemStep; rw [HX.out, e]; rfl)
  have hxs : ItemV.short ⟨7, xn, xt⟩ := by have := HXS.out i; rw [HX.out] at this; exact this
  have hzs : z.short := by have := HXS.out m; rw [HZ.out] at this; exact this
  have kl := Lib.hid (bload_any HS.out es L c g _ wc B1 (by omega) ⟨7, xn, xt⟩ z hxs hzs 3 4)
  have i1 : Has_itm wc q8 0 := ⟨_, X8.is_itm⟩
  have i2 : of_itm wc q8 0 = ⟨7, xn, xt⟩ := of_itm_eq X8.is_itm
  have i3 : Has_itm wc q9 0 := ⟨_, X9.is_itm⟩
  have i4 : of_itm wc q9 0 = z := of_itm_eq X9.is_itm
  generalize itemStep (lookR G) xs word i es = out at *
  clear HX HZ IS HXS X9 B1 X8 hxs hzs
  go_wp2_with (go_at_call 74; (with_reducible refine callBu kl.out ?_); intro L4 c4 w4 B4 O4)
  go_ret2
  exact RetSt.of HC.out B4 (O1.out.trans O4)
set_option maxHeartbeats 16000000 in
theorem bstep2_any {w : World} {d : DBs} {G : GDB} {iA : Option Addr} {ic : Nat} {xs : List ItemV} (hS : RS w d G iA ic xs) (es : List Entry) (L : Option Addr) (c g : Nat) (W : World) (h : Bu w W g d.cells (.slice iA xs.length ic) L c es) (he : es.length ≤ 250000) (i : Nat) (hi : i < xs.length) (hn : xs.length ≤ 124) (word : List UInt8) (hw : word.length ≤ 4000000000)
    (hk : (xs.getD i noItem).kind = 2) :
    Calls Tryz.prog 41 #[.pointer (some ⟨g, 0, none⟩), .int .i64 i, .string ⟨word.toArray⟩] W (RetSt w W g d.cells (.slice iA xs.length ic) (itemStep (lookR G) xs word i es)) := by
  have HS := Lib.hid hS
  have HB := Lib.hid h
  have HXS := Lib.hid (getD_short hS.xsS)
  obtain ⟨b0, off0, hiA0, _, hcl0⟩ := hS.itm (i := 0) (by omega)
  have HC0 := Lib.hid hcl0
  have HIA0 := Lib.hid hiA0
  clear hcl0 hiA0
  obtain ⟨m, hm⟩ : ∃ m, xs.length = m + 1 := ⟨xs.length - 1, by omega⟩
  obtain ⟨b, off, hiA, hic, hcl⟩ := hS.itm hi
  obtain ⟨b', off', hiA', hmc, hcl'⟩ := hS.itm (i := m) (by omega)
  obtain ⟨rfl, rfl⟩ : b' = b ∧ off' = off := by
    rw [hiA] at hiA'
    injection hiA' with e1
    injection e1 with e2 e3
    exact ⟨e2.symm, e3.symm⟩
  obtain ⟨rfl, rfl⟩ : b' = b0 ∧ off' = off0 := by
    have h0 := HIA0.out
    rw [hiA'] at h0
    injection h0 with e1
    injection e1 with e2 e3
    exact ⟨e2, e3⟩
  obtain ⟨y0, hy0⟩ : ∃ y, xs.getD 0 noItem = y := ⟨_, rfl⟩
  rw [hy0] at HC0
  have HY0 := Lib.hid hy0
  clear hy0 HIA0
  have HC0 := Lib.hid (fun W' (D : Below w.heap.size w W') => show Is_itm W' b' off' y0 by have := HC0.out W' D; rwa [Nat.zero_mul, Nat.add_zero] at this)
  have IS := Lib.hid (fun W' (D : Below W.heap.size W W') => show W'.cell? ⟨g, 9, none⟩ = some (.slice (some ⟨b', off', none⟩) (m + 1) ic) ∧ Has_itm W' b' (off' + i * 3) ∧ of_itm W' b' (off' + i * 3) = xs.getD i noItem ∧ Has_itm W' b' (off' + m * 3) ∧ of_itm W' b' (off' + m * 3) = xs.getD m noItem from
    ⟨by have := (HB.out.step D).c9; rw [hiA, hm] at this; exact this, ⟨_, hcl W' (HB.out.step D).bel⟩, of_itm_eq (hcl W' (HB.out.step D).bel), ⟨_, hcl' W' (HB.out.step D).bel⟩, of_itm_eq (hcl' W' (HB.out.step D).bel)⟩)
  have HM := Lib.hid hm
  have HIA := Lib.hid hiA
  have HK := Lib.hid hk
  generalize hx : xs.getD i noItem = x at *
  generalize hz : xs.getD m noItem = z at *
  have HX := Lib.hid hx
  have HZ := Lib.hid hz
  have him : i < m + 1 := by omega
  have hm124 : m ≤ 124 := by omega
  have hlt1 : (i : Int) < ((m : Int) + 1) := by omega
  have hwr : IntKind.i64.wrap (m : Int) = (m : Int) := by rw [IntKind.wrap_i64]; omega
  have hlt2 : (m : Int) < ((m : Int) + 1) := by omega
  clear hS h hiA hiA' hcl hcl' hx hz hk hm hi hn
  go_enter Tryz.func41, Tryz.ntmps41
  go_upto_region 1 with (fail)
  go_cut [8, 9] from 24 to 42 (fun u v wx => ∃ q8 q9, u = .pointer (some ⟨q8, 0, none⟩) ∧ v = .pointer (some ⟨q9, 0, none⟩) ∧ Blk wx q8 x.arr ∧ Blk wx q9 z.arr ∧ g < q8 ∧ Below W.heap.size W wx)
  case first =>
    have D2 : Below W.heap.size W W.drew := (Below.refl _ _).drew
    go_region_held3 (fun w' => w'.cell? ⟨g, 9, none⟩ = some (.slice (some ⟨b', off', none⟩) (m + 1) ic) ∧ Has_itm w' b' (off' + i * 3) ∧ of_itm w' b' (off' + i * 3) = x ∧ Has_itm w' b' (off' + m * 3) ∧ of_itm w' b' (off' + m * 3) = z)
      ((refine IS.out _ ?_; repeat' (first | assumption | omega | (refine below_setRow' ?_ ?_ _) | (refine Below.alloc ?_ ?_ _) | (refine Below.drew ?_) | exact Below.refl _ _ | (simp; done) | (simp; omega))))
      (fail)
    all_goals
      go_wp2
      go_meet
      first
        | (obtain ⟨a1, a2, a3⟩ := two_filled W noItem.arr x.arr noItem.arr z.arr 57 57; exact ⟨_, _, rfl, rfl, a1.step (Below.refl _ _).drew, a2.step (Below.refl _ _).drew, (by have := HB.out.lt; omega), a3.drew⟩)
        | (obtain ⟨a1, a2, a3⟩ := two_filledO W noItem.arr noItem.arr x.arr z.arr 57 57; exact ⟨_, _, rfl, rfl, a1.step (Below.refl _ _).drew, a2.step (Below.refl _ _).drew, (by have := HB.out.lt; omega), a3.drew⟩)
        | (obtain ⟨a1, a2, a3⟩ := two_filled W noItem.arr z.arr noItem.arr x.arr 57 57; exact ⟨_, _, rfl, rfl, a2.step (Below.refl _ _).drew, a1.step (Below.refl _ _).drew, (by have := HB.out.lt; omega), a3.drew⟩)
        | (obtain ⟨a1, a2, a3⟩ := two_filledO W noItem.arr noItem.arr z.arr x.arr 57 57; exact ⟨_, _, rfl, rfl, a2.step (Below.refl _ _).drew, a1.step (Below.refl _ _).drew, (by have := HB.out.lt; omega), a3.drew⟩)
  case rest =>
  obtain ⟨q8, q9, rfl, rfl, X8, X9, hgq, BC⟩ := hcut
  have B1 := HB.out.step BC
  have O1 := Lib.hid (OnlyB.of (g := g) BC)
  obtain ⟨xk, xn, xt⟩ := x
  obtain rfl : xk = 2 := HK.out
  have c0 : wc.cell? ⟨q8, 0, none⟩ = some (.int .u8 2) := X8.cell 0
  have HC := Lib.hid (show itemStep (lookR G) xs word i es = atI i (loadS (lookR G) es ⟨2, xn, xt⟩ y0 1 1) by
    unfold itemStep; rw [HX.out, HY0.out]; rfl)
  have hxs : ItemV.short ⟨2, xn, xt⟩ := by have := HXS.out i; rw [HX.out] at this; exact this
  have hys : y0.short := by have := HXS.out 0; rw [HY0.out] at this; exact this
  have kl := Lib.hid (fun W' (D : Below wc.heap.size wc W') => bload_any HS.out es L c g _ W' (B1.step D) (by omega) ⟨2, xn, xt⟩ y0 hxs hys 1 1)
  have IS2 := Lib.hid (fun W' (D : Below wc.heap.size wc W') => show (Has_itm W' q8 0 ∧ of_itm W' q8 0 = ⟨2, xn, xt⟩) ∧ W'.cell? ⟨g, 9, none⟩ = some (.slice (some ⟨b', off', none⟩) (m + 1) ic) ∧ Has_itm W' b' off' ∧ of_itm W' b' off' = y0 from
    ⟨⟨⟨_, (X8.step D).is_itm⟩, of_itm_eq (X8.step D).is_itm⟩, (IS.out W' (BC.trans (D.mono BC.size))).1, ⟨_, HC0.out W' (B1.step D).bel⟩, of_itm_eq (HC0.out W' (B1.step D).bel)⟩)
  have IS3 := Lib.hid (fun W' L' c' es' (B' : Bu w W' g d.cells (.slice iA xs.length ic) L' c' es') (O' : OnlyB g wc.drew W') => show (Has_itm W' q8 0 ∧ of_itm W' q8 0 = ⟨2, xn, xt⟩) ∧ W'.cell? ⟨g, 9, none⟩ = some (.slice (some ⟨b', off', none⟩) (m + 1) ic) ∧ Has_itm W' b' off' ∧ of_itm W' b' off' = y0 from
    ⟨⟨⟨_, ((X8.step (Below.refl _ _).drew).only O' (by omega)).is_itm⟩, of_itm_eq ((X8.step (Below.refl _ _).drew).only O' (by omega)).is_itm⟩, (by have := B'.c9; rw [HIA.out, HM.out] at this; exact this), ⟨_, HC0.out W' B'.bel⟩, of_itm_eq (HC0.out W' B'.bel)⟩)
  have hic0 : 0 < ic := by omega
  generalize itemStep (lookR G) xs word i es = out at *
  clear HX HZ IS HXS X9 B1 X8 hxs hys HY0 HC0 BC
  go_upto_region 12 with (fail)
  go_region_held3 (fun w' => (Has_itm w' q8 0 ∧ of_itm w' q8 0 = ⟨2, xn, xt⟩) ∧ w'.cell? ⟨g, 9, none⟩ = some (.slice (some ⟨b', off', none⟩) (m + 1) ic) ∧ Has_itm w' b' off' ∧ of_itm w' b' off' = y0)
    (first | exact IS3.out _ _ _ _ B4 O4 | ((refine IS2.out _ ?_; repeat' (first | assumption | omega | (refine below_setRow' ?_ ?_ _) | (refine Below.alloc ?_ ?_ _) | (refine Below.drew ?_) | exact Below.refl _ _ | (simp; done) | (simp; omega)))))
    ((go_at_call 74; (with_reducible refine callBu (kl.out _ (by repeat' (first | assumption | omega | (refine Below.alloc ?_ ?_ _) | (refine Below.drew ?_) | exact Below.refl _ _ | (simp; done) | (simp; omega)))) ?_); intro L4 c4 w4 B4 O4))
  all_goals
    go_wp2
    go_ret2
    exact RetSt.of HC.out B4 (O1.out.trans ((OnlyB.of (Below.refl _ _).drew).trans O4))
set_option maxHeartbeats 16000000 in
theorem bstep5_any {w : World} {d : DBs} {G : GDB} {iA : Option Addr} {ic : Nat} {xs : List ItemV} (hS : RS w d G iA ic xs) (es : List Entry) (L : Option Addr) (c g : Nat) (W : World) (h : Bu w W g d.cells (.slice iA xs.length ic) L c es) (he : es.length ≤ 250000) (i : Nat) (hi : i < xs.length) (hn : xs.length ≤ 124) (word : List UInt8) (hw : word.length ≤ 4000000000)
    (hk : (xs.getD i noItem).kind = 5) :
    Calls Tryz.prog 41 #[.pointer (some ⟨g, 0, none⟩), .int .i64 i, .string ⟨word.toArray⟩] W (RetSt w W g d.cells (.slice iA xs.length ic) (itemStep (lookR G) xs word i es)) := by
  have HS := Lib.hid hS
  have HB := Lib.hid h
  have HXS := Lib.hid (getD_short hS.xsS)
  obtain ⟨m, hm⟩ : ∃ m, xs.length = m + 1 := ⟨xs.length - 1, by omega⟩
  obtain ⟨b, off, hiA, hic, hcl⟩ := hS.itm hi
  obtain ⟨b', off', hiA', hmc, hcl'⟩ := hS.itm (i := m) (by omega)
  obtain ⟨rfl, rfl⟩ : b' = b ∧ off' = off := by
    rw [hiA] at hiA'
    injection hiA' with e1
    injection e1 with e2 e3
    exact ⟨e2.symm, e3.symm⟩
  have IS := Lib.hid (fun W' (D : Below W.heap.size W W') => show W'.cell? ⟨g, 9, none⟩ = some (.slice (some ⟨b', off', none⟩) (m + 1) ic) ∧ Has_itm W' b' (off' + i * 3) ∧ of_itm W' b' (off' + i * 3) = xs.getD i noItem ∧ Has_itm W' b' (off' + m * 3) ∧ of_itm W' b' (off' + m * 3) = xs.getD m noItem from
    ⟨by have := (HB.out.step D).c9; rw [hiA, hm] at this; exact this, ⟨_, hcl W' (HB.out.step D).bel⟩, of_itm_eq (hcl W' (HB.out.step D).bel), ⟨_, hcl' W' (HB.out.step D).bel⟩, of_itm_eq (hcl' W' (HB.out.step D).bel)⟩)
  have HM := Lib.hid hm
  have HIA := Lib.hid hiA
  have HK := Lib.hid hk
  generalize hx : xs.getD i noItem = x at *
  generalize hz : xs.getD m noItem = z at *
  have HX := Lib.hid hx
  have HZ := Lib.hid hz
  have him : i < m + 1 := by omega
  have hm124 : m ≤ 124 := by omega
  have hlt1 : (i : Int) < ((m : Int) + 1) := by omega
  have hwr : IntKind.i64.wrap (m : Int) = (m : Int) := by rw [IntKind.wrap_i64]; omega
  have hlt2 : (m : Int) < ((m : Int) + 1) := by omega
  clear hS h hiA hiA' hcl hcl' hx hz hk hm hi hn
  go_enter Tryz.func41, Tryz.ntmps41
  go_upto_region 1 with (fail)
  go_cut [8, 9] from 24 to 42 (fun u v wx => ∃ q8 q9, u = .pointer (some ⟨q8, 0, none⟩) ∧ v = .pointer (some ⟨q9, 0, none⟩) ∧ Blk wx q8 x.arr ∧ Blk wx q9 z.arr ∧ g < q8 ∧ Below W.heap.size W wx)
  case first =>
    have D2 : Below W.heap.size W W.drew := (Below.refl _ _).drew
    go_region_held3 (fun w' => w'.cell? ⟨g, 9, none⟩ = some (.slice (some ⟨b', off', none⟩) (m + 1) ic) ∧ Has_itm w' b' (off' + i * 3) ∧ of_itm w' b' (off' + i * 3) = x ∧ Has_itm w' b' (off' + m * 3) ∧ of_itm w' b' (off' + m * 3) = z)
      ((refine IS.out _ ?_; repeat' (first | assumption | omega | (refine below_setRow' ?_ ?_ _) | (refine Below.alloc ?_ ?_ _) | (refine Below.drew ?_) | exact Below.refl _ _ | (simp; done) | (simp; omega))))
      (fail)
    all_goals
      go_wp2
      go_meet
      first
        | (obtain ⟨a1, a2, a3⟩ := two_filled W noItem.arr x.arr noItem.arr z.arr 57 57; exact ⟨_, _, rfl, rfl, a1.step (Below.refl _ _).drew, a2.step (Below.refl _ _).drew, (by have := HB.out.lt; omega), a3.drew⟩)
        | (obtain ⟨a1, a2, a3⟩ := two_filledO W noItem.arr noItem.arr x.arr z.arr 57 57; exact ⟨_, _, rfl, rfl, a1.step (Below.refl _ _).drew, a2.step (Below.refl _ _).drew, (by have := HB.out.lt; omega), a3.drew⟩)
        | (obtain ⟨a1, a2, a3⟩ := two_filled W noItem.arr z.arr noItem.arr x.arr 57 57; exact ⟨_, _, rfl, rfl, a2.step (Below.refl _ _).drew, a1.step (Below.refl _ _).drew, (by have := HB.out.lt; omega), a3.drew⟩)
        | (obtain ⟨a1, a2, a3⟩ := two_filledO W noItem.arr noItem.arr z.arr x.arr 57 57; exact ⟨_, _, rfl, rfl, a2.step (Below.refl _ _).drew, a1.step (Below.refl _ _).drew, (by have := HB.out.lt; omega), a3.drew⟩)
  case rest =>
  obtain ⟨q8, q9, rfl, rfl, X8, X9, hgq, BC⟩ := hcut
  have B1 := HB.out.step BC
  have O1 := Lib.hid (OnlyB.of (g := g) BC)
  obtain ⟨xk, xn, xt⟩ := x
  obtain rfl : xk = 5 := HK.out
  have c0 : wc.cell? ⟨q8, 0, none⟩ = some (.int .u8 5) := X8.cell 0
  have HC := Lib.hid (show itemStep (lookR G) xs word i es = (es, ((i : Int), 0)) by
    unfold itemStep; rw [HX.out]; rfl)
  generalize itemStep (lookR G) xs word i es = out at *
  have HB1 := Lib.hid B1
  clear HX HZ IS HXS X9 B1 X8
  go_wp2
  go_ret2
  exact RetSt.of (q := (es, 0)) HC.out HB1.out O1.out
end Go.Proofs.YtgoeedohgomodaaGreatDoor
namespace Go.Proofs.YtgoeedohgomodaaGreatDoor
open Go.RowKit Go.Sort
set_option maxRecDepth 100000
theorem along_some {R : RLook} {l : List Entry} {a : AwyV} {y : ItemV} {i : Nat} {e : List UInt8} {q : Int × Int} (h : endA R a y i = (some e, q)) :
    alongS R l a y i = if (aheadS l).2 = false then (l, ((i : Int), 9)) else if (awyExpand a (aheadS l).1 e).2 ≠ 0 then (l, ((i : Int) + 1, (awyExpand a (aheadS l).1 e).2)) else
      ((addS R l ((awyExpand a (aheadS l).1 e).1.map ptLeg) 2 a.name).1, ((i : Int), (addS R l ((awyExpand a (aheadS l).1 e).1.map ptLeg) 2 a.name).2)) := by
  unfold alongS aheadS
  rw [h]
  dsimp only
  cases l.getLast? with
  | none => rfl
  | some z =>
    dsimp only
    by_cases hq : endsB z.leg.ty = true
    · simp only [hq, Bool.not_true, Bool.false_eq_true, if_false]
      rfl
    · rw [if_pos (by simpa using hq), if_pos (by simpa using hq)]
theorem along_none {R : RLook} {l : List Entry} {a : AwyV} {y : ItemV} {i : Nat} {q : Int × Int} (h : endA R a y i = (none, q)) : alongS R l a y i = (l, q) := by
  unfold alongS
  rw [h]
attribute [local go_sem ↓] bawyG_fold
attribute [local go_sem] run_bawyG awyArr_ones awyArr_sz awyArr_fits awyArr_splice
set_option maxHeartbeats 16000000 in
theorem balong_any {w : World} {d : DBs} {G : GDB} {iA : Option Addr} {ic : Nat} {xs : List ItemV} (hS : RS w d G iA ic xs) (es : List Entry) (L : Option Addr) (c g : Nat) (W : World) (h : Bu w W g d.cells (.slice iA xs.length ic) L c es) (he : es.length ≤ 250000)
    (a : AwyV) (cs : Array Value) (hA : AwyAt W cs a) (ha : a.small) (i : Nat) (hi : i + 1 < xs.length) (hn : xs.length ≤ 1000) :
    Calls Tryz.prog 76 #[.pointer (some ⟨g, 0, none⟩), .agg cs, .int .i64 i] W (RetBI w W g d.cells (.slice iA xs.length ic) (alongS (lookR G) es a (xs.getD (i + 1) noItem) i)) := by
  obtain ⟨A5, c5, rfl, hl5, hI5⟩ := hA.ex
  obtain ⟨b, off, hiA, hic, hcl⟩ := hS.itm hi
  have hsh := getD_short hS.xsS (i + 1)
  have HS := Lib.hid hS
  have HB := Lib.hid h
  have HI5 := Lib.hid (fun W' (D : Below W.heap.size W W') => hI5.below D)
  generalize xs.getD (i + 1) noItem = y at *
  obtain ⟨yk, yn, yt⟩ := y
  have hyn := hsh.small.1
  dsimp only at hyn
  have HOs := Lib.hid (fun e q (hh : endA (lookR G) a ⟨yk, yn, yt⟩ i = (some e, q)) => along_some (l := es) hh)
  have HOn := Lib.hid (fun q (hh : endA (lookR G) a ⟨yk, yn, yt⟩ i = (none, q)) => along_none (l := es) hh)
  have HEA := Lib.hid (show endA (lookR G) a ⟨yk, yn, yt⟩ i = if yk = 4 then (some yn, ((0 : Int), (0 : Int))) else if yk = 3 then (if (awyFind yn G.airways).isSome then (none, ((i : Int), 9)) else match ptNamed yn a.pts with | none => (none, ((i : Int) + 1, (6 : Int))) | some r => (some r, ((0 : Int), (0 : Int)))) else (none, ((i : Int), 9)) from rfl)
  generalize alongS (lookR G) es a ⟨yk, yn, yt⟩ i = out at *
  obtain ⟨iv, hiv⟩ : ∃ v, v = Value.slice iA xs.length ic := ⟨_, rfl⟩
  have E9 := Lib.hid (fun W' (D : Below W.heap.size W W') => show W'.cell? ⟨g, 9, none⟩ = some (.slice (some ⟨b, off, none⟩) xs.length ic) by rw [← hiA]; exact (HB.out.step D).c9)
  rw [← hiv] at HB h ⊢
  have HCL := Lib.hid hcl
  clear hS hI5 hA hiv hcl
  go_enter Tryz.func76, Tryz.ntmps76
  go_upto_region 1 with (fail)
  have A0 := Blk.new W (awyArr a A5 c5) 81
  have D0 := alloc_belowR W (.cells (awyArr a A5 c5) 81)
  have h1 := HB.out.step D0
  generalize W.alloc _ = W1 at A0 D0 h1 ⊢
  generalize W.heap.size = g4 at A0 ⊢
  have hlt : (i : Int) + 1 < (xs.length : Int) := by omega
  have e9 := E9.out W1 D0
  have i1 : Has_itm W1 b (off + (i + 1) * 3) := ⟨_, HCL.out W1 h1.bel⟩
  have i2 : of_itm W1 b (off + (i + 1) * 3) = ⟨yk, yn, yt⟩ := of_itm_eq (HCL.out W1 h1.bel)
  have hi1 : ((i : Int) + 1).toNat = i + 1 := by omega
  go_upto_region 2 with (fail)
  have Y8 := Blk.new W1 (ItemV.arr ⟨yk, yn, yt⟩) 57
  have D1 := below_step D0 (alloc_belowR W1 (.cells (ItemV.arr ⟨yk, yn, yt⟩) 57))
  have h2 := HB.out.step D1
  have A1 := A0.alloc (.cells (ItemV.arr ⟨yk, yn, yt⟩) 57)
  generalize W1.alloc _ = W2 at Y8 D1 h2 A1 ⊢
  generalize W1.heap.size = q8 at Y8 ⊢
  have y0 : W2.cell? ⟨q8, 0, none⟩ = some (.int .u8 yk) := Y8.cell 0
  have y1 : W2.cell? ⟨q8, 1, none⟩ = some (.string ⟨yn.toArray⟩) := Y8.cell 1
  clear h1 A0 D0 e9 i1 i2 hi1 hlt
  have kb := Lib.hid (fun W' (D : Below W2.heap.size W2 W') => bairway_any d G es L c g iv w W' yn (h2.step D) (HS.out.gd.below (h2.step D).bel))
  have HAL := Lib.hid (show awyLook G.airways yn = match awyFind yn G.airways with | none => (noAwy, 6) | some a => (a, 0) from rfl)
  have HB2 := Lib.hid h2
  have HD1 := Lib.hid D1
  have HA1 := Lib.hid A1
  have HY8 := Lib.hid Y8
  clear h2 D1 A1 h
  go_upto_block 0 with (fail)
  go_cut [9] (fun v wx => ∃ e q, endA (lookR G) a ⟨yk, yn, yt⟩ i = (some e, q) ∧ v = .string ⟨e.toArray⟩ ∧ Below W2.heap.size W2 wx)
  case first =>
    by_cases k4 : yk = 4
    · subst k4
      have HE := Lib.hid (show endA (lookR G) a ⟨4, yn, yt⟩ i = (some yn, (0, 0)) from HEA.out.trans (if_pos rfl))
      clear HEA HAL kb HOs HOn
      go_wp2
      go_meet
      exact ⟨yn, _, HE.out, rfl, Below.refl _ _⟩
    have e4 : (yk == 4) = false := by simpa using k4
    have HEA := Lib.hid (HEA.out.trans (if_neg k4))
    clear k4
    by_cases k3 : yk = 3
    rotate_left
    · have e3 : (yk == 3) = false := by simpa using k3
      have HO := Lib.hid (HOn.out _ (HEA.out.trans (if_neg k3)))
      clear HEA HAL kb HOs HOn k3
      go_wp2
      go_ret2
      exact RetBI.same HO.out HB2.out (OnlyB.of HD1.out)
    subst k3
    have HE3 := Lib.hid (show endA (lookR G) a ⟨3, yn, yt⟩ i = (if (awyFind yn G.airways).isSome then (none, ((i : Int), (9 : Int))) else match ptNamed yn a.pts with | none => (none, ((i : Int) + 1, (6 : Int))) | some r => (some r, ((0 : Int), (0 : Int)))) from rfl)
    cases hf : awyFind yn G.airways with
    | some z =>
      have HO := Lib.hid (HOn.out ((i : Int), (9 : Int)) (by rw [HE3.out, hf]; rfl))
      rw [hf] at HAL
      have hr : awyLook G.airways yn = (z, 0) := HAL.out
      rw [hr] at kb
      clear HEA HE3 HAL HOs HOn hf hr e4
      go_wp2_with (go_at_call 75; (with_reducible refine callAwB (kb.out _ (Below.refl _ _)) ?_); intro cs3 w3 h3 b3; obtain ⟨A6, c6, hcs, _, _⟩ := h3.ex; subst hcs)
      go_ret2
      exact RetBI.same HO.out (HB2.out.step (below_step b3 (alloc_belowR _ _))) (OnlyB.of (below_step HD1.out (below_step b3 (alloc_belowR _ _))))
    | none =>
      rw [hf] at HAL
      have hr : awyLook G.airways yn = (noAwy, 6) := HAL.out
      rw [hr] at kb
      have HE3 := Lib.hid (show endA (lookR G) a ⟨3, yn, yt⟩ i = (match ptNamed yn a.pts with | none => (none, ((i : Int) + 1, (6 : Int))) | some r => (some r, ((0 : Int), (0 : Int)))) by rw [HE3.out, hf]; rfl)
      clear HAL hf hr e4 HEA
      have kx := Lib.hid (fun W' (D : Below W2.heap.size W2 W') => bidxf_any a.pts yn A5 c5 q8 W' (HI5.out _ (below_step HD1.out D)) (by have := ha.len; omega) (HS.out.laid.below (HB2.out.step D).bel) (fun p hp => ha.each p hp) (HY8.out.step D).lt ((HY8.out.step D).cell 1))
      have hnm := idxN_named yn a.pts 0
      go_upto_region 10 with (go_at_call 75; (with_reducible refine callAwB (kb.out _ (Below.refl _ _)) ?_); intro cs3 w3 h3 b3; obtain ⟨A6, c6, hcs, _, _⟩ := h3.ex; subst hcs)
      have b4 := below_step b3 (alloc_belowR w3 (.cells (awyArr noAwy A6 c6) 81))
      clear h3 b3 kb
      generalize hw4 : World.alloc w3 _ = w4
      have hw4' : w3.alloc (.cells (awyArr noAwy A6 c6) 81) = w4 := hw4
      rw [hw4'] at b4
      clear hw4 hw4'
      have z4 : w4.cell? ⟨g4, 1, none⟩ = some (.slice A5 a.pts.length c5) := (HA1.out.step b4).cell 1
      have k4 := Lib.hid (kx.out w4 b4)
      cases hp : ptNamed yn a.pts with
      | none =>
        rw [hp] at hnm
        have HO := Lib.hid (HOn.out ((i : Int) + 1, (6 : Int)) (by rw [HE3.out, hp]))
        have hix : idxN yn a.pts 0 = -1 := hnm
        rw [hix] at k4
        clear HE3 HOs HOn hp hnm hix kx
        go_wp2_with (go_at_call 117; (with_reducible refine callR k4.out ?_); intro w5 b5 _ _ _)
        go_ret2
        exact RetBI.same HO.out (HB2.out.step (below_step b4 b5)) (OnlyB.of (below_step HD1.out (below_step b4 b5)))
      | some r =>
        rw [hp] at hnm
        obtain ⟨j, hj1, hj2, hj3⟩ := hnm
        rw [Nat.zero_add] at hj1
        rw [hj1] at k4
        have HE := Lib.hid (show endA (lookR G) a ⟨3, yn, yt⟩ i = (some r, ((0 : Int), (0 : Int))) by rw [HE3.out, hp])
        obtain ⟨b5, o5, hA5, hbb, hcc⟩ := (HI5.out W2 HD1.out).get (k := j) (by simpa using hj2)
        have HIJ := Lib.hid (fun W' (D : Below W2.heap.size W2 W') => (aptItem (by have := HI5.out W' (below_step HD1.out D); rw [hA5] at this; exact this) (Below.refl _ _) hj2 : Is_apt W' b5 (o5 + j * 4) a.pts[j]))
        have hgj : a.pts[j].ref = r := by rw [← hj3, List.getD_eq_getElem?_getD, List.getElem?_eq_getElem hj2]; rfl
        have HR := Lib.hid (fun W' (D : Below W2.heap.size W2 W') => show W'.cell? ⟨b5, o5 + j * 4, none⟩ = some (.string ⟨r.toArray⟩) by have := HIJ.out W' D 0 (by omega); rw [← hgj]; exact this)
        subst hA5
        have hjc : j < c5 := by omega
        have hjl : j < a.pts.length := hj2
        clear hcc hbb HE3 HOs HOn hp hj1 hj3 hgj HIJ kx hj2
        go_wp2_with (go_at_call 117; (with_reducible refine callR k4.out ?_); intro w5 b5' _ _ _; have z5 : w5.cell? ⟨g4, 1, none⟩ = some (.slice (some ⟨b5, o5, none⟩) a.pts.length c5) := (HA1.out.step (below_step b4 b5')).cell 1; have z6 := HR.out _ (below_step b4 b5'))
        go_meet
        exact ⟨r, _, HE.out, rfl, below_step b4 b5'⟩
  case rest =>
  obtain ⟨e, q, hea, rfl, BC⟩ := hcut
  have HO := Lib.hid (HOs.out e q hea)
  have B3 := HB2.out.step BC
  have D3 := Lib.hid (below_step HD1.out BC)
  have A3 := HA1.out.step BC
  have ka := Lib.hid (bahead_any es L c g d.cells iv w wc B3 (by omega))
  have HB3 := Lib.hid B3
  have HA3 := Lib.hid A3
  clear HEA HAL kb HOs HOn hea HY8 HB2 HD1 HA1 y0 y1 BC B3 A3
  generalize aheadS es = fr at *
  obtain ⟨fx, ok⟩ := fr
  dsimp only at HO ka
  cases ok with
  | false =>
    have HO := Lib.hid (HO.out.trans (if_pos rfl))
    go_wp2_with (go_at_call 119; (with_reducible refine callR ka.out ?_); intro w4 b4 _ _ _)
    go_ret2
    exact RetBI.same HO.out (HB3.out.step b4) (OnlyB.of (below_step D3.out b4))
  | true =>
  have HO2 := Lib.hid (HO.out.trans (if_neg (by decide)))
  clear HO
  have HWL := Lib.hid (awyExpand_len1 a fx e ha.each)
  have HWN := Lib.hid (awyExpand_ok ha.each fx e).2
  have ke := Lib.hid (fun W' (D : Below wc.heap.size wc W') => aexpand_any a (awyArr a A5 c5) fx e W' (HS.out.laid.below (HB3.out.step D).bel) ⟨⟨A5, c5, rfl, hl5, HI5.out _ (below_step D3.out D)⟩⟩ ha)
  generalize awyExpand a fx e = ex at *
  obtain ⟨pts, pe⟩ := ex
  dsimp only at HO2 HWL HWN
  go_upto_region 17 with (go_at_call 119; (with_reducible refine callR ka.out ?_); intro w4 b4 _ _ _)
  have D4 := Lib.hid (below_step D3.out b4)
  have A4 := HA3.out.step b4
  have HA4 := Lib.hid A4
  have HB4 := Lib.hid (HB3.out.step b4)
  have ke := Lib.hid (ke.out w4 b4)
  have j1 : Has_awy w4 g4 0 := ⟨_, A4.is_awy rfl⟩
  have j2 : of_awy w4 g4 0 = awyArr a A5 c5 := of_awy_eq (A4.is_awy rfl)
  clear ka D3 HB3 HA3 b4 A4
  by_cases hz : pe = 0
  rotate_left
  · have hz' : (pe != 0) = true := by simpa using hz
    have HO := Lib.hid (HO2.out.trans (if_pos hz))
    clear hz
    go_wp2_with (go_at_call 120; (with_reducible refine callWay ke.out ?_); intro A9 c9 w9 hl9 hI9 b9)
    go_ret2
    exact RetBI.same HO.out (HB4.out.step b9) (OnlyB.of (below_step D4.out b9))
  subst hz
  have HO3 := Lib.hid (HO2.out.trans (if_neg (not_not_intro rfl)))
  clear HO2
  go_upto_region 22 with (go_at_call 120; (with_reducible refine callWay ke.out ?_); intro A9 c9 w9 hl9 hI9 b9)
  have D9 := Lib.hid (below_step D4.out b9)
  have HA9 := Lib.hid (HA4.out.step b9)
  have HB9 := Lib.hid (HB4.out.step b9)
  have HI9 := Lib.hid (fun W' (D : Below w9.heap.size w9 W') => hI9.below D)
  have HL9 := Lib.hid hl9
  clear ke D4 HA4 HB4 j1 j2 hI9 hl9 b9
  go_loopw [17, 82] (fun v iv wr => ∃ k : Nat, k ≤ pts.length ∧ iv = .int .i64 k ∧ GOut w9.heap.size wr 64 13 v (((pts.take k).map ptLeg).map Leg.arr) ∧ Below w9.heap.size w9 wr) (fun _ iv _ => pts.length - (intOf iv).toNat)
  case atStart => exact ⟨0, Nat.zero_le _, rfl, GOut.nil _ _ _ _, Below.refl _ _⟩
  case round =>
    obtain ⟨k, hk, rfl, O, BW⟩ := hrel
    by_cases hlt : k < pts.length
    · obtain ⟨b9, o9, hA9, hb9, hcl9⟩ := (HI9.out wr BW).get (k := k) (by simpa using hlt)
      subst hA9
      have hq : Is_apt wr b9 (o9 + k * 4) (wpt pts[k]) := fun j hj => by
        have := hcl9 j hj
        rw [List.getElem_map] at this
        exact this
      have HT := Lib.hid (show (pts.take (k + 1)).map ptLeg = (pts.take k).map ptLeg ++ [ptLeg pts[k]] by rw [List.take_succ_eq_append_getElem hlt, List.map_append]; rfl)
      generalize pts[k] = q at hq HT
      obtain ⟨qr, qa, qb⟩ := q
      have i1 : Has_apt wr b9 (o9 + k * 4) := ⟨_, hq⟩
      have i2 : of_apt wr b9 (o9 + k * 4) = wpt (qr, qa, qb) := of_apt_eq hq
      have hlt' : (k : Int) < (pts.length : Int) := by omega
      have hic : k < c9 := by have := HL9.out; omega
      have HOO := Lib.hid O
      have HB := Lib.hid BW
      clear O BW hcl9 hb9 hq
      go_upto_region 24 with (fail)
      have Y9 := Blk.new wr (wpt (qr, qa, qb)).arr 107
      have O1 := HOO.out.alloc (.cells (wpt (qr, qa, qb)).arr 107)
      have B1 := below_step HB.out (alloc_belowR wr (.cells (wpt (qr, qa, qb)).arr 107))
      clear i1 i2 HOO HB
      generalize wr.alloc _ = w1 at Y9 O1 B1 ⊢
      generalize wr.heap.size = gp at Y9 ⊢
      have y0 : w1.cell? ⟨gp, 0, none⟩ = some (.string ⟨qr.toArray⟩) := Y9.cell 0
      have y1 : Has_win w1 gp 1 := ⟨_, APt.win_at Y9.is_apt⟩
      have y2 : of_win w1 gp 1 = ⟨qa, qb⟩ := of_win_eq (APt.win_at Y9.is_apt)
      have kt := Lib.hid (rto_any 2 qr qa qb w1)
      have h5 : pts.length ≤ 40 := HWL.out
      have HK := Lib.hid hk
      clear hk
      go_wp2_with (first
        | (go_at_call 71; (with_reducible refine callLg kt.out ?_); intro A3 w3 I3 b3; have O3 := O1.step b3; have B3 := below_step B1 b3)
        | (at_builtin; refine wpList_append_items rfl (.tmp 86) (.tmp 91) _ 64 13 112 _ infoA_leg rfl (by omega) Tryz.underlying119 rfl O3 rfl ([legW 2 qr qa qb].map Leg.arr) A3 1 1 rfl rfl I3 (leg_sizes _) (leg_ones _) (by rw [List.length_map, List.length_map, List.length_take]; unfold maxLen; omega) (by rw [List.length_map, List.length_map, List.length_take]; omega) B3.size ?_; intro v5 W5 O5 g5 _))
      go_roundw
      case rel => exact ⟨k + 1, by omega, by go_num, by rw [HT.out, List.map_append]; exact O5, O3.below_grown g5 B3 (Nat.le_refl _) B3.size⟩
      case measure => simp [intOf]; omega
    · obtain rfl : k = pts.length := by omega
      have hlt' : ¬ (pts.length : Int) < (pts.length : Int) := by omega
      rw [List.take_length] at O
      obtain ⟨A3, c3, e3, hl3, hI3, _, _⟩ := O.form (by intro y hy; obtain ⟨q, _, rfl⟩ := List.mem_map.1 hy; exact Leg.arr_size _)
      rw [List.length_map] at e3 hl3
      subst e3
      have HBr := Lib.hid (HB9.out.step BW)
      have Dr := Lib.hid (below_step D9.out BW)
      have Ar := HA9.out.step BW
      have z0 : wr.cell? ⟨g4, 0, none⟩ = some (.string ⟨a.name.toArray⟩) := Ar.cell 0
      have kadd := Lib.hid (HS.out.add HBr.out (pts.map ptLeg) A3 c3 2 a.name hI3 hl3 (by rw [List.length_map]; have : pts.length ≤ 40 := HWL.out; omega) (fun l hl => by obtain ⟨q, hq, rfl⟩ := List.mem_map.1 hl; exact ptLeg_small (HWN.out q hq)) (Nat.le_trans ha.name (by omega)) (by omega))
      rw [List.length_map] at kadd
      generalize addS (lookR G) es (pts.map ptLeg) 2 a.name = ad at *
      clear O hI3 hl3 Ar
      go_wp2_with (go_at_call 70; (with_reducible refine callBu kadd.out ?_); intro L7 c7 W7 B7 O7)
      go_ret2
      rw [HO3.out]
      exact ⟨L7, c7, rfl, B7, (OnlyB.of Dr.out).trans O7⟩
end Go.Proofs.YtgoeedohgomodaaGreatDoor
