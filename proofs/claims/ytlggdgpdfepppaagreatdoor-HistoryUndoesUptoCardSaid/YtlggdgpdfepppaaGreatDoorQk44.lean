/- procedure.checkPart; walk. Printed by wip/mkgdj.py. procedure.Check; walk. procedure.Joint; walk. Printed by wip/mkgdl.py. A map of slices by a kind that the call makes itself: as a function of the kind. procedure.Missed; walk. Legs of a call's own result; legs chosen by kind. procedure.Expand; walk. Printed by wip/mkgdo.py. -/
import Derived.Test.YtlggdgpdfepppaaGreatDoorQk39
import Derived.Test.YtlggdgpdfepppaaGreatDoorQk05
import Derived.Lib.BufferMore
import Derived.Test.YtlggdgpdfepppaaGreatDoorQk19
import Derived.Maps.OwnOps
import Derived.Maps.Views
namespace Go.Proofs.YtlggdgpdfepppaaGreatDoor
open Go.RowKit Go.Sort
set_option linter.unusedVariables false
set_option linter.unusedSimpArgs false
set_option maxRecDepth 100000
def prevP (l : List PartV) : Nat → Option PartV
  | 0 => none
  | k + 1 => l[k]?
def pairO (pk : Int) (pv : Option PartV) (x : PartV) : Int := match pv with | none => 0 | some y => pairE pk y x
theorem partE_eq (pk : Int) (pv : Option PartV) (x : PartV) : partE pk pv x = if rankP pk x.kind < 0 then 17 else orE (pairO pk pv x) (orE (shapeE x) (legsE pk x.kind none x.legs)) := by cases pv <;> rfl
def prevLg (l : List Leg) : Nat → Option Leg
  | 0 => none
  | k + 1 => l[k]?
theorem legsE_drop (pk kd : Int) (l : List Leg) {k : Nat} (h : k < l.length) (prev : Option Leg) : legsE pk kd prev (l.drop k) = if legCheck l[k] ≠ 0 then legCheck l[k] else if !firstL pk kd prev l[k] then 9 else legsE pk kd (some l[k]) (l.drop (k + 1)) := by
  rw [List.drop_eq_getElem_cons h]; rfl
theorem rankI_ge (k : Int) : ∀ (l : List Int) (i : Nat), -1 ≤ rankI k l i ∧ rankI k l i < i + l.length
  | [], i => ⟨by simp [rankI], by simp [rankI]; omega⟩
  | x :: t, i => by
    unfold rankI
    split
    · exact ⟨by omega, by simp; omega⟩
    · have := rankI_ge k t (i + 1)
      exact ⟨this.1, by have := this.2; simp; omega⟩
theorem orderK_len (k : Int) : (orderK k).length ≤ 3 := by unfold orderK; split <;> (try split) <;> (try split) <;> simp
attribute [local go_sem] prtArr_ones prtArr_sz prtArr_fits prtArr_splice
set_option maxHeartbeats 16000000 in
theorem chkpart_any (p : ProcV) (A : Option Addr) (c i : Nat) (w : World) (hL : Laid w) (hlc : p.parts.length ≤ c) (hA : PrtsAt w A p.parts) (hs : p.small) (hi : i < p.parts.length) :
    Calls Tryz.prog 178 #[.agg (prcArr p A c), .int .i64 i] w (Ret w (.int .i64 (partE p.kind (prevP p.parts i) p.parts[i]))) := by
  have HLB := Lib.hid (fun (W : World) (B : Below w.heap.size w W) => hL.below B)
  have HG := Lib.hid (fun (k : Nat) (hk : k < p.parts.length) => hA.get (Below.refl _ _) hk)
  have hns := hs.len
  have HSM := Lib.hid hs.each
  clear hL hA hs
  obtain ⟨b, off, cs', hAe, hb, hIs, hAt⟩ := HG.out i hi
  obtain ⟨A2, c2, rfl, hl2, hI2⟩ := hAt.ex
  have HX := Lib.hid (fun (W' : World) (B : Below w.heap.size w W') => show Is_prt W' b (off + i * 3) (prtArr p.parts[i] A2 c2) from ⟨rfl, fun j hj => by rw [B.cell (p := ⟨b, _, none⟩) hb]; exact hIs.2 j hj⟩)
  have hxs := HSM.out _ (List.getElem_mem hi)
  have HIL := Lib.hid (fun (W' : World) (B : Below w.heap.size w W') => hI2.below B)
  have HPR := Lib.hid (fun (k : Nat) (hk : i = k + 1) => show ∃ y A3 c3, prevP p.parts i = some y ∧ y.small ∧ (∀ W', Below w.heap.size w W' → Is_prt W' b (off + k * 3) (prtArr y A3 c3)) from by
    have hk2 : k < p.parts.length := by omega
    obtain ⟨b', off', cs2, hA', hb', hIs', hAt'⟩ := HG.out k hk2
    rw [hAe] at hA'
    obtain ⟨rfl, rfl⟩ : b = b' ∧ off = off' := by simpa using hA'
    obtain ⟨A3, c3, rfl, _, _⟩ := hAt'.ex
    exact ⟨p.parts[k], A3, c3, by rw [hk]; exact List.getElem?_eq_getElem hk2, HSM.out _ (List.getElem_mem hk2), fun W' B => ⟨rfl, fun j hj => by rw [B.cell (p := ⟨b, _, none⟩) hb']; exact hIs'.2 j hj⟩⟩)
  have HPV := Lib.hid (show i = 0 → prevP p.parts i = none from fun h => by rw [h]; rfl)
  generalize prevP p.parts i = pv at *
  generalize p.parts[i] = x at *
  subst hAe
  have HC := Lib.hid (partE_eq p.kind pv x)
  have hik : i < c := by omega
  have hilt : (i : Int) < (p.parts.length : Int) := by omega
  clear hAt hIs hI2 hb
  go_enter Tryz.func178, Tryz.ntmps178
  go_upto_region 1 with (fail)
  have X0 := Blk.new w (prcArr p (some ⟨b, off, none⟩) c) 186
  have B0 := alloc_below3 w (.cells (prcArr p (some ⟨b, off, none⟩) c) 186)
  generalize w.alloc _ = W at X0 B0 ⊢
  obtain ⟨g2, hg2⟩ : ∃ g, g = w.heap.size := ⟨_, rfl⟩
  rw [← hg2] at X0 ⊢
  clear hg2
  have c2k : W.cell? ⟨g2, 2, none⟩ = some (.int .u8 p.kind) := X0.cell 2
  have ko := Lib.hid (order_any p.kind W)
  have hol := orderK_len p.kind
  have HRK := Lib.hid (fun k => show rankP p.kind k = rankI k (orderK p.kind) 0 from rfl)
  obtain ⟨ks, hks⟩ : ∃ ks, orderK p.kind = ks := ⟨_, rfl⟩
  rw [hks] at ko hol HRK
  clear hks
  go_upto_region 2 with (go_at_call 175; (with_reducible refine callOrd ko.out ?_); intro Ak ck w1 K1 _ b1)
  have X1 := X0.step b1
  have B1 := below_step B0 b1
  clear X0 B0 b1 c2k ko
  have c3p : w1.cell? ⟨g2, 3, none⟩ = some (.slice (some ⟨b, off, none⟩) p.parts.length c) := X1.cell 3
  have i1 : Has_prt w1 b (off + i * 3) := ⟨_, HX.out w1 B1⟩
  have i2 : of_prt w1 b (off + i * 3) = prtArr x A2 c2 := of_prt_eq (HX.out w1 B1)
  go_upto_region 3 with (fail)
  have P2 := Blk.new w1 (prtArr x A2 c2) 225
  have D := alloc_below3 w1 (.cells (prtArr x A2 c2) 225)
  have X2 := X1.step D
  have B2 := below_step B1 D
  have K2 := K1.below D
  clear i1 i2 c3p X1 B1 K1 D
  generalize w1.alloc _ = W2 at P2 X2 B2 K2 ⊢
  generalize w1.heap.size = g6 at P2 ⊢
  have x0 : W2.cell? ⟨g6, 0, none⟩ = some (.int .u8 x.kind) := P2.cell 0
  have ki := Lib.hid (kindex_any ks Ak ks.length ck x.kind W2 K2 rfl (by omega))
  obtain ⟨r, hr⟩ : ∃ r, rankI x.kind ks 0 = r := ⟨_, rfl⟩
  have hrk : rankP p.kind x.kind = r := by rw [HRK.out, hr]
  have hrge : -1 ≤ r := by rw [← hr]; exact (rankI_ge _ _ _).1
  rw [hr] at ki
  rw [hrk] at HC
  have HRX := Lib.hid hrk
  clear hr hrk
  by_cases hneg : r < 0
  · have HO := Lib.hid (HC.out.trans (if_pos hneg))
    clear HC
    go_wp2_with (go_at_call 191; (with_reducible refine callP ki.out ?_))
    go_ret
    exact Ret.int HO.out.symm B2
  have HC := Lib.hid (HC.out.trans (if_neg hneg))

  go_upto_if 29 with (go_at_call 191; (with_reducible refine callP ki.out ?_))
  clear ki x0
  have hns4 : p.parts.length ≤ 4000000 := hns
  go_cut [9] from 8 to 66 (fun v wx => pairO p.kind pv x = 0 ∧ Blk wx g6 (prtArr x A2 c2) ∧ Blk wx g2 (prcArr p (some ⟨b, off, none⟩) c) ∧ Below w.heap.size w wx)
  case first =>
    by_cases hi0 : i = 0
    · have hpv := HPV.out hi0
      have hi0' : ¬ (0 : Int) < (i : Int) := by omega
      have HPP := Lib.hid (show pairO p.kind pv x = 0 by rw [hpv]; rfl)
      have PP := Lib.hid P2
      have XX := Lib.hid X2
      clear hpv hi0 P2 X2
      go_wp2
      go_meet
      exact ⟨HPP.out, PP.out, XX.out, B2⟩
    · obtain ⟨k, hk⟩ : ∃ k, i = k + 1 := ⟨i - 1, by omega⟩
      have hi0' : (0 : Int) < (i : Int) := by omega
      have hk' : (i : Int) - 1 = (k : Int) := by omega
      obtain ⟨y, A3, c3, hpv, hys, hyi⟩ := HPR.out k hk
      have hkl : (k : Int) < (p.parts.length : Int) := by omega
      have hkc : k < c := by omega
      have HK := Lib.hid hk
      have HY := Lib.hid hyi
      have HPV2 := Lib.hid hpv
      clear hpv hi0 hk hyi
      have c3p : W2.cell? ⟨g2, 3, none⟩ = some (.slice (some ⟨b, off, none⟩) p.parts.length c) := X2.cell 3
      have i1 : Has_prt W2 b (off + k * 3) := ⟨_, HY.out W2 B2⟩
      have i2 : of_prt W2 b (off + k * 3) = prtArr y A3 c3 := of_prt_eq (HY.out W2 B2)
      go_upto_region 8 with (fail)
      have P8 := Blk.new W2 (prtArr y A3 c3) 225
      have D := alloc_below3 W2 (.cells (prtArr y A3 c3) 225)
      have X3 := X2.step D
      have P3 := P2.step D
      have B3 := below_step B2 D
      have K3 := K2.below D
      clear i1 i2 c3p X2 P2 B2 K2 D
      generalize W2.alloc _ = W3 at P3 P8 X3 B3 K3 ⊢
      generalize W2.heap.size = g8 at P8 ⊢
      have y0 : W3.cell? ⟨g8, 0, none⟩ = some (.int .u8 y.kind) := P8.cell 0
      have ki := Lib.hid (kindex_any ks Ak ks.length ck y.kind W3 K3 rfl (by omega))
      obtain ⟨s, hs2⟩ : ∃ s, rankI y.kind ks 0 = s := ⟨_, rfl⟩
      have hsk : rankP p.kind y.kind = s := by rw [HRK.out, hs2]
      have hsge : -1 ≤ s := by rw [← hs2]; exact (rankI_ge _ _ _).1
      rw [hs2] at ki
      have HP := Lib.hid (show pairO p.kind pv x = if r < s ∨ (r = s ∧ bltB x.name y.name = true) then 9 else if r = s ∧ x.name = y.name then 7 else 0 by rw [HPV2.out]; show pairE p.kind y x = _; unfold pairE; rw [HRX.out, hsk])
      have HFIN := Lib.hid (fun e (he : e ≠ 0) (h : pairO p.kind pv x = e) => show partE p.kind pv x = e by rw [HC.out, h]; unfold orE; rw [if_pos (by simpa using he)])
      clear hs2 hsk
      go_upto_region 9 with (go_at_call 191; (with_reducible refine callP ki.out ?_))
      have x1 : W3.cell? ⟨g6, 1, none⟩ = some (.string ⟨x.name.toArray⟩) := P3.cell 1
      have y1 : W3.cell? ⟨g8, 1, none⟩ = some (.string ⟨y.name.toArray⟩) := P8.cell 1
      have hls : Op.bytesLess x.name y.name = bltB x.name y.name := rfl
      have PP := Lib.hid P3
      have XX := Lib.hid X3
      clear ki y0 P3 P8 X3 K3
      by_cases h1 : r < s
      · have HO := Lib.hid (HFIN.out 9 (by decide) (HP.out.trans (if_pos (.inl h1))))
        clear hls HP
        go_wp2
        go_ret
        exact Ret.int HO.out.symm B3
      · by_cases h2 : r = s
        · subst h2
          have h2' : (r == r) = true := by simp
          cases hb : bltB x.name y.name with
          | true =>
            rw [hb] at hls HP
            have HO := Lib.hid (HFIN.out 9 (by decide) (HP.out.trans (if_pos (.inr ⟨rfl, rfl⟩))))
            clear HP hb h1
            go_wp2
            go_ret
            exact Ret.int HO.out.symm B3
          | false =>
            rw [hb] at hls HP
            have HP := Lib.hid (HP.out.trans (if_neg (by rintro (h | ⟨_, h⟩); exact absurd h (Int.lt_irrefl _); cases h)))
            clear hb h1
            by_cases hn : x.name = y.name
            · have hn' : (x.name == y.name) = true := by simpa using hn
              have HO := Lib.hid (HFIN.out 7 (by decide) (HP.out.trans (if_pos ⟨rfl, hn⟩)))
              clear HP hn
              go_wp2
              go_ret
              exact Ret.int HO.out.symm B3
            · have hn' : (x.name == y.name) = false := by simpa using hn
              have HO := Lib.hid (HP.out.trans (if_neg (fun h => hn h.2)))
              clear HP hn
              go_wp2
              go_meet
              exact ⟨HO.out, PP.out, XX.out, B3⟩
        · have h2' : (r == s) = false := by simpa using h2
          have HO := Lib.hid ((HP.out.trans (if_neg (by rintro (h | ⟨h, _⟩) <;> omega))).trans (if_neg (fun h => h2 h.1)))
          clear hls HP h2
          go_wp2
          go_meet
          exact ⟨HO.out, PP.out, XX.out, B3⟩
  case rest =>
    obtain ⟨hpo, P4, X4, B4⟩ := hcut
    have HC := Lib.hid (show partE p.kind pv x = orE (shapeE x) (legsE p.kind x.kind none x.legs) by rw [HC.out, hpo]; rfl)
    clear hpo P2 X2 B2
    clear HPR HG HPV HRK HRX K2 hilt hik
    generalize partE p.kind pv x = out at *
    have x0 : wc.cell? ⟨g6, 0, none⟩ = some (.int .u8 x.kind) := P4.cell 0
    have x1 : wc.cell? ⟨g6, 1, none⟩ = some (.string ⟨x.name.toArray⟩) := P4.cell 1
    have x2 : wc.cell? ⟨g6, 2, none⟩ = some (.slice A2 x.legs.length c2) := P4.cell 2
    have HSH := Lib.hid (show shapeE x = if (namedK x.kind && !nameB x.name 8) || (!namedK x.kind && !x.name.isEmpty) then 5 else if x.legs.length = 0 then 1 else if 24 < x.legs.length then 3 else 0 from rfl)
    have kn := Lib.hid (fun w' => name_any x.name 8 w' (by have := hxs.name; omega))
    have HOUT := Lib.hid (fun e (he : e ≠ 0) (h : shapeE x = e) => show out = e by rw [HC.out, h]; unfold orE; rw [if_pos (by simpa using he)])
    have N1 := Lib.hid (show namedK x.kind = (x.kind == 1 || x.kind == 3) from rfl)
    generalize namedK x.kind = nk at HSH N1
    go_upto_region 13 with (fail)
    go_cut [10] from 67 to 74 (fun v wx => v = .bool nk ∧ wx = wc)
    case first =>
      obtain ⟨k1, hk1⟩ : ∃ t, (x.kind == 1) = t := ⟨_, rfl⟩
      obtain ⟨k3, hk3⟩ : ∃ t, (x.kind == 3) = t := ⟨_, rfl⟩
      have NQ := Lib.hid (show nk = (k1 || k3) by rw [N1.out, hk1, hk3])
      clear HSH N1
      cases k1 <;> cases k3
      all_goals
        go_wp2
        go_meet
        exact ⟨by rw [NQ.out]; rfl, by trivial⟩
    case rest =>
    obtain ⟨rfl, rfl⟩ := hcut
    clear N1
    obtain ⟨nb, hnb⟩ : ∃ t, nameB x.name 8 = t := ⟨_, rfl⟩
    obtain ⟨ne, hne⟩ : ∃ t, x.name.isEmpty = t := ⟨_, rfl⟩
    have hne2 : (x.name == []) = ne := by rw [← hne]; cases x.name <;> rfl
    rw [hnb] at kn HSH
    rw [hne] at HSH
    clear hnb hne
    obtain ⟨bad, hbad⟩ : ∃ t, ((nk && !nb) || (!nk && !ne)) = t := ⟨_, rfl⟩
    rw [hbad] at HSH
    have HB := Lib.hid hbad
    clear hbad
    go_upto_region 14 with (fail)
    go_cut [75] from 76 to 91 (fun v wx => v = .bool bad ∧ wx = wc)
    case first =>
      clear HSH
      cases nk <;> cases nb <;> cases ne
      all_goals
        go_wp2_with (go_at_call 81; (with_reducible refine callP (kn.out _) ?_))
        go_meet
        exact ⟨by rw [← HB.out]; rfl, by trivial⟩
    case rest =>
    obtain ⟨rfl, rfl⟩ := hcut
    clear HB hne2 kn
    cases bad with
    | true =>
      have HO := Lib.hid (HOUT.out 5 (by decide) (HSH.out.trans (if_pos rfl)))
      clear HSH HOUT
      go_wp2
      go_ret
      exact Ret.int HO.out.symm B4
    | false =>
    have HSH := Lib.hid (HSH.out.trans (if_neg (by simp)))
    by_cases hl0 : x.legs.length = 0
    · have HO := Lib.hid (HOUT.out 1 (by decide) (HSH.out.trans (if_pos hl0)))
      have e0 : ((x.legs.length : Int) == 0) = true := by rw [hl0]; rfl
      clear HSH HOUT
      clear hl0
      go_wp2
      go_ret
      exact Ret.int HO.out.symm B4
    have HSH := Lib.hid (HSH.out.trans (if_neg hl0))
    have e0 : ((x.legs.length : Int) == 0) = false := by rw [beq_eq_false_iff_ne]; omega
    clear hl0
    by_cases hl24 : 24 < x.legs.length
    · have HO := Lib.hid (HOUT.out 3 (by decide) (HSH.out.trans (if_pos hl24)))
      have e1 : (24 : Int) < (x.legs.length : Int) := by omega
      clear HSH HOUT
      go_wp2
      go_ret
      exact Ret.int HO.out.symm B4
    have e1 : ¬ (24 : Int) < (x.legs.length : Int) := by omega
    have hsh := HSH.out.trans (if_neg hl24)
    have HC := Lib.hid (show out = legsE p.kind x.kind none x.legs by rw [HC.out, hsh]; rfl)
    have h24 : x.legs.length ≤ 4000000 := hxs.len
    clear hsh HSH HOUT
    go_upto_region 21 with (fail)
    clear x0 x1 e0 e1 hl24
    have XN := Lib.hid (fun (W' : World) (B : Below w.heap.size w W') => (HIL.out W' B).at_)
    have PP := Lib.hid P4
    have XX := Lib.hid X4
    have BB := Lib.hid B4
    have hLS := Lib.hid (fun x' (h : x' ∈ x.legs) => hxs.each x' h)
    clear P4 X4 B4 x2 hxs HX HSM
    have HPL := Lib.hid (fun (W' : World) (h : Blk W' g6 (prtArr x A2 c2)) => show W'.cell? ⟨g6, 2, none⟩ = some (.slice A2 x.legs.length c2) from h.cell 2)
    generalize x.legs = ls at *
    go_loopw [105] (fun iv wr => ∃ k : Nat, k ≤ ls.length ∧ iv = .int .i64 k ∧ legsE p.kind x.kind none ls = legsE p.kind x.kind (prevLg ls k) (ls.drop k) ∧ Below wc.heap.size wc wr) (fun iv _ => ls.length - (intOf iv).toNat)
    case atStart => exact ⟨0, by omega, rfl, rfl, Below.refl _ _⟩
    case round =>
      obtain ⟨k, hk, rfl, hf, BW⟩ := hrel
      have HF := Lib.hid hf
      clear hf
      by_cases hlt : k < ls.length
      · have hlt' : (k : Int) < (ls.length : Int) := by omega
        have hkc : k < c2 := by omega
        have hne : ls.map Leg.arr ≠ [] := by intro h; have := congrArg List.length h; simp at this; rw [this] at hlt; simp at hlt
        obtain ⟨b2, o2, hA2, hb2, hc2⟩ := XN.out wr (below_step BB.out BW) hne
        have HD := Lib.hid (show out = if legCheck ls[k] ≠ 0 then legCheck ls[k] else if !firstL p.kind x.kind (prevLg ls k) ls[k] then 9 else legsE p.kind x.kind (some ls[k]) (ls.drop (k + 1)) by rw [HC.out, HF.out, legsE_drop _ _ _ hlt])
        have HPV3 := Lib.hid (show prevLg ls (k + 1) = some ls[k] from List.getElem?_eq_getElem hlt)
        have hsm := hLS.out _ (List.getElem_mem hlt)
        have hIs : Is_leg wr b2 (o2 + k * 13) ls[k] := fun j hj => hc2 k ls[k].arr (by simp [hlt]) j hj
        have HC2 := Lib.hid (fun (W' : World) (B : Below wr.heap.size wr W') (m : Nat) (hm : m < ls.length) => show Is_leg W' b2 (o2 + m * 13) ls[m] from Is_leg.below (fun j hj => hc2 m ls[m].arr (by simp [hm]) j hj) B hb2)
        clear hne hc2 HF
        subst hA2
        generalize ls[k] = l at *
        have i1 : Has_leg wr b2 (o2 + k * 13) := ⟨_, hIs⟩
        have i2 : of_leg wr b2 (o2 + k * 13) = l := of_leg_eq hIs
        go_upto_region 23 with (fail)
        have Z := Blk.new wr l.arr 77
        have D := alloc_below3 wr (.cells l.arr 77)
        have P5 := (PP.out.step BW).step D
        have X5 := (XX.out.step BW).step D
        have B5 := below_step (below_step BB.out BW) D
        have B6 := below_step BW D
        clear i1 i2 hIs
        generalize wr.alloc _ = W5 at Z D P5 X5 B5 B6 ⊢
        generalize wr.heap.size = g7 at Z D HC2 ⊢
        have i1 : Has_leg W5 g7 0 := ⟨_, Z.is_leg⟩
        have i2 : of_leg W5 g7 0 = l := of_leg_eq Z.is_leg
        have kc := Lib.hid (check_any l W5 (HLB.out W5 B5) hsm)
        generalize legCheck l = lc at *
        go_upto_region 24 with (go_at_call 53; (with_reducible refine callR kc.out ?_); intro w6 b6 _ _ _)
        have P7 := P5.step b6
        have X7 := X5.step b6
        have Z7 := Z.step b6
        have B7 := below_step B5 b6
        have B8 := below_step B6 b6
        have HSZ := Lib.hid (show g7 ≤ w6.heap.size from Nat.le_trans (Nat.le_of_lt Z.lt) b6.size)
        have D7 : Below g7 wr w6 := D.trans (b6.mono (Nat.le_of_lt Z.lt))
        clear i1 i2 kc P5 X5 Z B5 B6 D b6
        by_cases hlc : lc = 0
        rotate_left
        · have HO := Lib.hid (HD.out.trans (if_pos hlc))
          have hlc' : (lc != 0) = true := by simpa using hlc
          clear HD hlc
          go_wp2
          go_ret
          exact Ret.int HO.out.symm B7
        have HD := Lib.hid (HD.out.trans (if_neg (not_not_intro hlc)))
        subst hlc
        go_upto_region 26 with (fail)
        have PH := Lib.hid P7
        have XH := Lib.hid X7
        have ZH := Lib.hid Z7
        clear P7 X7 Z7
        by_cases hk0 : k = 0
        · have e0 : ((k : Int) == 0) = true := by rw [hk0]; rfl
          have e1 : ¬ (0 : Int) < (k : Int) := by omega
          have e2 : decide ((0 : Int) < (k : Int)) = false := by simp [hk0]
          have e3 : ¬ 0 < k := by omega
          have HD := Lib.hid (show out = if !opensK p.kind x.kind l.ty then 9 else legsE p.kind x.kind (some l) (ls.drop (k + 1)) by rw [HD.out, hk0]; rfl)
          clear hk0
          have j1 : ∀ d os, Has_prc (grow (redrawn w6 d) os) g2 0 := fun d os => ⟨_, (XH.out.step (below_regrown w6 d os)).is_prc rfl⟩
          have j2 : ∀ d os, of_prc (grow (redrawn w6 d) os) g2 0 = prcArr p (some ⟨b, off, none⟩) c := fun d os => of_prc_eq ((XH.out.step (below_regrown w6 d os)).is_prc rfl)
          have j3 : ∀ d os, (grow (redrawn w6 d) os).cell? ⟨g6, 0, none⟩ = some (.int .u8 x.kind) := fun d os => (PH.out.step (below_regrown w6 d os)).cell 0
          have j4 : ∀ d os, (grow (redrawn w6 d) os).cell? ⟨g7, 0, none⟩ = some (.int .u8 l.ty) := fun d os => (ZH.out.step (below_regrown w6 d os)).cell 0
          have k1 : ∀ d os, Calls Tryz.prog 192 #[.agg (prcArr p (some ⟨b, off, none⟩) c), .int .u8 x.kind, .int .u8 l.ty] (grow (redrawn w6 d) os) fun e w'' => e = .returned (.bool (opensK p.kind x.kind l.ty)) ∧ ∃ q : Regrown, w'' = grow (redrawn w6 q.d) q.os := fun d os => Calls.regrown_ret (opens_any p _ c x.kind l.ty _)
          generalize opensK p.kind x.kind l.ty = ok at *
          cases ok
          · have HO := Lib.hid (HD.out.trans (if_pos rfl))
            clear HD
            refine wp_region_quiet_below (by kernel_rfl) (by kernel_rfl) ?_
            repeat (go_big_quiet_step (with_reducible first | exact k1 _ _))
            refine wpQuiet_nil ?_
            intro _ hw'
            obtain ⟨⟨dq, osq⟩, hw''⟩ := hw'
            subst hw''
            clear j1 j2 j3 j4 k1
            go_wp2
            go_ret
            exact Ret.int HO.out.symm (below_step B7 (below_regrown w6 dq osq))
          · have HO := Lib.hid (HD.out.trans (if_neg (by simp)))
            clear HD
            refine wp_region_quiet_below (by kernel_rfl) (by kernel_rfl) ?_
            repeat (go_big_quiet_step (with_reducible first | exact k1 _ _))
            refine wpQuiet_nil ?_
            intro _ hw'
            obtain ⟨⟨dq, osq⟩, hw''⟩ := hw'
            subst hw''
            clear j1 j2 j3 j4 k1
            go_wp2
            go_roundw
            case rel => exact ⟨k + 1, by omega, by go_num, by rw [← HC.out, HO.out, HPV3.out], below_step B8 (below_regrown w6 dq osq)⟩
            case measure => simp [intOf]; omega
        · obtain ⟨m, hm⟩ : ∃ m, k = m + 1 := ⟨k - 1, by omega⟩
          have hml : m < ls.length := by omega
          have e0 : ((k : Int) == 0) = false := by rw [beq_eq_false_iff_ne]; omega
          have e1 : (0 : Int) < (k : Int) := by omega
          have e2 : decide ((0 : Int) < (k : Int)) = true := by simp; omega
          have e3 : 0 < k := by omega
          have hk' : (k : Int) - 1 = (m : Int) := by omega
          have hmi : (m : Int) < (ls.length : Int) := by omega
          have hmc : m < c2 := by omega
          have hpm : prevLg ls k = some ls[m] := by rw [hm]; exact List.getElem?_eq_getElem hml
          have HD := Lib.hid (show out = if !ls[m].joinsB l then 9 else legsE p.kind x.kind (some l) (ls.drop (k + 1)) by rw [HD.out, hpm]; rfl)
          have j1 : ∀ d os, Has_leg (grow (redrawn w6 d) os) b2 (o2 + m * 13) := fun d os => ⟨_, HC2.out _ (D7.trans ((below_regrown w6 d os).mono HSZ.out)) m hml⟩
          have j2 : ∀ d os, of_leg (grow (redrawn w6 d) os) b2 (o2 + m * 13) = ls[m] := fun d os => of_leg_eq (HC2.out _ (D7.trans ((below_regrown w6 d os).mono HSZ.out)) m hml)
          clear hpm hm hk0
          generalize ls[m] = y at *
          have j3 : ∀ d os, (grow (redrawn w6 d) os).cell? ⟨g6, 2, none⟩ = some (.slice (some ⟨b2, o2, none⟩) ls.length c2) := fun d os => HPL.out _ (PH.out.step (below_regrown w6 d os))
          have j4 : ∀ d os, Has_leg (grow (redrawn w6 d) os) g7 0 := fun d os => ⟨_, (ZH.out.step (below_regrown w6 d os)).is_leg⟩
          have j5 : ∀ d os, of_leg (grow (redrawn w6 d) os) g7 0 = l := fun d os => of_leg_eq ((ZH.out.step (below_regrown w6 d os)).is_leg)
          have k1 : ∀ d os, Calls Tryz.prog 31 #[y.val, l.val] (grow (redrawn w6 d) os) fun e w'' => e = .returned (.bool (y.joinsB l)) ∧ ∃ q : Regrown, w'' = grow (redrawn w6 q.d) q.os := fun d os => Calls.regrown_ret (joins_any y l _)
          generalize y.joinsB l = ok at *
          cases ok
          · have HO := Lib.hid (HD.out.trans (if_pos rfl))
            clear HD
            refine wp_region_quiet_below (by kernel_rfl) (by kernel_rfl) ?_
            repeat (go_big_quiet_step (with_reducible first | exact k1 _ _))
            refine wpQuiet_nil ?_
            intro _ hw'
            obtain ⟨⟨dq, osq⟩, hw''⟩ := hw'
            subst hw''
            clear j1 j2 j3 j4 j5 k1
            go_wp2
            go_ret
            exact Ret.int HO.out.symm (below_step B7 (below_regrown w6 dq osq))
          · have HO := Lib.hid (HD.out.trans (if_neg (by simp)))
            clear HD
            refine wp_region_quiet_below (by kernel_rfl) (by kernel_rfl) ?_
            repeat (go_big_quiet_step (with_reducible first | exact k1 _ _))
            refine wpQuiet_nil ?_
            intro _ hw'
            obtain ⟨⟨dq, osq⟩, hw''⟩ := hw'
            subst hw''
            clear j1 j2 j3 j4 j5 k1
            go_wp2
            go_roundw
            case rel => exact ⟨k + 1, by omega, by go_num, by rw [← HC.out, HO.out, HPV3.out], below_step B8 (below_regrown w6 dq osq)⟩
            case measure => simp [intOf]; omega
      · have hge : ¬ (k : Int) < (ls.length : Int) := by omega
        have HO := Lib.hid (show out = 0 by rw [HC.out, HF.out, List.drop_eq_nil_of_le (by omega)]; unfold legsE; rfl)
        clear hlt HF
        go_wp2
        go_ret
        exact Ret.int HO.out.symm (below_step BB.out BW)
end Go.Proofs.YtlggdgpdfepppaaGreatDoor
namespace Go.Proofs.YtlggdgpdfepppaaGreatDoor
open Go.RowKit Go.Sort
set_option linter.unusedVariables false
set_option linter.unusedSimpArgs false
set_option maxRecDepth 100000
theorem partsE_drop (pk : Int) (l : List PartV) {k : Nat} (h : k < l.length) (prev : Option PartV) : partsE pk prev (l.drop k) = orE (partE pk prev l[k]) (partsE pk (some l[k]) (l.drop (k + 1))) := by
  rw [List.drop_eq_getElem_cons h]; rfl
attribute [local go_sem] prtArr_ones prtArr_sz prtArr_fits prtArr_splice
theorem kinds_eql_some (w : World) (a : Addr) (n c : Nat) : (Go.binOp .eql 246 (.slice (some a) n c) (.slice none 0 0)).run Tryz.prog w = .ok (.bool false) w := Lib.run_eql_slice_some_nil w a n c Tryz.underlying246
theorem kinds_eql_none (w : World) (n c : Nat) : (Go.binOp .eql 246 (.slice none n c) (.slice none 0 0)).run Tryz.prog w = .ok (.bool true) w := Lib.run_eql_slice_nil_nil w n c Tryz.underlying246
attribute [local go_sem] kinds_eql_some kinds_eql_none
set_option maxHeartbeats 4000000 in
theorem prccheck_any (p : ProcV) (cs : Array Value) (w : World) (hL : Laid w) (h : PrcAt w cs p) (hs : p.small) :
    Calls Tryz.prog 155 #[.agg cs] w (Ret w (.int .i64 (procCheck p))) := by
  obtain ⟨A, c, rfl, hlc, hA⟩ := h.ex
  have HLB := Lib.hid (fun (W : World) (B : Below w.heap.size w W) => hL.below B)
  have HAB := Lib.hid (fun (W : World) (B : Below w.heap.size w W) => hA.below B)
  have HC := Lib.hid (show procCheck p = if !nameB p.airport 6 || !nameB p.name 8 then 5 else if (orderK p.kind).isEmpty then 17 else if 12 < p.parts.length then 3 else orE (partsE p.kind none p.parts) (if p.parts.isEmpty then 6 else if p.kind = 3 ∧ (partV 2 [] p.parts).isNone then 6 else 0) from rfl)
  have hn := hs.len
  have ha := hs.airport
  have hm := hs.name
  have HSM := Lib.hid hs.each
  have HS := Lib.hid hs
  have HLC := Lib.hid hlc
  clear hL h hA hs hlc
  go_enter Tryz.func155, Tryz.ntmps155
  go_upto_region 1 with (fail)
  have X0 := Blk.new w (prcArr p A c) 186
  have B0 := alloc_below3 w (.cells (prcArr p A c) 186)
  generalize w.alloc _ = W at X0 B0 ⊢
  obtain ⟨g0, hg0⟩ : ∃ g, g = w.heap.size := ⟨_, rfl⟩
  rw [← hg0] at X0 ⊢
  clear hg0
  have c0 : W.cell? ⟨g0, 0, none⟩ = some (.string ⟨p.airport.toArray⟩) := X0.cell 0
  have c1 : W.cell? ⟨g0, 1, none⟩ = some (.string ⟨p.name.toArray⟩) := X0.cell 1
  have c2 : W.cell? ⟨g0, 2, none⟩ = some (.int .u8 p.kind) := X0.cell 2
  have kn := Lib.hid (fun w' => name_any p.airport 6 w' (by omega))
  have km := Lib.hid (fun w' => name_any p.name 8 w' (by omega))
  generalize nameB p.airport 6 = na at *
  generalize nameB p.name 8 = nb at *
  cases na with
  | false =>
    have HO := Lib.hid (HC.out.trans (if_pos rfl))
    clear HC
    go_wp2_with (first | (go_at_call 81; (with_reducible refine callP (kn.out _) ?_)) | (go_at_call 81; (with_reducible refine callP (km.out _) ?_)))
    go_ret
    exact Ret.int HO.out.symm B0
  | true =>
  cases nb with
  | false =>
    have HO := Lib.hid (HC.out.trans (if_pos rfl))
    clear HC
    go_wp2_with (first | (go_at_call 81; (with_reducible refine callP (kn.out _) ?_)) | (go_at_call 81; (with_reducible refine callP (km.out _) ?_)))
    go_ret
    exact Ret.int HO.out.symm B0
  | true =>
  have HC := Lib.hid (HC.out.trans (if_neg (by decide)))
  go_upto_region 3 with (first | (go_at_call 81; (with_reducible refine callP (kn.out _) ?_)) | (go_at_call 81; (with_reducible refine callP (km.out _) ?_)))
  clear kn km c0 c1
  have ko := Lib.hid (order_any p.kind W)
  by_cases hks : orderK p.kind = []
  · rw [hks] at ko HC
    have HO := Lib.hid (HC.out.trans (if_pos rfl))
    clear HC hks
    go_wp2_with (go_at_call 175; (with_reducible refine callOrd ko.out ?_); intro Ak ck w1 K1 hak b1; obtain rfl := hak.2 rfl)
    go_ret
    exact Ret.int HO.out.symm (below_step B0 b1)
  have HC := Lib.hid (HC.out.trans (if_neg (by simpa using hks)))
  go_upto_region 5 with (go_at_call 175; (with_reducible refine callOrd ko.out ?_); intro Ak ck w1 K1 hak b1; obtain ⟨a0, rfl⟩ : ∃ a, Ak = some a := (by cases Ak with | none => exact absurd (hak.1 rfl) hks | some a => exact ⟨a, rfl⟩))
  have X1 := X0.step b1
  have B1 := below_step B0 b1
  clear ko X0 B0 b1 c2 K1 hak hks
  have c3 : w1.cell? ⟨g0, 3, none⟩ = some (.slice A p.parts.length c) := X1.cell 3
  by_cases h12 : 12 < p.parts.length
  · have HO := Lib.hid (HC.out.trans (if_pos h12))
    have h12' : (12 : Int) < (p.parts.length : Int) := by omega
    clear HC h12
    go_wp2
    go_ret
    exact Ret.int HO.out.symm B1
  have HC := Lib.hid (HC.out.trans (if_neg h12))
  have h12' : ¬ (12 : Int) < (p.parts.length : Int) := by omega
  clear h12
  go_upto_region 8 with (fail)
  clear h12' c3
  have HX := Lib.hid X1
  have HB := Lib.hid B1
  clear X1 B1
  go_loopw [31] (fun iv wr => ∃ k : Nat, k ≤ p.parts.length ∧ iv = .int .i64 k ∧ partsE p.kind none p.parts = partsE p.kind (prevP p.parts k) (p.parts.drop k) ∧ Below w1.heap.size w1 wr) (fun iv _ => p.parts.length - (intOf iv).toNat)
  case atStart => exact ⟨0, by omega, rfl, rfl, Below.refl _ _⟩
  case round =>
    obtain ⟨k, hk, rfl, hf, BW⟩ := hrel
    have HF := Lib.hid hf
    clear hf
    have BB := below_step HB.out BW
    have X1 := HX.out.step BW
    by_cases hlt : k < p.parts.length
    · have i1 : Has_prc wr g0 0 := ⟨_, X1.is_prc rfl⟩
      have i2 : of_prc wr g0 0 = prcArr p A c := of_prc_eq (X1.is_prc rfl)
      have kc := Lib.hid (chkpart_any p A c k wr (HLB.out wr BB) HLC.out (HAB.out wr BB) HS.out hlt)
      have HD := Lib.hid (HF.out.trans (partsE_drop p.kind p.parts hlt _))
      have HPV := Lib.hid (show prevP p.parts (k + 1) = some p.parts[k] from List.getElem?_eq_getElem hlt)
      clear HF X1
      generalize partE p.kind (prevP p.parts k) p.parts[k] = v at kc HD
      have hlt' : (k : Int) < (p.parts.length : Int) := by omega
      by_cases hv : v = 0
      · subst hv
        have HD := Lib.hid (show partsE p.kind none p.parts = partsE p.kind (some p.parts[k]) (p.parts.drop (k + 1)) from HD.out)
        go_wp2_with (go_at_call 178; (with_reducible refine callR kc.out ?_); intro w2 b2 _ _ _)
        go_roundw
        case rel => exact ⟨k + 1, by omega, by go_num, by rw [HPV.out]; exact HD.out, below_step BW b2⟩
        case measure => simp [intOf]; omega
      · have hv' : (v != 0) = true := by simpa using hv
        have HO := Lib.hid (show procCheck p = v by rw [HC.out, HD.out]; unfold orE; rw [if_pos hv', if_pos hv'])
        clear hv HC HD
        go_wp2_with (go_at_call 178; (with_reducible refine callR kc.out ?_); intro w2 b2 _ _ _)
        go_ret
        exact Ret.int HO.out.symm (below_step BB b2)
    · have hlt' : ¬ (k : Int) < (p.parts.length : Int) := by omega
      have HC := Lib.hid (show procCheck p = if p.parts.isEmpty then 6 else if p.kind = 3 ∧ (partV 2 [] p.parts).isNone then 6 else 0 by rw [HC.out, HF.out, List.drop_of_length_le (by omega)]; rfl)
      have c3 : wr.cell? ⟨g0, 3, none⟩ = some (.slice A p.parts.length c) := X1.cell 3
      clear HF
      by_cases h0 : p.parts.length = 0
      · have HO := Lib.hid (HC.out.trans (if_pos (by simpa using h0)))
        have e0 : ((p.parts.length : Int) == 0) = true := by rw [h0]; rfl
        clear HC h0
        go_wp2
        go_ret
        exact Ret.int HO.out.symm BB
      have HC := Lib.hid (HC.out.trans (if_neg (by simpa using h0)))
      have e0 : ((p.parts.length : Int) == 0) = false := by rw [beq_eq_false_iff_ne]; omega
      clear h0
      have i1 : Has_prc wr g0 0 := ⟨_, X1.is_prc rfl⟩
      have i2 : of_prc wr g0 0 = prcArr p A c := of_prc_eq (X1.is_prc rfl)
      have kp := Lib.hid (show Calls Tryz.prog 156 #[.agg (prcArr p A c), .int .u8 2, .string ⟨#[]⟩] wr (RetPrt wr (partV 2 [] p.parts)) from part_any p A c HLC.out hn 2 [] wr (HAB.out wr BB) HSM.out)
      generalize partV 2 [] p.parts = r at *
      go_upto_region 17 with (go_at_call 156; (with_reducible refine callPrt kp.out ?_); intro cs2 w2 h2 b2; obtain ⟨A3, c3', rfl, _, _⟩ := h2.ex)
      have X2 := X1.step b2
      have B2 := below_step BB b2
      have D := alloc_below3 w2 (.cells (prtArr (r.getD noPart) A3 c3') 225)
      have X3 := X2.step D
      have B3 := below_step B2 D
      clear X1 X2 B2 b2 i1 i2 kp c3 D
      generalize w2.alloc _ = W3 at X3 B3 ⊢
      have k2 : W3.cell? ⟨g0, 2, none⟩ = some (.int .u8 p.kind) := X3.cell 2
      by_cases h3 : p.kind = 3
      · have e3 : (p.kind == 3) = true := by simpa using h3
        cases hr : r.isSome with
        | true =>
          have HO := Lib.hid (HC.out.trans (if_neg (by rintro ⟨_, hh⟩; cases r <;> simp at hr hh)))
          clear HC h3
          go_wp2
          go_ret
          exact Ret.int HO.out.symm B3
        | false =>
          have HO := Lib.hid (HC.out.trans (if_pos ⟨h3, by cases r <;> simp at hr ⊢⟩))
          clear HC h3
          go_wp2
          go_ret
          exact Ret.int HO.out.symm B3
      · have e3 : (p.kind == 3) = false := by simpa using h3
        have HO := Lib.hid (HC.out.trans (if_neg (fun hh => h3 hh.1)))
        clear HC h3
        go_wp2
        go_ret
        exact Ret.int HO.out.symm B3
end Go.Proofs.YtlggdgpdfepppaaGreatDoor
namespace Go.Proofs.YtlggdgpdfepppaaGreatDoor
open Go.RowKit Go.Sort
set_option linter.unusedVariables false
set_option linter.unusedSimpArgs false
set_option maxRecDepth 100000
def tailJ (a b : List Leg) : List Leg := if sharesB a b then b.drop 1 else b
theorem jointG_eq (a b : List Leg) : jointG a b = a ++ tailJ a b := rfl
theorem tailJ_len (a b : List Leg) : (tailJ a b).length ≤ b.length := by unfold tailJ; split <;> simp
def lastJ (last : Leg) : List Leg → Bool
  | [] => true
  | g :: _ => last.joinsB g
theorem sharesB_cons (a : List Leg) (last f : Leg) (r : List Leg) (h : a.getLast? = some last) : sharesB a (f :: r) = (f.ty == 1 && endsB last.ty && last.fix == f.fix && lastJ last r) := by
  unfold sharesB; rw [h]; cases r <;> rfl
theorem sharesB_nil2 (a : List Leg) : sharesB a [] = false := by unfold sharesB; cases a.getLast? <;> rfl
theorem Items.leg {w : World} {A : Option Addr} {l : List Leg} (h : Items w A 13 (l.map Leg.arr)) (hne : l ≠ []) : ∃ b o, A = some ⟨b, o, none⟩ ∧ b < w.heap.size ∧ ∀ W, Below w.heap.size w W → ∀ i (hi : i < l.length), Is_leg W b (o + i * 13) l[i] := by
  obtain ⟨b, o, hA, hb, hc⟩ := h.at_ (by simpa using hne)
  exact ⟨b, o, hA, hb, fun W B i hi => Is_leg.below (fun j hj => hc i l[i].arr (by simp [hi]) j hj) B hb⟩
theorem Items.tail {w : World} {b o : Nat} {x : Array Value} {l : List (Array Value)} {n : Nat} (h : Items w (some ⟨b, o, none⟩) n (x :: l)) : Items w (some ⟨b, o + n, none⟩) n l := by
  refine ⟨fun hne => ?_⟩
  obtain ⟨b', o', hA, hb, hc⟩ := h.at_ (by simp)
  obtain ⟨rfl, rfl⟩ : b = b' ∧ o = o' := by simpa using hA
  exact ⟨b, o + n, rfl, hb, fun i y hy j hj => by
    have := hc (i + 1) y (by simpa using hy) j hj
    rw [← this]; congr 2; rw [Nat.add_mul]; omega⟩
set_option maxHeartbeats 4000000 in
theorem joint_any (a b : List Leg) (A B : Option Addr) (ca cb : Nat) (w : World) (hA : Items w A 13 (a.map Leg.arr)) (hB : Items w B 13 (b.map Leg.arr)) (hca : a.length ≤ ca) (hcb : b.length ≤ cb) (hna : a.length ≤ 100000000) (hnb : b.length ≤ 100000000) :
    Calls Tryz.prog 176 #[.slice A a.length ca, .slice B b.length cb] w (RetCl w 77 13 (jointG a b).length ((jointG a b).map Leg.arr)) := by
  have kc := Lib.hid (clone_leg (a.map Leg.arr) A a.length ca w hA (by simp) hna (leg_sizes _) (leg_ones _))
  have HA := Lib.hid (fun (W : World) (D : Below w.heap.size w W) => hA.below D)
  have HB := Lib.hid (fun (W : World) (D : Below w.heap.size w W) => hB.below D)
  have HCA := Lib.hid hca
  have HCB := Lib.hid hcb
  clear hA hB hca hcb
  go_enter Tryz.func176, Tryz.ntmps176
  go_upto_region 2 with (go_at_call 173; (with_reducible refine callCl kc.out ?_); intro A3 c3 w1 O1 D1)
  have OH := Lib.hid O1
  have DH := Lib.hid D1
  clear kc O1 D1
  obtain ⟨ea, hea⟩ : ∃ t, a.isEmpty = t := ⟨_, rfl⟩
  obtain ⟨eb, heb⟩ : ∃ t, b.isEmpty = t := ⟨_, rfl⟩
  have HEA := Lib.hid hea
  have HEB := Lib.hid heb
  clear hea heb
  obtain ⟨fl, hfl⟩ : ∃ t, (!ea && !eb) = t := ⟨_, rfl⟩
  have HFL := Lib.hid hfl
  clear hfl
  go_cut [16] from 7 to 16 (fun v wx => v = .bool fl ∧ wx = w1)
  case first =>
    cases ea with
    | true =>
      have e1 : ¬ (0 : Int) < (a.length : Int) := by have := HEA.out; simp at this; simp [this]
      have e2 : ¬ 0 < a.length := by omega
      go_wp2
      go_meet
      exact ⟨by rw [← HFL.out]; rfl, rfl⟩
    | false =>
      have e1 : (0 : Int) < (a.length : Int) := by have := HEA.out; have : 0 < a.length := List.length_pos_iff.2 (by simpa using this); omega
      have e2 : 0 < a.length := by omega
      cases eb with
      | true =>
        have e3 : ¬ (0 : Int) < (b.length : Int) := by have := HEB.out; simp at this; simp [this]
        have e4 : ¬ 0 < b.length := by omega
        go_wp2
        go_meet
        exact ⟨by rw [← HFL.out]; rfl, rfl⟩
      | false =>
        have e3 : (0 : Int) < (b.length : Int) := by have := HEB.out; have : 0 < b.length := List.length_pos_iff.2 (by simpa using this); omega
        have e4 : 0 < b.length := by omega
        go_wp2
        go_meet
        exact ⟨by rw [← HFL.out]; rfl, rfl⟩
  case rest =>
  obtain ⟨rfl, rfl⟩ := hcut
  go_upto_if 16 with (fail)
  go_cut [1] from 17 to 55 (fun v wx => ∃ B' c', v = .slice B' (tailJ a b).length c' ∧ (tailJ a b).length ≤ c' ∧ Items wx B' 13 ((tailJ a b).map Leg.arr) ∧ Below wc.heap.size wc wx)
  case first =>
    cases fl
    case false =>
      have hE := HFL.out
      have HT := Lib.hid (show tailJ a b = b by
        have h1 := HEA.out
        have h2 := HEB.out
        cases ea with
        | true => have : a = [] := (by simpa using h1); subst this; rfl
        | false =>
          cases eb with
          | true => have : b = [] := (by simpa using h2); subst this; unfold tailJ; rw [sharesB_nil2]; rfl
          | false => exact absurd hE (by decide))
      clear hE HFL
      go_wp2
      go_meet
      exact ⟨B, cb, by rw [HT.out], by rw [HT.out]; exact HCB.out, by rw [HT.out]; exact HB.out _ DH.out, Below.refl _ _⟩
    case true =>
      have hE := HFL.out
      clear HFL
      obtain ⟨ha0, hb0⟩ : ea = false ∧ eb = false := by simpa using hE
      have hane : a ≠ [] := by have := HEA.out; rw [ha0] at this; simpa using this
      have hbne : b ≠ [] := by have := HEB.out; rw [hb0] at this; simpa using this
      clear hE ha0 hb0 HEA HEB
      obtain ⟨b1, o1, rfl, hb1, HL1⟩ := (HA.out _ DH.out).leg hane
      obtain ⟨b2, o2, rfl, hb2, HL2⟩ := (HB.out _ DH.out).leg hbne
      obtain ⟨m, hm⟩ : ∃ m, a.length = m + 1 := ⟨a.length - 1, by have := List.length_pos_iff.2 hane; omega⟩
      have hml : m < a.length := by omega
      have hlast : a.getLast? = some a[m] := by rw [List.getLast?_eq_getElem?, hm]; exact List.getElem?_eq_getElem hml
      have i1 : Has_leg wc b1 (o1 + m * 13) := ⟨_, HL1 _ (Below.refl _ _) m hml⟩
      have i2 : of_leg wc b1 (o1 + m * 13) = a[m] := of_leg_eq (HL1 _ (Below.refl _ _) m hml)
      generalize a[m] = last at *
      have hk' : (a.length : Int) - 1 = (m : Int) := by omega
      have hmi : (m : Int) < (a.length : Int) := by omega
      have hmc : m < ca := by have := HCA.out; omega
      have HL1' := Lib.hid HL1
      have HL2' := Lib.hid HL2
      have HLA := Lib.hid hlast
      clear HL1 HL2 hlast hm hane
      go_upto_region 4 with (fail)
      have P3 := Blk.new wc last.arr 77
      have D3 := alloc_below3 wc (.cells last.arr 77)
      have HLB2 := Lib.hid (fun W D i hi => HL2'.out W (below_step D3 D) i hi)
      clear i1 i2 hml hmi hmc hk' HL1' HL2'
      generalize wc.alloc _ = w3 at P3 D3 HLB2 ⊢
      generalize wc.heap.size = g6 at P3 ⊢
      obtain ⟨f, r, hbe⟩ := List.exists_cons_of_ne_nil hbne
      have HBE := Lib.hid hbe
      have hn0 : 0 < b.length := List.length_pos_iff.2 hbne
      have hn0' : (0 : Int) < (b.length : Int) := by omega
      have hcb : b.length ≤ cb := HCB.out
      have hc0 : 0 < cb := by omega
      have HF := Lib.hid (fun W (D : Below w3.heap.size w3 W) => show Is_leg W b2 o2 f by
        have := HLB2.out W D 0 hn0
        simpa [hbe] using this)
      have HG := Lib.hid (fun g r' (hr : r = g :: r') W (D : Below w3.heap.size w3 W) => show Is_leg W b2 (o2 + 13) g by
        have := HLB2.out W D 1 (by rw [hbe, hr]; simp)
        simpa [hbe, hr] using this)
      have HSH := Lib.hid (show sharesB a b = (f.ty == 1 && endsB last.ty && last.fix == f.fix && lastJ last r) by rw [HBE.out]; exact sharesB_cons a last f r HLA.out)
      clear hbe hbne
      have t0 : ∀ d os, (grow (redrawn w3 d) os).cell? ⟨g6, 0, none⟩ = some (.int .u8 last.ty) := fun d os => (P3.step (below_regrown w3 d os)).cell 0
      have t1 : ∀ d os, (grow (redrawn w3 d) os).cell? ⟨g6, 1, none⟩ = some (.string ⟨last.fix.toArray⟩) := fun d os => (P3.step (below_regrown w3 d os)).cell 1
      have t2 : ∀ d os, Has_leg (grow (redrawn w3 d) os) g6 0 := fun d os => ⟨_, (P3.step (below_regrown w3 d os)).is_leg⟩
      have t3 : ∀ d os, of_leg (grow (redrawn w3 d) os) g6 0 = last := fun d os => of_leg_eq ((P3.step (below_regrown w3 d os)).is_leg)
      have f0 : ∀ d os, (grow (redrawn w3 d) os).cell? ⟨b2, o2, none⟩ = some (.int .u8 f.ty) := fun d os => HF.out _ (below_regrown w3 d os) 0 (by omega)
      have f1 : ∀ d os, (grow (redrawn w3 d) os).cell? ⟨b2, o2 + 1, none⟩ = some (.string ⟨f.fix.toArray⟩) := fun d os => HF.out _ (below_regrown w3 d os) 1 (by omega)
      have k1 : ∀ d os, Calls Tryz.prog 59 #[.int .u8 last.ty] (grow (redrawn w3 d) os) fun e w'' => e = .returned (.bool (endsB last.ty)) ∧ ∃ q : Regrown, w'' = grow (redrawn w3 q.d) q.os := fun d os => Calls.regrown_ret ((ends_any last.ty _).mono fun e w' h => by obtain ⟨h1, h2⟩ := h; subst h1 h2; exact ⟨rfl, Below.refl _ _⟩)
      have HK2 := Lib.hid (fun g d os => show Calls Tryz.prog 31 #[last.val, g.val] (grow (redrawn w3 d) os) fun e w'' => e = .returned (.bool (last.joinsB g)) ∧ ∃ q : Regrown, w'' = grow (redrawn w3 q.d) q.os from Calls.regrown_ret (joins_any last g _))
      obtain ⟨q1, h1⟩ : ∃ t, (f.ty == 1) = t := ⟨_, rfl⟩
      obtain ⟨q3, h3⟩ : ∃ t, (last.fix == f.fix) = t := ⟨_, rfl⟩
      generalize endsB last.ty = q2 at *
      rw [h1, h3] at HSH
      obtain ⟨sh, hsh⟩ : ∃ t, sharesB a b = t := ⟨_, rfl⟩
      have HS := Lib.hid hsh
      have HS2 := Lib.hid (hsh.symm.trans HSH.out)
      clear hsh HSH
      go_cut [53] from 23 to 53 (fun v wx => v = .bool sh ∧ Below w3.heap.size w3 wx)
      case first =>
        have HS := HS2
        cases q1 with
        | false =>
          have k2 := k1
          refine wp_region_quiet_below (by kernel_rfl) (by kernel_rfl) ?_
          repeat (go_big_quiet_step (with_reducible first | exact k1 _ _ | exact k2 _ _))
          refine wpQuiet_nil ?_
          intro _ hw'
          obtain ⟨⟨dq, osq⟩, hw''⟩ := hw'
          subst hw''
          go_wp2
          go_meet
          exact ⟨by first | (rw [HS.out]; done) | (rw [HS.out]; rfl), below_regrown w3 dq osq⟩
        | true =>
        cases q2 with
        | false =>
          have k2 := k1
          refine wp_region_quiet_below (by kernel_rfl) (by kernel_rfl) ?_
          repeat (go_big_quiet_step (with_reducible first | exact k1 _ _ | exact k2 _ _))
          refine wpQuiet_nil ?_
          intro _ hw'
          obtain ⟨⟨dq, osq⟩, hw''⟩ := hw'
          subst hw''
          go_wp2
          go_meet
          exact ⟨by first | (rw [HS.out]; done) | (rw [HS.out]; rfl), below_regrown w3 dq osq⟩
        | true =>
        cases q3 with
        | false =>
          have k2 := k1
          refine wp_region_quiet_below (by kernel_rfl) (by kernel_rfl) ?_
          repeat (go_big_quiet_step (with_reducible first | exact k1 _ _ | exact k2 _ _))
          refine wpQuiet_nil ?_
          intro _ hw'
          obtain ⟨⟨dq, osq⟩, hw''⟩ := hw'
          subst hw''
          go_wp2
          go_meet
          exact ⟨by first | (rw [HS.out]; done) | (rw [HS.out]; rfl), below_regrown w3 dq osq⟩
        | true =>
        cases hr : r with
        | nil =>
          have e1 : b.length = 1 := by rw [HBE.out, hr]; rfl
          have HE := Lib.hid e1
          have e1 : ((b.length : Int) == 1) = true := by rw [HE.out]; rfl
          have HS := Lib.hid (show sh = true by rw [HS.out, hr]; rfl)
          have k2 := k1
          refine wp_region_quiet_below (by kernel_rfl) (by kernel_rfl) ?_
          repeat (go_big_quiet_step (with_reducible first | exact k1 _ _ | exact k2 _ _))
          refine wpQuiet_nil ?_
          intro _ hw'
          obtain ⟨⟨dq, osq⟩, hw''⟩ := hw'
          subst hw''
          go_wp2
          go_meet
          exact ⟨by first | (rw [HS.out]; done) | (rw [HS.out]; rfl), below_regrown w3 dq osq⟩
        | cons g r' =>
          have e1 : ((b.length : Int) == 1) = false := by rw [beq_eq_false_iff_ne, HBE.out, hr]; simp; omega
          have e2 : (1 : Int) < (b.length : Int) := by rw [HBE.out, hr]; simp; omega
          have e3 : 1 < cb := by omega
          have HG2 := Lib.hid (HG.out g r' hr)
          have g1 : ∀ d os, Has_leg (grow (redrawn w3 d) os) b2 (o2 + 13) := fun d os => ⟨_, HG2.out _ (below_regrown w3 d os)⟩
          have g2 : ∀ d os, of_leg (grow (redrawn w3 d) os) b2 (o2 + 13) = g := fun d os => of_leg_eq (HG2.out _ (below_regrown w3 d os))
          have HS := Lib.hid (show sh = last.joinsB g by rw [HS.out, hr]; rfl)
          have k2 := HK2.out g
          clear hr HG
          generalize last.joinsB g = q5 at *
          cases q5
          · skip
            refine wp_region_quiet_below (by kernel_rfl) (by kernel_rfl) ?_
            repeat (go_big_quiet_step (with_reducible first | exact k1 _ _ | exact k2 _ _))
            refine wpQuiet_nil ?_
            intro _ hw'
            obtain ⟨⟨dq, osq⟩, hw''⟩ := hw'
            subst hw''
            go_wp2
            go_meet
            exact ⟨by first | (rw [HS.out]; done) | (rw [HS.out]; rfl), below_regrown w3 dq osq⟩
          · skip
            refine wp_region_quiet_below (by kernel_rfl) (by kernel_rfl) ?_
            repeat (go_big_quiet_step (with_reducible first | exact k1 _ _ | exact k2 _ _))
            refine wpQuiet_nil ?_
            intro _ hw'
            obtain ⟨⟨dq, osq⟩, hw''⟩ := hw'
            subst hw''
            go_wp2
            go_meet
            exact ⟨by first | (rw [HS.out]; done) | (rw [HS.out]; rfl), below_regrown w3 dq osq⟩
      case rest =>
      obtain ⟨rfl, D4⟩ := hcut
      clear t0 t1 t2 t3 f0 f1 k1 h1 h3 HK2 HS2 HF HG
      cases sh with
      | false =>
        have HT := Lib.hid (show tailJ a b = b by unfold tailJ; rw [HS.out]; rfl)
        clear HS
        go_wp2
        go_meet
        exact ⟨some ⟨b2, o2, none⟩, cb, by rw [HT.out], by rw [HT.out]; exact HCB.out, by rw [HT.out]; exact HB.out _ (below_step DH.out (below_step D3 D4)), below_step D3 D4⟩
      | true =>
        have HT := Lib.hid (show tailJ a b = r by unfold tailJ; rw [HS.out, if_pos rfl, HBE.out]; rfl)
        have hrl : (r.length : Int) = (b.length : Int) - 1 := by rw [HBE.out]; simp
        clear HS
        have hbr : b.length = r.length + 1 := by rw [HBE.out]; rfl
        have HHB := Lib.hid hbr
        have D5 := below_step D3 D4
        have HI5 := Lib.hid (HB.out _ (below_step DH.out D5))
        clear hbr
        go_wp2
        · rename_i h1
          go_meet
          have hr0 : r = [] := by
            have := HHB.out
            rcases r with _ | ⟨x, t⟩
            · rfl
            · exfalso; simp at this; omega
          subst hr0
          exact ⟨some ⟨b2, o2, none⟩, 0, by rw [HT.out, HHB.out]; rfl, by rw [HT.out]; simp, by rw [HT.out]; exact ⟨fun h => absurd rfl h⟩, D5⟩
        · go_meet
          exact ⟨some ⟨b2, o2 + 13, none⟩, cb - 1, by rw [HT.out, HHB.out]; rfl, by rw [HT.out]; have := HHB.out; omega, by rw [HT.out]; have := HI5.out; rw [HBE.out] at this; exact Items.tail this, D5⟩
  case rest =>
  obtain ⟨B', c', rfl, hc', hI', D2⟩ := hcut
  have HT := Lib.hid (tailJ_len a b)
  have HJ := Lib.hid (jointG_eq a b)
  generalize tailJ a b = tj at *
  generalize jointG a b = jg at *
  have O4 := Lib.hid (OH.out.below (W' := wc) (fun k _ hk => D2.block k hk))
  have hsz : w.heap.size ≤ wc.heap.size := Nat.le_trans DH.out.size D2.size
  have HI := Lib.hid hI'
  have HZ := Lib.hid hsz
  have HNA := Lib.hid hna
  have HNB := Lib.hid hnb
  have BB := Lib.hid (below_step DH.out D2)
  clear hI' hc' hsz D2 OH DH HA HB hna hnb
  go_wp2_with (at_builtin; refine wpList_append_items rfl (.tmp 56) (.tmp 57) _ 77 13 112 _ infoA_leg rfl (by omega) Tryz.underlying179 rfl O4.out rfl (tj.map Leg.arr) B' tj.length c' (List.length_map _) rfl HI.out (leg_sizes _) (leg_ones _) (by rw [List.length_map]; have := HT.out; have := HNA.out; have := HNB.out; unfold maxLen; omega) (by rw [List.length_map]; have := HT.out; have := HNA.out; have := HNB.out; omega) HZ.out ?_; intro v' W' O' G' N'; rw [← List.map_append, ← HJ.out] at O'; obtain ⟨A4, c4, h4⟩ := O'.len; rw [List.length_map] at h4; subst h4)
  go_ret
  exact ⟨A4, c4, rfl, O', O4.out.below_grown G' BB.out (Nat.le_refl _) HZ.out⟩
end Go.Proofs.YtlggdgpdfepppaaGreatDoor
namespace Go.Proofs.YtlggdgpdfepppaaGreatDoor
open Go.RowKit Go.Maps
set_option linter.unusedVariables false
set_option linter.unusedSimpArgs false
def heldR (v : Value) : Option (DataW Value × List MemPlace) := some (.held v, [])
structure MapF (W : World) (b n : Nat) (f : Int → Value) : Prop where
  ex : ∃ D, W.ownsMap Tryz.prog 223 heldR b n D ∧ IsMap D ∧ ∀ k, (Lit.int .u8 k).wf = true → D.atKey (.int .u8 k) (.held (.slice none 0 0)) = .held (f k)
theorem MapF.made (w : World) : MapF (w.alloc (.map #[] 0)) w.heap.size 0 (fun _ => .slice none 0 0) :=
  ⟨⟨.map [], World.ownsMap_made w _ _ _, ⟨[], rfl⟩, fun k _ => rfl⟩⟩
theorem MapF.below {W W' : World} {b n : Nat} {f : Int → Value} (h : MapF W b n f) (hb : Below W.heap.size W W') : MapF W' b n f := by
  obtain ⟨D, ho, hm, hk⟩ := h.ex
  have hlt := ho.lt
  obtain ⟨es, clock, h1, F, h2, h3⟩ := ho
  exact ⟨⟨D, ⟨es, clock, (hb.block b hlt).trans h1, F, h2, h3⟩, hm, hk⟩⟩
theorem keyedK : Keyed Tryz.prog 223 := int_keyed Tryz.underlying223
theorem MapF.look {W : World} {b n : Nat} {f : Int → Value} (h : MapF W b n f) {k : Int} (hk : (Lit.int .u8 k).wf = true) (z : (zeroValue 179).run Tryz.prog W = .ok (.slice none 0 0) W) :
    (Instr.lookup 244 (.map (some b)) (.int .u8 k) false).run Tryz.prog W = .ok (f k) W := by
  obtain ⟨D, ho, _, hat⟩ := h.ex
  obtain ⟨v, ps, hrun, hv⟩ := ho.lookup keyedK Tryz.underlying244 z (zd := .held (.slice none 0 0)) (zp := []) rfl (keyOf_int_mk Tryz.underlying223 hk)
  rw [hat k hk] at hv
  simp only [heldR, Option.some.injEq, Prod.mk.injEq, DataW.held.injEq] at hv
  rw [hrun, hv.1]
theorem zero_legs (W : World) : (zeroValue 179).run Tryz.prog W = .ok (.slice none 0 0) W := by
  have hq : (Tryz.prog.info? 179).map (·.zero) = some (some (.slice none 0 0)) := by kernel_rfl
  cases hi : Tryz.prog.info? 179 with
  | none => rw [hi] at hq; cases hq
  | some i =>
    rw [hi] at hq
    have hz : i.zero = some (.slice none 0 0) := by simpa using hq
    simp [zeroValue, typeInfo, hi, hz]
theorem wpList_updF {ops : Array Oper} {rest : List Oper} {o : Oper} {a : Act} {W : World} {Q : Exit → Act → World → Prop} (hg : o.guard = none) (m x v : Operand) (hop : o.op = Op.mapUpdate 244 m x v)
    {b n : Nat} {f : Int → Value} (h : MapF W b n f) (hm : a.eval m = .map (some b)) (hn : n < maxLen) {k : Int} {u : Value} (hx : a.eval x = .int .u8 k) (hv : a.eval v = u) (hk : (Lit.int .u8 k).wf = true)
    (hK : ∀ W', MapF W' b (n + 1) (fun j => if j = k then u else f j) → W.grownBy W' (some b) → wpList Tryz.prog ops Q rest (a.put o.dst undef) W') : wpList Tryz.prog ops Q (o :: rest) a W := by
  obtain ⟨D, ho, hmap, hat⟩ := h.ex
  refine wpList_mapUpdate_own (H := Value) W hg m x v _ hop _ _ keyedK Tryz.underlying244 heldR b n D hm ho hn _ _ (.int .u8 k) hx hv (keyOf_int_mk Tryz.underlying223 hk) (.held u) [] rfl ?_
  intro W' h1 h2
  refine hK W' ⟨⟨_, h1, ?_, fun j hj => ?_⟩⟩ h2
  · exact hmap.put _ _
  · split
    · rename_i e
      subst e
      exact atKey_put_same hmap (by first | trivial | exact rfl) _ _
    · rename_i e
      rw [atKey_put_other (by intro h; injection h with _ h; exact e h)]
      exact hat j hj
end Go.Proofs.YtlggdgpdfepppaaGreatDoor
namespace Go.Proofs.YtlggdgpdfepppaaGreatDoor
open Go.RowKit Go.Sort
set_option linter.unusedVariables false
set_option linter.unusedSimpArgs false
set_option maxRecDepth 100000
def RetLgs (w : World) (l : List Leg) (e : Ending) (w' : World) : Prop := ∃ A c, e = .returned (.slice A l.length c) ∧ l.length ≤ c ∧ Items w' A 13 (l.map Leg.arr) ∧ Below w.heap.size w w'
theorem callLgs {P : Program} {f : FuncId} {args : Array Value} {W : World} {l : List Leg} {K : Ending → World → Prop} (h : Calls P f args W (RetLgs W l))
    (k : ∀ A c w', l.length ≤ c → Items w' A 13 (l.map Leg.arr) → Below W.heap.size W w' → K (.returned (.slice A l.length c)) w') : Calls P f args W K :=
  h.mono fun e w' ⟨A, c, he, h1, h2, h3⟩ => by subst he; exact k A c w' h1 h2 h3
theorem RetLgs.nil {w w' : World} {l : List Leg} (h : l = []) (B : Below w.heap.size w w') : RetLgs w l (.returned (.slice none 0 0)) w' := by
  subst h
  exact ⟨none, 0, rfl, Nat.le_refl _, ⟨fun h => absurd rfl h⟩, B⟩
theorem partV_kind (k : Int) (n : List UInt8) : ∀ (l : List PartV) (x : PartV), partV k n l = some x → x.kind = k ∧ x ∈ l
  | [], _, h => by cases h
  | y :: t, x, h => by
    unfold partV at h
    split at h
    · rename_i hy
      injection h with h
      subst h
      simp at hy
      exact ⟨hy.1, by simp⟩
    · have := partV_kind k n t x h
      exact ⟨this.1, List.mem_cons_of_mem _ this.2⟩
attribute [local go_sem] prtArr_ones prtArr_sz prtArr_fits prtArr_splice
set_option maxHeartbeats 4000000 in
theorem missed_any (p : ProcV) (cs : Array Value) (w : World) (hL : Laid w) (h : PrcAt w cs p) (hs : p.small) :
    Calls Tryz.prog 129 #[.agg cs] w (RetLgs w (missedG p)) := by
  obtain ⟨A, c, rfl, hlc, hA⟩ := h.ex
  have HPA := Lib.hid (fun (W : World) (B : Below w.heap.size w W) => h.below B)
  have HLB := Lib.hid (fun (W : World) (B : Below w.heap.size w W) => hL.below B)
  have HAB := Lib.hid (fun (W : World) (B : Below w.heap.size w W) => hA.below B)
  have HC := Lib.hid (show missedG p = if procCheck p ≠ 0 then [] else ((partV 4 [] p.parts).map PartV.legs).getD [] from rfl)
  have hn := hs.len
  have HSM := Lib.hid hs.each
  have HS := Lib.hid hs
  have HLC := Lib.hid hlc
  clear hL h hA hs hlc
  go_enter Tryz.func129, Tryz.ntmps129
  go_upto_region 1 with (fail)
  have X0 := Blk.new w (prcArr p A c) 186
  have B0 := alloc_below3 w (.cells (prcArr p A c) 186)
  generalize w.alloc _ = W at X0 B0 ⊢
  obtain ⟨g0, hg0⟩ : ∃ g, g = w.heap.size := ⟨_, rfl⟩
  rw [← hg0] at X0 ⊢
  clear hg0
  have i1 : Has_prc W g0 0 := ⟨_, X0.is_prc rfl⟩
  have i2 : of_prc W g0 0 = prcArr p A c := of_prc_eq (X0.is_prc rfl)
  have kc := Lib.hid (prccheck_any p (prcArr p A c) W (HLB.out W B0) (HPA.out W B0) HS.out)
  generalize missedG p = out at *
  by_cases hv : procCheck p = 0
  rotate_left
  · have HO := Lib.hid (HC.out.trans (if_pos hv))
    generalize procCheck p = v at *
    have hv' : (v != 0) = true := by simpa using hv
    clear hv HC
    go_wp2_with (go_at_call 155; (with_reducible refine callR kc.out ?_); intro w1 b1 _ _ _)
    go_ret
    exact RetLgs.nil HO.out (below_step B0 b1)
  have HC := Lib.hid (HC.out.trans (if_neg (not_not_intro hv)))
  rw [hv] at kc
  clear hv
  go_upto_region 3 with (go_at_call 155; (with_reducible refine callR kc.out ?_); intro w1 b1 _ _ _)
  have X1 := X0.step b1
  have B1 := below_step B0 b1
  clear kc X0 B0 b1 i1 i2
  have i1 : Has_prc w1 g0 0 := ⟨_, X1.is_prc rfl⟩
  have i2 : of_prc w1 g0 0 = prcArr p A c := of_prc_eq (X1.is_prc rfl)
  have kp := Lib.hid (show Calls Tryz.prog 156 #[.agg (prcArr p A c), .int .u8 4, .string ⟨#[]⟩] w1 (RetPrt w1 (partV 4 [] p.parts)) from part_any p A c HLC.out hn 4 [] w1 (HAB.out w1 B1) HSM.out)
  generalize partV 4 [] p.parts = r at *
  have HO := Lib.hid (show out = (r.getD noPart).legs by rw [HC.out]; cases r <;> rfl)
  clear HC
  go_upto_region 4 with (go_at_call 156; (with_reducible refine callPrt kp.out ?_); intro cs2 w2 h2 b2; obtain ⟨A3, c3', rfl, hl3, hI3⟩ := h2.ex)
  have B2 := below_step B1 b2
  have P3 := Blk.new w2 (prtArr (r.getD noPart) A3 c3') 225
  have D := alloc_below3 w2 (.cells (prtArr (r.getD noPart) A3 c3') 225)
  have B3 := below_step B2 D
  have hI4 := hI3.below D
  clear X1 B2 b2 i1 i2 kp D h2 hI3
  generalize w2.alloc _ = W3 at P3 B3 hI4 ⊢
  generalize w2.heap.size = g3 at P3 ⊢
  rw [← HO.out] at hl3 hI4
  have k2 : W3.cell? ⟨g3, 2, none⟩ = some (.slice A3 out.length c3') := by rw [HO.out]; exact P3.cell 2
  go_wp2
  go_ret
  exact ⟨A3, c3', rfl, hl3, hI4, B3⟩
def ChosenAt (W : World) (f : Int → Value) (K : Int → List Leg) : Prop := ∀ k, ∃ A c, f k = .slice A (K k).length c ∧ (K k).length ≤ c ∧ Items W A 13 ((K k).map Leg.arr)
theorem ChosenAt.below {W W' : World} {f : Int → Value} {K : Int → List Leg} (h : ChosenAt W f K) (hb : Below W.heap.size W W') : ChosenAt W' f K := fun k => by
  obtain ⟨A, c, h1, h2, h3⟩ := h k
  exact ⟨A, c, h1, h2, h3.below hb⟩
theorem ChosenAt.nil (W : World) (K : Int → List Leg) (h : ∀ k, K k = []) : ChosenAt W (fun _ => .slice none 0 0) K := fun k => ⟨none, 0, by rw [h k]; rfl, by rw [h k]; exact Nat.le_refl _, by rw [h k]; exact ⟨fun h => absurd rfl h⟩⟩
theorem ChosenAt.put {W : World} {f : Int → Value} {K K' : Int → List Leg} (h : ChosenAt W f K) (j : Int) (A : Option Addr) (l : List Leg) (c : Nat) (hc : l.length ≤ c) (hI : Items W A 13 (l.map Leg.arr)) (h1 : K' j = l) (h2 : ∀ k, k ≠ j → K' k = K k) :
    ChosenAt W (fun k => if k = j then .slice A l.length c else f k) K' := fun k => by
  by_cases hk : k = j
  · subst hk
    exact ⟨A, c, by rw [h1]; exact if_pos rfl, by rw [h1]; exact hc, by rw [h1]; exact hI⟩
  · obtain ⟨A', c', e1, e2, e3⟩ := h k
    exact ⟨A', c', by rw [h2 k hk]; exact (if_neg hk).trans e1, by rw [h2 k hk]; exact e2, by rw [h2 k hk]; exact e3⟩
end Go.Proofs.YtlggdgpdfepppaaGreatDoor
namespace Go.Proofs.YtlggdgpdfepppaaGreatDoor
open Go.RowKit Go.Sort
set_option linter.unusedVariables false
set_option linter.unusedSimpArgs false
set_option maxRecDepth 100000
def RetExp (w : World) (r : List Leg × Int) (e : Ending) (w' : World) : Prop := ∃ A c, e = .returned (.tuple #[.slice A r.1.length c, .int .i64 r.2]) ∧ r.1.length ≤ c ∧ Items w' A 13 (r.1.map Leg.arr) ∧ Below w.heap.size w w'
theorem callExp {P : Program} {f : FuncId} {args : Array Value} {W : World} {r : List Leg × Int} {K : Ending → World → Prop} (h : Calls P f args W (RetExp W r))
    (k : ∀ A c w', r.1.length ≤ c → Items w' A 13 (r.1.map Leg.arr) → Below W.heap.size W w' → K (.returned (.tuple #[.slice A r.1.length c, .int .i64 r.2])) w') : Calls P f args W K :=
  h.mono fun e w' ⟨A, c, he, h1, h2, h3⟩ => by subst he; exact k A c w' h1 h2 h3
theorem RetExp.err {w w' : World} {r : List Leg × Int} {n : Int} (h : r = ([], n)) (B : Below w.heap.size w w') : RetExp w r (.returned (.tuple #[.slice none 0 0, .int .i64 n])) w' := by
  subst h
  exact ⟨none, 0, rfl, Nat.le_refl _, ⟨fun h => absurd rfl h⟩, B⟩
theorem RetExp.ok {w w' : World} {r : List Leg × Int} {l : List Leg} {A : Option Addr} {c : Nat} (h : r = (l, 0)) (hc : l.length ≤ c) (hI : Items w' A 13 (l.map Leg.arr)) (B : Below w.heap.size w w') : RetExp w r (.returned (.tuple #[.slice A l.length c, .int .i64 0])) w' := by
  subst h
  exact ⟨A, c, rfl, hc, hI, B⟩
theorem exp_err (p : ProcV) (s t : List UInt8) (h : procCheck p ≠ 0) : procExpand p s t = ([], procCheck p) := by unfold procExpand; rw [if_pos h]
theorem exp_R (p : ProcV) (s t : List UInt8) (h : procCheck p = 0) (hr : chooseR p s = none) : procExpand p s t = ([], 6) := by unfold procExpand; rw [if_neg (not_not_intro h), hr]
theorem exp_T (p : ProcV) (s t : List UInt8) (h : procCheck p = 0) (r : List Leg) (hr : chooseR p s = some r) (ht : chooseT p t = none) : procExpand p s t = ([], 6) := by unfold procExpand; rw [if_neg (not_not_intro h), hr]; simp only [ht]
theorem exp_ok (p : ProcV) (s t : List UInt8) (h : procCheck p = 0) (r q : List Leg) (hr : chooseR p s = some r) (ht : chooseT p t = some q) :
    procExpand p s t = if (expandLegs p.kind (chosenK r q (chooseC p))).isEmpty then ([], 6) else (expandLegs p.kind (chosenK r q (chooseC p)), 0) := by unfold procExpand; rw [if_neg (not_not_intro h), hr]; simp only [ht]
theorem chooseR_len (p : ProcV) (hs : p.small) (s : List UInt8) {r : List Leg} (h : chooseR p s = some r) : r.length ≤ 4000000 := by
  unfold chooseR at h
  split at h
  · injection h with h; subst h; simp
  · cases hx : partV 1 s p.parts with
    | none => rw [hx] at h; cases h
    | some x => rw [hx] at h; injection h with h; subst h; exact (hs.each x (partV_kind _ _ _ _ hx).2).len
theorem chooseT_len (p : ProcV) (hs : p.small) (s : List UInt8) {r : List Leg} (h : chooseT p s = some r) : r.length ≤ 4000000 := by
  unfold chooseT at h
  split at h
  · injection h with h; subst h; simp
  · cases hx : partV 3 s p.parts with
    | none => rw [hx] at h; cases h
    | some x => rw [hx] at h; injection h with h; subst h; exact (hs.each x (partV_kind _ _ _ _ hx).2).len
theorem chooseC_len (p : ProcV) (hs : p.small) : (chooseC p).length ≤ 4000000 := by
  unfold chooseC
  cases hx : partV 2 [] p.parts with
  | none => simp
  | some x => exact (hs.each x (partV_kind _ _ _ _ hx).2).len
theorem chosenK_len (r t c : List Leg) (k : Int) (h1 : r.length ≤ 4000000) (h2 : t.length ≤ 4000000) (h3 : c.length ≤ 4000000) : (chosenK r t c k).length ≤ 4000000 := by
  unfold chosenK; split; · assumption
  split; · assumption
  split; · assumption
  simp
theorem chosenT_ne (r x : List Leg) (k : Int) (hk : k ≠ 3) : chosenK r x [] k = chosenK r [] [] k := by unfold chosenK; simp [hk]
theorem chosenC_ne (r q x : List Leg) (k : Int) (hk : k ≠ 2) : chosenK r q x k = chosenK r q [] k := by unfold chosenK; simp [hk]
theorem jointG_len (a b : List Leg) : (jointG a b).length ≤ a.length + b.length := by
  rw [jointG_eq, List.length_append]; have := tailJ_len a b; omega
theorem orderK_wf (pk : Int) : ∀ k ∈ orderK pk, (Lit.int .u8 k).wf = true := by
  intro k hk
  unfold orderK at hk
  split at hk
  · simp at hk; rcases hk with rfl | rfl | rfl <;> decide
  · split at hk
    · simp at hk; rcases hk with rfl | rfl | rfl <;> decide
    · split at hk
      · simp at hk; rcases hk with rfl | rfl | rfl <;> decide
      · simp at hk
def jointsK (K : Int → List Leg) (out : List Leg) (ks : List Int) : List Leg := ks.foldl (fun o k => jointG o (K k)) out
theorem jointsK_drop (K : Int → List Leg) (out : List Leg) (ks : List Int) {i : Nat} (h : i < ks.length) : jointsK K out (ks.drop i) = jointsK K (jointG out (K ks[i])) (ks.drop (i + 1)) := by
  rw [List.drop_eq_getElem_cons h]; rfl
theorem MapF.heap {W : World} {b n : Nat} {f : Int → Value} (h : MapF W b n f) : ∃ es clock, W.heap[b]? = some (.map es clock) := by
  obtain ⟨D, ⟨es, clock, h1, _⟩, _⟩ := h.ex
  exact ⟨es, clock, h1⟩
theorem MapF.mono {W : World} {b n m : Nat} {f : Int → Value} (h : MapF W b n f) (hm : n ≤ m) : MapF W b m f := by
  obtain ⟨D, ⟨es, clock, h1, F, h2, h3⟩, h4⟩ := h.ex
  exact ⟨D, ⟨es, clock, h1, F, Nat.le_trans h2 hm, h3⟩, h4⟩
theorem Blk.ne_map {W : World} {g b n : Nat} {f : Int → Value} {cs : Array Value} (h : Blk W g cs) (hm : MapF W b n f) : g ≠ b := by
  rintro rfl
  obtain ⟨t, h⟩ := h
  obtain ⟨es, clock, h2⟩ := hm.heap
  rw [h] at h2
  cases h2
theorem Blk.grownM {W W' : World} {g b n : Nat} {f : Int → Value} {cs : Array Value} (h : Blk W g cs) (hm : MapF W b n f) (G : W.grownBy W' (some b)) : Blk W' g cs := by
  have hne := h.ne_map hm
  have hlt := h.lt
  obtain ⟨t, h⟩ := h
  exact ⟨t, (G.block g hlt (by intro hh; injection hh with hh; exact hne hh)).trans h⟩
theorem Items.grown {W W' : World} {A : Option Addr} {l : List Leg} {b n : Nat} {f : Int → Value} (h : Items W A 13 (l.map Leg.arr)) (hm : MapF W b n f) (G : W.grownBy W' (some b)) : Items W' A 13 (l.map Leg.arr) := by
  refine h.keepN (fun hne a ha hlt => G.block _ hlt ?_) G.size
  intro hh
  injection hh with hh
  obtain ⟨b', o', rfl, hb, hc⟩ := h.leg (by simpa using hne)
  injection ha with ha
  subst ha
  have h0 : 0 < l.length := List.length_pos_iff.2 (by simpa using hne)
  have := hc W (Below.refl _ _) 0 h0 0 (by omega)
  obtain ⟨es, clock, h2⟩ := hm.heap
  rw [← hh] at h2
  simp [World.cell?, h2] at this
  cases hq : l[0] with
  | mk => rw [hq] at this; simp [Leg.arr] at this
theorem ChosenAt.grown {W W' : World} {f f0 : Int → Value} {K : Int → List Leg} {b n : Nat} (h : ChosenAt W f K) (hm : MapF W b n f0) (G : W.grownBy W' (some b)) : ChosenAt W' f K := fun k => by
  obtain ⟨A, c, h1, h2, h3⟩ := h k
  exact ⟨A, c, h1, h2, h3.grown hm G⟩
theorem wpList_updN {ops : Array Oper} {rest : List Oper} {o : Oper} {a : Act} {W : World} {Q : Exit → Act → World → Prop} (hg : o.guard = none) (m x v : Operand) (hop : o.op = Op.mapUpdate 244 m x v) (hd : o.dst = none)
    {b n : Nat} {f : Int → Value} (h : MapF W b n f) (hm : a.eval m = .map (some b)) (hn : n < maxLen) {k : Int} {u : Value} (hx : a.eval x = .int .u8 k) (hv : a.eval v = u) (hk : (Lit.int .u8 k).wf = true)
    (hK : ∀ W', MapF W' b (n + 1) (fun j => if j = k then u else f j) → W.grownBy W' (some b) → wpList Tryz.prog ops Q rest a W') : wpList Tryz.prog ops Q (o :: rest) a W :=
  wpList_updF hg m x v hop h hm hn hx hv hk (fun W' h1 h2 => by rw [hd]; exact hK W' h1 h2)
attribute [local go_sem] prtArr_ones prtArr_sz prtArr_fits prtArr_splice
set_option maxHeartbeats 8000000 in
theorem expand_any (p : ProcV) (cs : Array Value) (s t : List UInt8) (w : World) (hL : Laid w) (h : PrcAt w cs p) (hs : p.small) (hls : s.length ≤ 4000000000) (hlt : t.length ≤ 4000000000) :
    Calls Tryz.prog 151 #[.agg cs, .string ⟨s.toArray⟩, .string ⟨t.toArray⟩] w (RetExp w (procExpand p s t)) := by
  obtain ⟨A, c, rfl, hlc, hA⟩ := h.ex
  have HPA := Lib.hid (fun (W : World) (B : Below w.heap.size w W) => h.below B)
  have HLB := Lib.hid (fun (W : World) (B : Below w.heap.size w W) => hL.below B)
  have HAB := Lib.hid (fun (W : World) (B : Below w.heap.size w W) => hA.below B)
  have hn := hs.len
  have HSM := Lib.hid hs.each
  have HS := Lib.hid hs
  have HLC := Lib.hid hlc
  have HE0 := Lib.hid (exp_err p s t)
  have HER := Lib.hid (exp_R p s t)
  have HET := Lib.hid (exp_T p s t)
  have HEO := Lib.hid (exp_ok p s t)
  clear hL h hA hs hlc
  generalize procExpand p s t = out at *
  have hmm := @run_makeMap Tryz.prog
  go_enter Tryz.func151, Tryz.ntmps151
  go_upto_region 1 with (fail)
  have X0 := Blk.new w (prcArr p A c) 186
  have B0 := alloc_below3 w (.cells (prcArr p A c) 186)
  have hg0 : w.heap.size ≤ w.heap.size := Nat.le_refl _
  generalize w.alloc _ = W at X0 B0 ⊢
  obtain ⟨g0, hg0⟩ : ∃ g, g = w.heap.size := ⟨_, rfl⟩
  rw [← hg0] at X0 ⊢
  clear hg0
  have i1 : Has_prc W g0 0 := ⟨_, X0.is_prc rfl⟩
  have i2 : of_prc W g0 0 = prcArr p A c := of_prc_eq (X0.is_prc rfl)
  have kc := Lib.hid (prccheck_any p (prcArr p A c) W (HLB.out W B0) (HPA.out W B0) HS.out)
  by_cases hv : procCheck p = 0
  rotate_left
  · have HO := Lib.hid (HE0.out hv)
    generalize procCheck p = v at *
    have hv' : (v != 0) = true := by simpa using hv
    clear hv HE0 HER HET HEO
    go_wp2_with (go_at_call 155; (with_reducible refine callR kc.out ?_); intro w1 b1 _ _ _)
    go_ret2
    exact RetExp.err HO.out (below_step B0 b1)
  have HER := Lib.hid (HER.out hv)
  have HET := Lib.hid (HET.out hv)
  have HEO := Lib.hid (HEO.out hv)
  rw [hv] at kc
  clear hv HE0
  go_upto_region 5 with (go_at_call 155; (with_reducible refine callR kc.out ?_); intro w1 b1 _ _ _)
  have B1 := below_step B0 b1
  have M2 := MapF.made w1
  have X2 := (X0.step b1).alloc (.map #[] 0)
  have B2 := below_step B1 (alloc_below3 w1 (.map #[] 0))
  have HGM := Lib.hid B1.size
  clear kc X0 B0 b1 B1 i1 i2 hmm
  generalize w1.alloc _ = W2 at M2 X2 B2 ⊢
  generalize w1.heap.size = gm at M2 HGM ⊢
  have C2 := ChosenAt.nil W2 (chosenK [] [] []) (fun k => by unfold chosenK; split; · rfl
                                                             split; · rfl
                                                             split <;> rfl)
  have i1 : Has_prc W2 g0 0 := ⟨_, X2.is_prc rfl⟩
  have i2 : of_prc W2 g0 0 = prcArr p A c := of_prc_eq (X2.is_prc rfl)
  have kn := Lib.hid (names_any p A c HLC.out hn 1 W2 (HAB.out W2 B2))
  have HRR := Lib.hid (show chooseR p s = if (partNames 1 p.parts).isEmpty then some [] else (partV 1 s p.parts).map PartV.legs from rfl)
  generalize partNames 1 p.parts = nms at *
  go_upto_if 28 with (go_at_call 174; (with_reducible refine callNms kn.out ?_); intro A4 c4 w3 b3)
  have M3 := M2.below b3
  have X3 := X2.step b3
  have C3 := C2.below b3
  have B3 := below_step B2 b3
  clear kn M2 X2 C2 B2 b3 i1 i2
  go_cut [10, 11] from 28 to 41 (fun _ _ wx => ∃ r f, chooseR p s = some r ∧ MapF wx gm 1 f ∧ ChosenAt wx f (chosenK r [] []) ∧ Blk wx g0 (prcArr p A c) ∧ Below w.heap.size w wx)
  case first =>
    have HX3 := Lib.hid X3
    have HM3 := Lib.hid M3
    have HC3 := Lib.hid C3
    have HB3 := Lib.hid B3
    clear X3 M3 C3 B3
    by_cases hnm : nms = []
    · have e1 : ¬ (0 : Int) < (nms.length : Int) := by simp [hnm]
      have e2 : ¬ 0 < nms.length := by simp [hnm]
      have HR := Lib.hid (show chooseR p s = some [] by rw [HRR.out, hnm]; rfl)
      clear hnm
      go_wp2
      go_meet
      exact ⟨[], _, HR.out, HM3.out.mono (by omega), HC3.out, HX3.out, HB3.out⟩
    · have e2 : 0 < nms.length := List.length_pos_iff.2 hnm
      have e1 : (0 : Int) < (nms.length : Int) := by omega
      have HR := Lib.hid (show chooseR p s = (partV 1 s p.parts).map PartV.legs by rw [HRR.out, if_neg (by simpa using hnm)])
      clear hnm HRR
      have i1 : Has_prc w3 g0 0 := ⟨_, HX3.out.is_prc rfl⟩
      have i2 : of_prc w3 g0 0 = prcArr p A c := of_prc_eq (HX3.out.is_prc rfl)
      have kp := Lib.hid (part_any p A c HLC.out hn 1 s w3 (HAB.out w3 HB3.out) HSM.out)
      cases hx : partV 1 s p.parts with
      | none =>
        rw [hx] at kp HR
        have HO := Lib.hid (HER.out HR.out)
        clear hx HR
        go_wp2_with (go_at_call 156; (with_reducible refine callPrt kp.out ?_); intro cs2 w4 h4 b4; obtain ⟨A5, c5, rfl, hl5, hI5⟩ := h4.ex)
        go_ret2
        exact RetExp.err HO.out (below_step (below_step HB3.out b4) (alloc_below3 _ _))
      | some x =>
        rw [hx] at kp HR
        have hk := (partV_kind _ _ _ _ hx).1
        clear hx
        go_upto_region 9 with (go_at_call 156; (with_reducible refine callPrt kp.out ?_); intro cs2 w4 h4 b4; obtain ⟨A5, c5, rfl, hl5, hI5⟩ := h4.ex)
        have P5 := Blk.new w4 (prtArr x A5 c5) 225
        have D5 := alloc_below3 w4 (.cells (prtArr x A5 c5) 225)
        have b5 := b4.trans (D5.mono b4.size)
        have M5 := HM3.out.below b5
        have C5 := HC3.out.below b5
        have X5 := HX3.out.step b5
        have B5 := below_step HB3.out b5
        have hI6 := Lib.hid (show Items (w4.alloc (.cells (prtArr x A5 c5) 225)) A5 13 (x.legs.map Leg.arr) from Items.below hI5 D5)
        have hl6 : x.legs.length ≤ c5 := hl5
        clear h4 hI5 hl5 b4 b5 D5 i1 i2 kp
        generalize w4.alloc _ = W5 at P5 M5 C5 X5 B5 hI6 ⊢
        generalize w4.heap.size = g5 at P5 ⊢
        have u0 : W5.cell? ⟨g5, 0, none⟩ = some (.int .u8 1) := by rw [← hk]; exact P5.cell 0
        have u2 : W5.cell? ⟨g5, 2, none⟩ = some (.slice A5 x.legs.length c5) := P5.cell 2
        clear hk P5
        go_wp2_with (at_mapUpdate; refine wpList_updF rfl (.tmp 37) (.tmp 39) (.tmp 41) rfl M5 rfl (by unfold maxLen; omega) (k := 1) (u := .slice A5 x.legs.length c5) rfl rfl (by decide) ?_; intro W7 M7 G7)
        have X7 := X5.grownM M5 G7
        have C7 := (C5.grown M5 G7).put (K' := chosenK x.legs [] []) 1 A5 x.legs c5 hl6 (hI6.out.grown M5 G7) rfl (fun k hk => by unfold chosenK; rw [if_neg hk, if_neg hk])
        have B7 := B5.grown G7 B5.size (fun g hg => by injection hg with hg; subst hg; exact HGM.out)
        go_meet
        exact ⟨x.legs, _, HR.out, M7, C7, X7, B7⟩
  case rest =>
  obtain ⟨r, f1, HR, M3, C3, X3, B3⟩ := hcut
  have HRH := Lib.hid HR
  have hrl := chooseR_len p HS.out s HR
  clear HR HRR HER
  obtain ⟨et, het⟩ : ∃ b, t.isEmpty = b := ⟨_, rfl⟩
  have het2 : (t == []) = et := by rw [← het]; cases t <;> rfl
  have HTT := Lib.hid (show chooseT p t = if et then some [] else (partV 3 t p.parts).map PartV.legs by rw [← het]; rfl)
  clear het
  go_upto_if 43 with (fail)
  go_cut [12, 13] from 43 to 56 (fun _ _ wx => ∃ q f, chooseT p t = some q ∧ MapF wx gm 2 f ∧ ChosenAt wx f (chosenK r q []) ∧ Blk wx g0 (prcArr p A c) ∧ Below w.heap.size w wx)
  case first =>
    have HX3 := Lib.hid X3
    have HM3 := Lib.hid M3
    have HC3 := Lib.hid C3
    have HB3 := Lib.hid B3
    clear X3 M3 C3 B3
    cases et with
    | true =>
      have HR := Lib.hid (show chooseT p t = some [] by rw [HTT.out]; rfl)
      go_wp2
      go_meet
      exact ⟨[], _, HR.out, HM3.out.mono (by omega), HC3.out, HX3.out, HB3.out⟩
    | false =>
      have HR := Lib.hid (show chooseT p t = (partV 3 t p.parts).map PartV.legs by rw [HTT.out]; rfl)
      clear HTT
      have i1 : Has_prc wc g0 0 := ⟨_, HX3.out.is_prc rfl⟩
      have i2 : of_prc wc g0 0 = prcArr p A c := of_prc_eq (HX3.out.is_prc rfl)
      have kp := Lib.hid (part_any p A c HLC.out hn 3 t wc (HAB.out wc HB3.out) HSM.out)
      cases hx : partV 3 t p.parts with
      | none =>
        rw [hx] at kp HR
        have HO := Lib.hid (HET.out r HRH.out HR.out)
        clear hx HR
        go_wp2_with (go_at_call 156; (with_reducible refine callPrt kp.out ?_); intro cs2 w4 h4 b4; obtain ⟨A5, c5, rfl, hl5, hI5⟩ := h4.ex)
        go_ret2
        exact RetExp.err HO.out (below_step (below_step HB3.out b4) (alloc_below3 _ _))
      | some x =>
        rw [hx] at kp HR
        have hk := (partV_kind _ _ _ _ hx).1
        clear hx
        go_upto_region 14 with (go_at_call 156; (with_reducible refine callPrt kp.out ?_); intro cs2 w4 h4 b4; obtain ⟨A5, c5, rfl, hl5, hI5⟩ := h4.ex)
        have P5 := Blk.new w4 (prtArr x A5 c5) 225
        have D5 := alloc_below3 w4 (.cells (prtArr x A5 c5) 225)
        have b5 := b4.trans (D5.mono b4.size)
        have M5 := HM3.out.below b5
        have C5 := HC3.out.below b5
        have X5 := HX3.out.step b5
        have B5 := below_step HB3.out b5
        have hI6 := Lib.hid (show Items (w4.alloc (.cells (prtArr x A5 c5) 225)) A5 13 (x.legs.map Leg.arr) from Items.below hI5 D5)
        have hl6 : x.legs.length ≤ c5 := hl5
        clear h4 hI5 hl5 b4 b5 D5 i1 i2 kp
        generalize w4.alloc _ = W5 at P5 M5 C5 X5 B5 hI6 ⊢
        generalize w4.heap.size = g5 at P5 ⊢
        have u0 : W5.cell? ⟨g5, 0, none⟩ = some (.int .u8 3) := by rw [← hk]; exact P5.cell 0
        have u2 : W5.cell? ⟨g5, 2, none⟩ = some (.slice A5 x.legs.length c5) := P5.cell 2
        clear hk P5
        go_wp2_with (at_mapUpdate; refine wpList_updF rfl (.tmp 52) (.tmp 54) (.tmp 56) rfl M5 rfl (by unfold maxLen; omega) (k := 3) (u := .slice A5 x.legs.length c5) rfl rfl (by decide) ?_; intro W7 M7 G7)
        have X7 := X5.grownM M5 G7
        have C7 := (C5.grown M5 G7).put (K' := chosenK r x.legs []) 3 A5 x.legs c5 hl6 (hI6.out.grown M5 G7) rfl (fun k hk => chosenT_ne r x.legs k hk)
        have B7 := B5.grown G7 B5.size (fun g hg => by injection hg with hg; subst hg; exact HGM.out)
        go_meet
        exact ⟨x.legs, _, HR.out, M7, C7, X7, B7⟩
  case rest =>
  obtain ⟨q, f2, HT, M3, C3, X3, B3⟩ := hcut
  have HTH := Lib.hid HT
  have hql := chooseT_len p HS.out t HT
  clear HT HTT HET het2
  have HCC := Lib.hid (show chooseC p = ((partV 2 [] p.parts).map PartV.legs).getD [] from rfl)
  have hcl := chooseC_len p HS.out
  have HEO := Lib.hid (HEO.out r q HRH.out HTH.out)
  generalize chooseC p = cc at *
  have i1 : Has_prc wc g0 0 := ⟨_, X3.is_prc rfl⟩
  have i2 : of_prc wc g0 0 = prcArr p A c := of_prc_eq (X3.is_prc rfl)
  have kp := Lib.hid (show Calls Tryz.prog 156 #[.agg (prcArr p A c), .int .u8 2, .string ⟨#[]⟩] wc (RetPrt wc (partV 2 [] p.parts)) from part_any p A c HLC.out hn 2 [] wc (HAB.out wc B3) HSM.out)
  have HPK := Lib.hid (fun x => partV_kind 2 [] p.parts x)
  obtain ⟨z, hz⟩ : ∃ z, partV 2 [] p.parts = z := ⟨_, rfl⟩
  rw [hz] at kp HCC HPK
  clear hz
  go_upto_if 62 with (go_at_call 156; (with_reducible refine callPrt kp.out ?_); intro cs2 w4 h4 b4; obtain ⟨A5, c5, rfl, hl5, hI5⟩ := h4.ex)
  have P5 := Blk.new w4 (prtArr (z.getD noPart) A5 c5) 225
  have D5 := alloc_below3 w4 (.cells (prtArr (z.getD noPart) A5 c5) 225)
  have b5 := b4.trans (D5.mono b4.size)
  have M5 := M3.below b5
  have C5 := C3.below b5
  have X5 := X3.step b5
  have B5 := below_step B3 b5
  have hI6 := Lib.hid (show Items (w4.alloc (.cells (prtArr (z.getD noPart) A5 c5) 225)) A5 13 ((z.getD noPart).legs.map Leg.arr) from Items.below hI5 D5)
  have hl6 : (z.getD noPart).legs.length ≤ c5 := hl5
  clear h4 hI5 hl5 b4 b5 D5 i1 i2 kp M3 C3 X3 B3
  generalize w4.alloc _ = W5 at P5 M5 C5 X5 B5 hI6 ⊢
  generalize w4.heap.size = g5 at P5 ⊢
  go_cut [15] from 62 to 67 (fun _ wx => ∃ f, MapF wx gm 3 f ∧ ChosenAt wx f (chosenK r q cc) ∧ Blk wx g0 (prcArr p A c) ∧ Below w.heap.size w wx)
  case first =>
    cases z with
    | none =>
      have hcc : cc = [] := HCC.out
      have HM := Lib.hid M5
      have HC := Lib.hid (show ChosenAt W5 f2 (chosenK r q cc) by rw [hcc]; exact C5)
      clear hcc M5 C5
      go_wp2
      go_meet
      exact ⟨_, HM.out.mono (by omega), HC.out, X5, B5⟩
    | some x =>
      have hcc : cc = x.legs := HCC.out
      have HCX := Lib.hid hcc
      have hk := (HPK.out x rfl).1
      have u0 : W5.cell? ⟨g5, 0, none⟩ = some (.int .u8 2) := by rw [← hk]; exact P5.cell 0
      have u2 : W5.cell? ⟨g5, 2, none⟩ = some (.slice A5 x.legs.length c5) := P5.cell 2
      have hl7 : x.legs.length ≤ c5 := hl6
      have hI7 := Lib.hid (show Items W5 A5 13 (x.legs.map Leg.arr) from hI6.out)
      clear hk P5 hcc hl6 hI6
      go_wp2_with (at_mapUpdate; refine wpList_updN rfl (.tmp 63) (.tmp 65) (.tmp 67) rfl rfl M5 rfl (by unfold maxLen; omega) (k := 2) (u := .slice A5 x.legs.length c5) rfl rfl (by decide) ?_; intro W7 M7 G7)
      have X7 := X5.grownM M5 G7
      have C7 := (C5.grown M5 G7).put (K' := chosenK r q x.legs) 2 A5 x.legs c5 hl7 (hI7.out.grown M5 G7) rfl (fun k hk => chosenC_ne r q x.legs k hk)
      have B7 := B5.grown G7 B5.size (fun g hg => by injection hg with hg; subst hg; exact HGM.out)
      go_meet
      exact ⟨_, M7, by rw [HCX.out]; exact C7, X7, B7⟩
  case rest =>
  clear M5 C5 X5 B5 hI6 hl6 P5 HPK HCC
  obtain ⟨f3, M3, C3, X3, B3⟩ := hcut
  have k2 : wc.cell? ⟨g0, 2, none⟩ = some (.int .u8 p.kind) := X3.cell 2
  have ko := Lib.hid (order_any p.kind wc)
  have HWF := Lib.hid (orderK_wf p.kind)
  have HL3 := orderK_len p.kind
  have HEL := Lib.hid (show expandLegs p.kind (chosenK r q cc) = jointsK (chosenK r q cc) [] (orderK p.kind) from rfl)
  have HKL := Lib.hid (fun k => chosenK_len r q cc k hrl hql hcl)
  generalize chosenK r q cc = KK at *
  generalize orderK p.kind = ks at *
  go_upto_region 20 with (go_at_call 175; (with_reducible refine callOrd ko.out ?_); intro Ak ck w6 K6 hak b6)
  have M6 := M3.below b6
  have C6 := C3.below b6
  have B6 := Lib.hid (below_step B3 b6)
  have MH := Lib.hid (fun W (B : Below w6.heap.size w6 W) => M6.below B)
  have CH := Lib.hid (fun W (B : Below w6.heap.size w6 W) => C6.below B)
  have KH := Lib.hid (fun W (B : Below w6.heap.size w6 W) => K6.below B)
  clear ko k2 M3 C3 X3 B3 b6 M6 C6 K6 hak
  go_loopw [16, 72] (fun v iv wr => ∃ (k : Nat) (o : List Leg) (Ao : Option Addr) (co : Nat), k ≤ ks.length ∧ iv = .int .i64 k ∧ v = .slice Ao o.length co ∧ o.length ≤ co ∧ o.length ≤ k * 4000000 ∧ Items wr Ao 13 (o.map Leg.arr) ∧ jointsK KK [] ks = jointsK KK o (ks.drop k) ∧ Below w6.heap.size w6 wr) (fun _ iv _ => ks.length - (intOf iv).toNat)
  case atStart => exact ⟨0, [], none, 0, by omega, rfl, rfl, by simp, by simp, ⟨fun h => absurd rfl h⟩, rfl, Below.refl _ _⟩
  case round =>
    obtain ⟨k, o, Ao, co, hk, rfl, rfl, hoc, hol, hIo, hf, BW⟩ := hrel
    have HF := Lib.hid hf
    clear hf
    by_cases hlt2 : k < ks.length
    · have hlt' : (k : Int) < (ks.length : Int) := by omega
      obtain ⟨b, rfl, hb, hc⟩ := (KH.out wr BW).at_ (by rintro rfl; simp at hlt2)
      have y1 : wr.cell? ⟨b, k, none⟩ = some (.int .u8 ks[k]) := hc k _ (List.getElem?_eq_getElem hlt2)
      have hwf := HWF.out _ (List.getElem_mem hlt2)
      have HD := Lib.hid (HF.out.trans (jointsK_drop KK o ks hlt2))
      clear hc HF
      generalize ks[k] = kd at *
      obtain ⟨A2, c2, e1, e2, e3⟩ := CH.out wr BW kd
      have hlook := (MH.out wr BW).look hwf (zero_legs wr)
      rw [e1] at hlook
      have hkk := HKL.out kd
      have kj := Lib.hid (joint_any o (KK kd) Ao A2 co c2 wr hIo e3 hoc e2 (by omega) (by omega))
      have HJL := Lib.hid (jointG_len o (KK kd))
      generalize jointG o (KK kd) = o2 at *
      clear e1 e2 e3 hwf hIo
      go_wp2_with (go_at_call 176; (with_reducible refine callCl kj.out ?_); intro A7 c7 w7 O7 b7)
      obtain ⟨A8, c8, e4, hl8, hI8, _, _⟩ := O7.form (leg_sizes _)
      injection e4 with e4 _ e5
      subst e4 e5
      rw [List.length_map] at hl8
      go_roundw
      case rel => exact ⟨k + 1, o2, A7, c7, by omega, by go_num, rfl, hl8, by have := HJL.out; omega, hI8, HD.out, below_step BW b7⟩
      case measure => simp [intOf]; omega
    · have hlt' : ¬ (k : Int) < (ks.length : Int) := by omega
      have he : expandLegs p.kind KK = o := by rw [HEL.out, HF.out, List.drop_eq_nil_of_le (by omega)]; rfl
      have HO := Lib.hid (show out = if o.isEmpty then ([], 6) else (o, 0) by rw [HEO.out, he])
      have BB := below_step B6.out BW
      clear HF he
      by_cases ho : o = []
      · have HO := Lib.hid (HO.out.trans (if_pos (by rw [ho]; rfl)))
        have e0 : ((o.length : Int) == 0) = true := by rw [ho]; rfl
        clear ho
        go_wp2
        go_ret2
        exact RetExp.err HO.out BB
      · have HO := Lib.hid (HO.out.trans (if_neg (by simpa using ho)))
        have e0 : ((o.length : Int) == 0) = false := by rw [beq_eq_false_iff_ne]; have := List.length_pos_iff.2 ho; omega
        clear ho
        go_wp2
        go_ret2
        exact RetExp.ok HO.out hoc hIo BB
end Go.Proofs.YtlggdgpdfepppaaGreatDoor
