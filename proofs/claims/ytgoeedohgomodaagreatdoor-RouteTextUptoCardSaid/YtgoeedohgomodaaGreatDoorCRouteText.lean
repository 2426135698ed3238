/- PROVED: Text writes a route as the reference does, what it writes reads back, and what was read is written as it was, and each argument reads behind the call as before: the card of the second form (what is read is of bulk at most 1048576). Its conditions: none of mine. -/
import Derived.Test.YtgoeedohgomodaaGreatDoorPk02
import Derived.Test.YtgoeedohgomodaaGreatDoorPk01
import Derived.Test.YtgoeedohgomodaaGreatDoorPk09
import Derived.Test.YtgoeedohgomodaaGreatDoorPk14
import Derived.Test.YtgoeedohgomodaaGreatDoorPk11
import Derived.Test.YtgoeedohgomodaaGreatDoorPk17
import Derived.Test.YtgoeedohgomodaaGreatDoorPk16
import Derived.Test.YtgoeedohgomodaaGreatDoorPk08
import Derived.Laws.StructEq
import Derived.Test.YtgoeedohgomodaaGreatDoorPk32
import Derived.Test.YtgoeedohgomodaaGreatDoorPk31
import Derived.Test.YtgoeedohgomodaaGreatDoorPk25
import Derived.Test.YtgoeedohgomodaaGreatDoorPk28
import Derived.Test.YtgoeedohgomodaaGreatDoorPk27
import Derived.Test.YtgoeedohgomodaaGreatDoorPk12
import Derived.Laws.Bits64
import Derived.Laws.Bits64b
import Derived.Sort.WalkA
import Derived.Laws.BitsAllLaws
import Derived.OwnWalk
import Derived.Lib.ConvBytes
import Derived.Test.YtgoeedohgomodaaGreatDoorPk03
import Derived.Laws.OwnMore
import Derived.Lib.AppendStr
import Derived.Test.YtgoeedohgomodaaGreatDoorPk46
import Derived.Test.YtgoeedohgomodaaGreatDoorPk49
import Derived.Test.YtgoeedohgomodaaGreatDoorPk18
import Derived.Test.YtgoeedohgomodaaGreatDoorCards
import Derived.Test.YtgoeedohgomodaaGreatDoorTie
import Derived.Deep.DeepWitnessRowRef
import Derived.Lay
import Derived.WalkKit
import Derived.ProofKit
namespace Go.Proofs.YtgoeedohgomodaaGreatDoor
open Go.RowKit
set_option linter.unusedVariables false
set_option linter.unusedSimpArgs false
set_option maxHeartbeats 400000 in
theorem region_any (l : List UInt8) (w : World) (hl : l.length ≤ 4611686018427387904) : Calls Tryz.prog 109 #[.string ⟨l.toArray⟩] w (RetP w (.bool (shortB l))) := by
  by_cases h2 : l.length = 2
  · have hs := Lib.hid (show shortB l = l.all alnum by simp [shortB, h2])
    have h1 : ((l.length : Int) != 2) = false := by simp; omega
    have h3 := Lib.hid h2
    have hlo : 2 ≤ l.length := by omega
    have hhi : l.length ≤ 2 := by omega
    clear h2
    go_enter Tryz.func109, Tryz.ntmps109
    go_wp2
    go_loop [3] (fun i => ∃ k : Nat, k ≤ l.length ∧ i = .int .i64 k ∧ shortB l = (l.drop k).all alnum) (fun i => l.length - (intOf i).toNat)
    case atStart => exact ⟨0, by omega, rfl, by rw [hs.out]; rfl⟩
    case round =>
      obtain ⟨k, hk, rfl, hq⟩ := hrel
      have HQ := Lib.hid hq; clear hq
      by_cases hlt : k < l.length
      · have hd := Lib.hid (all_drop alnum l k hlt)
        go_wp2
        all_goals first
          | (go_ret; exact RetP.bool (by rw [HQ.out, hd.out]; grind [up, alnum]) rfl)
          | (go_round
             case rel => exact ⟨k + 1, by omega, by go_num, by rw [HQ.out, hd.out]; grind [up, alnum]⟩
             case measure => simp [intOf]; omega)
      · go_wp2
        go_ret
        exact RetP.bool (by rw [HQ.out, List.drop_of_length_le (by omega)]; rfl) rfl
  · have h1 : ((l.length : Int) != 2) = true := by simp; omega
    go_enter Tryz.func109, Tryz.ntmps109
    go_wp2
    go_ret
    exact RetP.bool (by grind [shortB]) rfl

end Go.Proofs.YtgoeedohgomodaaGreatDoor
namespace Go.Proofs.YtgoeedohgomodaaGreatDoor
open Go.RowKit
set_option linter.unusedVariables false
set_option linter.unusedSimpArgs false
set_option maxHeartbeats 400000 in
theorem rsplitRef_any (l : List UInt8) (w : World) (hl : l.length ≤ 4000000000) : Calls Tryz.prog 66 #[.string ⟨l.toArray⟩] w (RetQ w (refVal (splitRef l))) := by
  go_enter Tryz.func66, Tryz.ntmps66
  go_wp2
  go_loop [5] (fun i => ∃ k : Nat, k ≤ l.length ∧ i = .int .i64 k ∧ (l.take k).all (· != 47) = true) (fun i => l.length - (intOf i).toNat)
  case atStart => exact ⟨0, by omega, rfl, by simp⟩
  case round =>
    obtain ⟨k, hk, rfl, hq⟩ := hrel
    have HQ := Lib.hid hq; clear hq
    by_cases hlt : k < l.length
    · by_cases hc : l[k] = 47
      · have hs := Lib.hid (show splitRef l = splitRef3 (l.take k, l.drop (k+1), true) by rw [splitRef, cutAt_at 47 l k hlt HQ.out hc])
        have h1 : ((l[k].toNat : Int) == 47) = true := u8_eq (d := 47) hc
        have e1 := IntWalk.i64_in ((k : Int) + 1) (by omega)
        have e2 : (0 : Int) ≤ (k : Int) + 1 := by omega
        have e3 : ((k : Int) + 1).toNat = k + 1 := by omega
        clear hc
        go_wp2
        go_quiet (fail)
        have L1 : (l.take k).length ≤ 4000000000 := by rw [List.length_take]; omega
        have L2 : (l.drop (k+1)).length ≤ 4000000000 := by rw [List.length_drop]; omega
        go_wp2_with (first
          | (go_at_call 65; refine callP (rname_any _ _ _ (by omega)) ?_)
          | (go_at_call 109; refine callP (region_any _ _ (by omega)) ?_))
        all_goals (go_ret3; exact RetQ.tuple3 (by rw [hs.out]; grind [splitRef3]) ⟨_, rfl⟩)
      · have h1 : ((l[k].toNat : Int) == 47) = false := u8_ne (d := 47) hc
        go_wp2
        go_round
        case rel => exact ⟨k + 1, by omega, by go_num, take_all_succ _ l k hlt HQ.out (by simp [hc])⟩
        case measure => simp [intOf]; omega
    · have hs := Lib.hid (show splitRef l = splitRef3 (l, [], false) by rw [splitRef, cutAt_none 47 l (by have := HQ.out; rwa [List.take_of_length_le (by omega)] at this)])
      go_wp2
      go_ret3
      exact RetQ.tuple3 (by rw [hs.out]; rfl) ⟨0, rfl⟩
end Go.Proofs.YtgoeedohgomodaaGreatDoor
namespace Go.Proofs.YtgoeedohgomodaaGreatDoor
open Go.RowKit
set_option linter.unusedVariables false
set_option linter.unusedSimpArgs false
theorem SOut.drewN {w0 W : World} {v : Value} {ss : List (List UInt8)} (h : SOut w0 W v ss) (n : Nat) : SOut w0 (W.drewN n) v ss := h.below (below_drewN (Below.refl _ _) n)
end Go.Proofs.YtgoeedohgomodaaGreatDoor
namespace Go.Proofs.YtgoeedohgomodaaGreatDoor
open Go.RowKit
set_option linter.unusedVariables false
set_option linter.unusedSimpArgs false
def joinT (l : List ItemV) : List UInt8 := Lib.join (l.map wordT) [32]
def routeText (l : List ItemV) : List UInt8 := if 124 < l.length then [] else if (routeParse (joinT l)).2 ≠ 0 ∨ (routeParse (joinT l)).1.1 ≠ l then [] else joinT l
theorem routeParse_join {s : List UInt8} (h : (routeParse s).2 = 0) : joinT (routeParse s).1.1 = s := by
  have key : (itemsGo (splitC 32 s) (splitC 32 s) 0 []).2 = 0 ∧ routeParse s = itemsGo (splitC 32 s) (splitC 32 s) 0 [] := by
    unfold routeParse at h ⊢
    split at h
    · simp at h
    rename_i h1
    rw [if_neg h1]
    split at h
    · rename_i h2; exact absurd h h2
    rename_i h2
    rw [if_neg h2]
    split at h
    · simp at h
    rename_i h3
    rw [if_neg h3]
    exact ⟨h, rfl⟩
  rw [key.2]
  unfold joinT
  rw [itemsGo_words _ _ _ _ key.1]
  exact join_splitC 32 s
theorem route_back {s : List UInt8} (h : (routeParse s).2 = 0) : routeText (routeParse s).1.1 = s := by
  unfold routeText
  have hj := routeParse_join h
  have hl := routeParse_len h
  rw [if_neg (by omega), hj, if_neg (by simp [h])]
theorem route_text {l : List ItemV} (h : routeText l ≠ []) : (routeParse (routeText l)).2 = 0 ∧ (routeParse (routeText l)).1.1 = l := by
  unfold routeText at h ⊢
  split at h
  · exact absurd rfl h
  rename_i h1
  rw [if_neg h1]
  split at h
  · exact absurd rfl h
  rename_i h2
  rw [if_neg h2]
  simp only [not_or, ne_eq, Classical.not_not] at h2
  exact h2
end Go.Proofs.YtgoeedohgomodaaGreatDoor
namespace Go.Proofs.YtgoeedohgomodaaGreatDoor
open Go.RowKit
set_option linter.unusedVariables false
set_option linter.unusedSimpArgs false
theorem ItemV.arr_sz (x : ItemV) : x.arr.size = 3 := by simp [ItemV.arr]
attribute [go_sem] ItemV.arr0 ItemV.arr1 ItemV.arr2
theorem Has_itm_drewN (w : World) (b o n : Nat) : Has_itm (w.drewN n) b o = Has_itm w b o := propext ⟨fun h => h, fun h => h⟩
attribute [go_sem ↓] load_itm_fold store_itm_fold
attribute [go_sem] run_load_itm run_store_itm Has_itm_drewN of_itm_drewN 
attribute [go_sem] SzIs_itm Fits_itm Ones_itm splice_itm run_storeB_itm run_storeN_itm
end Go.Proofs.YtgoeedohgomodaaGreatDoor
namespace Go.Proofs.YtgoeedohgomodaaGreatDoor
open Go.RowKit
set_option linter.unusedVariables false
set_option linter.unusedSimpArgs false
set_option maxRecDepth 100000
attribute [local go_sem] ba_append 
theorem ba_two (a b : UInt8) (l : List UInt8) : (ByteArray.mk #[a, b]) ++ (ByteArray.mk l.toArray) = ⟨(a :: b :: l).toArray⟩ := ba_append [a, b] l
attribute [local go_sem ↓] ba_two
set_option maxHeartbeats 4000000 in
theorem rword_any (x : ItemV) (hx : x.small) (w : World) : Calls Tryz.prog 56 #[.agg x.arr] w (Ret w (.string ⟨(wordT x).toArray⟩)) := by
  obtain ⟨k, s, t⟩ := x
  obtain ⟨hs, ht⟩ := hx
  dsimp only at hs ht
  have HW := Lib.hid (show wordT ⟨k, s, t⟩ = if k = 1 ∨ k = 8 then withB s 47 t else if k = 2 then 68 :: 61 :: withB s 46 t else if k = 6 then 65 :: 61 :: withB s 46 t else if k = 7 then 80 :: 61 :: withB s 46 t else if k = 5 then [68, 67, 84] else s from rfl)
  have KW := Lib.hid (fun (c : UInt8) (W : World) => rwith_any s t c hs ht W)
  have l46 := withB_lenR s 46 t
  have hb : ¬ 9223372036854775807 < 2 + (withB s 46 t).length := by omega
  generalize wordT ⟨k, s, t⟩ = v at *
  generalize hw46 : withB s 46 t = w46 at *
  have H46 := Lib.hid hw46
  clear l46 hw46
  go_enter Tryz.func56, Tryz.ntmps56
  go_upto_region 1 with (fail)
  have A0 := Blk.new w (ItemV.arr ⟨k, s, t⟩) 57
  have D0 := (Below.refl w.heap.size w).alloc (Nat.le_refl _) (.cells (ItemV.arr ⟨k, s, t⟩) 57)
  generalize w.alloc _ = W0 at A0 D0 ⊢
  obtain ⟨g, hg⟩ : ∃ g, g = w.heap.size := ⟨_, rfl⟩
  rw [← hg] at A0 ⊢
  clear hg
  have c0 : W0.cell? ⟨g, 0, none⟩ = some (.int .u8 k) := A0.cell 0
  have c1 : W0.cell? ⟨g, 1, none⟩ = some (.string ⟨s.toArray⟩) := A0.cell 1
  have c2 : W0.cell? ⟨g, 2, none⟩ = some (.string ⟨t.toArray⟩) := A0.cell 2
  clear A0
  by_cases h1 : k = 1
  · have HV := Lib.hid (show v = withB s 47 t by rw [HW.out, if_pos (.inl h1)])
    have K := Lib.hid (KW.out 47 W0)
    subst h1
    go_wp2_with (go_at_call 73; (with_reducible refine callP K.out ?_))
    go_ret
    exact Ret.str (by rw [HV.out]) D0
  have n1 : (k == 1) = false := by simpa using h1
  by_cases h8 : k = 8
  · have HV := Lib.hid (show v = withB s 47 t by rw [HW.out, if_pos (.inr h8)])
    have K := Lib.hid (KW.out 47 W0)
    subst h8
    go_wp2_with (go_at_call 73; (with_reducible refine callP K.out ?_))
    go_ret
    exact Ret.str (by rw [HV.out]) D0
  have n8 : (k == 8) = false := by simpa using h8
  have K := Lib.hid (show Calls Tryz.prog 73 #[.string ⟨s.toArray⟩, .string ⟨#[46]⟩, .string ⟨t.toArray⟩] W0 (RetP W0 (.string ⟨w46.toArray⟩)) from H46.out ▸ KW.out 46 W0)
  by_cases h2 : k = 2
  · have HV := Lib.hid (show v = 68 :: 61 :: w46 by rw [HW.out, if_neg (by omega), if_pos h2])
    subst h2
    go_wp2_with (go_at_call 73; (with_reducible refine callP K.out ?_))
    go_ret
    exact Ret.str (by rw [HV.out]) D0
  have n2 : (k == 2) = false := by simpa using h2
  by_cases h6 : k = 6
  · have HV := Lib.hid (show v = 65 :: 61 :: w46 by rw [HW.out, if_neg (by omega), if_neg h2, if_pos h6])
    subst h6
    go_wp2_with (go_at_call 73; (with_reducible refine callP K.out ?_))
    go_ret
    exact Ret.str (by rw [HV.out]) D0
  have n6 : (k == 6) = false := by simpa using h6
  by_cases h7 : k = 7
  · have HV := Lib.hid (show v = 80 :: 61 :: w46 by rw [HW.out, if_neg (by omega), if_neg h2, if_neg h6, if_pos h7])
    subst h7
    go_wp2_with (go_at_call 73; (with_reducible refine callP K.out ?_))
    go_ret
    exact Ret.str (by rw [HV.out]) D0
  have n7 : (k == 7) = false := by simpa using h7
  by_cases h5 : k = 5
  · have HV := Lib.hid (show v = [68, 67, 84] by rw [HW.out, if_neg (by omega), if_neg h2, if_neg h6, if_neg h7, if_pos h5])
    subst h5
    go_wp2
    go_ret
    exact Ret.str (by rw [HV.out]) D0
  have n5 : (k == 5) = false := by simpa using h5
  have HV := Lib.hid (show v = s by rw [HW.out, if_neg (by omega), if_neg h2, if_neg h6, if_neg h7, if_neg h5])
  clear h1 h2 h5 h6 h7 h8
  go_wp2
  go_ret
  exact Ret.str (by rw [HV.out]) D0
end Go.Proofs.YtgoeedohgomodaaGreatDoor
namespace Go.Proofs.YtgoeedohgomodaaGreatDoor
open Go.RowKit Go.Sort
set_option linter.unusedVariables false
set_option linter.unusedSimpArgs false
def eqIt : List ItemV → List ItemV → Bool
  | [], [] => true
  | x :: a, y :: b => x.eqB y && eqIt a b
  | _, _ => false
theorem eqIt_len : ∀ {a b : List ItemV}, ¬ a.length = b.length → eqIt a b = false
  | [], [], h => by simp at h
  | [], _ :: _, _ => rfl
  | _ :: _, [], _ => rfl
  | x :: a, y :: b, h => by simp [eqIt]; intro _; exact eqIt_len (by simpa using h)
theorem eqIt_iff : ∀ (a b : List ItemV), eqIt a b = true ↔ a = b
  | [], [] => by simp [eqIt]
  | [], _ :: _ => by simp [eqIt]
  | _ :: _, [] => by simp [eqIt]
  | x :: a, y :: b => by simp [eqIt, ItemV.eqB_iff, eqIt_iff a b]
set_option maxHeartbeats 2000000 in
set_option maxRecDepth 100000 in
theorem isequal_any (a b : List ItemV) (A B : Option Addr) (ca cb : Nat) (w : World) (hla : a.length ≤ 4000000000) (hlb : b.length ≤ 4000000000) (hca : a.length ≤ ca) (hcb : b.length ≤ cb) (ha : Items w A 3 (a.map ItemV.arr)) (hb : Items w B 3 (b.map ItemV.arr)) :
    Calls Tryz.prog 57 #[.slice A a.length ca, .slice B b.length cb] w (RetQ w (.bool (eqIt a b))) := by
  by_cases hl : a.length = b.length
  · have h1 : ((a.length : Int) != (b.length : Int)) = false := by simp [hl]
    have HL := Lib.hid hl; clear hl
    go_enter Tryz.func57, Tryz.ntmps57
    go_wp2
    go_loopw [13] (fun i wr => ∃ k : Nat, k ≤ a.length ∧ i = .int .i64 k ∧ eqIt a b = eqIt (a.drop k) (b.drop k) ∧ ∃ n, wr = w.drewN n) (fun i _ => a.length - (intOf i).toNat)
    case atStart => exact ⟨0, by omega, rfl, rfl, 0, rfl⟩
    case round =>
      obtain ⟨k, hk, rfl, hq, n, rfl⟩ := hrel
      have HQ := Lib.hid hq; clear hq
      by_cases hlt : k < a.length
      · have hlt2 : k < b.length := by have := HL.out; omega
        obtain ⟨b1, o1, hA, hb1, hq1⟩ := ha.itm hlt
        obtain ⟨b2, o2, hB, hb2, hq2⟩ := hb.itm hlt2
        subst hA hB
        have he1 := hq1 w (Below.refl _ _)
        have he2 := hq2 w (Below.refl _ _)
        have hda := Lib.hid (List.drop_eq_getElem_cons hlt)
        have hdb := Lib.hid (List.drop_eq_getElem_cons hlt2)
        generalize a[k] = x at he1 hda
        generalize b[k] = y at he2 hdb
        have i1 : Has_itm w b1 (o1 + k * 3) := ⟨x, he1⟩
        have i2 : Has_itm w b2 (o2 + k * 3) := ⟨y, he2⟩
        have j1 : of_itm w b1 (o1 + k * 3) = x := of_itm_eq he1
        have j2 : of_itm w b2 (o2 + k * 3) = y := of_itm_eq he2
        have hne := run_neq_itm x y
        clear he1 he2 hq1 hq2 ha hb
        go_wp2
        go_quiet (fail)
        go_wp2
        · go_ret
          exact RetQ.bool (by rw [HQ.out, hda.out, hdb.out]; go_light; simp_all [eqIt]) ⟨n + nq, World.drewN_drewN _ _ _⟩
        · go_roundw
          case rel => exact ⟨k + 1, by omega, by go_num, by rw [HQ.out, hda.out, hdb.out]; go_light; simp_all [eqIt], _, rfl⟩
          case measure => simp [intOf]; omega
      · go_wp2
        go_ret
        exact RetQ.bool (by rw [HQ.out, List.drop_of_length_le (by omega), List.drop_of_length_le (by have := HL.out; omega)]; rfl) ⟨_, rfl⟩
  · have h1 : ((a.length : Int) != (b.length : Int)) = true := by simp; omega
    have HL := Lib.hid hl; clear hl
    go_enter Tryz.func57, Tryz.ntmps57
    go_wp2
    go_ret
    exact RetQ.bool (eqIt_len HL.out).symm ⟨0, rfl⟩
end Go.Proofs.YtgoeedohgomodaaGreatDoor
namespace Go.Proofs.YtgoeedohgomodaaGreatDoor
open Go.RowKit Go.Sort
set_option linter.unusedVariables false
set_option linter.unusedSimpArgs false
set_option maxRecDepth 100000
theorem wordT_len {x : ItemV} (h : x.short) : (wordT x).length ≤ 20000000 := by
  obtain ⟨k, s, t⟩ := x
  obtain ⟨h1, h2⟩ := h
  simp only at h1 h2
  have a := withB_lenR s 47 t
  have b := withB_lenR s 46 t
  unfold wordT
  simp only
  repeat' split
  all_goals (first | omega | (simp only [List.length_cons, List.length_nil]; omega))
set_option maxHeartbeats 8000000 in
theorem rtext_any (l : List ItemV) (A : Option Addr) (c : Nat) (w : World) (hL : Laid w) (hI : Items w A 3 (l.map ItemV.arr)) (hc : l.length ≤ c) (hl : l.length ≤ 4000000000) (hs : ∀ x ∈ l, x.short) :
    Calls Tryz.prog 25 #[.slice A l.length c] w (Ret w (.string ⟨(routeText l).toArray⟩)) := by
  have HO := Lib.hid (show routeText l = if 124 < l.length then [] else if (routeParse (joinT l)).2 ≠ 0 ∨ (routeParse (joinT l)).1.1 ≠ l then [] else joinT l from rfl)
  generalize routeText l = OUT at *
  by_cases h124 : 124 < l.length
  · have HE := Lib.hid (HO.out.trans (if_pos h124))
    have h1 : (124 : Int) < (l.length : Int) := by omega
    clear HO h124
    go_enter Tryz.func25, Tryz.ntmps25
    go_wp2
    go_ret
    exact Ret.str (by rw [HE.out]) (Below.refl _ _)
  have HO := Lib.hid (HO.out.trans (if_neg h124))
  have h1 : ¬ (124 : Int) < (l.length : Int) := by omega
  have hlen : l.length ≤ 124 := by omega
  clear h124
  have HI := Lib.hid hI
  have HSH := Lib.hid hs
  clear hI hs
  go_enter Tryz.func25, Tryz.ntmps25
  go_wp2
  go_loopw [15, 3] (fun iv v wr => ∃ (k : Nat) (ss : List (List UInt8)), k ≤ l.length ∧ iv = .int .i64 k ∧ ss = (l.take k).map wordT ∧ SOut w wr v ss ∧ Below w.heap.size w wr) (fun iv _ _ => l.length - (intOf iv).toNat)
  case atStart => exact ⟨0, [], Nat.zero_le _, rfl, rfl, SOut.nil _ _, Below.refl _ _⟩
  case round =>
    obtain ⟨k, ss, hk, rfl, hss, O, BW⟩ := hrel
    have HSS := Lib.hid hss
    clear hss
    by_cases hlt : k < l.length
    · obtain ⟨b, off, hA, hb, hIs⟩ := HI.out.itm hlt
      have hIs := hIs wr BW
      have HT := Lib.hid (show (l.take (k + 1)).map wordT = (l.take k).map wordT ++ [wordT l[k]] by rw [List.take_succ_eq_append_getElem hlt, List.map_append]; rfl)
      have hsh := HSH.out _ (List.getElem_mem hlt)
      generalize l[k] = x at *
      have hx := hsh.small
      subst hA
      have i1 : Has_itm wr b (off + k * 3) := ⟨_, hIs⟩
      have i2 : of_itm wr b (off + k * 3) = x := of_itm_eq hIs
      have hlt' : (k : Int) < (l.length : Int) := by omega
      have hkc : k < c := by omega
      have hss124 : ss.length ≤ 124 := by rw [HSS.out, List.length_map, List.length_take]; omega
      go_upto_region 7 with (fail)
      have Z := Blk.new wr x.arr 57
      have D := alloc_belowR wr (.cells x.arr 57)
      have O2 := O.below D
      have B2 := below_step BW D
      clear i1 i2 hIs hb O D
      generalize wr.alloc _ = W2 at Z B2 O2 ⊢
      generalize wr.heap.size = g7 at Z ⊢
      have z1 : Has_itm W2 g7 0 := ⟨_, Z.is_itm⟩
      have z2 : of_itm W2 g7 0 = x := of_itm_eq Z.is_itm
      have K := Lib.hid (rword_any x hx)
      go_wp2_with (first
        | (go_at_call 56; refine callR (K.out _) ?_; intro w3 b3 _ _ _; have O4 := (O2.below b3).alloc (.cells #[sval (wordT x)] 9); have B4 := below_step (below_step B2 b3) (alloc_belowR w3 (.cells #[sval (wordT x)] 9)))
        | (at_builtin; refine wpList_append_sout rfl (.tmp 19) (.tmp 22) rfl O4 rfl (wordT x) w3.heap.size 1 rfl (cell_of_row _ _ 0 _ _ _ (heap_alloc_new w3 _)) (by omega) B4.size ?_; intro v5 W5 O5 hg5))
      go_roundw
      case rel => exact ⟨k + 1, ss ++ [wordT x], by omega, by go_num, by rw [HT.out, HSS.out], O5, below_sgrown B4 O4 hg5⟩
      case measure => simp [intOf]; omega
    · obtain rfl : k = l.length := by omega
      have HSS := Lib.hid (show ss = l.map wordT by rw [HSS.out, List.take_length])
      have hlt' : ¬ (l.length : Int) < (l.length : Int) := by omega
      obtain ⟨A3, c3, e3, hl3, hS3⟩ := O.form
      subst e3
      have hsl : ss.length = l.length := by rw [HSS.out, List.length_map]
      have hbig : ∀ s ∈ ss, s.length ≤ 20000000 := fun s hs => by
        rw [HSS.out] at hs
        obtain ⟨x, hx, rfl⟩ := List.mem_map.1 hs
        exact wordT_len (HSH.out x hx)
      have hjl := join_len_le ss [32] 20000000 hbig
      have hjb : (Lib.join ss [32]).length ≤ 4000000000 := by
        have h2 : (20000000 + [(32 : UInt8)].length) * ss.length ≤ 20000001 * 124 := Nat.mul_le_mul (by simp) (by omega)
        omega
      have KJ := Lib.hid (show Calls Tryz.prog 48 #[.slice A3 ss.length c3, .string ⟨#[32]⟩] wr (Ret wr (.string ⟨(joinT l).toArray⟩)) from by
        by_cases h0 : ss = []
        · have e : joinT l = [] := by unfold joinT; rw [← HSS.out, h0]; rfl
          rw [e, h0]
          exact (Tryz.strings_Join_none A3 c3 ⟨#[32]⟩ wr).mono fun e w' h => ⟨h.1, by rw [h.2]; exact Below.refl _ _⟩
        · have h := sjoin_any ss A3 c3 [32] wr h0 hS3 hl3 (by omega) 20000000 hbig (by simp)
          rw [show Lib.join ss [32] = joinT l by rw [HSS.out]; rfl] at h
          exact h)
      have hjb : (joinT l).length ≤ 4000000000 := by rw [HSS.out] at hjb; exact hjb
      have KP := Lib.hid (fun W hW => rparse_any (joinT l) hjb W hW)
      have HLW := Lib.hid (fun (W : World) (B : Below w.heap.size w W) => hL.below B)
      clear hjl hbig hS3 hL HSH O hjb hsl
      have h6 : (routeParse (joinT l)).2 = 0 → (routeParse (joinT l)).1.1.length ≤ 124 := routeParse_len
      have HY := Lib.hid (fun (h : (routeParse (joinT l)).2 ≠ 0) => HO.out.trans (if_pos (Or.inl h)))
      have HX := Lib.hid (fun (h : (routeParse (joinT l)).1.1 ≠ l) => HO.out.trans (if_pos (Or.inr h)))
      have HZ := Lib.hid (fun (h : ¬ ((routeParse (joinT l)).2 ≠ 0 ∨ (routeParse (joinT l)).1.1 ≠ l)) => HO.out.trans (if_neg h))
      clear HO
      generalize joinT l = s at *
      generalize routeParse s = r at *
      obtain ⟨⟨its, n1⟩, n2⟩ := r
      by_cases hn : n2 = 0
      · subst hn
        have h6 : its.length ≤ 4000000000 := Nat.le_trans (h6 rfl) (by omega)
        cases hq : eqIt l its with
        | true =>
          have HE := Lib.hid (show OUT = s from HZ.out (by rintro (h | h); exact h rfl; exact h ((eqIt_iff l its).1 hq).symm))
          have HQ5 := Lib.hid (fun A5 c5 w5 (h5 : its.length ≤ c5) (I5 : Items w5 A5 3 (its.map ItemV.arr)) (B5 : Below w.heap.size w w5) => show Calls Tryz.prog 57 #[.slice A l.length c, .slice A5 its.length c5] w5 (RetQ w5 (.bool true)) from hq ▸ isequal_any l its A A5 c c5 w5 hl h6 hc h5 (HI.out.below B5) I5)
          clear HX HY HZ hq
          go_wp2_with (first
            | (go_at_call 48; (with_reducible refine callR KJ.out ?_); intro w4 b4 _ _ _)
            | (go_at_call 11; (with_reducible refine callItms (KP.out _ (HLW.out _ (below_step BW b4))) ?_); intro A5 c5 w5 h5 I5 g5 b5)
            | (go_at_call 57; (with_reducible refine callQ (HQ5.out A5 c5 w5 h5 I5 (below_step (below_step BW b4) b5)) ?_); intro n7))
          go_ret
          exact Ret.str (by rw [HE.out]) (below_drewN (below_step (below_step BW b4) b5) _)
        | false =>
          have HE := Lib.hid (show OUT = [] from HX.out (fun h => by rw [(eqIt_iff l its).2 h.symm] at hq; cases hq))
          have HQ5 := Lib.hid (fun A5 c5 w5 (h5 : its.length ≤ c5) (I5 : Items w5 A5 3 (its.map ItemV.arr)) (B5 : Below w.heap.size w w5) => show Calls Tryz.prog 57 #[.slice A l.length c, .slice A5 its.length c5] w5 (RetQ w5 (.bool false)) from hq ▸ isequal_any l its A A5 c c5 w5 hl h6 hc h5 (HI.out.below B5) I5)
          clear HX HY HZ hq
          go_wp2_with (first
            | (go_at_call 48; (with_reducible refine callR KJ.out ?_); intro w4 b4 _ _ _)
            | (go_at_call 11; (with_reducible refine callItms (KP.out _ (HLW.out _ (below_step BW b4))) ?_); intro A5 c5 w5 h5 I5 g5 b5)
            | (go_at_call 57; (with_reducible refine callQ (HQ5.out A5 c5 w5 h5 I5 (below_step (below_step BW b4) b5)) ?_); intro n7))
          go_ret
          exact Ret.str (by rw [HE.out]) (below_drewN (below_step (below_step BW b4) b5) _)
      · have HE := Lib.hid (HY.out hn)
        have hn' : (n2 != 0) = true := by simpa using hn
        clear HX HY HZ hn h6
        go_wp2_with (first
          | (go_at_call 48; (with_reducible refine callR KJ.out ?_); intro w4 b4 _ _ _)
          | (go_at_call 11; (with_reducible refine callItms (KP.out _ (HLW.out _ (below_step BW b4))) ?_); intro A5 c5 w5 h5 I5 g5 b5))
        go_ret
        exact Ret.str (by rw [HE.out]) (below_step (below_step BW b4) b5)
end Go.Proofs.YtgoeedohgomodaaGreatDoor
namespace Go.Proofs.YtgoeedohgomodaaGreatDoor
open Go.RowKit Go.Sort
set_option linter.unusedVariables false
set_option linter.unusedSimpArgs false
set_option maxRecDepth 100000
attribute [local go_sem ↓] bfix_fold
attribute [local go_sem] run_bfix0
end Go.Proofs.YtgoeedohgomodaaGreatDoor
namespace Go.Proofs.YtgoeedohgomodaaGreatDoor
open Go.RowKit Go.Sort
set_option linter.unusedVariables false
set_option linter.unusedSimpArgs false
set_option maxRecDepth 100000
attribute [local go_sem ↓] bpt_fold
attribute [local go_sem] run_bpt0 run_bpt2
end Go.Proofs.YtgoeedohgomodaaGreatDoor
namespace Go.Proofs.YtgoeedohgomodaaGreatDoor
open Go.RowKit Go.Sort
set_option linter.unusedVariables false
set_option linter.unusedSimpArgs false
set_option maxRecDepth 100000
attribute [local go_sem ↓] bfix_fold bpt_fold
attribute [local go_sem] run_bfix0 run_bpt0 run_bpt2
end Go.Proofs.YtgoeedohgomodaaGreatDoor
namespace Go.Proofs.YtgoeedohgomodaaGreatDoor
open Go.RowKit Go.Sort
set_option linter.unusedVariables false
set_option linter.unusedSimpArgs false
set_option maxRecDepth 100000
theorem rcut_any (l : List UInt8) (c : UInt8) (w : World) (hl : l.length ≤ 4000000000) :
    Calls Tryz.prog 64 #[.string ⟨l.toArray⟩, .int .u8 c.toNat] w (RetQ w (.tuple #[.string ⟨(cutAt c l).1.toArray⟩, .string ⟨(cutAt c l).2.1.toArray⟩, .bool (cutAt c l).2.2])) := by
  generalize hq : cutAt c l = q
  have HQ0 := Lib.hid hq; clear hq
  go_enter Tryz.func64, Tryz.ntmps64
  go_wp2
  go_loop [7] (fun i => ∃ k : Nat, k ≤ l.length ∧ i = .int .i64 k ∧ (l.take k).all (· != c) = true) (fun i => l.length - (intOf i).toNat)
  case atStart => exact ⟨0, by omega, rfl, by simp⟩
  case round =>
    obtain ⟨k, hk, rfl, hq⟩ := hrel
    have HQ := Lib.hid hq; clear hq
    by_cases hlt : k < l.length
    · by_cases hc : l[k] = c
      · have hs := Lib.hid (show q = (l.take k, l.drop (k+1), true) by rw [← HQ0.out, cutAt_at c l k hlt HQ.out hc])
        have h1 : ((l[k].toNat : Int) == (c.toNat : Int)) = true := u8_eq hc
        clear hc
        have q1 : IntKind.i64.wrap ((k : Int) + 1) = (k : Int) + 1 := IntWalk.i64_in _ (by omega)
        have q2 : (0 : Int) ≤ (k : Int) + 1 := by omega
        have q3 : ((k : Int) + 1).toNat = k + 1 := by omega
        have q4 : (k : Int) + 1 ≤ l.length := by omega
        have q5 : (k : Int) ≤ l.length := by omega
        go_upto_region 5 with (fail)
        go_region
        go_wp2
        go_ret3
        exact ⟨by rw [hs.out]; simp; done, 1, rfl⟩
      · have h1 : ((l[k].toNat : Int) == (c.toNat : Int)) = false := u8_ne hc
        go_wp2
        go_round
        case rel => exact ⟨k + 1, by omega, by go_num, take_all_succ _ l k hlt HQ.out (by simp [hc])⟩
        case measure => simp [intOf]; omega
    · have hs := Lib.hid (show q = (l, [], false) by rw [← HQ0.out, cutAt_none c l (by have := HQ.out; rwa [List.take_of_length_le (by omega)] at this)])
      go_wp2
      go_ret3
      exact ⟨by rw [hs.out]; rfl, 0, rfl⟩
end Go.Proofs.YtgoeedohgomodaaGreatDoor
namespace Go.Proofs.YtgoeedohgomodaaGreatDoor
open Go.RowKit Go.Sort
set_option linter.unusedVariables false
set_option linter.unusedSimpArgs false
set_option maxRecDepth 100000
set_option maxHeartbeats 2000000 in
theorem rnames_any (s : List UInt8) (c : UInt8) (m : Int) (w : World) (hs : s.length ≤ 4000000000) :
    Calls Tryz.prog 34 #[.string ⟨s.toArray⟩, .int .u8 c.toNat, .int .i64 m] w (Ret w (.tuple #[.string ⟨(cutAt c s).1.toArray⟩, .string ⟨(cutAt c s).2.1.toArray⟩, .bool (pairB s c m)])) := by
  have hc := cutAt_len c s
  have kc := Lib.hid (rcut_any s c w hs)
  have HP := Lib.hid (show pairB s c m = pair3 (cutAt c s) m from rfl)
  generalize pairB s c m = ok at HP ⊢
  generalize cutAt c s = q at *
  obtain ⟨a, b, f⟩ := q
  simp only at hc
  obtain ⟨ha, hb⟩ := hc
  have ka := Lib.hid (fun w' => rname_any a m w' (by omega))
  have kb := Lib.hid (fun w' => rname_any b m w' (by omega))
  have HP := Lib.hid (show ok = (nameB a m && (!f || nameB b m)) from HP.out)
  generalize nameB a m = na at *
  generalize nameB b m = nb at *
  cases f <;> cases na <;> cases nb
  all_goals
    obtain rfl := HP.out
    clear HP
    go_enter Tryz.func34, Tryz.ntmps34
    go_wp2_with (first
      | (go_at_call 64; (with_reducible refine callQ kc.out ?_); intro nq)
      | (go_at_call 65; (with_reducible first | refine callP (ka.out _) ?_ | refine callP (kb.out _) ?_)))
    go_ret3
    exact ⟨rfl, below_drewN (Below.refl _ _) nq⟩
attribute [local go_sem] ba_append
attribute [local go_sem ↓] bfix_fold
attribute [local go_sem] run_bfix0
end Go.Proofs.YtgoeedohgomodaaGreatDoor
namespace Go.Proofs.YtgoeedohgomodaaGreatDoor
open Go.RowKit Go.Sort
set_option linter.unusedVariables false
set_option linter.unusedSimpArgs false
set_option maxRecDepth 100000
def slenV : Value → Nat
  | .string b => b.toList.length
  | _ => 0
theorem wpList_append_soutL {ops : Array Oper} {rest : List Oper} {op : Oper} {a : Act} {Q : Exit → Act → World → Prop} {w0 W : World} {v : Value} {ss : List (List UInt8)} (hgd : op.guard = none) (s x : Operand)
    (ho : op.op = .call { callee := .builtin .append, args := #[s, x], argTypes := #[49, 49] }) (h : SOut w0 W v ss) (hs : a.eval s = v) (t : List UInt8) (g c : Nat)
    (hx : a.eval x = .slice (some ⟨g, 0, none⟩) 1 c) (hg : W.cell? ⟨g, 0, none⟩ = some (sval t)) (hn : ss.length + 1 ≤ 1000000000) (hb : w0.heap.size ≤ W.heap.size)
    (k : ∀ v' W', SOut w0 W' v' (ss ++ [t]) → W.grownBy W' v.ownBlock → wpList Tryz.prog ops Q rest (a.put op.dst v') W') : wpList Tryz.prog ops Q (op :: rest) a W := by
  obtain ⟨i0, hi, hz0, hz1, hz2⟩ := info_parts info_str_all
  refine wpList_append_own W hgd s x 49 ho w0.heap.size 9 i0 _ 1 16 Tryz.underlying49 hi hz0 hz1 hz2 rfl (by omega) v ss.length (svals ss) hs h ⟨g, 0, none⟩ 1 c [sval t] hx rfl ?_ (by simp [sval, Value.oneCell']) (by unfold maxLen; omega) (by omega) hb ?_
  · intro j u hu
    match j, hu with
    | 0, hu => rw [addr_add, Nat.zero_add, hg]; simpa using hu
    | j + 1, hu => simp at hu
  · intro v' W' h1 h2 _
    refine k v' W' ?_ h2
    unfold SOut
    rw [List.length_append, svals, List.map_append]
    exact h1
set_option maxHeartbeats 4000000 in
theorem rwords22_any (s : List UInt8) (w : World) (hs : s.length ≤ 900000000) : Calls Tryz.prog 33 #[.string ⟨s.toArray⟩] w (RetStrs w (splitC 32 s)) := by
  go_enter Tryz.func33, Tryz.ntmps33
  go_upto_region 2 with (fail)
  go_loopw [0, 3] (fun sv v wr => ∃ (l : List UInt8) (out : List (List UInt8)), sv = .string ⟨l.toArray⟩ ∧ out ++ splitC 32 l = splitC 32 s ∧ out.length + l.length ≤ s.length ∧ SOut w wr v out ∧ Below w.heap.size w wr) (fun sv _ _ => slenV sv)
  case atStart => exact ⟨s, [], rfl, rfl, by simp, SOut.nil _ _, Below.refl _ _⟩
  case round =>
    obtain ⟨l, out, rfl, hso, hol, O, BW⟩ := hrel
    have HS := Lib.hid (show splitC 32 s = out ++ (if (cutAt 32 l).2.2 then (cutAt 32 l).1 :: splitC 32 (cutAt 32 l).2.1 else [l]) by rw [← hso, splitC_cut 32 l])
    have hc := cutAt_len 32 l
    have KC := Lib.hid (fun W => show Calls Tryz.prog 64 #[.string ⟨l.toArray⟩, .int .u8 32] W (RetQ W (.tuple #[.string ⟨(cutAt 32 l).1.toArray⟩, .string ⟨(cutAt 32 l).2.1.toArray⟩, .bool (cutAt 32 l).2.2])) from rcut_any l 32 W (by omega))
    have HP := Lib.hid (fun h => cutAt_parts 32 l h)
    have HM := Lib.hid (fun h => (cutAt_miss 32 l h).1)
    clear hso
    generalize cutAt 32 l = q at *
    obtain ⟨a, b, f⟩ := q
    go_upto_region 3 with (go_at_call 64; (with_reducible refine callQ (KC.out _) ?_); intro n)
    have O1 := O.drewN n
    have B1 := below_drewN BW n
    generalize wr.drewN n = W1 at O1 B1 ⊢
    clear KC O BW
    have O4 := O1.alloc (.cells #[sval a] 9)
    have B4 := below_step B1 (alloc_belowR W1 (.cells #[sval a] 9))
    have hsz := B4.size
    cases f with
    | true =>
      have hp := HP.out rfl
      have hl : a.length + b.length + 1 = l.length := by rw [hp]; simp; omega
      have HG := Lib.hid (show splitC 32 s = out ++ a :: splitC 32 b by rw [HS.out]; rfl)
      clear HS HP HM hp
      go_wp2_with (at_builtin; refine wpList_append_soutL rfl (.tmp 13) (.tmp 15) rfl O4 rfl a W1.heap.size 1 rfl (cell_of_row _ _ 0 _ _ _ (heap_alloc_new W1 _)) (by omega) hsz ?_; intro v5 W5 O5 g5)
      go_roundw
      case rel => exact ⟨b, out ++ [a], rfl, by rw [HG.out]; simp, by simp; omega, O5, below_sgrown B4 O4 g5⟩
      case measure => simp [slenV]; omega
    | false =>
      have HG := Lib.hid (show splitC 32 s = out ++ [l] by rw [HS.out]; rfl)
      have hm := Lib.hid (show a = l from HM.out rfl)
      clear HS HP HM
      go_wp2_with (at_builtin; refine wpList_append_soutL rfl (.tmp 13) (.tmp 15) rfl O4 rfl a W1.heap.size 1 rfl (cell_of_row _ _ 0 _ _ _ (heap_alloc_new W1 _)) (by omega) hsz ?_; intro v5 W5 O5 g5)
      go_ret
      exact ⟨v5, rfl, by rw [HG.out]; rw [hm.out] at O5; exact O5, below_sgrown B4 O4 g5⟩
end Go.Proofs.YtgoeedohgomodaaGreatDoor
namespace Go.Proofs.YtgoeedohgomodaaGreatDoor
open Go.RowKit Go.Sort
set_option linter.unusedVariables false
set_option linter.unusedSimpArgs false
set_option maxRecDepth 100000
attribute [local go_sem] run_bitm0 run_bitm1 run_bitm2 run_bitm3
attribute [local go_sem ↓] bitm_fold
def RetOI (w : World) (o : Option ItemV) (e : Ending) (w' : World) : Prop := ∃ y : ItemV, e = .returned (.tuple #[.agg y.arr, .bool o.isSome]) ∧ (∀ z, o = some z → y = z) ∧ Below w.heap.size w w'
theorem RetOI.mk {w w' : World} {o : Option ItemV} {b : Bool} (y : ItemV) (h : o.isSome = b) (hz : ∀ z, o = some z → y = z) (hw : Below w.heap.size w w') : RetOI w o (.returned (.tuple #[.agg y.arr, .bool b])) w' := by
  subst h; exact ⟨y, rfl, hz, hw⟩
set_option maxHeartbeats 4000000 in
theorem ritem22A (a : UInt8) (r : List UInt8) (hr : r.length ≤ 4000000000) (w : World) : Calls Tryz.prog 35 #[.string ⟨(a :: 61 :: r).toArray⟩] w (RetOI w (itemS (a :: 61 :: r))) := by
  have HI := Lib.hid (show itemS (a :: 61 :: r) = if letterK a = 0 ∨ pairB r 46 8 = false then none else some ⟨letterK a, (cutAt 46 r).1, (cutAt 46 r).2.1⟩ from rfl)
  have KC := Lib.hid (fun W => show Calls Tryz.prog 34 #[.string ⟨r.toArray⟩, .int .u8 46, .int .i64 8] W (Ret W (.tuple #[.string ⟨(cutAt 46 r).1.toArray⟩, .string ⟨(cutAt 46 r).2.1.toArray⟩, .bool (pairB r 46 8)])) from rnames_any r 46 8 W hr)
  generalize cutAt 46 r = q at *
  generalize pairB r 46 8 = pb at *
  obtain ⟨x, y, f⟩ := q
  generalize itemS (a :: 61 :: r) = v at *
  have h1 : (a :: 61 :: r == [68, 67, 84]) = false := by simp
  go_enter Tryz.func35, Tryz.ntmps35
  go_upto_region 1 with (fail)
  have A0 : Blk (w.alloc (.cells #[.int .u8 0, .string ⟨#[]⟩, .string ⟨#[]⟩] 57)) w.heap.size noItem.arr := Blk.new w noItem.arr 57
  have D0 := (Below.refl w.heap.size w).alloc (Nat.le_refl _) (.cells #[.int .u8 0, .string ⟨#[]⟩, .string ⟨#[]⟩] 57)
  generalize w.alloc _ = W0 at A0 D0 ⊢
  have S0 := D0.size
  obtain ⟨g, hg⟩ : ∃ g, g = w.heap.size := ⟨_, rfl⟩
  have G0 : w.heap.size ≤ g := by omega
  rw [← hg] at A0 ⊢
  clear hg
  have hk : a = 68 ∨ a = 65 ∨ a = 80 ∨ (a ≠ 68 ∧ a ≠ 65 ∧ a ≠ 80) := by grind
  rcases hk with rfl | rfl | rfl | ⟨n1, n2, n3⟩
  case' inr.inr.inr =>
    have e1 : ((a.toNat : Int) == 68) = false := u8_ne n1
    have e2 : ((a.toNat : Int) == 65) = false := u8_ne n2
    have e3 : ((a.toNat : Int) == 80) = false := u8_ne n3
    have HL := Lib.hid (show letterK a = 0 by unfold letterK; rw [if_neg n1, if_neg n2, if_neg n3])
  case' inl => have HL := Lib.hid (show letterK 68 = 2 from rfl)
  case' inr.inl => have HL := Lib.hid (show letterK 65 = 6 from rfl)
  case' inr.inr.inl => have HL := Lib.hid (show letterK 80 = 7 from rfl)
  all_goals
    go_upto_region 13 with (go_at_call 34; (with_reducible refine callR (KC.out _) ?_); intro w1 b1 _ _ _)
    have A1 := A0.step b1
    have D1 := below_step D0 b1
    have P1 := A1.plain
    have F1 := A1.of
    have L1 := A1.lt
    have HJ := Lib.hid (HI.out)
    cases pb
    all_goals go_wp2
  · exact bodyPost_ret (results_itm Tryz.results35 _ _ g ⟨7, x, y⟩ rfl (A1.set _)) rfl (RetOI.mk ⟨7, x, y⟩ (by rw [HI.out]; simp) (by rw [HI.out]; simp) (below_setRow' D1 G0 _))
  · exact bodyPost_ret (results_itm Tryz.results35 _ _ g ⟨7, x, y⟩ rfl (A1.set _)) rfl (RetOI.mk ⟨7, x, y⟩ (by rw [HI.out, HL.out]; simp) (by rw [HI.out, HL.out]; simp) (below_setRow' D1 G0 _))
  · exact bodyPost_ret (results_itm Tryz.results35 _ _ g ⟨6, x, y⟩ rfl (A1.set _)) rfl (RetOI.mk ⟨6, x, y⟩ (by rw [HI.out]; simp) (by rw [HI.out]; simp) (below_setRow' D1 G0 _))
  · exact bodyPost_ret (results_itm Tryz.results35 _ _ g ⟨6, x, y⟩ rfl (A1.set _)) rfl (RetOI.mk ⟨6, x, y⟩ (by rw [HI.out, HL.out]; simp) (by rw [HI.out, HL.out]; simp) (below_setRow' D1 G0 _))
  · exact bodyPost_ret (results_itm Tryz.results35 _ _ g ⟨2, x, y⟩ rfl (A1.set _)) rfl (RetOI.mk ⟨2, x, y⟩ (by rw [HI.out]; simp) (by rw [HI.out]; simp) (below_setRow' D1 G0 _))
  · exact bodyPost_ret (results_itm Tryz.results35 _ _ g ⟨2, x, y⟩ rfl (A1.set _)) rfl (RetOI.mk ⟨2, x, y⟩ (by rw [HI.out, HL.out]; simp) (by rw [HI.out, HL.out]; simp) (below_setRow' D1 G0 _))
  · exact bodyPost_ret (results_itm Tryz.results35 _ _ g ⟨0, x, y⟩ rfl (A1.set _)) rfl (RetOI.mk ⟨0, x, y⟩ (by rw [HI.out]; simp) (by rw [HI.out]; simp) (below_setRow' D1 G0 _))
  · exact bodyPost_ret (results_itm Tryz.results35 _ _ g ⟨0, x, y⟩ rfl (A1.set _)) rfl (RetOI.mk ⟨0, x, y⟩ (by rw [HI.out, HL.out]; simp) (by rw [HI.out, HL.out]; simp) (below_setRow' D1 G0 _))
set_option maxHeartbeats 4000000 in
theorem ritem22B (s : List UInt8) (h61 : ¬ s[1]? = some 61) (hs : s.length ≤ 4000000000) (w : World) : Calls Tryz.prog 35 #[.string ⟨s.toArray⟩] w (RetOI w (itemS s)) := by
  have HI := Lib.hid (show itemS s = if s = [68, 67, 84] then some ⟨5, [], []⟩ else if (splitRef s).2.2 == 0 then some ⟨4, s, []⟩ else if nameB s 8 then some ⟨3, s, []⟩ else none by unfold itemS; rw [if_neg h61]; rfl)
  have KS := Lib.hid (fun W => rsplitRef_any s W hs)
  have KN := Lib.hid (fun W => rname_any s 8 W (by omega))
  generalize splitRef s = q at *
  generalize nameB s 8 = nb at *
  obtain ⟨x, y, f⟩ := q
  generalize itemS s = v at *
  go_enter Tryz.func35, Tryz.ntmps35
  go_upto_region 1 with (fail)
  have A0 : Blk (w.alloc (.cells #[.int .u8 0, .string ⟨#[]⟩, .string ⟨#[]⟩] 57)) w.heap.size noItem.arr := Blk.new w noItem.arr 57
  have D0 := (Below.refl w.heap.size w).alloc (Nat.le_refl _) (.cells #[.int .u8 0, .string ⟨#[]⟩, .string ⟨#[]⟩] 57)
  generalize w.alloc _ = W0 at A0 D0 ⊢
  have S0 := D0.size
  obtain ⟨g, hg⟩ : ∃ g, g = w.heap.size := ⟨_, rfl⟩
  have G0 : w.heap.size ≤ g := by omega
  rw [← hg] at A0 ⊢
  clear hg
  have P1 := A0.plain
  have F1 := A0.of
  have L1 := A0.lt
  by_cases hd : s = [68, 67, 84]
  · have h1 : (s == [68, 67, 84]) = true := by simpa using hd
    have HT := Lib.hid (show v = some ⟨5, [], []⟩ by rw [HI.out, if_pos hd])
    clear HI hd h61
    go_wp2
    exact bodyPost_ret (results_itm Tryz.results35 _ _ g ⟨5, [], []⟩ rfl (A0.set _)) rfl (RetOI.mk ⟨5, [], []⟩ (by rw [HT.out]; rfl) (by rw [HT.out]; simp) (below_setRow' D0 G0 _))
  have h1 : (s == [68, 67, 84]) = false := by simpa using hd
  have HJ := Lib.hid (HI.out.trans (if_neg hd))
  clear HI hd
  have h3 : s = [] ∨ (∃ a, s = [a]) ∨ ∃ a b r, s = a :: b :: r := by
    rcases s with _ | ⟨a, _ | ⟨b, r⟩⟩
    · exact .inl rfl
    · exact .inr (.inl ⟨a, rfl⟩)
    · exact .inr (.inr ⟨a, b, r, rfl⟩)
  go_upto_region 3 with (fail)
  go_cut [21] (fun e wx => e = .bool false ∧ wx = W0)
  case first =>
    rcases h3 with h3 | ⟨a, h3⟩ | ⟨a, b, r, h3⟩
    case' inr.inr => have hb : ((b.toNat : Int) == 61) = false := u8n61 (fun e => h61 (by rw [h3, e]; rfl))
    all_goals
      subst h3
      clear h61
      go_wp2
      go_meet
      exact ⟨rfl, rfl⟩
  case rest =>
  obtain ⟨rfl, rfl⟩ := hcut
  generalize wc = W0 at *
  clear h3 h61 h1
  go_upto_region 15 with (go_at_call 66; (with_reducible refine callQ (KS.out _) ?_); intro n)
  have D1 := below_drewN D0 n
  have A1 := A0.step (below_drewN (Below.refl _ _) n)
  generalize W0.drewN n = W1 at D1 A1 ⊢
  clear P1 F1 L1 A0 D0
  have P1 := A1.plain
  have F1 := A1.of
  have L1 := A1.lt
  by_cases hf : (f == 0) = true
  · have HT := Lib.hid (show v = some ⟨4, s, []⟩ by rw [HJ.out, if_pos hf])
    clear HJ
    go_wp2
    exact bodyPost_ret (results_itm Tryz.results35 _ _ g ⟨4, s, []⟩ rfl (A1.set _)) rfl (RetOI.mk ⟨4, s, []⟩ (by rw [HT.out]; rfl) (by rw [HT.out]; simp) (below_setRow' D1 G0 _))
  have HK := Lib.hid (HJ.out.trans (if_neg hf))
  replace hf : (f == 0) = false := by simpa using hf
  clear HJ
  cases nb with
  | true =>
    go_wp2_with (go_at_call 65; refine callP (KN.out _) ?_)
    exact bodyPost_ret (results_itm Tryz.results35 _ _ g ⟨3, s, []⟩ rfl (A1.set _)) rfl (RetOI.mk ⟨3, s, []⟩ (by rw [HK.out]; simp) (by rw [HK.out]; simp) (below_setRow' D1 G0 _))
  | false =>
    go_wp2_with (go_at_call 65; refine callP (KN.out _) ?_)
    exact bodyPost_ret (results_itm Tryz.results35 _ _ g ⟨3, s, []⟩ rfl (A1.set _)) rfl (RetOI.mk ⟨3, s, []⟩ (by rw [HK.out]; simp) (by rw [HK.out]; simp) (below_setRow' D1 G0 _))
theorem ritem22_any (s : List UInt8) (hs : s.length ≤ 4000000000) (w : World) : Calls Tryz.prog 35 #[.string ⟨s.toArray⟩] w (RetOI w (itemS s)) := by
  by_cases h : s[1]? = some 61
  · rcases s with _ | ⟨a, _ | ⟨b, r⟩⟩
    · cases h
    · cases h
    · have hb : b = 61 := by simpa using h
      subst hb
      exact ritem22A a r (by simp at hs; omega) w
  · exact ritem22B s h hs w
end Go.Proofs.YtgoeedohgomodaaGreatDoor
namespace Go.Proofs.YtgoeedohgomodaaGreatDoor
open Go.RowKit Go.Sort
set_option linter.unusedVariables false
set_option linter.unusedSimpArgs false
set_option maxRecDepth 100000
theorem pEq_two (a b : UInt8) (r : List UInt8) : pEq (a :: b :: r) = ([a, b] == [80, 61]) := by unfold pEq; simp
set_option maxHeartbeats 4000000 in
theorem rmis22_any (ws : List (List UInt8)) (A : Option Addr) (c : Nat) (i : Nat) (y z : ItemV) (out : List ItemV) (w : World) (hn : 2 ≤ ws.length) (hl : ws.length ≤ 124) (hc : ws.length ≤ c) (hS : Strs w A ws) (hi : i ≤ 124) (hz : out.getD (i - 1) noItem = z) :
    Calls Tryz.prog 36 #[.slice A ws.length c, .int .i64 i, .agg y.arr, .agg z.arr] w (Ret w (.bool (misB ws i y out))) := by
  have HMd := Lib.hid (show misB ws i y out = if y.kind = 2 then i != 1 else if y.kind = 7 then i + 2 != ws.length else if y.kind = 6 then i + 2 != ws.length && (i + 3 != ws.length || !pEq (ws.getD (ws.length - 2) [])) else if y.kind = 5 then z.kind == 5 else false by rw [← hz]; rfl)
  obtain ⟨b, o, rfl, hb, hcl⟩ := hS.at_ (by intro h; rw [h] at hn; simp at hn)
  obtain ⟨x2, hx2⟩ : ∃ x2, ws[ws.length - 2]? = some x2 := ⟨_, List.getElem?_eq_getElem (by omega)⟩
  have hg2 : ws.getD (ws.length - 2) [] = x2 := by rw [List.getD_eq_getElem?_getD, hx2]; rfl
  rw [hg2] at HMd
  have c2 := hcl _ _ hx2
  generalize misB ws i y out = m at HMd ⊢
  clear hcl hS hz hx2 hg2
  generalize hN : ws.length = N at *
  clear hN
  go_enter Tryz.func36, Tryz.ntmps36
  go_upto_region 1 with (fail)
  generalize hW : (w.alloc _).alloc _ = W
  have Y0 : Blk W w.heap.size y.arr := by rw [← hW]; exact (Blk.new w _ _).alloc _
  have Z0 : Blk W (w.heap.size + 1) z.arr := by rw [← hW, ← World.size_alloc w (.cells y.arr 57)]; exact Blk.new _ _ _
  have B0 : Below w.heap.size w W := by rw [← hW]; go_grown
  clear hW
  have c2 : W.cell? ⟨b, o + (N - 2), none⟩ = some (.string ⟨x2.toArray⟩) := by rw [B0.cell (p := ⟨b, _, none⟩) hb]; exact c2
  generalize w.heap.size + 1 = gz at Z0 ⊢
  obtain ⟨gy, hgy⟩ : ∃ g, g = w.heap.size := ⟨_, rfl⟩
  rw [← hgy] at Y0 ⊢
  clear hgy
  have y0 : W.cell? ⟨gy, 0, none⟩ = some (.int .u8 y.kind) := Y0.cell 0
  have z0 : W.cell? ⟨gz, 0, none⟩ = some (.int .u8 z.kind) := Z0.cell 0
  have HB := Lib.hid B0
  have hcast : ((N : Int) - 2).toNat = N - 2 := by omega
  have hb1 : ¬ ((N : Int) - 2 < 0) := by omega
  clear Y0 Z0 B0 hb
  go_upto_region 2 with (fail)
  go_cut [10] (fun e wx => e = .bool (pEq x2) ∧ wx = W)
  case first =>
    clear HMd y0 z0
    rcases x2 with _ | ⟨a, _ | ⟨d, r⟩⟩
    · go_wp2
      go_meet
      exact ⟨rfl, rfl⟩
    · go_wp2
      go_meet
      exact ⟨by simp [pEq], rfl⟩
    · have HE := Lib.hid (pEq_two a d r)
      go_wp2
      go_meet
      exact ⟨by rw [HE.out]; simp, rfl⟩
  case rest =>
  obtain ⟨rfl, rfl⟩ := hcut
  generalize wc = W at *
  generalize pEq x2 = pb at *
  clear c2 hcast hb1
  generalize y.kind = k at *
  by_cases k2 : k = 2
  · subst k2
    have hm : m = (i != 1) := by rw [HMd.out]; rfl
    have e1 : ((i : Int) != 1) = m := by rw [hm]; exact bool_nat rfl rfl
    clear HMd hm
    go_wp2
    go_ret
    exact Ret.bool rfl HB.out
  have HMd := Lib.hid (HMd.out.trans (if_neg k2))
  have e2 : (k == 2) = false := by simpa using k2
  by_cases k7 : k = 7
  · subst k7
    have hm : m = (i + 2 != N) := by rw [HMd.out]; rfl
    have e1 : ((i : Int) != (N : Int) - 2) = m := by rw [hm, Bool.eq_iff_iff]; simp; omega
    clear HMd hm e2 k2
    go_wp2
    go_ret
    exact Ret.bool rfl HB.out
  have HMd := Lib.hid (HMd.out.trans (if_neg k7))
  have e7 : (k == 7) = false := by simpa using k7
  by_cases k6 : k = 6
  · subst k6
    have hm : m = (i + 2 != N && (i + 3 != N || !pb)) := by rw [HMd.out]; rfl
    obtain ⟨a, ha⟩ : ∃ a, (i + 2 != N) = a := ⟨_, rfl⟩
    obtain ⟨d, hd⟩ : ∃ d, (i + 3 != N) = d := ⟨_, rfl⟩
    rw [ha, hd] at hm
    have e1 : ((i : Int) != (N : Int) - 2) = a := by rw [← ha, Bool.eq_iff_iff]; simp; omega
    have e3 : ((i : Int) == (N : Int) - 3) = !d := by rw [← hd, Bool.eq_iff_iff]; simp; omega
    have HM := Lib.hid hm
    clear HMd hm ha hd e2 k2 e7 k7
    cases a <;> cases d <;> cases pb
    all_goals
      simp only [Bool.not_true, Bool.not_false] at e3
      go_wp2
      go_ret
      exact Ret.bool (by rw [HM.out]; rfl) HB.out
  have HMd := Lib.hid (HMd.out.trans (if_neg k6))
  have e6 : (k == 6) = false := by simpa using k6
  by_cases k5 : k = 5
  · subst k5
    have hm : m = (z.kind == 5) := by rw [HMd.out]; rfl
    clear HMd e2 k2 e7 k7 e6 k6
    go_wp2
    go_ret
    exact Ret.bool rfl HB.out
  have hm : m = false := by rw [HMd.out, if_neg k5]
  have e5 : (k == 5) = false := by simpa using k5
  clear HMd k2 k7 k6 k5
  go_wp2
  go_ret
  exact Ret.bool hm.symm HB.out
end Go.Proofs.YtgoeedohgomodaaGreatDoor
namespace Go.Proofs.YtgoeedohgomodaaGreatDoor
open Go.RowKit Go.Sort
set_option linter.unusedVariables false
set_option linter.unusedSimpArgs false
set_option maxRecDepth 100000
attribute [local go_sem] run_bitms run_bitm3
attribute [local go_sem ↓] bitms_fold bitm_fold
theorem strsB {W W' : World} {A : Option Addr} {ss : List (List UInt8)} (h : Strs W A ss) (hb : Below W.heap.size W W') : Strs W' A ss :=
  ⟨fun hne => by
    obtain ⟨b, o, hA, hlt, hc⟩ := h.at_ hne
    exact ⟨b, o, hA, Nat.lt_of_lt_of_le hlt hb.size, fun i s hs => by rw [hb.cell (p := ⟨b, _, none⟩) hlt]; exact hc i s hs⟩⟩
theorem callStrsQ {P : Program} {f : FuncId} {args : Array Value} {W : World} {ss : List (List UInt8)} {K : Ending → World → Prop} (h : Calls P f args W (RetStrs W ss)) (k : ∀ v w', SOut W w' v ss → Below W.heap.size W w' → K (.returned v) w') : Calls P f args W K :=
  h.mono fun e w' ⟨v, he, h1, h2⟩ => by subst he; exact k v w' h1 h2
set_option maxHeartbeats 8000000 in
theorem rparse22_any (s : List UInt8) (hs : s.length ≤ 900000000) (w : World) : Calls Tryz.prog 12 #[.string ⟨s.toArray⟩] w (RetItms w (routeParse s)) := by
  have KW := Lib.hid (rwords22_any s w hs)
  have hne := splitC_ne 32 s
  have hsm := Lib.hid (fun x hx => Nat.le_trans (splitC_memR 32 s x hx) hs)
  have HO := Lib.hid (show routeParse s = if 124 < (splitC 32 s).length then (([], 124), 3) else if (itemsGo (splitC 32 s) (splitC 32 s) 0 []).2 ≠ 0 then itemsGo (splitC 32 s) (splitC 32 s) 0 [] else
    if (splitC 32 s).length = 1 then (([], 1), 4) else itemsGo (splitC 32 s) (splitC 32 s) 0 [] from rfl)
  generalize routeParse s = OUT at *
  generalize splitC 32 s = ws at *
  go_enter Tryz.func12, Tryz.ntmps12
  go_upto_region 2 with (go_at_call 33; (with_reducible refine callStrsQ KW.out ?_); intro v1 w1 O1 B1)
  obtain ⟨A1, c1, rfl, hc1, S1⟩ := O1.form
  have HB := Lib.hid B1
  have HS := Lib.hid (fun (wr : World) (BW : Below w1.heap.size w1 wr) => strsB S1 BW)
  clear KW O1 S1 B1
  by_cases h124 : 124 < ws.length
  · have HE := Lib.hid (HO.out.trans (if_pos h124))
    have h1 : (124 : Int) < (ws.length : Int) := by omega
    clear HO h124
    go_wp2
    go_ret3
    exact RetItms.err HE.out HB.out
  have HO := Lib.hid (HO.out.trans (if_neg h124))
  have h1 : ¬ (124 : Int) < (ws.length : Int) := by omega
  have hlen : ws.length ≤ 124 := by omega
  clear h124
  go_wp2
  go_loopw [22, 6] (fun iv v wr => ∃ (i : Nat) (out : List ItemV), i ≤ ws.length ∧ iv = .int .i64 i ∧ itemsGo ws ws 0 [] = itemsGo ws (ws.drop i) i out ∧ out.length = i ∧ GOut w1.heap.size wr 57 3 v (out.map ItemV.arr) ∧ Below w1.heap.size w1 wr) (fun iv _ _ => ws.length - (intOf iv).toNat)
  case atStart => exact ⟨0, [], Nat.zero_le _, rfl, rfl, rfl, GOut.nil _ _ _ _, Below.refl _ _⟩
  case round =>
    obtain ⟨i, out, hi, rfl, hgo, hol, O, BW⟩ := hrel
    have HG := Lib.hid hgo
    have HOL := Lib.hid hol
    have BB := below_step HB.out BW
    clear hgo hol
    by_cases hin : i = ws.length
    · have h2 : ¬ ((i : Int) < (ws.length : Int)) := by omega
      obtain ⟨A3, c3, e3, hl3, hI3, hge3, _⟩ := O.form (itm_sizes out)
      rw [List.length_map] at e3 hl3
      subst e3
      have HG := Lib.hid (show itemsGo ws ws 0 [] = ((out, 0), 0) by rw [HG.out, hin, List.drop_length]; rfl)
      have HO := Lib.hid (HO.out.trans (if_neg (by rw [HG.out]; simp)))
      have hge := BW.size
      have hgw := HB.out.size
      by_cases h1n : ws.length = 1
      · have HE := Lib.hid (HO.out.trans (if_pos h1n))
        have h3 : ((ws.length : Int) == 1) = true := by simp; omega
        clear HO HG O
        go_wp2
        go_ret3
        exact RetItms.err HE.out BB
      · have HE := Lib.hid ((HO.out.trans (if_neg h1n)).trans HG.out)
        have h3 : ((ws.length : Int) == 1) = false := by simp; omega
        clear HO HG O
        go_wp2
        go_ret3
        rw [HE.out]
        exact ⟨A3, c3, rfl, hl3, hI3, (fun a ha => Nat.le_trans hgw (hge3 a ha)), BB⟩
    have hil : i < ws.length := by omega
    clear hin
    have hlt : (i : Int) < (ws.length : Int) := by omega
    obtain ⟨x, hx⟩ : ∃ x, ws[i]? = some x := ⟨_, List.getElem?_eq_getElem hil⟩
    have hxl := hsm.out x (List.mem_of_getElem? hx)
    obtain ⟨sb, so, hA1, hsb, hcl⟩ := (HS.out wr BW).at_ hne
    have HSS := Lib.hid (HS.out wr BW)
    subst hA1
    have hcx : wr.cell? ⟨sb, so + i, none⟩ = some (.string ⟨x.toArray⟩) := hcl i x hx
    have HD := Lib.hid (show ws.drop i = x :: ws.drop (i + 1) from by
      rw [List.drop_eq_getElem_cons hil]; congr 1; exact (List.getElem?_eq_some_iff.1 hx).2)
    clear hx hcl
    go_upto_region 8 with (fail)
    clear hcx
    obtain ⟨wo, hwo⟩ : ∃ wo, wordI ws.length i x = wo := ⟨_, rfl⟩
    go_cut [35] (fun e wx => e = .bool (decide (i = 0 ∨ i + 1 = ws.length)) ∧ wx = wr)
    case first =>
      by_cases h0 : i = 0
      · have e0 : ((i : Int) == 0) = true := by simp [h0]
        go_wp2
        all_goals (go_meet; exact ⟨by simp [h0], rfl⟩)
      · have e0 : ((i : Int) == 0) = false := by simp [h0]
        have e1 : ((i : Int) == (ws.length : Int) - 1) = decide (i + 1 = ws.length) := by
          by_cases h : i + 1 = ws.length
          · have : (i : Int) = (ws.length : Int) - 1 := by omega
            simp [h, this]
          · have : ¬ (i : Int) = (ws.length : Int) - 1 := by omega
            simp [h, this]
        go_wp2
        all_goals (go_meet; exact ⟨by simp [h0], rfl⟩)
    case rest =>
    obtain ⟨rfl, rfl⟩ := hcut
    generalize wc = w2 at *
    go_upto_if 35 with (fail)
    by_cases hb : i = 0 ∨ i + 1 = ws.length
    · have h2 : decide (i = 0 ∨ i + 1 = ws.length) = true := by simpa using hb
      rw [h2]
      clear h2
      have HW := Lib.hid (show wo = if pairB x 47 6 then some ⟨if i = 0 then 1 else 8, (cutAt 47 x).1, (cutAt 47 x).2.1⟩ else none by rw [← hwo]; unfold wordI; rw [if_pos hb])
      have KN := Lib.hid (fun W => show Calls Tryz.prog 34 #[.string ⟨x.toArray⟩, .int .u8 47, .int .i64 6] W (Ret W (.tuple #[.string ⟨(cutAt 47 x).1.toArray⟩, .string ⟨(cutAt 47 x).2.1.toArray⟩, .bool (pairB x 47 6)])) from rnames_any x 47 6 W (by omega))
      generalize cutAt 47 x = z at *
      generalize pairB x 47 6 = pb at *
      obtain ⟨z1, z2, z3⟩ := z
      cases pb with
      | false =>
        have HV := Lib.hid (show wo = none by rw [HW.out]; rfl)
        have HE := Lib.hid (show itemsGo ws ws 0 [] = (([], (i : Int)), 4) by rw [HG.out, HD.out, itemsGo, hwo, HV.out])
        have HE := Lib.hid (show OUT = (([], (i : Int)), 4) by rw [HO.out, if_pos (by rw [HE.out]; simp), HE.out])
        clear HO HG HD hwo hb
        go_wp2_with (go_at_call 34; (with_reducible refine callR (KN.out _) ?_); intro w3 b3 _ _ _)
        go_ret3
        exact RetItms.err HE.out (below_step BB b3)
      | true =>
        have HV := Lib.hid (show wo = some ⟨if i = 0 then 1 else 8, z1, z2⟩ by rw [HW.out]; rfl)
        clear hb
        go_upto_region 13 with (go_at_call 34; (with_reducible refine callR (KN.out _) ?_); intro w3 b3 _ _ _)
        have O3 := O.step b3
        have B3 := below_step BW b3
        clear O BW BB KN
        have HM : ∀ k : Int, misB ws i ⟨if i = 0 then 1 else 8, z1, z2⟩ out = false := fun _ => by
          unfold misB
          by_cases h0 : i = 0 <;> simp [h0]
        have HGG := Lib.hid (show itemsGo ws ws 0 [] = itemsGo ws (ws.drop (i + 1)) (i + 1) (out ++ [⟨if i = 0 then 1 else 8, z1, z2⟩]) by rw [HG.out, HD.out, itemsGo, hwo, HV.out]; simp only; rw [HM 0]; rfl)
        clear HM HG HD hwo HW HV HO
        by_cases h0 : i = 0
        · have e0 : ¬ (0 : Int) < (i : Int) := by omega
          have HG3 := Lib.hid (show itemsGo ws ws 0 [] = itemsGo ws (ws.drop (i + 1)) (i + 1) (out ++ [⟨1, z1, z2⟩]) by rw [HGG.out, if_pos h0])
          have O4 := O3.alloc (.cells (ItemV.arr ⟨1, z1, z2⟩) 57)
          have B4 := below_step B3 (alloc_belowR w3 (.cells (ItemV.arr ⟨1, z1, z2⟩) 57))
          have hq := Blk.new w3 (ItemV.arr ⟨1, z1, z2⟩) 57
          have HOl := HOL.out
          clear HGG h0
          go_wp2_with (at_builtin; refine wpList_append_item rfl (.tmp 47) (.tmp 52) _ 57 3 40 _ infoA_itm rfl (by omega) Tryz.underlying23 rfl O4 rfl (ItemV.arr ⟨1, z1, z2⟩) w3.heap.size 1 (ItemV.arr_size _) (ItemV.arr_one _) rfl hq.cell (by rw [List.length_map]; unfold maxLen; omega) (by rw [List.length_map]; omega) B4.size ?_; intro v5 W5 O5 g5)
          go_roundw
          case rel => exact ⟨i + 1, out ++ [⟨1, z1, z2⟩], by omega, by go_num, HG3.out, by rw [List.length_append, List.length_singleton]; omega, by rw [List.map_append]; exact O5, O4.below_grown g5 B4 (Nat.le_refl _) B4.size⟩
          case measure => simp [intOf]; omega
        · have e0 : (0 : Int) < (i : Int) := by omega
          have HG3 := Lib.hid (show itemsGo ws ws 0 [] = itemsGo ws (ws.drop (i + 1)) (i + 1) (out ++ [⟨8, z1, z2⟩]) by rw [HGG.out, if_neg h0])
          have O4 := O3.alloc (.cells (ItemV.arr ⟨8, z1, z2⟩) 57)
          have B4 := below_step B3 (alloc_belowR w3 (.cells (ItemV.arr ⟨8, z1, z2⟩) 57))
          have hq := Blk.new w3 (ItemV.arr ⟨8, z1, z2⟩) 57
          have HOl := HOL.out
          clear HGG h0
          go_wp2_with (at_builtin; refine wpList_append_item rfl (.tmp 47) (.tmp 52) _ 57 3 40 _ infoA_itm rfl (by omega) Tryz.underlying23 rfl O4 rfl (ItemV.arr ⟨8, z1, z2⟩) w3.heap.size 1 (ItemV.arr_size _) (ItemV.arr_one _) rfl hq.cell (by rw [List.length_map]; unfold maxLen; omega) (by rw [List.length_map]; omega) B4.size ?_; intro v5 W5 O5 g5)
          go_roundw
          case rel => exact ⟨i + 1, out ++ [⟨8, z1, z2⟩], by omega, by go_num, HG3.out, by rw [List.length_append, List.length_singleton]; omega, by rw [List.map_append]; exact O5, O4.below_grown g5 B4 (Nat.le_refl _) B4.size⟩
          case measure => simp [intOf]; omega
    · have h2 : decide (i = 0 ∨ i + 1 = ws.length) = false := by simpa using hb
      rw [h2]
      clear h2
      have hi0 : 0 < i := by omega
      have hi1 : i + 1 < ws.length := by omega
      have HW := Lib.hid (show itemS x = wo by rw [← hwo]; unfold wordI; rw [if_neg hb])
      have KI := Lib.hid (ritem22_any x (by omega) w2)
      rw [HW.out] at KI
      clear hb
      go_upto_region 17 with (go_at_call 35; refine KI.out.mono ?_; rintro e w3 ⟨y, rfl, hz, b3⟩; have A3 : Blk (w3.alloc (.cells #[.int .u8 0, .string ⟨#[]⟩, .string ⟨#[]⟩] 57)) w3.heap.size noItem.arr := Blk.new w3 noItem.arr 57; have f0 := A3.plain; have f1 := A3.of; have f2 := A3.lt)
      have A4 : Blk ((w3.alloc (.cells #[.int .u8 0, .string ⟨#[]⟩, .string ⟨#[]⟩] 57)).setRow w3.heap.size y.arr) w3.heap.size y.arr := A3.set _
      have D4 : Below w2.heap.size w2 ((w3.alloc (.cells #[.int .u8 0, .string ⟨#[]⟩, .string ⟨#[]⟩] 57)).setRow w3.heap.size y.arr) := below_setRow' (below_step b3 (alloc_belowR w3 _)) b3.size _
      have hq2 := b3.size
      obtain ⟨q, hq⟩ : ∃ q, q = w3.heap.size := ⟨_, rfl⟩
      rw [← hq] at A4 D4 ⊢
      clear A3 f0 f1 f2
      generalize (w3.alloc _).setRow _ _ = w4 at A4 D4 ⊢
      have hql : w2.heap.size ≤ q := by omega
      have O4 := O.step D4
      have B4 := below_step BW D4
      have BB4 := below_step HB.out B4
      clear hq hq2 b3 KI O BW BB HW
      cases wo with
      | none =>
        have HE := Lib.hid (show itemsGo ws ws 0 [] = (([], (i : Int)), 4) by rw [HG.out, HD.out, itemsGo, hwo])
        have HE := Lib.hid (show OUT = (([], (i : Int)), 4) by rw [HO.out, if_pos (by rw [HE.out]; simp), HE.out])
        clear HO HG HD hwo hz
        go_wp2
        go_ret3
        exact RetItms.err HE.out BB4
      | some y' =>
      obtain rfl := hz y' rfl
      clear hz
      obtain ⟨A5, c5, e5, hl5, hI5, _, _⟩ := O4.form (itm_sizes out)
      rw [List.length_map] at e5 hl5
      have HOl := HOL.out
      have hoi : i - 1 < out.length := by omega
      obtain ⟨b4, off4, hA4, hb4, hq4⟩ := hI5.itm hoi
      subst hA4
      have hgd : out.getD (i - 1) noItem = out[i - 1] := by rw [List.getD_eq_getElem?_getD, List.getElem?_eq_getElem hoi]; rfl
      generalize out[i - 1] = z at hgd hq4
      obtain ⟨m, hm⟩ : ∃ m, misB ws i y out = m := ⟨_, rfl⟩
      have S4 := strsB HSS.out D4
      have KM := Lib.hid (fun W (b : Below w4.heap.size w4 W) => rmis22_any ws (some ⟨sb, so, none⟩) c1 i y z out W (by omega) hlen hc1 (strsB S4 b) (by omega) hgd)
      rw [hm] at KM
      go_upto_region 19 with (fail)
      go_cut [70] (fun e wx => e = .bool m ∧ Below w4.heap.size w4 wx)
      case first =>
        have hcast : ((i : Int) - 1).toNat = i - 1 := by omega
        have hb1 : ¬ ((i : Int) - 1 < 0) := by omega
        have hb2 : (i : Int) - 1 < (out.length : Int) := by omega
        have hb3 : (1 : Int) ≤ (i : Int) := by omega
        have hb4 : (i : Int) ≤ (out.length : Int) := by omega
        have hb5 : (0 : Int) ≤ (i : Int) - 1 := by omega
        have hb6 : IntKind.i64.wrap ((i : Int) - 1) = (i : Int) - 1 := IntWalk.i64_in _ (by omega)
        have hb7 : wrap64 ((i : Int) - 1) = (i : Int) - 1 := IntWalk.wrap64_in _ (by omega)
        have hb8 : ¬ ((out.length : Int) ≤ (i : Int) - 1) := by omega
        have hb9 : i - 1 < out.length := by omega
        have D5 : Below w4.heap.size w4 w4.drew := (Below.refl _ _).drew
        have i1 : Has_itm w4.drew q 0 := ⟨_, (A4.step D5).is_itm⟩
        have i2 : of_itm w4.drew q 0 = y := of_itm_eq (A4.step D5).is_itm
        have i3 : Has_itm w4.drew b4 (off4 + (i - 1) * 3) := ⟨z, hq4 _ D5⟩
        have i4 : of_itm w4.drew b4 (off4 + (i - 1) * 3) = z := of_itm_eq (hq4 _ D5)
        clear HO HG HD hwo hm O4 HSS S4 hgd HOL hI5 HOl hoi
        subst e5
        go_region_held3 (fun w' => (Has_itm w' q 0 ∧ of_itm w' q 0 = y) ∧ Has_itm w' b4 (off4 + (i - 1) * 3) ∧ of_itm w' b4 (off4 + (i - 1) * 3) = z) (first | exact ⟨⟨i1, i2⟩, i3, i4⟩ | exact ⟨⟨j1, j2⟩, j3, j4⟩)
          (first
          | (go_at_call 36; (with_reducible refine callR (KM.out _ D5) ?_); intro w5 b5 _ _ _
             have j1 : Has_itm w5 q 0 := ⟨_, (A4.step (below_step D5 b5)).is_itm⟩
             have j2 : of_itm w5 q 0 = y := of_itm_eq (A4.step (below_step D5 b5)).is_itm
             have j3 : Has_itm w5 b4 (off4 + (i - 1) * 3) := ⟨z, hq4 _ (below_step D5 b5)⟩
             have j4 : of_itm w5 b4 (off4 + (i - 1) * 3) = z := of_itm_eq (hq4 _ (below_step D5 b5))))
        all_goals
          go_wp2
          go_meet
          exact ⟨rfl, below_step D5 b5⟩
      case rest =>
      obtain ⟨rfl, D5⟩ := hcut
      generalize wc = w5 at *
      have HG2 := Lib.hid (show itemsGo ws ws 0 [] = if m then (([], (i : Int)), 9) else itemsGo ws (ws.drop (i + 1)) (i + 1) (out ++ [y]) by rw [HG.out, HD.out, itemsGo, hwo]; simp only; rw [hm])
      have B5 := below_step B4 D5
      have BB5 := below_step HB.out B5
      have O5 := O4.step D5
      have A5 := A4.step D5
      clear HG HD hwo hm KM O4 A4 B4 BB4
      cases m with
      | true =>
        have HE := Lib.hid (show OUT = (([], (i : Int)), 9) by rw [HO.out, if_pos (by rw [HG2.out]; simp), HG2.out]; rfl)
        clear HO HG2 O5
        go_wp2
        go_ret3
        exact RetItms.err HE.out BB5
      | false =>
      have HG3 := Lib.hid (HG2.out.trans (if_neg (by decide)))
      clear HO HG2
      have i1 : Has_itm w5 q 0 := ⟨_, A5.is_itm⟩
      have i2 : of_itm w5 q 0 = y := of_itm_eq A5.is_itm
      have O6 := O5.alloc (.cells y.arr 57)
      have B6 := below_step B5 (alloc_belowR w5 (.cells y.arr 57))
      have hq := Blk.new w5 y.arr 57
      have hol2 : out.length ≤ 124 := by omega
      go_wp2_with (at_builtin; refine wpList_append_item rfl (.tmp 72) (.tmp 74) _ 57 3 40 _ infoA_itm rfl (by omega) Tryz.underlying23 rfl O6 rfl y.arr w5.heap.size 1 y.arr_size y.arr_one rfl hq.cell (by rw [List.length_map]; unfold maxLen; omega) (by rw [List.length_map]; omega) B6.size ?_; intro v5 W5 O7 g5)
      go_roundw
      case rel => exact ⟨i + 1, out ++ [y], by omega, by go_num, HG3.out, by rw [List.length_append, List.length_singleton]; omega, by rw [List.map_append]; exact O7, O6.below_grown g5 B6 (Nat.le_refl _) B6.size⟩
      case measure => simp [intOf]; omega
theorem same22_any (a b : List ItemV) (A B : Option Addr) (ca cb : Nat) (w : World) (hla : a.length ≤ 4000000000) (hlb : b.length ≤ 4000000000) (hca : a.length ≤ ca) (hcb : b.length ≤ cb) (ha : Items w A 3 (a.map ItemV.arr)) (hb : Items w B 3 (b.map ItemV.arr)) :
    Calls Tryz.prog 13 #[.slice A a.length ca, .slice B b.length cb] w (RetQ w (.bool (eqIt a b))) := by
  by_cases hl : a.length = b.length
  · have h1 : ((a.length : Int) != (b.length : Int)) = false := by simp [hl]
    have HL := Lib.hid hl; clear hl
    go_enter Tryz.func13, Tryz.ntmps13
    go_wp2
    go_loopw [13] (fun i wr => ∃ k : Nat, k ≤ a.length ∧ i = .int .i64 k ∧ eqIt a b = eqIt (a.drop k) (b.drop k) ∧ ∃ n, wr = w.drewN n) (fun i _ => a.length - (intOf i).toNat)
    case atStart => exact ⟨0, by omega, rfl, rfl, 0, rfl⟩
    case round =>
      obtain ⟨k, hk, rfl, hq, n, rfl⟩ := hrel
      have HQ := Lib.hid hq; clear hq
      by_cases hlt : k < a.length
      · have hlt2 : k < b.length := by have := HL.out; omega
        obtain ⟨b1, o1, hA, hb1, hq1⟩ := ha.itm hlt
        obtain ⟨b2, o2, hB, hb2, hq2⟩ := hb.itm hlt2
        subst hA hB
        have he1 := hq1 w (Below.refl _ _)
        have he2 := hq2 w (Below.refl _ _)
        have hda := Lib.hid (List.drop_eq_getElem_cons hlt)
        have hdb := Lib.hid (List.drop_eq_getElem_cons hlt2)
        generalize a[k] = x at he1 hda
        generalize b[k] = y at he2 hdb
        have i1 : Has_itm w b1 (o1 + k * 3) := ⟨x, he1⟩
        have i2 : Has_itm w b2 (o2 + k * 3) := ⟨y, he2⟩
        have j1 : of_itm w b1 (o1 + k * 3) = x := of_itm_eq he1
        have j2 : of_itm w b2 (o2 + k * 3) = y := of_itm_eq he2
        have hne := run_neq_itm x y
        clear he1 he2 hq1 hq2 ha hb
        go_wp2
        go_quiet (fail)
        go_wp2
        · go_ret
          exact RetQ.bool (by rw [HQ.out, hda.out, hdb.out]; go_light; simp_all [eqIt]) ⟨n + nq, World.drewN_drewN _ _ _⟩
        · go_roundw
          case rel => exact ⟨k + 1, by omega, by go_num, by rw [HQ.out, hda.out, hdb.out]; go_light; simp_all [eqIt], _, rfl⟩
          case measure => simp [intOf]; omega
      · go_wp2
        go_ret
        exact RetQ.bool (by rw [HQ.out, List.drop_of_length_le (by omega), List.drop_of_length_le (by have := HL.out; omega)]; rfl) ⟨_, rfl⟩
  · have h1 : ((a.length : Int) != (b.length : Int)) = true := by simp; omega
    have HL := Lib.hid hl; clear hl
    go_enter Tryz.func13, Tryz.ntmps13
    go_wp2
    go_ret
    exact RetQ.bool (eqIt_len HL.out).symm ⟨0, rfl⟩
end Go.Proofs.YtgoeedohgomodaaGreatDoor
namespace Go.Proofs.YtgoeedohgomodaaGreatDoor
open Go.RowKit
set_option linter.unusedVariables false
set_option linter.unusedSimpArgs false
def wordU (x : ItemV) : List UInt8 :=
  if x.kind = 1 ∨ x.kind = 8 then withB x.name 47 x.trans else if x.kind = 5 then [68, 67, 84] else if x.kind = 3 ∨ x.kind = 4 then x.name else
  (if x.kind = 7 then [80, 61] else if x.kind = 6 then [65, 61] else [68, 61]) ++ withB x.name 46 x.trans
def ItemV.okK (x : ItemV) : Prop := 1 ≤ x.kind ∧ x.kind ≤ 8
theorem wordU_ok {x : ItemV} (h : x.okK) : wordU x = wordT x := by
  obtain ⟨k, s, t⟩ := x
  obtain ⟨h1, h2⟩ := h
  simp only at h1 h2
  have hk : k = 1 ∨ k = 2 ∨ k = 3 ∨ k = 4 ∨ k = 5 ∨ k = 6 ∨ k = 7 ∨ k = 8 := by omega
  rcases hk with rfl | rfl | rfl | rfl | rfl | rfl | rfl | rfl <;> simp [wordU, wordT]
theorem itemS_okK {s : List UInt8} {x : ItemV} (h : itemS s = some x) : x.okK := by
  unfold itemS at h
  split at h
  · split at h
    · cases h
    · rename_i h2
      injection h with h
      subst h
      have hn : letterK (s.getD 0 0) ≠ 0 := fun e => h2 (.inl e)
      unfold ItemV.okK
      simp only
      unfold letterK at hn ⊢
      repeat' split
      all_goals (first | omega | (simp_all; done))
  · split at h
    · injection h with h; subst h; unfold ItemV.okK; simp
    split at h
    · injection h with h; subst h; unfold ItemV.okK; simp
    split at h
    · injection h with h; subst h; unfold ItemV.okK; simp
    · cases h
theorem wordI_okK {n i : Nat} {s : List UInt8} {x : ItemV} (h : wordI n i s = some x) : x.okK := by
  unfold wordI at h
  split at h
  · split at h
    · injection h with h
      subst h
      unfold ItemV.okK
      simp only
      split <;> omega
    · cases h
  · exact itemS_okK h
theorem parse_okK {s : List UInt8} (h : (routeParse s).2 = 0) : ∀ x ∈ (routeParse s).1.1, x.okK := by
  intro x hx
  obtain ⟨⟨hl, ho⟩, _⟩ := parse_ok h
  obtain ⟨i, hi, rfl⟩ := List.mem_iff_getElem.1 hx
  exact wordI_okK (ho i (by rw [← hl]; exact hi) hi).1
def joinU (l : List ItemV) : List UInt8 := Lib.join (l.map wordU) [32]
def textU (l : List ItemV) : List UInt8 := if 124 < l.length then [] else if (routeParse (joinU l)).2 ≠ 0 ∨ (routeParse (joinU l)).1.1 ≠ l then [] else joinU l
theorem textU_eq (l : List ItemV) : textU l = routeText l := by
  unfold textU routeText
  by_cases hk : ∀ x ∈ l, x.okK
  · have e : joinU l = joinT l := by
      unfold joinU joinT
      rw [List.map_congr_left fun x hx => wordU_ok (hk x hx)]
    rw [e]
  · have hb : ∀ s, (routeParse s).2 ≠ 0 ∨ (routeParse s).1.1 ≠ l := fun s => by
      by_cases h : (routeParse s).2 = 0
      · exact .inr fun e => hk (by rw [← e]; exact parse_okK h)
      · exact .inl h
    rw [if_pos (hb _), if_pos (hb _)]
end Go.Proofs.YtgoeedohgomodaaGreatDoor
namespace Go.Proofs.YtgoeedohgomodaaGreatDoor
open Go.RowKit Go.Sort
set_option linter.unusedVariables false
set_option linter.unusedSimpArgs false
set_option maxRecDepth 100000
attribute [local go_sem] ba_append 
theorem rway_any (x : ItemV) (hx : x.small) (w : World) : Calls Tryz.prog 87 #[.agg x.arr] w (Ret w (.string ⟨(withB x.name 46 x.trans).toArray⟩)) := by
  obtain ⟨k, s, t⟩ := x
  obtain ⟨hs, ht⟩ := hx
  dsimp only at hs ht ⊢
  have HW := Lib.hid (show withB s 46 t = if t.isEmpty then s else s ++ 46 :: t from rfl)
  generalize withB s 46 t = v at *
  have h1 : ¬ 9223372036854775807 < s.length + 1 := by omega
  have h2 : ¬ 9223372036854775807 < s.length + 1 + t.length := by omega
  go_enter Tryz.func87, Tryz.ntmps87
  go_upto_region 1 with (fail)
  have A0 := Blk.new w (ItemV.arr ⟨k, s, t⟩) 57
  have D0 := alloc_belowR w (.cells (ItemV.arr ⟨k, s, t⟩) 57)
  generalize w.alloc _ = W0 at A0 D0 ⊢
  obtain ⟨g, hg⟩ : ∃ g, g = w.heap.size := ⟨_, rfl⟩
  rw [← hg] at A0 ⊢
  clear hg
  have c1 : W0.cell? ⟨g, 1, none⟩ = some (.string ⟨s.toArray⟩) := A0.cell 1
  have c2 : W0.cell? ⟨g, 2, none⟩ = some (.string ⟨t.toArray⟩) := A0.cell 2
  clear A0
  cases t with
  | nil =>
    go_wp2
    go_ret
    exact Ret.str (by rw [HW.out]; rfl) D0
  | cons x r =>
    go_wp2
    go_ret
    exact Ret.str (by rw [HW.out]; rfl) D0
theorem ba_twoU (a b : UInt8) (l : List UInt8) : (ByteArray.mk #[a, b]) ++ (ByteArray.mk l.toArray) = ⟨(a :: b :: l).toArray⟩ := ba_append [a, b] l
attribute [local go_sem ↓] ba_twoU
set_option maxHeartbeats 4000000 in
theorem rword22_any (x : ItemV) (hx : x.small) (w : World) : Calls Tryz.prog 43 #[.agg x.arr] w (Ret w (.string ⟨(wordU x).toArray⟩)) := by
  have KY := Lib.hid (fun W => rway_any x hx W)
  obtain ⟨k, s, t⟩ := x
  obtain ⟨hs, ht⟩ := hx
  dsimp only at hs ht KY
  have HW := Lib.hid (show wordU ⟨k, s, t⟩ = if k = 1 ∨ k = 8 then withB s 47 t else if k = 5 then [68, 67, 84] else if k = 3 ∨ k = 4 then s else (if k = 7 then [80, 61] else if k = 6 then [65, 61] else [68, 61]) ++ withB s 46 t from rfl)
  have l46 := withB_lenR s 46 t
  have hb : ¬ 9223372036854775807 < 2 + (withB s 46 t).length := by omega
  have h1 : ¬ 9223372036854775807 < s.length + 1 := by omega
  have h2 : ¬ 9223372036854775807 < s.length + 1 + t.length := by omega
  have HX := Lib.hid (show withB s 47 t = if t.isEmpty then s else s ++ 47 :: t from rfl)
  generalize withB s 47 t = w47 at *
  generalize withB s 46 t = w46 at *
  generalize wordU ⟨k, s, t⟩ = v at *
  clear l46
  go_enter Tryz.func43, Tryz.ntmps43
  go_upto_region 1 with (fail)
  have A0 := Blk.new w (ItemV.arr ⟨k, s, t⟩) 57
  have D0 := alloc_belowR w (.cells (ItemV.arr ⟨k, s, t⟩) 57)
  generalize w.alloc _ = W0 at A0 D0 ⊢
  obtain ⟨g, hg⟩ : ∃ g, g = w.heap.size := ⟨_, rfl⟩
  rw [← hg] at A0 ⊢
  clear hg
  have c0 : W0.cell? ⟨g, 0, none⟩ = some (.int .u8 k) := A0.cell 0
  have c1 : W0.cell? ⟨g, 1, none⟩ = some (.string ⟨s.toArray⟩) := A0.cell 1
  have c2 : W0.cell? ⟨g, 2, none⟩ = some (.string ⟨t.toArray⟩) := A0.cell 2
  have z1 : Has_itm W0 g 0 := ⟨_, A0.is_itm⟩
  have z2 : of_itm W0 g 0 = ⟨k, s, t⟩ := of_itm_eq A0.is_itm
  clear A0
  by_cases n1 : k = 1
  · have HV := Lib.hid (show v = w47 by rw [HW.out, if_pos (.inl n1)])
    subst n1
    clear z1 z2 KY HW
    cases t with
    | nil =>
      go_wp2
      go_ret
      exact Ret.str (by rw [HV.out, HX.out]; rfl) D0
    | cons a r =>
      go_wp2
      go_ret
      exact Ret.str (by rw [HV.out, HX.out]; rfl) D0
  by_cases n8 : k = 8
  · have HV := Lib.hid (show v = w47 by rw [HW.out, if_pos (.inr n8)])
    subst n8
    clear z1 z2 KY HW
    cases t with
    | nil =>
      go_wp2
      go_ret
      exact Ret.str (by rw [HV.out, HX.out]; rfl) D0
    | cons a r =>
      go_wp2
      go_ret
      exact Ret.str (by rw [HV.out, HX.out]; rfl) D0
  have HW := Lib.hid (HW.out.trans (if_neg (by omega)))
  have e1 : (k == 1) = false := by simpa using n1
  have e8 : (k == 8) = false := by simpa using n8
  by_cases n5 : k = 5
  · have HV := Lib.hid (show v = [68, 67, 84] by rw [HW.out, if_pos n5])
    subst n5
    clear z1 z2 KY e1 e8 HW
    go_wp2
    go_ret
    exact Ret.str (by rw [HV.out]) D0
  have HW := Lib.hid (HW.out.trans (if_neg n5))
  have e5 : (k == 5) = false := by simpa using n5
  by_cases n3 : k = 3
  · have HV := Lib.hid (show v = s by rw [HW.out, if_pos (.inl n3)])
    subst n3
    clear z1 z2 KY e1 e8 e5 HW
    go_wp2
    go_ret
    exact Ret.str (by rw [HV.out]) D0
  by_cases n4 : k = 4
  · have HV := Lib.hid (show v = s by rw [HW.out, if_pos (.inr n4)])
    subst n4
    clear z1 z2 KY e1 e8 e5 HW
    go_wp2
    go_ret
    exact Ret.str (by rw [HV.out]) D0
  have HW := Lib.hid (HW.out.trans (if_neg (by omega)))
  have e3 : (k == 3) = false := by simpa using n3
  have e4 : (k == 4) = false := by simpa using n4
  by_cases n7 : k = 7
  · have HV := Lib.hid (show v = [80, 61] ++ w46 by rw [HW.out, if_pos n7])
    subst n7
    clear e1 e8 e5 e3 e4 HW
    go_wp2_with (go_at_call 87; (with_reducible refine callR (KY.out _) ?_); intro w3 b3 _ _ _)
    go_ret
    exact Ret.str (by rw [HV.out]; rfl) (below_step D0 b3)
  have HW := Lib.hid (HW.out.trans (by rw [if_neg n7]))
  have e7 : (k == 7) = false := by simpa using n7
  by_cases n6 : k = 6
  · have HV := Lib.hid (show v = [65, 61] ++ w46 by rw [HW.out, if_pos n6])
    subst n6
    clear e1 e8 e5 e3 e4 e7 HW
    go_wp2_with (go_at_call 87; (with_reducible refine callR (KY.out _) ?_); intro w3 b3 _ _ _)
    go_ret
    exact Ret.str (by rw [HV.out]; rfl) (below_step D0 b3)
  have e6 : (k == 6) = false := by simpa using n6
  have HV := Lib.hid (show v = [68, 61] ++ w46 by rw [HW.out, if_neg n6])
  clear HW n1 n8 n5 n3 n4 n7 n6
  go_wp2_with (go_at_call 87; (with_reducible refine callR (KY.out _) ?_); intro w3 b3 _ _ _)
  go_ret
  exact Ret.str (by rw [HV.out]; rfl) (below_step D0 b3)
end Go.Proofs.YtgoeedohgomodaaGreatDoor
namespace Go.Proofs.YtgoeedohgomodaaGreatDoor
open Go.RowKit Go.Sort
set_option linter.unusedVariables false
set_option linter.unusedSimpArgs false
set_option maxRecDepth 100000
theorem join_snocU (ws : List (List UInt8)) (s : List UInt8) (h : ws ≠ []) : Lib.join (ws ++ [s]) [32] = Lib.join ws [32] ++ 32 :: s := by
  cases ws with
  | nil => exact absurd rfl h
  | cons x r => rw [List.cons_append, Lib.join_cons, Lib.join_cons]; simp [Lib.joinTail]
def ItemV.mid (x : ItemV) : Prop := x.name.length ≤ 1100000 ∧ x.trans.length ≤ 1100000
theorem ItemV.mid.small {x : ItemV} (h : x.mid) : x.small := ⟨by have := h.1; omega, by have := h.2; omega⟩
theorem wordU_len {x : ItemV} (h : x.mid) : (wordU x).length ≤ 2200010 := by
  obtain ⟨k, s, t⟩ := x
  obtain ⟨h1, h2⟩ := h
  simp only at h1 h2
  have a := withB_lenR s 47 t
  have b := withB_lenR s 46 t
  unfold wordU
  simp only
  repeat' split
  all_goals (first | omega | (simp only [List.length_append, List.length_cons, List.length_nil]; omega))
theorem accU {a b k : Nat} (h : a ≤ k * 2200011) (hb : b ≤ 2200010) : a + (b + 1) ≤ (k + 1) * 2200011 := by
  rw [Nat.succ_mul]; exact Nat.add_le_add h (Nat.succ_le_succ hb)
theorem accM {a k : Nat} (h : a ≤ k * 2200011) (hk : k ≤ 124) : a ≤ 272801364 := Nat.le_trans h (Nat.mul_le_mul_right 2200011 hk)
theorem routeParse_mostR (s : List UInt8) : (routeParse s).1.1.length ≤ 124 := by
  by_cases h : (routeParse s).2 = 0
  · exact routeParse_len h
  · rw [routeParse_none h]; simp
attribute [local go_sem] ba_append 
set_option maxHeartbeats 8000000 in
theorem rtext22_any (l : List ItemV) (A : Option Addr) (c : Nat) (w : World) (hI : Items w A 3 (l.map ItemV.arr)) (hc : l.length ≤ c) (hl : l.length ≤ 4000000000) (hs : ∀ x ∈ l, x.mid) :
    Calls Tryz.prog 26 #[.slice A l.length c] w (Ret w (.string ⟨(routeText l).toArray⟩)) := by
  have HO := Lib.hid (show routeText l = if 124 < l.length then [] else if (routeParse (joinU l)).2 ≠ 0 ∨ (routeParse (joinU l)).1.1 ≠ l then [] else joinU l from (textU_eq l).symm)
  generalize routeText l = OUT at *
  by_cases h124 : 124 < l.length
  · have HE := Lib.hid (HO.out.trans (if_pos h124))
    have h1 : (124 : Int) < (l.length : Int) := by omega
    clear HO h124
    go_enter Tryz.func26, Tryz.ntmps26
    go_wp2
    go_ret
    exact Ret.str (by rw [HE.out]) (Below.refl _ _)
  have HO := Lib.hid (HO.out.trans (if_neg h124))
  have h1 : ¬ (124 : Int) < (l.length : Int) := by omega
  have hlen : l.length ≤ 124 := by omega
  clear h124
  have HI := Lib.hid hI
  have HSH := Lib.hid hs
  clear hI hs
  go_enter Tryz.func26, Tryz.ntmps26
  go_wp2
  go_loopw [14, 3] (fun iv v wr => ∃ (k : Nat) (acc : List UInt8), k ≤ l.length ∧ iv = .int .i64 k ∧ v = .string ⟨acc.toArray⟩ ∧ acc = Lib.join ((l.take k).map wordU) [32] ∧ acc.length ≤ k * 2200011 ∧ Below w.heap.size w wr) (fun iv _ _ => l.length - (intOf iv).toNat)
  case atStart => exact ⟨0, [], Nat.zero_le _, rfl, rfl, rfl, Nat.zero_le _, Below.refl _ _⟩
  case round =>
    obtain ⟨k, acc, hk, rfl, rfl, hacc, hal, BW⟩ := hrel
    have HA := Lib.hid hacc
    have HAL := Lib.hid hal
    have ham := accM hal (by omega)
    clear hacc hal
    by_cases hlt : k < l.length
    · obtain ⟨b, off, hA, hb, hIs⟩ := HI.out.itm hlt
      have hIs := hIs wr BW
      have HT := Lib.hid (show (l.take (k + 1)).map wordU = (l.take k).map wordU ++ [wordU l[k]] by rw [List.take_succ_eq_append_getElem hlt, List.map_append]; rfl)
      have hsh := HSH.out _ (List.getElem_mem hlt)
      have HK := Lib.hid (show (l.take k).map wordU = [] ↔ k = 0 by
        rw [List.map_eq_nil_iff, List.take_eq_nil_iff]
        constructor
        · rintro (h | h)
          · exact h
          · rw [h] at hlt; simp at hlt
        · exact .inl)
      generalize l[k] = x at *
      have hx := hsh.small
      have hwl := wordU_len hsh
      subst hA
      have i1 : Has_itm wr b (off + k * 3) := ⟨_, hIs⟩
      have i2 : of_itm wr b (off + k * 3) = x := of_itm_eq hIs
      have hlt' : (k : Int) < (l.length : Int) := by omega
      have hkc : k < c := by omega
      have A3 : Blk (wr.alloc (.cells #[.int .u8 0, .string ⟨#[]⟩, .string ⟨#[]⟩] 57)) wr.heap.size noItem.arr := Blk.new wr noItem.arr 57
      have f0 := A3.plain
      have f1 := A3.of
      have f2 := A3.lt
      go_upto_region 7 with (fail)
      have A4 : Blk ((wr.alloc (.cells #[.int .u8 0, .string ⟨#[]⟩, .string ⟨#[]⟩] 57)).setRow wr.heap.size x.arr) wr.heap.size x.arr := A3.set _
      have D4 : Below wr.heap.size wr ((wr.alloc (.cells #[.int .u8 0, .string ⟨#[]⟩, .string ⟨#[]⟩] 57)).setRow wr.heap.size x.arr) := below_setRow' (alloc_belowR wr _) (Nat.le_refl _) _
      have B4 := below_step BW D4
      clear A3 f0 f1 f2 i1 i2 hIs hb D4 BW
      obtain ⟨q, hq⟩ : ∃ q, q = wr.heap.size := ⟨_, rfl⟩
      rw [← hq] at A4 B4 ⊢
      clear hq
      generalize (wr.alloc _).setRow _ _ = w4 at A4 B4 ⊢
      have z1 : Has_itm w4 q 0 := ⟨_, A4.is_itm⟩
      have z2 : of_itm w4 q 0 = x := of_itm_eq A4.is_itm
      have K := Lib.hid (rword22_any x hx)
      have HWL := Lib.hid hwl
      have q1 : ¬ 9223372036854775807 < acc.length + 1 := by omega
      have q2 : ¬ 9223372036854775807 < acc.length + 1 + (wordU x).length := by omega
      have q3 : ¬ 9223372036854775807 < acc.length + (1 + (wordU x).length) := by omega
      have q4 : ¬ 9223372036854775807 < acc.length + (wordU x).length := by omega
      have q5 : ¬ 9223372036854775807 < acc.length + ((wordU x).length + 1) := by omega
      generalize wordU x = wd at *
      by_cases h0 : k = 0
      · have e0 : ¬ (0 : Int) < (k : Int) := by omega
        have HN := Lib.hid (show acc ++ wd = Lib.join ((l.take (k + 1)).map wordU) [32] by rw [HT.out, HA.out, HK.out.2 h0]; simp [Lib.join_nil, Lib.join_one])
        clear h0 HA HK HT
        go_wp2_with (go_at_call 43; (with_reducible refine callR (K.out _) ?_); intro w5 b5 _ _ _)
        go_roundw
        case rel => exact ⟨k + 1, acc ++ wd, by omega, by go_num, rfl, HN.out, by rw [List.length_append]; exact Nat.le_trans (Nat.add_le_add_left (Nat.le_succ _) _) (accU HAL.out HWL.out), below_step B4 b5⟩
        case measure => simp [intOf]; omega
      · have e0 : (0 : Int) < (k : Int) := by omega
        have HN := Lib.hid (show acc ++ 32 :: wd = Lib.join ((l.take (k + 1)).map wordU) [32] by rw [HT.out, join_snocU _ _ (fun h => h0 (HK.out.1 h)), ← HA.out])
        clear h0 HA HK HT
        go_wp2_with (go_at_call 43; (with_reducible refine callR (K.out _) ?_); intro w5 b5 _ _ _)
        go_roundw
        case rel => exact ⟨k + 1, acc ++ 32 :: wd, by omega, by go_num, by simp, HN.out, by rw [List.length_append, List.length_cons]; exact accU HAL.out HWL.out, below_step B4 b5⟩
        case measure => simp [intOf]; omega
    · obtain rfl : k = l.length := by omega
      have hlt' : ¬ (l.length : Int) < (l.length : Int) := by omega
      have HA := Lib.hid (show acc = joinU l by rw [HA.out, List.take_length]; rfl)
      rw [← HA.out] at HO
      have KP := Lib.hid (fun W => rparse22_any acc (by omega) W)
      have h6 := routeParse_mostR acc
      have HY := Lib.hid (fun (h : (routeParse acc).2 ≠ 0) => HO.out.trans (if_pos (Or.inl h)))
      have HX := Lib.hid (fun (h : (routeParse acc).1.1 ≠ l) => HO.out.trans (if_pos (Or.inr h)))
      have HZ := Lib.hid (fun (h : ¬ ((routeParse acc).2 ≠ 0 ∨ (routeParse acc).1.1 ≠ l)) => HO.out.trans (if_neg h))
      clear HO HA HSH
      generalize routeParse acc = r at *
      obtain ⟨⟨its, n1⟩, n2⟩ := r
      have h9 : its.length ≤ 4000000000 := Nat.le_trans h6 (by omega)
      by_cases hn : n2 = 0
      · subst hn
        cases hq : eqIt l its with
        | true =>
          have HE := Lib.hid (show OUT = acc from HZ.out (by rintro (h | h); exact h rfl; exact h ((eqIt_iff l its).1 hq).symm))
          have HQ5 := Lib.hid (fun A5 c5 w5 (h5 : its.length ≤ c5) (I5 : Items w5 A5 3 (its.map ItemV.arr)) (B5 : Below w.heap.size w w5) => show Calls Tryz.prog 13 #[.slice A l.length c, .slice A5 its.length c5] w5 (RetQ w5 (.bool true)) from hq ▸ same22_any l its A A5 c c5 w5 hl h9 hc h5 (HI.out.below B5) I5)
          clear HX HY HZ hq
          go_wp2_with (first
            | (go_at_call 12; (with_reducible refine callItms (KP.out _) ?_); intro A5 c5 w5 h5 I5 g5 b5)
            | (go_at_call 13; (with_reducible refine callQ (HQ5.out A5 c5 w5 h5 I5 (below_step BW b5)) ?_); intro n7))
          go_ret
          exact Ret.str (by rw [HE.out]) (below_drewN (below_step BW b5) _)
        | false =>
          have HE := Lib.hid (show OUT = [] from HX.out (fun h => by rw [(eqIt_iff l its).2 h.symm] at hq; cases hq))
          have HQ5 := Lib.hid (fun A5 c5 w5 (h5 : its.length ≤ c5) (I5 : Items w5 A5 3 (its.map ItemV.arr)) (B5 : Below w.heap.size w w5) => show Calls Tryz.prog 13 #[.slice A l.length c, .slice A5 its.length c5] w5 (RetQ w5 (.bool false)) from hq ▸ same22_any l its A A5 c c5 w5 hl h9 hc h5 (HI.out.below B5) I5)
          clear HX HY HZ hq
          go_wp2_with (first
            | (go_at_call 12; (with_reducible refine callItms (KP.out _) ?_); intro A5 c5 w5 h5 I5 g5 b5)
            | (go_at_call 13; (with_reducible refine callQ (HQ5.out A5 c5 w5 h5 I5 (below_step BW b5)) ?_); intro n7))
          go_ret
          exact Ret.str (by rw [HE.out]) (below_drewN (below_step BW b5) _)
      · have HE := Lib.hid (HY.out hn)
        have hn' : (n2 != 0) = true := by simpa using hn
        clear HX HY HZ hn
        go_wp2_with (go_at_call 12; (with_reducible refine callItms (KP.out _) ?_); intro A5 c5 w5 h5 I5 g5 b5)
        go_ret
        exact Ret.str (by rw [HE.out]) (below_step BW b5)
end Go.Proofs.YtgoeedohgomodaaGreatDoor
namespace Go.Proofs.YtgoeedohgomodaaGreatDoor
open Go.RowKit Go.Sort
set_option linter.unusedVariables false
set_option linter.unusedSimpArgs false
set_option maxRecDepth 100000
theorem routeText_len {l : List ItemV} (hs : ∀ x ∈ l, x.short) : (routeText l).length ≤ 4000000000 := by
  unfold routeText
  split
  · simp
  rename_i h1
  split
  · simp
  have hbig : ∀ s ∈ l.map wordT, s.length ≤ 20000000 := fun s h => by
    obtain ⟨x, hx, rfl⟩ := List.mem_map.1 h
    exact wordT_len (hs x hx)
  have hjl := join_len_le (l.map wordT) [32] 20000000 hbig
  have h2 : (20000000 + [(32 : UInt8)].length) * (l.map wordT).length ≤ 20000001 * 124 := Nat.mul_le_mul (by simp) (by rw [List.length_map]; omega)
  unfold joinT
  omega
set_option maxHeartbeats 8000000 in
theorem lawRtText_any (s : List UInt8) (l : List ItemV) (A : Option Addr) (c : Nat) (w : World) (hL : Laid w) (hs : s.length ≤ 4000000) (hl : l.length ≤ 4000000) (hc : l.length ≤ c) (hI : Items w A 3 (l.map ItemV.arr)) (hx : ∀ x ∈ l, x.mid) :
    Calls Tryz.prog 8 #[.string ⟨s.toArray⟩, .slice A l.length c] w (Ret w (.bool true)) := by
  have KA := Lib.hid (fun W (b : Below w.heap.size w W) => awake22_any W (hL.below b))
  have KP := Lib.hid (fun W (b : Below w.heap.size w W) => rparse_any s (by omega) W (hL.below b))
  have hsh : ∀ x ∈ l, x.short := fun x h => ⟨by have := (hx x h).1; omega, by have := (hx x h).2; omega⟩
  have KT := Lib.hid (fun W (b : Below w.heap.size w W) => rtext_any l A c W (hL.below b) (hI.below b) hc (by omega) hsh)
  have KU := Lib.hid (fun W (b : Below w.heap.size w W) => rtext22_any l A c W (hI.below b) hc (by omega) hx)
  have hm := routeParse_mostR s
  have HBK := Lib.hid (fun h => route_back (s := s) h)
  have HSH := Lib.hid (route_short hs)
  have KX := Lib.hid (fun A2 c2 W (b : Below w.heap.size w W) (h2 : (routeParse s).1.1.length ≤ c2) (I2 : Items W A2 3 ((routeParse s).1.1.map ItemV.arr)) => rtext_any (routeParse s).1.1 A2 c2 W (hL.below b) I2 h2 (by omega) HSH.out)
  have HTX := Lib.hid (fun h => route_text (l := l) h)
  have hlen := routeText_len hsh
  generalize hr : routeParse s = r at *
  clear hr
  obtain ⟨⟨its, i1⟩, n1⟩ := r
  have KQ := Lib.hid (fun W (b : Below w.heap.size w W) => rparse_any (routeText l) hlen W (hL.below b))
  have hm2 := routeParse_mostR (routeText l)
  generalize routeText l = t at *
  generalize routeParse t = r2 at *
  obtain ⟨⟨its2, i2⟩, n2⟩ := r2
  have hm2 : its2.length ≤ 124 := hm2
  have KS := Lib.hid (fun A2 c2 W (b : Below w.heap.size w W) (h2 : its2.length ≤ c2) (I2 : Items W A2 3 (its2.map ItemV.arr)) => same22_any l its2 A A2 c c2 W (by omega) (by omega) hc h2 (hI.below b) I2)
  clear hL hI hx hsh hm hlen HSH
  go_enter Tryz.func8, Tryz.ntmps8
  go_upto_region 3 with (go_at_call 10; (with_reducible refine callR (KA.out _ (Below.refl _ _)) ?_); intro w1 b1 _ _ _)
  have B1 := Lib.hid b1
  clear KA b1
  by_cases h4 : 4000 < s.length
  · have e4 : (4000 : Int) < (s.length : Int) := by omega
    go_wp2
    go_ret
    exact Ret.bool rfl B1.out
  have e4 : ¬ (4000 : Int) < (s.length : Int) := by omega
  by_cases h3 : 300 < l.length
  · have e3 : (300 : Int) < (l.length : Int) := by omega
    go_wp2
    go_ret
    exact Ret.bool rfl B1.out
  have e3 : ¬ (300 : Int) < (l.length : Int) := by omega
  clear h4 h3
  go_upto_region 6 with (go_at_call 11; (with_reducible refine callItms (KP.out _ B1.out) ?_); intro A2 c2 w2 hc2 I2 _ b2)
  have B2 := Lib.hid (below_step B1.out b2)
  have kx := Lib.hid (KX.out A2 c2 w2 B2.out hc2 I2)
  clear KX KP I2 hc2 b2 e3 e4
  go_cut [35] (fun e wx => e = .bool false ∧ Below w.heap.size w wx)
  case first =>
    by_cases hn : n1 = 0
    · have hb := HBK.out hn
      rw [hb] at kx
      clear hb
      subst hn
      go_wp2_with (go_at_call 25; (with_reducible refine callR kx.out ?_); intro w3 b3 _ _ _)
      go_meet
      exact ⟨by simp, below_step B2.out b3⟩
    · have hn' : (n1 == 0) = false := by simpa using hn
      clear hn kx
      go_wp2
      go_meet
      exact ⟨rfl, B2.out⟩
  case rest =>
  obtain ⟨rfl, B3⟩ := hcut
  generalize wc = w3 at *
  clear kx HBK B2
  go_upto_region 9 with (go_at_call 25; (with_reducible refine callR (KT.out _ B3) ?_); intro w4 b4 _ _ _)
  have B4 := Lib.hid (below_step B3 b4)
  clear KT b4 B3
  go_upto_region 11 with (go_at_call 26; (with_reducible refine callR (KU.out _ B4.out) ?_); intro w5 b5 _ _ _)
  have B5 := Lib.hid (below_step B4.out b5)
  clear KU b5 B4
  by_cases h0 : t = []
  · subst h0
    clear KQ KS HTX
    go_wp2
    go_ret
    exact Ret.bool rfl B5.out
  have e0 : (t == []) = false := by simpa using h0
  have e0' : t.isEmpty = false := by simpa using h0
  obtain ⟨hn2, hi2⟩ := HTX.out h0
  replace hn2 : n2 = 0 := hn2
  replace hi2 : its2 = l := hi2
  subst hn2
  subst hi2
  clear h0 HTX
  rw [(eqIt_iff its2 its2).2 rfl] at KS
  go_upto_region 14 with (go_at_call 11; (with_reducible refine callItms (KQ.out _ B5.out) ?_); intro A6 c6 w6 hc6 I6 _ b6)
  have B6 := Lib.hid (below_step B5.out b6)
  have ks := Lib.hid (KS.out A6 c6 w6 B6.out hc6 I6)
  clear KS KQ I6 hc6 b6
  go_wp2_with (go_at_call 13; (with_reducible refine callQ ks.out ?_); intro n7)
  go_ret
  exact Ret.bool rfl (below_drewN B6.out n7)
end Go.Proofs.YtgoeedohgomodaaGreatDoor
namespace Go.Proofs.YtgoeedohgomodaaGreatDoor
open Go.RowKit Go.ChangeShapes Go.WideShapes Go.Deep
set_option linter.unusedVariables false
set_option linter.unusedSimpArgs false
theorem cells_itm_1 : Tryz.prog.cellsOf 55 = 1 := by kernel_rfl
theorem cells_itm : Tryz.prog.cellsOf 57 = 3 := by kernel_rfl
def ItemV.bnd (x : ItemV) (N : Nat) : Prop := x.name.length ≤ N ∧ x.trans.length ≤ N
section
variable {H : Type} {enc : TypeId × Value → H} {w : World} {base : Nat} {spare : Nat → Bool} {held : Bool}
theorem list_n_itm {α : Type _} {l : List α} (h : l.length = 3) : ∃ x0 x1 x2, l = [x0, x1, x2] := by
  match l, h with
  | [x0, x1, x2], _ => exact ⟨x0, x1, x2, rfl⟩
theorem open_itm {fuel : Nat} {cs : List Value} {y : DataW H × List MemPlace} (h : DataW.trod enc Tryz.prog w base spare held fuel 57 cs = some y) : ∃ x : ItemV, cs = x.arr.toList ∧ x.bnd (Rows.uptoBulk y.1) := by
  obtain ⟨xs, n, _, hx, hlen, hxl, hf⟩ := DataW.trod_struct Tryz.underlying57 h
  rw [cells_itm] at hlen
  obtain ⟨c0, c1, c2, rfl⟩ := list_n_itm hlen
  obtain ⟨y0, y1, y2, rfl⟩ := list_n_itm hxl
  have g0 := fld hf 0 55 0 1 rfl cells_itm_1
  have g1 := fld hf 1 9 1 1 rfl cells_str
  have g2 := fld hf 2 9 2 1 rfl cells_str
  simp only [List.drop_succ_cons, List.drop_zero, List.take_succ_cons, List.take_zero, List.getElem?_cons_succ, List.getElem?_cons_zero] at g0 g1 g2
  obtain ⟨v0, e0, _⟩ := DataW.trod_int Tryz.underlying55 g0
  obtain ⟨v1, e1, b1⟩ := open_str g1
  obtain ⟨v2, e2, b2⟩ := open_str g2
  simp only [List.cons.injEq, and_true] at e0
  have hy : Rows.uptoBulk y.1 = Rows.uptoBulkAll [y0.1, y1.1, y2.1] + 1 := by rw [hx]; simp [Rows.uptoBulk]
  have p1 : Rows.uptoBulk y1.1 ≤ Rows.uptoBulkAll [y0.1, y1.1, y2.1] := bulk_part (by simp)
  have p2 : Rows.uptoBulk y2.1 ≤ Rows.uptoBulkAll [y0.1, y1.1, y2.1] := bulk_part (by simp)
  refine ⟨⟨v0, v1, v2⟩, ?_, ?_⟩
  · have e : [c0, c1, c2] = [c0] ++ [c1] ++ [c2] := rfl
    rw [e, e0, e1, e2]
    rfl
  · exact ⟨by show v1.length ≤ _; omega, by show v2.length ≤ _; omega⟩
end
theorem ItemV.bnd.mono {x : ItemV} {a b : Nat} (h : x.bnd a) (hab : a ≤ b) : x.bnd b := ⟨Nat.le_trans h.1 hab, Nat.le_trans h.2 hab⟩
section
variable {H : Type} {enc : TypeId × Value → H} {w : World} {base : Nat} {spare : Nat → Bool} {held : Bool}
set_option maxRecDepth 100000 in
theorem open_itmsT {r : Reach} {b0 : Nat} {v : Value} {d : DataW H} {ps : List MemPlace} (hv : Value.okWide Tryz.prog w r b0 23 v) (h : DataW.Trod enc Tryz.prog w base spare held 23 v d ps) :
    ∃ (l : List ItemV) (A : Option Addr) (c : Nat), v = .slice A l.length c ∧ l.length ≤ c ∧ Items w A 3 (l.map ItemV.arr) ∧ l.length ≤ Rows.uptoBulk d ∧ ∀ x ∈ l, x.bnd (Rows.uptoBulk d) := by
  obtain ⟨fuel, hf⟩ := h
  obtain ⟨a0, l0, c0, rfl⟩ := okWide_slice Tryz.underlying23 hv
  have hc1 : (Value.slice a0 l0 c0).cells.toList = [.slice a0 l0 c0] := rfl
  rw [hc1] at hf
  obtain ⟨l, A, c, e, hc, _, hI, b1, b2⟩ := open_items ItemV.arr ItemV.bnd (fun x a b hab h => h.mono hab) Tryz.underlying23 cells_itm (by omega) ItemV.arr_sz (fun h => open_itm h) hf
  exact ⟨l, A, c, e, hc, hI, b1, b2⟩
end
end Go.Proofs.YtgoeedohgomodaaGreatDoor
namespace Go.Proofs.YtgoeedohgomodaaGreatDoor
open Go.RowKit Go.ChangeShapes Go.WideShapes Go.Deep
set_option linter.unusedVariables false
set_option linter.unusedSimpArgs false
theorem laid22_of {W : World} {l : List (String × DataW Unit)} (h : laidMet Tryz.prog l W) (hsh : W.ShapedOpen Tryz.prog) (h1 : ("flightdeck/leg.uses", Lib.tabData .u16 usesTab) ∈ l) : Laid W := by
  obtain ⟨ps, hv, _, _⟩ := h
  have t1 := tab_of hv gUses (t := 194) (by kernel_rfl) Tryz.underlying194 Tryz.underlying193 (by kernel_rfl) (by kernel_rfl) h1
  exact ⟨fun k hk => t1.cell gUses k hk, Go.Proofs.cell_of_shapedOpen_int (zero := #[.int .i64 0]) (t := 3) hsh (of_decide_eq_true (by kernel_rfl)) (by kernel_rfl) rfl (by kernel_rfl) (by kernel_rfl) Tryz.underlying3⟩
end Go.Proofs.YtgoeedohgomodaaGreatDoor
namespace Go.Proofs.YtgoeedohgomodaaGreatDoor.routeText
open Go.ChangeShapes Go.WideShapes Go.ChangeAt Go.RowKit
set_option linter.unusedVariables false
set_option linter.unusedSimpArgs false
theorem own : ownKnob Tryz.prog.godebug = none := by kernel_rfl
theorem laidOut : laidOutB Tryz.prog = true := by kernel_rfl
theorem opens {W : World} (h : laidMetH Tryz.prog Rows.routeTextUptoRow.laid W) (hsh : W.ShapedOpen Tryz.prog) : Laid W :=
  laid22_of (l := Rows.routeTextUptoRow.laid) h hsh (by first | exact List.mem_of_getElem? (i := 0) rfl | exact List.mem_of_getElem? (i := 1) rfl | exact List.mem_of_getElem? (i := 2) rfl | exact List.mem_of_getElem? (i := 3) rfl | exact List.mem_of_getElem? (i := 4) rfl | exact List.mem_of_getElem? (i := 5) rfl | exact List.mem_of_getElem? (i := 6) rfl | exact List.mem_of_getElem? (i := 7) rfl | exact List.mem_of_getElem? (i := 8) rfl | exact List.mem_of_getElem? (i := 9) rfl | exact List.mem_of_getElem? (i := 10) rfl | exact List.mem_of_getElem? (i := 11) rfl | exact List.mem_of_getElem? (i := 12) rfl | exact List.mem_of_getElem? (i := 13) rfl)
set_option maxRecDepth 100000 in
theorem contract (H : Type) (enc : TypeId × Value → H) (W : World) (base : Nat) (args : Array Value) (ds gs : List (DataW H)) (before : List MemPlace)
    (hval : ∀ (j : Nat) t v, Tryz.f8.params[j]? = some t → args[j]? = some v → Value.okWide Tryz.prog W .any base t v)
    (hW : DataW.Whole enc Tryz.prog Tryz.f8.params.toList Rows.routeTextSpec.vars false W args.toList ds gs before) (hL : laidMetH Tryz.prog Rows.routeTextUptoRow.laid W) (hsh : W.ShapedOpen Tryz.prog) (hk : Rows.uptoSmall H (ds ++ gs) = true) :
    Calls Tryz.prog 8 args W fun e W' => ∃ v, e = .returned v ∧ Rows.routeTextSpec.post enc Tryz.prog Tryz.f8 false true false false W args v W' := by
  have OP := opens hL hsh
  have hW' := hW
  obtain ⟨p, q, hA0, hV, rfl, hfz, hnd⟩ := hW
  have hA : DataW.TrodAll enc Tryz.prog W 0 (fun _ => true) true Tryz.f8.params.toList args.toList ds p := hA0
  rw [Tryz.params8] at hA hval
  obtain ⟨v0, vs0, d0, ds0, pl0, ql0, hargs, rfl, rfl, h0, r0⟩ := trodAll_cons hA
  obtain ⟨v1, vs1, d1, ds1, pl1, ql1, rfl, rfl, rfl, h1, r1⟩ := trodAll_cons r0
  obtain ⟨rfl, rfl, rfl⟩ := trodAll_nil r1
  obtain rfl : args = #[v0, v1] := by cases args; simp_all
  obtain ⟨rfl, rfl⟩ := trodVars_none hV
  have hb := of_decide_eq_true hk
  simp only [List.append_nil, Rows.uptoBulkAll] at hb
  have hk0 := h0
  obtain ⟨s0, rfl, sl0⟩ := open_strX (hval 0 9 v0 rfl rfl) h0
  have hk1 := h1
  obtain ⟨l1, A1, c1, rfl, q1, I1, n1, b1⟩ := open_itmsT (hval 1 23 v1 rfl rfl) h1
  have walk := lawRtText_any s0 l1 A1 c1 W OP (by omega) (by omega) q1 I1 (fun x hx => ⟨by have := (b1 x hx).1; omega, by have := (b1 x hx).2; omega⟩)
  refine walk.mono fun e W' ⟨he, hg⟩ => ?_
  subst he
  have hl0 : ∀ x ∈ pl0, x.block < W.heap.size := fun x hx => by simpa using hW'.lt x (by simp [hx])
  have hl1 : ∀ x ∈ pl1, x.block < W.heap.size := fun x hx => by simpa using hW'.lt x (by simp [hx])
  refine ⟨_, rfl, _, _, _, [], (pl0 ++ (pl1 ++ [])), [], hW', ?_, ?_, rfl, ?_, fun h => by cases h⟩
  · exact trodAll_cons_mk (shut_bool Tryz.underlying4 _) trodAll_mk0
  · exact (trodAll_cons_mk (Below.trod laidOut (by kernel_rfl) (of_decide_eq_true (by kernel_rfl)) hk0 hg hl0) (trodAll_cons_mk (Below.trod laidOut (by kernel_rfl) (of_decide_eq_true (by kernel_rfl)) hk1 hg hl1) trodAll_mk0))
  · exact hg.frame _
theorem reads (os : Os) {H : Type} (enc : TypeId × Value → H) : ∃ places, DataW.whole enc Tryz.prog ((World.laidAll Tryz.prog os Rows.routeTextUptoRow.laid).forCall (fun _ _ => 0) ⟨#[], #[.string ⟨#[]⟩, .slice none 0 0], []⟩).memory Tryz.f8.params.toList Rows.routeTextSpec.vars false (#[.string ⟨#[]⟩, .slice none 0 0] : Array Value).toList 8 = some ([.lit (.string []), .nil], [], places) :=
  ⟨[], by kernel_rfl⟩
set_option maxRecDepth 100000 in
theorem liftedUpto (os : Os) (started : os.Started) (H : Type) (enc : TypeId × Value → H) (F : Stop.Interp) :
    ReturnsInHanded {} Tryz.checked os 8 .any ((Rows.OpenSpec.upto Rows.routeTextSpec).preRow enc Tryz.prog Tryz.f8 Rows.routeTextUptoRow.domain false Rows.routeTextUptoRow.laid) (((Rows.OpenSpec.upto Rows.routeTextSpec).at F).post enc Tryz.prog Tryz.f8 false true false false) := by
  obtain ⟨places, hx⟩ := reads os enc
  refine returnsInHanded_of_row (C := Tryz.checked) (s := Rows.OpenSpec.upto Rows.routeTextSpec) own started (by kernel_rfl) Tryz.func8
    (witness_row_atRef (enc := enc) (C := Tryz.checked) false (World.laidAll Tryz.prog os Rows.routeTextUptoRow.laid) #[.string ⟨#[]⟩, .slice none 0 0] (World.laidAll_os _ _ _) (by kernel_rfl) (by kernel_rfl) (by kernel_rfl)
      (OpenSpec.preRow_of_cond 8 hx (by kernel_rfl) (fun k hk => by cases hk; kernel_rfl) (by kernel_rfl) (laidMet_laidAll _ (by kernel_rfl) (by kernel_rfl)))) ?_
  intro W base args ds gs before hval hW _ hcond _ hL hsh _
  exact contract H enc W base args ds gs before hval hW hL hsh (hcond _ rfl)
set_option maxHeartbeats 40000000 in
theorem saidUpto : Rows.RouteTextUptoSaid :=
  OpenClaim.holds_of_cond 8 Tryz.f8 rfl rfl rfl rfl rfl rfl rfl ⟨rfl, rfl, rfl, rfl, rfl⟩ rfl rfl rfl rfl rfl (by as_aux_lemma => kernel_rfl) Tryz.func8 (by
      unfold joinedFacts
      simp only [Bool.and_eq_true]
      repeat' apply And.intro
      all_goals (as_aux_lemma => kernel_rfl))
    (of_decide_eq_true (by as_aux_lemma => kernel_rfl)) (by unfold Func.isWrapper; first | (rw [if_pos (by decide +kernel)]; kernel_rfl) | (rw [if_neg (by decide +kernel)]; exact ⟨rfl, rfl⟩))
    (fun os started H enc _ F => by rw [OpenClaim.pre_eq_preRow]; exact liftedUpto os started H enc F)
theorem plain (f : FuncId) (fn : Func) (hf : Tryz.pinned.checked.prog.funcNamed "flightdeck/flightdecklaw22.RouteText" = some f) (hfn : Tryz.pinned.checked.prog.funcs[f]? = some fn) :
    false = Tryz.pinned.checked.prog.looks [] ∧ ∀ (j : Nat) t, fn.params[j]? = some t → Tryz.pinned.checked.prog.wantsStandIn t = false := by
  obtain rfl : f = 8 := Option.some.inj ((show Tryz.prog.funcNamed "flightdeck/flightdecklaw22.RouteText" = some 8 by kernel_rfl).symm.trans hf) |>.symm
  obtain rfl : fn = Tryz.f8 := (Option.some.inj (Tryz.func8.symm.trans hfn)).symm
  refine ⟨by kernel_rfl, fun j t ht => ?_⟩
  rw [Tryz.params8] at ht
  have hm := Array.mem_of_getElem? ht
  have h : t = 9 ∨ t = 23 := by simpa using hm
  rcases h with rfl | rfl
  · exact (show Tryz.prog.wantsStandIn 9 = false by kernel_rfl)
  · exact (show Tryz.prog.wantsStandIn 23 = false by kernel_rfl)
end Go.Proofs.YtgoeedohgomodaaGreatDoor.routeText
namespace Go.Proofs.YtgoeedohgomodaaGreatDoor
set_option maxHeartbeats 40000000 in
/-- The card of the second form. -/
theorem routeText_card : Rows.RouteTextUptoCardSaid :=
  Claim7.holds_tied_plain_at .later [] _ _ _ _ routeText.saidUpto (fun _ h => by cases h) (by as_aux_lemma => kernel_rfl) (fun _ h => by cases h) routeTextUpto_row_tie rfl ⟨rfl, rfl⟩ (by as_aux_lemma => kernel_rfl) rfl routeText.plain (by as_aux_lemma => kernel_rfl)
end Go.Proofs.YtgoeedohgomodaaGreatDoor
