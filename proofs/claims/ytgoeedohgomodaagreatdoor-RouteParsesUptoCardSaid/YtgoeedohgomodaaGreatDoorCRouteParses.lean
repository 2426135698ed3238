/- PROVED: Parse reads a route as the reference does, and each argument reads behind the call as before: the card of the second form (what is read is of bulk at most 1048576). Its conditions: none of mine. -/
import Derived.Test.YtgoeedohgomodaaGreatDoorPk01
import Derived.Test.YtgoeedohgomodaaGreatDoorPk02
import Derived.Test.YtgoeedohgomodaaGreatDoorPk09
import Derived.Test.YtgoeedohgomodaaGreatDoorPk16
import Derived.Test.YtgoeedohgomodaaGreatDoorPk08
import Derived.Laws.StructEq
import Derived.Test.YtgoeedohgomodaaGreatDoorPk32
import Derived.Test.YtgoeedohgomodaaGreatDoorPk11
import Derived.Test.YtgoeedohgomodaaGreatDoorPk25
import Derived.Test.YtgoeedohgomodaaGreatDoorPk28
import Derived.Test.YtgoeedohgomodaaGreatDoorPk27
import Derived.Test.YtgoeedohgomodaaGreatDoorPk12
import Derived.Laws.Bits64
import Derived.Laws.Bits64b
import Derived.Sort.WalkA
import Derived.Laws.BitsAllLaws
import Derived.OwnWalk
import Derived.Lib.ConvBytes
import Derived.Test.YtgoeedohgomodaaGreatDoorPk03
import Derived.Laws.OwnMore
import Derived.Lib.AppendStr
import Derived.Test.YtgoeedohgomodaaGreatDoorPk46
import Derived.Test.YtgoeedohgomodaaGreatDoorPk49
import Derived.Test.YtgoeedohgomodaaGreatDoorPk18
import Derived.Test.YtgoeedohgomodaaGreatDoorCards
import Derived.Test.YtgoeedohgomodaaGreatDoorTie
import Derived.Deep.DeepWitnessRowRef
import Derived.Lay
import Derived.WalkKit
import Derived.ProofKit
namespace Go.Proofs.YtgoeedohgomodaaGreatDoor
open Go.RowKit
set_option linter.unusedVariables false
set_option linter.unusedSimpArgs false
set_option maxHeartbeats 400000 in
theorem region_any (l : List UInt8) (w : World) (hl : l.length ≤ 4611686018427387904) : Calls Tryz.prog 109 #[.string ⟨l.toArray⟩] w (RetP w (.bool (shortB l))) := by
  by_cases h2 : l.length = 2
  · have hs := Lib.hid (show shortB l = l.all alnum by simp [shortB, h2])
    have h1 : ((l.length : Int) != 2) = false := by simp; omega
    have h3 := Lib.hid h2
    have hlo : 2 ≤ l.length := by omega
    have hhi : l.length ≤ 2 := by omega
    clear h2
    go_enter Tryz.func109, Tryz.ntmps109
    go_wp2
    go_loop [3] (fun i => ∃ k : Nat, k ≤ l.length ∧ i = .int .i64 k ∧ shortB l = (l.drop k).all alnum) (fun i => l.length - (intOf i).toNat)
    case atStart => exact ⟨0, by omega, rfl, by rw [hs.out]; rfl⟩
    case round =>
      obtain ⟨k, hk, rfl, hq⟩ := hrel
      have HQ := Lib.hid hq; clear hq
      by_cases hlt : k < l.length
      · have hd := Lib.hid (all_drop alnum l k hlt)
        go_wp2
        all_goals first
          | (go_ret; exact RetP.bool (by rw [HQ.out, hd.out]; grind [up, alnum]) rfl)
          | (go_round
             case rel => exact ⟨k + 1, by omega, by go_num, by rw [HQ.out, hd.out]; grind [up, alnum]⟩
             case measure => simp [intOf]; omega)
      · go_wp2
        go_ret
        exact RetP.bool (by rw [HQ.out, List.drop_of_length_le (by omega)]; rfl) rfl
  · have h1 : ((l.length : Int) != 2) = true := by simp; omega
    go_enter Tryz.func109, Tryz.ntmps109
    go_wp2
    go_ret
    exact RetP.bool (by grind [shortB]) rfl

end Go.Proofs.YtgoeedohgomodaaGreatDoor
namespace Go.Proofs.YtgoeedohgomodaaGreatDoor
open Go.RowKit
set_option linter.unusedVariables false
set_option linter.unusedSimpArgs false
set_option maxHeartbeats 400000 in
theorem rsplitRef_any (l : List UInt8) (w : World) (hl : l.length ≤ 4000000000) : Calls Tryz.prog 66 #[.string ⟨l.toArray⟩] w (RetQ w (refVal (splitRef l))) := by
  go_enter Tryz.func66, Tryz.ntmps66
  go_wp2
  go_loop [5] (fun i => ∃ k : Nat, k ≤ l.length ∧ i = .int .i64 k ∧ (l.take k).all (· != 47) = true) (fun i => l.length - (intOf i).toNat)
  case atStart => exact ⟨0, by omega, rfl, by simp⟩
  case round =>
    obtain ⟨k, hk, rfl, hq⟩ := hrel
    have HQ := Lib.hid hq; clear hq
    by_cases hlt : k < l.length
    · by_cases hc : l[k] = 47
      · have hs := Lib.hid (show splitRef l = splitRef3 (l.take k, l.drop (k+1), true) by rw [splitRef, cutAt_at 47 l k hlt HQ.out hc])
        have h1 : ((l[k].toNat : Int) == 47) = true := u8_eq (d := 47) hc
        have e1 := IntWalk.i64_in ((k : Int) + 1) (by omega)
        have e2 : (0 : Int) ≤ (k : Int) + 1 := by omega
        have e3 : ((k : Int) + 1).toNat = k + 1 := by omega
        clear hc
        go_wp2
        go_quiet (fail)
        have L1 : (l.take k).length ≤ 4000000000 := by rw [List.length_take]; omega
        have L2 : (l.drop (k+1)).length ≤ 4000000000 := by rw [List.length_drop]; omega
        go_wp2_with (first
          | (go_at_call 65; refine callP (rname_any _ _ _ (by omega)) ?_)
          | (go_at_call 109; refine callP (region_any _ _ (by omega)) ?_))
        all_goals (go_ret3; exact RetQ.tuple3 (by rw [hs.out]; grind [splitRef3]) ⟨_, rfl⟩)
      · have h1 : ((l[k].toNat : Int) == 47) = false := u8_ne (d := 47) hc
        go_wp2
        go_round
        case rel => exact ⟨k + 1, by omega, by go_num, take_all_succ _ l k hlt HQ.out (by simp [hc])⟩
        case measure => simp [intOf]; omega
    · have hs := Lib.hid (show splitRef l = splitRef3 (l, [], false) by rw [splitRef, cutAt_none 47 l (by have := HQ.out; rwa [List.take_of_length_le (by omega)] at this)])
      go_wp2
      go_ret3
      exact RetQ.tuple3 (by rw [hs.out]; rfl) ⟨0, rfl⟩
end Go.Proofs.YtgoeedohgomodaaGreatDoor
namespace Go.Proofs.YtgoeedohgomodaaGreatDoor
open Go.RowKit
set_option linter.unusedVariables false
set_option linter.unusedSimpArgs false
theorem SOut.drewN {w0 W : World} {v : Value} {ss : List (List UInt8)} (h : SOut w0 W v ss) (n : Nat) : SOut w0 (W.drewN n) v ss := h.below (below_drewN (Below.refl _ _) n)
end Go.Proofs.YtgoeedohgomodaaGreatDoor
namespace Go.Proofs.YtgoeedohgomodaaGreatDoor
open Go.RowKit
set_option linter.unusedVariables false
set_option linter.unusedSimpArgs false
attribute [go_sem] ItemV.arr0 ItemV.arr1 ItemV.arr2
theorem Has_itm_drewN (w : World) (b o n : Nat) : Has_itm (w.drewN n) b o = Has_itm w b o := propext ⟨fun h => h, fun h => h⟩
attribute [go_sem ↓] load_itm_fold store_itm_fold
attribute [go_sem] run_load_itm run_store_itm Has_itm_drewN of_itm_drewN 
attribute [go_sem] SzIs_itm Fits_itm Ones_itm splice_itm run_storeB_itm run_storeN_itm
end Go.Proofs.YtgoeedohgomodaaGreatDoor
namespace Go.Proofs.YtgoeedohgomodaaGreatDoor
open Go.RowKit Go.Sort
set_option linter.unusedVariables false
set_option linter.unusedSimpArgs false
def eqIt : List ItemV → List ItemV → Bool
  | [], [] => true
  | x :: a, y :: b => x.eqB y && eqIt a b
  | _, _ => false
theorem eqIt_len : ∀ {a b : List ItemV}, ¬ a.length = b.length → eqIt a b = false
  | [], [], h => by simp at h
  | [], _ :: _, _ => rfl
  | _ :: _, [], _ => rfl
  | x :: a, y :: b, h => by simp [eqIt]; intro _; exact eqIt_len (by simpa using h)
theorem eqIt_iff : ∀ (a b : List ItemV), eqIt a b = true ↔ a = b
  | [], [] => by simp [eqIt]
  | [], _ :: _ => by simp [eqIt]
  | _ :: _, [] => by simp [eqIt]
  | x :: a, y :: b => by simp [eqIt, ItemV.eqB_iff, eqIt_iff a b]
end Go.Proofs.YtgoeedohgomodaaGreatDoor
namespace Go.Proofs.YtgoeedohgomodaaGreatDoor
open Go.RowKit Go.Sort
set_option linter.unusedVariables false
set_option linter.unusedSimpArgs false
set_option maxRecDepth 100000
attribute [local go_sem ↓] bfix_fold
attribute [local go_sem] run_bfix0
end Go.Proofs.YtgoeedohgomodaaGreatDoor
namespace Go.Proofs.YtgoeedohgomodaaGreatDoor
open Go.RowKit Go.Sort
set_option linter.unusedVariables false
set_option linter.unusedSimpArgs false
set_option maxRecDepth 100000
attribute [local go_sem ↓] bpt_fold
attribute [local go_sem] run_bpt0 run_bpt2
end Go.Proofs.YtgoeedohgomodaaGreatDoor
namespace Go.Proofs.YtgoeedohgomodaaGreatDoor
open Go.RowKit Go.Sort
set_option linter.unusedVariables false
set_option linter.unusedSimpArgs false
set_option maxRecDepth 100000
attribute [local go_sem ↓] bfix_fold bpt_fold
attribute [local go_sem] run_bfix0 run_bpt0 run_bpt2
end Go.Proofs.YtgoeedohgomodaaGreatDoor
namespace Go.Proofs.YtgoeedohgomodaaGreatDoor
open Go.RowKit Go.Sort
set_option linter.unusedVariables false
set_option linter.unusedSimpArgs false
set_option maxRecDepth 100000
theorem rcut_any (l : List UInt8) (c : UInt8) (w : World) (hl : l.length ≤ 4000000000) :
    Calls Tryz.prog 64 #[.string ⟨l.toArray⟩, .int .u8 c.toNat] w (RetQ w (.tuple #[.string ⟨(cutAt c l).1.toArray⟩, .string ⟨(cutAt c l).2.1.toArray⟩, .bool (cutAt c l).2.2])) := by
  generalize hq : cutAt c l = q
  have HQ0 := Lib.hid hq; clear hq
  go_enter Tryz.func64, Tryz.ntmps64
  go_wp2
  go_loop [7] (fun i => ∃ k : Nat, k ≤ l.length ∧ i = .int .i64 k ∧ (l.take k).all (· != c) = true) (fun i => l.length - (intOf i).toNat)
  case atStart => exact ⟨0, by omega, rfl, by simp⟩
  case round =>
    obtain ⟨k, hk, rfl, hq⟩ := hrel
    have HQ := Lib.hid hq; clear hq
    by_cases hlt : k < l.length
    · by_cases hc : l[k] = c
      · have hs := Lib.hid (show q = (l.take k, l.drop (k+1), true) by rw [← HQ0.out, cutAt_at c l k hlt HQ.out hc])
        have h1 : ((l[k].toNat : Int) == (c.toNat : Int)) = true := u8_eq hc
        clear hc
        have q1 : IntKind.i64.wrap ((k : Int) + 1) = (k : Int) + 1 := IntWalk.i64_in _ (by omega)
        have q2 : (0 : Int) ≤ (k : Int) + 1 := by omega
        have q3 : ((k : Int) + 1).toNat = k + 1 := by omega
        have q4 : (k : Int) + 1 ≤ l.length := by omega
        have q5 : (k : Int) ≤ l.length := by omega
        go_upto_region 5 with (fail)
        go_region
        go_wp2
        go_ret3
        exact ⟨by rw [hs.out]; simp; done, 1, rfl⟩
      · have h1 : ((l[k].toNat : Int) == (c.toNat : Int)) = false := u8_ne hc
        go_wp2
        go_round
        case rel => exact ⟨k + 1, by omega, by go_num, take_all_succ _ l k hlt HQ.out (by simp [hc])⟩
        case measure => simp [intOf]; omega
    · have hs := Lib.hid (show q = (l, [], false) by rw [← HQ0.out, cutAt_none c l (by have := HQ.out; rwa [List.take_of_length_le (by omega)] at this)])
      go_wp2
      go_ret3
      exact ⟨by rw [hs.out]; rfl, 0, rfl⟩
end Go.Proofs.YtgoeedohgomodaaGreatDoor
namespace Go.Proofs.YtgoeedohgomodaaGreatDoor
open Go.RowKit Go.Sort
set_option linter.unusedVariables false
set_option linter.unusedSimpArgs false
set_option maxRecDepth 100000
set_option maxHeartbeats 2000000 in
theorem rnames_any (s : List UInt8) (c : UInt8) (m : Int) (w : World) (hs : s.length ≤ 4000000000) :
    Calls Tryz.prog 34 #[.string ⟨s.toArray⟩, .int .u8 c.toNat, .int .i64 m] w (Ret w (.tuple #[.string ⟨(cutAt c s).1.toArray⟩, .string ⟨(cutAt c s).2.1.toArray⟩, .bool (pairB s c m)])) := by
  have hc := cutAt_len c s
  have kc := Lib.hid (rcut_any s c w hs)
  have HP := Lib.hid (show pairB s c m = pair3 (cutAt c s) m from rfl)
  generalize pairB s c m = ok at HP ⊢
  generalize cutAt c s = q at *
  obtain ⟨a, b, f⟩ := q
  simp only at hc
  obtain ⟨ha, hb⟩ := hc
  have ka := Lib.hid (fun w' => rname_any a m w' (by omega))
  have kb := Lib.hid (fun w' => rname_any b m w' (by omega))
  have HP := Lib.hid (show ok = (nameB a m && (!f || nameB b m)) from HP.out)
  generalize nameB a m = na at *
  generalize nameB b m = nb at *
  cases f <;> cases na <;> cases nb
  all_goals
    obtain rfl := HP.out
    clear HP
    go_enter Tryz.func34, Tryz.ntmps34
    go_wp2_with (first
      | (go_at_call 64; (with_reducible refine callQ kc.out ?_); intro nq)
      | (go_at_call 65; (with_reducible first | refine callP (ka.out _) ?_ | refine callP (kb.out _) ?_)))
    go_ret3
    exact ⟨rfl, below_drewN (Below.refl _ _) nq⟩
attribute [local go_sem] ba_append
attribute [local go_sem ↓] bfix_fold
attribute [local go_sem] run_bfix0
end Go.Proofs.YtgoeedohgomodaaGreatDoor
namespace Go.Proofs.YtgoeedohgomodaaGreatDoor
open Go.RowKit Go.Sort
set_option linter.unusedVariables false
set_option linter.unusedSimpArgs false
set_option maxRecDepth 100000
def slenV : Value → Nat
  | .string b => b.toList.length
  | _ => 0
set_option maxHeartbeats 4000000 in
theorem rwords22_any (s : List UInt8) (w : World) (hs : s.length ≤ 9000000) : Calls Tryz.prog 33 #[.string ⟨s.toArray⟩] w (RetStrs w (splitC 32 s)) := by
  go_enter Tryz.func33, Tryz.ntmps33
  go_upto_region 2 with (fail)
  go_loopw [0, 3] (fun sv v wr => ∃ (l : List UInt8) (out : List (List UInt8)), sv = .string ⟨l.toArray⟩ ∧ out ++ splitC 32 l = splitC 32 s ∧ out.length + l.length ≤ s.length ∧ SOut w wr v out ∧ Below w.heap.size w wr) (fun sv _ _ => slenV sv)
  case atStart => exact ⟨s, [], rfl, rfl, by simp, SOut.nil _ _, Below.refl _ _⟩
  case round =>
    obtain ⟨l, out, rfl, hso, hol, O, BW⟩ := hrel
    have HS := Lib.hid (show splitC 32 s = out ++ (if (cutAt 32 l).2.2 then (cutAt 32 l).1 :: splitC 32 (cutAt 32 l).2.1 else [l]) by rw [← hso, splitC_cut 32 l])
    have hc := cutAt_len 32 l
    have KC := Lib.hid (fun W => show Calls Tryz.prog 64 #[.string ⟨l.toArray⟩, .int .u8 32] W (RetQ W (.tuple #[.string ⟨(cutAt 32 l).1.toArray⟩, .string ⟨(cutAt 32 l).2.1.toArray⟩, .bool (cutAt 32 l).2.2])) from rcut_any l 32 W (by omega))
    have HP := Lib.hid (fun h => cutAt_parts 32 l h)
    have HM := Lib.hid (fun h => (cutAt_miss 32 l h).1)
    clear hso
    generalize cutAt 32 l = q at *
    obtain ⟨a, b, f⟩ := q
    go_upto_region 3 with (go_at_call 64; (with_reducible refine callQ (KC.out _) ?_); intro n)
    have O1 := O.drewN n
    have B1 := below_drewN BW n
    generalize wr.drewN n = W1 at O1 B1 ⊢
    clear KC O BW
    have O4 := O1.alloc (.cells #[sval a] 9)
    have B4 := below_step B1 (alloc_belowR W1 (.cells #[sval a] 9))
    have hsz := B4.size
    cases f with
    | true =>
      have hp := HP.out rfl
      have hl : a.length + b.length + 1 = l.length := by rw [hp]; simp; omega
      have HG := Lib.hid (show splitC 32 s = out ++ a :: splitC 32 b by rw [HS.out]; rfl)
      clear HS HP HM hp
      go_wp2_with (at_builtin; refine wpList_append_sout rfl (.tmp 13) (.tmp 15) rfl O4 rfl a W1.heap.size 1 rfl (cell_of_row _ _ 0 _ _ _ (heap_alloc_new W1 _)) (by omega) hsz ?_; intro v5 W5 O5 g5)
      go_roundw
      case rel => exact ⟨b, out ++ [a], rfl, by rw [HG.out]; simp, by simp; omega, O5, below_sgrown B4 O4 g5⟩
      case measure => simp [slenV]; omega
    | false =>
      have HG := Lib.hid (show splitC 32 s = out ++ [l] by rw [HS.out]; rfl)
      have hm := Lib.hid (show a = l from HM.out rfl)
      clear HS HP HM
      go_wp2_with (at_builtin; refine wpList_append_sout rfl (.tmp 13) (.tmp 15) rfl O4 rfl a W1.heap.size 1 rfl (cell_of_row _ _ 0 _ _ _ (heap_alloc_new W1 _)) (by omega) hsz ?_; intro v5 W5 O5 g5)
      go_ret
      exact ⟨v5, rfl, by rw [HG.out]; rw [hm.out] at O5; exact O5, below_sgrown B4 O4 g5⟩
end Go.Proofs.YtgoeedohgomodaaGreatDoor
namespace Go.Proofs.YtgoeedohgomodaaGreatDoor
open Go.RowKit Go.Sort
set_option linter.unusedVariables false
set_option linter.unusedSimpArgs false
set_option maxRecDepth 100000
attribute [local go_sem] run_bitm0 run_bitm1 run_bitm2 run_bitm3
attribute [local go_sem ↓] bitm_fold
def RetOI (w : World) (o : Option ItemV) (e : Ending) (w' : World) : Prop := ∃ y : ItemV, e = .returned (.tuple #[.agg y.arr, .bool o.isSome]) ∧ (∀ z, o = some z → y = z) ∧ Below w.heap.size w w'
theorem RetOI.mk {w w' : World} {o : Option ItemV} {b : Bool} (y : ItemV) (h : o.isSome = b) (hz : ∀ z, o = some z → y = z) (hw : Below w.heap.size w w') : RetOI w o (.returned (.tuple #[.agg y.arr, .bool b])) w' := by
  subst h; exact ⟨y, rfl, hz, hw⟩
set_option maxHeartbeats 4000000 in
theorem ritem22A (a : UInt8) (r : List UInt8) (hr : r.length ≤ 4000000000) (w : World) : Calls Tryz.prog 35 #[.string ⟨(a :: 61 :: r).toArray⟩] w (RetOI w (itemS (a :: 61 :: r))) := by
  have HI := Lib.hid (show itemS (a :: 61 :: r) = if letterK a = 0 ∨ pairB r 46 8 = false then none else some ⟨letterK a, (cutAt 46 r).1, (cutAt 46 r).2.1⟩ from rfl)
  have KC := Lib.hid (fun W => show Calls Tryz.prog 34 #[.string ⟨r.toArray⟩, .int .u8 46, .int .i64 8] W (Ret W (.tuple #[.string ⟨(cutAt 46 r).1.toArray⟩, .string ⟨(cutAt 46 r).2.1.toArray⟩, .bool (pairB r 46 8)])) from rnames_any r 46 8 W hr)
  generalize cutAt 46 r = q at *
  generalize pairB r 46 8 = pb at *
  obtain ⟨x, y, f⟩ := q
  generalize itemS (a :: 61 :: r) = v at *
  have h1 : (a :: 61 :: r == [68, 67, 84]) = false := by simp
  go_enter Tryz.func35, Tryz.ntmps35
  go_upto_region 1 with (fail)
  have A0 : Blk (w.alloc (.cells #[.int .u8 0, .string ⟨#[]⟩, .string ⟨#[]⟩] 57)) w.heap.size noItem.arr := Blk.new w noItem.arr 57
  have D0 := (Below.refl w.heap.size w).alloc (Nat.le_refl _) (.cells #[.int .u8 0, .string ⟨#[]⟩, .string ⟨#[]⟩] 57)
  generalize w.alloc _ = W0 at A0 D0 ⊢
  have S0 := D0.size
  obtain ⟨g, hg⟩ : ∃ g, g = w.heap.size := ⟨_, rfl⟩
  have G0 : w.heap.size ≤ g := by omega
  rw [← hg] at A0 ⊢
  clear hg
  have hk : a = 68 ∨ a = 65 ∨ a = 80 ∨ (a ≠ 68 ∧ a ≠ 65 ∧ a ≠ 80) := by grind
  rcases hk with rfl | rfl | rfl | ⟨n1, n2, n3⟩
  case' inr.inr.inr =>
    have e1 : ((a.toNat : Int) == 68) = false := u8_ne n1
    have e2 : ((a.toNat : Int) == 65) = false := u8_ne n2
    have e3 : ((a.toNat : Int) == 80) = false := u8_ne n3
    have HL := Lib.hid (show letterK a = 0 by unfold letterK; rw [if_neg n1, if_neg n2, if_neg n3])
  case' inl => have HL := Lib.hid (show letterK 68 = 2 from rfl)
  case' inr.inl => have HL := Lib.hid (show letterK 65 = 6 from rfl)
  case' inr.inr.inl => have HL := Lib.hid (show letterK 80 = 7 from rfl)
  all_goals
    go_upto_region 13 with (go_at_call 34; (with_reducible refine callR (KC.out _) ?_); intro w1 b1 _ _ _)
    have A1 := A0.step b1
    have D1 := below_step D0 b1
    have P1 := A1.plain
    have F1 := A1.of
    have L1 := A1.lt
    have HJ := Lib.hid (HI.out)
    cases pb
    all_goals go_wp2
  · exact bodyPost_ret (results_itm Tryz.results35 _ _ g ⟨7, x, y⟩ rfl (A1.set _)) rfl (RetOI.mk ⟨7, x, y⟩ (by rw [HI.out]; simp) (by rw [HI.out]; simp) (below_setRow' D1 G0 _))
  · exact bodyPost_ret (results_itm Tryz.results35 _ _ g ⟨7, x, y⟩ rfl (A1.set _)) rfl (RetOI.mk ⟨7, x, y⟩ (by rw [HI.out, HL.out]; simp) (by rw [HI.out, HL.out]; simp) (below_setRow' D1 G0 _))
  · exact bodyPost_ret (results_itm Tryz.results35 _ _ g ⟨6, x, y⟩ rfl (A1.set _)) rfl (RetOI.mk ⟨6, x, y⟩ (by rw [HI.out]; simp) (by rw [HI.out]; simp) (below_setRow' D1 G0 _))
  · exact bodyPost_ret (results_itm Tryz.results35 _ _ g ⟨6, x, y⟩ rfl (A1.set _)) rfl (RetOI.mk ⟨6, x, y⟩ (by rw [HI.out, HL.out]; simp) (by rw [HI.out, HL.out]; simp) (below_setRow' D1 G0 _))
  · exact bodyPost_ret (results_itm Tryz.results35 _ _ g ⟨2, x, y⟩ rfl (A1.set _)) rfl (RetOI.mk ⟨2, x, y⟩ (by rw [HI.out]; simp) (by rw [HI.out]; simp) (below_setRow' D1 G0 _))
  · exact bodyPost_ret (results_itm Tryz.results35 _ _ g ⟨2, x, y⟩ rfl (A1.set _)) rfl (RetOI.mk ⟨2, x, y⟩ (by rw [HI.out, HL.out]; simp) (by rw [HI.out, HL.out]; simp) (below_setRow' D1 G0 _))
  · exact bodyPost_ret (results_itm Tryz.results35 _ _ g ⟨0, x, y⟩ rfl (A1.set _)) rfl (RetOI.mk ⟨0, x, y⟩ (by rw [HI.out]; simp) (by rw [HI.out]; simp) (below_setRow' D1 G0 _))
  · exact bodyPost_ret (results_itm Tryz.results35 _ _ g ⟨0, x, y⟩ rfl (A1.set _)) rfl (RetOI.mk ⟨0, x, y⟩ (by rw [HI.out, HL.out]; simp) (by rw [HI.out, HL.out]; simp) (below_setRow' D1 G0 _))
set_option maxHeartbeats 4000000 in
theorem ritem22B (s : List UInt8) (h61 : ¬ s[1]? = some 61) (hs : s.length ≤ 4000000000) (w : World) : Calls Tryz.prog 35 #[.string ⟨s.toArray⟩] w (RetOI w (itemS s)) := by
  have HI := Lib.hid (show itemS s = if s = [68, 67, 84] then some ⟨5, [], []⟩ else if (splitRef s).2.2 == 0 then some ⟨4, s, []⟩ else if nameB s 8 then some ⟨3, s, []⟩ else none by unfold itemS; rw [if_neg h61]; rfl)
  have KS := Lib.hid (fun W => rsplitRef_any s W hs)
  have KN := Lib.hid (fun W => rname_any s 8 W (by omega))
  generalize splitRef s = q at *
  generalize nameB s 8 = nb at *
  obtain ⟨x, y, f⟩ := q
  generalize itemS s = v at *
  go_enter Tryz.func35, Tryz.ntmps35
  go_upto_region 1 with (fail)
  have A0 : Blk (w.alloc (.cells #[.int .u8 0, .string ⟨#[]⟩, .string ⟨#[]⟩] 57)) w.heap.size noItem.arr := Blk.new w noItem.arr 57
  have D0 := (Below.refl w.heap.size w).alloc (Nat.le_refl _) (.cells #[.int .u8 0, .string ⟨#[]⟩, .string ⟨#[]⟩] 57)
  generalize w.alloc _ = W0 at A0 D0 ⊢
  have S0 := D0.size
  obtain ⟨g, hg⟩ : ∃ g, g = w.heap.size := ⟨_, rfl⟩
  have G0 : w.heap.size ≤ g := by omega
  rw [← hg] at A0 ⊢
  clear hg
  have P1 := A0.plain
  have F1 := A0.of
  have L1 := A0.lt
  by_cases hd : s = [68, 67, 84]
  · have h1 : (s == [68, 67, 84]) = true := by simpa using hd
    have HT := Lib.hid (show v = some ⟨5, [], []⟩ by rw [HI.out, if_pos hd])
    clear HI hd h61
    go_wp2
    exact bodyPost_ret (results_itm Tryz.results35 _ _ g ⟨5, [], []⟩ rfl (A0.set _)) rfl (RetOI.mk ⟨5, [], []⟩ (by rw [HT.out]; rfl) (by rw [HT.out]; simp) (below_setRow' D0 G0 _))
  have h1 : (s == [68, 67, 84]) = false := by simpa using hd
  have HJ := Lib.hid (HI.out.trans (if_neg hd))
  clear HI hd
  have h3 : s = [] ∨ (∃ a, s = [a]) ∨ ∃ a b r, s = a :: b :: r := by
    rcases s with _ | ⟨a, _ | ⟨b, r⟩⟩
    · exact .inl rfl
    · exact .inr (.inl ⟨a, rfl⟩)
    · exact .inr (.inr ⟨a, b, r, rfl⟩)
  go_upto_region 3 with (fail)
  go_cut [21] (fun e wx => e = .bool false ∧ wx = W0)
  case first =>
    rcases h3 with h3 | ⟨a, h3⟩ | ⟨a, b, r, h3⟩
    case' inr.inr => have hb : ((b.toNat : Int) == 61) = false := u8n61 (fun e => h61 (by rw [h3, e]; rfl))
    all_goals
      subst h3
      clear h61
      go_wp2
      go_meet
      exact ⟨rfl, rfl⟩
  case rest =>
  obtain ⟨rfl, rfl⟩ := hcut
  generalize wc = W0 at *
  clear h3 h61 h1
  go_upto_region 15 with (go_at_call 66; (with_reducible refine callQ (KS.out _) ?_); intro n)
  have D1 := below_drewN D0 n
  have A1 := A0.step (below_drewN (Below.refl _ _) n)
  generalize W0.drewN n = W1 at D1 A1 ⊢
  clear P1 F1 L1 A0 D0
  have P1 := A1.plain
  have F1 := A1.of
  have L1 := A1.lt
  by_cases hf : (f == 0) = true
  · have HT := Lib.hid (show v = some ⟨4, s, []⟩ by rw [HJ.out, if_pos hf])
    clear HJ
    go_wp2
    exact bodyPost_ret (results_itm Tryz.results35 _ _ g ⟨4, s, []⟩ rfl (A1.set _)) rfl (RetOI.mk ⟨4, s, []⟩ (by rw [HT.out]; rfl) (by rw [HT.out]; simp) (below_setRow' D1 G0 _))
  have HK := Lib.hid (HJ.out.trans (if_neg hf))
  replace hf : (f == 0) = false := by simpa using hf
  clear HJ
  cases nb with
  | true =>
    go_wp2_with (go_at_call 65; refine callP (KN.out _) ?_)
    exact bodyPost_ret (results_itm Tryz.results35 _ _ g ⟨3, s, []⟩ rfl (A1.set _)) rfl (RetOI.mk ⟨3, s, []⟩ (by rw [HK.out]; simp) (by rw [HK.out]; simp) (below_setRow' D1 G0 _))
  | false =>
    go_wp2_with (go_at_call 65; refine callP (KN.out _) ?_)
    exact bodyPost_ret (results_itm Tryz.results35 _ _ g ⟨3, s, []⟩ rfl (A1.set _)) rfl (RetOI.mk ⟨3, s, []⟩ (by rw [HK.out]; simp) (by rw [HK.out]; simp) (below_setRow' D1 G0 _))
theorem ritem22_any (s : List UInt8) (hs : s.length ≤ 4000000000) (w : World) : Calls Tryz.prog 35 #[.string ⟨s.toArray⟩] w (RetOI w (itemS s)) := by
  by_cases h : s[1]? = some 61
  · rcases s with _ | ⟨a, _ | ⟨b, r⟩⟩
    · cases h
    · cases h
    · have hb : b = 61 := by simpa using h
      subst hb
      exact ritem22A a r (by simp at hs; omega) w
  · exact ritem22B s h hs w
end Go.Proofs.YtgoeedohgomodaaGreatDoor
namespace Go.Proofs.YtgoeedohgomodaaGreatDoor
open Go.RowKit Go.Sort
set_option linter.unusedVariables false
set_option linter.unusedSimpArgs false
set_option maxRecDepth 100000
theorem pEq_two (a b : UInt8) (r : List UInt8) : pEq (a :: b :: r) = ([a, b] == [80, 61]) := by unfold pEq; simp
set_option maxHeartbeats 4000000 in
theorem rmis22_any (ws : List (List UInt8)) (A : Option Addr) (c : Nat) (i : Nat) (y z : ItemV) (out : List ItemV) (w : World) (hn : 2 ≤ ws.length) (hl : ws.length ≤ 124) (hc : ws.length ≤ c) (hS : Strs w A ws) (hi : i ≤ 124) (hz : out.getD (i - 1) noItem = z) :
    Calls Tryz.prog 36 #[.slice A ws.length c, .int .i64 i, .agg y.arr, .agg z.arr] w (Ret w (.bool (misB ws i y out))) := by
  have HMd := Lib.hid (show misB ws i y out = if y.kind = 2 then i != 1 else if y.kind = 7 then i + 2 != ws.length else if y.kind = 6 then i + 2 != ws.length && (i + 3 != ws.length || !pEq (ws.getD (ws.length - 2) [])) else if y.kind = 5 then z.kind == 5 else false by rw [← hz]; rfl)
  obtain ⟨b, o, rfl, hb, hcl⟩ := hS.at_ (by intro h; rw [h] at hn; simp at hn)
  obtain ⟨x2, hx2⟩ : ∃ x2, ws[ws.length - 2]? = some x2 := ⟨_, List.getElem?_eq_getElem (by omega)⟩
  have hg2 : ws.getD (ws.length - 2) [] = x2 := by rw [List.getD_eq_getElem?_getD, hx2]; rfl
  rw [hg2] at HMd
  have c2 := hcl _ _ hx2
  generalize misB ws i y out = m at HMd ⊢
  clear hcl hS hz hx2 hg2
  generalize hN : ws.length = N at *
  clear hN
  go_enter Tryz.func36, Tryz.ntmps36
  go_upto_region 1 with (fail)
  generalize hW : (w.alloc _).alloc _ = W
  have Y0 : Blk W w.heap.size y.arr := by rw [← hW]; exact (Blk.new w _ _).alloc _
  have Z0 : Blk W (w.heap.size + 1) z.arr := by rw [← hW, ← World.size_alloc w (.cells y.arr 57)]; exact Blk.new _ _ _
  have B0 : Below w.heap.size w W := by rw [← hW]; go_grown
  clear hW
  have c2 : W.cell? ⟨b, o + (N - 2), none⟩ = some (.string ⟨x2.toArray⟩) := by rw [B0.cell (p := ⟨b, _, none⟩) hb]; exact c2
  generalize w.heap.size + 1 = gz at Z0 ⊢
  obtain ⟨gy, hgy⟩ : ∃ g, g = w.heap.size := ⟨_, rfl⟩
  rw [← hgy] at Y0 ⊢
  clear hgy
  have y0 : W.cell? ⟨gy, 0, none⟩ = some (.int .u8 y.kind) := Y0.cell 0
  have z0 : W.cell? ⟨gz, 0, none⟩ = some (.int .u8 z.kind) := Z0.cell 0
  have HB := Lib.hid B0
  have hcast : ((N : Int) - 2).toNat = N - 2 := by omega
  have hb1 : ¬ ((N : Int) - 2 < 0) := by omega
  clear Y0 Z0 B0 hb
  go_upto_region 2 with (fail)
  go_cut [10] (fun e wx => e = .bool (pEq x2) ∧ wx = W)
  case first =>
    clear HMd y0 z0
    rcases x2 with _ | ⟨a, _ | ⟨d, r⟩⟩
    · go_wp2
      go_meet
      exact ⟨rfl, rfl⟩
    · go_wp2
      go_meet
      exact ⟨by simp [pEq], rfl⟩
    · have HE := Lib.hid (pEq_two a d r)
      go_wp2
      go_meet
      exact ⟨by rw [HE.out]; simp, rfl⟩
  case rest =>
  obtain ⟨rfl, rfl⟩ := hcut
  generalize wc = W at *
  generalize pEq x2 = pb at *
  clear c2 hcast hb1
  generalize y.kind = k at *
  by_cases k2 : k = 2
  · subst k2
    have hm : m = (i != 1) := by rw [HMd.out]; rfl
    have e1 : ((i : Int) != 1) = m := by rw [hm]; exact bool_nat rfl rfl
    clear HMd hm
    go_wp2
    go_ret
    exact Ret.bool rfl HB.out
  have HMd := Lib.hid (HMd.out.trans (if_neg k2))
  have e2 : (k == 2) = false := by simpa using k2
  by_cases k7 : k = 7
  · subst k7
    have hm : m = (i + 2 != N) := by rw [HMd.out]; rfl
    have e1 : ((i : Int) != (N : Int) - 2) = m := by rw [hm, Bool.eq_iff_iff]; simp; omega
    clear HMd hm e2 k2
    go_wp2
    go_ret
    exact Ret.bool rfl HB.out
  have HMd := Lib.hid (HMd.out.trans (if_neg k7))
  have e7 : (k == 7) = false := by simpa using k7
  by_cases k6 : k = 6
  · subst k6
    have hm : m = (i + 2 != N && (i + 3 != N || !pb)) := by rw [HMd.out]; rfl
    obtain ⟨a, ha⟩ : ∃ a, (i + 2 != N) = a := ⟨_, rfl⟩
    obtain ⟨d, hd⟩ : ∃ d, (i + 3 != N) = d := ⟨_, rfl⟩
    rw [ha, hd] at hm
    have e1 : ((i : Int) != (N : Int) - 2) = a := by rw [← ha, Bool.eq_iff_iff]; simp; omega
    have e3 : ((i : Int) == (N : Int) - 3) = !d := by rw [← hd, Bool.eq_iff_iff]; simp; omega
    have HM := Lib.hid hm
    clear HMd hm ha hd e2 k2 e7 k7
    cases a <;> cases d <;> cases pb
    all_goals
      simp only [Bool.not_true, Bool.not_false] at e3
      go_wp2
      go_ret
      exact Ret.bool (by rw [HM.out]; rfl) HB.out
  have HMd := Lib.hid (HMd.out.trans (if_neg k6))
  have e6 : (k == 6) = false := by simpa using k6
  by_cases k5 : k = 5
  · subst k5
    have hm : m = (z.kind == 5) := by rw [HMd.out]; rfl
    clear HMd e2 k2 e7 k7 e6 k6
    go_wp2
    go_ret
    exact Ret.bool rfl HB.out
  have hm : m = false := by rw [HMd.out, if_neg k5]
  have e5 : (k == 5) = false := by simpa using k5
  clear HMd k2 k7 k6 k5
  go_wp2
  go_ret
  exact Ret.bool hm.symm HB.out
end Go.Proofs.YtgoeedohgomodaaGreatDoor
namespace Go.Proofs.YtgoeedohgomodaaGreatDoor
open Go.RowKit Go.Sort
set_option linter.unusedVariables false
set_option linter.unusedSimpArgs false
set_option maxRecDepth 100000
attribute [local go_sem] run_bitms run_bitm3
attribute [local go_sem ↓] bitms_fold bitm_fold
theorem strsB {W W' : World} {A : Option Addr} {ss : List (List UInt8)} (h : Strs W A ss) (hb : Below W.heap.size W W') : Strs W' A ss :=
  ⟨fun hne => by
    obtain ⟨b, o, hA, hlt, hc⟩ := h.at_ hne
    exact ⟨b, o, hA, Nat.lt_of_lt_of_le hlt hb.size, fun i s hs => by rw [hb.cell (p := ⟨b, _, none⟩) hlt]; exact hc i s hs⟩⟩
theorem callStrsQ {P : Program} {f : FuncId} {args : Array Value} {W : World} {ss : List (List UInt8)} {K : Ending → World → Prop} (h : Calls P f args W (RetStrs W ss)) (k : ∀ v w', SOut W w' v ss → Below W.heap.size W w' → K (.returned v) w') : Calls P f args W K :=
  h.mono fun e w' ⟨v, he, h1, h2⟩ => by subst he; exact k v w' h1 h2
set_option maxHeartbeats 8000000 in
theorem rparse22_any (s : List UInt8) (hs : s.length ≤ 9000000) (w : World) : Calls Tryz.prog 12 #[.string ⟨s.toArray⟩] w (RetItms w (routeParse s)) := by
  have KW := Lib.hid (rwords22_any s w hs)
  have hne := splitC_ne 32 s
  have hsm := Lib.hid (fun x hx => Nat.le_trans (splitC_memR 32 s x hx) hs)
  have HO := Lib.hid (show routeParse s = if 124 < (splitC 32 s).length then (([], 124), 3) else if (itemsGo (splitC 32 s) (splitC 32 s) 0 []).2 ≠ 0 then itemsGo (splitC 32 s) (splitC 32 s) 0 [] else
    if (splitC 32 s).length = 1 then (([], 1), 4) else itemsGo (splitC 32 s) (splitC 32 s) 0 [] from rfl)
  generalize routeParse s = OUT at *
  generalize splitC 32 s = ws at *
  go_enter Tryz.func12, Tryz.ntmps12
  go_upto_region 2 with (go_at_call 33; (with_reducible refine callStrsQ KW.out ?_); intro v1 w1 O1 B1)
  obtain ⟨A1, c1, rfl, hc1, S1⟩ := O1.form
  have HB := Lib.hid B1
  have HS := Lib.hid (fun (wr : World) (BW : Below w1.heap.size w1 wr) => strsB S1 BW)
  clear KW O1 S1 B1
  by_cases h124 : 124 < ws.length
  · have HE := Lib.hid (HO.out.trans (if_pos h124))
    have h1 : (124 : Int) < (ws.length : Int) := by omega
    clear HO h124
    go_wp2
    go_ret3
    exact RetItms.err HE.out HB.out
  have HO := Lib.hid (HO.out.trans (if_neg h124))
  have h1 : ¬ (124 : Int) < (ws.length : Int) := by omega
  have hlen : ws.length ≤ 124 := by omega
  clear h124
  go_wp2
  go_loopw [22, 6] (fun iv v wr => ∃ (i : Nat) (out : List ItemV), i ≤ ws.length ∧ iv = .int .i64 i ∧ itemsGo ws ws 0 [] = itemsGo ws (ws.drop i) i out ∧ out.length = i ∧ GOut w1.heap.size wr 57 3 v (out.map ItemV.arr) ∧ Below w1.heap.size w1 wr) (fun iv _ _ => ws.length - (intOf iv).toNat)
  case atStart => exact ⟨0, [], Nat.zero_le _, rfl, rfl, rfl, GOut.nil _ _ _ _, Below.refl _ _⟩
  case round =>
    obtain ⟨i, out, hi, rfl, hgo, hol, O, BW⟩ := hrel
    have HG := Lib.hid hgo
    have HOL := Lib.hid hol
    have BB := below_step HB.out BW
    clear hgo hol
    by_cases hin : i = ws.length
    · have h2 : ¬ ((i : Int) < (ws.length : Int)) := by omega
      obtain ⟨A3, c3, e3, hl3, hI3, hge3, _⟩ := O.form (itm_sizes out)
      rw [List.length_map] at e3 hl3
      subst e3
      have HG := Lib.hid (show itemsGo ws ws 0 [] = ((out, 0), 0) by rw [HG.out, hin, List.drop_length]; rfl)
      have HO := Lib.hid (HO.out.trans (if_neg (by rw [HG.out]; simp)))
      have hge := BW.size
      have hgw := HB.out.size
      by_cases h1n : ws.length = 1
      · have HE := Lib.hid (HO.out.trans (if_pos h1n))
        have h3 : ((ws.length : Int) == 1) = true := by simp; omega
        clear HO HG O
        go_wp2
        go_ret3
        exact RetItms.err HE.out BB
      · have HE := Lib.hid ((HO.out.trans (if_neg h1n)).trans HG.out)
        have h3 : ((ws.length : Int) == 1) = false := by simp; omega
        clear HO HG O
        go_wp2
        go_ret3
        rw [HE.out]
        exact ⟨A3, c3, rfl, hl3, hI3, (fun a ha => Nat.le_trans hgw (hge3 a ha)), BB⟩
    have hil : i < ws.length := by omega
    clear hin
    have hlt : (i : Int) < (ws.length : Int) := by omega
    obtain ⟨x, hx⟩ : ∃ x, ws[i]? = some x := ⟨_, List.getElem?_eq_getElem hil⟩
    have hxl := hsm.out x (List.mem_of_getElem? hx)
    obtain ⟨sb, so, hA1, hsb, hcl⟩ := (HS.out wr BW).at_ hne
    have HSS := Lib.hid (HS.out wr BW)
    subst hA1
    have hcx : wr.cell? ⟨sb, so + i, none⟩ = some (.string ⟨x.toArray⟩) := hcl i x hx
    have HD := Lib.hid (show ws.drop i = x :: ws.drop (i + 1) from by
      rw [List.drop_eq_getElem_cons hil]; congr 1; exact (List.getElem?_eq_some_iff.1 hx).2)
    clear hx hcl
    go_upto_region 8 with (fail)
    clear hcx
    obtain ⟨wo, hwo⟩ : ∃ wo, wordI ws.length i x = wo := ⟨_, rfl⟩
    go_cut [35] (fun e wx => e = .bool (decide (i = 0 ∨ i + 1 = ws.length)) ∧ wx = wr)
    case first =>
      by_cases h0 : i = 0
      · have e0 : ((i : Int) == 0) = true := by simp [h0]
        go_wp2
        all_goals (go_meet; exact ⟨by simp [h0], rfl⟩)
      · have e0 : ((i : Int) == 0) = false := by simp [h0]
        have e1 : ((i : Int) == (ws.length : Int) - 1) = decide (i + 1 = ws.length) := by
          by_cases h : i + 1 = ws.length
          · have : (i : Int) = (ws.length : Int) - 1 := by omega
            simp [h, this]
          · have : ¬ (i : Int) = (ws.length : Int) - 1 := by omega
            simp [h, this]
        go_wp2
        all_goals (go_meet; exact ⟨by simp [h0], rfl⟩)
    case rest =>
    obtain ⟨rfl, rfl⟩ := hcut
    generalize wc = w2 at *
    go_upto_if 35 with (fail)
    by_cases hb : i = 0 ∨ i + 1 = ws.length
    · have h2 : decide (i = 0 ∨ i + 1 = ws.length) = true := by simpa using hb
      rw [h2]
      clear h2
      have HW := Lib.hid (show wo = if pairB x 47 6 then some ⟨if i = 0 then 1 else 8, (cutAt 47 x).1, (cutAt 47 x).2.1⟩ else none by rw [← hwo]; unfold wordI; rw [if_pos hb])
      have KN := Lib.hid (fun W => show Calls Tryz.prog 34 #[.string ⟨x.toArray⟩, .int .u8 47, .int .i64 6] W (Ret W (.tuple #[.string ⟨(cutAt 47 x).1.toArray⟩, .string ⟨(cutAt 47 x).2.1.toArray⟩, .bool (pairB x 47 6)])) from rnames_any x 47 6 W (by omega))
      generalize cutAt 47 x = z at *
      generalize pairB x 47 6 = pb at *
      obtain ⟨z1, z2, z3⟩ := z
      cases pb with
      | false =>
        have HV := Lib.hid (show wo = none by rw [HW.out]; rfl)
        have HE := Lib.hid (show itemsGo ws ws 0 [] = (([], (i : Int)), 4) by rw [HG.out, HD.out, itemsGo, hwo, HV.out])
        have HE := Lib.hid (show OUT = (([], (i : Int)), 4) by rw [HO.out, if_pos (by rw [HE.out]; simp), HE.out])
        clear HO HG HD hwo hb
        go_wp2_with (go_at_call 34; (with_reducible refine callR (KN.out _) ?_); intro w3 b3 _ _ _)
        go_ret3
        exact RetItms.err HE.out (below_step BB b3)
      | true =>
        have HV := Lib.hid (show wo = some ⟨if i = 0 then 1 else 8, z1, z2⟩ by rw [HW.out]; rfl)
        clear hb
        go_upto_region 13 with (go_at_call 34; (with_reducible refine callR (KN.out _) ?_); intro w3 b3 _ _ _)
        have O3 := O.step b3
        have B3 := below_step BW b3
        clear O BW BB KN
        have HM : ∀ k : Int, misB ws i ⟨if i = 0 then 1 else 8, z1, z2⟩ out = false := fun _ => by
          unfold misB
          by_cases h0 : i = 0 <;> simp [h0]
        have HGG := Lib.hid (show itemsGo ws ws 0 [] = itemsGo ws (ws.drop (i + 1)) (i + 1) (out ++ [⟨if i = 0 then 1 else 8, z1, z2⟩]) by rw [HG.out, HD.out, itemsGo, hwo, HV.out]; simp only; rw [HM 0]; rfl)
        clear HM HG HD hwo HW HV HO
        by_cases h0 : i = 0
        · have e0 : ¬ (0 : Int) < (i : Int) := by omega
          have HG3 := Lib.hid (show itemsGo ws ws 0 [] = itemsGo ws (ws.drop (i + 1)) (i + 1) (out ++ [⟨1, z1, z2⟩]) by rw [HGG.out, if_pos h0])
          have O4 := O3.alloc (.cells (ItemV.arr ⟨1, z1, z2⟩) 57)
          have B4 := below_step B3 (alloc_belowR w3 (.cells (ItemV.arr ⟨1, z1, z2⟩) 57))
          have hq := Blk.new w3 (ItemV.arr ⟨1, z1, z2⟩) 57
          have HOl := HOL.out
          clear HGG h0
          go_wp2_with (at_builtin; refine wpList_append_item rfl (.tmp 47) (.tmp 52) _ 57 3 40 _ infoA_itm rfl (by omega) Tryz.underlying23 rfl O4 rfl (ItemV.arr ⟨1, z1, z2⟩) w3.heap.size 1 (ItemV.arr_size _) (ItemV.arr_one _) rfl hq.cell (by rw [List.length_map]; unfold maxLen; omega) (by rw [List.length_map]; omega) B4.size ?_; intro v5 W5 O5 g5)
          go_roundw
          case rel => exact ⟨i + 1, out ++ [⟨1, z1, z2⟩], by omega, by go_num, HG3.out, by rw [List.length_append, List.length_singleton]; omega, by rw [List.map_append]; exact O5, O4.below_grown g5 B4 (Nat.le_refl _) B4.size⟩
          case measure => simp [intOf]; omega
        · have e0 : (0 : Int) < (i : Int) := by omega
          have HG3 := Lib.hid (show itemsGo ws ws 0 [] = itemsGo ws (ws.drop (i + 1)) (i + 1) (out ++ [⟨8, z1, z2⟩]) by rw [HGG.out, if_neg h0])
          have O4 := O3.alloc (.cells (ItemV.arr ⟨8, z1, z2⟩) 57)
          have B4 := below_step B3 (alloc_belowR w3 (.cells (ItemV.arr ⟨8, z1, z2⟩) 57))
          have hq := Blk.new w3 (ItemV.arr ⟨8, z1, z2⟩) 57
          have HOl := HOL.out
          clear HGG h0
          go_wp2_with (at_builtin; refine wpList_append_item rfl (.tmp 47) (.tmp 52) _ 57 3 40 _ infoA_itm rfl (by omega) Tryz.underlying23 rfl O4 rfl (ItemV.arr ⟨8, z1, z2⟩) w3.heap.size 1 (ItemV.arr_size _) (ItemV.arr_one _) rfl hq.cell (by rw [List.length_map]; unfold maxLen; omega) (by rw [List.length_map]; omega) B4.size ?_; intro v5 W5 O5 g5)
          go_roundw
          case rel => exact ⟨i + 1, out ++ [⟨8, z1, z2⟩], by omega, by go_num, HG3.out, by rw [List.length_append, List.length_singleton]; omega, by rw [List.map_append]; exact O5, O4.below_grown g5 B4 (Nat.le_refl _) B4.size⟩
          case measure => simp [intOf]; omega
    · have h2 : decide (i = 0 ∨ i + 1 = ws.length) = false := by simpa using hb
      rw [h2]
      clear h2
      have hi0 : 0 < i := by omega
      have hi1 : i + 1 < ws.length := by omega
      have HW := Lib.hid (show itemS x = wo by rw [← hwo]; unfold wordI; rw [if_neg hb])
      have KI := Lib.hid (ritem22_any x (by omega) w2)
      rw [HW.out] at KI
      clear hb
      go_upto_region 17 with (go_at_call 35; refine KI.out.mono ?_; rintro e w3 ⟨y, rfl, hz, b3⟩; have A3 : Blk (w3.alloc (.cells #[.int .u8 0, .string ⟨#[]⟩, .string ⟨#[]⟩] 57)) w3.heap.size noItem.arr := Blk.new w3 noItem.arr 57; have f0 := A3.plain; have f1 := A3.of; have f2 := A3.lt)
      have A4 : Blk ((w3.alloc (.cells #[.int .u8 0, .string ⟨#[]⟩, .string ⟨#[]⟩] 57)).setRow w3.heap.size y.arr) w3.heap.size y.arr := A3.set _
      have D4 : Below w2.heap.size w2 ((w3.alloc (.cells #[.int .u8 0, .string ⟨#[]⟩, .string ⟨#[]⟩] 57)).setRow w3.heap.size y.arr) := below_setRow' (below_step b3 (alloc_belowR w3 _)) b3.size _
      have hq2 := b3.size
      obtain ⟨q, hq⟩ : ∃ q, q = w3.heap.size := ⟨_, rfl⟩
      rw [← hq] at A4 D4 ⊢
      clear A3 f0 f1 f2
      generalize (w3.alloc _).setRow _ _ = w4 at A4 D4 ⊢
      have hql : w2.heap.size ≤ q := by omega
      have O4 := O.step D4
      have B4 := below_step BW D4
      have BB4 := below_step HB.out B4
      clear hq hq2 b3 KI O BW BB HW
      cases wo with
      | none =>
        have HE := Lib.hid (show itemsGo ws ws 0 [] = (([], (i : Int)), 4) by rw [HG.out, HD.out, itemsGo, hwo])
        have HE := Lib.hid (show OUT = (([], (i : Int)), 4) by rw [HO.out, if_pos (by rw [HE.out]; simp), HE.out])
        clear HO HG HD hwo hz
        go_wp2
        go_ret3
        exact RetItms.err HE.out BB4
      | some y' =>
      obtain rfl := hz y' rfl
      clear hz
      obtain ⟨A5, c5, e5, hl5, hI5, _, _⟩ := O4.form (itm_sizes out)
      rw [List.length_map] at e5 hl5
      have HOl := HOL.out
      have hoi : i - 1 < out.length := by omega
      obtain ⟨b4, off4, hA4, hb4, hq4⟩ := hI5.itm hoi
      subst hA4
      have hgd : out.getD (i - 1) noItem = out[i - 1] := by rw [List.getD_eq_getElem?_getD, List.getElem?_eq_getElem hoi]; rfl
      generalize out[i - 1] = z at hgd hq4
      obtain ⟨m, hm⟩ : ∃ m, misB ws i y out = m := ⟨_, rfl⟩
      have S4 := strsB HSS.out D4
      have KM := Lib.hid (fun W (b : Below w4.heap.size w4 W) => rmis22_any ws (some ⟨sb, so, none⟩) c1 i y z out W (by omega) hlen hc1 (strsB S4 b) (by omega) hgd)
      rw [hm] at KM
      go_upto_region 19 with (fail)
      go_cut [70] (fun e wx => e = .bool m ∧ Below w4.heap.size w4 wx)
      case first =>
        have hcast : ((i : Int) - 1).toNat = i - 1 := by omega
        have hb1 : ¬ ((i : Int) - 1 < 0) := by omega
        have hb2 : (i : Int) - 1 < (out.length : Int) := by omega
        have hb3 : (1 : Int) ≤ (i : Int) := by omega
        have hb4 : (i : Int) ≤ (out.length : Int) := by omega
        have hb5 : (0 : Int) ≤ (i : Int) - 1 := by omega
        have hb6 : IntKind.i64.wrap ((i : Int) - 1) = (i : Int) - 1 := IntWalk.i64_in _ (by omega)
        have hb7 : wrap64 ((i : Int) - 1) = (i : Int) - 1 := IntWalk.wrap64_in _ (by omega)
        have hb8 : ¬ ((out.length : Int) ≤ (i : Int) - 1) := by omega
        have hb9 : i - 1 < out.length := by omega
        have D5 : Below w4.heap.size w4 w4.drew := (Below.refl _ _).drew
        have i1 : Has_itm w4.drew q 0 := ⟨_, (A4.step D5).is_itm⟩
        have i2 : of_itm w4.drew q 0 = y := of_itm_eq (A4.step D5).is_itm
        have i3 : Has_itm w4.drew b4 (off4 + (i - 1) * 3) := ⟨z, hq4 _ D5⟩
        have i4 : of_itm w4.drew b4 (off4 + (i - 1) * 3) = z := of_itm_eq (hq4 _ D5)
        clear HO HG HD hwo hm O4 HSS S4 hgd HOL hI5 HOl hoi
        subst e5
        go_region_held3 (fun w' => (Has_itm w' q 0 ∧ of_itm w' q 0 = y) ∧ Has_itm w' b4 (off4 + (i - 1) * 3) ∧ of_itm w' b4 (off4 + (i - 1) * 3) = z) (first | exact ⟨⟨i1, i2⟩, i3, i4⟩ | exact ⟨⟨j1, j2⟩, j3, j4⟩)
          (first
          | (go_at_call 36; (with_reducible refine callR (KM.out _ D5) ?_); intro w5 b5 _ _ _
             have j1 : Has_itm w5 q 0 := ⟨_, (A4.step (below_step D5 b5)).is_itm⟩
             have j2 : of_itm w5 q 0 = y := of_itm_eq (A4.step (below_step D5 b5)).is_itm
             have j3 : Has_itm w5 b4 (off4 + (i - 1) * 3) := ⟨z, hq4 _ (below_step D5 b5)⟩
             have j4 : of_itm w5 b4 (off4 + (i - 1) * 3) = z := of_itm_eq (hq4 _ (below_step D5 b5))))
        all_goals
          go_wp2
          go_meet
          exact ⟨rfl, below_step D5 b5⟩
      case rest =>
      obtain ⟨rfl, D5⟩ := hcut
      generalize wc = w5 at *
      have HG2 := Lib.hid (show itemsGo ws ws 0 [] = if m then (([], (i : Int)), 9) else itemsGo ws (ws.drop (i + 1)) (i + 1) (out ++ [y]) by rw [HG.out, HD.out, itemsGo, hwo]; simp only; rw [hm])
      have B5 := below_step B4 D5
      have BB5 := below_step HB.out B5
      have O5 := O4.step D5
      have A5 := A4.step D5
      clear HG HD hwo hm KM O4 A4 B4 BB4
      cases m with
      | true =>
        have HE := Lib.hid (show OUT = (([], (i : Int)), 9) by rw [HO.out, if_pos (by rw [HG2.out]; simp), HG2.out]; rfl)
        clear HO HG2 O5
        go_wp2
        go_ret3
        exact RetItms.err HE.out BB5
      | false =>
      have HG3 := Lib.hid (HG2.out.trans (if_neg (by decide)))
      clear HO HG2
      have i1 : Has_itm w5 q 0 := ⟨_, A5.is_itm⟩
      have i2 : of_itm w5 q 0 = y := of_itm_eq A5.is_itm
      have O6 := O5.alloc (.cells y.arr 57)
      have B6 := below_step B5 (alloc_belowR w5 (.cells y.arr 57))
      have hq := Blk.new w5 y.arr 57
      have hol2 : out.length ≤ 124 := by omega
      go_wp2_with (at_builtin; refine wpList_append_item rfl (.tmp 72) (.tmp 74) _ 57 3 40 _ infoA_itm rfl (by omega) Tryz.underlying23 rfl O6 rfl y.arr w5.heap.size 1 y.arr_size y.arr_one rfl hq.cell (by rw [List.length_map]; unfold maxLen; omega) (by rw [List.length_map]; omega) B6.size ?_; intro v5 W5 O7 g5)
      go_roundw
      case rel => exact ⟨i + 1, out ++ [y], by omega, by go_num, HG3.out, by rw [List.length_append, List.length_singleton]; omega, by rw [List.map_append]; exact O7, O6.below_grown g5 B6 (Nat.le_refl _) B6.size⟩
      case measure => simp [intOf]; omega
theorem same22_any (a b : List ItemV) (A B : Option Addr) (ca cb : Nat) (w : World) (hla : a.length ≤ 4000000000) (hlb : b.length ≤ 4000000000) (hca : a.length ≤ ca) (hcb : b.length ≤ cb) (ha : Items w A 3 (a.map ItemV.arr)) (hb : Items w B 3 (b.map ItemV.arr)) :
    Calls Tryz.prog 13 #[.slice A a.length ca, .slice B b.length cb] w (RetQ w (.bool (eqIt a b))) := by
  by_cases hl : a.length = b.length
  · have h1 : ((a.length : Int) != (b.length : Int)) = false := by simp [hl]
    have HL := Lib.hid hl; clear hl
    go_enter Tryz.func13, Tryz.ntmps13
    go_wp2
    go_loopw [13] (fun i wr => ∃ k : Nat, k ≤ a.length ∧ i = .int .i64 k ∧ eqIt a b = eqIt (a.drop k) (b.drop k) ∧ ∃ n, wr = w.drewN n) (fun i _ => a.length - (intOf i).toNat)
    case atStart => exact ⟨0, by omega, rfl, rfl, 0, rfl⟩
    case round =>
      obtain ⟨k, hk, rfl, hq, n, rfl⟩ := hrel
      have HQ := Lib.hid hq; clear hq
      by_cases hlt : k < a.length
      · have hlt2 : k < b.length := by have := HL.out; omega
        obtain ⟨b1, o1, hA, hb1, hq1⟩ := ha.itm hlt
        obtain ⟨b2, o2, hB, hb2, hq2⟩ := hb.itm hlt2
        subst hA hB
        have he1 := hq1 w (Below.refl _ _)
        have he2 := hq2 w (Below.refl _ _)
        have hda := Lib.hid (List.drop_eq_getElem_cons hlt)
        have hdb := Lib.hid (List.drop_eq_getElem_cons hlt2)
        generalize a[k] = x at he1 hda
        generalize b[k] = y at he2 hdb
        have i1 : Has_itm w b1 (o1 + k * 3) := ⟨x, he1⟩
        have i2 : Has_itm w b2 (o2 + k * 3) := ⟨y, he2⟩
        have j1 : of_itm w b1 (o1 + k * 3) = x := of_itm_eq he1
        have j2 : of_itm w b2 (o2 + k * 3) = y := of_itm_eq he2
        have hne := run_neq_itm x y
        clear he1 he2 hq1 hq2 ha hb
        go_wp2
        go_quiet (fail)
        go_wp2
        · go_ret
          exact RetQ.bool (by rw [HQ.out, hda.out, hdb.out]; go_light; simp_all [eqIt]) ⟨n + nq, World.drewN_drewN _ _ _⟩
        · go_roundw
          case rel => exact ⟨k + 1, by omega, by go_num, by rw [HQ.out, hda.out, hdb.out]; go_light; simp_all [eqIt], _, rfl⟩
          case measure => simp [intOf]; omega
      · go_wp2
        go_ret
        exact RetQ.bool (by rw [HQ.out, List.drop_of_length_le (by omega), List.drop_of_length_le (by have := HL.out; omega)]; rfl) ⟨_, rfl⟩
  · have h1 : ((a.length : Int) != (b.length : Int)) = true := by simp; omega
    have HL := Lib.hid hl; clear hl
    go_enter Tryz.func13, Tryz.ntmps13
    go_wp2
    go_ret
    exact RetQ.bool (eqIt_len HL.out).symm ⟨0, rfl⟩
end Go.Proofs.YtgoeedohgomodaaGreatDoor
namespace Go.Proofs.YtgoeedohgomodaaGreatDoor
open Go.RowKit Go.Sort
set_option linter.unusedVariables false
set_option linter.unusedSimpArgs false
set_option maxRecDepth 100000
theorem routeParse_most (s : List UInt8) : (routeParse s).1.1.length ≤ 124 := by
  by_cases h : (routeParse s).2 = 0
  · exact routeParse_len h
  · rw [routeParse_none h]; simp
set_option maxHeartbeats 4000000 in
theorem lawRtParses_any (s : List UInt8) (w : World) (hL : Laid w) (hs : s.length ≤ 4000000) :
    Calls Tryz.prog 3 #[.string ⟨s.toArray⟩] w (Ret w (.bool true)) := by
  have KA := Lib.hid (fun W (b : Below w.heap.size w W) => awake22_any W (hL.below b))
  have KP := Lib.hid (fun W (b : Below w.heap.size w W) => rparse_any s (by omega) W (hL.below b))
  have KR := Lib.hid (fun W => rparse22_any s (by omega) W)
  have hl := routeParse_most s
  generalize routeParse s = r at *
  obtain ⟨⟨l, a⟩, n⟩ := r
  clear hL
  go_enter Tryz.func3, Tryz.ntmps3
  go_upto_region 3 with (go_at_call 10; (with_reducible refine callR (KA.out _ (Below.refl _ _)) ?_); intro w1 b1 _ _ _)
  by_cases h4 : 4000 < s.length
  · have e4 : (4000 : Int) < (s.length : Int) := by omega
    go_wp2
    go_ret
    exact Ret.bool rfl b1
  have e4 : ¬ (4000 : Int) < (s.length : Int) := by omega
  have B1 := Lib.hid b1
  clear h4 b1 KA
  go_upto_region 6 with (go_at_call 11; (with_reducible refine callItms (KP.out _ B1.out) ?_); intro A2 c2 w2 hc2 I2 _ b2)
  have B2 := Lib.hid (below_step B1.out b2)
  go_upto_region 7 with (go_at_call 12; (with_reducible refine callItms (KR.out _) ?_); intro A3 c3 w3 hc3 I3 _ b3)
  have B3 := Lib.hid (below_step B2.out b3)
  have KS := Lib.hid (same22_any l l A2 A3 c2 c3 w3 (by omega) (by omega) hc2 hc3 (I2.below b3) I3)
  rw [(eqIt_iff l l).2 rfl] at KS
  clear I2 I3 hc2 hc3 KP KR b2 b3
  go_wp2_with (go_at_call 13; (with_reducible refine callQ KS.out ?_); intro n4)
  go_ret
  exact Ret.bool (by simp) (below_drewN B3.out n4)
end Go.Proofs.YtgoeedohgomodaaGreatDoor
namespace Go.Proofs.YtgoeedohgomodaaGreatDoor
open Go.RowKit Go.ChangeShapes Go.WideShapes Go.Deep
set_option linter.unusedVariables false
set_option linter.unusedSimpArgs false
theorem laid22_of {W : World} {l : List (String × DataW Unit)} (h : laidMet Tryz.prog l W) (hsh : W.ShapedOpen Tryz.prog) (h1 : ("flightdeck/leg.uses", Lib.tabData .u16 usesTab) ∈ l) : Laid W := by
  obtain ⟨ps, hv, _, _⟩ := h
  have t1 := tab_of hv gUses (t := 194) (by kernel_rfl) Tryz.underlying194 Tryz.underlying193 (by kernel_rfl) (by kernel_rfl) h1
  exact ⟨fun k hk => t1.cell gUses k hk, Go.Proofs.cell_of_shapedOpen_int (zero := #[.int .i64 0]) (t := 3) hsh (of_decide_eq_true (by kernel_rfl)) (by kernel_rfl) rfl (by kernel_rfl) (by kernel_rfl) Tryz.underlying3⟩
end Go.Proofs.YtgoeedohgomodaaGreatDoor
namespace Go.Proofs.YtgoeedohgomodaaGreatDoor.routeParses
open Go.ChangeShapes Go.WideShapes Go.ChangeAt Go.RowKit
set_option linter.unusedVariables false
set_option linter.unusedSimpArgs false
theorem own : ownKnob Tryz.prog.godebug = none := by kernel_rfl
theorem laidOut : laidOutB Tryz.prog = true := by kernel_rfl
theorem opens {W : World} (h : laidMetH Tryz.prog Rows.routeParsesUptoRow.laid W) (hsh : W.ShapedOpen Tryz.prog) : Laid W :=
  laid22_of (l := Rows.routeParsesUptoRow.laid) h hsh (by first | exact List.mem_of_getElem? (i := 0) rfl | exact List.mem_of_getElem? (i := 1) rfl | exact List.mem_of_getElem? (i := 2) rfl | exact List.mem_of_getElem? (i := 3) rfl | exact List.mem_of_getElem? (i := 4) rfl | exact List.mem_of_getElem? (i := 5) rfl | exact List.mem_of_getElem? (i := 6) rfl | exact List.mem_of_getElem? (i := 7) rfl | exact List.mem_of_getElem? (i := 8) rfl | exact List.mem_of_getElem? (i := 9) rfl | exact List.mem_of_getElem? (i := 10) rfl | exact List.mem_of_getElem? (i := 11) rfl | exact List.mem_of_getElem? (i := 12) rfl | exact List.mem_of_getElem? (i := 13) rfl)
set_option maxRecDepth 100000 in
theorem contract (H : Type) (enc : TypeId × Value → H) (W : World) (base : Nat) (args : Array Value) (ds gs : List (DataW H)) (before : List MemPlace)
    (hval : ∀ (j : Nat) t v, Tryz.f3.params[j]? = some t → args[j]? = some v → Value.okWide Tryz.prog W .any base t v)
    (hW : DataW.Whole enc Tryz.prog Tryz.f3.params.toList Rows.routeParsesSpec.vars false W args.toList ds gs before) (hL : laidMetH Tryz.prog Rows.routeParsesUptoRow.laid W) (hsh : W.ShapedOpen Tryz.prog) (hk : Rows.uptoSmall H (ds ++ gs) = true) :
    Calls Tryz.prog 3 args W fun e W' => ∃ v, e = .returned v ∧ Rows.routeParsesSpec.post enc Tryz.prog Tryz.f3 false true false false W args v W' := by
  have OP := opens hL hsh
  have hW' := hW
  obtain ⟨p, q, hA0, hV, rfl, hfz, hnd⟩ := hW
  have hA : DataW.TrodAll enc Tryz.prog W 0 (fun _ => true) true Tryz.f3.params.toList args.toList ds p := hA0
  rw [Tryz.params3] at hA hval
  obtain ⟨v0, vs0, d0, ds0, pl0, ql0, hargs, rfl, rfl, h0, r0⟩ := trodAll_cons hA
  obtain ⟨rfl, rfl, rfl⟩ := trodAll_nil r0
  obtain rfl : args = #[v0] := by cases args; simp_all
  obtain ⟨rfl, rfl⟩ := trodVars_none hV
  have hb := of_decide_eq_true hk
  simp only [List.append_nil, Rows.uptoBulkAll] at hb
  have hk0 := h0
  obtain ⟨s0, rfl, sl0⟩ := open_strX (hval 0 9 v0 rfl rfl) h0
  have walk := lawRtParses_any s0 W OP (by omega)
  refine walk.mono fun e W' ⟨he, hg⟩ => ?_
  subst he
  have hl0 : ∀ x ∈ pl0, x.block < W.heap.size := fun x hx => by simpa using hW'.lt x (by simp [hx])
  refine ⟨_, rfl, _, _, _, [], (pl0 ++ []), [], hW', ?_, ?_, rfl, ?_, fun h => by cases h⟩
  · exact trodAll_cons_mk (shut_bool Tryz.underlying4 _) trodAll_mk0
  · exact (trodAll_cons_mk (Below.trod laidOut (by kernel_rfl) (of_decide_eq_true (by kernel_rfl)) hk0 hg hl0) trodAll_mk0)
  · exact hg.frame _
theorem reads (os : Os) {H : Type} (enc : TypeId × Value → H) : ∃ places, DataW.whole enc Tryz.prog ((World.laidAll Tryz.prog os Rows.routeParsesUptoRow.laid).forCall (fun _ _ => 0) ⟨#[], #[.string ⟨#[]⟩], []⟩).memory Tryz.f3.params.toList Rows.routeParsesSpec.vars false (#[.string ⟨#[]⟩] : Array Value).toList 8 = some ([.lit (.string [])], [], places) :=
  ⟨[], by kernel_rfl⟩
set_option maxRecDepth 100000 in
theorem liftedUpto (os : Os) (started : os.Started) (H : Type) (enc : TypeId × Value → H) (F : Stop.Interp) :
    ReturnsInHanded {} Tryz.checked os 3 .any ((Rows.OpenSpec.upto Rows.routeParsesSpec).preRow enc Tryz.prog Tryz.f3 Rows.routeParsesUptoRow.domain false Rows.routeParsesUptoRow.laid) (((Rows.OpenSpec.upto Rows.routeParsesSpec).at F).post enc Tryz.prog Tryz.f3 false true false false) := by
  obtain ⟨places, hx⟩ := reads os enc
  refine returnsInHanded_of_row (C := Tryz.checked) (s := Rows.OpenSpec.upto Rows.routeParsesSpec) own started (by kernel_rfl) Tryz.func3
    (witness_row_atRef (enc := enc) (C := Tryz.checked) false (World.laidAll Tryz.prog os Rows.routeParsesUptoRow.laid) #[.string ⟨#[]⟩] (World.laidAll_os _ _ _) (by kernel_rfl) (by kernel_rfl) (by kernel_rfl)
      (OpenSpec.preRow_of_cond 8 hx (by kernel_rfl) (fun k hk => by cases hk; kernel_rfl) (by kernel_rfl) (laidMet_laidAll _ (by kernel_rfl) (by kernel_rfl)))) ?_
  intro W base args ds gs before hval hW _ hcond _ hL hsh _
  exact contract H enc W base args ds gs before hval hW hL hsh (hcond _ rfl)
set_option maxHeartbeats 40000000 in
theorem saidUpto : Rows.RouteParsesUptoSaid :=
  OpenClaim.holds_of_cond 3 Tryz.f3 rfl rfl rfl rfl rfl rfl rfl ⟨rfl, rfl, rfl, rfl, rfl⟩ rfl rfl rfl rfl rfl (by as_aux_lemma => kernel_rfl) Tryz.func3 (by
      unfold joinedFacts
      simp only [Bool.and_eq_true]
      repeat' apply And.intro
      all_goals (as_aux_lemma => kernel_rfl))
    (of_decide_eq_true (by as_aux_lemma => kernel_rfl)) (by unfold Func.isWrapper; first | (rw [if_pos (by decide +kernel)]; kernel_rfl) | (rw [if_neg (by decide +kernel)]; exact ⟨rfl, rfl⟩))
    (fun os started H enc _ F => by rw [OpenClaim.pre_eq_preRow]; exact liftedUpto os started H enc F)
theorem plain (f : FuncId) (fn : Func) (hf : Tryz.pinned.checked.prog.funcNamed "flightdeck/flightdecklaw22.RouteParses" = some f) (hfn : Tryz.pinned.checked.prog.funcs[f]? = some fn) :
    false = Tryz.pinned.checked.prog.looks [] ∧ ∀ (j : Nat) t, fn.params[j]? = some t → Tryz.pinned.checked.prog.wantsStandIn t = false := by
  obtain rfl : f = 3 := Option.some.inj ((show Tryz.prog.funcNamed "flightdeck/flightdecklaw22.RouteParses" = some 3 by kernel_rfl).symm.trans hf) |>.symm
  obtain rfl : fn = Tryz.f3 := (Option.some.inj (Tryz.func3.symm.trans hfn)).symm
  refine ⟨by kernel_rfl, fun j t ht => ?_⟩
  rw [Tryz.params3] at ht
  have hm := Array.mem_of_getElem? ht
  obtain rfl : t = 9 := by simpa using hm
  exact (show Tryz.prog.wantsStandIn 9 = false by kernel_rfl)
end Go.Proofs.YtgoeedohgomodaaGreatDoor.routeParses
namespace Go.Proofs.YtgoeedohgomodaaGreatDoor
set_option maxHeartbeats 40000000 in
/-- The card of the second form. -/
theorem routeParses_card : Rows.RouteParsesUptoCardSaid :=
  Claim7.holds_tied_plain_at .later [] _ _ _ _ routeParses.saidUpto (fun _ h => by cases h) (by as_aux_lemma => kernel_rfl) (fun _ h => by cases h) routeParsesUpto_row_tie rfl ⟨rfl, rfl⟩ (by as_aux_lemma => kernel_rfl) rfl routeParses.plain (by as_aux_lemma => kernel_rfl)
end Go.Proofs.YtgoeedohgomodaaGreatDoor
