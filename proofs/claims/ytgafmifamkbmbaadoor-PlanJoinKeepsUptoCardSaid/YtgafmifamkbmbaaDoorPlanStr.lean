/- The strings of a plan: pair, place, way; the sections; valid points. -/
import Derived.Test.YtgafmifamkbmbaaDoorRef2
namespace Go.Proofs.YtgafmifamkbmbaaDoor
open Go.RowKit
set_option linter.unusedVariables false
set_option linter.unusedSimpArgs false

def pair3 (q : List UInt8 × List UInt8 × Bool) (most : Int) : Bool := nameB q.1 most && (!q.2.2 || nameB q.2.1 most)
def pairB (l : List UInt8) (c : UInt8) (most : Int) : Bool := pair3 (cutAt c l) most
def placeB (l : List UInt8) : Bool := l.isEmpty || pairB l 47 6
def viaB (l : List UInt8) : Bool := l.isEmpty || pairB l 46 8
def sectionB (s : Int) : Bool := decide (1 ≤ s) && decide (s ≤ 5)
def pointB (x y : Int) : Bool := decide (-2000000 ≤ x) && decide (x ≤ 2000000) && decide (-2000000 ≤ y) && decide (y ≤ 2000000)

set_option maxHeartbeats 400000 in
theorem pair_any (l : List UInt8) (c : UInt8) (most : Int) (w : World) (hL : Laid w) (hl : l.length ≤ 4000000000) :
    Calls Tryd.prog 49 #[.string ⟨l.toArray⟩, .string ⟨#[c]⟩, .int .i64 most] w (RetQ w (.bool (pairB l c most))) := by
  have hc := cutAt_len c l
  generalize hq : cutAt c l = q at hc
  obtain ⟨a, b, f⟩ := q
  have hs := Lib.hid (show pairB l c most = pair3 (a, b, f) most by rw [pairB, hq])
  have HQ := Lib.hid hq; clear hq
  simp only at hc
  obtain ⟨ha, hb⟩ := hc
  go_enter Tryd.func49, Tryd.ntmps49
  go_wp2_with fail
  refine (cut_any l c w hL hl).mono ?_
  rintro e w' ⟨rfl, n, rfl⟩
  rw [HQ.out]
  cases f
  all_goals
    go_wp2_with (go_at_call 72; refine callP (name_any _ _ _ (by omega)) ?_)
    all_goals (go_ret; exact RetQ.bool (by rw [hs.out]; grind [pair3]) ⟨_, rfl⟩)
set_option maxHeartbeats 400000 in
theorem rpair_any (l : List UInt8) (c : UInt8) (most : Int) (w : World) (hl : l.length ≤ 4000000000) :
    Calls Tryd.prog 40 #[.string ⟨l.toArray⟩, .int .u8 c.toNat, .int .i64 most] w (RetP w (.bool (pairB l c most))) := by
  go_enter Tryd.func40, Tryd.ntmps40
  go_wp2
  go_loop [7] (fun i => ∃ k : Nat, k ≤ l.length ∧ i = .int .i64 k ∧ (l.take k).all (· != c) = true) (fun i => l.length - (intOf i).toNat)
  case atStart => exact ⟨0, by omega, rfl, by simp⟩
  case round =>
    obtain ⟨k, hk, rfl, hq⟩ := hrel
    have HQ := Lib.hid hq; clear hq
    by_cases hlt : k < l.length
    · by_cases hc : l[k] = c
      · have hs := Lib.hid (show pairB l c most = pair3 (l.take k, l.drop (k+1), true) most by rw [pairB, cutAt_at c l k hlt HQ.out hc])
        have h1 : ((l[k].toNat : Int) == (c.toNat : Int)) = true := u8_eq hc
        clear hc
        have L1 : (l.take k).length ≤ 4000000000 := by rw [List.length_take]; omega
        have L2 : (l.drop (k+1)).length ≤ 4000000000 := by rw [List.length_drop]; omega
        go_wp2_with (go_at_call 60; refine callP (rname_any _ _ _ (by omega)) ?_)
        all_goals (go_ret; exact RetP.bool (by rw [hs.out]; grind [pair3]) rfl)
      · have h1 : ((l[k].toNat : Int) == (c.toNat : Int)) = false := u8_ne hc
        go_wp2
        go_round
        case rel => exact ⟨k + 1, by omega, by go_num, take_all_succ _ l k hlt HQ.out (by simp [hc])⟩
        case measure => simp [intOf]; omega
    · have hs := Lib.hid (show pairB l c most = pair3 (l, [], false) most by rw [pairB, cutAt_none c l (by have := HQ.out; rwa [List.take_of_length_le (by omega)] at this)])
      go_wp2_with (go_at_call 60; refine callP (rname_any _ _ _ (by omega)) ?_)
      go_ret
      exact RetP.bool (by rw [hs.out]; grind [pair3]) rfl
set_option maxHeartbeats 400000 in
theorem place_any (l : List UInt8) (w : World) (hL : Laid w) (hl : l.length ≤ 4000000000) : Calls Tryd.prog 28 #[.string ⟨l.toArray⟩] w (RetQ w (.bool (placeB l))) := by
  go_enter Tryd.func28, Tryd.ntmps28
  go_wp2_with (go_at_call 49; refine callQ (pair_any l 47 _ _ hL (by omega)) ?_; intro n1)
  all_goals (go_ret; exact RetQ.bool (by grind [placeB]) (by first | exact ⟨_, rfl⟩ | exact ⟨0, rfl⟩))
set_option maxHeartbeats 400000 in
theorem way_any (l : List UInt8) (w : World) (hL : Laid w) (hl : l.length ≤ 4000000000) : Calls Tryd.prog 52 #[.string ⟨l.toArray⟩] w (RetQ w (.bool (viaB l))) := by
  go_enter Tryd.func52, Tryd.ntmps52
  go_wp2_with (go_at_call 49; refine callQ (pair_any l 46 _ _ hL (by omega)) ?_; intro n1)
  all_goals (go_ret; exact RetQ.bool (by grind [viaB]) (by first | exact ⟨_, rfl⟩ | exact ⟨0, rfl⟩))
set_option maxHeartbeats 400000 in
theorem rplace_any (l : List UInt8) (w : World) (hl : l.length ≤ 4000000000) : Calls Tryd.prog 16 #[.string ⟨l.toArray⟩] w (RetP w (.bool (placeB l))) := by
  go_enter Tryd.func16, Tryd.ntmps16
  go_wp2_with (go_at_call 40; refine callP (rpair_any l 47 _ _ (by omega)) ?_)
  all_goals (go_ret; exact RetP.bool (by grind [placeB]) rfl)
set_option maxHeartbeats 400000 in
theorem rvia_any (l : List UInt8) (w : World) (hl : l.length ≤ 4000000000) : Calls Tryd.prog 38 #[.string ⟨l.toArray⟩] w (RetP w (.bool (viaB l))) := by
  go_enter Tryd.func38, Tryd.ntmps38
  go_wp2_with (go_at_call 40; refine callP (rpair_any l 46 _ _ (by omega)) ?_)
  all_goals (go_ret; exact RetP.bool (by grind [viaB]) rfl)
theorem section_any (s : Int) (w : World) : Calls Tryd.prog 51 #[.int .u8 s] w (RetP w (.bool (sectionB s))) := by
  go_enter Tryd.func51, Tryd.ntmps51
  go_wp2
  all_goals (go_ret; exact RetP.bool (by grind [sectionB]) rfl)
theorem rsection_any (s : Int) (w : World) : Calls Tryd.prog 37 #[.int .u8 s] w (RetP w (.bool (sectionB s))) := by
  go_enter Tryd.func37, Tryd.ntmps37
  go_wp2
  all_goals (go_ret; exact RetP.bool (by grind [sectionB]) rfl)
theorem valid_any (x y : Int) (w : World) : Calls Tryd.prog 53 #[.agg #[.int .i64 x, .int .i64 y]] w (Ret w (.bool (pointB x y))) := by
  go_enter Tryd.func53, Tryd.ntmps53
  go_wp2
  all_goals (go_ret; exact Ret.bool (by grind [pointB]) (by go_grown))
theorem rvalid_any (x y : Int) (w : World) : Calls Tryd.prog 39 #[.agg #[.int .i64 x, .int .i64 y]] w (Ret w (.bool (pointB x y))) := by
  go_enter Tryd.func39, Tryd.ntmps39
  go_wp2
  all_goals (go_ret; exact Ret.bool (by grind [pointB]) (by go_grown))
end Go.Proofs.YtgafmifamkbmbaaDoor
