/- References: fix.short, fix.SplitRef and the references' own. -/
import Derived.Test.YtijfmfdnagjlpaaGreatDoorPk02
namespace Go.Proofs.YtijfmfdnagjlpaaGreatDoor
open Go.RowKit
set_option linter.unusedVariables false
set_option linter.unusedSimpArgs false
set_option maxHeartbeats 400000 in
theorem short_any (l : List UInt8) (w : World) (hl : l.length ≤ 4611686018427387904) : Calls Tryz.prog 37 #[.string ⟨l.toArray⟩] w (RetP w (.bool (shortB l))) := by
  by_cases h2 : l.length = 2
  · have hs := Lib.hid (show shortB l = l.all alnum by simp [shortB, h2])
    have h1 : ((l.length : Int) != 2) = false := by simp; omega
    have h3 := Lib.hid h2
    have hlo : 2 ≤ l.length := by omega
    have hhi : l.length ≤ 2 := by omega
    clear h2
    go_enter Tryz.func37, Tryz.ntmps37
    go_wp2
    go_loop [9] (fun i => ∃ k : Nat, k ≤ l.length ∧ i = .int .i64 k ∧ shortB l = (l.drop k).all alnum) (fun i => l.length - (intOf i).toNat)
    case atStart => exact ⟨0, by omega, rfl, by rw [hs.out]; rfl⟩
    case round =>
      obtain ⟨k, hk, rfl, hq⟩ := hrel
      have HQ := Lib.hid hq; clear hq
      by_cases hlt : k < l.length
      · have hd := Lib.hid (all_drop alnum l k hlt)
        go_wp2
        all_goals first
          | (go_ret; exact RetP.bool (by rw [HQ.out, hd.out]; grind [up, alnum]) rfl)
          | (go_round
             case rel => exact ⟨k + 1, by omega, by go_num, by rw [HQ.out, hd.out]; grind [up, alnum]⟩
             case measure => simp [intOf]; omega)
      · go_wp2
        go_ret
        exact RetP.bool (by rw [HQ.out, List.drop_of_length_le (by omega)]; rfl) rfl
  · have h1 : ((l.length : Int) != 2) = true := by simp; omega
    go_enter Tryz.func37, Tryz.ntmps37
    go_wp2
    go_ret
    exact RetP.bool (by grind [shortB]) rfl
set_option maxHeartbeats 400000 in
theorem region_any (l : List UInt8) (w : World) (hl : l.length ≤ 4611686018427387904) : Calls Tryz.prog 89 #[.string ⟨l.toArray⟩] w (RetP w (.bool (shortB l))) := by
  by_cases h2 : l.length = 2
  · have hs := Lib.hid (show shortB l = l.all alnum by simp [shortB, h2])
    have h1 : ((l.length : Int) != 2) = false := by simp; omega
    have h3 := Lib.hid h2
    have hlo : 2 ≤ l.length := by omega
    have hhi : l.length ≤ 2 := by omega
    clear h2
    go_enter Tryz.func89, Tryz.ntmps89
    go_wp2
    go_loop [3] (fun i => ∃ k : Nat, k ≤ l.length ∧ i = .int .i64 k ∧ shortB l = (l.drop k).all alnum) (fun i => l.length - (intOf i).toNat)
    case atStart => exact ⟨0, by omega, rfl, by rw [hs.out]; rfl⟩
    case round =>
      obtain ⟨k, hk, rfl, hq⟩ := hrel
      have HQ := Lib.hid hq; clear hq
      by_cases hlt : k < l.length
      · have hd := Lib.hid (all_drop alnum l k hlt)
        go_wp2
        all_goals first
          | (go_ret; exact RetP.bool (by rw [HQ.out, hd.out]; grind [up, alnum]) rfl)
          | (go_round
             case rel => exact ⟨k + 1, by omega, by go_num, by rw [HQ.out, hd.out]; grind [up, alnum]⟩
             case measure => simp [intOf]; omega)
      · go_wp2
        go_ret
        exact RetP.bool (by rw [HQ.out, List.drop_of_length_le (by omega)]; rfl) rfl
  · have h1 : ((l.length : Int) != 2) = true := by simp; omega
    go_enter Tryz.func89, Tryz.ntmps89
    go_wp2
    go_ret
    exact RetP.bool (by grind [shortB]) rfl

/-- A reference: its identifier and region, or the error. -/
def splitRef3 (q : List UInt8 × List UInt8 × Bool) : List UInt8 × List UInt8 × Int :=
  if q.2.2 then if nameB q.1 6 && (nameB q.2.1 6 || shortB q.2.1) then (q.1, q.2.1, 0) else ([], [], 5) else ([], [], 4)
def splitRef (l : List UInt8) : List UInt8 × List UInt8 × Int := splitRef3 (cutAt 47 l)
abbrev refVal (r : List UInt8 × List UInt8 × Int) : Value := .tuple #[.string ⟨r.1.toArray⟩, .string ⟨r.2.1.toArray⟩, .int .i64 r.2.2]
theorem RetQ.tuple3 {w w' : World} {r : List UInt8 × List UInt8 × Int} {a b : List UInt8} {n : Int} (h : r = (a, b, n)) (hw : ∃ k, w' = w.drewN k) :
    RetQ w (refVal r) (.returned (.tuple #[.string ⟨a.toArray⟩, .string ⟨b.toArray⟩, .int .i64 n])) w' := by subst h; exact ⟨rfl, hw⟩
/-- strings.Cut at one byte. -/
theorem cut_any (l : List UInt8) (c : UInt8) (w : World) (hL : Laid w) (hl : l.length ≤ 4000000000) :
    Calls Tryz.prog 35 #[.string ⟨l.toArray⟩, .string ⟨#[c]⟩] w fun e w' => e = .returned (.tuple #[.string ⟨(cutAt c l).1.toArray⟩, .string ⟨(cutAt c l).2.1.toArray⟩, .bool (cutAt c l).2.2]) ∧ ∃ n, w' = w.drewN n := by
  obtain ⟨m, hm⟩ := hL.maxLen
  have h := Tryz.strings_Cut ⟨l.toArray⟩ ⟨#[c]⟩ m w (by simp [ByteArray.size]; omega) hm
  simp only [cut_cutAt] at h
  exact h
set_option maxHeartbeats 400000 in
theorem splitRef_any (l : List UInt8) (w : World) (hL : Laid w) (hl : l.length ≤ 4000000000) : Calls Tryz.prog 18 #[.string ⟨l.toArray⟩] w (RetQ w (refVal (splitRef l))) := by
  have hc := cutAt_len 47 l
  generalize hq : cutAt 47 l = q at hc
  obtain ⟨a, b, f⟩ := q
  have hs := Lib.hid (show splitRef l = splitRef3 (a, b, f) by rw [splitRef, hq])
  have HQ := Lib.hid hq; clear hq
  simp only at hc
  obtain ⟨ha, hb⟩ := hc
  go_enter Tryz.func18, Tryz.ntmps18
  go_wp2_with fail
  refine (cut_any l 47 w hL hl).mono ?_
  rintro e w' ⟨rfl, n, rfl⟩
  rw [HQ.out]
  cases f
  · go_wp2
    go_ret3
    exact RetQ.tuple3 (by rw [hs.out]; rfl) ⟨_, rfl⟩
  · go_wp2_with (first
      | (go_at_call 36; refine callP (name_any _ _ _ (by omega)) ?_)
      | (go_at_call 37; refine callP (short_any _ _ (by omega)) ?_))
    all_goals (go_ret3; exact RetQ.tuple3 (by rw [hs.out]; grind [splitRef3]) ⟨_, rfl⟩)
end Go.Proofs.YtijfmfdnagjlpaaGreatDoor
