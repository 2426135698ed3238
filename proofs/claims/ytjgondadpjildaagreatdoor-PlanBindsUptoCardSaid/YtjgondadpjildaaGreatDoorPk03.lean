/- Names, references: the contracts of record.Name, fix.SplitRef and of the references' own. -/
import Derived.Test.YtjgondadpjildaaGreatDoorPk01
import Derived.Test.YtjgondadpjildaaGreatDoorPk02
namespace Go.Proofs.YtjgondadpjildaaGreatDoor
open Go.RowKit
set_option linter.unusedVariables false
set_option linter.unusedSimpArgs false

def up (c : UInt8) : Bool := decide (65 ≤ c.toNat) && decide (c.toNat ≤ 90)
def alnum (c : UInt8) : Bool := up c || (decide (48 ≤ c.toNat) && decide (c.toNat ≤ 57))
def nameB (l : List UInt8) (most : Int) : Bool :=
  match l with
  | [] => false
  | c :: _ => decide ((l.length : Int) ≤ most) && up c && l.all alnum
theorem nameB_pos (l : List UInt8) (most : Int) (h : 0 < l.length) : nameB l most = (decide ((l.length : Int) ≤ most) && up l[0] && l.all alnum) := by
  cases l with
  | nil => simp at h
  | cons a r => simp [nameB]
theorem all_drop (p : UInt8 → Bool) (l : List UInt8) (k : Nat) (h : k < l.length) : (l.drop k).all p = (p l[k] && (l.drop (k+1)).all p) := by
  rw [List.drop_eq_getElem_cons h, List.all_cons]
set_option maxHeartbeats 400000 in
theorem name_any (l : List UInt8) (most : Int) (w : World) (hl : l.length ≤ 4611686018427387904) : Calls Tryz.prog 101 #[.string ⟨l.toArray⟩, .int .i64 most] w (RetP w (.bool (nameB l most))) := by
  by_cases h0 : 0 < l.length
  · have hs := Lib.hid (nameB_pos l most h0)
    have hne : ¬ l = [] := by rintro rfl; simp at h0
    have h1 : ((l.length : Int) == 0) = false := by simp [hne]
    go_enter Tryz.func101, Tryz.ntmps101
    go_wp2
    all_goals try (go_ret; exact RetP.bool (by rw [hs.out]; grind [up]) rfl)
    go_loop [27] (fun i => ∃ k : Nat, k ≤ l.length ∧ i = .int .i64 k ∧ nameB l most = (l.drop k).all alnum) (fun i => l.length - (intOf i).toNat)
    case atStart => exact ⟨0, by omega, rfl, by rw [hs.out]; grind [up]⟩
    case round =>
      obtain ⟨k, hk, rfl, hq⟩ := hrel
      have HQ := Lib.hid hq; clear hq
      by_cases hlt : k < l.length
      · have hd := Lib.hid (all_drop alnum l k hlt)
        go_wp2
        all_goals first
          | (go_ret; exact RetP.bool (by rw [HQ.out, hd.out]; grind [up, alnum]) rfl)
          | (go_round
             case rel => exact ⟨k + 1, by omega, by go_num, by rw [HQ.out, hd.out]; grind [up, alnum]⟩
             case measure => simp [intOf]; omega)
      · go_wp2
        go_ret
        exact RetP.bool (by rw [HQ.out, List.drop_of_length_le (by omega)]; rfl) rfl
  · obtain rfl : l = [] := by cases l <;> simp_all
    go_enter Tryz.func101, Tryz.ntmps101
    go_wp2
    go_ret
    exact RetP.bool (by simp [nameB]) rfl

set_option maxHeartbeats 400000 in
theorem rname_any (l : List UInt8) (most : Int) (w : World) (hl : l.length ≤ 4611686018427387904) : Calls Tryz.prog 103 #[.string ⟨l.toArray⟩, .int .i64 most] w (RetP w (.bool (nameB l most))) := by
  by_cases h0 : 0 < l.length
  · have hs := Lib.hid (nameB_pos l most h0)
    have hne : ¬ l = [] := by rintro rfl; simp at h0
    have h1 : ((l.length : Int) == 0) = false := by simp [hne]
    have h2 : ¬ ((l.length : Int) < 1) := by omega
    go_enter Tryz.func103, Tryz.ntmps103
    go_wp2
    all_goals try (go_ret; exact RetP.bool (by rw [hs.out]; grind [up]) rfl)
    go_loop [5] (fun i => ∃ k : Nat, k ≤ l.length ∧ i = .int .i64 k ∧ nameB l most = (l.drop k).all alnum) (fun i => l.length - (intOf i).toNat)
    case atStart => exact ⟨0, by omega, rfl, by rw [hs.out]; grind [up]⟩
    case round =>
      obtain ⟨k, hk, rfl, hq⟩ := hrel
      have HQ := Lib.hid hq; clear hq
      by_cases hlt : k < l.length
      · have hd := Lib.hid (all_drop alnum l k hlt)
        go_wp2
        all_goals first
          | (go_ret; exact RetP.bool (by rw [HQ.out, hd.out]; grind [up, alnum]) rfl)
          | (go_round
             case rel => exact ⟨k + 1, by omega, by go_num, by rw [HQ.out, hd.out]; grind [up, alnum]⟩
             case measure => simp [intOf]; omega)
      · go_wp2
        go_ret
        exact RetP.bool (by rw [HQ.out, List.drop_of_length_le (by omega)]; rfl) rfl
  · obtain rfl : l = [] := by cases l <;> simp_all
    go_enter Tryz.func103, Tryz.ntmps103
    go_wp2
    go_ret
    exact RetP.bool (by simp [nameB]) rfl

def shortB (l : List UInt8) : Bool := l.length == 2 && l.all alnum
end Go.Proofs.YtjgondadpjildaaGreatDoor
