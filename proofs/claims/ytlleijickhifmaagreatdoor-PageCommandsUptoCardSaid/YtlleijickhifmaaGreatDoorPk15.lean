/- Decimal numbers: the contracts of the functions that write and read them. Plain numbers and digits: record.plain, angle.number and what the references have for them. -/
import Derived.Test.YtlleijickhifmaaGreatDoorPk05
import Derived.Test.YtlleijickhifmaaGreatDoorPk07
namespace Go.Proofs.YtlleijickhifmaaGreatDoor
open Go.RowKit Go.Sort
set_option linter.unusedVariables false
set_option linter.unusedSimpArgs false
set_option maxRecDepth 100000
attribute [local go_sem] ba_cat cat_len
theorem enc_dg (n : Nat) (h : n < 10) : Utf8.encode (48 + (n : Int)) = ⟨[dg n].toArray⟩ := by
  match n, h with
  | 0, _ | 1, _ | 2, _ | 3, _ | 4, _ | 5, _ | 6, _ | 7, _ | 8, _ | 9, _ => rfl
theorem enc_dgI (n : Int) (h0 : 0 ≤ n) (h : n < 10) : Utf8.encode (48 + n) = ⟨[dg n.toNat].toArray⟩ := by
  rw [← enc_dg n.toNat (by omega), Int.toNat_of_nonneg h0]
end Go.Proofs.YtlleijickhifmaaGreatDoor
namespace Go.Proofs.YtlleijickhifmaaGreatDoor
open Go.RowKit Go.Sort
set_option linter.unusedVariables false
set_option linter.unusedSimpArgs false
set_option maxRecDepth 100000
theorem plainB_pos (l : List UInt8) (h : 0 < l.length) : plainB l = ((decide (l.length ≤ 1) || decide (l[0].toNat ≠ 48)) && l.all isD) := by
  match l, h with
  | [c], _ => simp [plainB]
  | c :: d :: r, _ =>
    have e : (c != 48) = decide (c.toNat ≠ 48) := by
      rw [Bool.eq_iff_iff]
      simp only [bne_iff_ne, decide_eq_true_eq]
      exact not_congr ⟨fun e => by rw [e]; rfl, fun e => UInt8.toNat_inj.1 e⟩
    simp [plainB, e]
theorem plain_any (l : List UInt8) (w : World) (hl : l.length ≤ 4611686018427387904) : Calls Tryz.prog 62 #[.string ⟨l.toArray⟩] w (RetP w (.bool (plainB l))) := by
  by_cases h0 : 0 < l.length
  · have hs := Lib.hid (plainB_pos l h0)
    have hne : ¬ l = [] := by rintro rfl; simp at h0
    have h1 : ((l.length : Int) == 0) = false := by simp [hne]
    go_enter Tryz.func62, Tryz.ntmps62
    go_wp2
    all_goals try (go_ret; exact RetP.bool (by rw [hs.out]; grind) rfl)
    all_goals
      go_loop [19] (fun i => ∃ k : Nat, k ≤ l.length ∧ i = .int .i64 k ∧ plainB l = (l.drop k).all isD) (fun i => l.length - (intOf i).toNat)
      case atStart => exact ⟨0, by omega, rfl, by rw [hs.out]; grind⟩
      case round =>
        obtain ⟨k, hk, rfl, hq⟩ := hrel
        have HQ := Lib.hid hq; clear hq
        by_cases hlt : k < l.length
        · have hd := Lib.hid (all_drop isD l k hlt)
          go_wp2
          all_goals first
            | (go_ret; exact RetP.bool (by rw [HQ.out, hd.out]; grind [isD]) rfl)
            | (go_round
               case rel =>
                 first | refine ⟨_, _, _, ⟨k + 1, ?_, ?_, ?_⟩, rfl, rfl, rfl⟩ | refine ⟨k + 1, ?_, ?_, ?_⟩
                 · omega
                 · go_num
                 · rw [HQ.out, hd.out]; clear hs; grind [isD]
               case measure => simp [intOf]; omega)
        · go_wp2
          go_ret
          exact RetP.bool (by rw [HQ.out, List.drop_of_length_le (by omega)]; rfl) rfl
  · obtain rfl : l = [] := by cases l <;> simp_all
    go_enter Tryz.func62, Tryz.ntmps62
    go_wp2
    go_ret
    exact RetP.bool (by simp [plainB]) rfl
def numS (l : List UInt8) : Int × Bool := if l.all isD then ((val l : Int), true) else (0, false)
abbrev numVal (x : Int × Bool) : Value := .tuple #[.int .i64 x.1, .bool x.2]
theorem RetP.num {w w' : World} {n : Int} {b : Bool} {x : Int × Bool} (h : x = (n, b)) (hw : w = w') : RetP w (numVal x) (.returned (.tuple #[.int .i64 n, .bool b])) w' := ⟨by rw [h], hw⟩
theorem val_take_succ (l : List UInt8) (k : Nat) (h : k < l.length) : val (l.take (k + 1)) = 10 * val (l.take k) + (l[k].toNat - 48) := by
  rw [List.take_succ_eq_append_getElem h, val_snoc]
theorem val_take_lt (l : List UInt8) (k : Nat) (hk : k ≤ 17) (h : (l.take k).all isD = true) : val (l.take k) < 100000000000000000 := by
  have h1 := val_lt _ h
  have h2 : 10 ^ (l.take k).length ≤ 10 ^ 17 := Nat.pow_le_pow_right (by decide) (by have := List.length_take_le k l; omega)
  have h3 : (10 : Nat) ^ 17 = 100000000000000000 := by decide
  omega
theorem all_take_false {l : List UInt8} {k : Nat} (h : k < l.length) (hd : isD l[k] = false) : l.all isD = false := by
  rw [List.all_eq_false]
  exact ⟨l[k], List.getElem_mem h, by simp [hd]⟩
theorem number_any (l : List UInt8) (w : World) (hl : l.length ≤ 16) : Calls Tryz.prog 92 #[.string ⟨l.toArray⟩] w (RetP w (numVal (numS l))) := by
  go_enter Tryz.func92, Tryz.ntmps92
  go_wp2
  go_loop [4, 8] (fun n i => ∃ k : Nat, k ≤ l.length ∧ i = .int .i64 k ∧ n = .int .i64 (val (l.take k) : Nat) ∧ (l.take k).all isD = true) (fun _ i => l.length - (intOf i).toNat)
  case atStart => exact ⟨0, by omega, rfl, by simp [val, numV_nil], by simp⟩
  case round =>
    obtain ⟨k, hk, rfl, rfl, ha⟩ := hrel
    have hv := val_take_lt l k (by omega) ha
    by_cases hlt : k < l.length
    · have HS := Lib.hid (val_take_succ l k hlt)
      have HA := Lib.hid (take_all_succ isD l k hlt ha)
      have HF := Lib.hid (fun hd => all_take_false (l := l) hlt hd)
      clear ha
      generalize val (l.take k) = m at hv HS ⊢
      go_wp2
      all_goals first
        | (go_ret2; refine RetP.num ?_ rfl; have := HF.out (by grind [isD]); simp [numS, this])
        | (go_round
           case rel => exact ⟨k + 1, by omega, by go_num, by rw [HS.out]; congr 1; omega, HA.out (by grind [isD])⟩
           case measure => simp [intOf]; omega)
    · rw [List.take_of_length_le (by omega)] at ha
      have HA := Lib.hid ha; clear ha
      have HT := Lib.hid (List.take_of_length_le (l := l) (i := k) (by omega))
      generalize l.take k = t at hv HT ⊢
      go_wp2
      go_ret2
      refine RetP.num ?_ rfl
      have := HA.out
      rw [HT.out]
      simp [numS, this]
end Go.Proofs.YtlleijickhifmaaGreatDoor
