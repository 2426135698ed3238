/- The reference's Equal of lists of entries. -/
import Derived.Test.YtlggdgpdfepppaaGreatDoorQk08
namespace Go.Proofs.YtlggdgpdfepppaaGreatDoor
open Go.RowKit
set_option linter.unusedVariables false
set_option linter.unusedSimpArgs false
def eqGo : List Entry → List Entry → Bool
  | [], [] => true
  | x :: a, y :: b => x.eqB y && eqGo a b
  | _, _ => false
theorem eqGo_len : ∀ {a b : List Entry}, ¬ a.length = b.length → eqGo a b = false
  | [], [], h => by simp at h
  | [], _ :: _, _ => rfl
  | _ :: _, [], _ => rfl
  | x :: a, y :: b, h => by simp [eqGo]; intro _; exact eqGo_len (by simpa using h)
theorem eqGo_iff : ∀ (a b : List Entry), eqGo a b = true ↔ a = b
  | [], [] => by simp [eqGo]
  | [], _ :: _ => by simp [eqGo]
  | _ :: _, [] => by simp [eqGo]
  | x :: a, y :: b => by simp [eqGo, Entry.eqB_iff, eqGo_iff a b]
set_option maxHeartbeats 2000000 in
set_option maxRecDepth 100000 in
theorem sequal_any (a b : List Entry) (A B : Option Addr) (ca cb : Nat) (w : World) (hla : a.length ≤ 4000000000) (hlb : b.length ≤ 4000000000) (hca : a.length ≤ ca) (hcb : b.length ≤ cb) (ha : Ents w A a) (hb : Ents w B b) :
    Calls Tryz.prog 35 #[.slice A a.length ca, .slice B b.length cb] w (RetQ w (.bool (eqGo a b))) := by
  by_cases hl : a.length = b.length
  · have h1 : ((a.length : Int) != (b.length : Int)) = false := by simp [hl]
    have HL := Lib.hid hl; clear hl
    go_enter Tryz.func35, Tryz.ntmps35
    go_wp2
    go_loopw [13] (fun i wr => ∃ k : Nat, k ≤ a.length ∧ i = .int .i64 k ∧ eqGo a b = eqGo (a.drop k) (b.drop k) ∧ ∃ n, wr = w.drewN n) (fun i _ => a.length - (intOf i).toNat)
    case atStart => exact ⟨0, by omega, rfl, rfl, 0, rfl⟩
    case round =>
      obtain ⟨k, hk, rfl, hq, n, rfl⟩ := hrel
      have HQ := Lib.hid hq; clear hq
      by_cases hlt : k < a.length
      · have hlt2 : k < b.length := by have := HL.out; omega
        obtain ⟨b1, o1, hA, hb1, he1⟩ := ha.get hlt
        obtain ⟨b2, o2, hB, hb2, he2⟩ := hb.get hlt2
        subst hA hB
        have hda := Lib.hid (List.drop_eq_getElem_cons hlt)
        have hdb := Lib.hid (List.drop_eq_getElem_cons hlt2)
        generalize a[k] = x at he1 hda
        generalize b[k] = y at he2 hdb
        have i1 : Has_ent w b1 (o1 + k * 20) := ⟨x, he1⟩
        have i2 : Has_ent w b2 (o2 + k * 20) := ⟨y, he2⟩
        have j1 : of_ent w b1 (o1 + k * 20) = x := of_ent_eq he1
        have j2 : of_ent w b2 (o2 + k * 20) = y := of_ent_eq he2
        have hne := run_neq_ent x y
        clear he1 he2 ha hb
        go_wp2
        go_quiet (fail)
        go_wp2
        · go_ret
          exact RetQ.bool (by rw [HQ.out, hda.out, hdb.out]; go_light; simp_all [eqGo]) ⟨n + nq, World.drewN_drewN _ _ _⟩
        · go_roundw
          case rel => exact ⟨k + 1, by omega, by go_num, by rw [HQ.out, hda.out, hdb.out]; go_light; simp_all [eqGo], _, rfl⟩
          case measure => simp [intOf]; omega
      · go_wp2
        go_ret
        exact RetQ.bool (by rw [HQ.out, List.drop_of_length_le (by omega), List.drop_of_length_le (by have := HL.out; omega)]; rfl) ⟨_, rfl⟩
  · have h1 : ((a.length : Int) != (b.length : Int)) = true := by simp; omega
    have HL := Lib.hid hl; clear hl
    go_enter Tryz.func35, Tryz.ntmps35
    go_wp2
    go_ret
    exact RetQ.bool (eqGo_len HL.out).symm ⟨0, rfl⟩
end Go.Proofs.YtlggdgpdfepppaaGreatDoor
