/- plan.Find and the reference's. -/
import Derived.Test.YtjgondadpjildaaGreatDoorPk12
namespace Go.Proofs.YtjgondadpjildaaGreatDoor
open Go.RowKit
set_option linter.unusedVariables false
set_option linter.unusedSimpArgs false
set_option maxHeartbeats 2000000 in
set_option maxRecDepth 100000 in
theorem find_any (p : Plan) (A : Option Addr) (c : Nat) (at_ : Int) (ref : List UInt8) (w : World) (hs : p.small) (hc : p.es.length ≤ c) (hE : Ents w A p.es) :
   Calls Tryz.prog 22 #[p.val A c, .int .i64 at_, .string ⟨ref.toArray⟩] w (Ret w (.int .i64 (findE p at_ ref))) := by
  have hn := hs.len
  have hO0 := Own1.mk0 w (p.arr A c) 52
  go_enter Tryz.func22, Tryz.ntmps22
  go_upto_region 1 with (fail)
  generalize w.alloc _ = W at hO0 ⊢
  have hc0 := hO0.cell
  have hlt0 := hO0.lt
  go_wp2
  go_loopw [12] (fun i wr => ∃ k : Nat, k ≤ p.es.length ∧ i = .int .i64 k ∧ findE p at_ ref = findGo at_ ref (p.es.drop k) k ∧ Own1 w (p.arr A c) wr) (fun i _ => p.es.length - (intOf i).toNat)
  case atStart => exact ⟨0, by omega, rfl, rfl, hO0⟩
  case round =>
    obtain ⟨k, hk, rfl, hq, hO⟩ := hrel
    have HQ := Lib.hid hq; clear hq
    by_cases hlt : k < p.es.length
    · obtain ⟨b, off, hA, hb, he⟩ := hE.get hlt
      subst hA
      have hd := Lib.hid (List.drop_eq_getElem_cons hlt)
      generalize p.es[k] = x at he hd
      have e1 : ∀ j, j < 20 → wr.cell? ⟨b, off + k * 20 + j, none⟩ = x.arr[j]? := fun j hj => by rw [hO.below.cell (p := ⟨b, _, none⟩) hb]; exact he j hj
      have e0 : wr.cell? ⟨b, off + k * 20, none⟩ = some (.bool x.gap) := e1 0 (by omega)
      clear he hc0 hlt0 hO0
      have hc1 := hO.cell
      have hlt1 := hO.lt
      go_wp2_with (first
        | (go_at_call 56; refine callP (ends_any _ _) ?_)
        | ((with_reducible refine at_load 41 (.tmp 15) rfl ?_); refine wpList_load_arr rfl 41 (.tmp 15) rfl b (off + k * 20) rfl x.arr _ _ rfl e1 Tryz.underlying41 rfl infoEntry ?_)
        | ((with_reducible refine at_store 41 (.tmp 8) (.tmp 16) rfl ?_); refine wpList_store_new rfl 41 (.tmp 8) (.tmp 16) rfl _ x.arr rfl rfl 20 infoEntry (x).arr_size rfl (x).arr_one ?_))
      all_goals first
        | (go_ret; exact Ret.int (by have h1 := HQ.out; have h2 := hd.out; clear HQ hd e1 e0 hc1; go_light; grind [findGo]) (hO.alloc _).below)
        | (go_roundw
           case rel => exact ⟨k + 1, by omega, by go_num, by have h1 := HQ.out; have h2 := hd.out; clear HQ hd e1 e0 hc1; go_light; grind [findGo], hO.alloc _⟩
           case measure => simp [intOf]; omega)
    · go_wp2
      go_ret
      exact Ret.int (by rw [HQ.out, List.drop_of_length_le (by omega)]; rfl) hO.below
end Go.Proofs.YtjgondadpjildaaGreatDoor
