/- Lemmas and walks. -/
import Derived.Test.YtgoeedohgomodaaGreatDoorPk09
import Derived.Test.YtgoeedohgomodaaGreatDoorPk08
import Derived.Test.YtgoeedohgomodaaGreatDoorPk14
import Derived.Test.YtgoeedohgomodaaGreatDoorPk11
import Derived.Test.YtgoeedohgomodaaGreatDoorPk07
import Derived.Test.YtgoeedohgomodaaGreatDoorPk01
import Derived.Test.YtgoeedohgomodaaGreatDoorPk03
import Derived.Laws.OwnMore
import Derived.Lib.AppendStr
import Derived.Lib.AtoiAll
set_option linter.unusedSimpArgs false
set_option linter.unusedVariables false
namespace Go.Proofs.YtgoeedohgomodaaGreatDoor
open Go.RowKit
def FRel (es : List Entry) (w : World) (g : Nat) (cs : Array Value) (t i : Value) (wr : World) : Prop :=
  ∃ (k : Nat) (out : List (List UInt8)), k ≤ es.length ∧ i = .int .i64 k ∧ fixesGo es = out ++ fixesGo (es.drop k) ∧ out.length ≤ k ∧ SOut w wr t out ∧ Below w.heap.size w wr
theorem fixes_end {es : List Entry} {out : List (List UInt8)} {k : Nat} (h : fixesGo es = out ++ fixesGo (es.drop k)) (hk : ¬ k < es.length) : fixesGo es = out := by
  rw [h, List.drop_of_length_le (by omega)]; simp [fixesGo]
set_option maxHeartbeats 2000000 in
set_option maxRecDepth 100000 in
theorem fixes_any (p : Plan) (A : Option Addr) (c : Nat) (w : World) (hs : p.es.length ≤ 9000000) (hc : p.es.length ≤ c) (hE : Ents w A p.es) :
   Calls Tryz.prog 22 #[p.val A c] w (RetStrs w (fixesGo p.es)) := by
  have hO0 := Own1.mk0 w (p.arr A c) 43
  go_enter Tryz.func22, Tryz.ntmps22
  go_upto_region 1 with (fail)
  generalize w.alloc _ = W at hO0 ⊢
  have hc0 := hO0.cell
  have hlt0 := hO0.lt
  have hB0 := hO0.below
  go_wp2
  go_loopw [3, 9] (fun t i wr => FRel p.es w 0 #[] t i wr) (fun _ i _ => p.es.length - (intOf i).toNat)
  case atStart => exact ⟨0, [], by omega, rfl, rfl, by simp, SOut.nil _ _, hB0⟩
  case round =>
    obtain ⟨k, out, hk, rfl, hq, ho, hO, hB⟩ := hrel
    have HQ := Lib.hid hq; clear hq hc0 hlt0 hO0 hB0
    by_cases hlt : k < p.es.length
    · obtain ⟨b, off, hA, hb, he⟩ := hE.get hlt
      subst hA
      have hd := Lib.hid (List.drop_eq_getElem_cons hlt)
      generalize p.es[k] = x at he hd
      have e1 : Is_ent wr b (off + k * 20) x := fun j hj => by rw [hB.cell (p := ⟨b, _, none⟩) hb]; exact he j hj
      have i1 : Has_ent wr b (off + k * 20) := ⟨x, e1⟩
      have i2 : of_ent wr b (off + k * 20) = x := of_ent_eq e1
      clear he e1
      go_upto_region 5 with (fail)
      have X0 := Blk.new wr x.arr 69
      have O0 := hO.alloc (.cells x.arr 69)
      have B0 := below_step hB ((Below.refl wr.heap.size wr).alloc (Nat.le_refl _) (.cells x.arr 69))
      generalize wr.alloc _ = W0 at X0 O0 B0 ⊢
      generalize wr.heap.size = g at X0 ⊢
      have c1 := X0.cell
      have c2 := X0.lt
      have hsz : w.heap.size ≤ W0.heap.size := B0.size
      clear i1 i2 hO hB
      cases hg : x.gap
      · cases hen : endsB x.leg.ty
        · go_wp2_with (go_at_call 47; refine callP (ends_any _ _) ?_)
          go_roundw
          case rel => exact ⟨k + 1, out, by omega, by go_num, by rw [HQ.out, hd.out, fixes_skip (by simp [hg, hen])], by omega, O0, B0⟩
          case measure => simp [intOf]; omega
        · have O4 := O0.alloc (.cells #[sval x.leg.fix] 9)
          have B4 := below_step B0 ((Below.refl W0.heap.size W0).alloc (Nat.le_refl _) (.cells #[sval x.leg.fix] 9))
          go_wp2_with (first
            | (go_at_call 47; refine callP (ends_any _ _) ?_)
            | (at_builtin; refine wpList_append_sout rfl (.tmp 22) (.tmp 26) rfl O4 rfl x.leg.fix W0.heap.size 1 rfl (cell_of_row _ _ 0 _ _ _ (heap_alloc_new W0 _)) (by omega) (by simp; omega) ?_; intro v5 W5 O5 hg5))
          go_roundw
          case rel => exact ⟨k + 1, out ++ [x.leg.fix], by omega, by go_num, by rw [HQ.out, hd.out, fixes_take hg hen]; simp, by simp; omega, O5, below_sgrown B4 O4 hg5⟩
          case measure => simp [intOf]; omega
      · go_wp2
        go_roundw
        case rel => exact ⟨k + 1, out, by omega, by go_num, by rw [HQ.out, hd.out, fixes_skip (by simp [hg])], by omega, O0, B0⟩
        case measure => simp [intOf]; omega
    · go_wp2
      go_ret
      exact ⟨_, rfl, by rw [fixes_end HQ.out hlt]; exact hO, hB⟩
end Go.Proofs.YtgoeedohgomodaaGreatDoor
namespace Go.Proofs.YtgoeedohgomodaaGreatDoor
open Go.RowKit
theorem planChk_ok {p : Plan} (h : planCheck p = 0) : checkGo none 0 p.es = 0 ∧ p.es.length ≤ 60 ∧ -1 ≤ p.active ∧ p.active < p.es.length := by
  unfold planCheck at h
  split at h
  · simp at h
  · split at h
    · simp at h
    · obtain ⟨h1, h2⟩ := orE_zeroJ h
      refine ⟨h1, by omega, ?_⟩
      unfold activeE at h2
      split at h2
      · omega
      · split at h2
        · simp at h2
        · omega
end Go.Proofs.YtgoeedohgomodaaGreatDoor
