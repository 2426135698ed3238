/- Layer 57: what the statements themselves call: equality of inputs, a first input, the zero setting's error. -/
import Derived.Test.YtjcjglbdklmomaaGreatDoorSense6
import Derived.Test.YtjcjglbdklmomaaGreatDoorSense8
namespace Go.Proofs.YtjcjglbdklmomaaGreatDoor
open Go.RowKit
set_option linter.unusedVariables false
set_option linter.unusedSimpArgs false
theorem name_nil (w : World) : Calls Tryz.prog 46 #[.string ⟨#[]⟩, .int .i64 8] w (RetP w (.bool false)) := by
  go_enter Tryz.func46, Tryz.ntmps46
  go_wp2
  go_ret
  exact ⟨rfl, rfl⟩
def hdr0 : Array Value := #[.string ⟨#[]⟩, .int .i64 0, .int .i64 0, .int .i64 0, .int .i64 0, .int .i64 0]
def db0 : Array Value := #[.string ⟨#[]⟩, .int .i64 0, .int .i64 0, .int .i64 0, .int .i64 0, .int .i64 0, .slice none 0 0, .slice none 0 0, .slice none 0 0]
theorem info_hdr : (Tryz.prog.info? 43).map (·.size) = some 6 := by kernel_rfl
theorem info_db : (Tryz.prog.info? 48).map (·.size) = some 9 := by kernel_rfl
set_option maxRecDepth 100000 in
theorem header0 (w : World) : Calls Tryz.prog 33 #[.agg hdr0] w (Ret w (.int .i64 5)) := by
  unfold hdr0
  go_enter Tryz.func33, Tryz.ntmps33
  go_wp2_with (go_at_call 46; refine callP (name_nil _) ?_)
  go_ret
  exact Ret.int rfl (by go_grown)
set_option maxRecDepth 100000 in
theorem navCheck0 (w : World) : Calls Tryz.prog 24 #[.agg db0] w (Ret w (.int .i64 5)) := by
  have hO := Own1.mk0 w db0 48
  go_enter Tryz.func24, Tryz.ntmps24
  go_upto_region 1 with (fail)
  generalize w.alloc _ = W at hO ⊢
  have hc := hO.cell
  have e1 : ∀ j, j < 6 → W.cell? ⟨w.heap.size, 0 + j, none⟩ = hdr0[j]? := fun j hj => by
    rw [hc]
    match j, hj with
    | 0, _ | 1, _ | 2, _ | 3, _ | 4, _ | 5, _ => rfl
  clear hc
  go_wp2_with (first
    | ((with_reducible refine at_load 43 (.tmp 29) rfl ?_); refine wpList_load_arr rfl 43 (.tmp 29) rfl w.heap.size 0 rfl hdr0 _ _ rfl e1 Tryz.underlying43 rfl info_hdr ?_)
    | (go_at_call 33; refine callO hO (header0 _) ?_; intro w2 hO2 hc2 hlt2))
  go_ret
  exact Ret.int rfl hO2.below
set_option maxRecDepth 100000 in
theorem ucheck0 (arr : Array Value) (h : ∀ j, j < 9 → arr[j]? = db0[j]?) (w : World) : Calls Tryz.prog 12 #[.agg arr] w (Ret w (.int .i64 5)) := by
  have hO := Own1.mk0 w arr 64
  go_enter Tryz.func12, Tryz.ntmps12
  go_upto_region 1 with (fail)
  generalize w.alloc _ = W at hO ⊢
  have e1 : ∀ j, j < 9 → W.cell? ⟨w.heap.size, 0 + j, none⟩ = db0[j]? := fun j hj => by
    rw [hO.cell, Nat.zero_add]
    exact h j hj
  go_wp2_with (first
    | ((with_reducible refine at_load 48 (.tmp 9) rfl ?_); refine wpList_load_arr rfl 48 (.tmp 9) rfl w.heap.size 0 rfl db0 _ _ rfl e1 Tryz.underlying48 rfl info_db ?_)
    | (go_at_call 24; refine callO hO (navCheck0 _) ?_; intro w2 hO2 hc2 hlt2; clear hc2))
  go_ret
  exact Ret.int rfl hO2.below
theorem Rep.eqB_self (x : Rep) : x.eqB x = true := (Rep.eqB_iff x x).2 rfl
theorem rep_here {w W : World} {A : Option Addr} {l : List Rep} (h : Items w A 8 (l.map Rep.arr)) (hB : Below w.heap.size w W) {k : Nat} (hk : k < l.length) :
    ∃ b off, A = some ⟨b, off, none⟩ ∧ Has_rep W b (off + k * 8) ∧ of_rep W b (off + k * 8) = l[k] := by
  obtain ⟨b, off, e, hb, hc⟩ := reps_at h hk
  have hi : Is_rep W b (off + k * 8) l[k] := fun j hj => by rw [hB.cell (p := ⟨b, _, none⟩) hb]; exact hc j hj
  exact ⟨b, off, e, ⟨_, hi⟩, of_rep_eq hi⟩
set_option maxHeartbeats 4000000 in
set_option maxRecDepth 100000 in
/-- Two inputs with the same data are equal. -/
theorem equal_same (s : Sense) (A A2 : Option Addr) (c c2 : Nat) (w : World) (h : s.ok w A c) (h2 : s.ok w A2 c2) : Calls Tryz.prog 10 #[s.val A c, s.val A2 c2] w (Ret w (.bool true)) := by
  have hn := h.len
  have hcap := h.cap
  have hcap2 := h2.cap
  have P0 := (Boxed.new w (s.arr A c) 26).alloc (.cells (s.arr A2 c2) 26)
  have P1 : Boxed ((w.alloc (.cells (s.arr A c) 26)).alloc (.cells (s.arr A2 c2) 26)) (w.heap.size + 1) (s.arr A2 c2) := by
    have := Boxed.new (w.alloc (.cells (s.arr A c) 26)) (s.arr A2 c2) 26
    simpa using this
  have B0 : Below w.heap.size w ((w.alloc (.cells (s.arr A c) 26)).alloc (.cells (s.arr A2 c2) 26)) := ((Below.refl _ _).alloc (Nat.le_refl _) _).alloc (by simp) _
  go_enter Tryz.func10, Tryz.ntmps10
  go_upto_region 1 with (fail)
  generalize World.alloc _ _ = W at P0 P1 B0 ⊢
  have hc0 := P0.cell
  have hc1 := P1.cell
  go_wp2
  go_loopw [16] (fun i wr => ∃ (k n : Nat), k ≤ s.reps.length ∧ i = .int .i64 k ∧ wr = W.drewN n) (fun i _ => s.reps.length - (intOf i).toNat)
  case atStart => exact ⟨0, 0, by omega, rfl, rfl⟩
  case round =>
    obtain ⟨k, n, hk, rfl, rfl⟩ := hrel
    by_cases hlt : k < s.reps.length
    · obtain ⟨b, off, hA, hh, ho⟩ := rep_here h.reps B0 hlt
      obtain ⟨b2, off2, hA2, hh2, ho2⟩ := rep_here h2.reps B0 hlt
      subst hA; subst hA2
      have hne := run_neq_rep s.reps[k]
      have hself := Rep.eqB_self s.reps[k]
      generalize s.reps[k] = x at ho ho2 hne hself
      go_upto_region 6 with (fail)
      go_quiet (fail)
      go_wp2
      go_roundw
      case rel => exact ⟨k + 1, _, by omega, by go_num, rfl⟩
      case measure => simp [intOf]; omega
    · go_wp2
      go_ret
      exact Ret.bool rfl (below_drewN B0 _)
def senseN (t : Int) (l : List UInt8) : Sense := ⟨t, [], 0, 300, 0, 500000, 0, 250, 60000000, false, false, false, l⟩
set_option maxHeartbeats 2000000 in
set_option maxRecDepth 100000 in
theorem sense_any (t : Int) (l : List UInt8) (w : World) : Calls Tryz.prog 11 #[.int .i64 t, .string ⟨l.toArray⟩] w (Ret w ((senseN t l).val none 0)) := by
  go_enter Tryz.func11, Tryz.ntmps11
  go_wp2_with ((with_reducible refine at_store 26 (.tmp 4) (.tmp 8) rfl ?_); refine wpList_store_new rfl 26 (.tmp 4) (.tmp 8) rfl _ ((senseN t l).arr none 0) rfl rfl 13 infoSense (((senseN t l) none 0)).arr_size rfl (((senseN t l) none 0)).arr_one ?_)
  exact bodyPost_ret (results_agg1 Tryz.results11 _ _ w.heap.size ((senseN t l).arr none 0) 13 _ rfl rfl (Blk.new w _ _).cell Tryz.underlying26 rfl infoSense) rfl ⟨rfl, by go_grown⟩
end Go.Proofs.YtjcjglbdklmomaaGreatDoor
