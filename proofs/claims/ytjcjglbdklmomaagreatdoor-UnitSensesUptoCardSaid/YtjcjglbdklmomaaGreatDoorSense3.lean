/- Layer 57: the first error of an input, in the program and in the reference. -/
import Derived.Test.YtjcjglbdklmomaaGreatDoorSense2
import Derived.Test.YtjcjglbdklmomaaGreatDoorItems
import Derived.Lib.AtoiErrMem
namespace Go.Proofs.YtjcjglbdklmomaaGreatDoor
open Go.RowKit
set_option linter.unusedVariables false
set_option linter.unusedSimpArgs false
def Sense.arr (s : Sense) (A : Option Addr) (c : Nat) : Array Value := #[.int .i64 s.tick, .slice A s.reps.length c, .int .i64 s.ve, .int .i64 s.vn, .int .i64 s.drift, .int .i64 s.alt, .int .i64 s.vs, .int .i64 s.cas, .int .i64 s.fuel, .bool s.ground, .bool s.thrust, .bool s.stopped, .string ⟨s.cmd.toArray⟩]
abbrev Sense.val (s : Sense) (A : Option Addr) (c : Nat) : Value := .agg (s.arr A c)
theorem Sense.arr0 (s : Sense) (A : Option Addr) (c : Nat) : (s.arr A c)[0]? = some (.int .i64 s.tick) := rfl
theorem Sense.arr1 (s : Sense) (A : Option Addr) (c : Nat) : (s.arr A c)[1]? = some (.slice A s.reps.length c) := rfl
theorem Sense.arr2 (s : Sense) (A : Option Addr) (c : Nat) : (s.arr A c)[2]? = some (.int .i64 s.ve) := rfl
theorem Sense.arr3 (s : Sense) (A : Option Addr) (c : Nat) : (s.arr A c)[3]? = some (.int .i64 s.vn) := rfl
theorem Sense.arr4 (s : Sense) (A : Option Addr) (c : Nat) : (s.arr A c)[4]? = some (.int .i64 s.drift) := rfl
theorem Sense.arr5 (s : Sense) (A : Option Addr) (c : Nat) : (s.arr A c)[5]? = some (.int .i64 s.alt) := rfl
theorem Sense.arr6 (s : Sense) (A : Option Addr) (c : Nat) : (s.arr A c)[6]? = some (.int .i64 s.vs) := rfl
theorem Sense.arr7 (s : Sense) (A : Option Addr) (c : Nat) : (s.arr A c)[7]? = some (.int .i64 s.cas) := rfl
theorem Sense.arr8 (s : Sense) (A : Option Addr) (c : Nat) : (s.arr A c)[8]? = some (.int .i64 s.fuel) := rfl
theorem Sense.arr9 (s : Sense) (A : Option Addr) (c : Nat) : (s.arr A c)[9]? = some (.bool s.ground) := rfl
theorem Sense.arr10 (s : Sense) (A : Option Addr) (c : Nat) : (s.arr A c)[10]? = some (.bool s.thrust) := rfl
theorem Sense.arr11 (s : Sense) (A : Option Addr) (c : Nat) : (s.arr A c)[11]? = some (.bool s.stopped) := rfl
theorem Sense.arr12 (s : Sense) (A : Option Addr) (c : Nat) : (s.arr A c)[12]? = some (.string ⟨s.cmd.toArray⟩) := rfl
attribute [go_sem] Sense.arr0 Sense.arr1 Sense.arr2 Sense.arr3 Sense.arr4 Sense.arr5 Sense.arr6 Sense.arr7 Sense.arr8 Sense.arr9 Sense.arr10 Sense.arr11 Sense.arr12
/-- What the walks need of an input in memory. -/
structure Sense.ok (w : World) (s : Sense) (A : Option Addr) (c : Nat) : Prop where
  len : s.reps.length ≤ 4000000000
  cap : s.reps.length ≤ c
  cmd : s.cmd.length ≤ 4000000000
  reps : Items w A 8 (s.reps.map Rep.arr)
theorem Sense.ok.below {w w' : World} {s : Sense} {A : Option Addr} {c : Nat} (h : s.ok w A c) (hb : Below w.heap.size w w') : s.ok w' A c := ⟨h.len, h.cap, h.cmd, h.reps.below hb⟩
def restCheck (s : Sense) (l : List Rep) : Int := if (repsCheck l != 0) = true then repsCheck l else senseTail s
theorem restCheck_cons (s : Sense) (r : Rep) (l : List Rep) : restCheck s (r :: l) = if (repCheck r != 0) = true then repCheck r else restCheck s l := by
  unfold restCheck
  rw [repsCheck]
  by_cases h : (repCheck r != 0) = true <;> simp [h]
theorem restCheck_nil (s : Sense) : restCheck s [] = senseTail s := by simp [restCheck, repsCheck]
theorem reps_at {w : World} {A : Option Addr} {l : List Rep} (h : Items w A 8 (l.map Rep.arr)) {k : Nat} (hk : k < l.length) :
    ∃ b off, A = some ⟨b, off, none⟩ ∧ b < w.heap.size ∧ ∀ j, j < 8 → w.cell? ⟨b, off + k * 8 + j, none⟩ = l[k].arr[j]? := by
  obtain ⟨b, off, e, hb, hc⟩ := h.get (k := k) (by simpa using hk)
  exact ⟨b, off, e, hb, fun j hj => by rw [hc j hj]; simp⟩
theorem all_drop57 (p : UInt8 → Bool) (l : List UInt8) (k : Nat) (h : k < l.length) : (l.drop k).all p = (p l[k] && (l.drop (k+1)).all p) := by
  rw [List.drop_eq_getElem_cons h, List.all_cons]
set_option maxHeartbeats 4000000 in
set_option maxRecDepth 100000 in
theorem checkSense_any (s : Sense) (A : Option Addr) (c : Nat) (w : World) (h : s.ok w A c) : Calls Tryz.prog 6 #[s.val A c] w (Ret w (.int .i64 (senseCheck s))) := by
  have hO0 := Own1.mk0 w (s.arr A c) 26
  have hn := h.len
  have hcp := h.cap
  have hcl := h.cmd
  by_cases ht : inB s.tick 0 1099511627776 = true
  case neg =>
    have ht : inB s.tick 0 1099511627776 = false := by simpa using ht
    go_enter Tryz.func6, Tryz.ntmps6
    go_upto_region 1 with (fail)
    generalize w.alloc _ = W at hO0 ⊢
    have hc := hO0.cell
    have hlt := hO0.lt
    go_wp2_with (go_at_call 13; refine callP (in_any _ _ _ _) ?_)
    go_ret; exact Ret.int (by simp [senseCheck, ht]) hO0.below
  by_cases h4 : s.reps.length ≤ 4
  case neg =>
    go_enter Tryz.func6, Tryz.ntmps6
    go_upto_region 1 with (fail)
    generalize w.alloc _ = W at hO0 ⊢
    have hc := hO0.cell
    have hlt := hO0.lt
    go_wp2_with (go_at_call 13; refine callP (in_any _ _ _ _) ?_)
    all_goals first | (go_ret; exact Ret.int (by simp [senseCheck, ht]; omega) hO0.below) | (exfalso; omega)
  have h4' : decide (4 < (s.reps.length : Int)) = false := by simp; omega
  go_enter Tryz.func6, Tryz.ntmps6
  go_upto_region 1 with (fail)
  generalize w.alloc _ = W at hO0 ⊢
  have hc := hO0.cell
  have hlt := hO0.lt
  have HS := Lib.hid (show senseCheck s = restCheck s s.reps by unfold senseCheck restCheck; simp [ht]; omega)
  go_wp2_with (go_at_call 13; refine callP (in_any _ _ _ _) ?_)
  clear hc hlt
  go_loopw [19] (fun i wr => ∃ k : Nat, k ≤ s.reps.length ∧ i = .int .i64 k ∧ senseCheck s = restCheck s (s.reps.drop k) ∧ Own1 w (s.arr A c) wr) (fun i _ => s.reps.length - (intOf i).toNat)
  case atStart => exact ⟨0, by omega, rfl, HS.out, hO0⟩
  case round =>
    obtain ⟨k, hk, rfl, hq, hO⟩ := hrel
    have HQ := Lib.hid hq; clear hq HS hO0
    by_cases hlt : k < s.reps.length
    · obtain ⟨b, off, hA, hb, he⟩ := reps_at h.reps hlt
      subst hA
      have hd := Lib.hid (List.drop_eq_getElem_cons hlt)
      generalize s.reps[k] = x at he hd
      have e1 : ∀ j, j < 8 → wr.cell? ⟨b, off + k * 8 + j, none⟩ = x.arr[j]? := fun j hj => by rw [hO.below.cell (p := ⟨b, _, none⟩) hb]; exact he j hj
      clear he
      have hO1 := hO.alloc (.cells x.arr 68)
      have HR := Lib.hid (show senseCheck s = if (repCheck x != 0) = true then repCheck x else restCheck s (s.reps.drop (k + 1)) by rw [HQ.out, hd.out, restCheck_cons])
      go_wp2_with (first
        | ((with_reducible refine at_load 68 (.tmp 21) rfl ?_); refine wpList_load_arr rfl 68 (.tmp 21) rfl b (off + k * 8) rfl x.arr _ _ rfl e1 Tryz.underlying68 rfl info_rep ?_)
        | ((with_reducible refine at_store 68 (.tmp 4) (.tmp 22) rfl ?_); refine wpList_store_new rfl 68 (.tmp 4) (.tmp 22) rfl _ x.arr rfl rfl 8 info_rep (x).arr_size rfl (x).arr_one ?_)
        | (go_at_call 14; refine callO hO1 (scheck_any x _) ?_; intro w2 hO2 hc2 hlt2; clear e1 hO hO1))
      · go_ret; refine Ret.int ?_ hO2.below; rw [HR.out, if_pos (by assumption)]
      · go_roundw
        case rel => exact ⟨k + 1, by omega, by go_num, by rw [HR.out, if_neg (by simpa using ‹(repCheck x != 0) = false›)], hO2⟩
        case measure => simp [intOf]; omega
    · have HT := Lib.hid (show senseCheck s = senseTail s by rw [HQ.out, List.drop_of_length_le (by omega), restCheck_nil])
      clear HQ
      have hc := hO.cell
      have hlt2 := hO.lt
      have cv := fun W => Lib.run_convert_string_bytes (P := Tryz.prog) W 9 30 5 ⟨s.cmd.toArray⟩ Tryz.underlying9 Tryz.underlying30 Tryz.underlying5
      have HL := Lib.hid hlt; clear hlt
      go_upto_region 20 with (go_at_call 13; refine callP (in_any _ _ _ _) ?_)
      all_goals try (go_ret; refine Ret.int ?_ hO.below; rw [HT.out]; go_light; simp [senseTail, *]; try omega; done)
      have HU := Lib.hid (show senseCheck s = if cmdB s.cmd then 0 else 4 by rw [HT.out]; go_light; simp [senseTail, *]; omega)
      clear HT
      rename (!inB s.fuel 0 3000000000) = false => q1
      rename (s.cmd.length : Int) ≤ 120 => q2
      clear q1 q2
      have cb := Lib.bytesWorld_below wr 5 ⟨s.cmd.toArray⟩
      have cc := Lib.hid (fun j hj => Lib.bytesWorld_cell wr 5 ⟨s.cmd.toArray⟩ j hj)
      go_wp2
      generalize Lib.bytesWorld wr 5 ⟨s.cmd.toArray⟩ = wb at cb cc ⊢
      have HB := below_step hO.below cb
      clear cv hc hlt2
      go_loop [79] (fun i => ∃ k2 : Nat, k2 ≤ s.cmd.length ∧ i = .int .i64 k2 ∧ cmdB s.cmd = cmdB (s.cmd.drop k2)) (fun i => s.cmd.length - (intOf i).toNat)
      case atStart => exact ⟨0, by omega, rfl, rfl⟩
      case round =>
        obtain ⟨k2, hk2, rfl, hq⟩ := hrel
        have HQ := Lib.hid hq; clear hq
        by_cases hlt : k2 < s.cmd.length
        · have hd := Lib.hid (all_drop57 (fun c => decide (32 ≤ c.toNat) && decide (c.toNat ≤ 126)) s.cmd k2 hlt)
          have e1 : wb.cell? ⟨wr.heap.size, k2, none⟩ = some (.int .u8 (s.cmd[k2].toNat : Int)) := by have := cc.out k2 (by simpa [ByteArray.size] using hlt); simpa [hlt] using this
          generalize s.cmd[k2] = x at hd e1
          go_wp2
          all_goals first
            | (go_ret; refine Ret.int ?_ HB; rw [HU.out, HQ.out]; unfold cmdB; rw [hd.out]; go_light; grind)
            | (go_round
               case rel => exact ⟨k2 + 1, by omega, by go_num, by rw [HQ.out]; unfold cmdB; rw [hd.out]; go_light; grind⟩
               case measure => simp [intOf]; omega)
        · go_wp2
          go_ret
          exact Ret.int (by rw [HU.out, HQ.out, List.drop_of_length_le (by omega)]; rfl) HB
end Go.Proofs.YtjcjglbdklmomaaGreatDoor
