/- Layer 57: the bytes of an input. -/
import Derived.Test.YtjcjglbdklmomaaGreatDoorSense4
import Derived.Test.YtjcjglbdklmomaaGreatDoorSense5
namespace Go.Proofs.YtjcjglbdklmomaaGreatDoor
open Go.RowKit
set_option linter.unusedVariables false
set_option linter.unusedSimpArgs false
structure Rep.Good (r : Rep) : Prop where
  source0 : 1 ≤ r.source
  source1 : r.source ≤ 8
  kind0 : 1 ≤ r.kind
  kind1 : r.kind ≤ 3
  px0 : -2000000 ≤ r.px
  px1 : r.px ≤ 2000000
  py0 : -2000000 ≤ r.py
  py1 : r.py ≤ 2000000
  weight0 : 1 ≤ r.weight
  weight1 : r.weight ≤ 16
  value0 : 0 ≤ r.value
  value1 : r.value ≤ 129599999
  bound0 : 0 ≤ r.bound
  bound1 : r.bound ≤ 3600000
  tick0 : 0 ≤ r.tick
  tick1 : r.tick ≤ 1099511627776
theorem repGood {r : Rep} (h : repCheck r = 0) : r.Good := by
  unfold repCheck at h
  split at h
  · simp at h
  · split at h
    · simp at h
    · rename_i h1 h2
      simp [inB, xyB] at h1 h2
      have hb : boundOf r.kind ≤ 3600000 := by unfold boundOf; split <;> omega
      have hw : valueOf r.kind ≤ 129599999 := by unfold valueOf; split <;> (try split) <;> omega
      constructor <;> omega
theorem repsGood : ∀ {l : List Rep}, repsCheck l = 0 → ∀ r ∈ l, r.Good
  | [], _, r, hr => by cases hr
  | x :: l, h, r, hr => by
    unfold repsCheck at h
    split at h
    · rename_i h1; simp [h] at h1
    · rename_i h1
      rcases List.mem_cons.1 hr with rfl | hr
      · exact repGood (by simpa using h1)
      · exact repsGood h r hr
structure Sense.Good (s : Sense) : Prop where
  tick0 : 0 ≤ s.tick
  tick1 : s.tick ≤ 1099511627776
  len : s.reps.length ≤ 4
  reps : ∀ r ∈ s.reps, r.Good
  ve0 : -2000 ≤ s.ve
  ve1 : s.ve ≤ 2000
  vn0 : -2000 ≤ s.vn
  vn1 : s.vn ≤ 2000
  drift0 : 0 ≤ s.drift
  drift1 : s.drift ≤ 1000
  alt0 : -200000 ≤ s.alt
  alt1 : s.alt ≤ 6000000
  vs0 : -10000 ≤ s.vs
  vs1 : s.vs ≤ 10000
  cas0 : 0 ≤ s.cas
  cas1 : s.cas ≤ 1000
  fuel0 : 0 ≤ s.fuel
  fuel1 : s.fuel ≤ 3000000000
  cmd : s.cmd.length ≤ 120
theorem senseGood {s : Sense} (h : senseCheck s = 0) : s.Good := by
  have hv : 0 ≤ s.tick ∧ s.tick ≤ 1099511627776 ∧ s.reps.length ≤ 4 ∧ repsCheck s.reps = 0 ∧ senseTail s = 0 := by
    unfold senseCheck at h
    split at h
    · simp at h
    · split at h
      · simp at h
      · split at h
        · rename_i h1; simp [h] at h1
        · rename_i h1 h2 h3
          simp [inB] at h1
          exact ⟨h1.1, h1.2, by omega, by simpa using h3, h⟩
  obtain ⟨v1, v2, v3, v4, v5⟩ := hv
  unfold senseTail at v5
  split at v5
  · simp at v5
  · split at v5
    · simp at v5
    · rename_i h1 h2
      simp [inB] at h1
      constructor <;> first | exact repsGood v4 | omega
def Sense.six (s : Sense) : List Int := [s.ve, s.vn, s.drift, s.alt, s.vs, s.cas]
def numCells (l : List Int) : Array Value := (l.map fun n => Value.int .i64 n).toArray
theorem numCells_at (l : List Int) (k : Nat) (h : k < l.length) : (numCells l)[k]? = some (.int .i64 l[k]) := by simp [numCells, h]
theorem six_bound {s : Sense} (G : s.Good) (k : Nat) (h : k < 6) : -200000 ≤ s.six[k]'h ∧ s.six[k]'h ≤ 6000000 := by
  have := G.ve0; have := G.ve1; have := G.vn0; have := G.vn1; have := G.drift0; have := G.drift1; have := G.alt0; have := G.alt1; have := G.vs0; have := G.vs1; have := G.cas0; have := G.cas1
  match k, h with
  | 0, _ | 1, _ | 2, _ | 3, _ | 4, _ | 5, _ => constructor <;> simp only [Sense.six, List.getElem_cons_zero, List.getElem_cons_succ] <;> omega
theorem wrap_u64 (n : Int) : IntKind.u64.wrap n = u64 n := by unfold u64; simp [IntKind.wrap, IntKind.bits, IntKind.signed]
theorem u64_0 (n : Int) : 0 ≤ u64 n := by unfold u64; omega
theorem u64_1 (n : Int) : u64 n < 18446744073709551616 := by unfold u64; omega
theorem u64_id {n : Int} (h0 : 0 ≤ n) (h1 : n < 18446744073709551616) : u64 n = n := by unfold u64; omega
theorem bigs_len (l : List Int) : (l.flatMap fun n => bigB (u64 n) 4).length = 4 * l.length := by
  induction l with
  | nil => rfl
  | cons x r ih => rw [List.flatMap_cons, List.length_append, ih, bigB_len, List.length_cons]; omega
theorem bigs8_len (l : List Int) : (l.flatMap fun n => bigB (u64 n) 8).length = 8 * l.length := by
  induction l with
  | nil => rfl
  | cons x r ih => rw [List.flatMap_cons, List.length_append, ih, bigB_len, List.length_cons]; omega
theorem take_flat {α β : Type} (f : α → List β) (l : List α) (k : Nat) (h : k < l.length) : (l.take (k + 1)).flatMap f = (l.take k).flatMap f ++ f (l[k]) := by
  rw [List.take_succ_eq_append_getElem h, List.flatMap_append]; simp
theorem rep_len (r : Rep) : (repBytes r).length = 35 := by simp [repBytes, bigB_len]
theorem reps_len (l : List Rep) : (l.flatMap repBytes).length = 35 * l.length := by
  induction l with
  | nil => rfl
  | cons x r ih => rw [List.flatMap_cons, List.length_append, ih, rep_len, List.length_cons]; omega
theorem rep3_cells (w : World) (x : Rep) (g : x.Good) : ∀ j u, (bvals [byteOf x.source 0, byteOf x.kind 0, byteOf x.weight 0])[j]? = some u → (w.alloc (.cells #[.int .u8 x.source, .int .u8 x.kind, .int .u8 x.weight] 5)).cell? ⟨w.heap.size, j, none⟩ = some u := by
  intro j u h
  rw [cell_of_row _ _ j _ _ (0, 0) (heap_alloc_new w _)]
  have := g.source0; have := g.source1; have := g.kind0; have := g.kind1; have := g.weight0; have := g.weight1
  simp only [bvals, bval, List.map_cons, List.map_nil, byte0 (show 0 ≤ x.source by omega) (by omega), byte0 (show 0 ≤ x.kind by omega) (by omega), byte0 (show 0 ≤ x.weight by omega) (by omega)] at h
  simpa using h
def Rep.three (r : Rep) : List Int := [r.value, r.bound, r.tick]
theorem three_bound {r : Rep} (G : r.Good) (k : Nat) (h : k < 3) : 0 ≤ r.three[k]'h ∧ r.three[k]'h ≤ 1099511627776 := by
  have := G.value0; have := G.value1; have := G.bound0; have := G.bound1; have := G.tick0; have := G.tick1
  match k, h with
  | 0, _ | 1, _ | 2, _ => constructor <;> simp only [Rep.three, List.getElem_cons_zero, List.getElem_cons_succ] <;> omega
theorem enc_eq {s : Sense} (h1 : 0 ≤ s.tick) (h2 : s.tick < 18446744073709551616) (h3 : 0 ≤ s.fuel) (h4 : s.fuel < 18446744073709551616) :
    [flagsB s, byteOf s.reps.length 0] ++ bigB s.tick 8 ++ (s.six.take 6).flatMap (fun n => bigB (u64 n) 4) ++ bigB s.fuel 4 ++ s.reps.flatMap repBytes ++ s.cmd = encB s := by
  unfold encB
  rw [u64_id h1 h2, u64_id h3 h4]
  simp [Sense.six]
theorem infoSense : (Tryz.prog.info? 26).map (·.size) = some 13 := by kernel_rfl
theorem Sense.arr_size (s : Sense) (A : Option Addr) (c : Nat) : (s.arr A c).size = 13 := rfl
theorem Sense.arr_one (s : Sense) (A : Option Addr) (c : Nat) : (s.arr A c).all (·.oneCell') = true := by simp [Sense.arr, Value.oneCell']
/-- The call returns the bytes l (none where c is an error) and the error c. -/
def RetE (w : World) (l : List UInt8) (c : Int) (e : Ending) (w' : World) : Prop := ∃ v, e = .returned (.tuple #[v, .int .i64 c]) ∧ BOut w.heap.size w' v l ∧ Below w.heap.size w w'
def encE (s : Sense) : List UInt8 := if senseCheck s = 0 then encB s else []
def flagN (a b c : Bool) (k : Nat) : Int := (if a && decide (0 < k) then 1 else 0) + (if b && decide (1 < k) then 2 else 0) + (if c && decide (2 < k) then 4 else 0)
set_option maxHeartbeats 4000000 in
set_option maxRecDepth 100000 in
theorem encode_any (s : Sense) (A : Option Addr) (c : Nat) (w : World) (h : s.ok w A c) : Calls Tryz.prog 7 #[s.val A c] w (RetE w (encE s) (senseCheck s)) := by
  have hO0 := Own1.mk0 w (s.arr A c) 26
  obtain ⟨z, hz⟩ : ∃ z, senseCheck s = z := ⟨_, rfl⟩
  have HZ := Lib.hid hz
  rw [hz]; clear hz
  by_cases h0 : z = 0
  case neg =>
    have h0' : (z != 0) = true := by simpa using h0
    go_enter Tryz.func7, Tryz.ntmps7
    go_upto_region 1 with (fail)
    generalize w.alloc _ = W at hO0 ⊢
    have hc := hO0.cell
    have hlt := hO0.lt
    have e1 : ∀ j, j < 13 → W.cell? ⟨w.heap.size, 0 + j, none⟩ = (s.arr A c)[j]? := fun j _ => by rw [Nat.zero_add]; exact hc j
    go_wp2_with (first
      | ((with_reducible refine at_load 26 (.tmp 1) rfl ?_); refine wpList_load_arr rfl 26 (.tmp 1) rfl w.heap.size 0 rfl (s.arr A c) _ _ rfl e1 Tryz.underlying26 rfl infoSense ?_)
      | (go_at_call 6; refine callO hO0 (checkSense_any s A c _ (h.below hO0.below)) ?_; intro w2 hO2 hc2 hlt2; clear e1 hO0 hc hlt; rw [HZ.out]))
    go_ret2
    refine ⟨_, rfl, ?_, hO2.below⟩
    rw [show encE s = [] by unfold encE; rw [HZ.out, if_neg h0]]
    exact BOut.nil _ _
  subst h0
  have G := senseGood HZ.out
  have hn4 := G.len
  have ht0 := G.tick0
  have ht1 := G.tick1
  obtain ⟨a1, ha1⟩ : ∃ a, s.ground = a := ⟨_, rfl⟩
  obtain ⟨a2, ha2⟩ : ∃ a, s.thrust = a := ⟨_, rfl⟩
  obtain ⟨a3, ha3⟩ : ∃ a, s.stopped = a := ⟨_, rfl⟩
  go_enter Tryz.func7, Tryz.ntmps7
  go_upto_region 1 with (fail)
  generalize w.alloc _ = W at hO0 ⊢
  have hc := hO0.cell
  have hlt := hO0.lt
  have e1 : ∀ j, j < 13 → W.cell? ⟨w.heap.size, 0 + j, none⟩ = (s.arr A c)[j]? := fun j _ => by rw [Nat.zero_add]; exact hc j
  go_upto_region 5 with (first
      | ((with_reducible refine at_load 26 (.tmp 1) rfl ?_); refine wpList_load_arr rfl 26 (.tmp 1) rfl w.heap.size 0 rfl (s.arr A c) _ _ rfl e1 Tryz.underlying26 rfl infoSense ?_)
      | (go_at_call 6; refine callO hO0 (checkSense_any s A c _ (h.below hO0.below)) ?_; intro w2 hO2 hc2 hlt2; clear e1 hO0 hc hlt; rw [HZ.out]))
  go_wp2
  have hO3 := hO2.alloc (.cells #[.bool a1, .bool a2, .bool a3] 4)
  have hcl : ∀ j, (w2.alloc (.cells #[.bool a1, .bool a2, .bool a3] 4)).cell? ⟨w2.heap.size, j, none⟩ = (#[.bool a1, .bool a2, .bool a3] : Array Value)[j]? := fun j => cell_of_row _ _ j _ _ (0, 0) (heap_alloc_new w2 _)
  generalize w2.alloc _ = wf at hO3 hcl ⊢
  generalize w2.heap.size = gf at hcl ⊢
  clear hO2 hc2 hlt2
  go_loop [5, 28] (fun f i => ∃ k : Nat, k ≤ 3 ∧ i = .int .i64 k ∧ f = .int .u8 (flagN a1 a2 a3 k)) (fun _ i => 3 - (intOf i).toNat)
  case atStart => exact ⟨0, by omega, rfl, by cases a1 <;> cases a2 <;> cases a3 <;> rfl⟩
  case round =>
    obtain ⟨k, hk, rfl, rfl⟩ := hrel
    by_cases hlt : k < 3
    · have c0 := hcl 0
      have c1 := hcl 1
      have c2 := hcl 2
      clear hcl ha1 ha2 ha3
      simp at c0 c1 c2
      obtain ⟨F, hF⟩ : ∃ F, F = flagN a1 a2 a3 k := ⟨_, rfl⟩
      rw [← hF]
      obtain rfl | rfl | rfl : k = 0 ∨ k = 1 ∨ k = 2 := by omega
      all_goals
        cases a1 <;> cases a2 <;> cases a3
        all_goals
          first | (obtain rfl : F = 0 := hF) | (obtain rfl : F = 1 := hF) | (obtain rfl : F = 2 := hF) | (obtain rfl : F = 3 := hF)
          go_wp2
          go_round
          case rel => first | exact ⟨1, by decide, rfl, congrArg (Value.int .u8) (by rfl)⟩ | exact ⟨2, by decide, rfl, congrArg (Value.int .u8) (by rfl)⟩ | exact ⟨3, by decide, rfl, congrArg (Value.int .u8) (by rfl)⟩
          case measure => decide
    · obtain rfl : k = 3 := by omega
      have hfl : flagN a1 a2 a3 3 = ((flagsB s).toNat : Int) := by unfold flagsB; rw [ha1, ha2, ha3]; cases a1 <;> cases a2 <;> cases a3 <;> rfl
      have hln : Value.int .u8 (s.reps.length : Int) = bval (byteOf s.reps.length 0) := by unfold bval; rw [byte0 (by omega) (by omega)]
      rw [hfl]
      obtain ⟨fb, hfb⟩ : ∃ x : Int, x = ((flagsB s).toNat : Int) := ⟨_, rfl⟩
      rw [← hfb]
      have O0 : BOut w.heap.size (wf.alloc (.cells #[.int .u8 fb, .int .u8 (s.reps.length : Int)] 5)) (.slice (some ⟨wf.heap.size, 0, none⟩) 2 2) [flagsB s, byteOf s.reps.length 0] := by
        rw [hfb, hln]; exact BOut.lit w.heap.size wf [flagsB s, byteOf s.reps.length 0] hO3.below.size (by simp)
      have F0 : Fix (wf.alloc (.cells #[.int .u8 fb, .int .u8 (s.reps.length : Int)] 5)) (.slice (some ⟨wf.heap.size, 0, none⟩) 2 2) w.heap.size (s.arr A c) :=
        ⟨by have := hO3.lt; simp; omega, by have := hO3.lt; simp [Value.ownBlock]; omega, (hO3.alloc _).cell⟩
      have B0 := (hO3.alloc (.cells #[.int .u8 fb, .int .u8 (s.reps.length : Int)] 5)).below
      have O0 := Lib.hid O0
      clear hfl hln hfb hcl ha1 ha2 ha3 hlt
      have hc := hO3.cell
      have hlt := hO3.lt
      go_upto_region 12 with (fail)
      have L0 : w.heap.size ≤ (wf.alloc (.cells #[.int .u8 fb, .int .u8 (s.reps.length : Int)] 5)).heap.size := B0.size
      generalize wf.alloc _ = w3 at O0 F0 B0 L0 ⊢
      generalize Value.slice (some ⟨wf.heap.size, 0, none⟩) 2 2 = v0 at O0 F0 ⊢
      clear hc hlt hO3
      have hc := F0.cell
      have O0 := O0.out
      go_upto_region 13 with (go_at_call 15; refine callG1 F0 (big_any _ _ _ _ 8 _ O0 L0 (by omega) (by omega) (by decide) (by simp)) ?_; intro v4 w4 O4 G4 F4 hc4; have B4 := G4.below_of B0 O0 L0; clear hc F0)
      have L4 := B4.size
      clear G4 O0 B0 L0
      go_upto_region 14 with (fail)
      obtain ⟨l4, hl4⟩ : ∃ l, l = [flagsB s, byteOf s.reps.length 0] ++ bigB s.tick 8 := ⟨_, rfl⟩
      rw [← hl4] at O4
      have Hl4 : l4.length = 10 := by rw [hl4]; simp [bigB_len]
      have HL4 := Lib.hid hl4; clear hl4
      have F5 := F4.alloc (.cells (numCells (s.six)) 2)
      have X5 := Fix.new O4 (numCells (s.six)) 2
      have O5 := O4.alloc (.cells (numCells (s.six)) 2)
      have B5 := below_step B4 ((Below.refl w4.heap.size w4).alloc (Nat.le_refl _) (.cells (numCells (s.six)) 2))
      clear hc4 F4 O4 B4 L4
      change Code.wp _ _ _ _ (w4.alloc (.cells (numCells (s.six)) 2))
      generalize w4.alloc _ = w5 at F5 X5 O5 B5 ⊢
      generalize w4.heap.size = q at X5 ⊢
      go_loopw [8, 66] (fun v i wr => ∃ k : Nat, k ≤ 6 ∧ i = .int .i64 k ∧ BOut w.heap.size wr v (l4 ++ (s.six.take k).flatMap fun n => bigB (u64 n) 4) ∧ Fix wr v w.heap.size (s.arr A c) ∧ Fix wr v q (numCells s.six) ∧ Below w.heap.size w wr) (fun _ i _ => 6 - (intOf i).toNat)
      case atStart => exact ⟨0, by omega, rfl, by simpa using O5, F5, X5, B5⟩
      case round =>
        obtain ⟨k, hk, rfl, hO, hF, hX, hB⟩ := hrel
        have hL := hB.size
        have hc := hF.cell
        by_cases hlt : k < 6
        · obtain ⟨n, hn⟩ : ∃ n, n = s.six[k]'hlt := ⟨_, rfl⟩
          have hx : wr.cell? ⟨q, k, none⟩ = some (.int .i64 n) := by rw [hX.cell, hn]; exact numCells_at _ _ hlt
          have hnb : -200000 ≤ n ∧ n ≤ 6000000 := by rw [hn]; exact six_bound G k hlt
          have HN := Lib.hid hn; clear hn
          have hn1 := hnb.1
          have hn2 := hnb.2
          clear hnb
          have hO := Lib.hid hO
          go_wp2_with fail
          have hO := hO.out
          refine callG2 hF hX (big_any _ _ _ (IntKind.u64.wrap n) 4 _ hO hL (by rw [wrap_u64]; exact u64_0 n) (by rw [wrap_u64]; exact u64_1 n) (by decide) (by rw [List.length_append, bigs_len, List.length_take]; omega)) ?_
          intro v6 w6 O6 G6 F6 X6 hc6 hx6
          have B6 := G6.below_of hB hO hL
          clear hO hc hx G6 hB hF hX
          have O6 := Lib.hid O6
          go_wp2
          go_roundw
          case rel => exact ⟨k + 1, by omega, by go_num, by rw [take_flat (fun n => bigB (u64 n) 4) s.six k hlt, ← List.append_assoc]; have h1 := HN.out; have h2 := O6.out; rw [wrap_u64, h1] at h2; exact h2, F6, X6, B6⟩
          case measure => simp [intOf]; omega
        · obtain rfl : k = 6 := by omega
          clear hX
          have hf0 := G.fuel0
          have hf1 := G.fuel1
          have O6 := Lib.hid hO; clear hO
          go_upto_region 19 with (go_at_call 15; refine callG1 hF (big_any _ _ _ _ 4 _ O6.out hL (by omega) (by omega) (by decide) (by rw [List.length_append, bigs_len, List.length_take]; omega)) ?_; intro v7 w7 O7 G7 F7 hc7; have B7 := G7.below_of hB O6.out hL; clear hc hF)
          go_upto_region 20 with (fail)
          obtain ⟨l7, hl7⟩ : ∃ l, l = l4 ++ (s.six.take 6).flatMap (fun n => bigB (u64 n) 4) ++ bigB s.fuel 4 := ⟨_, rfl⟩
          rw [← hl7] at O7
          have Hl7 : l7.length = 38 := by rw [hl7, List.length_append, List.length_append, bigs_len, bigB_len, List.length_take]; simp [Sense.six]; omega
          have HL7 := Lib.hid hl7; clear hl7
          clear hB hL G7
          have O7 := Lib.hid O7
          clear hc7
          go_loopw [8, 83] (fun v i wr => ∃ k : Nat, k ≤ s.reps.length ∧ i = .int .i64 k ∧ BOut w.heap.size wr v (l7 ++ (s.reps.take k).flatMap repBytes) ∧ Fix wr v w.heap.size (s.arr A c) ∧ Below w.heap.size w wr) (fun _ i _ => s.reps.length - (intOf i).toNat)
          case atStart => exact ⟨0, by omega, rfl, by simpa using O7.out, F7, B7⟩
          case round =>
            obtain ⟨k, hk, rfl, hO, hF, hB⟩ := hrel
            have hL := hB.size
            have hc := hF.cell
            clear O7 F7 B7
            by_cases hlt : k < s.reps.length
            · obtain ⟨b, off, hA, hb, he⟩ := reps_at h.reps hlt
              subst hA
              have HT := Lib.hid (take_flat repBytes s.reps k hlt)
              have gx := G.reps s.reps[k] (List.getElem_mem _)
              have HBL : ((s.reps.take k).flatMap repBytes).length ≤ 1000 := by rw [reps_len, List.length_take]; omega
              generalize s.reps[k] = x at he HT gx
              have e1 : ∀ j, j < 8 → wr.cell? ⟨b, off + k * 8 + j, none⟩ = x.arr[j]? := fun j hj => by rw [hB.cell (p := ⟨b, _, none⟩) hb]; exact he j hj
              have hbw : b < wr.heap.size := by omega
              clear he
              obtain ⟨wo, rfl⟩ : ∃ wo : World, wo = wr := ⟨_, rfl⟩
              obtain ⟨lk, hlk⟩ : ∃ lk, lk = l7 ++ (s.reps.take k).flatMap repBytes := ⟨_, rfl⟩
              rw [← hlk] at hO
              have Hlk : lk.length ≤ 2000 := by rw [hlk, List.length_append]; omega
              have HLK := Lib.hid hlk; clear hlk
              have FX := Fix.new hO x.arr 68
              have FB := hF.alloc (.cells x.arr 68)
              have OA := Lib.hid (hO.alloc (.cells x.arr 68))
              have BA := hB.alloc hL (.cells x.arr 68)
              clear hO hF hc
              go_upto_region 22 with (first
                | ((with_reducible refine at_load 68 (.tmp 85) rfl ?_); refine wpList_load_arr rfl 68 (.tmp 85) rfl b (off + k * 8) rfl x.arr _ _ rfl e1 Tryz.underlying68 rfl info_rep ?_)
                | ((with_reducible refine at_store 68 (.tmp 12) (.tmp 86) rfl ?_); refine wpList_store_new rfl 68 (.tmp 12) (.tmp 86) rfl _ x.arr rfl rfl 8 info_rep (x).arr_size rfl (x).arr_one ?_))
              go_frame
              have LA : w.heap.size ≤ (wo.alloc (.cells x.arr 68)).heap.size := BA.size
              generalize wo.alloc _ = wa at FX FB OA BA LA ⊢
              generalize wo.heap.size = qx at FX ⊢
              clear e1 hB hL hbw
              have hcx := FX.cell
              have hcb := FB.cell
              have hs1 := gx.source0
              have hs2 := gx.source1
              have hw1 := gx.weight0
              have hw2 := gx.weight1
              have O8 := Lib.hid (OA.out.alloc (.cells #[.int .u8 x.source, .int .u8 x.kind, .int .u8 x.weight] 5))
              have F8 := FB.alloc (.cells #[.int .u8 x.source, .int .u8 x.kind, .int .u8 x.weight] 5)
              have X8 := FX.alloc (.cells #[.int .u8 x.source, .int .u8 x.kind, .int .u8 x.weight] 5)
              have B8 := BA.alloc LA (.cells #[.int .u8 x.source, .int .u8 x.kind, .int .u8 x.weight] 5)
              have HC := Lib.hid (rep3_cells wa x gx)
              go_upto_region 23 with (at_builtin; refine wpList_append_gro rfl (.tmp 87) (.tmp 96) rfl O8.out rfl [byteOf x.source 0, byteOf x.kind 0, byteOf x.weight 0] _ 3 3 rfl rfl HC.out (by omega) (by simp; omega) ?_; intro v9 w9 O9 G9; have B9 := G9.below_of B8 O8.out (by simp; omega); have F9 := F8.step G9; have X9 := X8.step G9; clear O8 F8 X8 B8 HC hcx hcb G9)
              have L9 := B9.size
              have hcx := X9.cell
              have hcb := F9.cell
              clear FX FB OA BA LA
              have O9 := Lib.hid O9
              go_upto_region 24 with (go_at_call 15; refine callG2 F9 X9 (big_any _ _ _ (IntKind.u64.wrap x.px) 4 _ O9.out L9 (by rw [wrap_u64]; exact u64_0 _) (by rw [wrap_u64]; exact u64_1 _) (by decide) (by simp only [List.length_append, bigB_len, List.length_cons, List.length_nil]; omega)) ?_; intro v10 w10 O10 G10 F10 X10 hcb10 hcx10; have B10 := G10.below_of B9 O9.out L9; clear hcx hcb G10 F9 X9 O9 B9 L9)
              have L10 := B10.size
              have O10 := Lib.hid O10
              go_upto_region 25 with (go_at_call 15; refine callG2 F10 X10 (big_any _ _ _ (IntKind.u64.wrap x.py) 4 _ O10.out L10 (by rw [wrap_u64]; exact u64_0 _) (by rw [wrap_u64]; exact u64_1 _) (by decide) (by simp only [List.length_append, bigB_len, List.length_cons, List.length_nil]; omega)) ?_; intro v11 w11 O11 G11 F11 X11 hcb11 hcx11; have B11 := G11.below_of B10 O10.out L10; clear hcx10 hcb10 G11 F10 X10 O10 B10 L10)
              have L11 := B11.size
              go_wp2
              obtain ⟨l11, hl11⟩ : ∃ l, l = lk ++ [byteOf x.source 0, byteOf x.kind 0, byteOf x.weight 0] ++ bigB (IntKind.u64.wrap x.px) 4 ++ bigB (IntKind.u64.wrap x.py) 4 := ⟨_, rfl⟩
              rw [← hl11] at O11
              have Hl11 : l11.length ≤ 2100 := by rw [hl11]; simp only [List.length_append, bigB_len, List.length_cons, List.length_nil]; omega
              have HL11 := Lib.hid hl11; clear hl11
              have FD := F11.alloc (.cells (numCells x.three) 2)
              have XD := Fix.new O11 (numCells x.three) 2
              have OD := O11.alloc (.cells (numCells x.three) 2)
              have BD := B11.alloc L11 (.cells (numCells x.three) 2)
              clear hcx11 hcb11 F11 X11 O11 B11 L11 O10 
              change Code.wp _ _ _ _ (w11.alloc (.cells (numCells x.three) 2))
              generalize w11.alloc _ = wd at FD XD OD BD ⊢
              generalize w11.heap.size = qd at XD ⊢
              go_loopw [8, 118] (fun v i wr => ∃ m : Nat, m ≤ 3 ∧ i = .int .i64 m ∧ BOut w.heap.size wr v (l11 ++ (x.three.take m).flatMap fun n => bigB (u64 n) 8) ∧ Fix wr v w.heap.size (s.arr (some ⟨b, off, none⟩) c) ∧ Fix wr v qd (numCells x.three) ∧ Below w.heap.size w wr) (fun _ i _ => 3 - (intOf i).toNat)
              case atStart => exact ⟨0, by omega, rfl, by simpa using OD, FD, XD, BD⟩
              case round =>
                obtain ⟨m, hm, rfl, hO, hF, hX, hB⟩ := hrel
                have hL := hB.size
                have hc := hF.cell
                clear FD XD OD BD
                by_cases hlt3 : m < 3
                · obtain ⟨n, hn⟩ : ∃ n, n = x.three[m]'hlt3 := ⟨_, rfl⟩
                  have hx : wr.cell? ⟨qd, m, none⟩ = some (.int .i64 n) := by rw [hX.cell, hn]; exact numCells_at _ _ hlt3
                  have hnb : 0 ≤ n ∧ n ≤ 1099511627776 := by rw [hn]; exact three_bound gx m hlt3
                  have HN := Lib.hid hn; clear hn
                  have hn1 := hnb.1
                  have hn2 := hnb.2
                  clear hnb
                  have hO := Lib.hid hO
                  go_wp2_with fail
                  have hO := hO.out
                  refine callG2 hF hX (big_any _ _ _ n 8 _ hO hL hn1 (by omega) (by decide) (by rw [List.length_append, bigs8_len, List.length_take]; omega)) ?_
                  intro v6 w6 O6 G6 F6 X6 hc6 hx6
                  have B6 := G6.below_of hB hO hL
                  clear hO hc hx G6 hB hF hX
                  have O6 := Lib.hid O6
                  go_wp2
                  go_roundw
                  case rel => exact ⟨m + 1, by omega, by go_num, by rw [take_flat (fun n => bigB (u64 n) 8) x.three m hlt3, ← List.append_assoc]; have h1 := HN.out; have h2 := O6.out; rw [← u64_id hn1 (by omega), h1] at h2; exact h2, F6, X6, B6⟩
                  case measure => simp [intOf]; omega
                · obtain rfl : m = 3 := by omega
                  clear hX
                  have O6 := Lib.hid hO; clear hO
                  go_wp2
                  go_roundw
                  case rel => exact ⟨k + 1, by omega, by go_num, by rw [HT.out, ← List.append_assoc, ← HLK.out]; have h2 := O6.out; rw [HL11.out, wrap_u64, wrap_u64] at h2; simpa [repBytes, Rep.three] using h2, hF, hB⟩
                  case measure => simp [intOf]; omega
            · have HE := Lib.hid (show l7 ++ (s.reps.take k).flatMap repBytes ++ s.cmd = encB s by
                rw [HL7.out, HL4.out, show s.reps.take k = s.reps from List.take_of_length_le (by omega)]
                exact enc_eq ht0 (by omega) hf0 (by omega))
              have hcm := G.cmd
              have HBL : (l7 ++ (s.reps.take k).flatMap repBytes).length ≤ 2000 := by rw [List.length_append, reps_len, List.length_take]; omega
              obtain ⟨lk, hlk⟩ : ∃ lk, lk = l7 ++ (s.reps.take k).flatMap repBytes := ⟨_, rfl⟩
              rw [← hlk] at hO HE HBL
              clear hlk
              have O6 := Lib.hid hO; clear hO
              go_wp2_with (at_builtin; refine wpList_append_bstr rfl (.tmp 128) (.tmp 130) rfl O6.out rfl s.cmd rfl (by omega) hL ?_; intro v9 w9 O9 G9; have B9 := below_bgrown hB hL O6.out G9)
              go_ret2
              refine ⟨_, rfl, ?_, B9⟩
              rw [show encE s = encB s by unfold encE; rw [HZ.out, if_pos rfl], ← HE.out]
              exact O9
end Go.Proofs.YtjcjglbdklmomaaGreatDoor
