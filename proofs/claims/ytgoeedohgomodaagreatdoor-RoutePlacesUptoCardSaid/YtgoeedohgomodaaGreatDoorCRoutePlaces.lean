/- PROVED: Place returns the reference of an airport or runway of the database, or its error, and each argument reads behind the call as before: the card of the second form (what is read is of bulk at most 1048576). Its conditions: none of mine. -/
import Derived.Test.YtgoeedohgomodaaGreatDoorPk35
import Derived.Test.YtgoeedohgomodaaGreatDoorPk25
import Derived.Test.YtgoeedohgomodaaGreatDoorPk28
import Derived.Test.YtgoeedohgomodaaGreatDoorPk27
import Derived.Test.YtgoeedohgomodaaGreatDoorPk12
import Derived.Laws.Bits64
import Derived.Laws.Bits64b
import Derived.Sort.WalkA
import Derived.Laws.BitsAllLaws
import Derived.Test.YtgoeedohgomodaaGreatDoorPk11
import Derived.OwnWalk
import Derived.Lib.ConvBytes
import Derived.Test.YtgoeedohgomodaaGreatDoorPk01
import Derived.Test.YtgoeedohgomodaaGreatDoorPk16
import Derived.Test.YtgoeedohgomodaaGreatDoorPk08
import Derived.Test.YtgoeedohgomodaaGreatDoorPk03
import Derived.Laws.OwnMore
import Derived.Lib.AppendStr
import Derived.Test.YtgoeedohgomodaaGreatDoorPk46
import Derived.Test.YtgoeedohgomodaaGreatDoorPk49
import Derived.Test.YtgoeedohgomodaaGreatDoorPk18
import Derived.Test.YtgoeedohgomodaaGreatDoorCards
import Derived.Test.YtgoeedohgomodaaGreatDoorTie
import Derived.Deep.DeepWitnessRowRef
import Derived.Lay
import Derived.WalkKit
import Derived.ProofKit
namespace Go.Proofs.YtgoeedohgomodaaGreatDoor
open Go.RowKit Go.Sort
set_option linter.unusedVariables false
set_option linter.unusedSimpArgs false
set_option maxRecDepth 100000
def RetBoo (w : World) (e : Ending) (w' : World) : Prop := ∃ b : Bool, e = .returned (.bool b) ∧ Below w.heap.size w w'
theorem callBoo {P : Program} {f : FuncId} {args : Array Value} {W : World} {K : Ending → World → Prop} (h : Calls P f args W (RetBoo W)) (k : ∀ b w', Below W.heap.size W w' → K (.returned (.bool b)) w') : Calls P f args W K :=
  h.mono fun e w' ⟨b, he, hb⟩ => by subst he; exact k b w' hb
attribute [local go_sem] awyArr_ones awyArr_sz awyArr_fits awyArr_splice
set_option maxHeartbeats 4000000 in
theorem few22_any (d : DBs) (G : GDB) (s : List UInt8) (hs : s.length ≤ 4000000) (w : World) (hD : GdAt w d G) : Calls Tryz.prog 14 #[.agg d.cells, .string ⟨s.toArray⟩] w (RetBoo w) := by
  obtain ⟨A, c, h7, hlc, hA⟩ := hD.air
  obtain ⟨A8, c8, h8, hl8, _⟩ := hD.prc
  have h6 := hD.db.ok.c6
  have hn := hD.airN
  have hn6 : d.fn ≤ 9000000000 := by rw [hD.db.fn]; exact hD.db.len
  have hn8 := hD.prcN
  clear hD
  generalize d.cells = cs at *
  generalize G.airways = l at *
  generalize G.procs.length = n8 at *
  generalize d.fa = A6 at *
  generalize d.fc = c6 at *
  generalize d.fn = n6 at *
  go_enter Tryz.func14, Tryz.ntmps14
  go_upto_region 1 with (fail)
  have X0 : Blk (w.alloc (.cells cs 37)) w.heap.size cs := Blk.new w _ _
  have B0 := alloc_below3 w (.cells cs 37)
  generalize w.alloc _ = W at X0 B0 ⊢
  generalize w.heap.size = g0 at X0 ⊢
  have k6 : W.cell? ⟨g0, 6, none⟩ = some (.slice A6 n6 c6) := (X0.cell 6).trans h6
  have k7 : W.cell? ⟨g0, 7, none⟩ = some (.slice A l.length c) := (X0.cell 7).trans h7
  have k8 : W.cell? ⟨g0, 8, none⟩ = some (.slice A8 n8 c8) := (X0.cell 8).trans h8
  have HA := Lib.hid (fun (W' : World) (B : Below W.heap.size W W') => hA.below (below_step B0 B))
  have HLC := Lib.hid hlc
  clear h6 h7 h8 hA X0
  by_cases a0 : (2000 : Int) < (s.length : Int)
  · go_wp2
    go_ret
    exact ⟨_, rfl, B0⟩
  by_cases a1 : (400 : Int) < (n6 : Int)
  · go_wp2
    go_ret
    exact ⟨_, rfl, B0⟩
  by_cases a2 : (60 : Int) < (l.length : Int)
  · go_wp2
    go_ret
    exact ⟨_, rfl, B0⟩
  by_cases a3 : (60 : Int) < (n8 : Int)
  · go_wp2
    go_ret
    exact ⟨_, rfl, B0⟩
  have HB0 := Lib.hid B0
  clear B0
  go_wp2
  go_loopw [31] (fun iv wr => ∃ k : Nat, k ≤ l.length ∧ iv = .int .i64 k ∧ Below W.heap.size W wr) (fun iv _ => l.length - (intOf iv).toNat)
  case atStart => exact ⟨0, Nat.zero_le _, rfl, Below.refl _ _⟩
  case round =>
    obtain ⟨k, hk, rfl, BW⟩ := hrel
    by_cases hlt : k < l.length
    · obtain ⟨b, off, cs', hAe, hb, hIs, hAt⟩ := (HA.out wr BW).get (Below.refl _ _) hlt
      obtain ⟨A2, c2, rfl, hl2, hI2⟩ := hAt.ex
      clear hAt
      generalize l[k] = a at *
      subst hAe
      have i1 : Has_awy wr b (off + k * 2) := ⟨_, hIs⟩
      have i2 : of_awy wr b (off + k * 2) = awyArr a A2 c2 := of_awy_eq hIs
      have hlt' : (k : Int) < (l.length : Int) := by omega
      have hkc : k < c := by have := HLC.out; omega
      clear hI2 hl2 hIs hb k6 k7 k8
      go_upto_region 6 with (fail)
      have Z := Blk.new wr (awyArr a A2 c2) 81
      have D := below_step BW (alloc_below3 wr (.cells (awyArr a A2 c2) 81))
      clear i1 i2
      generalize wr.alloc _ = W2 at Z D ⊢
      generalize wr.heap.size = g7 at Z ⊢
      have z1 : W2.cell? ⟨g7, 1, none⟩ = some (.slice A2 a.pts.length c2) := Z.cell 1
      by_cases h40 : (40 : Int) < (a.pts.length : Int)
      · go_wp2
        go_ret
        exact ⟨_, rfl, below_step HB0.out D⟩
      · go_wp2
        go_roundw
        case rel => exact ⟨k + 1, by omega, by go_num, D⟩
        case measure => simp [intOf]; omega
    · have hlt' : ¬ (k : Int) < (l.length : Int) := by omega
      go_wp2
      go_ret
      exact ⟨_, rfl, below_step HB0.out BW⟩
end Go.Proofs.YtgoeedohgomodaaGreatDoor
namespace Go.Proofs.YtgoeedohgomodaaGreatDoor
open Go.RowKit Go.Sort
set_option linter.unusedVariables false
set_option linter.unusedSimpArgs false
set_option maxRecDepth 100000
attribute [local go_sem ↓] bfix_fold
attribute [local go_sem] run_bfix0
theorem none_any (b : Bool) (w : World) : Calls Tryz.prog 69 #[.bool b] w (RetP w (.int .i64 (if b then 0 else 6))) := by
  cases b
  all_goals
    go_enter Tryz.func69, Tryz.ntmps69
    go_wp2
    go_ret
    exact RetP.int rfl rfl
set_option maxHeartbeats 2000000 in
theorem rfixfind_any (l : List FixV) (r : List UInt8) (A : Option Addr) (c : Nat) (w : World) (hI : Items w A 7 (l.map FixV.arr)) (hlc : l.length ≤ c) (hn : l.length ≤ 9000000000) (hs : ∀ f ∈ l, f.small) :
    Calls Tryz.prog 68 #[.slice A l.length c, .string ⟨r.toArray⟩] w (Ret w (.tuple #[.agg ((findV l r).getD noFix).arr, .bool (findV l r).isSome])) := by
  go_enter Tryz.func68, Tryz.ntmps68
  go_upto_region 1 with (fail)
  rw [← noFix_arr]
  have Y0 : Blk (w.alloc (.cells noFix.arr 84)) w.heap.size noFix.arr := Blk.new _ _ _
  have B0 := alloc_below3 w (.cells noFix.arr 84)
  generalize hW : w.alloc _ = W
  have hE : w.alloc (.cells noFix.arr 84) = W := hW
  rw [hE] at Y0 B0
  clear hW hE
  obtain ⟨g1, hg1⟩ : ∃ g, g = w.heap.size := ⟨_, rfl⟩
  rw [← hg1] at Y0 ⊢
  have hgle : w.heap.size ≤ g1 := Nat.le_of_eq hg1.symm
  clear hg1
  go_wp2
  go_loopw [10] (fun i wr => ∃ k : Nat, k ≤ l.length ∧ i = .int .i64 k ∧ findV l r = findV (l.drop k) r ∧ Blk wr g1 noFix.arr ∧ Below w.heap.size w wr) (fun i _ => l.length - (intOf i).toNat)
  case atStart => exact ⟨0, by omega, rfl, rfl, Y0, B0⟩
  case round =>
    clear Y0 B0
    obtain ⟨k, hk, rfl, hf, Y1, BW⟩ := hrel
    have HF := Lib.hid hf
    clear hf
    by_cases hlt : k < l.length
    · obtain ⟨b, off, hA, hb, hcl⟩ := hI.get (k := k) (by simpa using hlt)
      clear hcl hb
      subst hA
      have hd := Lib.hid (List.drop_eq_getElem_cons hlt)
      have hx := fixItem hI BW hlt
      have hsm := hs _ (List.getElem_mem hlt)
      generalize l[k] = f at hd hx hsm
      have HD := Lib.hid (show findV l r = if f.ref == r then some f else findV (l.drop (k + 1)) r by rw [HF.out, hd.out]; rfl)
      clear HF hd
      have kr := Lib.hid (rfixref_any f hsm)
      generalize f.ref = t at kr HD
      have hkc : k < c := by omega
      have i1 : Has_fixv wr b (off + k * 7) := ⟨_, hx⟩
      have i2 : of_fixv wr b (off + k * 7) = f := of_fixv_eq hx
      go_upto_region 4 with (fail)
      have Z2 := Blk.new wr f.arr 84
      have Y2 := Y1.alloc (.cells f.arr 84)
      have B2 := below_step BW (alloc_below3 wr (.cells f.arr 84))
      generalize hW : wr.alloc _ = W2
      have hE : wr.alloc (.cells f.arr 84) = W2 := hW
      rw [hE] at Z2 Y2 B2
      clear hW hE i1 i2 hx Y1 BW
      generalize wr.heap.size = g7 at Z2 ⊢
      have i1 : Has_fixv W2 g7 0 := ⟨_, Z2.is_fixv⟩
      have i2 : of_fixv W2 g7 0 = f := of_fixv_eq Z2.is_fixv
      have HZ := Lib.hid (fun w' (h : Below W2.heap.size W2 w') => Z2.step h)
      have HY := Lib.hid (fun w' (h : Below W2.heap.size W2 w') => Y2.step h)
      have HB := Lib.hid (fun w' (h : Below W2.heap.size W2 w') => below_step B2 h)
      clear Z2 Y2 B2
      rcases Bool.eq_false_or_eq_true (t == r) with ht | ht
      · have HO := Lib.hid (show findV l r = some f by rw [HD.out, ht]; rfl)
        clear HD
        go_wp2_with (go_at_call 40; (with_reducible refine callR (kr.out _) ?_); intro w3 b3 _ _ _
                     have i3 : Has_fixv w3 g7 0 := ⟨_, (HZ.out _ b3).is_fixv⟩
                     have i4 : of_fixv w3 g7 0 = f := of_fixv_eq (HZ.out _ b3).is_fixv
                     have d2 := (HY.out _ b3).plain
                     have d3 := (HY.out _ b3).of)
        exact bodyPost_ret (results_agg Tryz.results68 _ _ g1 f.arr 7 _ rfl rfl ((HY.out _ b3).set _).cell Tryz.underlying84 rfl info_fixv) rfl ⟨by rw [HO.out]; rfl, below_setRow' (HB.out _ b3) hgle _⟩
      · have HO := Lib.hid (show findV l r = findV (l.drop (k + 1)) r by rw [HD.out, ht]; rfl)
        clear HD
        go_wp2_with (go_at_call 40; (with_reducible refine callR (kr.out _) ?_); intro w3 b3 _ _ _)
        go_roundw
        case rel => exact ⟨k + 1, by omega, by go_num, HO.out, HY.out _ b3, HB.out _ b3⟩
        case measure => simp [intOf]; omega
    · have HO := Lib.hid (show findV l r = none by rw [HF.out, List.drop_of_length_le (by omega)]; rfl)
      have d2 := Y1.plain
      have d3 := Y1.of
      clear HF
      go_wp2
      exact bodyPost_ret (results_agg Tryz.results68 _ _ g1 noFix.arr 7 _ rfl rfl (Y1.set _).cell Tryz.underlying84 rfl info_fixv) rfl ⟨by rw [HO.out]; rfl, below_setRow' BW hgle _⟩
end Go.Proofs.YtgoeedohgomodaaGreatDoor
namespace Go.Proofs.YtgoeedohgomodaaGreatDoor
open Go.RowKit Go.Sort
set_option linter.unusedVariables false
set_option linter.unusedSimpArgs false
set_option maxRecDepth 100000
attribute [local go_sem ↓] bpt_fold
attribute [local go_sem] run_bpt0 run_bpt2
end Go.Proofs.YtgoeedohgomodaaGreatDoor
namespace Go.Proofs.YtgoeedohgomodaaGreatDoor
open Go.RowKit Go.Sort
set_option linter.unusedVariables false
set_option linter.unusedSimpArgs false
set_option maxRecDepth 100000
attribute [local go_sem ↓] bfix_fold bpt_fold
attribute [local go_sem] run_bfix0 run_bpt0 run_bpt2
theorem rnavfix_any (d : DBs) (l : List FixV) (r : List UInt8) (w : World) (hD : DbAt w d l) :
    Calls Tryz.prog 39 #[.agg d.cells, .string ⟨r.toArray⟩] w (Ret w (.tuple #[.agg (fixV l r).1.arr, .int .i64 (fixV l r).2])) := by
  have HF := Lib.hid (fixV_find l r)
  have hcall := Lib.hid (fun w' (h : Below w.heap.size w w') => rfixfind_any l r d.fa d.fc w' (hD.below h).items hD.cap hD.len hD.small)
  rw [← hD.fn] at hcall
  have c6 := hD.ok.c6
  generalize fixV l r = out at HF ⊢
  generalize findV l r = o at hcall HF
  generalize d.fa = A at *
  generalize d.fn = n at *
  generalize d.fc = c at *
  generalize d.cells = cs at c6 ⊢
  clear hD
  go_enter Tryz.func39, Tryz.ntmps39
  go_upto_region 1 with (fail)
  rw [← noFix_arr]
  have X0 : Blk (w.alloc (.cells cs 37)) w.heap.size cs := Blk.new w _ _
  have B0 := alloc_below3 w (.cells cs 37)
  have hsz : (w.alloc (.cells cs 37)).heap.size = w.heap.size + 1 := World.size_alloc _ _
  generalize w.alloc _ = W0 at X0 B0 hsz ⊢
  rw [← hsz]
  have Y1 : Blk (W0.alloc (.cells noFix.arr 84)) W0.heap.size noFix.arr := Blk.new W0 _ _
  have B1 := below_step B0 (alloc_below3 W0 (.cells noFix.arr 84))
  have X1 := X0.alloc (.cells noFix.arr 84)
  have hgle : w.heap.size ≤ W0.heap.size := B0.size
  generalize W0.alloc _ = W at Y1 B1 X1 ⊢
  generalize W0.heap.size = g1 at Y1 hgle ⊢
  generalize w.heap.size = g0 at X1 ⊢
  have k6 : W.cell? ⟨g0, 6, none⟩ = some (.slice A n c) := (X1.cell 6).trans c6
  have hcall := Lib.hid (hcall.out W B1)
  clear X0 B0 hsz c6
  go_upto_region 2 with (go_at_call 68; (with_reducible refine callR hcall.out ?_); intro w2 b2 _ _ _)
  have Y2 := (Y1.step b2).alloc (.cells (o.getD noFix).arr 84)
  have Z2 := Blk.new w2 (o.getD noFix).arr 84
  have B2 := below_step (below_step B1 b2) (alloc_below3 w2 (.cells (o.getD noFix).arr 84))
  generalize w2.alloc _ = W2 at Y2 Z2 B2 ⊢
  generalize w2.heap.size = g2 at Z2 ⊢
  clear hcall k6 X1 Y1 B1 b2
  have HO := Lib.hid (show out = (o.getD noFix, if o.isSome then 0 else 6) from HF.out)
  generalize o.getD noFix = f at *
  generalize o.isSome = bo at *
  have DR : Below W2.heap.size W2 W2.drew := (Below.refl _ _).drew
  have Z3 : Blk W2.drew g2 f.arr := Z2.step DR
  have Y3 := Y2.step DR
  have B3 := below_step B2 DR
  have i1 : Has_fixv W2.drew g2 0 := ⟨_, Z3.is_fixv⟩
  have i2 : of_fixv W2.drew g2 0 = f := of_fixv_eq Z3.is_fixv
  have d2 := Y3.plain
  have d3 := Y3.of
  clear Y2 Z2 B2 DR
  clear HF
  have kn := Lib.hid (none_any bo)
  generalize (if bo = true then (0 : Int) else 6) = e at *
  go_region_with (go_at_call 69; (with_reducible refine callP (kn.out _) ?_))
  all_goals go_wp2
  all_goals exact bodyPost_ret (results_agg Tryz.results39 _ _ g1 f.arr 7 _ rfl rfl (Y3.set _).cell Tryz.underlying84 rfl info_fixv) rfl ⟨by rw [HO.out]; rfl, below_setRow' B3 hgle _⟩
end Go.Proofs.YtgoeedohgomodaaGreatDoor
namespace Go.Proofs.YtgoeedohgomodaaGreatDoor
open Go.RowKit Go.Sort
set_option linter.unusedVariables false
set_option linter.unusedSimpArgs false
set_option maxRecDepth 100000
theorem rcut_any (l : List UInt8) (c : UInt8) (w : World) (hl : l.length ≤ 4000000000) :
    Calls Tryz.prog 64 #[.string ⟨l.toArray⟩, .int .u8 c.toNat] w (RetQ w (.tuple #[.string ⟨(cutAt c l).1.toArray⟩, .string ⟨(cutAt c l).2.1.toArray⟩, .bool (cutAt c l).2.2])) := by
  generalize hq : cutAt c l = q
  have HQ0 := Lib.hid hq; clear hq
  go_enter Tryz.func64, Tryz.ntmps64
  go_wp2
  go_loop [7] (fun i => ∃ k : Nat, k ≤ l.length ∧ i = .int .i64 k ∧ (l.take k).all (· != c) = true) (fun i => l.length - (intOf i).toNat)
  case atStart => exact ⟨0, by omega, rfl, by simp⟩
  case round =>
    obtain ⟨k, hk, rfl, hq⟩ := hrel
    have HQ := Lib.hid hq; clear hq
    by_cases hlt : k < l.length
    · by_cases hc : l[k] = c
      · have hs := Lib.hid (show q = (l.take k, l.drop (k+1), true) by rw [← HQ0.out, cutAt_at c l k hlt HQ.out hc])
        have h1 : ((l[k].toNat : Int) == (c.toNat : Int)) = true := u8_eq hc
        clear hc
        have q1 : IntKind.i64.wrap ((k : Int) + 1) = (k : Int) + 1 := IntWalk.i64_in _ (by omega)
        have q2 : (0 : Int) ≤ (k : Int) + 1 := by omega
        have q3 : ((k : Int) + 1).toNat = k + 1 := by omega
        have q4 : (k : Int) + 1 ≤ l.length := by omega
        have q5 : (k : Int) ≤ l.length := by omega
        go_upto_region 5 with (fail)
        go_region
        go_wp2
        go_ret3
        exact ⟨by rw [hs.out]; simp; done, 1, rfl⟩
      · have h1 : ((l[k].toNat : Int) == (c.toNat : Int)) = false := u8_ne hc
        go_wp2
        go_round
        case rel => exact ⟨k + 1, by omega, by go_num, take_all_succ _ l k hlt HQ.out (by simp [hc])⟩
        case measure => simp [intOf]; omega
    · have hs := Lib.hid (show q = (l, [], false) by rw [← HQ0.out, cutAt_none c l (by have := HQ.out; rwa [List.take_of_length_le (by omega)] at this)])
      go_wp2
      go_ret3
      exact ⟨by rw [hs.out]; rfl, 0, rfl⟩
end Go.Proofs.YtgoeedohgomodaaGreatDoor
namespace Go.Proofs.YtgoeedohgomodaaGreatDoor
open Go.RowKit Go.Sort
set_option linter.unusedVariables false
set_option linter.unusedSimpArgs false
set_option maxRecDepth 100000
set_option maxHeartbeats 2000000 in
theorem rnames_any (s : List UInt8) (c : UInt8) (m : Int) (w : World) (hs : s.length ≤ 4000000000) :
    Calls Tryz.prog 34 #[.string ⟨s.toArray⟩, .int .u8 c.toNat, .int .i64 m] w (Ret w (.tuple #[.string ⟨(cutAt c s).1.toArray⟩, .string ⟨(cutAt c s).2.1.toArray⟩, .bool (pairB s c m)])) := by
  have hc := cutAt_len c s
  have kc := Lib.hid (rcut_any s c w hs)
  have HP := Lib.hid (show pairB s c m = pair3 (cutAt c s) m from rfl)
  generalize pairB s c m = ok at HP ⊢
  generalize cutAt c s = q at *
  obtain ⟨a, b, f⟩ := q
  simp only at hc
  obtain ⟨ha, hb⟩ := hc
  have ka := Lib.hid (fun w' => rname_any a m w' (by omega))
  have kb := Lib.hid (fun w' => rname_any b m w' (by omega))
  have HP := Lib.hid (show ok = (nameB a m && (!f || nameB b m)) from HP.out)
  generalize nameB a m = na at *
  generalize nameB b m = nb at *
  cases f <;> cases na <;> cases nb
  all_goals
    obtain rfl := HP.out
    clear HP
    go_enter Tryz.func34, Tryz.ntmps34
    go_wp2_with (first
      | (go_at_call 64; (with_reducible refine callQ kc.out ?_); intro nq)
      | (go_at_call 65; (with_reducible first | refine callP (ka.out _) ?_ | refine callP (kb.out _) ?_)))
    go_ret3
    exact ⟨rfl, below_drewN (Below.refl _ _) nq⟩
attribute [local go_sem] ba_append
attribute [local go_sem ↓] bfix_fold
attribute [local go_sem] run_bfix0
set_option maxHeartbeats 4000000 in
theorem rplaceg_any (d : DBs) (l : List FixV) (s : List UInt8) (w : World) (hs : s.length ≤ 4000000000) (hD : DbAt w d l) :
    Calls Tryz.prog 16 #[.agg d.cells, .string ⟨s.toArray⟩] w (Ret w (.tuple #[.string ⟨(placeG l s).1.toArray⟩, .int .i64 (placeG l s).2])) := by
  have hc := cutAt_len 47 s
  have kp := Lib.hid (fun (W' : World) => show Calls Tryz.prog 34 #[.string ⟨s.toArray⟩, .int .u8 47, .int .i64 6] W' (Ret W' (.tuple #[.string ⟨(cutAt 47 s).1.toArray⟩, .string ⟨(cutAt 47 s).2.1.toArray⟩, .bool (pairB s 47 6)])) from rnames_any s 47 6 W' hs)
  have kf := Lib.hid (fun (r : List UInt8) (W' : World) (b : Below w.heap.size w W') => rnavfix_any d l r W' (hD.below b))
  have HC := Lib.hid (placeG_eq l s)
  have HI := Lib.hid (fun (W' : World) (b : Below w.heap.size w W') => hD.items.below b)
  have hsz := hD.ok.size
  have h6 := hD.ok.c6
  rw [hD.fn] at h6
  have HCAP := Lib.hid hD.cap
  have hln := hD.len
  have HSM := Lib.hid hD.small
  generalize placeG l s = out at *
  generalize cutAt 47 s = q at *
  obtain ⟨a, b, f⟩ := q
  simp only at hc
  obtain ⟨ha, hb⟩ := hc
  generalize pairB s 47 6 = ok at *
  clear hD
  go_enter Tryz.func16, Tryz.ntmps16
  go_upto_region 1 with (fail)
  have X0 : Blk (w.alloc (.cells d.cells 37)) w.heap.size d.cells := Blk.new w _ _
  have B0 := alloc_below3 w (.cells d.cells 37)
  generalize w.alloc _ = W at X0 B0 ⊢
  obtain ⟨g0, hg0⟩ : ∃ g, g = w.heap.size := ⟨_, rfl⟩
  rw [← hg0] at X0 ⊢
  clear hg0
  cases ok with
  | false =>
    have HO := Lib.hid (HC.out.trans (if_pos rfl))
    clear HC
    go_wp2_with (go_at_call 34; (with_reducible refine callR (kp.out _) ?_); intro w1 b1 _ _ _)
    go_ret2
    exact RetPl HO.out (below_step B0 b1)
  | true =>
  have HC := Lib.hid (HC.out.trans (if_neg (by decide)))
  by_cases h : b = []
  · subst h
    have HC := Lib.hid (show out = placeT l a from HC.out.trans (if_neg (by simp)))
    go_upto_region 10 with (go_at_call 34; (with_reducible refine callR (kp.out _) ?_); intro w1 b1 _ _ _)
    have X1 := X0.step b1
    have B1 := below_step B0 b1
    have k6 : w1.cell? ⟨g0, 6, none⟩ = some (.slice d.fa l.length d.fc) := by rw [X1.cell 6]; exact h6
    go_upto_region 11 with (fail)
    have HB := Lib.hid B1
    clear X0 X1 B0 B1 k6 kp kf h6 hsz b1
    go_loopw [40] (fun iv wr => ∃ k : Nat, k ≤ l.length ∧ iv = .int .i64 k ∧ portV a l = portV a (l.drop k) ∧ Below w1.heap.size w1 wr) (fun iv _ => l.length - (intOf iv).toNat)
    case atStart => exact ⟨0, by omega, rfl, rfl, Below.refl _ _⟩
    case round =>
      obtain ⟨k, hk, rfl, hf, BW⟩ := hrel
      have HF := Lib.hid hf
      clear hf
      have BB := Lib.hid (below_step HB.out BW)
      by_cases hlt : k < l.length
      · have hlt' : (k : Int) < (l.length : Int) := by omega
        have hkc : k < d.fc := by have := HCAP.out; omega
        obtain ⟨b2, o2, hA, hb2, _⟩ := (HI.out wr BB.out).get (k := k) (by simpa using hlt)
        have hx := fixItem (by have := HI.out wr BB.out; rw [hA] at this; exact this) (Below.refl _ _) hlt
        have hsm := HSM.out _ (List.getElem_mem hlt)
        have HD := Lib.hid (HF.out.trans (portV_drop a l hlt))
        generalize l[k] = y at *
        have i1 : Has_fixv wr b2 (o2 + k * 7) := ⟨_, hx⟩
        have i2 : of_fixv wr b2 (o2 + k * 7) = y := of_fixv_eq hx
        rw [hA]
        clear hx HF
        go_upto_region 13 with (fail)
        have Z := Blk.new wr y.arr 84
        have D := alloc_below3 wr (.cells y.arr 84)
        have B5 := below_step BB.out D
        have B6 := below_step BW D
        clear i1 i2
        generalize wr.alloc _ = W5 at Z B5 B6 ⊢
        generalize wr.heap.size = g7 at Z ⊢
        have z0 : W5.cell? ⟨g7, 0, none⟩ = some (.string ⟨y.ident.toArray⟩) := Z.cell 0
        have z2 : W5.cell? ⟨g7, 2, none⟩ = some (.int .u8 y.kind) := Z.cell 2
        by_cases hm : y.kind = 5 ∧ y.ident = a
        · have e1 : (y.kind == 5) = true := by simpa using hm.1
          have e2 : (y.ident == a) = true := by simpa using hm.2
          have HO := Lib.hid (show out = (y.ref, 0) by rw [HC.out]; unfold placeT; rw [HD.out, e1, e2]; rfl)
          have kr := Lib.hid (rfixref_any y hsm W5)
          have j1 : Has_fixv W5 g7 0 := ⟨_, Z.is_fixv⟩
          have j2 : of_fixv W5 g7 0 = y := of_fixv_eq Z.is_fixv
          clear hm HD
          go_wp2_with (go_at_call 40; (with_reducible refine callR kr.out ?_); intro w6 b6 _ _ _)
          go_ret2
          exact RetPl HO.out (below_step B5 b6)
        · have HD := Lib.hid (show portV a l = portV a (l.drop (k + 1)) by
            rw [HD.out, if_neg]
            intro h
            simp only [Bool.and_eq_true, beq_iff_eq] at h
            exact hm h)
          by_cases h1 : y.ident = a
          · have e1 : (y.ident == a) = true := by simpa using h1
            have e2 : (y.kind == 5) = false := by
              have : y.kind ≠ 5 := fun h => hm ⟨h, h1⟩
              simpa using this
            clear hm h1
            go_wp2
            go_roundw
            case rel => exact ⟨k + 1, by omega, by go_num, HD.out, B6⟩
            case measure => simp [intOf]; omega
          · have e1 : (y.ident == a) = false := by simpa using h1
            clear hm h1
            go_wp2
            go_roundw
            case rel => exact ⟨k + 1, by omega, by go_num, HD.out, B6⟩
            case measure => simp [intOf]; omega
      · have hlt' : ¬ (k : Int) < (l.length : Int) := by omega
        have HO := Lib.hid (show out = ([], 6) by rw [HC.out]; unfold placeT; rw [HF.out, List.drop_eq_nil_of_le (by omega)]; rfl)
        clear HF
        go_wp2
        go_ret2
        exact RetPl HO.out BB.out
  · have h0 : (b == []) = false := by simpa using h
    have HC := Lib.hid (HC.out.trans (if_pos h))
    have l1 : ¬ 9223372036854775807 < b.length + 1 := by omega
    have l2 : ¬ 9223372036854775807 < b.length + 1 + a.length := by omega
    clear h
    go_upto_region 5 with (go_at_call 34; (with_reducible refine callR (kp.out _) ?_); intro w1 b1 _ _ _)
    have X1 := X0.step b1
    have B1 := below_step B0 b1
    have i1 : Has_db w1 g0 0 := ⟨_, X1.is_db hsz⟩
    have i2 : of_db w1 g0 0 = d.cells := of_db_eq (X1.is_db hsz)
    have kf2 := Lib.hid (kf.out (b ++ 47 :: a) w1 B1)
    have HFV := Lib.hid (fixV_find l (b ++ 47 :: a))
    generalize fixV l (b ++ 47 :: a) = fx at *
    obtain ⟨fv, fe⟩ := fx
    cases hf : (findV l (b ++ 47 :: a)).isSome with
    | true =>
      have HO := Lib.hid (HC.out.trans (if_pos hf))
      have hfe : fe = 0 := by have := congrArg Prod.snd HFV.out; simp only [hf] at this; simpa using this
      subst hfe
      clear HC HFV hf kf
      go_wp2_with (first | (go_at_call 39; (with_reducible refine callR kf2.out ?_); intro w2 b2 _ _ _))
      go_ret2
      exact RetPl HO.out (below_step (below_step B1 b2) (alloc_below3 _ _))
    | false =>
      have HO := Lib.hid (HC.out.trans (if_neg (by rw [hf]; decide)))
      have hfe : fe = 6 := by have := congrArg Prod.snd HFV.out; simp only [hf] at this; simpa using this
      subst hfe
      clear HC HFV hf kf
      go_wp2_with (first | (go_at_call 39; (with_reducible refine callR kf2.out ?_); intro w2 b2 _ _ _))
      go_ret2
      exact RetPl HO.out (below_step (below_step B1 b2) (alloc_below3 _ _))
end Go.Proofs.YtgoeedohgomodaaGreatDoor
namespace Go.Proofs.YtgoeedohgomodaaGreatDoor
open Go.RowKit Go.Sort
set_option linter.unusedVariables false
set_option linter.unusedSimpArgs false
set_option maxRecDepth 100000
set_option maxHeartbeats 4000000 in
theorem lawRtPlaces_any (d : DBs) (G : GDB) (s : List UInt8) (w : World) (hL : Laid w) (hD : GdAt w d G) (hs : s.length ≤ 4000000) :
    Calls Tryz.prog 4 #[.agg d.cells, .string ⟨s.toArray⟩] w (Ret w (.bool true)) := by
  have hsz := hD.db.ok.size
  have KA := Lib.hid (fun W (b : Below w.heap.size w W) => awake22_any W (hL.below b))
  have KF := Lib.hid (fun W (b : Below w.heap.size w W) => few22_any d G s hs W (hD.below b))
  have KP := Lib.hid (fun W (b : Below w.heap.size w W) => placeg_any d G.fixes s W (hL.below b) (by omega) (hD.db.below b))
  have KR := Lib.hid (fun W (b : Below w.heap.size w W) => rplaceg_any d G.fixes s W (by omega) (hD.db.below b))
  generalize placeG G.fixes s = r at *
  obtain ⟨rs, re⟩ := r
  generalize d.cells = cs at *
  clear hL hD
  go_enter Tryz.func4, Tryz.ntmps4
  go_upto_region 1 with (fail)
  have D0 := Blk.new w cs 37
  have B0 := alloc_belowR w (.cells cs 37)
  generalize w.alloc _ = W at D0 B0 ⊢
  obtain ⟨gd, hgd⟩ : ∃ g, g = w.heap.size := ⟨_, rfl⟩
  rw [← hgd] at D0 ⊢
  clear hgd
  go_upto_region 3 with (go_at_call 10; (with_reducible refine callR (KA.out _ B0) ?_); intro w1 b1 _ _ _)
  have D1 := D0.step b1
  have B1 := below_step B0 b1
  have k1 : Has_db w1 gd 0 := ⟨_, D1.is_db hsz⟩
  have k2 : of_db w1 gd 0 = cs := of_db_eq (D1.is_db hsz)
  clear D0 B0 b1 KA
  go_upto_if 14 with (go_at_call 14; (with_reducible refine callBoo (KF.out _ B1) ?_); intro bf w2 b2)
  have D2 := D1.step b2
  have B2 := Lib.hid (below_step B1 b2)
  clear D1 B1 b2 k1 k2 KF
  cases bf with
  | false =>
    go_wp2
    go_ret
    exact Ret.bool rfl B2.out
  | true =>
  have k1 : Has_db w2 gd 0 := ⟨_, D2.is_db hsz⟩
  have k2 : of_db w2 gd 0 = cs := of_db_eq (D2.is_db hsz)
  have HD2 := Lib.hid D2
  have kp := Lib.hid (KP.out w2 B2.out)
  clear D2 KP
  go_wp2_with (first
    | (go_at_call 15; (with_reducible refine callR kp.out ?_); intro w3 b3 _ _ _; have k3 : Has_db w3 gd 0 := ⟨_, (HD2.out.step b3).is_db hsz⟩; have k4 : of_db w3 gd 0 = cs := of_db_eq ((HD2.out.step b3).is_db hsz); have kr := Lib.hid (KR.out w3 (below_step B2.out b3)))
    | (go_at_call 16; (with_reducible refine callR kr.out ?_); intro w4 b4 _ _ _))
  go_ret
  exact Ret.bool (by simp) (below_step (below_step B2.out b3) b4)
end Go.Proofs.YtgoeedohgomodaaGreatDoor
namespace Go.Proofs.YtgoeedohgomodaaGreatDoor
open Go.RowKit Go.ChangeShapes Go.WideShapes Go.Deep
set_option linter.unusedVariables false
set_option linter.unusedSimpArgs false
section
variable {H : Type} {enc : TypeId × Value → H} {w : World} {base : Nat} {spare : Nat → Bool} {held : Bool}
set_option maxRecDepth 100000 in
theorem open_gdbT {r : Reach} {b0 : Nat} {v : Value} {d : DataW H} {ps : List MemPlace} (hv : Value.okWide Tryz.prog w r b0 37 v) (h : DataW.Trod enc Tryz.prog w base spare held 37 v d ps) (hN : Rows.uptoBulk d ≤ 4000000) :
    ∃ (db : DBs) (G : GDB), v = .agg db.cells ∧ GdAt w db G ∧ G.short := by
  obtain ⟨cs, rfl, hsz⟩ := okWide_struct Tryz.underlying37 hv
  obtain ⟨fuel, hf⟩ := h
  have hvc : (Value.agg cs).cells.toList = cs.toList := rfl
  rw [hvc] at hf
  obtain ⟨db, G, e, hg, hs⟩ := open_gdb hf hN
  exact ⟨db, G, by rw [Array.toList_inj.1 e], hg, hs⟩
end
end Go.Proofs.YtgoeedohgomodaaGreatDoor
namespace Go.Proofs.YtgoeedohgomodaaGreatDoor
open Go.RowKit Go.ChangeShapes Go.WideShapes Go.Deep
set_option linter.unusedVariables false
set_option linter.unusedSimpArgs false
theorem laid22_of {W : World} {l : List (String × DataW Unit)} (h : laidMet Tryz.prog l W) (hsh : W.ShapedOpen Tryz.prog) (h1 : ("flightdeck/leg.uses", Lib.tabData .u16 usesTab) ∈ l) : Laid W := by
  obtain ⟨ps, hv, _, _⟩ := h
  have t1 := tab_of hv gUses (t := 194) (by kernel_rfl) Tryz.underlying194 Tryz.underlying193 (by kernel_rfl) (by kernel_rfl) h1
  exact ⟨fun k hk => t1.cell gUses k hk, Go.Proofs.cell_of_shapedOpen_int (zero := #[.int .i64 0]) (t := 3) hsh (of_decide_eq_true (by kernel_rfl)) (by kernel_rfl) rfl (by kernel_rfl) (by kernel_rfl) Tryz.underlying3⟩
end Go.Proofs.YtgoeedohgomodaaGreatDoor
namespace Go.Proofs.YtgoeedohgomodaaGreatDoor.routePlaces
open Go.ChangeShapes Go.WideShapes Go.ChangeAt Go.RowKit
set_option linter.unusedVariables false
set_option linter.unusedSimpArgs false
theorem own : ownKnob Tryz.prog.godebug = none := by kernel_rfl
theorem laidOut : laidOutB Tryz.prog = true := by kernel_rfl
theorem opens {W : World} (h : laidMetH Tryz.prog Rows.routePlacesUptoRow.laid W) (hsh : W.ShapedOpen Tryz.prog) : Laid W :=
  laid22_of (l := Rows.routePlacesUptoRow.laid) h hsh (by first | exact List.mem_of_getElem? (i := 0) rfl | exact List.mem_of_getElem? (i := 1) rfl | exact List.mem_of_getElem? (i := 2) rfl | exact List.mem_of_getElem? (i := 3) rfl | exact List.mem_of_getElem? (i := 4) rfl | exact List.mem_of_getElem? (i := 5) rfl | exact List.mem_of_getElem? (i := 6) rfl | exact List.mem_of_getElem? (i := 7) rfl | exact List.mem_of_getElem? (i := 8) rfl | exact List.mem_of_getElem? (i := 9) rfl | exact List.mem_of_getElem? (i := 10) rfl | exact List.mem_of_getElem? (i := 11) rfl | exact List.mem_of_getElem? (i := 12) rfl | exact List.mem_of_getElem? (i := 13) rfl)
set_option maxRecDepth 100000 in
theorem contract (H : Type) (enc : TypeId × Value → H) (W : World) (base : Nat) (args : Array Value) (ds gs : List (DataW H)) (before : List MemPlace)
    (hval : ∀ (j : Nat) t v, Tryz.f4.params[j]? = some t → args[j]? = some v → Value.okWide Tryz.prog W .any base t v)
    (hW : DataW.Whole enc Tryz.prog Tryz.f4.params.toList Rows.routePlacesSpec.vars false W args.toList ds gs before) (hL : laidMetH Tryz.prog Rows.routePlacesUptoRow.laid W) (hsh : W.ShapedOpen Tryz.prog) (hk : Rows.uptoSmall H (ds ++ gs) = true) :
    Calls Tryz.prog 4 args W fun e W' => ∃ v, e = .returned v ∧ Rows.routePlacesSpec.post enc Tryz.prog Tryz.f4 false true false false W args v W' := by
  have OP := opens hL hsh
  have hW' := hW
  obtain ⟨p, q, hA0, hV, rfl, hfz, hnd⟩ := hW
  have hA : DataW.TrodAll enc Tryz.prog W 0 (fun _ => true) true Tryz.f4.params.toList args.toList ds p := hA0
  rw [Tryz.params4] at hA hval
  obtain ⟨v0, vs0, d0, ds0, pl0, ql0, hargs, rfl, rfl, h0, r0⟩ := trodAll_cons hA
  obtain ⟨v1, vs1, d1, ds1, pl1, ql1, rfl, rfl, rfl, h1, r1⟩ := trodAll_cons r0
  obtain ⟨rfl, rfl, rfl⟩ := trodAll_nil r1
  obtain rfl : args = #[v0, v1] := by cases args; simp_all
  obtain ⟨rfl, rfl⟩ := trodVars_none hV
  have hb := of_decide_eq_true hk
  simp only [List.append_nil, Rows.uptoBulkAll] at hb
  have hk0 := h0
  obtain ⟨d0, G0, rfl, D0, S0⟩ := open_gdbT (hval 0 37 v0 rfl rfl) h0 (by omega)
  have hk1 := h1
  obtain ⟨s1, rfl, sl1⟩ := open_strX (hval 1 9 v1 rfl rfl) h1
  have walk := lawRtPlaces_any d0 G0 s1 W OP D0 (by omega)
  refine walk.mono fun e W' ⟨he, hg⟩ => ?_
  subst he
  have hl0 : ∀ x ∈ pl0, x.block < W.heap.size := fun x hx => by simpa using hW'.lt x (by simp [hx])
  have hl1 : ∀ x ∈ pl1, x.block < W.heap.size := fun x hx => by simpa using hW'.lt x (by simp [hx])
  refine ⟨_, rfl, _, _, _, [], (pl0 ++ (pl1 ++ [])), [], hW', ?_, ?_, rfl, ?_, fun h => by cases h⟩
  · exact trodAll_cons_mk (shut_bool Tryz.underlying4 _) trodAll_mk0
  · exact (trodAll_cons_mk (Below.trod laidOut (by kernel_rfl) (of_decide_eq_true (by kernel_rfl)) hk0 hg hl0) (trodAll_cons_mk (Below.trod laidOut (by kernel_rfl) (of_decide_eq_true (by kernel_rfl)) hk1 hg hl1) trodAll_mk0))
  · exact hg.frame _
theorem reads (os : Os) {H : Type} (enc : TypeId × Value → H) : ∃ places, DataW.whole enc Tryz.prog ((World.laidAll Tryz.prog os Rows.routePlacesUptoRow.laid).forCall (fun _ _ => 0) ⟨#[], #[.agg #[.string ⟨#[]⟩, .int .i64 0, .int .i64 0, .int .i64 0, .int .i64 0, .int .i64 0, .slice none 0 0, .slice none 0 0, .slice none 0 0], .string ⟨#[]⟩], []⟩).memory Tryz.f4.params.toList Rows.routePlacesSpec.vars false (#[.agg #[.string ⟨#[]⟩, .int .i64 0, .int .i64 0, .int .i64 0, .int .i64 0, .int .i64 0, .slice none 0 0, .slice none 0 0, .slice none 0 0], .string ⟨#[]⟩] : Array Value).toList 8 = some ([.agg [.agg [.lit (.string []), .lit (.int .i64 0), .lit (.int .i64 0), .lit (.int .i64 0), .agg [.lit (.int .i64 0), .lit (.int .i64 0)]], .nil, .nil, .nil], .lit (.string [])], [], places) :=
  ⟨[], by kernel_rfl⟩
set_option maxRecDepth 100000 in
theorem liftedUpto (os : Os) (started : os.Started) (H : Type) (enc : TypeId × Value → H) (F : Stop.Interp) :
    ReturnsInHanded {} Tryz.checked os 4 .any ((Rows.OpenSpec.upto Rows.routePlacesSpec).preRow enc Tryz.prog Tryz.f4 Rows.routePlacesUptoRow.domain false Rows.routePlacesUptoRow.laid) (((Rows.OpenSpec.upto Rows.routePlacesSpec).at F).post enc Tryz.prog Tryz.f4 false true false false) := by
  obtain ⟨places, hx⟩ := reads os enc
  refine returnsInHanded_of_row (C := Tryz.checked) (s := Rows.OpenSpec.upto Rows.routePlacesSpec) own started (by kernel_rfl) Tryz.func4
    (witness_row_atRef (enc := enc) (C := Tryz.checked) false (World.laidAll Tryz.prog os Rows.routePlacesUptoRow.laid) #[.agg #[.string ⟨#[]⟩, .int .i64 0, .int .i64 0, .int .i64 0, .int .i64 0, .int .i64 0, .slice none 0 0, .slice none 0 0, .slice none 0 0], .string ⟨#[]⟩] (World.laidAll_os _ _ _) (by kernel_rfl) (by kernel_rfl) (by kernel_rfl)
      (OpenSpec.preRow_of_cond 8 hx (by kernel_rfl) (fun k hk => by cases hk; kernel_rfl) (by kernel_rfl) (laidMet_laidAll _ (by kernel_rfl) (by kernel_rfl)))) ?_
  intro W base args ds gs before hval hW _ hcond _ hL hsh _
  exact contract H enc W base args ds gs before hval hW hL hsh (hcond _ rfl)
set_option maxHeartbeats 40000000 in
theorem saidUpto : Rows.RoutePlacesUptoSaid :=
  OpenClaim.holds_of_cond 4 Tryz.f4 rfl rfl rfl rfl rfl rfl rfl ⟨rfl, rfl, rfl, rfl, rfl⟩ rfl rfl rfl rfl rfl (by as_aux_lemma => kernel_rfl) Tryz.func4 (by
      unfold joinedFacts
      simp only [Bool.and_eq_true]
      repeat' apply And.intro
      all_goals (as_aux_lemma => kernel_rfl))
    (of_decide_eq_true (by as_aux_lemma => kernel_rfl)) (by unfold Func.isWrapper; first | (rw [if_pos (by decide +kernel)]; kernel_rfl) | (rw [if_neg (by decide +kernel)]; exact ⟨rfl, rfl⟩))
    (fun os started H enc _ F => by rw [OpenClaim.pre_eq_preRow]; exact liftedUpto os started H enc F)
theorem plain (f : FuncId) (fn : Func) (hf : Tryz.pinned.checked.prog.funcNamed "flightdeck/flightdecklaw22.RoutePlaces" = some f) (hfn : Tryz.pinned.checked.prog.funcs[f]? = some fn) :
    false = Tryz.pinned.checked.prog.looks [] ∧ ∀ (j : Nat) t, fn.params[j]? = some t → Tryz.pinned.checked.prog.wantsStandIn t = false := by
  obtain rfl : f = 4 := Option.some.inj ((show Tryz.prog.funcNamed "flightdeck/flightdecklaw22.RoutePlaces" = some 4 by kernel_rfl).symm.trans hf) |>.symm
  obtain rfl : fn = Tryz.f4 := (Option.some.inj (Tryz.func4.symm.trans hfn)).symm
  refine ⟨by kernel_rfl, fun j t ht => ?_⟩
  rw [Tryz.params4] at ht
  have hm := Array.mem_of_getElem? ht
  have h : t = 37 ∨ t = 9 := by simpa using hm
  rcases h with rfl | rfl
  · exact (show Tryz.prog.wantsStandIn 37 = false by kernel_rfl)
  · exact (show Tryz.prog.wantsStandIn 9 = false by kernel_rfl)
end Go.Proofs.YtgoeedohgomodaaGreatDoor.routePlaces
namespace Go.Proofs.YtgoeedohgomodaaGreatDoor
set_option maxHeartbeats 40000000 in
/-- The card of the second form. -/
theorem routePlaces_card : Rows.RoutePlacesUptoCardSaid :=
  Claim7.holds_tied_plain_at .later [] _ _ _ _ routePlaces.saidUpto (fun _ h => by cases h) (by as_aux_lemma => kernel_rfl) (fun _ h => by cases h) routePlacesUpto_row_tie rfl ⟨rfl, rfl⟩ (by as_aux_lemma => kernel_rfl) rfl routePlaces.plain (by as_aux_lemma => kernel_rfl)
end Go.Proofs.YtgoeedohgomodaaGreatDoor
