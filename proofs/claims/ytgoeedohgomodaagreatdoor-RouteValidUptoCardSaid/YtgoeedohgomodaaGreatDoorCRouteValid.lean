/- PROVED: every plan that Expand returns is valid, has no active leg, and begins and ends at the places of the route, and each argument reads behind the call as before: the card of the second form (what is read is of bulk at most 1048576). Its conditions: none of mine. -/
import Derived.Test.YtgoeedohgomodaaGreatDoorPk35
import Derived.Test.YtgoeedohgomodaaGreatDoorPk49
import Derived.Test.YtgoeedohgomodaaGreatDoorPk46
import Derived.Test.YtgoeedohgomodaaGreatDoorPk06
import Derived.Test.YtgoeedohgomodaaGreatDoorPk20
import Derived.Test.YtgoeedohgomodaaGreatDoorPk14
import Derived.Test.YtgoeedohgomodaaGreatDoorPk18
import Derived.Test.YtgoeedohgomodaaGreatDoorCards
import Derived.Test.YtgoeedohgomodaaGreatDoorTie
import Derived.Deep.DeepWitnessRowRef
import Derived.Lay
import Derived.WalkKit
import Derived.ProofKit
namespace Go.Proofs.YtgoeedohgomodaaGreatDoor
open Go.RowKit Go.Sort
set_option linter.unusedVariables false
set_option linter.unusedSimpArgs false
set_option maxRecDepth 100000
def RetBoo (w : World) (e : Ending) (w' : World) : Prop := ∃ b : Bool, e = .returned (.bool b) ∧ Below w.heap.size w w'
theorem callBoo {P : Program} {f : FuncId} {args : Array Value} {W : World} {K : Ending → World → Prop} (h : Calls P f args W (RetBoo W)) (k : ∀ b w', Below W.heap.size W w' → K (.returned (.bool b)) w') : Calls P f args W K :=
  h.mono fun e w' ⟨b, he, hb⟩ => by subst he; exact k b w' hb
attribute [local go_sem] awyArr_ones awyArr_sz awyArr_fits awyArr_splice
set_option maxHeartbeats 4000000 in
theorem few22_any (d : DBs) (G : GDB) (s : List UInt8) (hs : s.length ≤ 4000000) (w : World) (hD : GdAt w d G) : Calls Tryz.prog 14 #[.agg d.cells, .string ⟨s.toArray⟩] w (RetBoo w) := by
  obtain ⟨A, c, h7, hlc, hA⟩ := hD.air
  obtain ⟨A8, c8, h8, hl8, _⟩ := hD.prc
  have h6 := hD.db.ok.c6
  have hn := hD.airN
  have hn6 : d.fn ≤ 9000000000 := by rw [hD.db.fn]; exact hD.db.len
  have hn8 := hD.prcN
  clear hD
  generalize d.cells = cs at *
  generalize G.airways = l at *
  generalize G.procs.length = n8 at *
  generalize d.fa = A6 at *
  generalize d.fc = c6 at *
  generalize d.fn = n6 at *
  go_enter Tryz.func14, Tryz.ntmps14
  go_upto_region 1 with (fail)
  have X0 : Blk (w.alloc (.cells cs 37)) w.heap.size cs := Blk.new w _ _
  have B0 := alloc_below3 w (.cells cs 37)
  generalize w.alloc _ = W at X0 B0 ⊢
  generalize w.heap.size = g0 at X0 ⊢
  have k6 : W.cell? ⟨g0, 6, none⟩ = some (.slice A6 n6 c6) := (X0.cell 6).trans h6
  have k7 : W.cell? ⟨g0, 7, none⟩ = some (.slice A l.length c) := (X0.cell 7).trans h7
  have k8 : W.cell? ⟨g0, 8, none⟩ = some (.slice A8 n8 c8) := (X0.cell 8).trans h8
  have HA := Lib.hid (fun (W' : World) (B : Below W.heap.size W W') => hA.below (below_step B0 B))
  have HLC := Lib.hid hlc
  clear h6 h7 h8 hA X0
  by_cases a0 : (2000 : Int) < (s.length : Int)
  · go_wp2
    go_ret
    exact ⟨_, rfl, B0⟩
  by_cases a1 : (400 : Int) < (n6 : Int)
  · go_wp2
    go_ret
    exact ⟨_, rfl, B0⟩
  by_cases a2 : (60 : Int) < (l.length : Int)
  · go_wp2
    go_ret
    exact ⟨_, rfl, B0⟩
  by_cases a3 : (60 : Int) < (n8 : Int)
  · go_wp2
    go_ret
    exact ⟨_, rfl, B0⟩
  have HB0 := Lib.hid B0
  clear B0
  go_wp2
  go_loopw [31] (fun iv wr => ∃ k : Nat, k ≤ l.length ∧ iv = .int .i64 k ∧ Below W.heap.size W wr) (fun iv _ => l.length - (intOf iv).toNat)
  case atStart => exact ⟨0, Nat.zero_le _, rfl, Below.refl _ _⟩
  case round =>
    obtain ⟨k, hk, rfl, BW⟩ := hrel
    by_cases hlt : k < l.length
    · obtain ⟨b, off, cs', hAe, hb, hIs, hAt⟩ := (HA.out wr BW).get (Below.refl _ _) hlt
      obtain ⟨A2, c2, rfl, hl2, hI2⟩ := hAt.ex
      clear hAt
      generalize l[k] = a at *
      subst hAe
      have i1 : Has_awy wr b (off + k * 2) := ⟨_, hIs⟩
      have i2 : of_awy wr b (off + k * 2) = awyArr a A2 c2 := of_awy_eq hIs
      have hlt' : (k : Int) < (l.length : Int) := by omega
      have hkc : k < c := by have := HLC.out; omega
      clear hI2 hl2 hIs hb k6 k7 k8
      go_upto_region 6 with (fail)
      have Z := Blk.new wr (awyArr a A2 c2) 81
      have D := below_step BW (alloc_below3 wr (.cells (awyArr a A2 c2) 81))
      clear i1 i2
      generalize wr.alloc _ = W2 at Z D ⊢
      generalize wr.heap.size = g7 at Z ⊢
      have z1 : W2.cell? ⟨g7, 1, none⟩ = some (.slice A2 a.pts.length c2) := Z.cell 1
      by_cases h40 : (40 : Int) < (a.pts.length : Int)
      · go_wp2
        go_ret
        exact ⟨_, rfl, below_step HB0.out D⟩
      · go_wp2
        go_roundw
        case rel => exact ⟨k + 1, by omega, by go_num, D⟩
        case measure => simp [intOf]; omega
    · have hlt' : ¬ (k : Int) < (l.length : Int) := by omega
      go_wp2
      go_ret
      exact ⟨_, rfl, below_step HB0.out BW⟩
end Go.Proofs.YtgoeedohgomodaaGreatDoor
namespace Go.Proofs.YtgoeedohgomodaaGreatDoor
open Go.RowKit Go.Sort
set_option linter.unusedVariables false
set_option linter.unusedSimpArgs false
set_option maxRecDepth 100000
theorem routeGo_lok {G : GDB} (hG : G.short) (hN : ∀ a ∈ G.airways, a.small) {xs : List ItemV} (hs : ∀ x ∈ xs, x.short) (ws : List (List UInt8)) : ∀ (f i : Nat) {n : Nat} {l : List Entry}, LOk n l → LOk (n + 2000 * f) (routeGo (lookR G) xs ws f i l).1
  | 0, i, n, l, h => h.mono (by omega)
  | f + 1, i, n, l, h => by
    unfold routeGo
    split
    · have k := step_okL hG hN h hs (ws.getD i []) i
      split
      · exact k.mono (by omega)
      · exact (routeGo_lok hG hN hs ws f _ k).mono (by omega)
    · exact h.mono (by omega)
theorem expandS_small {G : GDB} (hG : G.short) (hN : ∀ a ∈ G.airways, a.small) {s : List UInt8} (hs : s.length ≤ 4000000) (h : (expandS (lookR G) s).2 = 0) : (expandS (lookR G) s).1.1.small := by
  have hl := (parse_ok (expandS_parse h)).2.1
  have hxl : (routeParse s).1.1.length ≤ 124 := routeParse_len (expandS_parse h)
  rw [expandS_plan h]
  have k := routeGo_lok hG hN (route_short hs) (splitC 32 s) (routeParse s).1.1.length 0 LOk.nil
  have hm : ∀ (x : Option (List UInt8)), (∀ y, x = some y → y ∈ splitC 32 s) → (x.getD []).length ≤ 4000000000 := by
    intro x hx
    cases x with
    | none => simp
    | some y => exact Nat.le_trans (splitC_memR 32 s y (hx y rfl)) (by omega)
  refine ⟨?_, ?_, Nat.le_trans k.len (by omega), k.small⟩
  · show ((splitC 32 s).headD []).length ≤ _
    rw [headD_at]
    exact hm _ fun y hy => List.mem_of_getElem? hy
  · show ((splitC 32 s).getLastD []).length ≤ _
    rw [getLastD_at]
    exact hm _ fun y hy => List.mem_of_getElem? hy
theorem callStrsV {P : Program} {f : FuncId} {args : Array Value} {W : World} {ss : List (List UInt8)} {K : Ending → World → Prop} (h : Calls P f args W (RetStrs W ss)) (k : ∀ v w', SOut W w' v ss → Below W.heap.size W w' → K (.returned v) w') : Calls P f args W K :=
  h.mono fun e w' ⟨v, he, hO, hB⟩ => by subst he; exact k v w' hO hB
set_option maxHeartbeats 16000000 in
theorem lawRtValid_any (d : DBs) (G : GDB) (s : List UInt8) (w : World) (hL : Laid w) (hD : GdAt w d G) (hS : G.short) (hs : s.length ≤ 4000000) :
    Calls Tryz.prog 7 #[.agg d.cells, .string ⟨s.toArray⟩] w (Ret w (.bool true)) := by
  have hsz := hD.db.ok.size
  have KA := Lib.hid (fun W (b : Below w.heap.size w W) => awake22_any W (hL.below b))
  have KF := Lib.hid (fun W (b : Below w.heap.size w W) => few22_any d G s hs W (hD.below b))
  have KE := Lib.hid (fun W (b : Below w.heap.size w W) => rexpand_any d G s hs W (hL.below b) (hD.below b) hS)
  have KP := Lib.hid (fun p (hp : p.length ≤ 4000000000) W (b : Below w.heap.size w W) => placeg_any d G.fixes p W (hL.below b) hp (hD.db.below b))
  have HV := Lib.hid (fun h => @route_valid (lookR G) s h)
  have HZ := Lib.hid (fun h => @route_none (lookR G) s h)
  have HSM := Lib.hid (fun h => @expandS_small G hS hD.airS s hs h)
  have HLB := Lib.hid (fun W (b : Below w.heap.size w W) => hL.below b)
  have HPL := Lib.hid (show ∀ q, (lookR G).place q = placeG G.fixes q from fun q => rfl)
  generalize expandS (lookR G) s = R at *
  obtain ⟨⟨p, pj⟩, pe⟩ := R
  dsimp only at HV HZ HSM
  generalize d.cells = cs at *
  clear hL hD
  go_enter Tryz.func7, Tryz.ntmps7
  go_upto_region 1 with (fail)
  have D0 := Blk.new w cs 37
  have B0 := alloc_belowR w (.cells cs 37)
  generalize w.alloc _ = W at D0 B0 ⊢
  obtain ⟨gd, hgd⟩ : ∃ g, g = w.heap.size := ⟨_, rfl⟩
  rw [← hgd] at D0 ⊢
  clear hgd
  go_upto_region 3 with (go_at_call 10; (with_reducible refine callR (KA.out _ B0) ?_); intro w1 b1 _ _ _)
  have D1 := D0.step b1
  have B1 := below_step B0 b1
  have k1 : Has_db w1 gd 0 := ⟨_, D1.is_db hsz⟩
  have k2 : of_db w1 gd 0 = cs := of_db_eq (D1.is_db hsz)
  clear D0 B0 b1 KA
  go_upto_if 18 with (go_at_call 14; (with_reducible refine callBoo (KF.out _ B1) ?_); intro bf w2 b2)
  have D2 := D1.step b2
  have B2 := Lib.hid (below_step B1 b2)
  clear D1 B1 b2 k1 k2 KF
  cases bf with
  | false =>
    go_wp2
    go_ret
    exact Ret.bool rfl B2.out
  | true =>
  have k1 : Has_db w2 gd 0 := ⟨_, D2.is_db hsz⟩
  have k2 : of_db w2 gd 0 = cs := of_db_eq (D2.is_db hsz)
  have HD2 := Lib.hid D2
  have ke := Lib.hid (KE.out w2 B2.out)
  clear D2 KE
  go_upto_region 6 with (go_at_call 17; (with_reducible refine callEx ke.out ?_); intro A3 c3 w3 hc3 E3 b3)
  have bA := alloc_belowR w3 (.cells (p.arr A3 c3) 43)
  have Q := Blk.new w3 (p.arr A3 c3) 43
  have D4 := HD2.out.step (below_step b3 bA)
  have E4 := E3.below (B := 0) bA
  have B4 := Lib.hid (below_step B2.out (below_step b3 bA))
  clear k1 k2 ke HD2 B2 b3 bA E3
  generalize w3.alloc _ = w4 at Q D4 E4 B4 ⊢
  generalize w3.heap.size = gq at Q ⊢
  by_cases hz : pe = 0
  rotate_left
  · have hz' : (pe != 0) = true := by simpa using hz
    have hp : p = plan0 := HZ.out hz
    subst hp
    have c0 : w4.cell? ⟨gq, 0, none⟩ = some (.string ⟨#[]⟩) := Q.cell 0
    have c1 : w4.cell? ⟨gq, 1, none⟩ = some (.string ⟨#[]⟩) := Q.cell 1
    have c2 : w4.cell? ⟨gq, 2, none⟩ = some (.slice A3 0 c3) := Q.cell 2
    clear hz HV HZ HSM
    go_wp2
    go_ret
    exact Ret.bool rfl B4.out
  subst hz
  obtain ⟨v1, v2, v3, v4, ⟨rest, v5⟩, v6, v7, v8, v9⟩ := HV.out rfl
  have hsm := HSM.out rfl
  clear HV HZ HSM
  rw [HPL.out] at v3 v4 v5 v6
  have kp1 := Lib.hid (KP.out p.from_ hsm.from_)
  have kp2 := Lib.hid (KP.out p.to_ hsm.to_)
  rw [v3] at kp1
  rw [v4] at kp2
  generalize (placeG G.fixes p.from_).1 = fr at *
  generalize (placeG G.fixes p.to_).1 = tr at *
  have HQ := Lib.hid Q
  have HD4 := Lib.hid D4
  have HE4 := Lib.hid E4
  have HSM := Lib.hid hsm
  have k1 : Has_db w4 gd 0 := ⟨_, D4.is_db hsz⟩
  have k2 : of_db w4 gd 0 = cs := of_db_eq (D4.is_db hsz)
  have c0 : w4.cell? ⟨gq, 0, none⟩ = some (.string ⟨p.from_.toArray⟩) := Q.cell 0
  have HV5 := Lib.hid v5
  have HV6 := Lib.hid v6
  have HV1 := Lib.hid v1
  have HV2 := Lib.hid v2
  have HV8 := Lib.hid v8
  have HV9 := Lib.hid v9
  have h6 : p.es.length ≤ 9000000 := by have := (planChk_ok v2).2.1; omega
  clear Q D4 E4 hsm v1 v2 v3 v4 v5 v6 v8 v9
  go_upto_region 9 with (go_at_call 15; (with_reducible refine callR (kp1.out w4 B4.out) ?_); intro w5 b5 _ _ _)
  have B5 := Lib.hid (below_step B4.out b5)
  have Q5 := HQ.out.step b5
  have D5 := HD4.out.step b5
  clear k1 k2 c0 kp1
  have k1 : Has_db w5 gd 0 := ⟨_, D5.is_db hsz⟩
  have k2 : of_db w5 gd 0 = cs := of_db_eq (D5.is_db hsz)
  have c1 : w5.cell? ⟨gq, 1, none⟩ = some (.string ⟨p.to_.toArray⟩) := Q5.cell 1
  have HQ5 := Lib.hid Q5
  clear Q5 D5
  go_upto_region 10 with (go_at_call 15; (with_reducible refine callR (kp2.out w5 B5.out) ?_); intro w6 b6 _ _ _)
  have B6 := Lib.hid (below_step B5.out b6)
  have Q6 := HQ5.out.step b6
  have E6 := HE4.out.below (B := 0) (below_step b5 b6)
  clear k1 k2 c1 kp2 HQ5
  have i1 : Has_plan w6 gq 0 := ⟨_, Q6.is_plan rfl⟩
  have i2 : of_plan w6 gq 0 = p.arr A3 c3 := of_plan_eq (Q6.is_plan rfl)
  have kx := Lib.hid (show Calls Tryz.prog 22 #[.agg (p.arr A3 c3)] w6 (RetStrs w6 (fixesGo p.es)) from fixes_any p A3 c3 w6 h6 hc3 E6)
  rw [HV5.out] at kx
  have HQ6 := Lib.hid Q6
  have HE6 := Lib.hid E6
  clear Q6 E6
  go_upto_region 11 with (go_at_call 22; (with_reducible refine callStrsV kx.out ?_); intro v7 w7 O7 b7)
  obtain ⟨A7, c7, hv7, hl7, hS7⟩ := O7.form
  subst hv7
  have B7 := Lib.hid (below_step B6.out b7)
  have Q7 := HQ6.out.step b7
  have E7 := HE6.out.below (B := 0) b7
  obtain ⟨b9, o9, hA7, _, hc9⟩ := hS7.at_ (by simp)
  subst hA7
  have e7 : w7.cell? ⟨b9, o9, none⟩ = some (.string ⟨fr.toArray⟩) := hc9 0 fr rfl
  have kc := Lib.hid (show Calls Tryz.prog 23 #[.agg (p.arr A3 c3)] w7 (Ret w7 (.int .i64 (planCheck p))) from planCheck_any p A3 c3 w7 (HLB.out w7 B7.out) HSM.out hc3 E7)
  rw [HV2.out] at kc
  clear i1 i2 kx hc9 hS7
  have i1 : Has_plan w7 gq 0 := ⟨_, Q7.is_plan rfl⟩
  have i2 : of_plan w7 gq 0 = p.arr A3 c3 := of_plan_eq (Q7.is_plan rfl)
  have HQ7 := Lib.hid Q7
  have HE7 := Lib.hid E7
  have hlen7 : 0 < (fr :: rest).length := by simp
  have hc7 : 0 < c7 := by simp at hl7; omega
  go_upto_region 13 with (go_at_call 23; (with_reducible refine callR kc.out ?_); intro w8 b8 _ _ _; have c3' : w8.cell? ⟨gq, 3, none⟩ = some (.int .i64 (-1)) := by rw [(HQ7.out.step b8).cell 3, ← HV1.out]; rfl)
  have Q8 := HQ7.out.step b8
  have B8 := Lib.hid (below_step B7.out b8)
  have E8 := HE7.out.below (B := 0) b8
  have kf := Lib.hid (fun W' (D : Below w8.heap.size w8 W') => show Calls Tryz.prog 24 #[.agg (p.arr A3 c3), .int .i64 0, .string ⟨tr.toArray⟩] W' (Ret W' (.int .i64 (findE p 0 tr))) from find_any p A3 c3 0 tr W' HSM.out hc3 (E8.below (B := 0) D))
  have v6 := HV6.out
  generalize findE p 0 tr = fi at *
  have IS := Lib.hid (fun W' (D : Below w8.heap.size w8 W') => show (Has_plan W' gq 0 ∧ of_plan W' gq 0 = p.arr A3 c3) ∧ W'.cell? ⟨gq, 0, none⟩ = some (.string ⟨p.from_.toArray⟩) ∧ W'.cell? ⟨gq, 1, none⟩ = some (.string ⟨p.to_.toArray⟩) from
    ⟨⟨⟨_, (Q8.step D).is_plan rfl⟩, of_plan_eq ((Q8.step D).is_plan rfl)⟩, (Q8.step D).cell 0, (Q8.step D).cell 1⟩)
  have g1 : (s.take p.from_.length == p.from_) = true := by rw [HV8.out]; simp
  have g2 : (s.drop (s.length - p.to_.length) == p.to_) = true := by rw [HV9.out]; simp
  have w1 : IntKind.i64.wrap ((p.from_.length : Int) + 1) = (p.from_.length : Int) + 1 := IntWalk.i64_in _ (by omega)
  have w2' : IntKind.i64.wrap ((p.from_.length : Int) + 1 + (p.to_.length : Int)) = (p.from_.length : Int) + 1 + (p.to_.length : Int) := IntWalk.i64_in _ (by omega)
  have w3' : IntKind.i64.wrap ((s.length : Int) - (p.to_.length : Int)) = (s.length : Int) - (p.to_.length : Int) := IntWalk.i64_in _ (by omega)
  have t1 : ((s.length : Int) - (p.to_.length : Int)).toNat = s.length - p.to_.length := by omega
  have n1 : (p.from_.length : Int) + 1 + (p.to_.length : Int) ≤ (s.length : Int) := by omega
  have n2 : (0 : Int) ≤ (s.length : Int) - (p.to_.length : Int) := by omega
  have n3 : (s.length : Int) - (p.to_.length : Int) ≤ (s.length : Int) := by omega
  have n4 : (p.from_.length : Int) ≤ (s.length : Int) := by omega
  have n5 : p.from_.length ≤ s.length := by omega
  have n7 : (p.to_.length : Int) ≤ (s.length : Int) := by omega
  have n8 : wrap64 ((s.length : Int) - (p.to_.length : Int)) = (s.length : Int) - (p.to_.length : Int) := IntWalk.wrap64_in _ (by omega)
  have n9 : ¬ ((s.length : Int) < (s.length : Int) - (p.to_.length : Int)) := by omega
  have n10 : p.to_.length ≤ s.length := by omega
  have n6 : s.length - p.to_.length ≤ s.length := by omega
  clear HV5 HV6 HV1 HV2 HV8 HV9 HQ7 HE7 Q8 E8 i1 i2 c3' kc e7 hlen7 hc7
  go_region_held3 (fun W' => (Has_plan W' gq 0 ∧ of_plan W' gq 0 = p.arr A3 c3) ∧ W'.cell? ⟨gq, 0, none⟩ = some (.string ⟨p.from_.toArray⟩) ∧ W'.cell? ⟨gq, 1, none⟩ = some (.string ⟨p.to_.toArray⟩))
    ((refine IS.out _ ?_; repeat' (first | assumption | omega | (refine Below.alloc ?_ ?_ _) | (refine Below.drew ?_) | exact Below.refl _ _ | (simp; done) | (simp; omega))))
    ((go_at_call 24; (with_reducible refine callR (kf.out _ (by repeat' (first | assumption | (refine Below.drew ?_) | exact Below.refl _ _))) ?_); intro w9 b9 _ _ _; have f9 : Below w8.heap.size w8 w9 := below_drewO b9))
  all_goals
    go_wp2
    go_ret
    exact Ret.bool rfl (below_step B8.out f9)
end Go.Proofs.YtgoeedohgomodaaGreatDoor
namespace Go.Proofs.YtgoeedohgomodaaGreatDoor
open Go.RowKit Go.ChangeShapes Go.WideShapes Go.Deep
set_option linter.unusedVariables false
set_option linter.unusedSimpArgs false
section
variable {H : Type} {enc : TypeId × Value → H} {w : World} {base : Nat} {spare : Nat → Bool} {held : Bool}
set_option maxRecDepth 100000 in
theorem open_gdbT {r : Reach} {b0 : Nat} {v : Value} {d : DataW H} {ps : List MemPlace} (hv : Value.okWide Tryz.prog w r b0 37 v) (h : DataW.Trod enc Tryz.prog w base spare held 37 v d ps) (hN : Rows.uptoBulk d ≤ 4000000) :
    ∃ (db : DBs) (G : GDB), v = .agg db.cells ∧ GdAt w db G ∧ G.short := by
  obtain ⟨cs, rfl, hsz⟩ := okWide_struct Tryz.underlying37 hv
  obtain ⟨fuel, hf⟩ := h
  have hvc : (Value.agg cs).cells.toList = cs.toList := rfl
  rw [hvc] at hf
  obtain ⟨db, G, e, hg, hs⟩ := open_gdb hf hN
  exact ⟨db, G, by rw [Array.toList_inj.1 e], hg, hs⟩
end
end Go.Proofs.YtgoeedohgomodaaGreatDoor
namespace Go.Proofs.YtgoeedohgomodaaGreatDoor
open Go.RowKit Go.ChangeShapes Go.WideShapes Go.Deep
set_option linter.unusedVariables false
set_option linter.unusedSimpArgs false
theorem laid22_of {W : World} {l : List (String × DataW Unit)} (h : laidMet Tryz.prog l W) (hsh : W.ShapedOpen Tryz.prog) (h1 : ("flightdeck/leg.uses", Lib.tabData .u16 usesTab) ∈ l) : Laid W := by
  obtain ⟨ps, hv, _, _⟩ := h
  have t1 := tab_of hv gUses (t := 194) (by kernel_rfl) Tryz.underlying194 Tryz.underlying193 (by kernel_rfl) (by kernel_rfl) h1
  exact ⟨fun k hk => t1.cell gUses k hk, Go.Proofs.cell_of_shapedOpen_int (zero := #[.int .i64 0]) (t := 3) hsh (of_decide_eq_true (by kernel_rfl)) (by kernel_rfl) rfl (by kernel_rfl) (by kernel_rfl) Tryz.underlying3⟩
end Go.Proofs.YtgoeedohgomodaaGreatDoor
namespace Go.Proofs.YtgoeedohgomodaaGreatDoor.routeValid
open Go.ChangeShapes Go.WideShapes Go.ChangeAt Go.RowKit
set_option linter.unusedVariables false
set_option linter.unusedSimpArgs false
theorem own : ownKnob Tryz.prog.godebug = none := by kernel_rfl
theorem laidOut : laidOutB Tryz.prog = true := by kernel_rfl
theorem opens {W : World} (h : laidMetH Tryz.prog Rows.routeValidUptoRow.laid W) (hsh : W.ShapedOpen Tryz.prog) : Laid W :=
  laid22_of (l := Rows.routeValidUptoRow.laid) h hsh (by first | exact List.mem_of_getElem? (i := 0) rfl | exact List.mem_of_getElem? (i := 1) rfl | exact List.mem_of_getElem? (i := 2) rfl | exact List.mem_of_getElem? (i := 3) rfl | exact List.mem_of_getElem? (i := 4) rfl | exact List.mem_of_getElem? (i := 5) rfl | exact List.mem_of_getElem? (i := 6) rfl | exact List.mem_of_getElem? (i := 7) rfl | exact List.mem_of_getElem? (i := 8) rfl | exact List.mem_of_getElem? (i := 9) rfl | exact List.mem_of_getElem? (i := 10) rfl | exact List.mem_of_getElem? (i := 11) rfl | exact List.mem_of_getElem? (i := 12) rfl | exact List.mem_of_getElem? (i := 13) rfl)
set_option maxRecDepth 100000 in
theorem contract (H : Type) (enc : TypeId × Value → H) (W : World) (base : Nat) (args : Array Value) (ds gs : List (DataW H)) (before : List MemPlace)
    (hval : ∀ (j : Nat) t v, Tryz.f7.params[j]? = some t → args[j]? = some v → Value.okWide Tryz.prog W .any base t v)
    (hW : DataW.Whole enc Tryz.prog Tryz.f7.params.toList Rows.routeValidSpec.vars false W args.toList ds gs before) (hL : laidMetH Tryz.prog Rows.routeValidUptoRow.laid W) (hsh : W.ShapedOpen Tryz.prog) (hk : Rows.uptoSmall H (ds ++ gs) = true) :
    Calls Tryz.prog 7 args W fun e W' => ∃ v, e = .returned v ∧ Rows.routeValidSpec.post enc Tryz.prog Tryz.f7 false true false false W args v W' := by
  have OP := opens hL hsh
  have hW' := hW
  obtain ⟨p, q, hA0, hV, rfl, hfz, hnd⟩ := hW
  have hA : DataW.TrodAll enc Tryz.prog W 0 (fun _ => true) true Tryz.f7.params.toList args.toList ds p := hA0
  rw [Tryz.params7] at hA hval
  obtain ⟨v0, vs0, d0, ds0, pl0, ql0, hargs, rfl, rfl, h0, r0⟩ := trodAll_cons hA
  obtain ⟨v1, vs1, d1, ds1, pl1, ql1, rfl, rfl, rfl, h1, r1⟩ := trodAll_cons r0
  obtain ⟨rfl, rfl, rfl⟩ := trodAll_nil r1
  obtain rfl : args = #[v0, v1] := by cases args; simp_all
  obtain ⟨rfl, rfl⟩ := trodVars_none hV
  have hb := of_decide_eq_true hk
  simp only [List.append_nil, Rows.uptoBulkAll] at hb
  have hk0 := h0
  obtain ⟨d0, G0, rfl, D0, S0⟩ := open_gdbT (hval 0 37 v0 rfl rfl) h0 (by omega)
  have hk1 := h1
  obtain ⟨s1, rfl, sl1⟩ := open_strX (hval 1 9 v1 rfl rfl) h1
  have walk := lawRtValid_any d0 G0 s1 W OP D0 S0 (by omega)
  refine walk.mono fun e W' ⟨he, hg⟩ => ?_
  subst he
  have hl0 : ∀ x ∈ pl0, x.block < W.heap.size := fun x hx => by simpa using hW'.lt x (by simp [hx])
  have hl1 : ∀ x ∈ pl1, x.block < W.heap.size := fun x hx => by simpa using hW'.lt x (by simp [hx])
  refine ⟨_, rfl, _, _, _, [], (pl0 ++ (pl1 ++ [])), [], hW', ?_, ?_, rfl, ?_, fun h => by cases h⟩
  · exact trodAll_cons_mk (shut_bool Tryz.underlying4 _) trodAll_mk0
  · exact (trodAll_cons_mk (Below.trod laidOut (by kernel_rfl) (of_decide_eq_true (by kernel_rfl)) hk0 hg hl0) (trodAll_cons_mk (Below.trod laidOut (by kernel_rfl) (of_decide_eq_true (by kernel_rfl)) hk1 hg hl1) trodAll_mk0))
  · exact hg.frame _
theorem reads (os : Os) {H : Type} (enc : TypeId × Value → H) : ∃ places, DataW.whole enc Tryz.prog ((World.laidAll Tryz.prog os Rows.routeValidUptoRow.laid).forCall (fun _ _ => 0) ⟨#[], #[.agg #[.string ⟨#[]⟩, .int .i64 0, .int .i64 0, .int .i64 0, .int .i64 0, .int .i64 0, .slice none 0 0, .slice none 0 0, .slice none 0 0], .string ⟨#[]⟩], []⟩).memory Tryz.f7.params.toList Rows.routeValidSpec.vars false (#[.agg #[.string ⟨#[]⟩, .int .i64 0, .int .i64 0, .int .i64 0, .int .i64 0, .int .i64 0, .slice none 0 0, .slice none 0 0, .slice none 0 0], .string ⟨#[]⟩] : Array Value).toList 8 = some ([.agg [.agg [.lit (.string []), .lit (.int .i64 0), .lit (.int .i64 0), .lit (.int .i64 0), .agg [.lit (.int .i64 0), .lit (.int .i64 0)]], .nil, .nil, .nil], .lit (.string [])], [], places) :=
  ⟨[], by kernel_rfl⟩
set_option maxRecDepth 100000 in
theorem liftedUpto (os : Os) (started : os.Started) (H : Type) (enc : TypeId × Value → H) (F : Stop.Interp) :
    ReturnsInHanded {} Tryz.checked os 7 .any ((Rows.OpenSpec.upto Rows.routeValidSpec).preRow enc Tryz.prog Tryz.f7 Rows.routeValidUptoRow.domain false Rows.routeValidUptoRow.laid) (((Rows.OpenSpec.upto Rows.routeValidSpec).at F).post enc Tryz.prog Tryz.f7 false true false false) := by
  obtain ⟨places, hx⟩ := reads os enc
  refine returnsInHanded_of_row (C := Tryz.checked) (s := Rows.OpenSpec.upto Rows.routeValidSpec) own started (by kernel_rfl) Tryz.func7
    (witness_row_atRef (enc := enc) (C := Tryz.checked) false (World.laidAll Tryz.prog os Rows.routeValidUptoRow.laid) #[.agg #[.string ⟨#[]⟩, .int .i64 0, .int .i64 0, .int .i64 0, .int .i64 0, .int .i64 0, .slice none 0 0, .slice none 0 0, .slice none 0 0], .string ⟨#[]⟩] (World.laidAll_os _ _ _) (by kernel_rfl) (by kernel_rfl) (by kernel_rfl)
      (OpenSpec.preRow_of_cond 8 hx (by kernel_rfl) (fun k hk => by cases hk; kernel_rfl) (by kernel_rfl) (laidMet_laidAll _ (by kernel_rfl) (by kernel_rfl)))) ?_
  intro W base args ds gs before hval hW _ hcond _ hL hsh _
  exact contract H enc W base args ds gs before hval hW hL hsh (hcond _ rfl)
set_option maxHeartbeats 40000000 in
theorem saidUpto : Rows.RouteValidUptoSaid :=
  OpenClaim.holds_of_cond 7 Tryz.f7 rfl rfl rfl rfl rfl rfl rfl ⟨rfl, rfl, rfl, rfl, rfl⟩ rfl rfl rfl rfl rfl (by as_aux_lemma => kernel_rfl) Tryz.func7 (by
      unfold joinedFacts
      simp only [Bool.and_eq_true]
      repeat' apply And.intro
      all_goals (as_aux_lemma => kernel_rfl))
    (of_decide_eq_true (by as_aux_lemma => kernel_rfl)) (by unfold Func.isWrapper; first | (rw [if_pos (by decide +kernel)]; kernel_rfl) | (rw [if_neg (by decide +kernel)]; exact ⟨rfl, rfl⟩))
    (fun os started H enc _ F => by rw [OpenClaim.pre_eq_preRow]; exact liftedUpto os started H enc F)
theorem plain (f : FuncId) (fn : Func) (hf : Tryz.pinned.checked.prog.funcNamed "flightdeck/flightdecklaw22.RouteValid" = some f) (hfn : Tryz.pinned.checked.prog.funcs[f]? = some fn) :
    false = Tryz.pinned.checked.prog.looks [] ∧ ∀ (j : Nat) t, fn.params[j]? = some t → Tryz.pinned.checked.prog.wantsStandIn t = false := by
  obtain rfl : f = 7 := Option.some.inj ((show Tryz.prog.funcNamed "flightdeck/flightdecklaw22.RouteValid" = some 7 by kernel_rfl).symm.trans hf) |>.symm
  obtain rfl : fn = Tryz.f7 := (Option.some.inj (Tryz.func7.symm.trans hfn)).symm
  refine ⟨by kernel_rfl, fun j t ht => ?_⟩
  rw [Tryz.params7] at ht
  have hm := Array.mem_of_getElem? ht
  have h : t = 37 ∨ t = 9 := by simpa using hm
  rcases h with rfl | rfl
  · exact (show Tryz.prog.wantsStandIn 37 = false by kernel_rfl)
  · exact (show Tryz.prog.wantsStandIn 9 = false by kernel_rfl)
end Go.Proofs.YtgoeedohgomodaaGreatDoor.routeValid
namespace Go.Proofs.YtgoeedohgomodaaGreatDoor
set_option maxHeartbeats 40000000 in
/-- The card of the second form. -/
theorem routeValid_card : Rows.RouteValidUptoCardSaid :=
  Claim7.holds_tied_plain_at .later [] _ _ _ _ routeValid.saidUpto (fun _ h => by cases h) (by as_aux_lemma => kernel_rfl) (fun _ h => by cases h) routeValidUpto_row_tie rfl ⟨rfl, rfl⟩ (by as_aux_lemma => kernel_rfl) rfl routeValid.plain (by as_aux_lemma => kernel_rfl)
end Go.Proofs.YtgoeedohgomodaaGreatDoor
