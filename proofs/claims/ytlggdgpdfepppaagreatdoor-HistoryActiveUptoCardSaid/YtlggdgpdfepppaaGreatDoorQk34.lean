/- The entry 'to' of the statements, and rows of entries in memory. edit: DeleteEntry, DirectTo; walks. edit: DirectTo; walks. edit: a field set; walks. edit: InsertHold; walks. -/
import Derived.Test.YtlggdgpdfepppaaGreatDoorQk20
import Derived.Test.YtlggdgpdfepppaaGreatDoorQk12
import Derived.Test.YtlggdgpdfepppaaGreatDoorQk17
import Derived.Test.YtlggdgpdfepppaaGreatDoorQk33
import Derived.Test.YtlggdgpdfepppaaGreatDoorQk14
import Derived.Test.YtlggdgpdfepppaaGreatDoorQk32
namespace Go.Proofs.YtlggdgpdfepppaaGreatDoor
open Go.RowKit Go.Sort
set_option linter.unusedVariables false
set_option linter.unusedSimpArgs false
def toE (t : Int) (fix : List UInt8) : Entry := ⟨false, ⟨t, fix, [], 0, false, 0, 0, 0, 0, -200000, 6000000, 0, 0⟩, 0, 0, 0, 0, 2, []⟩
theorem results_ent1 {fn : Func} {p : Tmp} (h : fn.results = #[.cell p 82]) (tmps : Array Value) (w : World) (g : Nat) (x : Entry) (hp : tmps.getD p undef = .pointer (some ⟨g, 0, none⟩)) (hx : Is_ent w g 0 x) :
    (results fn tmps).run Tryz.prog w = .ok (.agg x.arr) w := by
  have hp' : tmps[p]?.getD undef = .pointer (some ⟨g, 0, none⟩) := by simpa using hp
  have hl := run_load_agg (P := Tryz.prog) w ⟨g, 0, none⟩ 82 x.arr.toList _ (fun j v hv => by
    rw [addr_add, hx j (by have := (List.getElem?_eq_some_iff.1 hv).1; simpa [Entry.arr_size] using this)]
    simpa using hv) Tryz.underlying82 rfl info_ent
  simp [results, h, hp', asAddr, hl]
theorem Blk.ents {W : World} {g : Nat} {l : List Entry} (h : Blk W g (cellsOf l).toArray) : Ents W (some ⟨g, 0, none⟩) l :=
  ⟨fun _ => ⟨g, 0, rfl, h.lt, fun i x hx j hj => by rw [h.cell, Nat.zero_add]; simpa using cellsOf_at l i x hx j hj⟩⟩
def bs3 (parts : Array (Nat × Value)) : Sem Value := Instr.buildSlice 22 3 parts
theorem bs3_fold (parts : Array (Nat × Value)) : Instr.buildSlice 22 3 parts = bs3 parts := rfl
theorem run_bs3 (w : World) (x y z : Entry) : (bs3 #[(0, .agg x.arr), (1, .agg y.arr), (2, .agg z.arr)]).run Tryz.prog w = .ok (.slice (some ⟨w.heap.size, 0, none⟩) 3 3) (w.alloc (.cells (cellsOf [x, y, z]).toArray 82)) := by
  obtain ⟨i0, hi, hz0, hz1, hz2⟩ := info_parts info_ent_all
  refine run_buildSlice w 22 82 3 #[(0, .agg x.arr), (1, .agg y.arr), (2, .agg z.arr)] (cellsOf [x, y, z]).toArray i0 _ Tryz.underlying22 hi hz0 (by rw [hz1]; decide) (by rw [hz1]; decide) ?_
  rw [hz1]
  kernel_rfl
theorem run_bs2' (w : World) (x y : Entry) : (bs2 #[(0, .agg x.arr), (1, .agg y.arr)]).run Tryz.prog w = .ok (.slice (some ⟨w.heap.size, 0, none⟩) 2 2) (w.alloc (.cells (cellsOf [x, y]).toArray 82)) := by
  have h : x.arr ++ y.arr = (cellsOf [x, y]).toArray := by simp [cellsOf]
  rw [run_bs2, h]
end Go.Proofs.YtlggdgpdfepppaaGreatDoor
namespace Go.Proofs.YtlggdgpdfepppaaGreatDoor
open Go.RowKit Go.Sort
set_option linter.unusedVariables false
set_option linter.unusedSimpArgs false
set_option maxRecDepth 100000
def RetRun (w : World) (g : Nat) (x : Edr) (r : EdR) (e : Ending) (W' : World) : Prop :=
  e = .returned (.int .i64 r.err) ∧ Below w.heap.size w W' ∧ (r.err = 0 → ∃ v', Ed w W' g { x with p := ⟨r.from_, r.to_, x.p.es, r.active⟩, v := v' } r.list)
theorem callPut {P : Program} {f : FuncId} {args : Array Value} {w W : World} {g : Nat} {x : Edr} {l : List Entry} {K : Ending → World → Prop} (h : Calls P f args W (RetPut w W g x l))
    (k : ∀ v' W', Ed w W' g { x with v := v' } l → Keep g W x.v W' v' → K (.returned (.tuple #[])) W') : Calls P f args W K :=
  h.mono fun e W' ⟨v', he, h1, h2⟩ => by subst he; exact k v' W' h1 h2
theorem RetRun.bad {w W' : World} {g : Nat} {x : Edr} {r : EdR} {n : Int} (h : r = .bad n) (hn : n ≠ 0) (hb : Below w.heap.size w W') : RetRun w g x r (.returned (.int .i64 n)) W' := by
  subst h; exact ⟨rfl, hb, fun h => absurd h hn⟩
theorem RetRun.keep {w W' : World} {g : Nat} {x : Edr} {r : EdR} {l : List Entry} {v' : Value} (h : r = keepR x.p l) (he : Ed w W' g { x with v := v' } l) : RetRun w g x r (.returned (.int .i64 0)) W' := by
  subst h; exact ⟨rfl, he.bel, fun _ => ⟨v', he⟩⟩
theorem Ed.drw {w W : World} {g : Nat} {x : Edr} {es : List Entry} (h : Ed w W g x es) : Ed w W.drew g x es := h.step (Below.refl _ _).drew
theorem Ed.c9 {w W : World} {g : Nat} {x : Edr} {es : List Entry} (h : Ed w W g x es) : W.cell? ⟨g, 9, none⟩ = some (.string ⟨x.p.from_.toArray⟩) := h.blk.cell 9
theorem Ed.c10 {w W : World} {g : Nat} {x : Edr} {es : List Entry} (h : Ed w W g x es) : W.cell? ⟨g, 10, none⟩ = some (.string ⟨x.p.to_.toArray⟩) := h.blk.cell 10
theorem Ed.c11 {w W : World} {g : Nat} {x : Edr} {es : List Entry} (h : Ed w W g x es) : W.cell? ⟨g, 11, none⟩ = some (.slice x.A x.p.es.length x.c) := h.blk.cell 11
theorem Ed.c12 {w W : World} {g : Nat} {x : Edr} {es : List Entry} (h : Ed w W g x es) : W.cell? ⟨g, 12, none⟩ = some (.int .i64 x.p.active) := h.blk.cell 12
theorem Ed.c13 {w W : World} {g : Nat} {x : Edr} {es : List Entry} (h : Ed w W g x es) : W.cell? ⟨g, 13, none⟩ = some (.int .u8 x.e.op) := h.blk.cell 13
theorem Ed.c14 {w W : World} {g : Nat} {x : Edr} {es : List Entry} (h : Ed w W g x es) : W.cell? ⟨g, 14, none⟩ = some (.int .i64 x.e.at_) := h.blk.cell 14
theorem Ed.c15 {w W : World} {g : Nat} {x : Edr} {es : List Entry} (h : Ed w W g x es) : W.cell? ⟨g, 15, none⟩ = some (.string ⟨x.e.ref.toArray⟩) := h.blk.cell 15
theorem ents1 {W : World} {b : Nat} {x : Entry} (h : Blk W b x.arr) : Ents W (some ⟨b, 0, none⟩) [x] := by
  have e : x.arr = (cellsOf [x]).toArray := by simp [cellsOf]
  rw [e] at h
  exact h.ents
theorem GapAt.is {w : World} (h : GapAt w) : Is_ent w 3 0 gapE := fun j hj => by rw [Nat.zero_add]; exact h.gap j hj
theorem run_slE_hk (A : Option Addr) (n c k : Nat) (h : k ≤ c) (w : World) : (slE (.slice A n c) none (some (.int .i64 (k : Int)))).run Tryz.prog w = .ok (.slice (subE A 0 c) k c) w := by
  rw [run_slE_h A n c k (by omega) (by omega)]; rfl
theorem run_slE_hk1 (A : Option Addr) (n c k : Nat) (h : k + 1 ≤ c) (w : World) : (slE (.slice A n c) none (some (.int .i64 ((k : Int) + 1)))).run Tryz.prog w = .ok (.slice (subE A 0 c) (k + 1) c) w := by
  rw [run_slE_h A n c ((k : Int) + 1) (by omega) (by omega)]; congr 2
theorem run_slE_lk (A : Option Addr) (n c k : Nat) (h : k ≤ n) (w : World) : (slE (.slice A n c) (some (.int .i64 (k : Int))) none).run Tryz.prog w = .ok (.slice (subE A k c) (n - k) (c - k)) w := by
  rw [run_slE_l A n c k (by omega) (by omega)]; rfl
theorem run_slE_lk1 (A : Option Addr) (n c k : Nat) (h : k + 1 ≤ n) (w : World) : (slE (.slice A n c) (some (.int .i64 ((k : Int) + 1))) none).run Tryz.prog w = .ok (.slice (subE A (k + 1) c) (n - (k + 1)) (c - (k + 1))) w := by
  rw [run_slE_l A n c ((k : Int) + 1) (by omega) (by omega)]; rfl
attribute [local go_sem ↓] slE_fold
attribute [local go_sem] run_slE_hk run_slE_hk1 run_slE_lk run_slE_lk1
theorem entAt_drop {p : Plan} {k : Nat} (h : k < p.es.length) : p.es.drop k = entAt p k :: p.es.drop (k + 1) := by
  rw [List.drop_eq_getElem_cons h]
  congr 1
  have := entAt_get h
  rw [List.getElem?_eq_getElem h] at this
  exact Option.some.inj this
theorem Ents.ent {w : World} {A : Option Addr} {p : Plan} (h : Ents w A p.es) {k : Nat} (hk : k < p.es.length) : ∃ b off, A = some ⟨b, off, none⟩ ∧ ∀ W', Below w.heap.size w W' → Is_ent W' b (off + k * 20) (entAt p k) := by
  obtain ⟨b, off, hA, hb, hc⟩ := h.at_ (by rintro h; rw [h] at hk; simp at hk)
  refine ⟨b, off, hA, fun W' hB j hj => ?_⟩
  rw [hB.cell (p := ⟨b, _, none⟩) hb]
  exact hc k _ (entAt_get hk) j hj
theorem run_slE_l1 (A : Option Addr) (n c : Nat) (h : 1 ≤ n) (w : World) : (slE (.slice A n c) (some (.int .i64 1)) none).run Tryz.prog w = .ok (.slice (subE A 1 c) (n - 1) (c - 1)) w := by
  rw [run_slE_l A n c 1 (by omega) (by omega)]; rfl
attribute [local go_sem] run_slE_l1
theorem subE_some {b off k c : Nat} (h : c ≠ k) : subE (some ⟨b, off, none⟩) k c = some ⟨b, off + k * 20, none⟩ := by
  unfold subE
  rw [if_neg h, Option.map_some, addr_add]
theorem reopenE_no {x : Entry} {r : List Entry} (h : x.leg.ty ≠ 1) : reopenE (x :: r) = x :: r := by simp [reopenE, h]
theorem reopenE_yes {x : Entry} {r : List Entry} (h : x.leg.ty = 1) : reopenE (x :: r) = directE x :: r := by simp [reopenE, h]
set_option maxHeartbeats 8000000 in
theorem edelete_any (x : Edr) (g : Nat) (w W : World) (h : Ed w W g x []) (hE : Ents w x.A x.p.es) (hc : x.p.es.length ≤ x.c) (hn : x.p.es.length ≤ 60) (ha : -1 ≤ x.p.active) (hat : x.e.at_ < x.p.es.length) (hG : GapAt w) :
    Calls Tryz.prog 89 #[.pointer (some ⟨g, 0, none⟩)] W (RetRun w g x (deleteS x.p x.e)) := by
  have c11 := h.c11
  have c14 := h.c14
  go_enter Tryz.func89, Tryz.ntmps89
  go_upto_region 1 with (fail)
  go_region
  replace h := h.drw
  clear c11 c14
  generalize W.drew = W1 at h ⊢
  clear W
  have c12 := h.c12
  have HX := Lib.hid h
  by_cases h1 : x.e.at_ ≤ x.p.active
  · have HS := Lib.hid (show deleteS x.p x.e = .bad 8 from if_pos h1)
    clear h hE hc hn ha hat hG
    go_wp2
    go_ret
    exact RetRun.bad HS.out (by decide) HX.out.bel
  · obtain ⟨k, hk⟩ : ∃ k : Nat, x.e.at_ = k := ⟨x.e.at_.toNat, by omega⟩
    have hkl : k < x.p.es.length := by omega
    have HGp := Lib.hid (fun W' (b : Below w.heap.size w W') => (hG.below b).is)
    obtain ⟨b, off, hA, hcl⟩ := hE.ent hkl
    have HEn := Lib.hid (fun W' (bb : Below w.heap.size w W') => (show Ents W' (some ⟨b, off, none⟩) x.p.es from by have := hE.below (B := 0) bb; rwa [hA] at this))
    have HI := Lib.hid hcl
    have hkc : k ≤ x.c := by omega
    have hkc1 : k + 1 ≤ x.p.es.length := by omega
    have HC := Lib.hid hc
    have HN := Lib.hid hn
    have hlt : (k : Int) < (x.p.es.length : Int) := by omega
    have K1 := Lib.hid (put_any x [] (x.p.es.take k) (subE (some ⟨b, off, none⟩) 0 x.c) x.c k g w W1 h (HEn.out _ h.bel).take (by rw [List.length_take]; omega) (by simp; omega))
    rw [List.nil_append] at K1
    rw [hk] at h1 ⊢
    have hw1 : wrap64 ((k : Int) + 1) = (k : Int) + 1 := IntWalk.wrap64_in _ (by omega)
    have AH := Lib.hid hA
    cases hgap : (entAt x.p k).gap with
    | false =>
      have HS := Lib.hid (show deleteS x.p x.e = keepR x.p (x.p.es.take k ++ [gapE] ++ x.p.es.drop (k + 1)) by unfold deleteS; rw [hk, if_neg h1, Int.toNat_natCast, hgap]; rfl)
      clear h hE hG hcl ha hk hat hc hn
      go_upto_region 6 with (go_at_call 118; (with_reducible refine callPut K1.out ?_); intro v1 W2 X2 _)
      have q0 : W2.cell? ⟨b, off + k * 20, none⟩ = some (.bool false) := by have := HI.out W2 X2.bel 0 (by omega); rw [Nat.add_zero] at this; rw [this, ← hgap]; rfl
      have g1 : Has_ent W2 3 0 := ⟨_, HGp.out W2 X2.bel⟩
      have g2 : of_ent W2 3 0 = gapE := of_ent_eq (HGp.out W2 X2.bel)
      have K2 := Lib.hid (put_any { x with v := v1 } (x.p.es.take k) [gapE] (some ⟨W2.heap.size, 0, none⟩) 1 1 g w _ (X2.alloc (.cells gapE.arr 82)) (ents1 (Blk.new _ _ _)) rfl (by rw [List.length_take]; have := HN.out; omega))
      clear K1
      go_wp2_with (first
        | (go_at_call 118; (with_reducible refine callPut K2.out ?_); intro v3 W3 X3 _; have K3 := Lib.hid (put_any { x with v := v3 } (x.p.es.take k ++ [gapE]) (x.p.es.drop (k + 1)) (subE (some ⟨b, off, none⟩) (k + 1) x.c) (x.c - (k + 1)) (x.p.es.length - (k + 1)) g w W3 X3 ((HEn.out W3 X3.bel).drop HC.out) (by rw [List.length_drop]) (by simp; have := HN.out; omega)))
        | (go_at_call 118; (with_reducible refine callPut K3.out ?_); intro v4 W4 X4 _))
      go_ret
      exact RetRun.keep HS.out X4
    | true =>
      have HS := Lib.hid (show deleteS x.p x.e = keepR x.p (x.p.es.take k ++ reopenE (x.p.es.drop (k + 1))) by unfold deleteS; rw [hk, if_neg h1, Int.toNat_natCast, hgap]; rfl)
      by_cases hend : k + 1 = x.p.es.length
      · have hz : x.p.es.length - (k + 1) = 0 := by omega
        have HT := Lib.hid (show x.p.es.take k ++ x.p.es.drop (k + 1) = x.p.es.take k ++ reopenE (x.p.es.drop (k + 1)) by rw [List.drop_of_length_le (by omega)]; rfl)
        have K2 := Lib.hid (fun v1 W2 (X2 : Ed w W2 g { x with v := v1 } (x.p.es.take k)) => put_any { x with v := v1 } (x.p.es.take k) (x.p.es.drop (k + 1)) (subE (some ⟨b, off, none⟩) (k + 1) x.c) (x.c - (k + 1)) 0 g w W2 X2 ((HEn.out W2 X2.bel).drop HC.out) (by rw [List.length_drop]; omega) (by rw [List.length_take]; have := HN.out; omega))
        clear h hE hG hcl ha hk hat hc hn hend
        go_upto_region 6 with (go_at_call 118; (with_reducible refine callPut K1.out ?_); intro v1 W2 X2 _)
        have q0 : W2.cell? ⟨b, off + k * 20, none⟩ = some (.bool true) := by have := HI.out W2 X2.bel 0 (by omega); rw [Nat.add_zero] at this; rw [this, ← hgap]; rfl
        have K3 := Lib.hid (K2.out v1 W2 X2)
        clear K1 K2
        go_wp2_with (go_at_call 118; (with_reducible refine callPut K3.out ?_); intro v4 W4 X4 _)
        go_ret
        exact RetRun.keep HS.out (HT.out ▸ X4)
      · have hkl2 : k + 1 < x.p.es.length := by omega
        have hsub : subE (some ⟨b, off, none⟩) (k + 1) x.c = some ⟨b, off + (k + 1) * 20, none⟩ := subE_some (by omega)
        have HE2 := Lib.hid (fun W' (b2 : Below w.heap.size w W') => show Ents W' (some ⟨b, off + (k + 1) * 20, none⟩) (x.p.es.drop (k + 1)) from by
          have := (HEn.out W' b2).drop (k := k + 1) HC.out
          rwa [hsub] at this)
        have HI2 := Lib.hid (fun W' (b2 : Below w.heap.size w W') => show Is_ent W' b (off + (k + 1) * 20) (entAt x.p (k + 1)) from by
          obtain ⟨b', off', hA', hcl'⟩ := (hE).ent hkl2
          rw [AH.out] at hA'
          injection hA' with hA'
          injection hA' with e1 e2
          subst e1 e2
          exact hcl' W' b2)
        have hdr := entAt_drop (p := x.p) hkl2
        have hnz : (0 : Int) < ((x.p.es.length - (k + 1) : Nat) : Int) := by omega
        by_cases hty : (entAt x.p (k + 1)).leg.ty = 1
        · have HT := Lib.hid (show x.p.es.take k ++ [directE (entAt x.p (k + 1))] ++ (x.p.es.drop (k + 1)).drop 1 = x.p.es.take k ++ reopenE (x.p.es.drop (k + 1)) by rw [hdr, reopenE_yes hty]; simp)
          have HTY := Lib.hid hty
          clear h hE hG hcl ha hk hat hc hn hdr hty hend
          go_upto_region 6 with (go_at_call 118; (with_reducible refine callPut K1.out ?_); intro v1 W2 X2 _)
          have q0 : W2.cell? ⟨b, off + k * 20, none⟩ = some (.bool true) := by have := HI.out W2 X2.bel 0 (by omega); rw [Nat.add_zero] at this; rw [this, ← hgap]; rfl
          have q1 : W2.cell? ⟨b, off + (k + 1) * 20 + 1, none⟩ = some (.int .u8 1) := by have := HI2.out W2 X2.bel 1 (by omega); rw [this, ← HTY.out]; rfl
          have g1 : Has_ent W2 b (off + (k + 1) * 20) := ⟨_, HI2.out W2 X2.bel⟩
          have g2 : of_ent W2 b (off + (k + 1) * 20) = entAt x.p (k + 1) := of_ent_eq (HI2.out W2 X2.bel)
          have hge1 : 1 ≤ x.p.es.length - (k + 1) := by omega
          have kd := Lib.hid (edirect_any (entAt x.p (k + 1)) W2)
          clear K1
          go_wp2_with (first
            | (go_at_call 119; (with_reducible refine callR kd.out ?_); intro wd bd _ _ _
               have X2d := X2.step bd
               have K2 := Lib.hid (put_any { x with v := v1 } (x.p.es.take k) [directE (entAt x.p (k + 1))] (some ⟨wd.heap.size, 0, none⟩) 1 1 g w _ (X2d.alloc (.cells (directE (entAt x.p (k + 1))).arr 82)) (ents1 (Blk.new _ _ _)) rfl (by rw [List.length_take]; have := HN.out; omega)))
            | (go_at_call 118; (with_reducible refine callPut K2.out ?_); intro v3 W3 X3 _; have K3 := Lib.hid (put_any { x with v := v3 } (x.p.es.take k ++ [directE (entAt x.p (k + 1))]) ((x.p.es.drop (k + 1)).drop 1) (subE (some ⟨b, off + (k + 1) * 20, none⟩) 1 (x.c - (k + 1))) (x.c - (k + 1) - 1) (x.p.es.length - (k + 1) - 1) g w W3 X3 ((HE2.out W3 X3.bel).drop (by rw [List.length_drop]; have := HC.out; omega)) (by simp only [List.length_drop]) (by simp; have := HN.out; omega)))
            | (go_at_call 118; (with_reducible refine callPut K3.out ?_); intro v4 W4 X4 _))
          go_ret
          exact RetRun.keep HS.out (HT.out ▸ X4)
        · have HT := Lib.hid (show x.p.es.take k ++ x.p.es.drop (k + 1) = x.p.es.take k ++ reopenE (x.p.es.drop (k + 1)) by rw [hdr, reopenE_no hty])
          clear h hE hG hcl ha hk hat hc hn hdr hend
          go_upto_region 6 with (go_at_call 118; (with_reducible refine callPut K1.out ?_); intro v1 W2 X2 _)
          have q0 : W2.cell? ⟨b, off + k * 20, none⟩ = some (.bool true) := by have := HI.out W2 X2.bel 0 (by omega); rw [Nat.add_zero] at this; rw [this, ← hgap]; rfl
          have q1 : W2.cell? ⟨b, off + (k + 1) * 20 + 1, none⟩ = some (.int .u8 (entAt x.p (k + 1)).leg.ty) := HI2.out W2 X2.bel 1 (by omega)
          have hty' : ((entAt x.p (k + 1)).leg.ty == 1) = false := by simpa using hty
          have K2 := Lib.hid (put_any { x with v := v1 } (x.p.es.take k) (x.p.es.drop (k + 1)) (some ⟨b, off + (k + 1) * 20, none⟩) (x.c - (k + 1)) (x.p.es.length - (k + 1)) g w W2 X2 (HE2.out W2 X2.bel) (by rw [List.length_drop]) (by rw [List.length_take]; have := HN.out; omega))
          clear K1
          go_wp2_with (go_at_call 118; (with_reducible refine callPut K2.out ?_); intro v4 W4 X4 _)
          go_ret
          exact RetRun.keep HS.out (HT.out ▸ X4)
end Go.Proofs.YtlggdgpdfepppaaGreatDoor
namespace Go.Proofs.YtlggdgpdfepppaaGreatDoor
open Go.RowKit Go.Sort
set_option linter.unusedVariables false
set_option linter.unusedSimpArgs false
set_option maxRecDepth 100000
theorem Ed.setActive {w W : World} {g : Nat} {x : Edr} {es : List Entry} (h : Ed w W g x es) (n : Int) : Ed w (W.setCell ⟨g, 12, none⟩ (.int .i64 n)) g { x with p := { x.p with active := n } } es :=
  ⟨h.blk.setCell 12 (.int .i64 n), h.out.keepE fun q hq => Below.heap_setCell _ _ _ _ (by show q ≠ g; rintro rfl; exact h.far hq), h.far, below_setCell h.bel h.ge _ _, h.ge⟩
theorem GapAt.win {w : World} (h : GapAt w) : Is_win w 4 0 ⟨-200000, 6000000⟩ := fun j hj => by
  match j, hj with
  | 0, _ => exact h.lo
  | 1, _ => exact h.hi
theorem is_ptE {W : World} {g : Nat} {x : Entry} (h : Blk W g x.arr) : Is_pt W g 14 ⟨x.ex, x.ey⟩ := fun j hj => by
  rw [h.cell]
  match j, hj with
  | 0, _ | 1, _ => rfl
theorem run_bleg3 (w : World) (t : Int) (f : List UInt8) (a b : Int) : (bleg #[(0, .int .u8 t), (1, .string ⟨f.toArray⟩), (9, .agg (Win.arr ⟨a, b⟩))]).run Tryz.prog w = .ok (.agg (⟨t, f, [], 0, false, 0, 0, 0, 0, a, b, 0, 0⟩ : Leg).arr) w := run_build w _ _ _ (by kernel_rfl)
def bentD (parts : Array (Nat × Value)) : Sem Value := Instr.build 82 parts
theorem bentD_fold (parts : Array (Nat × Value)) : Instr.build 82 parts = bentD parts := rfl
theorem run_bentD4 (w : World) (l : Leg) (a b s : Int) (via : List UInt8) : (bentD #[(1, .agg l.arr), (2, .agg (Pt.arr ⟨a, b⟩)), (4, .int .u8 s), (5, .string ⟨via.toArray⟩)]).run Tryz.prog w = .ok (.agg (⟨false, l, a, b, 0, 0, s, via⟩ : Entry).arr) w := run_build w _ _ _ (by kernel_rfl)
theorem run_bentD3 (w : World) (l : Leg) (a b s : Int) : (bentD #[(1, .agg l.arr), (2, .agg (Pt.arr ⟨a, b⟩)), (4, .int .u8 s)]).run Tryz.prog w = .ok (.agg (⟨false, l, a, b, 0, 0, s, []⟩ : Entry).arr) w := run_build w _ _ _ (by kernel_rfl)
attribute [local go_sem ↓] slE_fold bleg_fold bentD_fold
attribute [local go_sem] run_slE_hk run_slE_hk1 run_slE_lk run_slE_lk1 run_bleg3 run_bentD4
def holdTo (x : Entry) : Entry := ⟨false, toLeg 4 x.leg.fix, x.ex, x.ey, 0, 0, x.sec, x.via⟩
theorem RetRun.direct {w W' : World} {g : Nat} {x : Edr} {r : EdR} {l : List Entry} {v' : Value} (h : r = ⟨0, x.p.from_, x.p.to_, 0, l⟩) (he : Ed w W' g { x with v := v' } l) : RetRun w g x r (.returned (.int .i64 0)) (W'.setCell ⟨g, 12, none⟩ (.int .i64 0)) := by
  subst h; exact ⟨rfl, (he.setActive 0).bel, fun _ => ⟨v', he.setActive 0⟩⟩
set_option maxHeartbeats 16000000 in
theorem edirectTo_any (x : Edr) (g : Nat) (w W : World) (h : Ed w W g x []) (hE : Ents w x.A x.p.es) (hc : x.p.es.length ≤ x.c) (hn : x.p.es.length ≤ 60) (h0 : 0 ≤ x.e.at_) (hat : x.e.at_ < x.p.es.length) (hG : GapAt w) :
    Calls Tryz.prog 90 #[.pointer (some ⟨g, 0, none⟩)] W (RetRun w g x (directS x.p x.e)) := by
  have c11 := h.c11
  have c14 := h.c14
  go_enter Tryz.func90, Tryz.ntmps90
  go_upto_region 1 with (fail)
  go_region
  replace h := h.drw
  clear c11 c14
  generalize W.drew = W1 at h ⊢
  clear W
  have c12 := h.c12
  by_cases h1 : x.e.at_ < x.p.active
  · have HS := Lib.hid (show directS x.p x.e = .bad 8 from if_pos h1)
    have HX := Lib.hid h
    clear h hE hc hn h0 hat hG
    go_wp2
    go_ret
    exact RetRun.bad HS.out (by decide) HX.out.bel
  · obtain ⟨k, hk⟩ : ∃ k : Nat, x.e.at_ = k := ⟨x.e.at_.toNat, by omega⟩
    have hkl : k < x.p.es.length := by omega
    have HGw := Lib.hid (fun W' (b : Below w.heap.size w W') => (hG.below b).win)
    obtain ⟨b, off, hA, hcl⟩ := hE.ent hkl
    have HEn := Lib.hid (fun W' (bb : Below w.heap.size w W') => (show Ents W' (some ⟨b, off, none⟩) x.p.es from by have := hE.below (B := 0) bb; rwa [hA] at this))
    have hkc : k ≤ x.c := by omega
    have hkc0 : k ≤ x.p.es.length := by omega
    have hkc1 : k + 1 ≤ x.p.es.length := by omega
    have HC := Lib.hid hc
    have HN := Lib.hid hn
    have hlt : (k : Int) < (x.p.es.length : Int) := by omega
    have HS0 : directS x.p x.e = if !endsE (entAt x.p k) then .bad 17 else ⟨0, x.p.from_, x.p.to_, 0, if holdLike (entAt x.p k).leg.ty then holdTo (entAt x.p k) :: x.p.es.drop k else directE (entAt x.p k) :: x.p.es.drop (k + 1)⟩ := by
      unfold directS; rw [if_neg h1, hk, Int.toNat_natCast]; rfl
    rw [hk] at h1 ⊢
    have hw1 : wrap64 ((k : Int) + 1) = (k : Int) + 1 := IntWalk.wrap64_in _ (by omega)
    have AH := Lib.hid hA
    have hI := hcl W1 h.bel
    generalize entAt x.p k = y at HS0 hI
    have i1 : Has_ent W1 b (off + k * 20) := ⟨_, hI⟩
    have i2 : of_ent W1 b (off + k * 20) = y := of_ent_eq hI
    have HX := Lib.hid h
    clear h hE hcl hk hat hc hn h0 hG hI
    go_upto_region 5 with (fail)
    have Y := Blk.new W1 y.arr 82
    have X := HX.out.alloc (.cells y.arr 82)
    have hgy : g ≠ W1.heap.size := by have := HX.out.lt; omega
    clear HX i1 i2 c12
    generalize W1.alloc _ = W2 at Y X ⊢
    generalize W1.heap.size = gy at Y hgy ⊢
    clear W1
    have j1 : Has_ent W2 gy 0 := ⟨_, Y.is_ent⟩
    have j2 : of_ent W2 gy 0 = y := of_ent_eq Y.is_ent
    have kE := Lib.hid (eends_any y W2)
    cases hen : endsE y with
    | false =>
      rw [hen] at kE HS0
      have HS := Lib.hid (show directS x.p x.e = .bad 17 from HS0)
      have HX := Lib.hid X
      clear X HS0
      go_wp2_with (go_at_call 121; (with_reducible refine callR kE.out ?_); intro w3 b3 _ _ _)
      go_ret
      exact RetRun.bad HS.out (by decide) (HX.out.step b3).bel
    | true =>
      rw [hen] at kE HS0
      go_upto_region 7 with (go_at_call 121; (with_reducible refine callR kE.out ?_); intro w3 b3 _ _ _)
      have Y3 := Y.step b3
      have X3 := X.step b3
      clear kE j1 j2 X Y b3
      have c1 := Y3.cell
      cases hh : holdLike y.leg.ty with
      | false =>
        rw [hh] at HS0
        have HS := Lib.hid (show directS x.p x.e = ⟨0, x.p.from_, x.p.to_, 0, [directE y] ++ x.p.es.drop (k + 1)⟩ from HS0)
        unfold holdLike at hh
        simp only [Bool.or_eq_false_iff] at hh
        obtain ⟨⟨⟨t1, t2⟩, t3⟩, t4⟩ := hh
        have j1 : Has_ent w3 gy 0 := ⟨_, Y3.is_ent⟩
        have j2 : of_ent w3 gy 0 = y := of_ent_eq Y3.is_ent
        have kD := Lib.hid (edirect_any y w3)
        clear HS0
        go_upto_region 16 with (first
          | (go_at_call 119; (with_reducible refine callR kD.out ?_); intro w4 b4 _ _ _; have K1 := Lib.hid (put_any x [] [directE y] (some ⟨w4.heap.size, 0, none⟩) 1 1 g w _ ((X3.step b4).alloc (.cells (directE y).arr 82)) (ents1 (Blk.new _ _ _)) rfl (by simp)))
          | (go_at_call 118; (with_reducible refine callPut K1.out ?_); intro v5 W5 X5 _
             have K2 := Lib.hid (put_any { x with v := v5 } ([] ++ [directE y]) (x.p.es.drop (k + 1)) (subE (some ⟨b, off, none⟩) (k + 1) x.c) (x.c - (k + 1)) (x.p.es.length - (k + 1)) g w W5 X5 ((HEn.out W5 X5.bel).drop HC.out) (by rw [List.length_drop]) (by simp; have := HN.out; omega)))
          | (go_at_call 118; (with_reducible refine callPut K2.out ?_); intro v6 W6 X6 _))
        have c12 := X6.c12
        have f12 := X6.blk.frozen 12
        go_wp2
        go_ret
        exact RetRun.direct HS.out X6
      | true =>
        rw [hh] at HS0
        have HS := Lib.hid (show directS x.p x.e = ⟨0, x.p.from_, x.p.to_, 0, [holdTo y] ++ x.p.es.drop k⟩ from HS0)
        have ht : y.leg.ty = 14 ∨ y.leg.ty = 15 ∨ y.leg.ty = 16 ∨ y.leg.ty = 17 := by
          unfold holdLike at hh
          simp only [Bool.or_eq_true, beq_iff_eq] at hh
          omega
        have q1 : w3.cell? ⟨gy, 1, none⟩ = some (.int .u8 y.leg.ty) := Y3.cell 1
        have q2 : w3.cell? ⟨gy, 2, none⟩ = some (.string ⟨y.leg.fix.toArray⟩) := Y3.cell 2
        have q18 : w3.cell? ⟨gy, 18, none⟩ = some (.int .u8 y.sec) := Y3.cell 18
        have q19 : w3.cell? ⟨gy, 19, none⟩ = some (.string ⟨y.via.toArray⟩) := Y3.cell 19
        have p1 : Has_pt w3 gy 14 := ⟨_, is_ptE Y3⟩
        have p2 : of_pt w3 gy 14 = ⟨y.ex, y.ey⟩ := of_pt_eq (is_ptE Y3)
        have r1 : Has_win w3 4 0 := ⟨_, HGw.out _ X3.bel⟩
        have r2 : of_win w3 4 0 = ⟨-200000, 6000000⟩ := of_win_eq (HGw.out _ X3.bel)
        have K1 := Lib.hid (put_any x [] [holdTo y] (some ⟨w3.heap.size, 0, none⟩) 1 1 g w _ (X3.alloc (.cells (holdTo y).arr 82)) (ents1 (Blk.new _ _ _)) rfl (by simp))
        clear HS0 c1 hh
        unfold holdTo toLeg at K1
        rcases ht with ht | ht | ht | ht
        all_goals
          rw [ht] at q1
          clear ht
          go_upto_region 16 with (first
            | (go_at_call 118; (with_reducible refine callPut K1.out ?_); intro v5 W5 X5 _
               have K2 := Lib.hid (put_any { x with v := v5 } ([] ++ [holdTo y]) (x.p.es.drop k) (subE (some ⟨b, off, none⟩) k x.c) (x.c - k) (x.p.es.length - k) g w W5 X5 ((HEn.out W5 X5.bel).drop HC.out) (by rw [List.length_drop]) (by simp; have := HN.out; omega)))
            | (go_at_call 118; (with_reducible refine callPut K2.out ?_); intro v6 W6 X6 _))
          have c12 := X6.c12
          have f12 := X6.blk.frozen 12
          go_wp2
          go_ret
          exact RetRun.direct HS.out X6
end Go.Proofs.YtlggdgpdfepppaaGreatDoor
namespace Go.Proofs.YtlggdgpdfepppaaGreatDoor
open Go.RowKit Go.Sort
set_option linter.unusedVariables false
set_option linter.unusedSimpArgs false
set_option maxRecDepth 100000
theorem cellsOf_cons (x : Entry) (r : List Entry) : cellsOf (x :: r) = x.arr.toList ++ cellsOf r := by simp [cellsOf]
theorem cellsOf_put : ∀ (es : List Entry) (k : Nat) (x x' : Entry) (j : Nat) (v : List Value), es[k]? = some x → x'.arr.toList = x.arr.toList.take j ++ v ++ x.arr.toList.drop (j + v.length) → j + v.length ≤ 20 →
    (cellsOf es).take (k * 20 + j) ++ v ++ (cellsOf es).drop (k * 20 + j + v.length) = cellsOf (es.set k x')
  | [], k, x, x', j, v, h, _, _ => by simp at h
  | a :: r, 0, x, x', j, v, h, hx, hj => by
    obtain rfl : a = x := by simpa using h
    have hl : a.arr.toList.length = 20 := by simp [Entry.arr]
    rw [List.set_cons_zero, cellsOf_cons, cellsOf_cons, hx, Nat.zero_mul, Nat.zero_add, List.take_append_of_le_length (by omega), List.drop_append_of_le_length (by omega)]
    simp
  | a :: r, k + 1, x, x', j, v, h, hx, hj => by
    have ih := cellsOf_put r k x x' j v (by simpa using h) hx hj
    have hl : a.arr.toList.length = 20 := by simp [Entry.arr]
    rw [List.set_cons_succ, cellsOf_cons, cellsOf_cons, ← ih]
    have e1 : (k + 1) * 20 + j = a.arr.toList.length + (k * 20 + j) := by omega
    have e2 : (k + 1) * 20 + j + v.length = a.arr.toList.length + (k * 20 + j + v.length) := by omega
    rw [e2, e1, List.take_length_add_append, List.drop_length_add_append]
    simp
theorem take_put (L : List Value) (N o : Nat) (v : List Value) (h : o + v.length ≤ N) (hL : N ≤ L.length) : (L.take o ++ v ++ L.drop (o + v.length)).take N = (L.take N).take o ++ v ++ (L.take N).drop (o + v.length) := by
  have h1 : (L.take o).length = o := by rw [List.length_take]; omega
  rw [List.take_take, Nat.min_eq_left (by omega), List.append_assoc, List.append_assoc, List.take_append, h1, List.take_append, List.take_of_length_le (l := L.take o) (by omega), List.take_of_length_le (l := v) (by omega), List.drop_take]
  congr 3
  omega
theorem Ed.list {w W : World} {g : Nat} {x : Edr} {es : List Entry} (h : Ed w W g x es) (hne : es ≠ []) : ∃ q cap cur, x.v = .slice (some ⟨q, 0, none⟩) es.length cap ∧ w.heap.size ≤ q ∧ q ≠ g ∧ W.heap[q]? = some (.cells cur 82 (0, 0)) ∧ es.length ≤ cap ∧ cap ≤ maxLen ∧ cur.size = cap * 20 ∧ cur.toList.take (es.length * 20) = cellsOf es := by
  have hf := h.far
  obtain ⟨hl, ho⟩ := h.out
  rcases ho with ⟨_, h0⟩ | ⟨q, cap, cur, hv, hq, hb, hn, hm, hsz, hc⟩
  · exact absurd (List.eq_nil_of_length_eq_zero h0) hne
  · exact ⟨q, cap, cur, hv, hq, by rintro rfl; rw [hv] at hf; exact hf rfl, hb, hn, hm, hsz, hc⟩
theorem Ed.setEnt {w W : World} {g : Nat} {x : Edr} {es : List Entry} (h : Ed w W g x es) {q cap k : Nat} {cur : Array Value} (hv : x.v = .slice (some ⟨q, 0, none⟩) es.length cap) (hq : w.heap.size ≤ q) (hqg : q ≠ g) (hb : W.heap[q]? = some (.cells cur 82 (0, 0)))
    (hn : es.length ≤ cap) (hm : cap ≤ maxLen) (hsz : cur.size = cap * 20) (hc : cur.toList.take (es.length * 20) = cellsOf es) {y y' : Entry} {j : Nat} {v : Array Value} (hk : es[k]? = some y) (hy : y'.arr.toList = y.arr.toList.take j ++ v.toList ++ y.arr.toList.drop (j + v.toList.length)) (hj : j + v.toList.length ≤ 20) :
    Ed w (W.setRow q (splice cur (k * 20 + j) v)) g x (es.set k y') := by
  have hkl : k < es.length := (List.getElem?_eq_some_iff.1 hk).1
  have hcl : cur.toList.length = cap * 20 := by simpa using hsz
  have hL : es.length * 20 ≤ cur.toList.length := by omega
  have hvs : v.size = v.toList.length := by simp
  have hspl : (splice cur (k * 20 + j) v).toList = cur.toList.take (k * 20 + j) ++ v.toList ++ cur.toList.drop (k * 20 + j + v.toList.length) := by simp [splice]
  have hin : k * 20 + j + v.toList.length ≤ es.length * 20 := by omega
  refine ⟨h.blk.far (Ne.symm hqg) _, ?_, h.far, below_setRow' h.bel hq _, h.ge⟩
  refine ⟨by rw [cellsOf_len, List.length_set], .inr ⟨q, cap, splice cur (k * 20 + j) v, by rw [hv, List.length_set], hq, setRow_heap W q cur _ _ _ hb, by rw [List.length_set]; exact hn, hm, ?_, ?_⟩⟩
  · rw [← hsz, ← Array.length_toList, hspl, ← Array.length_toList]
    simp only [List.length_append, List.length_take, List.length_drop]
    omega
  · rw [List.length_set, hspl, take_put _ _ _ _ hin hL, hc]
    exact cellsOf_put es k y y' j v.toList hk hy hj
theorem set_splice (cur : Array Value) (i : Nat) (u : Value) (h : i < cur.size) : cur.setIfInBounds i u = splice cur i #[u] := by
  apply Array.toList_inj.1
  simp only [splice, Array.toList_setIfInBounds]
  have h' : i < cur.toList.length := by simpa using h
  rw [List.set_eq_take_append_cons_drop, if_pos h']
  simp
attribute [local go_sem ↓] slE_fold
set_option maxHeartbeats 16000000 in
theorem eset_any (x : Edr) (g : Nat) (w W : World) (h : Ed w W g x []) (hE : Ents w x.A x.p.es) (hc : x.p.es.length ≤ x.c) (hn : x.p.es.length ≤ 60) (h0 : 0 ≤ x.e.at_) (hat : x.e.at_ < x.p.es.length) (ho : x.e.op = 4 ∨ x.e.op = 5 ∨ x.e.op = 6) :
    Calls Tryz.prog 91 #[.pointer (some ⟨g, 0, none⟩)] W (RetRun w g x (setS x.p x.e)) := by
  have c11 := h.c11
  have c14 := h.c14
  go_enter Tryz.func91, Tryz.ntmps91
  go_upto_region 1 with (fail)
  go_region
  replace h := h.drw
  clear c11 c14
  generalize W.drew = W1 at h ⊢
  clear W
  have c12 := h.c12
  by_cases h1 : x.e.at_ < x.p.active
  · have HS := Lib.hid (show setS x.p x.e = .bad 8 from if_pos h1)
    have HX := Lib.hid h
    clear h hE hc hn h0 hat ho
    go_wp2
    go_ret
    exact RetRun.bad HS.out (by decide) HX.out.bel
  · obtain ⟨k, hk⟩ : ∃ k : Nat, x.e.at_ = k := ⟨x.e.at_.toNat, by omega⟩
    have hkl : k < x.p.es.length := by omega
    obtain ⟨b, off, hA, hcl⟩ := hE.ent hkl
    have hlt : (k : Int) < (x.p.es.length : Int) := by omega
    have HS0 : setS x.p x.e = if (entAt x.p k).gap then .bad 17 else keepR x.p (x.p.es.set k (setLeg x.e (entAt x.p k))) := by
      unfold setS; rw [if_neg h1, hk, Int.toNat_natCast]
    rw [hk] at h1 ⊢
    have q0 : W1.cell? ⟨b, off + k * 20, none⟩ = some (.bool (entAt x.p k).gap) := by have := hcl W1 h.bel 0 (by omega); rw [Nat.add_zero] at this; exact this
    have hget := entAt_get hkl
    have K1 := Lib.hid (put_any x [] x.p.es (some ⟨b, off, none⟩) x.c x.p.es.length g w W1 h (by have := hE.below (B := 0) h.bel; rwa [hA] at this) rfl (by simp; omega))
    rw [List.nil_append] at K1
    cases hgap : (entAt x.p k).gap with
    | true =>
      rw [hgap] at HS0 q0
      have HS := Lib.hid (show setS x.p x.e = .bad 17 from HS0)
      have HX := Lib.hid h
      clear h hE hc hn h0 hat ho hk HS0 hcl hget K1
      go_wp2
      go_ret
      exact RetRun.bad HS.out (by decide) HX.out.bel
    | false =>
      rw [hgap] at HS0 q0
      have HS1 := Lib.hid (show setS x.p x.e = keepR x.p (x.p.es.set k (setLeg x.e (entAt x.p k))) from HS0)
      clear hcl HS0
      go_upto_region 7 with (go_at_call 118; (with_reducible refine callPut K1.out ?_); intro v2 W2 X2 _)
      obtain ⟨q, cap, cur, hv, hq, hqg, hb, hnc, hm, hsz, hcc⟩ := X2.list (by rintro e; rw [e] at hkl; simp at hkl)
      have hv : v2 = .slice (some ⟨q, 0, none⟩) x.p.es.length cap := hv
      have hB : Blk W2 q cur := ⟨_, hb⟩
      have c25 : W2.cell? ⟨g, 25, none⟩ = some v2 := X2.blk.cell 25
      have c13 := X2.c13
      rw [hv] at c25
      have hin : k * 20 + 20 ≤ cur.size := by rw [hsz]; omega
      have HSE := Lib.hid (fun (y' : Entry) (j : Nat) (v : Array Value) (hy : y'.arr.toList = (entAt x.p k).arr.toList.take j ++ v.toList ++ (entAt x.p k).arr.toList.drop (j + v.toList.length)) (hj : j + v.toList.length ≤ 20) =>
        X2.setEnt (k := k) hv hq hqg hb hnc hm hsz hcc hget hy hj)
      clear q0 K1
      rcases ho with ho | ho | ho
      · have HS := Lib.hid (show setS x.p x.e = keepR x.p (x.p.es.set k { entAt x.p k with leg := { (entAt x.p k).leg with lo := x.e.lo, hi := x.e.hi } }) by rw [HS1.out]; unfold setLeg; rw [if_pos ho])
        have X9 := Lib.hid (HSE.out { entAt x.p k with leg := { (entAt x.p k).leg with lo := x.e.lo, hi := x.e.hi } } 10 (Win.arr ⟨x.e.lo, x.e.hi⟩) rfl (by show 10 + 2 ≤ 20; omega))
        rw [ho] at c13
        have p1 : Plain W2 q := hB.plain
        have p2 : blkOf W2 q = cur := hB.of
        have p3 : Fits (k * 20 + 10) 2 cur := by unfold Fits; omega
        have i1 : Has_win W2 g 19 := ⟨⟨x.e.lo, x.e.hi⟩, fun j hj => by match j, hj with | 0, _ => exact X2.blk.cell 19 | 1, _ => exact X2.blk.cell 20⟩
        have i2 : of_win W2 g 19 = ⟨x.e.lo, x.e.hi⟩ := of_win_eq fun j hj => by match j, hj with | 0, _ => exact X2.blk.cell 19 | 1, _ => exact X2.blk.cell 20
        clear HSE HS1 hcc hb hv X2
        go_wp2
        go_ret
        exact RetRun.keep HS.out X9.out
      · have HS := Lib.hid (show setS x.p x.e = keepR x.p (x.p.es.set k { entAt x.p k with leg := { (entAt x.p k).leg with speed := x.e.speed } }) by rw [HS1.out]; unfold setLeg; rw [if_neg (by omega), if_pos ho])
        have X9 := Lib.hid (HSE.out { entAt x.p k with leg := { (entAt x.p k).leg with speed := x.e.speed } } 12 #[.int .i64 x.e.speed] rfl (by show 12 + 1 ≤ 20; omega))
        rw [← set_splice _ _ _ (by omega)] at X9
        rw [ho] at c13
        have c21 : W2.cell? ⟨g, 21, none⟩ = some (.int .i64 x.e.speed) := X2.blk.cell 21
        have f1 := hB.frozen (k * 20 + 12)
        have e1 := setCell_eq_setRow W2 q (k * 20 + 12) cur _ _ (.int .i64 x.e.speed) hb
        rw [← e1] at X9
        clear e1
        have f2 : (W2.cell? ⟨q, k * 20 + 12, none⟩).isSome = true := by rw [hB.cell, Array.getElem?_eq_getElem (by omega)]; rfl
        obtain ⟨u, hu⟩ := Option.isSome_iff_exists.1 f2
        clear HSE HS1 hcc hb hv X2 f2
        go_wp2
        go_ret
        exact RetRun.keep HS.out X9.out
      · have HS := Lib.hid (show setS x.p x.e = keepR x.p (x.p.es.set k { entAt x.p k with leg := { (entAt x.p k).leg with rnp := x.e.dist } }) by rw [HS1.out]; unfold setLeg; rw [if_neg (by omega), if_neg (by omega)])
        have X9 := Lib.hid (HSE.out { entAt x.p k with leg := { (entAt x.p k).leg with rnp := x.e.dist } } 13 #[.int .i64 x.e.dist] rfl (by show 13 + 1 ≤ 20; omega))
        rw [← set_splice _ _ _ (by omega)] at X9
        rw [ho] at c13
        have c23 : W2.cell? ⟨g, 23, none⟩ = some (.int .i64 x.e.dist) := X2.blk.cell 23
        have f1 := hB.frozen (k * 20 + 13)
        have e1 := setCell_eq_setRow W2 q (k * 20 + 13) cur _ _ (.int .i64 x.e.dist) hb
        rw [← e1] at X9
        clear e1
        have f2 : (W2.cell? ⟨q, k * 20 + 13, none⟩).isSome = true := by rw [hB.cell, Array.getElem?_eq_getElem (by omega)]; rfl
        obtain ⟨u, hu⟩ := Option.isSome_iff_exists.1 f2
        clear HSE HS1 hcc hb hv X2 f2
        go_wp2
        go_ret
        exact RetRun.keep HS.out X9.out
end Go.Proofs.YtlggdgpdfepppaaGreatDoor
namespace Go.Proofs.YtlggdgpdfepppaaGreatDoor
open Go.RowKit Go.Sort
set_option linter.unusedVariables false
set_option linter.unusedSimpArgs false
set_option maxRecDepth 100000
theorem run_bleg6 (w : World) (f : List UInt8) (t co di a b : Int) : (bleg #[(0, .int .u8 16), (1, .string ⟨f.toArray⟩), (3, .int .u8 t), (5, .int .i64 co), (6, .int .i64 di), (9, .agg (Win.arr ⟨a, b⟩))]).run Tryz.prog w = .ok (.agg (⟨16, f, [], t, false, co, di, 0, 0, a, b, 0, 0⟩ : Leg).arr) w := run_build w _ _ _ (by kernel_rfl)
attribute [local go_sem ↓] slE_fold bleg_fold bentD_fold
attribute [local go_sem] run_slE_hk run_slE_hk1 run_slE_lk run_slE_lk1 run_bleg6 run_bentD3
theorem plainTy_cases {t : Int} (h : plainTy t = true) : t = 1 ∨ t = 2 ∨ t = 3 ∨ t = 4 ∨ t = 5 ∨ t = 6 := by
  unfold plainTy at h
  simp only [Bool.or_eq_true, beq_iff_eq] at h
  omega
theorem plainTy_not {t : Int} (h : plainTy t = false) : (t != 1) = true ∧ (t != 2) = true ∧ (t != 3) = true ∧ (t != 4) = true ∧ (t != 5) = true ∧ (t != 6) = true := by
  unfold plainTy at h
  simp only [Bool.or_eq_false_iff, beq_eq_false_iff_ne] at h
  simp only [bne_iff_ne]
  omega
theorem Ed.ownLt {w W : World} {g : Nat} {x : Edr} {es : List Entry} (h : Ed w W g x es) {q : Nat} (hq : x.v.ownBlock = some q) : q < W.heap.size := by
  obtain ⟨hl, ho⟩ := h.out
  rcases ho with ⟨e, _⟩ | ⟨g', cap, cur, hv, _, hb, _⟩
  · rw [e] at hq; cases hq
  · rw [hv] at hq
    obtain rfl : g' = q := by simpa [Value.ownBlock] using hq
    rcases Nat.lt_or_ge g' W.heap.size with h | h
    · exact h
    · rw [Array.getElem?_eq_none h] at hb; cases hb
theorem FarB.new {w W : World} {g : Nat} {x : Edr} {es : List Entry} (h : Ed w W g x es) (o : Obj) : FarB (W.alloc o) g x.v W.heap.size where
  lt := by simp
  ne := by have := h.lt; omega
  own := fun e => by have := h.ownLt e; omega
theorem FarB.below {W W' : World} {g q : Nat} {v : Value} (h : FarB W g v q) (b : Below W.heap.size W W') : FarB W' g v q := ⟨Nat.lt_of_lt_of_le h.lt b.size, h.ne, h.own⟩
set_option maxHeartbeats 16000000 in
theorem ehold_any (x : Edr) (g : Nat) (w W : World) (h : Ed w W g x []) (hE : Ents w x.A x.p.es) (hc : x.p.es.length ≤ x.c) (hn : x.p.es.length ≤ 60) (h0 : 0 ≤ x.e.at_) (hat : x.e.at_ < x.p.es.length) (hG : GapAt w) :
    Calls Tryz.prog 92 #[.pointer (some ⟨g, 0, none⟩)] W (RetRun w g x (holdS x.p x.e)) := by
  have c11 := h.c11
  have c14 := h.c14
  go_enter Tryz.func92, Tryz.ntmps92
  go_upto_region 1 with (fail)
  go_region
  replace h := h.drw
  clear c11 c14
  generalize W.drew = W1 at h ⊢
  clear W
  have c12 := h.c12
  by_cases h1 : x.e.at_ < x.p.active
  · have HS := Lib.hid (show holdS x.p x.e = .bad 8 from if_pos h1)
    have HX := Lib.hid h
    clear h hE hc hn h0 hat hG
    go_wp2
    go_ret
    exact RetRun.bad HS.out (by decide) HX.out.bel
  · obtain ⟨k, hk⟩ : ∃ k : Nat, x.e.at_ = k := ⟨x.e.at_.toNat, by omega⟩
    have hkl : k < x.p.es.length := by omega
    have HGw := Lib.hid (fun W' (b : Below w.heap.size w W') => (hG.below b).win)
    obtain ⟨b, off, hA, hcl⟩ := hE.ent hkl
    have HEn := Lib.hid (fun W' (bb : Below w.heap.size w W') => (show Ents W' (some ⟨b, off, none⟩) x.p.es from by have := hE.below (B := 0) bb; rwa [hA] at this))
    have hkc1 : k + 1 ≤ x.p.es.length := by omega
    have hkc2 : k + 1 ≤ x.c := by omega
    have HC := Lib.hid hc
    have HN := Lib.hid hn
    have hlt : (k : Int) < (x.p.es.length : Int) := by omega
    have HS0 : holdS x.p x.e = if (entAt x.p k).gap then .bad 17 else if !plainTy (entAt x.p k).leg.ty then .bad 17 else keepR x.p (x.p.es.take (k + 1) ++ [holdE x.e (entAt x.p k)] ++ x.p.es.drop (k + 1)) := by
      unfold holdS
      have e1 : (x.e.at_ + 1).toNat = k + 1 := by omega
      rw [if_neg h1, hk, Int.toNat_natCast]
    rw [hk] at h1 ⊢
    have hw1 : wrap64 ((k : Int) + 1) = (k : Int) + 1 := IntWalk.wrap64_in _ (by omega)
    have AH := Lib.hid hA
    have hI := hcl W1 h.bel
    generalize entAt x.p k = y at HS0 hI
    have i1 : Has_ent W1 b (off + k * 20) := ⟨_, hI⟩
    have i2 : of_ent W1 b (off + k * 20) = y := of_ent_eq hI
    have HX := Lib.hid h
    clear h hE hcl hk hat hc hn h0 hG hI
    go_upto_region 5 with (fail)
    have Y := Blk.new W1 y.arr 82
    have X := HX.out.alloc (.cells y.arr 82)
    have F := FarB.new HX.out (.cells y.arr 82)
    clear HX i1 i2 c12
    generalize W1.alloc _ = W2 at Y X F ⊢
    generalize W1.heap.size = gy at Y F ⊢
    clear W1
    have q0 : W2.cell? ⟨gy, 0, none⟩ = some (.bool y.gap) := Y.cell 0
    have q1 : W2.cell? ⟨gy, 1, none⟩ = some (.int .u8 y.leg.ty) := Y.cell 1
    cases hgap : y.gap with
    | true =>
      rw [hgap] at HS0 q0
      have HS := Lib.hid (show holdS x.p x.e = .bad 17 from HS0)
      have HX := Lib.hid X
      clear X HS0
      go_wp2
      go_ret
      exact RetRun.bad HS.out (by decide) HX.out.bel
    | false =>
      rw [hgap] at HS0 q0
      cases hpt : plainTy y.leg.ty with
      | false =>
        rw [hpt] at HS0
        have HS := Lib.hid (show holdS x.p x.e = .bad 17 from HS0)
        obtain ⟨t1, t2, t3, t4, t5, t6⟩ := plainTy_not hpt
        have HX := Lib.hid X
        clear X HS0
        go_wp2
        go_ret
        exact RetRun.bad HS.out (by decide) HX.out.bel
      | true =>
        rw [hpt] at HS0
        have HS := Lib.hid (show holdS x.p x.e = keepR x.p (x.p.es.take (k + 1) ++ [holdE x.e y] ++ x.p.es.drop (k + 1)) from HS0)
        clear HS0
        have KK1 := Lib.hid (put_any x [] (x.p.es.take (k + 1)) (subE (some ⟨b, off, none⟩) 0 x.c) x.c (k + 1) g w W2 X (HEn.out W2 X.bel).take (by rw [List.length_take]; omega) (by have := HN.out; simp; omega))
        rcases plainTy_cases hpt with t | t | t | t | t | t
        all_goals
          rw [t] at q1
          clear t hpt
          have K1 := KK1
          rw [List.nil_append] at K1
          clear X
          go_upto_region 11 with (go_at_call 118; (with_reducible refine callPut K1.out ?_); intro v5 W5 X5 kp)
          have Y5 := kp.blk F Y
          clear K1 kp F Y q0 q1
          have f2 : ∀ d os, (grow (redrawn W5 d) os).cell? ⟨gy, 2, none⟩ = some (.string ⟨y.leg.fix.toArray⟩) := fun d os => (Y5.step (below_regrown W5 d os)).cell 2
          have f18 : ∀ d os, (grow (redrawn W5 d) os).cell? ⟨gy, 18, none⟩ = some (.int .u8 y.sec) := fun d os => (Y5.step (below_regrown W5 d os)).cell 18
          have p1 : ∀ d os, Has_pt (grow (redrawn W5 d) os) gy 14 := fun d os => ⟨_, is_ptE (Y5.step (below_regrown W5 d os))⟩
          have p2 : ∀ d os, of_pt (grow (redrawn W5 d) os) gy 14 = ⟨y.ex, y.ey⟩ := fun d os => of_pt_eq (is_ptE (Y5.step (below_regrown W5 d os)))
          have r1 : ∀ d os, Has_win (grow (redrawn W5 d) os) 4 0 := fun d os => ⟨_, HGw.out _ (X5.step (below_regrown W5 d os)).bel⟩
          have r2 : ∀ d os, of_win (grow (redrawn W5 d) os) 4 0 = ⟨-200000, 6000000⟩ := fun d os => of_win_eq (HGw.out _ (X5.step (below_regrown W5 d os)).bel)
          have c22 : ∀ d os, (grow (redrawn W5 d) os).cell? ⟨g, 22, none⟩ = some (.int .i64 x.e.course) := fun d os => (X5.step (below_regrown W5 d os)).blk.cell 22
          have c23 : ∀ d os, (grow (redrawn W5 d) os).cell? ⟨g, 23, none⟩ = some (.int .i64 x.e.dist) := fun d os => (X5.step (below_regrown W5 d os)).blk.cell 23
          have c24 : ∀ d os, (grow (redrawn W5 d) os).cell? ⟨g, 24, none⟩ = some (.int .u8 x.e.turn) := fun d os => (X5.step (below_regrown W5 d os)).blk.cell 24
          have HX5 := Lib.hid X5
          clear X5 Y5
          refine wp_region_take_tail_below _ 26 (by kernel_rfl) (by kernel_rfl) (fun _ _ _ h => h) (.inl ⟨rfl, fun _ => rfl⟩) ?_
          simp only [Nat.reduceSub, List.take_succ_cons, List.take_zero, List.drop_succ_cons, List.drop_zero, Act.put, List.setIfInBounds_toArray, List.set_cons_zero, List.set_cons_succ]
          repeat (quiet_step (fail))
          refine wpQuiet_nil ?_
          intro _ hw'
          obtain ⟨⟨dq, osq⟩, hw''⟩ := hw'
          subst hw''
          have X6 := HX5.out.step (below_regrown W5 dq osq)
          clear f2 f18 p1 p2 r1 r2 c22 c23 c24 HX5
          generalize grow (redrawn W5 dq) osq = W6 at X6 ⊢
          have K2 := Lib.hid (put_any { x with v := v5 } (x.p.es.take (k + 1)) [holdE x.e y] (some ⟨W6.heap.size, 0, none⟩) 1 1 g w _ (X6.alloc (.cells (holdE x.e y).arr 82)) (ents1 (Blk.new _ _ _)) rfl (by rw [List.length_take]; have := HN.out; omega))
          unfold holdE at K2
          go_wp2_with (first
            | (go_at_call 118; (with_reducible refine callPut K2.out ?_); intro v7 W7 X7 _
               have K3 := Lib.hid (put_any { x with v := v7 } (x.p.es.take (k + 1) ++ [holdE x.e y]) (x.p.es.drop (k + 1)) (subE (some ⟨b, off, none⟩) (k + 1) x.c) (x.c - (k + 1)) (x.p.es.length - (k + 1)) g w W7 X7 ((HEn.out W7 X7.bel).drop HC.out) (by rw [List.length_drop]) (by simp; have := HN.out; omega)))
            | (go_at_call 118; (with_reducible refine callPut K3.out ?_); intro v8 W8 X8 _))
          go_ret
          exact RetRun.keep HS.out X8
end Go.Proofs.YtlggdgpdfepppaaGreatDoor
