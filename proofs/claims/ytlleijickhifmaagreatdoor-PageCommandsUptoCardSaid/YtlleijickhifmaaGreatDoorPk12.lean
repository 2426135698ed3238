/- Layer 58: the plan that is shown, the leg at an index. Layer 58: the fix at an index; the edits. -/
import Derived.Test.YtlleijickhifmaaGreatDoorPk10
import Derived.Test.YtlleijickhifmaaGreatDoorPk07
import Derived.Test.YtlleijickhifmaaGreatDoorPk11
namespace Go.Proofs.YtlleijickhifmaaGreatDoor
open Go.RowKit
set_option linter.unusedVariables false
set_option linter.unusedSimpArgs false
def zeroP : Array Value := #[.string ⟨#[]⟩, .string ⟨#[]⟩, .slice none 0 0, .int .i64 0]
theorem run_storeB_plan (W : World) (g o : Nat) (v : Array Value) (hv : SzIs v 4) (h1 : Ones v) (hp : Plain W g) (hn : Fits o 4 (blkOf W g)) :
    (store_plan (.pointer (some ⟨g, o, none⟩)) (.agg v)).run Tryz.prog W = .ok () (W.setRow g (splice (blkOf W g) o v)) := run_store_blk W g o 4 _ v info_plan hv h1 hp hn
theorem Fits_zeroP (o n : Nat) : Fits o n zeroP = (o + n ≤ 4) := rfl
attribute [local go_sem] run_storeB_plan Fits_zeroP
theorem splice_zeroP (p : Plan) (A : Option Addr) (c : Nat) : splice zeroP 0 (p.arr A c) = p.arr A c := rfl
theorem Vw.At.is_active {v : Vw} {d : VAd} {arr : Array Value} (h : v.At d arr) {W : World} {g : Nat} (hb : Blk W g arr) : Is_plan W g 0 (v.active.arr d.A d.c) := ⟨rfl, fun j hj => by rw [hb.cell]; exact h.active j hj⟩
theorem Vw.At.is_temp {v : Vw} {d : VAd} {arr : Array Value} (h : v.At d arr) {W : World} {g : Nat} (hb : Blk W g arr) : Is_plan W g 4 (v.temp.arr d.A2 d.c2) := ⟨rfl, fun j hj => by rw [hb.cell]; exact h.temp j hj⟩
set_option maxHeartbeats 4000000 in
set_option maxRecDepth 100000 in
theorem shown_any (v : Vw) (d : VAd) (arr : Array Value) (h : v.At d arr) (w : World) : Calls Tryz.prog 19 #[.agg arr] w (Ret w ((shownS v).val (d.sA v) (d.sc v))) := by
  go_enter Tryz.func19, Tryz.ntmps19
  go_upto_region 1 with (fail)
  generalize hW : (w.alloc _).alloc _ = W
  have X0 : Blk W w.heap.size arr := by rw [← hW]; exact (Blk.new w arr _).alloc _
  have R0 : Blk W (w.heap.size + 1) zeroP := by rw [← hW, ← World.size_alloc w (.cells arr 44)]; exact Blk.new _ _ _
  have B0 : Below w.heap.size w W := by rw [← hW]; go_grown
  clear hW
  have c1 := X0.cell
  have e8 := h.hasTemp
  have c4 : Has_plan W w.heap.size 0 := ⟨_, h.is_active X0⟩
  have c5 : of_plan W w.heap.size 0 = v.active.arr d.A d.c := of_plan_eq (h.is_active X0)
  have c6 : Has_plan W w.heap.size 4 := ⟨_, h.is_temp X0⟩
  have c7 : of_plan W w.heap.size 4 = v.temp.arr d.A2 d.c2 := of_plan_eq (h.is_temp X0)
  have d2 := R0.plain
  have d3 := R0.of
  have f1 := splice_zeroP
  cases hT : v.hasTemp
  · rw [hT] at e8
    go_wp2
    exact bodyPost_ret (results_agg1 Tryz.results19 _ _ (w.heap.size + 1) (v.active.arr d.A d.c) 4 _ rfl rfl (R0.set _).cell Tryz.underlying26 rfl info_plan) rfl ⟨by simp [shownS, VAd.sA, VAd.sc, hT], below_setRow' B0 (by omega) _⟩
  · rw [hT] at e8
    go_wp2
    exact bodyPost_ret (results_agg1 Tryz.results19 _ _ (w.heap.size + 1) (v.temp.arr d.A2 d.c2) 4 _ rfl rfl (R0.set _).cell Tryz.underlying26 rfl info_plan) rfl ⟨by simp [shownS, VAd.sA, VAd.sc, hT], below_setRow' B0 (by omega) _⟩
def zeroL : Leg := ⟨0, [], [], 0, false, 0, 0, 0, 0, 0, 0, 0, 0⟩
def legAtV (p : Plan) (k : Int) : Leg × Bool := match legAtS p k with | some l => (l, true) | none => (zeroL, false)
theorem legAtS_none {p : Plan} {k : Nat} (h : ¬ k < p.es.length) : legAtS p k = none := by
  unfold legAtS
  rw [Int.toNat_natCast, List.getElem?_eq_none (by omega)]
theorem legAtS_some {p : Plan} {k : Nat} (h : k < p.es.length) : legAtS p k = if p.es[k].gap then none else some p.es[k].leg := by
  unfold legAtS
  rw [Int.toNat_natCast, List.getElem?_eq_getElem h]
theorem Entry.is_legAt {W : World} {b o k : Nat} {x : Entry} (h : ∀ j, j < 20 → W.cell? ⟨b, o + k * 20 + j, none⟩ = x.arr[j]?) : Is_leg W b (o + k * 20 + 1) x.leg := by
  intro j hj
  rw [Nat.add_assoc, h (1 + j) (by omega)]
  exact x.leg_sub j hj
set_option maxHeartbeats 4000000 in
set_option maxRecDepth 100000 in
theorem legAt_any (p : Plan) (A : Option Addr) (c : Nat) (k : Nat) (w : World) (hE : Ents w A p.es) (hl : p.es.length ≤ 4000000000) (hk : k ≤ 4000000000) :
    Calls Tryz.prog 48 #[.agg (p.arr A c), .int .i64 k] w (Ret w (.tuple #[.agg (legAtV p k).1.arr, .bool (legAtV p k).2])) := by
  go_enter Tryz.func48, Tryz.ntmps48
  go_upto_region 1 with (fail)
  generalize hW : (w.alloc _).alloc _ = W
  have X0 : Blk W w.heap.size (p.arr A c) := by rw [← hW]; exact (Blk.new w (p.arr A c) _).alloc _
  have R0 : Blk W (w.heap.size + 1) zeroL.arr := by rw [← hW, ← World.size_alloc w (.cells (p.arr A c) 26)]; exact Blk.new _ _ _
  have B0 : Below w.heap.size w W := by rw [← hW]; go_grown
  clear hW
  have c1 := X0.cell
  have d2 := R0.plain
  have d3 := R0.of
  have f1 : ∀ l : Leg, splice zeroL.arr 0 l.arr = l.arr := fun l => rfl
  have q0 := R0.set
  by_cases hlt : k < p.es.length
  · obtain ⟨b, o, rfl, hb, hc⟩ := hE.get hlt
    have HS := Lib.hid (legAtS_some hlt)
    have HC : ∀ j, j < 20 → W.cell? ⟨b, o + k * 20 + j, none⟩ = p.es[k].arr[j]? := fun j hj => by rw [B0.cell (p := ⟨b, _, none⟩) hb]; exact hc j hj
    generalize p.es[k] = x at HS HC
    have HG := HC 0 (by omega)
    rw [Nat.add_zero] at HG
    have HG2 : x.arr[0]? = some (.bool x.gap) := rfl
    rw [HG2] at HG
    have c4 : Has_leg W b (o + k * 20 + 1) := ⟨_, Entry.is_legAt HC⟩
    have c5 : of_leg W b (o + k * 20 + 1) = x.leg := of_leg_eq (Entry.is_legAt HC)
    clear HC hc HG2
    cases hg : x.gap
    · rw [hg] at HG HS
      go_wp2
      exact bodyPost_ret (results_agg Tryz.results48 _ _ (w.heap.size + 1) x.leg.arr 13 _ rfl rfl (R0.set _).cell Tryz.underlying77 rfl info_leg) rfl ⟨by simp [legAtV, HS.out], below_setRow' B0 (by omega) _⟩
    · rw [hg] at HG HS
      go_wp2
      exact bodyPost_ret (results_agg Tryz.results48 _ _ (w.heap.size + 1) zeroL.arr 13 _ rfl rfl (R0.set _).cell Tryz.underlying77 rfl info_leg) rfl ⟨by simp [legAtV, HS.out], below_setRow' B0 (by omega) _⟩
  · have HS := Lib.hid (legAtS_none (p := p) hlt)
    go_wp2
    exact bodyPost_ret (results_agg Tryz.results48 _ _ (w.heap.size + 1) zeroL.arr 13 _ rfl rfl (R0.set _).cell Tryz.underlying77 rfl info_leg) rfl ⟨by simp [legAtV, HS.out], below_setRow' B0 (by omega) _⟩
end Go.Proofs.YtlleijickhifmaaGreatDoor
namespace Go.Proofs.YtlleijickhifmaaGreatDoor
open Go.RowKit
set_option linter.unusedVariables false
set_option linter.unusedSimpArgs false
theorem callRB {P : Program} {f : FuncId} {args : Array Value} {W : World} {v : Value} {K : Ending → World → Prop} (h : Calls P f args W (Ret W v)) (k : ∀ w', Below W.heap.size W w' → K (.returned v) w') : Calls P f args W K :=
  h.mono fun e w' ⟨he, hw⟩ => by subst he; exact k w' hw
def fixAtV (p : Plan) (k : Int) : List UInt8 × Bool := ((legAtV p k).1.fix, (legAtV p k).2 && endsB (legAtV p k).1.ty)
theorem fixAtV_snd (p : Plan) (k : Int) : (fixAtV p k).2 = (fixAtS p k).isSome := by
  unfold fixAtV legAtV fixAtS
  cases legAtS p k with
  | none => rfl
  | some l => cases h : endsB l.ty <;> simp [h]
theorem fixAtV_fst {p : Plan} {k : Int} {f : List UInt8} (h : fixAtS p k = some f) : fixAtV p k = (f, true) := by
  unfold fixAtS at h
  unfold fixAtV legAtV
  cases hl : legAtS p k with
  | none => rw [hl] at h; cases h
  | some l =>
    rw [hl] at h
    cases hb : endsB l.ty with
    | false => simp [hb] at h
    | true => simp [hb] at h; simp [h, hb]
set_option maxHeartbeats 4000000 in
set_option maxRecDepth 100000 in
theorem fixAt_any (p : Plan) (A : Option Addr) (c : Nat) (k : Nat) (w : World) (hE : Ents w A p.es) (hl : p.es.length ≤ 4000000000) (hk : k ≤ 4000000000) :
    Calls Tryz.prog 28 #[.agg (p.arr A c), .int .i64 k] w (Ret w (.tuple #[.string ⟨(fixAtV p k).1.toArray⟩, .bool (fixAtV p k).2])) := by
  go_enter Tryz.func28, Tryz.ntmps28
  go_upto_region 1 with (fail)
  generalize hW : w.alloc _ = W
  have X0 : Blk W w.heap.size (p.arr A c) := by rw [← hW]; exact Blk.new w (p.arr A c) _
  have B0 : Below w.heap.size w W := by rw [← hW]; go_grown
  clear hW
  have c4 : Has_plan W w.heap.size 0 := ⟨_, X0.is_plan rfl⟩
  have c5 : of_plan W w.heap.size 0 = p.arr A c := of_plan_eq (X0.is_plan rfl)
  have hF := Lib.hid (show fixAtV p k = ((legAtV p k).1.fix, (legAtV p k).2 && endsB (legAtV p k).1.ty) from rfl)
  go_wp2_with (first
    | (go_at_call 48; refine callRB (legAt_any _ _ _ _ _ (hE.below (B := 0) B0) hl hk) ?_; intro w1 B1; have B2 := below_step B0 B1; generalize legAtV p k = q at hF ⊢; obtain ⟨l, b⟩ := q; cases b))
  all_goals
    go_quiet ((go_at_call 51; exact quietP (ends_any _ _)))
    go_wp2
    go_ret2
    exact ⟨by rw [hF.out]; rfl, below_drewN (below_step B2 ((Below.refl _ _).alloc (Nat.le_refl _) _)) _⟩
end Go.Proofs.YtlleijickhifmaaGreatDoor
