/- Blocks of the caller's own that are written: rules of the walk. The form in which an entry may begin: plan.starting and the reference's start. -/
import Derived.Test.YtlggdgpdfepppaaGreatDoorQk08
import Derived.Laws.CopyRow
import Derived.Test.YtlggdgpdfepppaaGreatDoorQk07
import Derived.Test.YtlggdgpdfepppaaGreatDoorQk05
namespace Go.Proofs.YtlggdgpdfepppaaGreatDoor
open Go.RowKit
set_option linter.unusedVariables false
set_option linter.unusedSimpArgs false
theorem Leg.arr_oneL (x : Leg) : x.arr.toList.all (·.oneCell') = true := by simp [Leg.arr, Value.oneCell']
theorem Entry.arr_oneL (x : Entry) : x.arr.toList.all (·.oneCell') = true := by simp [Entry.arr, Value.oneCell']
theorem Pt.arr_oneL (x : Pt) : x.arr.toList.all (·.oneCell') = true := by simp [Pt.arr, Value.oneCell']
theorem Win.arr_oneL (x : Win) : x.arr.toList.all (·.oneCell') = true := by simp [Win.arr, Value.oneCell']
theorem SzIs_leg (x : Leg) (n : Nat) : SzIs x.arr n = (13 = n) := propext ⟨fun h => h, fun h => h⟩
theorem SzIs_ent (x : Entry) (n : Nat) : SzIs x.arr n = (20 = n) := propext ⟨fun h => h, fun h => h⟩
theorem SzIs_pt (x : Pt) (n : Nat) : SzIs x.arr n = (2 = n) := propext ⟨fun h => h, fun h => h⟩
theorem SzIs_win (x : Win) (n : Nat) : SzIs x.arr n = (2 = n) := propext ⟨fun h => h, fun h => h⟩
theorem Fits_ent (x : Entry) (o n : Nat) : Fits o n x.arr = (o + n ≤ 20) := propext ⟨fun h => h, fun h => h⟩
attribute [go_sem] SzIs_leg SzIs_ent SzIs_pt SzIs_win Fits_ent
theorem Ones_leg (x : Leg) : Ones x.arr = True := eq_true (Leg.arr_oneL x)
theorem Ones_ent (x : Entry) : Ones x.arr = True := eq_true (Entry.arr_oneL x)
theorem Ones_pt (x : Pt) : Ones x.arr = True := eq_true (Pt.arr_oneL x)
theorem Ones_win (x : Win) : Ones x.arr = True := eq_true (Win.arr_oneL x)
attribute [go_sem] Ones_leg Ones_ent Ones_pt Ones_win
theorem run_storeB_pt (W : World) (g o : Nat) (v : Array Value) (hv : SzIs v 2) (h1 : Ones v) (hp : Plain W g) (hn : Fits o 2 (blkOf W g)) :
    (store_pt (.pointer (some ⟨g, o, none⟩)) (.agg v)).run Tryz.prog W = .ok () (W.setRow g (splice (blkOf W g) o v)) := run_store_blk W g o 2 _ v info_pt hv h1 hp hn
theorem Blk.is_pt {W : World} {g : Nat} {x : Pt} (h : Blk W g x.arr) : Is_pt W g 0 x := fun j _ => by rw [Nat.zero_add]; exact h.cell j
attribute [go_sem] run_storeB_pt 
theorem run_storeB_win (W : World) (g o : Nat) (v : Array Value) (hv : SzIs v 2) (h1 : Ones v) (hp : Plain W g) (hn : Fits o 2 (blkOf W g)) :
    (store_win (.pointer (some ⟨g, o, none⟩)) (.agg v)).run Tryz.prog W = .ok () (W.setRow g (splice (blkOf W g) o v)) := run_store_blk W g o 2 _ v info_win hv h1 hp hn
attribute [go_sem] run_storeB_win 
theorem run_storeB_leg (W : World) (g o : Nat) (v : Array Value) (hv : SzIs v 13) (h1 : Ones v) (hp : Plain W g) (hn : Fits o 13 (blkOf W g)) :
    (store_leg (.pointer (some ⟨g, o, none⟩)) (.agg v)).run Tryz.prog W = .ok () (W.setRow g (splice (blkOf W g) o v)) := run_store_blk W g o 13 _ v info_leg hv h1 hp hn
theorem Blk.is_leg {W : World} {g : Nat} {x : Leg} (h : Blk W g x.arr) : Is_leg W g 0 x := fun j _ => by rw [Nat.zero_add]; exact h.cell j
attribute [go_sem] run_storeB_leg 
theorem run_storeB_ent (W : World) (g o : Nat) (v : Array Value) (hv : SzIs v 20) (h1 : Ones v) (hp : Plain W g) (hn : Fits o 20 (blkOf W g)) :
    (store_ent (.pointer (some ⟨g, o, none⟩)) (.agg v)).run Tryz.prog W = .ok () (W.setRow g (splice (blkOf W g) o v)) := run_store_blk W g o 20 _ v info_ent hv h1 hp hn
theorem Blk.is_ent {W : World} {g : Nat} {x : Entry} (h : Blk W g x.arr) : Is_ent W g 0 x := fun j _ => by rw [Nat.zero_add]; exact h.cell j
theorem Has_ent_set (W : World) (g : Nat) (x : Entry) (h : Plain W g) : Has_ent (W.setRow g x.arr) g 0 = True := eq_true ⟨x, fun j _ => by rw [Nat.zero_add]; exact cell_set W g j x.arr h⟩
theorem of_ent_set (W : World) (g : Nat) (x : Entry) (h : Plain W g) : of_ent (W.setRow g x.arr) g 0 = x := of_ent_eq fun j _ => by rw [Nat.zero_add]; exact cell_set W g j x.arr h
attribute [go_sem] run_storeB_ent Has_ent_set of_ent_set
theorem run_storeN_pt (w : World) (c c' : Array Value) (hc : SzIs c 2) (hc' : SzIs c' 2) (h1 : Ones c') :
    (store_pt (.pointer (some ⟨w.heap.size, 0, none⟩)) (.agg c')).run Tryz.prog (w.alloc (.cells c 79)) = .ok () (w.alloc (.cells c' 79)) :=
  run_store_pt w c c' hc hc' (Array.all_eq_true_iff_forall_mem.2 fun v hv => (List.all_eq_true.1 (show c'.toList.all (·.oneCell') = true from h1)) v (by simpa using hv))
attribute [go_sem] run_storeN_pt
theorem run_storeN_win (w : World) (c c' : Array Value) (hc : SzIs c 2) (hc' : SzIs c' 2) (h1 : Ones c') :
    (store_win (.pointer (some ⟨w.heap.size, 0, none⟩)) (.agg c')).run Tryz.prog (w.alloc (.cells c 56)) = .ok () (w.alloc (.cells c' 56)) :=
  run_store_win w c c' hc hc' (Array.all_eq_true_iff_forall_mem.2 fun v hv => (List.all_eq_true.1 (show c'.toList.all (·.oneCell') = true from h1)) v (by simpa using hv))
attribute [go_sem] run_storeN_win
theorem run_storeN_leg (w : World) (c c' : Array Value) (hc : SzIs c 13) (hc' : SzIs c' 13) (h1 : Ones c') :
    (store_leg (.pointer (some ⟨w.heap.size, 0, none⟩)) (.agg c')).run Tryz.prog (w.alloc (.cells c 77)) = .ok () (w.alloc (.cells c' 77)) :=
  run_store_leg w c c' hc hc' (Array.all_eq_true_iff_forall_mem.2 fun v hv => (List.all_eq_true.1 (show c'.toList.all (·.oneCell') = true from h1)) v (by simpa using hv))
attribute [go_sem] run_storeN_leg
theorem run_storeN_ent (w : World) (c c' : Array Value) (hc : SzIs c 20) (hc' : SzIs c' 20) (h1 : Ones c') :
    (store_ent (.pointer (some ⟨w.heap.size, 0, none⟩)) (.agg c')).run Tryz.prog (w.alloc (.cells c 82)) = .ok () (w.alloc (.cells c' 82)) :=
  run_store_ent w c c' hc hc' (Array.all_eq_true_iff_forall_mem.2 fun v hv => (List.all_eq_true.1 (show c'.toList.all (·.oneCell') = true from h1)) v (by simpa using hv))
attribute [go_sem] run_storeN_ent
end Go.Proofs.YtlggdgpdfepppaaGreatDoor
namespace Go.Proofs.YtlggdgpdfepppaaGreatDoor
open Go.RowKit
set_option linter.unusedVariables false
set_option linter.unusedSimpArgs false
def startForm (x : Entry) : Entry := ⟨x.gap, ⟨1, x.leg.fix, [], 0, false, 0, 0, 0, 0, x.leg.lo, x.leg.hi, x.leg.speed, x.leg.rnp⟩, x.ex, x.ey, 0, 0, x.sec, x.via⟩
def stF (x : Entry) : Entry := ⟨x.gap, ⟨1, x.leg.fix, [], 0, false, 0, 0, 0, 0, x.leg.lo, x.leg.hi, x.leg.speed, x.leg.rnp⟩, x.ex, x.ey, x.mx, x.my, x.sec, x.via⟩
def startAble (t : Int) : Bool := t == 2 || t == 5 || t == 6
def zeroE : Entry := ⟨false, ⟨0, [], [], 0, false, 0, 0, 0, 0, 0, 0, 0, 0⟩, 0, 0, 0, 0, 0, []⟩
def startOf (x : Entry) : Entry × Bool := if startsB x.leg.ty then (x, true) else if startAble x.leg.ty then (startForm x, true) else (zeroE, false)
theorem Win.arr_mk (a b : Int) : Win.arr ⟨a, b⟩ = #[.int .i64 a, .int .i64 b] := rfl
theorem Pt.arr_mk (a b : Int) : Pt.arr ⟨a, b⟩ = #[.int .i64 a, .int .i64 b] := rfl
attribute [local go_sem] Win.arr_mk Pt.arr_mk
theorem Entry.is_win {W : World} {g : Nat} {x : Entry} (h : Blk W g x.arr) : Is_win W g 10 ⟨x.leg.lo, x.leg.hi⟩ := by
  intro j hj
  rw [h.cell]
  match j, hj with
  | 0, _ | 1, _ => rfl
theorem results_ent {fn : Func} {p t : Tmp} (h : fn.results = #[.cell p 82, .tmp t]) (tmps : Array Value) (w : World) (g : Nat) (x : Entry) (hp : tmps.getD p undef = .pointer (some ⟨g, 0, none⟩)) (hx : Is_ent w g 0 x) :
    (results fn tmps).run Tryz.prog w = .ok (.tuple #[.agg x.arr, tmps.getD t undef]) w := by
  have hp' : tmps[p]?.getD undef = .pointer (some ⟨g, 0, none⟩) := by simpa using hp
  have hl := run_load_agg (P := Tryz.prog) w ⟨g, 0, none⟩ 82 x.arr.toList _ (fun j v hv => by
    rw [addr_add, hx j (by have := (List.getElem?_eq_some_iff.1 hv).1; simpa [Entry.arr_size] using this)]
    simpa using hv) Tryz.underlying82 rfl info_ent
  simp [results, h, hp', asAddr, hl]
theorem Ret.start {w w' : World} {r : Entry × Bool} {x : Entry} {b : Bool} (h : r = (x, b)) (hw : Below w.heap.size w w') : Ret w (.tuple #[r.1.val, .bool r.2]) (.returned (.tuple #[.agg x.arr, .bool b])) w' := by
  subst h; exact ⟨rfl, hw⟩
set_option maxHeartbeats 4000000 in
set_option maxRecDepth 100000 in
theorem starting_any (x : Entry) (w : World) : Calls Tryz.prog 97 #[x.val] w (Ret w (.tuple #[(startOf x).1.val, .bool (startOf x).2])) := by
  obtain ⟨a1, h1⟩ : ∃ a, startsB x.leg.ty = a := ⟨_, rfl⟩
  obtain ⟨a2, h2⟩ : ∃ a, (x.leg.ty == 2) = a := ⟨_, rfl⟩
  obtain ⟨a5, h5⟩ : ∃ a, (x.leg.ty == 5) = a := ⟨_, rfl⟩
  obtain ⟨a6, h6⟩ : ∃ a, (x.leg.ty == 6) = a := ⟨_, rfl⟩
  have hs := Lib.hid (show startOf x = if a1 then (x, true) else if a2 || a5 || a6 then (startForm x, true) else (zeroE, false) by simp [startOf, h1, startAble, h2, h5, h6])
  go_enter Tryz.func97, Tryz.ntmps97
  go_upto_region 1 with (fail)
  generalize hW : (w.alloc _).alloc _ = W
  have X0 : Blk W w.heap.size x.arr := by rw [← hW]; exact (Blk.new w x.arr _).alloc _
  have R0 : Blk W (w.heap.size + 1) zeroE.arr := by rw [← hW, ← World.size_alloc w (.cells x.arr 82)]; exact Blk.new _ _ _
  have B0 : Below w.heap.size w W := by rw [← hW]; go_grown
  clear hW
  have c1 := X0.cell
  have c2 := X0.plain
  have c3 := X0.of
  have c4 : Has_ent W w.heap.size 0 := ⟨x, X0.is_ent⟩
  have c5 : of_ent W w.heap.size 0 = x := of_ent_eq X0.is_ent
  have c6 : Has_win W w.heap.size 10 := ⟨_, Entry.is_win X0⟩
  have c7 : of_win W w.heap.size 10 = ⟨x.leg.lo, x.leg.hi⟩ := of_win_eq (Entry.is_win X0)
  have d1 := R0.cell
  have d2 := R0.plain
  have d3 := R0.of
  have f1 : splice x.arr 1 #[.int .u8 1, .string ⟨x.leg.fix.toArray⟩, .string ⟨#[]⟩, .int .u8 0, .bool false, .int .i64 0, .int .i64 0, .int .i64 0, .int .i64 0, .int .i64 x.leg.lo, .int .i64 x.leg.hi, .int .i64 x.leg.speed, .int .i64 x.leg.rnp] = (stF x).arr := rfl
  have f2 : splice (stF x).arr 16 #[.int .i64 0, .int .i64 0] = (startForm x).arr := rfl
  have f3 : splice zeroE.arr 0 (startForm x).arr = (startForm x).arr := rfl
  have f4 : splice zeroE.arr 0 x.arr = x.arr := rfl
  cases a1
  · cases a2
    · cases a5
      · cases a6
        · go_wp2_with (go_at_call 30; refine callP (starts_any _ _) ?_)
          exact bodyPost_ret (results_ent Tryz.results97 _ _ (w.heap.size + 1) zeroE rfl ((R0.set zeroE.arr).is_ent)) rfl (Ret.start (by rw [hs.out]; rfl) (below_setRow' B0 (by omega) _))
        · go_wp2_with (go_at_call 30; refine callP (starts_any _ _) ?_)
          exact bodyPost_ret (results_ent Tryz.results97 _ _ (w.heap.size + 1) (startForm x) rfl (((R0.far (by omega) _).set _).is_ent)) rfl (Ret.start (by rw [hs.out]; rfl) (below_setRow' (below_setRow' B0 (by omega) _) (by omega) _))
      · go_wp2_with (go_at_call 30; refine callP (starts_any _ _) ?_)
        exact bodyPost_ret (results_ent Tryz.results97 _ _ (w.heap.size + 1) (startForm x) rfl (((R0.far (by omega) _).set _).is_ent)) rfl (Ret.start (by rw [hs.out]; rfl) (below_setRow' (below_setRow' B0 (by omega) _) (by omega) _))
    · go_wp2_with (go_at_call 30; refine callP (starts_any _ _) ?_)
      exact bodyPost_ret (results_ent Tryz.results97 _ _ (w.heap.size + 1) (startForm x) rfl (((R0.far (by omega) _).set _).is_ent)) rfl (Ret.start (by rw [hs.out]; rfl) (below_setRow' (below_setRow' B0 (by omega) _) (by omega) _))
  · go_wp2_with (go_at_call 30; refine callP (starts_any _ _) ?_)
    exact bodyPost_ret (results_ent Tryz.results97 _ _ (w.heap.size + 1) x rfl ((R0.set x.arr).is_ent)) rfl (Ret.start (by rw [hs.out]; rfl) (below_setRow' B0 (by omega) _))
end Go.Proofs.YtlggdgpdfepppaaGreatDoor
