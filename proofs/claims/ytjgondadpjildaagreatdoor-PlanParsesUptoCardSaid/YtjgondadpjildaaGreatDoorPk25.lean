/- The reference of layer 21: its decimal numbers, the line of an entry, the text of a plan; walks. A plan out of and into memory: rules of the walk. -/
import Derived.Test.YtjgondadpjildaaGreatDoorPk23
import Derived.Test.YtjgondadpjildaaGreatDoorPk24
import Derived.Test.YtjgondadpjildaaGreatDoorPk15
namespace Go.Proofs.YtjgondadpjildaaGreatDoor
open Go.RowKit Go.Sort
set_option linter.unusedVariables false
set_option linter.unusedSimpArgs false
set_option maxRecDepth 100000
attribute [local go_sem] ba_cat cat_len
theorem rNumber_pos (k : Nat) : ∀ (n : Int) (w : World), n.toNat ≤ k → 0 ≤ n → n ≤ 9223372036854775807 → Calls Tryz.prog 52 #[.int .i64 n] w (Ret w (.string ⟨(Lib.decDigits n.toNat).toArray⟩)) := by
  induction k using Nat.strongRecOn with
  | ind k ih =>
    intro n w hk h0 h1
    by_cases hlt : n < 10
    · have e1 := conv1 w n h0
      have HE := Lib.hid (dec_small (u := n.toNat) (by omega))
      clear ih
      go_enter Tryz.func52, Tryz.ntmps52
      go_wp2
      go_ret
      exact Ret.str (by rw [HE.out]) (alloc_below _ _)
    · have i1 := Lib.hid (fun w => ih (n / 10).toNat (by omega) (n / 10) w (Nat.le_refl _) (by omega) (by omega))
      have HE := Lib.hid (show Lib.decDigits n.toNat = Lib.decDigits (n / 10).toNat ++ [dg (n % 10).toNat] by rw [dec_big (by omega), show n.toNat / 10 = (n / 10).toNat by omega, show n.toNat % 10 = (n % 10).toNat by omega])
      have hl1 : (Lib.decDigits (n / 10).toNat).length ≤ 19 := dec_len (by decide) (by omega)
      have e1 := conv1g (n % 10) (by omega)
      clear ih
      go_enter Tryz.func52, Tryz.ntmps52
      go_wp2
      have q1 : n.tdiv 10 = n / 10 := Int.tdiv_eq_ediv_of_nonneg h0
      have q2 : n.tmod 10 = n % 10 := Int.tmod_eq_emod_of_nonneg h0
      have q3 : IntKind.i64.wrap (n / 10) = n / 10 := IntWalk.i64_in _ (by omega)
      have q4 : IntKind.i64.wrap (n % 10) = n % 10 := IntWalk.i64_in _ (by omega)
      have q5 : IntKind.i64.wrap (48 + n % 10) = 48 + n % 10 := IntWalk.i64_in _ (by omega)
      have q6 : IntKind.u8.wrap (48 + n % 10) = 48 + n % 10 := by simp only [IntKind.wrap, IntKind.bits, IntKind.signed]; simp; omega
      have q7 : ¬ 9223372036854775807 < (Lib.decDigits (n / 10).toNat).length + 1 := by omega
      go_region_with (go_at_call 52; ((with_reducible refine callR (i1.out _) ?_); intro w1 hb1 hc1 hf1 hz1))
      all_goals go_wp2
      all_goals go_ret
      all_goals refine Ret.str (by rw [HE.out]; rfl) ?_
      all_goals first
        | exact below_step (below_step (Below.refl _ _).drew hb1) (alloc_below _ _)
        | exact below_step (alloc_below _ _).drew hb1
        | (go_grown; done)
theorem rNumber_any (n : Int) (w : World) (h0 : -9223372036854775808 ≤ n) (h1 : n ≤ 9223372036854775807) : Calls Tryz.prog 52 #[.int .i64 n] w (Ret w (.string ⟨(Lib.itoa n).toArray⟩)) := by
  by_cases hn : 0 ≤ n
  · have := rNumber_pos n.toNat n w (Nat.le_refl _) hn h1
    obtain ⟨u, rfl⟩ : ∃ u : Nat, n = u := ⟨n.toNat, by omega⟩
    rw [Lib.itoa_nonneg]
    exact this
  · obtain ⟨d, r, hd, hr, hdb, hrb, hrel⟩ : ∃ d r : Nat, n.tdiv 10 = -(d : Int) ∧ n.tmod 10 = -(r : Int) ∧ d ≤ 922337203685477580 ∧ r < 10 ∧ n.natAbs = 10 * d + r := by
      obtain ⟨m, hm, hm2⟩ : ∃ m : Nat, n = -(m : Int) ∧ m ≤ 9223372036854775808 := ⟨n.natAbs, by omega, by omega⟩
      subst hm
      refine ⟨m / 10, m % 10, ?_, ?_, by omega, by omega, by omega⟩
      · rw [Int.neg_tdiv]; rfl
      · rw [Int.neg_tmod]; rfl
    have HI : Hid (Lib.itoa n = 45 :: Lib.decDigits n.natAbs) := Lib.hid (by
      have e : n = -((n.natAbs : Nat) : Int) := by omega
      rw [e, Lib.itoa_neg n.natAbs (by omega)]
      simp)
    have hneg : n < 0 := by omega
    generalize Lib.itoa n = out at HI ⊢
    by_cases hz : d = 0
    · subst hz
      have HE := Lib.hid (show Lib.decDigits n.natAbs = [dg r] by rw [dec_small (by omega)]; congr 2; omega)
      have e1 := conv1 w (r : Int) (by omega)
      rw [Int.toNat_natCast] at e1
      have q1 : n.tdiv 10 = 0 := by simpa using hd
      clear hd hn
      go_enter Tryz.func52, Tryz.ntmps52
      go_wp2
      go_ret
      exact Ret.str (by rw [HI.out, HE.out]; simp [cat]) (alloc_below _ _)
    · have hl1 : (Lib.decDigits d).length ≤ 19 := dec_len (by decide) (by omega)
      have HE := Lib.hid (show Lib.decDigits n.natAbs = Lib.decDigits d ++ [dg r] by rw [dec_big (by omega), show n.natAbs / 10 = d by omega, show n.natAbs % 10 = r by omega])
      have i1 := Lib.hid (fun w => rNumber_pos d (d : Int) w (by omega) (by omega) (by omega))
      rw [Int.toNat_natCast] at i1
      have e1 := fun W => conv1 W (r : Int) (by omega)
      rw [Int.toNat_natCast] at e1
      clear hn
      go_enter Tryz.func52, Tryz.ntmps52
      go_wp2_with (go_at_call 52; ((with_reducible refine callR (i1.out _) ?_); intro w1 hb1 hc1 hf1 hz1))
      go_ret
      exact Ret.str (by rw [HI.out, HE.out]; simp [cat]) (below_step hb1 (alloc_below _ _))
set_option maxHeartbeats 2000000 in
theorem rpoint_any (ref : List UInt8) (x y : Int) (w : World) (hs : ref.length ≤ 4611686018427387904) (hx : i64 x) (hy : i64 y) :
    Calls Tryz.prog 98 #[.agg #[.int .i64 x, .int .i64 y], .string ⟨ref.toArray⟩] w (Ret w (.string ⟨(pointText ref x y).toArray⟩)) := by
  have hO0 := Own1.mk0 w #[.int .i64 x, .int .i64 y] 38
  go_enter Tryz.func98, Tryz.ntmps98
  go_upto_region 1 with (fail)
  generalize w.alloc _ = W at hO0 ⊢
  have hc := hO0.cell
  have hlt := hO0.lt
  have hB := hO0.below
  cases ref with
  | nil => go_wp2; go_ret; exact Ret.str rfl hB
  | cons b r =>
    have h0 : ¬ ((b :: r) = ([] : List UInt8)) := by simp
    have n1 := itoa_len x hx.1 hx.2
    have n2 := itoa_len y hy.1 hy.2
    have k0 := cell_regrown (show W.cell? ⟨w.heap.size, 0, none⟩ = some (.int .i64 x) from hc 0)
    have k1 := cell_regrown (show W.cell? ⟨w.heap.size, 1, none⟩ = some (.int .i64 y) from hc 1)
    have l1 : ¬ 9223372036854775807 < (Lib.itoa x).length + 1 := by omega
    have l2 : ¬ 9223372036854775807 < (Lib.itoa x).length + 1 + (Lib.itoa y).length := by omega
    have cx : ∀ d os, Calls Tryz.prog 52 #[.int .i64 x] (grow (redrawn W d) os) fun e w'' => e = .returned (.string ⟨(Lib.itoa x).toArray⟩) ∧ ∃ p : Regrown, w'' = grow (redrawn W p.d) p.os := fun d os => Calls.regrown_ret (rNumber_any x _ hx.1 hx.2)
    have cy : ∀ d os, Calls Tryz.prog 52 #[.int .i64 y] (grow (redrawn W d) os) fun e w'' => e = .returned (.string ⟨(Lib.itoa y).toArray⟩) ∧ ∃ p : Regrown, w'' = grow (redrawn W p.d) p.os := fun d os => Calls.regrown_ret (rNumber_any y _ hy.1 hy.2)
    go_upto_region 3 with (fail)
    refine wp_region_quiet_below (by kernel_rfl) (by kernel_rfl) ?_
    repeat (quiet_step (with_reducible first | exact cx _ _ | exact cy _ _))
    refine wpQuiet_nil ?_
    intro _ hw'
    obtain ⟨⟨dq, osq⟩, hw''⟩ := hw'
    subst hw''
    go_wp2
    go_ret
    exact Ret.str (by simp [pointText, cat]) (below_step hB (below_regrown W dq osq))
end Go.Proofs.YtjgondadpjildaaGreatDoor
namespace Go.Proofs.YtjgondadpjildaaGreatDoor
open Go.RowKit
set_option linter.unusedVariables false
set_option linter.unusedSimpArgs false
theorem Plan.arr_size (p : Plan) (A : Option Addr) (c : Nat) : (p.arr A c).size = 4 := rfl
theorem Plan.arr_oneL (p : Plan) (A : Option Addr) (c : Nat) : (p.arr A c).toList.all (·.oneCell') = true := by simp [Plan.arr, Value.oneCell']
theorem info_plan : (Tryz.prog.info? 52).map (·.size) = some 4 := by kernel_rfl
def Is_plan (w : World) (b o : Nat) (x : Array Value) : Prop := x.size = 4 ∧ ∀ j, j < 4 → w.cell? ⟨b, o + j, none⟩ = x[j]?
def Has_plan (w : World) (b o : Nat) : Prop := ∃ x, Is_plan w b o x
open Classical in
noncomputable def of_plan (w : World) (b o : Nat) : Array Value := if h : Has_plan w b o then h.choose else #[]
theorem of_plan_spec {w : World} {b o : Nat} (h : Has_plan w b o) : Is_plan w b o (of_plan w b o) := by
  unfold of_plan
  rw [dif_pos h]
  exact h.choose_spec
theorem of_plan_eq {w : World} {b o : Nat} {x : Array Value} (h : Is_plan w b o x) : of_plan w b o = x := by
  have hs := of_plan_spec ⟨x, h⟩
  apply Array.ext_getElem?
  intro j
  rcases Nat.lt_or_ge j 4 with hj | hj
  · exact (hs.2 j hj).symm.trans (h.2 j hj)
  · rw [Array.getElem?_eq_none (by rw [hs.1]; exact hj), Array.getElem?_eq_none (by rw [h.1]; exact hj)]
def load_plan (v : Value) : Sem Value := Instr.loadAt 52 v
theorem load_plan_fold (v : Value) : Instr.loadAt 52 v = load_plan v := rfl
theorem run_load_plan (w : World) (b o : Nat) (h : Has_plan w b o) : (load_plan (.pointer (some ⟨b, o, none⟩))).run Tryz.prog w = .ok (.agg (of_plan w b o)) w := by
  have hs := of_plan_spec h
  generalize of_plan w b o = x at hs
  have hl := run_load_agg (P := Tryz.prog) w ⟨b, o, none⟩ 52 x.toList _ (fun j v hv => by
    rw [addr_add, hs.2 j (by have := (List.getElem?_eq_some_iff.1 hv).1; rw [← hs.1]; simpa using this)]
    simpa using hv) Tryz.underlying52 rfl (by rw [info_plan]; simp [hs.1])
  simp only [load_plan, Instr.loadAt, Instr.sureAddr, Sem.run_bind, Sem.run_pure, Result.andThen_ok]
  simpa using hl
attribute [go_sem ↓] load_plan_fold
attribute [go_sem] run_load_plan
theorem Blk.is_plan {W : World} {g : Nat} {x : Array Value} (h : Blk W g x) (hx : x.size = 4) : Is_plan W g 0 x := ⟨hx, fun j _ => by rw [Nat.zero_add]; exact h.cell j⟩
def store_plan (p v : Value) : Sem Unit := Instr.storeAt 52 p v
theorem store_plan_fold (p v : Value) : Instr.storeAt 52 p v = store_plan p v := rfl
theorem run_storeN_plan (w : World) (c c' : Array Value) (hc : SzIs c 4) (hc' : SzIs c' 4) (h1 : Ones c') :
    (store_plan (.pointer (some ⟨w.heap.size, 0, none⟩)) (.agg c')).run Tryz.prog (w.alloc (.cells c 52)) = .ok () (w.alloc (.cells c' 52)) :=
  run_storeAt_new (P := Tryz.prog) w 52 c c' (by rw [show c'.size = 4 from hc']; exact info_plan) (by rw [show c'.size = 4 from hc', show c.size = 4 from hc]) (Array.all_eq_true_iff_forall_mem.2 fun v hv => (List.all_eq_true.1 (show c'.toList.all (·.oneCell') = true from h1)) v (by simpa using hv))
theorem SzIs_plan (p : Plan) (A : Option Addr) (c n : Nat) : SzIs (p.arr A c) n = (4 = n) := propext ⟨fun h => h, fun h => h⟩
theorem Ones_plan (p : Plan) (A : Option Addr) (c : Nat) : Ones (p.arr A c) = True := eq_true (Plan.arr_oneL p A c)
attribute [go_sem ↓] store_plan_fold
attribute [go_sem] run_storeN_plan SzIs_plan Ones_plan
end Go.Proofs.YtjgondadpjildaaGreatDoor
