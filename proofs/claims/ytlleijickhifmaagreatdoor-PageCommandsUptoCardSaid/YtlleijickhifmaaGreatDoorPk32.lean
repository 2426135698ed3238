/- Layer 58: the line select keys. -/
import Derived.Test.YtlleijickhifmaaGreatDoorPk31
namespace Go.Proofs.YtlleijickhifmaaGreatDoor
open Go.RowKit Go.Sort
set_option linter.unusedVariables false
set_option linter.unusedSimpArgs false
def zeroPl : Array Value := #[.string ⟨#[]⟩, .string ⟨#[]⟩, .slice none 0 0, .int .i64 0]
theorem run_storeBB_plan (W : World) (g o : Nat) (v : Array Value) (hv : SzIs v 4) (h1 : Ones v) (hp : Plain W g) (hn : Fits o 4 (blkOf W g)) :
    (store_plan (.pointer (some ⟨g, o, none⟩)) (.agg v)).run Tryz.prog W = .ok () (W.setRow g (splice (blkOf W g) o v)) := run_store_blk W g o 4 _ v info_plan hv h1 hp hn
theorem Fits_zeroPl (o n : Nat) : Fits o n zeroPl = (o + n ≤ 4) := propext ⟨fun h => h, fun h => h⟩
theorem splice_zeroPl (p : Plan) (A : Option Addr) (c : Nat) : splice zeroPl 0 (p.arr A c) = p.arr A c := rfl
attribute [local go_sem] run_storeBB_plan Fits_zeroPl splice_zeroPl
set_option maxHeartbeats 4000000 in
set_option maxRecDepth 100000 in
theorem selects58_any (t : Term) (v : Vw) (d : VAd) (arr : Array Value) (hv : v.At d arr) (side : UInt8) (row : Nat) (hrow : row ≤ 4) (g : Nat) (w0 W : World) (hL : Laid w0) (hR : ErrAt w0) (hok : v.ok w0 d) (hB : Below w0.heap.size w0 W) (hg : w0.heap.size ≤ g) (hT : Blk W g t.arr)
    (hpad : t.pad.length ≤ 24) (h0 : 0 ≤ t.first) (h1 : t.first ≤ 1000000) (hs : side = 76 ∨ side = 82) (hn : (shownS v).es.length ≤ 4000000000) :
    Calls Tryz.prog 14 #[.pointer (some ⟨g, 0, none⟩), .agg arr, .int .u8 side.toNat, .int .i64 row] W (RetT W g (selectS t v side row)) := by
  generalize hO : selectS t v side row = out
  go_enter Tryz.func14, Tryz.ntmps14
  go_upto_region 1 with (fail)
  generalize hW : W.alloc _ = W1
  have X0 : Blk W1 W.heap.size arr := by rw [← hW]; exact Blk.new W arr _
  have T0 : Blk W1 g t.arr := by rw [← hW]; exact hT.alloc _
  have B0 : Below w0.heap.size w0 W1 := by rw [← hW]; exact below_step hB ((Below.refl _ _).alloc (Nat.le_refl _) _)
  have K0 : Touch [g] W W1 := by rw [← hW]; exact Touch.of ((Below.refl _ _).alloc (Nat.le_refl _) _)
  clear hW
  generalize W.heap.size = gx at X0
  obtain ⟨k, hk⟩ : ∃ k : Nat, t.first + row = k := ⟨(t.first + row).toNat, by omega⟩
  obtain ⟨sd, hsd⟩ : ∃ sd : Int, (side.toNat : Int) = sd := ⟨_, rfl⟩
  rw [hsd]
  go_cut [10, 11] (fun p q wx => ∃ g2, p = .pointer (some ⟨g2, 0, none⟩) ∧ q = .int .i64 k ∧ Blk wx g2 ((shownS v).arr (d.sA v) (d.sc v)) ∧ Below W1.heap.size W1 wx)
  case first =>
    clear hsd hO
    have q1 : IntKind.i64.wrap (k : Int) = k := IntWalk.i64_in _ (by omega)
    have z : arr.size = 42 := hv.size
    have dr : ∀ w : World, Below w.heap.size w w.drew := fun w => (Below.refl _ _).drew
    have j1 : Has_view W1.drew gx 0 := ⟨_, (X0.step (dr _)).is_view z⟩
    have j2 : of_view W1.drew gx 0 = arr := of_view_eq ((X0.step (dr _)).is_view z)
    have j3 : ∀ o, Has_view (W1.alloc o).drew gx 0 := fun o => ⟨_, ((X0.alloc o).step (dr _)).is_view z⟩
    have j4 : ∀ o, of_view (W1.alloc o).drew gx 0 = arr := fun o => of_view_eq (((X0.alloc o).step (dr _)).is_view z)
    have t1 : W1.cell? ⟨g, 1, none⟩ = some (.int .i64 t.first) := T0.cell 1
    have hgW : g ≠ W1.heap.size := Nat.ne_of_lt T0.lt
    have t3 : g < W1.heap.size := T0.lt
    go_region_with (go_at_call 19; refine callRB (shown_any v d arr hv _) ?_; intro w2 B2; first
      | (have u0 := (T0.step (dr _)).step B2; have u1 : w2.cell? ⟨g, 1, none⟩ = some (.int .i64 t.first) := u0.cell 1; have u3 := u0.lt; have u4 := Lib.hid (below_step (dr _) B2))
      | (have u0 := ((T0.alloc _).step (dr _)).step B2; have u1 : w2.cell? ⟨g, 1, none⟩ = some (.int .i64 t.first) := u0.cell 1; have u5 : ∀ cs, (w2.setRow W1.heap.size cs).cell? ⟨g, 1, none⟩ = some (.int .i64 t.first) := (fun cs => (u0.far hgW cs).cell 1); have v1 : Blk w2 W1.heap.size zeroPl := ((Blk.new W1 zeroPl 26).step (dr _)).step B2; have v2 := v1.plain; have v3 := v1.of; have v4 := Lib.hid v1; have u4 := Lib.hid (below_step (below_step ((Below.refl W1.heap.size W1).alloc (Nat.le_refl _) _) (dr _)) B2)))
    all_goals
      go_wp2
      go_meet
      first
        | exact ⟨_, rfl, rfl, Blk.new _ _ _, below_step u4.out ((Below.refl _ _).alloc (Nat.le_refl _) _)⟩
        | exact ⟨_, rfl, rfl, v4.out.set _, below_setRow' u4.out (Nat.le_refl _) _⟩
  case rest =>
    obtain ⟨g2, rfl, rfl, P1, B1⟩ := hcut
    have T1 := T0.step B1
    have X1 := X0.step B1
    have C1 := below_step B0 B1
    have K1 := K0.trans (Touch.of B1)
    obtain ⟨hsm, hcap, hE⟩ := hok.shown
    unfold selectS at hO
    rw [hk] at hO
    generalize shownS v = p at *
    generalize d.sA v = A at *
    generalize d.sc v = c at *
    have hk4 : k ≤ 4000000000 := by omega
    clear T0 X0 B0 K0 B1 hk
    have t1 := T1.cell
    have t3 := T1.lt
    have x1 := X1.cell
    have p4 := P1.has_plan
    have p5 := P1.of_plan
    have e32 := hv.alerts
    by_cases h1p : t.page = 1
    · rw [if_pos h1p] at hO
      rcases hs with rfl | rfl
      · have : sd = 76 := hsd.symm
        subst this
        rw [if_pos rfl] at hO
        have HS := Lib.hid hO.symm
        clear hO
        go_wp2_with ((go_at_call 26; refine callT (left58_any t p A c k g w0 wc hL hE hn C1 hg T1 hpad hk4) ?_; intro w2 K2 T2; have T2 := Lib.hid T2))
        go_ret2
        exact RetT.of HS.out (K1.trans K2) T2.out
      · have : sd = 82 := hsd.symm
        subst this
        rw [if_neg (by decide)] at hO
        have HS := Lib.hid hO.symm
        clear hO
        go_wp2_with ((go_at_call 27; refine callT (right58_any t p A c k g w0 wc hL hR hE hn C1 hg T1 hpad hk4) ?_; intro w2 K2 T2; have T2 := Lib.hid T2))
        go_ret2
        exact RetT.of HS.out (K1.trans K2) T2.out
    · rw [if_neg h1p] at hO
      have h1b : (t.page == 1) = false := by simpa using h1p
      by_cases h2 : t.page = 2 ∧ side = 76
      · rw [if_pos h2] at hO
        obtain ⟨h2p, rfl⟩ := h2
        have : sd = 76 := hsd.symm
        subst this
        have HX := fixAt_any p A c k wc (hE.below (B := 0) C1) hn hk4
        have HF1 := fixAtV_snd p k
        cases hf : fixAtS p k with
        | none =>
          rw [hf] at hO HF1
          have HS := Lib.hid hO.symm
          have hq : (fixAtV p k).2 = false := HF1
          have HX := Lib.hid HX
          clear hO HF1 hf
          go_wp2_with ((go_at_call 28; refine callRB HX.out ?_; intro w2 B2))
          go_ret2
          exact RetT.mk HS.out (K1.trans (Touch.of B2)) (T1.step B2)
        | some f =>
          rw [hf] at hO
          rw [fixAtV_fst hf] at HX
          have HX := Lib.hid HX
          clear HF1 hf
          by_cases h3 : t.pad = []
          · simp only [h3, ne_eq, not_true_eq_false, if_false] at hO
            have HS := Lib.hid hO.symm
            clear hO
            go_wp2_with (first
              | (go_at_call 28; refine callRB HX.out ?_; intro w2 B2; have T2 := T1.step B2; have u1 := T2.cell; have u3 := T2.lt)
              | (go_at_call 29; refine callT (edit58_any t [68, 73, 82, 69, 67, 84] [] k g w0 _ hL (below_step C1 B2) hg T2 (by decide) (by decide) hk4) ?_; intro w3 K3 T3; have T3 := Lib.hid T3))
            go_ret2
            exact RetT.of HS.out ((K1.trans (Touch.of B2)).trans K3) T3.out
          · simp only [h3, ne_eq, not_false_eq_true, if_true] at hO
            have HS := Lib.hid hO.symm
            have hp3 : t.pad.isEmpty = false := by simpa using h3
            clear hO
            go_wp2_with ((go_at_call 28; refine callRB HX.out ?_; intro w2 B2; have T2 := T1.step B2; have u1 := T2.cell; have u3 := T2.lt))
            go_ret2
            exact RetT.mk HS.out (K1.trans (Touch.of B2)) (T1.step B2)
      · rw [if_neg h2] at hO
        have h2b : (t.page == 2 && sd == 76) = false := by
          rcases hs with rfl | rfl
          · have : t.page ≠ 2 := fun e => h2 ⟨e, rfl⟩
            simp [this]
          · have : sd = 82 := hsd.symm
            subst this; simp
        by_cases h4 : t.page = 4 ∧ side = 76 ∧ (row : Int) = 0 ∧ 0 < v.alerts.length
        · rw [if_pos h4] at hO
          obtain ⟨h4p, rfl, hr, ha⟩ := h4
          have : sd = 76 := hsd.symm
          subst this
          have : row = 0 := by omega
          subst this
          have HS := Lib.hid hO.symm
          have ha' : (0 : Int) < (v.alerts.length : Int) := by omega
          clear hO
          go_wp2
          go_ret2
          exact RetT.mk HS.out K1 T1
        · rw [if_neg h4] at hO
          have HS := Lib.hid hO.symm
          clear hO
          have key : t.page ≠ 4 ∨ (t.page = 4 ∧ (sd = 82 ∨ (sd = 76 ∧ (row ≠ 0 ∨ (row = 0 ∧ v.alerts.length = 0))))) := by
            by_cases a : t.page = 4
            · refine .inr ⟨a, ?_⟩
              rcases hs with rfl | rfl
              · refine .inr ⟨hsd.symm, ?_⟩
                by_cases b : row = 0
                · refine .inr ⟨b, ?_⟩
                  rcases Nat.eq_zero_or_pos v.alerts.length with q | q
                  · exact q
                  · exact absurd ⟨a, rfl, by omega, q⟩ h4
                · exact .inl b
              · exact .inl hsd.symm
            · exact .inl a
          clear h4 h2 hs hsd
          by_cases h2p : t.page = 2
          · have hs2 : (sd == 76) = false := by simpa [h2p] using h2b
            clear h2b key
            go_wp2
            go_ret2
            exact RetT.mk HS.out K1 T1
          · have h2c : (t.page == 2) = false := by simpa using h2p
            clear h2b h2p
            rcases key with a | ⟨a, b | ⟨b, e | ⟨e, f⟩⟩⟩
            · have a' : (t.page == 4) = false := by simpa using a
              clear a
              go_wp2
              go_ret2
              exact RetT.mk HS.out K1 T1
            · subst b
              clear h2c h1b
              go_wp2
              go_ret2
              exact RetT.mk HS.out K1 T1
            · subst b
              have e' : ((row : Int) == 0) = false := by simpa using e
              clear h2c h1b e
              go_wp2
              go_ret2
              exact RetT.mk HS.out K1 T1
            · subst b e
              rw [f] at e32
              clear h2c h1b
              go_wp2
              go_ret2
              exact RetT.mk HS.out K1 T1
end Go.Proofs.YtlleijickhifmaaGreatDoor
