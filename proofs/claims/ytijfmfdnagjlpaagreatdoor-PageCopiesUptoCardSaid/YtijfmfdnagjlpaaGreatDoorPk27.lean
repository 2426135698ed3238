/- Layer 58: the reference's line select keys of the legs page. -/
import Derived.Test.YtijfmfdnagjlpaaGreatDoorPk26
namespace Go.Proofs.YtijfmfdnagjlpaaGreatDoor
open Go.RowKit
set_option linter.unusedVariables false
set_option linter.unusedSimpArgs false
theorem callTR {P : Program} {f : FuncId} {args : Array Value} {W : World} {r : Pressed} {K : Ending → World → Prop} (h : Calls P f args W (RetR W r))
    (k : ∀ w', Below W.heap.size W w' → K (.returned (.tuple #[.agg r.1.arr, .string ⟨r.2.1.toArray⟩, .int .i64 r.2.2])) w') : Calls P f args W K :=
  h.mono fun e w' ⟨he, h1⟩ => by subst he; exact k w' h1
theorem RetR.of {w w' : World} {r q : Pressed} (h : r = q) (hb : Below w.heap.size w w') : RetR w r (.returned (.tuple #[.agg q.1.arr, .string ⟨q.2.1.toArray⟩, .int .i64 q.2.2])) w' := by subst h; exact ⟨rfl, hb⟩
theorem Blk.has_term {W : World} {g : Nat} {t : Term} (h : Blk W g t.arr) : Has_term W g 0 := ⟨t, h.is_term⟩
theorem Blk.of_term {W : World} {g : Nat} {t : Term} (h : Blk W g t.arr) : of_term W g 0 = t := of_term_eq h.is_term
theorem Blk.has_plan {W : World} {g : Nat} {p : Plan} {A : Option Addr} {c : Nat} (h : Blk W g (p.arr A c)) : Has_plan W g 0 := ⟨_, h.is_plan rfl⟩
theorem Blk.of_plan {W : World} {g : Nat} {p : Plan} {A : Option Addr} {c : Nat} (h : Blk W g (p.arr A c)) : of_plan W g 0 = p.arr A c := of_plan_eq (h.is_plan rfl)
/-- The leg with an index lies in memory. -/
theorem leg_lies {w : World} {A : Option Addr} {p : Plan} {k : Nat} {l : Leg} (hE : Ents w A p.es) (h : legAtS p k = some l) :
    k < p.es.length ∧ ∃ b o, A = some ⟨b, o, none⟩ ∧ b < w.heap.size ∧ ∀ j, j < 13 → w.cell? ⟨b, o + k * 20 + 1 + j, none⟩ = l.arr[j]? := by
  by_cases hlt : k < p.es.length
  · refine ⟨hlt, ?_⟩
    rw [legAtS_some hlt] at h
    obtain ⟨b, o, hA, hb, hc⟩ := hE.get hlt
    refine ⟨b, o, hA, hb, fun j hj => ?_⟩
    split at h
    · cases h
    · injection h with h
      rw [Nat.add_assoc, hc (1 + j) (by omega), ← h]
      exact p.es[k].leg_sub j hj
  · rw [legAtS_none hlt] at h; cases h
attribute [local go_sem] run_storeB_term SzIs_term Fits_term Ones_term splice_term
set_option maxHeartbeats 4000000 in
set_option maxRecDepth 100000 in
theorem rleft58_any (t : Term) (p : Plan) (A : Option Addr) (c : Nat) (k : Nat) (w : World) (hE : Ents w A p.es) (hl : p.es.length ≤ 4000000000) (hpad : t.pad.length ≤ 24) (hk : k ≤ 4000000000) :
    Calls Tryz.prog 43 #[.agg t.arr, .agg (p.arr A c), .int .i64 k] w (RetR w (leftS t p k)) := by
  generalize hO : leftS t p k = out
  unfold leftS at hO
  go_enter Tryz.func43, Tryz.ntmps43
  go_upto_region 1 with (fail)
  generalize hW : ((w.alloc _).alloc _).alloc _ = W
  have X0 : Blk W w.heap.size t.arr := by rw [← hW]; exact ((Blk.new w t.arr _).alloc _).alloc _
  have P0 : Blk W (w.heap.size + 1) (p.arr A c) := by rw [← hW, ← World.size_alloc w (.cells t.arr 23)]; exact (Blk.new _ _ _).alloc _
  have R0 : Blk W (w.heap.size + 2) zeroT.arr := by
    rw [← hW]
    have := Blk.new ((w.alloc (.cells t.arr 23)).alloc (.cells (p.arr A c) 26)) zeroT.arr 23
    simp only [World.size_alloc] at this
    exact this
  have B0 : Below w.heap.size w W := by rw [← hW]; go_grown
  have hle : w.heap.size ≤ w.heap.size + 2 := Nat.le_add_right _ _
  clear hW
  have x1 := X0.cell
  have x2 := X0.frozen
  have x3 := X0.lt
  have x4 := X0.has_term
  have x5 := X0.of_term
  have p1 := P0.cell
  have p4 := P0.has_plan
  have p5 := P0.of_plan
  have r2 := R0.plain
  have r3 := R0.of
  by_cases hp0 : t.pad = []
  · rw [if_pos hp0] at hO
    have HX := isLeg_any p A c k W (hE.below (B := 0) B0) hl hk
    have hfx : fixAtS p k = match legAtS p k with | some l => if endsB l.ty then some l.fix else none | none => none := rfl
    cases hf : legAtS p k with
    | none =>
      rw [hf] at hfx HX
      rw [hfx] at hO
      have HS := Lib.hid hO.symm
      have HX := Lib.hid HX
      clear hO hfx hf
      go_wp2_with ((go_at_call 45; refine callRB HX.out ?_; intro w2 B2; have y4 := (X0.step B2).has_term; have y5 := (X0.step B2).of_term; have s2 := (R0.step B2).plain; have s3 := (R0.step B2).of; have s4 := Lib.hid (R0.step B2); have B3 := below_step B0 B2))
      exact bodyPost_ret (results_agg3 Tryz.results43 _ _ (w.heap.size + 2) t.arr 3 _ rfl rfl (s4.out.set _).cell Tryz.underlying23 rfl info_term) rfl (RetR.mk HS.out (below_setRow' B3 hle _))
    | some l =>
      obtain ⟨hlt, b, o, rfl, hb, hc⟩ := leg_lies hE hf
      rw [hf] at hfx HX
      have HX := Lib.hid HX
      clear hf
      simp only at hfx
      have hcW : ∀ j, j < 13 → W.cell? ⟨b, o + k * 20 + 1 + j, none⟩ = l.arr[j]? := fun j hj => by rw [B0.cell (p := ⟨b, _, none⟩) hb]; exact hc j hj
      have hbW : b < W.heap.size := Nat.lt_of_lt_of_le hb B0.size
      clear hc
      cases he : endsB l.ty
      · rw [he] at hfx
        rw [hfx] at hO
        have HS : Hid (out = (t, [], 6)) := Lib.hid hO.symm
        have HEn := Lib.hid (fun w => rends_any l.ty w)
        rw [he] at HEn
        clear hO hfx
        go_wp2_with (first
          | (go_at_call 45; refine callRB HX.out ?_; intro w2 B2; have y1 := (P0.step B2).cell; have y4 := (X0.step B2).has_term; have y5 := (X0.step B2).of_term; have s2 := (R0.step B2).plain; have s3 := (R0.step B2).of; have s4 := Lib.hid (R0.step B2); have B3 := below_step B0 B2
             have e1 : w2.cell? ⟨b, o + k * 20 + 1, none⟩ = some (.int .u8 l.ty) := (by rw [B2.cell (p := ⟨b, _, none⟩) hbW]; exact hcW 0 (by omega)))
          | (go_at_call 46; refine callP (HEn.out _) ?_))
        exact bodyPost_ret (results_agg3 Tryz.results43 _ _ (w.heap.size + 2) t.arr 3 _ rfl rfl (s4.out.set _).cell Tryz.underlying23 rfl info_term) rfl (RetR.mk HS.out (below_setRow' B3 hle _))
      · rw [he] at hfx
        rw [hfx] at hO
        have HS : Hid (out = ({ t with pad := l.fix }, [], 0)) := Lib.hid hO.symm
        have HEn := Lib.hid (fun w => rends_any l.ty w)
        rw [he] at HEn
        clear hO hfx
        go_upto_region 5 with (first
          | (go_at_call 45; refine callRB HX.out ?_; intro w2 B2; have y1 := (P0.step B2).cell; have y4 := (X0.step B2).has_term; have y5 := (X0.step B2).of_term; have s2 := (R0.step B2).plain; have s3 := (R0.step B2).of; have s4 := Lib.hid (R0.step B2); have B3 := below_step B0 B2; have y6 := (X0.step B2).cell; have y7 := (X0.step B2).frozen; have y8 := (X0.step B2).lt; have s5 := Lib.hid (X0.step B2)
             have e2 : w2.cell? ⟨b, o + k * 20 + 2, none⟩ = some (.string ⟨l.fix.toArray⟩) := (by rw [B2.cell (p := ⟨b, _, none⟩) hbW]; exact hcW 1 (by omega))
             have e1 : w2.cell? ⟨b, o + k * 20 + 1, none⟩ = some (.int .u8 l.ty) := (by rw [B2.cell (p := ⟨b, _, none⟩) hbW]; exact hcW 0 (by omega)))
          | (go_at_call 46; refine callP (HEn.out _) ?_))
        generalize hW3 : w2.setCell _ _ = W3
        have X3 : Blk W3 w.heap.size ({ t with pad := l.fix } : Term).arr := by rw [← hW3]; exact s5.out.setCell 2 _
        have R3 : Blk W3 (w.heap.size + 2) zeroT.arr := by rw [← hW3]; exact s4.out.setFar (by omega) 2 _
        have B4 : Below w.heap.size w W3 := by rw [← hW3]; exact below_setCell B3 (Nat.le_refl _) _ _
        clear hW3 y4 y5 s2 s3 y6 y7 y8
        have z4 := X3.has_term
        have z5 := X3.of_term
        have z6 := R3.plain
        have z7 := R3.of
        go_wp2
        exact bodyPost_ret (results_agg3 Tryz.results43 _ _ (w.heap.size + 2) ({ t with pad := l.fix } : Term).arr 3 _ rfl rfl (R3.set _).cell Tryz.underlying23 rfl info_term) rfl (RetR.mk HS.out (below_setRow' B4 hle _))
  · rw [if_neg hp0] at hO
    by_cases hp1 : t.pad = kDELETE
    · rw [if_pos hp1] at hO
      have hp2 : t.pad = [68, 69, 76, 69, 84, 69] := hp1
      by_cases hlt : k < p.es.length
      · rw [if_neg (by omega)] at hO
        have HS := Lib.hid hO.symm
        have HE := redit58_any t [68, 69, 76, 69, 84, 69] [] k W (by decide) (by decide) hk
        rw [if_pos rfl] at HE
        change Calls _ _ _ _ (RetR W (editS t kDELETE k [])) at HE
        generalize editS t kDELETE k [] = q at HE HS
        have HE := Lib.hid HE
        clear hO hp0 hp1
        go_wp2_with ((go_at_call 47; refine callTR HE.out ?_; intro w2 B2; have s2 := (R0.step B2).plain; have s3 := (R0.step B2).of; have s4 := Lib.hid (R0.step B2); have B3 := below_step B0 B2))
        exact bodyPost_ret (results_agg3 Tryz.results43 _ _ (w.heap.size + 2) q.1.arr 3 _ rfl rfl (s4.out.set _).cell Tryz.underlying23 rfl info_term) rfl (RetR.of HS.out (below_setRow' B3 hle _))
      · rw [if_pos (by omega)] at hO
        have HS := Lib.hid hO.symm
        clear hO hp0 hp1
        go_wp2
        exact bodyPost_ret (results_agg3 Tryz.results43 _ _ (w.heap.size + 2) t.arr 3 _ rfl rfl (R0.set _).cell Tryz.underlying23 rfl info_term) rfl (RetR.mk HS.out (below_setRow' B0 hle _))
    · rw [if_neg hp1] at hO
      have hp3 : (t.pad == []) = false := by simp [hp0]
      have hp4 : (t.pad == [68, 69, 76, 69, 84, 69]) = false := by simpa [kDELETE] using hp1
      by_cases hlt : p.es.length < k
      · rw [if_pos (by omega)] at hO
        have HS := Lib.hid hO.symm
        clear hO hp0 hp1
        go_wp2
        exact bodyPost_ret (results_agg3 Tryz.results43 _ _ (w.heap.size + 2) t.arr 3 _ rfl rfl (R0.set _).cell Tryz.underlying23 rfl info_term) rfl (RetR.mk HS.out (below_setRow' B0 hle _))
      · rw [if_neg (by omega)] at hO
        have HR := rsplitRef_any t.pad W (by omega)
        generalize splitRef t.pad = sr at HR hO
        obtain ⟨sa, sb, se⟩ := sr
        have HR := Lib.hid HR
        by_cases he : se = 0
        · subst he
          rw [if_neg (by simp)] at hO
          have HS := Lib.hid hO.symm
          have HE := fun W' => redit58_any t [73, 78, 83, 69, 82, 84] t.pad k W' (by decide) (by omega) hk
          rw [if_neg hp0] at HE
          generalize editS t [73, 78, 83, 69, 82, 84] k (32 :: t.pad) = q at HE HS
          have HE := Lib.hid HE
          clear hO hp0 hp1
          go_wp2_with (first
            | (go_at_call 64; refine callQ HR.out ?_; intro n; have Q1 := Lib.hid (below_drewN (Below.refl W.heap.size W) n))
            | (go_at_call 47; refine callTR (HE.out _) ?_; intro w2 B2; have s2 := ((R0.step Q1.out).step B2).plain; have s3 := ((R0.step Q1.out).step B2).of; have s4 := Lib.hid ((R0.step Q1.out).step B2); have B3 := below_step (below_step B0 Q1.out) B2))
          exact bodyPost_ret (results_agg3 Tryz.results43 _ _ (w.heap.size + 2) q.1.arr 3 _ rfl rfl (s4.out.set _).cell Tryz.underlying23 rfl info_term) rfl (RetR.of HS.out (below_setRow' B3 hle _))
        · rw [if_pos (by simpa using he)] at hO
          have HS := Lib.hid hO.symm
          clear hO hp0 hp1
          go_wp2_with ((go_at_call 64; refine callQ HR.out ?_; intro n; have Q1 := Lib.hid (below_drewN (Below.refl W.heap.size W) n); have s2 := (R0.step Q1.out).plain; have s3 := (R0.step Q1.out).of; have x6 := (X0.step Q1.out).has_term; have x7 := (X0.step Q1.out).of_term; have B3 := below_step B0 Q1.out))
          exact bodyPost_ret (results_agg3 Tryz.results43 _ _ (w.heap.size + 2) t.arr 3 _ rfl rfl ((R0.step Q1.out).set _).cell Tryz.underlying23 rfl info_term) rfl (RetR.mk HS.out (below_setRow' B3 hle _))
end Go.Proofs.YtijfmfdnagjlpaaGreatDoor
