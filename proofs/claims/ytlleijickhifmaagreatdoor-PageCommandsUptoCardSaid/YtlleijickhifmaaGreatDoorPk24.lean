/- Layer 58: the line select keys of the legs page. Layer 58: the reference's line select keys of the legs page. -/
import Derived.Test.YtlleijickhifmaaGreatDoorPk21
import Derived.Test.YtlleijickhifmaaGreatDoorPk02
import Derived.Test.YtlleijickhifmaaGreatDoorPk23
namespace Go.Proofs.YtlleijickhifmaaGreatDoor
open Go.RowKit
set_option linter.unusedVariables false
set_option linter.unusedSimpArgs false
theorem callT {P : Program} {f : FuncId} {args : Array Value} {W : World} {g : Nat} {r : Pressed} {K : Ending → World → Prop} (h : Calls P f args W (RetT W g r))
    (k : ∀ w', Touch [g] W w' → Blk w' g r.1.arr → K (.returned (.tuple #[.string ⟨r.2.1.toArray⟩, .int .i64 r.2.2])) w') : Calls P f args W K :=
  h.mono fun e w' ⟨he, h1, h2⟩ => by subst he; exact k w' h1 h2
theorem RetT.mk {W w' : World} {g : Nat} {r : Pressed} {t : Term} {c : List UInt8} {e : Int} (h : r = (t, c, e)) (h1 : Touch [g] W w') (h2 : Blk w' g t.arr) : RetT W g r (.returned (.tuple #[.string ⟨c.toArray⟩, .int .i64 e])) w' := by subst h; exact ⟨rfl, h1, h2⟩
theorem RetT.of {W w' : World} {g : Nat} {r q : Pressed} (h : r = q) (h1 : Touch [g] W w') (h2 : Blk w' g q.1.arr) : RetT W g r (.returned (.tuple #[.string ⟨q.2.1.toArray⟩, .int .i64 q.2.2])) w' := by subst h; exact ⟨rfl, h1, h2⟩
set_option maxHeartbeats 4000000 in
set_option maxRecDepth 100000 in
theorem left58_any (t : Term) (p : Plan) (A : Option Addr) (c : Nat) (k : Nat) (g : Nat) (w0 W : World) (hL : Laid w0) (hE : Ents w0 A p.es) (hl : p.es.length ≤ 4000000000) (hB : Below w0.heap.size w0 W) (hg : w0.heap.size ≤ g) (hT : Blk W g t.arr) (hpad : t.pad.length ≤ 24) (hk : k ≤ 4000000000) :
    Calls Tryz.prog 26 #[.pointer (some ⟨g, 0, none⟩), .agg (p.arr A c), .int .i64 k] W (RetT W g (leftS t p k)) := by
  generalize hO : leftS t p k = out
  unfold leftS at hO
  go_enter Tryz.func26, Tryz.ntmps26
  go_upto_region 1 with (fail)
  generalize hW : W.alloc _ = W1
  have X0 : Blk W1 W.heap.size (p.arr A c) := by rw [← hW]; exact Blk.new W (p.arr A c) _
  have T0 : Blk W1 g t.arr := by rw [← hW]; exact hT.alloc _
  have B0 : Below w0.heap.size w0 W1 := by rw [← hW]; exact below_step hB ((Below.refl _ _).alloc (Nat.le_refl _) _)
  have K0 : Touch [g] W W1 := by rw [← hW]; exact Touch.of ((Below.refl _ _).alloc (Nat.le_refl _) _)
  clear hW
  have x1 := X0.cell
  have t1 := T0.cell
  have t2 := T0.frozen
  have t3 := T0.lt
  have c4 : Has_plan W1 W.heap.size 0 := ⟨_, X0.is_plan rfl⟩
  have c5 : of_plan W1 W.heap.size 0 = p.arr A c := of_plan_eq (X0.is_plan rfl)
  by_cases hp0 : t.pad = []
  · rw [if_pos hp0] at hO
    have HF1 := Lib.hid (fixAtV_snd p k)
    have HF2 := Lib.hid (fun f (h : fixAtS p k = some f) => fixAtV_fst h)
    have HX := Lib.hid (fixAt_any p A c k W1 (hE.below (B := 0) B0) hl hk)
    cases hf : fixAtS p k with
    | none =>
      rw [hf] at hO
      have HS := Lib.hid hO.symm
      clear hO
      have hq : (fixAtV p k).2 = false := by rw [HF1.out, hf]; rfl
      go_wp2_with ((go_at_call 28; refine callRB HX.out ?_; intro w2 B2))
      go_ret2
      exact RetT.mk HS.out (K0.trans (Touch.of B2)) (T0.step B2)
    | some f =>
      rw [hf] at hO
      have HS := Lib.hid hO.symm
      clear hO
      have hq := HF2.out f hf
      rw [hq] at HX
      clear HF1 HF2 hf
      go_wp2_with ((go_at_call 28; refine callRB HX.out ?_; intro w2 B2; have T2 := T0.step B2; have u1 := T2.cell; have u2 := T2.frozen; have u3 := T2.lt))
      go_ret2
      exact RetT.mk HS.out ((K0.trans (Touch.of B2)).trans (Touch.setCell [g] _ (by simp) 2 _)) (T2.setCell 2 (.string ⟨f.toArray⟩))
  · rw [if_neg hp0] at hO
    by_cases hp1 : t.pad = kDELETE
    · rw [if_pos hp1] at hO
      have hp2 : t.pad = [68, 69, 76, 69, 84, 69] := hp1
      by_cases hlt : k < p.es.length
      · rw [if_neg (by omega)] at hO
        have HS := Lib.hid hO.symm
        clear hO hp0 hp1
        go_wp2_with ((go_at_call 29; refine callT (edit58_any t [68, 69, 76, 69, 84, 69] [] k g w0 W1 hL B0 hg T0 (by decide) (by decide) hk) ?_; intro w2 K2 T2; have T2 := Lib.hid T2))
        go_ret2
        exact RetT.of HS.out (K0.trans K2) T2.out
      · rw [if_pos (by omega)] at hO
        have HS := Lib.hid hO.symm
        clear hO hp0 hp1
        go_wp2
        go_ret2
        exact RetT.mk HS.out K0 T0
    · rw [if_neg hp1] at hO
      have hp3 : (t.pad == []) = false := by simp [hp0]
      have hp4 : (t.pad == [68, 69, 76, 69, 84, 69]) = false := by simpa [kDELETE] using hp1
      by_cases hlt : p.es.length < k
      · rw [if_pos (by omega)] at hO
        have HS := Lib.hid hO.symm
        clear hO hp0 hp1
        go_wp2
        go_ret2
        exact RetT.mk HS.out K0 T0
      · rw [if_neg (by omega)] at hO
        have HR := splitRef_any t.pad W1 (hL.below B0) (by omega)
        generalize splitRef t.pad = sr at HR hO
        obtain ⟨sa, sb, se⟩ := sr
        have HR := Lib.hid HR
        by_cases he : se = 0
        · subst he
          rw [if_neg (by simp)] at hO
          have HS := Lib.hid hO.symm
          have T1 := fun n => T0.step (below_drewN (Below.refl W1.heap.size W1) n)
          have B1 := fun n => below_drewN B0 n
          clear hO hp0 hp1
          go_wp2_with (first
            | (go_at_call 47; refine callQ HR.out ?_; intro n)
            | (go_at_call 29; refine callT (edit58_any t [73, 78, 83, 69, 82, 84] (32 :: t.pad) k g w0 _ hL (B1 _) hg (T1 _) (by decide) (by simp; omega) hk) ?_; intro w2 K2 T2; have T2 := Lib.hid T2))
          go_ret2
          exact RetT.of HS.out ((K0.drewN _).trans K2) T2.out
        · rw [if_pos (by simpa using he)] at hO
          have HS := Lib.hid hO.symm
          clear hO hp0 hp1
          go_wp2_with ((go_at_call 47; refine callQ HR.out ?_; intro n))
          go_ret2
          exact RetT.mk HS.out (K0.drewN _) (T0.step (below_drewN (Below.refl _ _) _))
theorem callE {P : Program} {f : FuncId} {args : Array Value} {W : World} {n : Int} {K : Ending → World → Prop} (h : Calls P f args W (RetE W n)) (k : ∀ v w', Below W.heap.size W w' → K (.returned (.tuple #[.int .i64 v, .int .i64 n])) w') : Calls P f args W K :=
  h.mono fun e w' ⟨v, he, hb⟩ => by subst he; exact k v w' hb
theorem Leg.is_win {W : World} {g : Nat} {x : Leg} (h : Blk W g x.arr) : Is_win W g 9 ⟨x.lo, x.hi⟩ := by
  intro j hj
  rw [h.cell]
  match j, hj with
  | 0, _ | 1, _ => rfl
set_option maxHeartbeats 4000000 in
set_option maxRecDepth 100000 in
theorem right58_any (t : Term) (p : Plan) (A : Option Addr) (c : Nat) (k : Nat) (g : Nat) (w0 W : World) (hL : Laid w0) (hR : ErrAt w0) (hE : Ents w0 A p.es) (hl : p.es.length ≤ 4000000000) (hB : Below w0.heap.size w0 W) (hg : w0.heap.size ≤ g) (hT : Blk W g t.arr) (hpad : t.pad.length ≤ 24) (hk : k ≤ 4000000000) :
    Calls Tryz.prog 27 #[.pointer (some ⟨g, 0, none⟩), .agg (p.arr A c), .int .i64 k] W (RetT W g (rightS t p k)) := by
  generalize hO : rightS t p k = out
  unfold rightS at hO
  go_enter Tryz.func27, Tryz.ntmps27
  go_upto_region 1 with (fail)
  generalize hW : W.alloc _ = W1
  have X0 : Blk W1 W.heap.size (p.arr A c) := by rw [← hW]; exact Blk.new W (p.arr A c) _
  have T0 : Blk W1 g t.arr := by rw [← hW]; exact hT.alloc _
  have B0 : Below w0.heap.size w0 W1 := by rw [← hW]; exact below_step hB ((Below.refl _ _).alloc (Nat.le_refl _) _)
  have K0 : Touch [g] W W1 := by rw [← hW]; exact Touch.of ((Below.refl _ _).alloc (Nat.le_refl _) _)
  clear hW
  have c4 : Has_plan W1 W.heap.size 0 := ⟨_, X0.is_plan rfl⟩
  have c5 : of_plan W1 W.heap.size 0 = p.arr A c := of_plan_eq (X0.is_plan rfl)
  have HX := legAt_any p A c k W1 (hE.below (B := 0) B0) hl hk
  unfold legAtV at HX
  cases hf : legAtS p k with
  | none =>
    rw [hf] at hO HX
    have HS := Lib.hid hO.symm
    have HX := Lib.hid HX
    clear hO
    go_wp2_with ((go_at_call 48; refine callRB HX.out ?_; intro w2 B2))
    go_ret2
    exact RetT.mk HS.out ((K0.trans (Touch.of B2)).trans (Touch.of ((Below.refl _ _).alloc (Nat.le_refl _) _))) ((T0.step B2).alloc _)
  | some l =>
    rw [hf] at hO HX
    have HX := Lib.hid HX
    go_upto_region 2 with ((go_at_call 48; refine callRB HX.out ?_; intro w2 B2))
    generalize hW2 : w2.alloc _ = W2
    have X2 : Blk W2 w2.heap.size l.arr := by rw [← hW2]; exact Blk.new w2 l.arr _
    have T2 : Blk W2 g t.arr := by rw [← hW2]; exact (T0.step B2).alloc _
    have B3 : Below w0.heap.size w0 W2 := by rw [← hW2]; exact below_step (below_step B0 B2) ((Below.refl _ _).alloc (Nat.le_refl _) _)
    have K2 : Touch [g] W W2 := by rw [← hW2]; exact (K0.trans (Touch.of B2)).trans (Touch.of ((Below.refl _ _).alloc (Nat.le_refl _) _))
    clear hW2 c4 c5 X0 T0 B0 K0 HX hf
    have c6 : Has_win W2 w2.heap.size 9 := ⟨_, Leg.is_win X2⟩
    have c7 : of_win W2 w2.heap.size 9 = ⟨l.lo, l.hi⟩ := of_win_eq (Leg.is_win X2)
    have t1 := T2.cell
    have t2 := T2.frozen
    have t3 := T2.lt
    by_cases hp0 : t.pad = []
    · rw [if_pos hp0] at hO
      have HS := Lib.hid hO.symm
      have HWn := Lib.hid (winText_any l.lo l.hi W2 (hL.below B3))
      clear hO
      generalize winT l.lo l.hi = wt at *
      go_wp2_with ((go_at_call 39; refine callRB HWn.out ?_; intro w3 B4; have T3 := T2.step B4; have u1 := T3.cell; have u2 := T3.frozen; have u3 := T3.lt))
      go_ret2
      exact RetT.mk HS.out ((K2.trans (Touch.of B4)).trans (Touch.setCell [g] _ (by simp) 2 _)) (T3.setCell 2 (.string ⟨wt.1.toArray⟩))
    · rw [if_neg hp0] at hO
      have hp3 : (t.pad == []) = false := by simp [hp0]
      have HC := cutPrefix_any 47 t.pad W2
      have hcl := cutPre_len 47 t.pad
      cases hc : (cutPre 47 t.pad).2
      · rw [hc] at HC hO
        have HC := Lib.hid HC
        have HP := Lib.hid (parseWindow_any t.pad W2 (hL.below B3) (by omega))
        simp only [Bool.false_eq_true, if_false] at hO
        generalize parseWinS t.pad = pw at *
        obtain ⟨⟨pa, pb⟩, pe⟩ := pw
        by_cases he : pe = 0
        · subst he
          rw [if_neg (by simp)] at hO
          have HS := Lib.hid hO.symm
          clear hO hp0
          go_wp2_with (first
            | (go_at_call 49; refine callP HC.out ?_)
            | (go_at_call 32; refine callRB HP.out ?_; intro w3 B4; have T3 := (T2.step B4).alloc (.cells (Win.arr ⟨pa, pb⟩) 51); have B5 := below_step B4 ((Below.refl w3.heap.size w3).alloc (Nat.le_refl _) (.cells (Win.arr ⟨pa, pb⟩) 51)); have u1 := T3.cell; have u2 := T3.frozen; have u3 := T3.lt)
            | (go_at_call 29; refine callT (edit58_any t [65, 76, 84] (32 :: t.pad) k g w0 _ hL (below_step B3 B5) hg T3 (by decide) (by simp; omega) hk) ?_; intro w4 K4 T4; have T4 := Lib.hid T4))
          go_ret2
          exact RetT.of HS.out ((K2.trans (Touch.of B5)).trans K4) T4.out
        · rw [if_pos (by simpa using he)] at hO
          have HS := Lib.hid hO.symm
          clear hO hp0
          go_wp2_with (first
            | (go_at_call 49; refine callP HC.out ?_)
            | (go_at_call 32; refine callRB HP.out ?_; intro w3 B4))
          go_ret2
          exact RetT.mk HS.out ((K2.trans (Touch.of B4)).trans (Touch.of ((Below.refl _ _).alloc (Nat.le_refl _) _))) ((T2.step B4).alloc _)
      · rw [hc] at HC hO
        have HC := Lib.hid HC
        simp only [if_true] at hO
        have HN := Lib.hid (parseNum_any (cutPre 47 t.pad).1 W2 (by omega) (hR.below B3))
        generalize (cutPre 47 t.pad).1 = n at *
        by_cases he : speedE n = 0
        · rw [if_neg (by simp [he])] at hO
          rw [he] at HN
          have HS := Lib.hid hO.symm
          clear hO hp0
          go_wp2_with (first
            | (go_at_call 49; refine callP HC.out ?_)
            | (go_at_call 50; refine callE HN.out ?_; intro v w3 B4; have T3 := T2.step B4)
            | (go_at_call 29; refine callT (edit58_any t [83, 80, 68] (32 :: n) k g w0 _ hL (below_step B3 B4) hg T3 (by decide) (by simp; omega) hk) ?_; intro w4 K4 T4; have T4 := Lib.hid T4))
          go_ret2
          exact RetT.of HS.out ((K2.trans (Touch.of B4)).trans K4) T4.out
        · rw [if_pos (by simp [he])] at hO
          generalize speedE n = se at *
          have HS := Lib.hid hO.symm
          clear hO hp0
          go_wp2_with (first
            | (go_at_call 49; refine callP HC.out ?_)
            | (go_at_call 50; refine callE HN.out ?_; intro v w3 B4; have T3 := T2.step B4))
          go_ret2
          exact RetT.mk HS.out (K2.trans (Touch.of B4)) T3
end Go.Proofs.YtlleijickhifmaaGreatDoor
namespace Go.Proofs.YtlleijickhifmaaGreatDoor
open Go.RowKit
set_option linter.unusedVariables false
set_option linter.unusedSimpArgs false
theorem callTR {P : Program} {f : FuncId} {args : Array Value} {W : World} {r : Pressed} {K : Ending → World → Prop} (h : Calls P f args W (RetR W r))
    (k : ∀ w', Below W.heap.size W w' → K (.returned (.tuple #[.agg r.1.arr, .string ⟨r.2.1.toArray⟩, .int .i64 r.2.2])) w') : Calls P f args W K :=
  h.mono fun e w' ⟨he, h1⟩ => by subst he; exact k w' h1
theorem RetR.of {w w' : World} {r q : Pressed} (h : r = q) (hb : Below w.heap.size w w') : RetR w r (.returned (.tuple #[.agg q.1.arr, .string ⟨q.2.1.toArray⟩, .int .i64 q.2.2])) w' := by subst h; exact ⟨rfl, hb⟩
theorem Blk.has_term {W : World} {g : Nat} {t : Term} (h : Blk W g t.arr) : Has_term W g 0 := ⟨t, h.is_term⟩
theorem Blk.of_term {W : World} {g : Nat} {t : Term} (h : Blk W g t.arr) : of_term W g 0 = t := of_term_eq h.is_term
theorem Blk.has_plan {W : World} {g : Nat} {p : Plan} {A : Option Addr} {c : Nat} (h : Blk W g (p.arr A c)) : Has_plan W g 0 := ⟨_, h.is_plan rfl⟩
theorem Blk.of_plan {W : World} {g : Nat} {p : Plan} {A : Option Addr} {c : Nat} (h : Blk W g (p.arr A c)) : of_plan W g 0 = p.arr A c := of_plan_eq (h.is_plan rfl)
/-- The leg with an index lies in memory. -/
theorem leg_lies {w : World} {A : Option Addr} {p : Plan} {k : Nat} {l : Leg} (hE : Ents w A p.es) (h : legAtS p k = some l) :
    k < p.es.length ∧ ∃ b o, A = some ⟨b, o, none⟩ ∧ b < w.heap.size ∧ ∀ j, j < 13 → w.cell? ⟨b, o + k * 20 + 1 + j, none⟩ = l.arr[j]? := by
  by_cases hlt : k < p.es.length
  · refine ⟨hlt, ?_⟩
    rw [legAtS_some hlt] at h
    obtain ⟨b, o, hA, hb, hc⟩ := hE.get hlt
    refine ⟨b, o, hA, hb, fun j hj => ?_⟩
    split at h
    · cases h
    · injection h with h
      rw [Nat.add_assoc, hc (1 + j) (by omega), ← h]
      exact p.es[k].leg_sub j hj
  · rw [legAtS_none hlt] at h; cases h
attribute [local go_sem] run_storeB_term SzIs_term Fits_term Ones_term splice_term
end Go.Proofs.YtlleijickhifmaaGreatDoor
