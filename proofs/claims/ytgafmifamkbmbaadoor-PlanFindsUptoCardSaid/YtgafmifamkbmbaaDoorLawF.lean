/- The statement's function PlanFinds returns true. -/
import Derived.Test.YtgafmifamkbmbaaDoorAwake
import Derived.Test.YtgafmifamkbmbaaDoorFind
import Derived.Deep.RegionHeld3
namespace Go.Proofs.YtgafmifamkbmbaaDoor
open Go.RowKit Go.Sort
set_option linter.unusedVariables false
set_option linter.unusedSimpArgs false
theorem Strs.below {W W' : World} {A : Option Addr} {ss : List (List UInt8)} (h : Strs W A ss) (hb : Below W.heap.size W W') : Strs W' A ss :=
  ⟨fun hne => by
    obtain ⟨b, o, hA, hlt, hc⟩ := h.at_ hne
    exact ⟨b, o, hA, Nat.lt_of_lt_of_le hlt hb.size, fun i s hs => by rw [hb.cell (p := ⟨b, _, none⟩) hlt]; exact hc i s hs⟩⟩
theorem fixesGo_len : ∀ (es : List Entry), (fixesGo es).length ≤ es.length
  | [] => by simp [fixesGo]
  | x :: r => by have := fixesGo_len r; unfold fixesGo; split <;> simp <;> omega
theorem sameB_self (p : Plan) : sameB p p = true := by simp [sameB, (eqGo_iff p.es p.es).2 rfl]
def FXRel (fx : List (List UInt8)) (W : World) (a b : Value) (wx : World) : Prop :=
  ∃ A B ca cb, a = .slice A fx.length ca ∧ b = .slice B fx.length cb ∧ fx.length ≤ ca ∧ fx.length ≤ cb ∧ Strs wx A fx ∧ Strs wx B fx ∧ Below W.heap.size W wx
theorem SOut.strs {w0 W : World} {v : Value} {ss : List (List UInt8)} (h : SOut w0 W v ss) : ∃ A c, v = .slice A ss.length c ∧ ss.length ≤ c ∧ Strs W A ss := h.form
set_option maxHeartbeats 4000000 in
set_option maxRecDepth 100000 in
theorem lawFinds_any (p q r : Plan) (A B C : Option Addr) (ca cb cc : Nat) (w : World) (hL : Laid w) (hp : p.small) (hq : q.small) (hpl : p.es.length ≤ 9000000) (hql : q.es.length ≤ 9000000) (hca : p.es.length ≤ ca) (hcb : q.es.length ≤ cb) (hE : Ents w A p.es) (hF : Ents w B q.es) :
    Calls Tryd.prog 8 #[p.val A ca, q.val B cb, r.val C cc] w (Ret w (.bool true)) := by
  go_enter Tryd.func8, Tryd.ntmps8
  go_upto_region 1 with (fail)
  generalize hW : ((w.alloc _).alloc _).alloc _ = W
  have P0 : Blk W w.heap.size (p.arr A ca) := by rw [← hW]; exact ((Blk.new w _ _).alloc _).alloc _
  have Q0 : Blk W (w.heap.size + 1) (q.arr B cb) := by rw [← hW, ← World.size_alloc w (.cells (p.arr A ca) 24)]; exact (Blk.new _ _ _).alloc _
  have R0 : Blk W (w.heap.size + 1 + 1) (r.arr C cc) := by rw [← hW, ← World.size_alloc w (.cells (p.arr A ca) 24), ← World.size_alloc (w.alloc (.cells (p.arr A ca) 24)) (.cells (q.arr B cb) 24)]; exact Blk.new _ _ _
  have B0 : Below w.heap.size w W := by rw [← hW]; go_grown
  have L0 := hL.below B0
  have E0 := hE.below (B := 0) B0
  have F0 := hF.below (B := 0) B0
  clear hW
  go_upto_region 3 with (go_at_call 9; refine callR (awake_any W L0) ?_; intro w1 hb1 hc1 hf1 hz1)
  have P1 := P0.step hb1
  have Q1 := Q0.step hb1
  have R1 := R0.step hb1
  have B1 := below_step B0 hb1
  have E1 := E0.below (B := 0) hb1
  have F1 := F0.below (B := 0) hb1
  clear hc1 hf1 hz1 hb1 P0 Q0 R0 B0 L0 E0 F0
  generalize w.heap.size + 1 + 1 = gr at R1 ⊢
  generalize w.heap.size + 1 = gq at Q1 ⊢
  generalize w.heap.size = gp at P1 ⊢
  have hfl := fixesGo_len p.es
  go_cut [7, 8] (fun a b wx => FXRel (fixesGo p.es) w1 a b wx)
  case first =>
    have D1 : Below w1.heap.size w1 w1.drew := (Below.refl _ _).drew
    have E1d := E1.below (B := 0) D1
    have P1d := P1.step D1
    have i1 : Has_plan w1.drew gp 0 := ⟨_, P1d.is_plan rfl⟩
    have i2 : of_plan w1.drew gp 0 = p.arr A ca := of_plan_eq (P1d.is_plan rfl)
    go_region_held3 (fun w' => Has_plan w' gp 0 ∧ of_plan w' gp 0 = p.arr A ca) (first | exact ⟨i1, i2⟩ | exact ⟨i3, i4⟩ | exact ⟨i5, i6⟩) (first
      | (go_at_call 20; refine callStrs (fixes_any p A ca w1.drew (by omega) hca E1d) ?_; intro v2 w2 O2 B2
         have i3 : Has_plan w2 gp 0 := ⟨_, (P1d.step B2).is_plan rfl⟩
         have i4 : of_plan w2 gp 0 = p.arr A ca := of_plan_eq ((P1d.step B2).is_plan rfl))
      | (go_at_call 21; refine callStrs (rfixes_any p A ca w2 (by omega) hca (E1d.below (B := 0) B2)) ?_; intro v3 w3 O3 B3
         have i5 : Has_plan w3 gp 0 := ⟨_, ((P1d.step B2).step B3).is_plan rfl⟩
         have i6 : of_plan w3 gp 0 = p.arr A ca := of_plan_eq (((P1d.step B2).step B3).is_plan rfl)))
    all_goals
      go_wp2
      go_meet
      obtain ⟨A2, c2, hv2, hc2, S2⟩ := O2.strs
      obtain ⟨A3, c3, hv3, hc3, S3⟩ := O3.strs
      exact ⟨A2, A3, c2, c3, hv2, hv3, hc2, hc3, S2.below B3, S3, below_step D1 (below_step B2 B3)⟩
  case rest =>
    obtain ⟨A2, A3, c2, c3, rfl, rfl, hc2, hc3, S2, S3, B2⟩ := hcut
    have P2 := P1.step B2
    have Q2 := Q1.step B2
    have R2 := R1.step B2
    have E2 := E1.below (B := 0) B2
    have F2 := F1.below (B := 0) B2
    have B3 := below_step B1 B2
    clear P1 Q1 R1 E1 F1 B1 B2
    generalize fixesGo p.es = fx at hfl hc2 hc3 S2 S3 ⊢
    go_upto_region 4 with (fail)
    go_cut [35] (fun sv wx => sv = .bool false ∧ Below wc.heap.size wc wx)
    case first =>
      have j1 : ∀ d os, Has_plan (grow (redrawn wc d) os) gp 0 := fun d os => ⟨_, (P2.step (below_regrown wc d os)).is_plan rfl⟩
      have j2 : ∀ d os, of_plan (grow (redrawn wc d) os) gp 0 = p.arr A ca := fun d os => of_plan_eq ((P2.step (below_regrown wc d os)).is_plan rfl)
      have j3 : ∀ d os, Has_plan (grow (redrawn wc d) os) gq 0 := fun d os => ⟨_, (Q2.step (below_regrown wc d os)).is_plan rfl⟩
      have j4 : ∀ d os, of_plan (grow (redrawn wc d) os) gq 0 = q.arr B cb := fun d os => of_plan_eq ((Q2.step (below_regrown wc d os)).is_plan rfl)
      obtain ⟨sb, hsb⟩ : ∃ a, sameB p q = a := ⟨_, rfl⟩
      have k1 : ∀ d os, Calls Tryd.prog 22 #[.agg (p.arr A ca), .agg (q.arr B cb)] (grow (redrawn wc d) os) fun e w'' => e = .returned (.bool sb) ∧ ∃ x : Regrown, w'' = grow (redrawn wc x.d) x.os := fun d os => by
        rw [← hsb]; exact Calls.regrown_ret (same_any p q A B ca cb _ (by omega) (by omega) hca hcb (E2.below (B := 0) (below_regrown wc d os)) (F2.below (B := 0) (below_regrown wc d os)))
      have k2 : ∀ d os, Calls Tryd.prog 23 #[.agg (p.arr A ca), .agg (q.arr B cb)] (grow (redrawn wc d) os) fun e w'' => e = .returned (.bool sb) ∧ ∃ x : Regrown, w'' = grow (redrawn wc x.d) x.os := fun d os => by
        rw [← hsb]; exact Calls.regrown_ret (rsame_any p q A B ca cb _ (by omega) (by omega) hca hcb (E2.below (B := 0) (below_regrown wc d os)) (F2.below (B := 0) (below_regrown wc d os)))
      have k3 : ∀ d os, Calls Tryd.prog 22 #[.agg (p.arr A ca), .agg (p.arr A ca)] (grow (redrawn wc d) os) fun e w'' => e = .returned (.bool true) ∧ ∃ x : Regrown, w'' = grow (redrawn wc x.d) x.os := fun d os => by
        rw [← sameB_self p]; exact Calls.regrown_ret (same_any p p A A ca ca _ (by omega) (by omega) hca hca (E2.below (B := 0) (below_regrown wc d os)) (E2.below (B := 0) (below_regrown wc d os)))
      clear hsb
      cases sb
      all_goals
        refine wp_region_quiet_below (by kernel_rfl) (by kernel_rfl) ?_
        repeat (quiet_step (with_reducible first | exact k1 _ _ | exact k2 _ _ | exact k3 _ _))
        refine wpQuiet_nil ?_
        intro _ hw'
        obtain ⟨⟨dq, osq⟩, hw''⟩ := hw'
        subst hw''
        go_wp2
        go_meet
        exact ⟨rfl, below_regrown wc dq osq⟩
    case rest =>
      obtain ⟨rfl, B4⟩ := hcut
      have P4 := P2.step B4
      have R4 := R2.step B4
      have E4 := E2.below (B := 0) B4
      have S4 := S2.below B4
      have S5 := S3.below B4
      have B5 := below_step B3 B4
      clear P2 Q2 R2 E2 F2 S2 S3 B3 B4
      go_wp2
      go_loopw [9, 38] (fun _ i wr => ∃ k : Nat, k ≤ fx.length ∧ i = .int .i64 k ∧ ∃ n, wr = wc.drewN n) (fun _ i _ => fx.length - (intOf i).toNat)
      case atStart => exact ⟨0, by omega, rfl, 0, rfl⟩
      case round =>
        obtain ⟨k, hk, rfl, n, rfl⟩ := hrel
        by_cases hlt : k < fx.length
        · have hne : fx ≠ [] := by rintro rfl; simp at hlt
          obtain ⟨b2, o2, hA2, hb2, he2⟩ := S4.at_ hne
          obtain ⟨b3, o3, hA3, hb3, he3⟩ := S5.at_ hne
          subst hA2
          subst hA3
          have g2 := he2 k fx[k] (List.getElem?_eq_getElem hlt)
          have g3 := he3 k fx[k] (List.getElem?_eq_getElem hlt)
          generalize fx[k] = sx at g2 g3
          unfold sval at g2 g3
          clear he2 he3 hne
          go_upto_region 9 with (fail)
          go_cut [49] (fun sv wx => sv = .bool false ∧ ∃ n, wx = wc.drewN n)
          case first =>
            go_region
            all_goals
              go_wp2
              go_meet
              exact ⟨rfl, by first | exact ⟨_, rfl⟩ | exact ⟨n + 1, by rw [← World.drewN_drewN]; rfl⟩⟩
          case rest =>
            obtain ⟨rfl, n2, rfl⟩ := hcut
            go_wp2
            go_roundw
            case rel => exact ⟨k + 1, by omega, by go_num, n2, rfl⟩
            case measure => simp [intOf]; omega
        · have B6 := below_drewN B5 n
          have P6 := P4.step (below_drewN (Below.refl _ _) n)
          have R6 := R4.step (below_drewN (Below.refl _ _) n)
          have E6 := E4.below (B := 0) (below_drewN (Below.refl _ _) n)
          go_upto_region 12 with (fail)
          generalize wc.drewN n = W6 at B6 P6 R6 E6 ⊢
          have j1 : ∀ d os, Has_plan (grow (redrawn W6 d) os) gp 0 := fun d os => ⟨_, (P6.step (below_regrown W6 d os)).is_plan rfl⟩
          have j2 : ∀ d os, of_plan (grow (redrawn W6 d) os) gp 0 = p.arr A ca := fun d os => of_plan_eq ((P6.step (below_regrown W6 d os)).is_plan rfl)
          have j3 := cell_regrown (show W6.cell? ⟨gr, 3, none⟩ = some (.int .i64 r.active) from R6.cell 3)
          have j4 := cell_regrown (show W6.cell? ⟨gr, 1, none⟩ = some (.string ⟨r.to_.toArray⟩) from R6.cell 1)
          have k1 : ∀ d os, Calls Tryd.prog 24 #[.agg (p.arr A ca), .int .i64 r.active, .string ⟨r.to_.toArray⟩] (grow (redrawn W6 d) os) fun e w'' => e = .returned (.int .i64 (findE p r.active r.to_)) ∧ ∃ x : Regrown, w'' = grow (redrawn W6 x.d) x.os := fun d os => Calls.regrown_ret (find_any p A ca _ _ _ hp hca (E6.below (B := 0) (below_regrown W6 d os)))
          have k2 : ∀ d os, Calls Tryd.prog 25 #[.agg (p.arr A ca), .int .i64 r.active, .string ⟨r.to_.toArray⟩] (grow (redrawn W6 d) os) fun e w'' => e = .returned (.int .i64 (findE p r.active r.to_)) ∧ ∃ x : Regrown, w'' = grow (redrawn W6 x.d) x.os := fun d os => Calls.regrown_ret (rfind_any p A ca _ _ _ hp hca (E6.below (B := 0) (below_regrown W6 d os)))
          refine wp_region_quiet_below (by kernel_rfl) (by kernel_rfl) ?_
          repeat (quiet_step (with_reducible first | exact k1 _ _ | exact k2 _ _))
          refine wpQuiet_nil ?_
          intro _ hw'
          obtain ⟨⟨dq, osq⟩, hw''⟩ := hw'
          subst hw''
          have B7 := below_regrown W6 dq osq
          clear j1 j2 j3 j4 k1 k2
          generalize grow (redrawn W6 dq) osq = w7 at B7 ⊢
          go_wp2
          go_ret
          exact Ret.bool (by simp) (below_step B6 B7)
end Go.Proofs.YtgafmifamkbmbaaDoor
