/- airway.checkPoint, airway.Check; walks. airway.Check, navdb.Airway; walks. -/
import Derived.Test.YtlggdgpdfepppaaGreatDoorQk30
import Derived.Test.YtlggdgpdfepppaaGreatDoorQk05
namespace Go.Proofs.YtlggdgpdfepppaaGreatDoor
open Go.RowKit Go.Sort
set_option linter.unusedVariables false
set_option linter.unusedSimpArgs false
set_option maxRecDepth 100000
def bwinG (parts : Array (Nat × Value)) : Sem Value := Instr.build 56 parts
theorem bwinG_fold (parts : Array (Nat × Value)) : Instr.build 56 parts = bwinG parts := rfl
theorem run_bwinG (w : World) (a b : Int) : (bwinG #[(0, .int .i64 a), (1, .int .i64 b)]).run Tryz.prog w = .ok (.agg (Win.arr ⟨a, b⟩)) w := run_build w _ _ _ (by kernel_rfl)
attribute [local go_sem ↓] bwinG_fold
attribute [local go_sem] run_bwinG
theorem afree_any (w : World) : Calls Tryz.prog 182 #[] w (Ret w (.agg (Win.arr ⟨-200000, 6000000⟩))) := by
  go_enter Tryz.func182, Tryz.ntmps182
  go_wp2
  exact bodyPost_ret (results_agg1 Tryz.results182 _ _ w.heap.size (Win.arr ⟨-200000, 6000000⟩) 2 _ rfl rfl (Blk.new _ _ _).cell Tryz.underlying56 rfl info_win) rfl ⟨rfl, alloc_below3 _ _⟩
theorem APt.is_win {W : World} {g : Nat} {p : APt} (h : Blk W g p.arr) : Is_win W g 1 ⟨p.lo, p.hi⟩ := fun j hj => by
  rw [h.cell]
  match j, hj with
  | 0, _ | 1, _ => rfl
set_option maxHeartbeats 4000000 in
theorem chkpt_any (a : AwyV) (cs : Array Value) (i : Nat) (w : World) (hL : Laid w) (h : AwyAt w cs a) (hs : a.small) (hi : i < a.pts.length) :
    Calls Tryz.prog 167 #[.agg cs, .int .i64 i] w (Ret w (.int .i64 (ptCheck a.pts i a.pts[i]))) := by
  obtain ⟨A, c, rfl, hlc, hI⟩ := h.ex
  obtain ⟨b, off, hA, hb, _⟩ := hI.get (k := i) (by simpa using hi)
  subst hA
  have HX := Lib.hid (fun (W : World) (B : Below w.heap.size w W) => aptItem hI B hi)
  have hrl := hs.each _ (List.getElem_mem hi)
  have hlen := hs.len
  generalize a.pts[i] = p at HX hrl ⊢
  have hic : i < c := by omega
  have hlt : (i : Int) < (a.pts.length : Int) := by omega
  have HLB := Lib.hid (fun (W : World) (B : Below w.heap.size w W) => hL.below B)
  have HAB := Lib.hid (fun (W : World) (B : Below w.heap.size w W) => h.below B)
  have HC := Lib.hid (show ptCheck a.pts i p = if (splitRef p.ref).2.2 ≠ 0 then 5 else if idxA p.ref a.pts 0 < i then 7 else if i + 1 = a.pts.length then (if p.lo = -200000 ∧ p.hi = 6000000 ∧ p.dir = 0 then 0 else 1) else if p.lo < -200000 ∨ p.hi < p.lo ∨ 6000000 < p.hi then 2 else if 2 < p.dir then 17 else 0 from rfl)
  clear hL h hI hs
  go_enter Tryz.func167, Tryz.ntmps167
  go_upto_region 1 with (fail)
  have X0 := Blk.new w (awyArr a (some ⟨b, off, none⟩) c) 174
  have B0 := alloc_below3 w (.cells (awyArr a (some ⟨b, off, none⟩) c) 174)
  generalize w.alloc _ = W at X0 B0 ⊢
  obtain ⟨g0, hg0⟩ : ∃ g, g = w.heap.size := ⟨_, rfl⟩
  rw [← hg0] at X0 ⊢
  clear hg0
  have c1 : W.cell? ⟨g0, 1, none⟩ = some (.slice (some ⟨b, off, none⟩) a.pts.length c) := X0.cell 1
  have i1 : Has_apt W b (off + i * 4) := ⟨_, HX.out W B0⟩
  have i2 : of_apt W b (off + i * 4) = p := of_apt_eq (HX.out W B0)
  go_upto_region 2 with (fail)
  have P1 := Blk.new W p.arr 181
  have X1 := X0.alloc (.cells p.arr 181)
  have B1 := below_step B0 (alloc_below3 W (.cells p.arr 181))
  clear i1 i2 c1 X0 B0
  generalize W.alloc _ = W1 at P1 X1 B1 ⊢
  generalize W.heap.size = gp at P1 ⊢
  have r0 : W1.cell? ⟨gp, 0, none⟩ = some (.string ⟨p.ref.toArray⟩) := P1.cell 0
  have ks := Lib.hid (splitRef_any p.ref W1 (HLB.out W1 B1) hrl)
  by_cases h1 : (splitRef p.ref).2.2 = 0
  case neg =>
    have HO := Lib.hid (HC.out.trans (if_pos h1))
    have h1' : ((splitRef p.ref).2.2 != 0) = true := by simpa using h1
    clear h1 HC X1 P1
    generalize splitRef p.ref = q at ks h1'
    go_wp2_with (go_at_call 112; (with_reducible refine callQ ks.out ?_); intro n)
    go_ret
    exact Ret.int HO.out.symm (below_drewN B1 n)
  case pos =>
    have HC := Lib.hid (HC.out.trans (if_neg (not_not_intro h1)))
    generalize splitRef p.ref = q at ks h1
    obtain ⟨q1, q2, q3⟩ := q
    obtain rfl : q3 = 0 := h1
    go_upto_region 5 with (go_at_call 112; (with_reducible refine callQ ks.out ?_); intro n)
    have P2 := P1.step (below_drewN (Below.refl _ _) n)
    have X2 := X1.step (below_drewN (Below.refl _ _) n)
    have B2 := below_drewN B1 n
    clear r0 ks P1 X1 B1
    generalize W1.drewN n = W2 at P2 X2 B2 ⊢
    have r0 : W2.cell? ⟨gp, 0, none⟩ = some (.string ⟨p.ref.toArray⟩) := P2.cell 0
    have i1 : Has_awy W2 g0 0 := ⟨_, X2.is_awy rfl⟩
    have i2 : of_awy W2 g0 0 = awyArr a (some ⟨b, off, none⟩) c := of_awy_eq (X2.is_awy rfl)
    have kx := Lib.hid (aindex_any a _ p.ref W2 (HAB.out W2 B2) (by omega))
    have hxb : -1 ≤ idxA p.ref a.pts 0 := by
      rcases Int.lt_or_le (idxA p.ref a.pts 0) 0 with h | h
      · have : ∀ (l : List APt) (k : Nat), -1 ≤ idxA p.ref l k := by
          intro l
          induction l with
          | nil => intro k; simp [idxA]
          | cons x t ih => intro k; unfold idxA; split
                           · omega
                           · exact ih _
        exact this _ _
      · omega
    generalize idxA p.ref a.pts 0 = x at kx HC hxb
    by_cases h2 : x < (i : Int)
    case pos =>
      have HO := Lib.hid (HC.out.trans (if_pos h2))
      clear HC X2 P2
      go_wp2_with (go_at_call 148; (with_reducible refine callR kx.out ?_); intro w3 b3 _ _ _)
      go_ret
      exact Ret.int HO.out.symm (below_step B2 b3)
    case neg =>
      have HC := Lib.hid (HC.out.trans (if_neg h2))
      go_upto_region 7 with (go_at_call 148; (with_reducible refine callR kx.out ?_); intro w3 b3 _ _ _)
      have P3 := P2.step b3
      have X3 := X2.step b3
      have B3 := below_step B2 b3
      clear r0 kx P2 X2 B2 b3 i1 i2 h2 hxb
      have c1 : w3.cell? ⟨g0, 1, none⟩ = some (.slice (some ⟨b, off, none⟩) a.pts.length c) := X3.cell 1
      have v1 : Has_win w3 gp 1 := ⟨_, APt.is_win P3⟩
      have v2 : of_win w3 gp 1 = ⟨p.lo, p.hi⟩ := of_win_eq (APt.is_win P3)
      have d3 : w3.cell? ⟨gp, 3, none⟩ = some (.int .u8 p.dir) := P3.cell 3
      have l1 : w3.cell? ⟨gp, 1, none⟩ = some (.int .i64 p.lo) := P3.cell 1
      have l2 : w3.cell? ⟨gp, 2, none⟩ = some (.int .i64 p.hi) := P3.cell 2
      by_cases h3 : i + 1 = a.pts.length
      case pos =>
        have HC := Lib.hid (HC.out.trans (if_pos h3))
        have e3 : ((i : Int) == (a.pts.length : Int) - 1) = true := by simp; omega
        clear h3
        have HP := Lib.hid P3
        clear X3 P3 l1 l2
        have w1 : ∀ d os, Has_win (grow (redrawn w3 d) os) gp 1 := fun d os => ⟨_, APt.is_win (HP.out.step (below_regrown w3 d os))⟩
        have w2 : ∀ d os, of_win (grow (redrawn w3 d) os) gp 1 = ⟨p.lo, p.hi⟩ := fun d os => of_win_eq (APt.is_win (HP.out.step (below_regrown w3 d os)))
        have w3' : ∀ d os, (grow (redrawn w3 d) os).cell? ⟨gp, 3, none⟩ = some (.int .u8 p.dir) := fun d os => (HP.out.step (below_regrown w3 d os)).cell 3
        have kf : ∀ d os, Calls Tryz.prog 182 #[] (grow (redrawn w3 d) os) fun e w'' => e = .returned (.agg (Win.arr ⟨-200000, 6000000⟩)) ∧ ∃ q : Regrown, w'' = grow (redrawn w3 q.d) q.os := fun d os => Calls.regrown_ret (afree_any _)
        go_upto_region 8 with (fail)
        by_cases hwn : p.lo = -200000 ∧ p.hi = 6000000
        · have hE : Win.eqB ⟨p.lo, p.hi⟩ ⟨-200000, 6000000⟩ = true := by simp [Win.eqB, hwn]
          by_cases hd : p.dir = 0
          · have HO := Lib.hid (HC.out.trans (if_pos ⟨hwn.1, hwn.2, hd⟩))
            have hd' : (p.dir != 0) = false := by simpa using hd
            clear HC hwn hd
            have N1 := run_neq_win ⟨p.lo, p.hi⟩ ⟨-200000, 6000000⟩
            rw [hE] at N1
            refine wp_region_quiet_below (by kernel_rfl) (by kernel_rfl) ?_
            repeat (go_big_quiet_step (with_reducible first | exact kf _ _))
            refine wpQuiet_nil ?_
            intro _ hw'
            obtain ⟨⟨dq, osq⟩, hw''⟩ := hw'
            subst hw''
            clear w1 w2 w3' kf
            go_wp2
            go_ret
            exact Ret.int HO.out.symm (below_step B3 (below_regrown w3 dq osq))
          · have HO := Lib.hid (HC.out.trans (if_neg (fun h => hd h.2.2)))
            have hd' : (p.dir != 0) = true := by simpa using hd
            clear HC hwn hd
            have N1 := run_neq_win ⟨p.lo, p.hi⟩ ⟨-200000, 6000000⟩
            rw [hE] at N1
            refine wp_region_quiet_below (by kernel_rfl) (by kernel_rfl) ?_
            repeat (go_big_quiet_step (with_reducible first | exact kf _ _))
            refine wpQuiet_nil ?_
            intro _ hw'
            obtain ⟨⟨dq, osq⟩, hw''⟩ := hw'
            subst hw''
            clear w1 w2 w3' kf
            go_wp2
            go_ret
            exact Ret.int HO.out.symm (below_step B3 (below_regrown w3 dq osq))
        · have hE : Win.eqB ⟨p.lo, p.hi⟩ ⟨-200000, 6000000⟩ = false := by
            cases hq : Win.eqB ⟨p.lo, p.hi⟩ ⟨-200000, 6000000⟩ with
            | false => rfl
            | true => exact absurd (by have := (Win.eqB_iff _ _).1 hq; simpa using this) hwn
          have HO := Lib.hid (HC.out.trans (if_neg (fun h => hwn ⟨h.1, h.2.1⟩)))
          clear HC hwn
          have N1 := run_neq_win ⟨p.lo, p.hi⟩ ⟨-200000, 6000000⟩
          rw [hE] at N1
          refine wp_region_quiet_below (by kernel_rfl) (by kernel_rfl) ?_
          repeat (go_big_quiet_step (with_reducible first | exact kf _ _))
          refine wpQuiet_nil ?_
          intro _ hw'
          obtain ⟨⟨dq, osq⟩, hw''⟩ := hw'
          subst hw''
          clear w1 w2 w3' kf
          go_wp2
          go_ret
          exact Ret.int HO.out.symm (below_step B3 (below_regrown w3 dq osq))
      case neg =>
        have HC := Lib.hid (HC.out.trans (if_neg h3))
        have e3 : ((i : Int) == (a.pts.length : Int) - 1) = false := by simp; omega
        clear h3 v1 v2
        go_wp2
        all_goals
          go_ret
          refine Ret.int ?_ B3
          rw [HC.out]
          go_light
          first | (split <;> omega) | (simp; omega) | skip
end Go.Proofs.YtlggdgpdfepppaaGreatDoor
namespace Go.Proofs.YtlggdgpdfepppaaGreatDoor
open Go.RowKit Go.Sort
set_option linter.unusedVariables false
set_option linter.unusedSimpArgs false
set_option maxRecDepth 100000
theorem ptsCheck_drop (pts : List APt) {k : Nat} (hk : k < pts.length) : ptsCheck pts (pts.drop k) k = orE (ptCheck pts k pts[k]) (ptsCheck pts (pts.drop (k + 1)) (k + 1)) := by
  rw [List.drop_eq_getElem_cons hk]; rfl
set_option maxHeartbeats 4000000 in
theorem acheck_any (a : AwyV) (cs : Array Value) (w : World) (hL : Laid w) (h : AwyAt w cs a) (hs : a.small) :
    Calls Tryz.prog 147 #[.agg cs] w (Ret w (.int .i64 (awyCheck a))) := by
  obtain ⟨A, c, rfl, hlc, hI⟩ := h.ex
  have HLB := Lib.hid (fun (W : World) (B : Below w.heap.size w W) => hL.below B)
  have HAB := Lib.hid (fun (W : World) (B : Below w.heap.size w W) => h.below B)
  have HC := Lib.hid (show awyCheck a = if !nameB a.name 8 then 5 else if a.pts.length < 2 then 1 else if 40 < a.pts.length then 3 else ptsCheck a.pts a.pts 0 from rfl)
  have hlen := hs.len
  have hnm := hs.name
  clear hL h hI hlc
  go_enter Tryz.func147, Tryz.ntmps147
  go_upto_region 1 with (fail)
  have X0 := Blk.new w (awyArr a A c) 174
  have B0 := alloc_below3 w (.cells (awyArr a A c) 174)
  generalize w.alloc _ = W at X0 B0 ⊢
  obtain ⟨g0, hg0⟩ : ∃ g, g = w.heap.size := ⟨_, rfl⟩
  rw [← hg0] at X0 ⊢
  clear hg0
  have c0 : W.cell? ⟨g0, 0, none⟩ = some (.string ⟨a.name.toArray⟩) := X0.cell 0
  have c1 : W.cell? ⟨g0, 1, none⟩ = some (.slice A a.pts.length c) := X0.cell 1
  have kn := Lib.hid (fun w' => name_any a.name 8 w' (by omega))
  cases hn : nameB a.name 8 with
  | false =>
    rw [hn] at kn
    have HO := Lib.hid (HC.out.trans (if_pos (by rw [hn]; rfl)))
    go_wp2_with (go_at_call 81; (with_reducible refine callP (kn.out _) ?_))
    go_ret
    exact Ret.int HO.out.symm B0
  | true =>
    rw [hn] at kn
    have HC := Lib.hid (HC.out.trans (if_neg (by rw [hn]; decide)))
    clear hn
    by_cases h2 : a.pts.length < 2
    · have HO := Lib.hid (HC.out.trans (if_pos h2))
      have h2' : (a.pts.length : Int) < 2 := by omega
      clear HC h2
      go_wp2_with (go_at_call 81; (with_reducible refine callP (kn.out _) ?_))
      go_ret
      exact Ret.int HO.out.symm B0
    · have HC := Lib.hid (HC.out.trans (if_neg h2))
      have h2' : ¬ (a.pts.length : Int) < 2 := by omega
      clear h2
      by_cases h3 : 40 < a.pts.length
      · have HO := Lib.hid (HC.out.trans (if_pos h3))
        have h3' : 40 < (a.pts.length : Int) := by omega
        clear HC h3
        go_wp2_with (go_at_call 81; (with_reducible refine callP (kn.out _) ?_))
        go_ret
        exact Ret.int HO.out.symm B0
      · have HC := Lib.hid (HC.out.trans (if_neg h3))
        have h3' : ¬ 40 < (a.pts.length : Int) := by omega
        have h40 : a.pts.length ≤ 40 := by omega
        clear h3
        go_wp2_with (go_at_call 81; (with_reducible refine callP (kn.out _) ?_))
        clear h2' h3' c0 c1 kn
        have HX := Lib.hid X0
        have HB := Lib.hid B0
        clear X0 B0
        go_loopw [23] (fun iv wr => ∃ k : Nat, k ≤ a.pts.length ∧ iv = .int .i64 k ∧ ptsCheck a.pts a.pts 0 = ptsCheck a.pts (a.pts.drop k) k ∧ Below W.heap.size W wr) (fun iv _ => a.pts.length - (intOf iv).toNat)
        case atStart => exact ⟨0, by omega, rfl, rfl, Below.refl _ _⟩
        case round =>
          obtain ⟨k, hk, rfl, hf, BW⟩ := hrel
          have HF := Lib.hid hf
          clear hf
          have BB := below_step HB.out BW
          by_cases hlt : k < a.pts.length
          · have X1 := HX.out.step BW
            have i1 : Has_awy wr g0 0 := ⟨_, X1.is_awy rfl⟩
            have i2 : of_awy wr g0 0 = awyArr a A c := of_awy_eq (X1.is_awy rfl)
            have kc := Lib.hid (chkpt_any a _ k wr (HLB.out wr BB) (HAB.out wr BB) hs hlt)
            have HD := Lib.hid (HF.out.trans (ptsCheck_drop a.pts hlt))
            clear HF X1
            generalize ptCheck a.pts k a.pts[k] = v at kc HD
            have hlt' : (k : Int) < (a.pts.length : Int) := by omega
            by_cases hv : v = 0
            · subst hv
              have HD := Lib.hid (show ptsCheck a.pts a.pts 0 = ptsCheck a.pts (a.pts.drop (k + 1)) (k + 1) from HD.out)
              go_wp2_with (go_at_call 167; (with_reducible refine callR kc.out ?_); intro w1 b1 _ _ _)
              go_roundw
              case rel => exact ⟨k + 1, by omega, by go_num, HD.out, below_step BW b1⟩
              case measure => simp [intOf]; omega
            · have hv' : (v != 0) = true := by simpa using hv
              have HO := Lib.hid (show awyCheck a = v by rw [HC.out, HD.out]; unfold orE; rw [if_pos hv'])
              clear hv HC HD
              go_wp2_with (go_at_call 167; (with_reducible refine callR kc.out ?_); intro w1 b1 _ _ _)
              go_ret
              exact Ret.int HO.out.symm (below_step BB b1)
          · have HO := Lib.hid (show awyCheck a = 0 by rw [HC.out, HF.out, List.drop_of_length_le (by omega)]; rfl)
            have hlt' : ¬ (k : Int) < (a.pts.length : Int) := by omega
            go_wp2
            go_ret
            exact Ret.int HO.out.symm BB
theorem Items.keepB {w w' : World} {A : Option Addr} {n : Nat} {l : List (Array Value)} (h : Items w A n l) (hk : ∀ a, A = some a → w'.heap[a.block]? = w.heap[a.block]?) (hs : w.heap.size ≤ w'.heap.size) : Items w' A n l := by
  refine ⟨fun hne => ?_⟩
  obtain ⟨b, off, rfl, hb, hc⟩ := h.at_ hne
  refine ⟨b, off, rfl, Nat.lt_of_lt_of_le hb hs, fun i x hx j hj => ?_⟩
  have hb2 : w'.heap[b]? = w.heap[b]? := hk _ rfl
  rw [World.cell?_of_block (w := w) (a := ⟨b, off + i * n + j, none⟩) hb2]
  exact hc i x hx j hj
theorem Items.keepN {w w' : World} {A : Option Addr} {n : Nat} {l : List (Array Value)} (h : Items w A n l) (hk : l ≠ [] → ∀ a, A = some a → a.block < w.heap.size → w'.heap[a.block]? = w.heap[a.block]?) (hs : w.heap.size ≤ w'.heap.size) : Items w' A n l := by
  refine ⟨fun hne => ?_⟩
  obtain ⟨b, off, rfl, hb, hc⟩ := h.at_ hne
  refine ⟨b, off, rfl, Nat.lt_of_lt_of_le hb hs, fun i x hx j hj => ?_⟩
  have hb2 : w'.heap[b]? = w.heap[b]? := hk hne _ rfl hb
  rw [World.cell?_of_block (w := w) (a := ⟨b, off + i * n + j, none⟩) hb2]
  exact hc i x hx j hj
structure AwyFar (w : World) (B : Nat) (cs : Array Value) (a : AwyV) : Prop where
  ex : ∃ A c, cs = awyArr a A c ∧ a.pts.length ≤ c ∧ Items w A 4 (a.pts.map APt.arr) ∧ (a.pts ≠ [] → ∀ q, A = some q → B ≤ q.block)
theorem AwyFar.at_ {w : World} {B : Nat} {cs : Array Value} {a : AwyV} (h : AwyFar w B cs a) : AwyAt w cs a := by
  obtain ⟨A, c, h1, h2, h3, _⟩ := h.ex
  exact ⟨⟨A, c, h1, h2, h3⟩⟩
theorem AwyFar.keep {w w' : World} {B : Nat} {cs : Array Value} {a : AwyV} (h : AwyFar w B cs a) (hk : ∀ b, B ≤ b → b < w.heap.size → w'.heap[b]? = w.heap[b]?) (hs : w.heap.size ≤ w'.heap.size) : AwyFar w' B cs a := by
  obtain ⟨A, c, h1, h2, h3, h4⟩ := h.ex
  exact ⟨⟨A, c, h1, h2, h3.keepN (fun hne q hq hb => hk _ (h4 (by rintro e; rw [e] at hne; exact hne rfl) q hq) hb) hs, h4⟩⟩
theorem AwyFar.no (w : World) (B : Nat) : AwyFar w B #[.string ⟨#[]⟩, .slice none 0 0] noAwy := ⟨⟨none, 0, rfl, Nat.le_refl _, Items.nil _ _ _, fun h => absurd rfl h⟩⟩
def RetAwy (w : World) (r : AwyV × Int) (e : Ending) (w' : World) : Prop := ∃ cs, e = .returned (.tuple #[.agg cs, .int .i64 r.2]) ∧ AwyFar w' w.heap.size cs r.1 ∧ Below w.heap.size w w'
theorem callAwy {P : Program} {f : FuncId} {args : Array Value} {W : World} {r : AwyV × Int} {K : Ending → World → Prop} (h : Calls P f args W (RetAwy W r))
    (k : ∀ cs w', AwyFar w' W.heap.size cs r.1 → Below W.heap.size W w' → K (.returned (.tuple #[.agg cs, .int .i64 r.2])) w') : Calls P f args W K :=
  h.mono fun e w' ⟨cs, he, h1, h2⟩ => by subst he; exact k cs w' h1 h2
def awyLook (l : List AwyV) (n : List UInt8) : AwyV × Int := match awyFind n l with | none => (noAwy, 6) | some a => (a, 0)
theorem awyArr_ones (a : AwyV) (A : Option Addr) (c : Nat) : Ones (awyArr a A c) := by simp [Ones, awyArr, Value.oneCell']
theorem awyArr_sz (a : AwyV) (A : Option Addr) (c : Nat) : SzIs (awyArr a A c) 2 := rfl
theorem awyArr_fits (a : AwyV) (A : Option Addr) (c o n : Nat) : Fits o n (awyArr a A c) = (o + n ≤ 2) := propext ⟨fun h => h, fun h => h⟩
theorem awyArr_splice (a b : AwyV) (A B : Option Addr) (c d : Nat) : splice (awyArr a A c) 0 (awyArr b B d) = awyArr b B d := rfl
theorem apt_ones (l : List APt) : ∀ y ∈ l.map APt.arr, y.toList.all (·.oneCell') = true := by
  intro y hy
  obtain ⟨p, _, rfl⟩ := List.mem_map.1 hy
  exact p.arr_oneL
theorem apt_sizes (l : List APt) : ∀ y ∈ l.map APt.arr, y.size = 4 := by
  intro y hy
  obtain ⟨p, _, rfl⟩ := List.mem_map.1 hy
  exact p.arr_sz
def bawyG (parts : Array (Nat × Value)) : Sem Value := Instr.build 174 parts
theorem bawyG_fold (parts : Array (Nat × Value)) : Instr.build 174 parts = bawyG parts := rfl
theorem run_bawyG (w : World) : (bawyG #[]).run Tryz.prog w = .ok (.agg (awyArr noAwy none 0)) w := run_build w _ _ _ (by kernel_rfl)
attribute [local go_sem ↓] bawyG_fold
attribute [local go_sem] run_bawyG awyArr_ones awyArr_sz awyArr_fits awyArr_splice
set_option maxHeartbeats 4000000 in
theorem navawy_any (cs : Array Value) (l : List AwyV) (A : Option Addr) (c : Nat) (h7 : cs[7]? = some (.slice A l.length c)) (hlc : l.length ≤ c) (hn : l.length ≤ 9000000000) (n : List UInt8) (w : World) (hA : AwysAt w A l) (hs : ∀ a ∈ l, a.small) :
    Calls Tryz.prog 122 #[.agg cs, .string ⟨n.toArray⟩] w (RetAwy w (awyLook l n)) := by
  go_enter Tryz.func122, Tryz.ntmps122
  go_upto_region 1 with (fail)
  have X0 : Blk (w.alloc (.cells cs 48)) w.heap.size cs := Blk.new w _ _
  have B0 := alloc_below3 w (.cells cs 48)
  have hsz : (w.alloc (.cells cs 48)).heap.size = w.heap.size + 1 := World.size_alloc _ _
  generalize w.alloc _ = W0 at X0 B0 hsz ⊢
  rw [← hsz]
  have Y1 : Blk (W0.alloc (.cells (awyArr noAwy none 0) 174)) W0.heap.size (awyArr noAwy none 0) := Blk.new W0 _ _
  have B1 := below_step B0 (alloc_below3 W0 (.cells (awyArr noAwy none 0) 174))
  have X1 := X0.alloc (.cells (awyArr noAwy none 0) 174)
  have hgle : w.heap.size ≤ W0.heap.size := B0.size
  generalize hW : W0.alloc _ = W
  have hE : W0.alloc (.cells (awyArr noAwy none 0) 174) = W := hW
  rw [hE] at Y1 B1 X1
  clear hW hE
  generalize W0.heap.size = g1 at Y1 hgle ⊢
  generalize w.heap.size = g0 at X1 ⊢
  have k7 : W.cell? ⟨g0, 7, none⟩ = some (.slice A l.length c) := (X1.cell 7).trans h7
  have HA := Lib.hid (fun (W' : World) (B : Below W.heap.size W W') => hA.below (below_step B1 B))
  have HF := Lib.hid (show awyLook l n = (match awyFind n l with | none => (noAwy, 6) | some a => (a, 0)) from rfl)
  have HY := Lib.hid Y1
  have HB := Lib.hid B1
  have B1s := Lib.hid B1.size
  have HLC := Lib.hid hlc
  clear X0 hsz h7 X1 B0 hA Y1 B1
  go_wp2
  clear k7
  go_loopw [11] (fun iv wr => ∃ k : Nat, k ≤ l.length ∧ iv = .int .i64 k ∧ awyFind n l = awyFind n (l.drop k) ∧ Below W.heap.size W wr) (fun iv _ => l.length - (intOf iv).toNat)
  case atStart => exact ⟨0, by omega, rfl, rfl, Below.refl _ _⟩
  case round =>
    obtain ⟨k, hk, rfl, hf, BW⟩ := hrel
    have HG := Lib.hid hf
    clear hf
    by_cases hlt : k < l.length
    · obtain ⟨b, off, cs', hAe, hb, hIs, hAt⟩ := (HA.out wr BW).get (Below.refl _ _) hlt
      obtain ⟨A2, c2, rfl, hl2, hI2⟩ := hAt.ex
      have hsm := hs _ (List.getElem_mem hlt)
      have HD := Lib.hid (show awyFind n l = if l[k].name == n then some l[k] else awyFind n (l.drop (k + 1)) by rw [HG.out, List.drop_eq_getElem_cons hlt]; rfl)
      clear hAt HG
      generalize l[k] = a at *
      subst hAe
      have i1 : Has_awy wr b (off + k * 2) := ⟨_, hIs⟩
      have i2 : of_awy wr b (off + k * 2) = awyArr a A2 c2 := of_awy_eq hIs
      have hlt' : (k : Int) < (l.length : Int) := by omega
      have hkc : k < c := by have := HLC.out; omega
      go_upto_region 4 with (fail)
      have Z := Blk.new wr (awyArr a A2 c2) 174
      have D := alloc_below3 wr (.cells (awyArr a A2 c2) 174)
      have hI3 := hI2.below D
      have hgw : g1 < wr.heap.size := Nat.lt_of_lt_of_le HY.out.lt BW.size
      have hWw : W.heap.size ≤ wr.heap.size := BW.size
      clear i1 i2 hIs hI2 hb
      generalize wr.alloc _ = W2 at Z D hI3 ⊢
      obtain ⟨g7, hg7⟩ : ∃ g, g = wr.heap.size := ⟨_, rfl⟩
      rw [← hg7] at Z ⊢
      have hne : g7 ≠ g1 := by omega
      have h7W : W.heap.size ≤ g7 := by omega
      have h7r : wr.heap.size ≤ g7 := by omega
      have h71 : g1 < g7 := by omega
      clear hg7 hgw hWw
      have z0 : W2.cell? ⟨g7, 0, none⟩ = some (.string ⟨a.name.toArray⟩) := Z.cell 0
      have z1 : W2.cell? ⟨g7, 1, none⟩ = some (.slice A2 a.pts.length c2) := Z.cell 1
      by_cases hnm : a.name = n
      · have h1 : (a.name == n) = true := by simpa using hnm
        have HO := Lib.hid (show awyLook l n = (a, 0) by rw [HF.out, HD.out, if_pos h1])
        have kc := Lib.hid (clone_apt (a.pts.map APt.arr) A2 a.pts.length c2 W2 hI3 (by simp) (by have := hsm.len; omega) (apt_sizes _) (apt_ones _))
        clear HD hnm
        go_upto_region 6 with (go_at_call 146; (with_reducible refine callCl kc.out ?_); intro A3 c3 w3 O3 b3; have Z3 := Z.step b3; have f1 := Z3.frozen 1; have f2 : w3.cell? ⟨g7, 1, none⟩ = some (.slice A2 a.pts.length c2) := Z3.cell 1)
        have Z4 : Blk (w3.setCell ⟨g7, 1, none⟩ (.slice A3 a.pts.length c3)) g7 (awyArr a A3 c3) := Z3.setCell 1 _
        have D4 : Below wr.heap.size wr (w3.setCell ⟨g7, 1, none⟩ (.slice A3 a.pts.length c3)) := below_setCell (below_step D b3) h7r 1 _
        obtain ⟨A4, c4, e4, hl4, hI4, hA4, _⟩ := O3.form (apt_sizes _)
        injection e4 with e4 _ e5
        subst e4 e5
        rw [List.length_map] at hl4
        have hg7lt := Z.lt
        have hI5 : Items (w3.setCell ⟨g7, 1, none⟩ (.slice A3 a.pts.length c3)) A3 4 (a.pts.map APt.arr) := hI4.keepB (fun q hq => Below.heap_setCell _ _ _ _ (by have := hA4 q hq; show q.block ≠ g7; omega)) (by simp [World.setCell])
        have Y4 := (HY.out.step BW).step D4
        have B4 := below_step (below_step HB.out BW) D4
        clear f1 f2 z0 z1 Z3 O3 D Z kc hI3 hI4
        generalize w3.setCell _ _ = w4 at *
        have i1 : Has_awy w4 g7 0 := ⟨_, Z4.is_awy rfl⟩
        have i2 : of_awy w4 g7 0 = awyArr a A3 c3 := of_awy_eq (Z4.is_awy rfl)
        have d2 := Y4.plain
        have d3 := Y4.of
        go_wp2
        exact bodyPost_ret (results_agg Tryz.results122 _ _ g1 (awyArr a A3 c3) 2 _ rfl rfl (Y4.set _).cell Tryz.underlying174 rfl info_awy) rfl ⟨_, by rw [HO.out]; rfl, by rw [HO.out]; exact ⟨⟨A3, c3, rfl, hl4, hI5.keepB (fun q hq => setRow_other _ _ _ _ (by have := hA4 q hq; omega)) (by simp [World.setRow]), fun _ q hq => by have := hA4 q hq; have := B1s.out; omega⟩⟩, below_setRow' B4 hgle _⟩
      · have h1 : (a.name == n) = false := by simpa using hnm
        have HD := Lib.hid (show awyFind n l = awyFind n (l.drop (k + 1)) by rw [HD.out, h1]; rfl)
        clear hnm
        go_wp2
        go_roundw
        case rel => exact ⟨k + 1, by omega, by go_num, HD.out, below_step BW D⟩
        case measure => simp [intOf]; omega
    · have HO := Lib.hid (show awyLook l n = (noAwy, 6) by rw [HF.out, HG.out, List.drop_of_length_le (by omega)]; rfl)
      have hlt' : ¬ (k : Int) < (l.length : Int) := by omega
      have Y2 := HY.out.step BW
      have d2 := Y2.plain
      have d3 := Y2.of
      have B2 := below_step HB.out BW
      clear hlt
      go_wp2
      exact bodyPost_ret (results_agg Tryz.results122 _ _ g1 (awyArr noAwy none 0) 2 _ rfl rfl (Y2.set _).cell Tryz.underlying174 rfl info_awy) rfl ⟨_, by rw [HO.out]; rfl, by rw [HO.out]; exact AwyFar.no _ _, below_setRow' B2 hgle _⟩
end Go.Proofs.YtlggdgpdfepppaaGreatDoor
