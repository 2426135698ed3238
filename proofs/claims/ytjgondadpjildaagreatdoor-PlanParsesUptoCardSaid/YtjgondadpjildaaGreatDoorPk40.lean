/- The reference's entry of a line; walk. The reference's Parse of a plan; walk. -/
import Derived.Test.YtjgondadpjildaaGreatDoorPk33
import Derived.Test.YtjgondadpjildaaGreatDoorPk39
namespace Go.Proofs.YtjgondadpjildaaGreatDoor
open Go.RowKit Go.Sort
set_option linter.unusedVariables false
set_option linter.unusedSimpArgs false
set_option maxRecDepth 100000
theorem rcut_at (l : List UInt8) (c : UInt8) (n : Int) (hn : (c.toNat : Int) = n) (w : World) (hl : l.length ≤ 4000000000) :
    Calls Tryz.prog 36 #[.string ⟨l.toArray⟩, .int .u8 n] w (RetQ w (.tuple #[.string ⟨(cutAt c l).1.toArray⟩, .string ⟨(cutAt c l).2.1.toArray⟩, .bool (cutAt c l).2.2])) := by
  subst hn; exact rcut_any l c w hl
set_option maxHeartbeats 1000000 in
theorem rplace21_any (s : List UInt8) (w : World) (hs : s.length ≤ 4000000000) : Calls Tryz.prog 81 #[.string ⟨s.toArray⟩] w (Ret w (.agg (Pt.arr ⟨(placeR s).1, (placeR s).2⟩))) := by
  have HU := Lib.hid (show placeR s = if undashB s = [] then (0, 0) else (numR (cutAt 44 s).1, numR (cutAt 44 s).2.1) from rfl)
  have hc := cutAt_len 44 s
  have kc := Lib.hid (fun w => rcut_at s 44 44 rfl w hs)
  have kv := Lib.hid (fun w => rvalue_any s w hs)
  generalize cutAt 44 s = q at hc HU kc
  obtain ⟨a, b, f⟩ := q
  simp only at hc HU kc
  obtain ⟨ha, hb⟩ := hc
  generalize undashB s = u at kv HU
  generalize placeR s = out at HU ⊢
  go_enter Tryz.func81, Tryz.ntmps81
  go_upto_region 1 with (fail)
  have X0 : Blk (w.alloc (.cells #[.int .i64 0, .int .i64 0] 38)) w.heap.size #[.int .i64 0, .int .i64 0] := Blk.new w _ _
  have B0 := alloc_below w (.cells #[.int .i64 0, .int .i64 0] 38)
  generalize w.alloc _ = W at X0 B0 ⊢
  obtain ⟨g, hg0⟩ : ∃ g, g = w.heap.size := ⟨_, rfl⟩
  rw [← hg0] at X0 ⊢
  have hg := Nat.le_of_eq hg0.symm
  clear hg0
  go_wp2_with fail
  with_reducible refine callQ (kc.out W) ?_
  intro n
  have B1 := below_step B0 (below_drewN (Below.refl W.heap.size W) n)
  have X1 := X0.step (below_drewN (Below.refl W.heap.size W) n)
  generalize W.drewN n = W1 at B1 X1 ⊢
  clear X0 B0
  have d2 := X1.plain
  have d3 : blkOf W1 g = #[.int .i64 0, .int .i64 0] := X1.of
  rcases u with _ | ⟨x, r⟩
  · have HO := Lib.hid (HU.out.trans (if_pos rfl))
    go_wp2_with (go_at_call 37; ((with_reducible refine callP (kv.out _) ?_)))
    exact bodyPost_ret (results_agg1 Tryz.results81 _ _ g (Pt.arr ⟨0, 0⟩) 2 _ rfl rfl (X1.set _).cell Tryz.underlying38 rfl info_pt) rfl ⟨by rw [HO.out], below_setRow' B1 hg _⟩
  · have h0 : ¬ ((x :: r) = ([] : List UInt8)) := by simp
    have HO := Lib.hid (HU.out.trans (if_neg h0))
    have na := Lib.hid (fun w => rnum_any a w (by omega))
    have nb := Lib.hid (fun w => rnum_any b w (by omega))
    generalize numR a = va at na HO
    generalize numR b = vb at nb HO
    go_wp2_with (first
      | (go_at_call 37; ((with_reducible refine callP (kv.out _) ?_)))
      | (go_at_call 38; first | (with_reducible refine callP (na.out _) ?_) | (with_reducible refine callP (nb.out _) ?_)))
    exact bodyPost_ret (results_agg1 Tryz.results81 _ _ g (Pt.arr ⟨va, vb⟩) 2 _ rfl rfl (X1.set _).cell Tryz.underlying38 rfl info_pt) rfl ⟨by rw [HO.out], below_setRow' B1 hg _⟩
/-- The section that the letters ahead of place k give. -/
def secK (w : List UInt8) : Nat → Int
  | 0 => 0
  | k + 1 => if 1 ≤ k ∧ w = List.drop k (32 :: List.take k [68, 69, 65, 80, 77]) then k else secK w k
theorem secK_6 (w : List UInt8) : secK w 6 = secR w := by
  unfold secR
  simp only [secK, List.drop, List.take]
  by_cases h1 : w = [77]
  · subst h1; decide
  by_cases h2 : w = [80]
  · subst h2; decide
  by_cases h3 : w = [65]
  · subst h3; decide
  by_cases h4 : w = [69]
  · subst h4; decide
  by_cases h5 : w = [68]
  · subst h5; decide
  simp [h1, h2, h3, h4, h5]
theorem secR_u8 (w : List UInt8) : 0 ≤ secR w ∧ secR w ≤ 5 := by unfold secR; repeat' split <;> omega
theorem entryR_not {l : List UInt8} (h : ¬ l = [71, 65, 80]) : entryR l = ⟨false, (parseS (tail32 (tail32 (tail32 (tail32 l))))).1, (placeR (head32 (tail32 (tail32 l)))).1, (placeR (head32 (tail32 (tail32 l)))).2,
      (placeR (head32 (tail32 (tail32 (tail32 l))))).1, (placeR (head32 (tail32 (tail32 (tail32 l))))).2, secR (head32 l), undashB (head32 (tail32 l))⟩ := by
  unfold entryR
  rw [if_neg h]
attribute [local go_sem ↓] bent_fold
attribute [local go_sem] run_bent0 run_bentG run_bent5 splice_ent
theorem run_bentR (w : World) (l : Leg) (via : List UInt8) (p q : Pt) : (bent #[(1, .agg l.arr), (5, .string ⟨via.toArray⟩), (2, .agg p.arr), (3, .agg q.arr)]).run Tryz.prog w = .ok (.agg (⟨false, l, p.x, p.y, q.x, q.y, 0, via⟩ : Entry).arr) w := run_build w _ _ _ (by kernel_rfl)
attribute [local go_sem] run_bentR
set_option maxHeartbeats 4000000 in
theorem rentry_any (l : List UInt8) (w : World) (hl : l.length ≤ 100000) : Calls Tryz.prog 39 #[.string ⟨l.toArray⟩] w (Ret w (entryR l).val) := by
  by_cases hG : l = [71, 65, 80]
  · subst hG
    go_enter Tryz.func39, Tryz.ntmps39
    go_upto_region 1 with (fail)
    have X0 : Blk (w.alloc (.cells zeroEnt.arr 41)) w.heap.size zeroEnt.arr := Blk.new w _ _
    have B0 := alloc_below w (.cells zeroEnt.arr 41)
    rw [alloc_ent0] at X0 B0
    generalize w.alloc _ = W at X0 B0 ⊢
    rw [← alloc_ent0] at X0
    have d2 := X0.plain
    have d3 : blkOf W w.heap.size = zeroEnt.arr := X0.of
    go_wp2
    exact bodyPost_ret (results_agg1 Tryz.results39 _ _ w.heap.size gapE.arr 20 _ rfl rfl (X0.set _).cell Tryz.underlying41 rfl info_ent) rfl ⟨rfl, below_setRow' B0 (Nat.le_refl _) _⟩
  · have hG0 : (l == [71, 65, 80]) = false := by simpa using hG
    have HE := Lib.hid (entryR_not hG)
    clear hG
    generalize entryR l = out at HE ⊢
    unfold tail32 head32 at HE
    have hc1 := cutAt_len 32 l
    have kc1 := Lib.hid (fun w => rcut_at l 32 32 rfl w (by omega))
    generalize cutAt 32 l = q1 at hc1 kc1 HE
    obtain ⟨a1, b1, f1⟩ := q1
    simp only at hc1 kc1 HE
    have hc2 := cutAt_len 32 b1
    have kc2 := Lib.hid (fun w => rcut_at b1 32 32 rfl w (by omega))
    generalize cutAt 32 b1 = q2 at hc2 kc2 HE
    obtain ⟨a2, b2, f2⟩ := q2
    simp only at hc2 kc2 HE
    have hc3 := cutAt_len 32 b2
    have kc3 := Lib.hid (fun w => rcut_at b2 32 32 rfl w (by omega))
    generalize cutAt 32 b2 = q3 at hc3 kc3 HE
    obtain ⟨a3, b3, f3⟩ := q3
    simp only at hc3 kc3 HE
    have hc4 := cutAt_len 32 b3
    have kc4 := Lib.hid (fun w => rcut_at b3 32 32 rfl w (by omega))
    generalize cutAt 32 b3 = q4 at hc4 kc4 HE
    obtain ⟨a4, b4, f4⟩ := q4
    simp only at hc4 kc4 HE
    have kp := Lib.hid (fun w => rparse_any b4 w (by omega))
    have kv := Lib.hid (fun w => rvalue_any a2 w (by omega))
    have ke := Lib.hid (fun w => rplace21_any a3 w (by omega))
    have km := Lib.hid (fun w => rplace21_any a4 w (by omega))
    have la1 : a1.length ≤ 100000 := by omega
    clear hc1 hc2 hc3 hc4
    generalize parseS b4 = pr at kp HE
    generalize undashB a2 = via at kv HE
    generalize placeR a3 = pe at ke HE
    generalize placeR a4 = pm at km HE
    rw [← secK_6] at HE
    go_enter Tryz.func39, Tryz.ntmps39
    go_upto_region 1 with (fail)
    have X0 : Blk (w.alloc (.cells zeroEnt.arr 41)) w.heap.size zeroEnt.arr := Blk.new w _ _
    have B0 := alloc_below w (.cells zeroEnt.arr 41)
    rw [alloc_ent0] at X0 B0
    generalize w.alloc _ = W at X0 B0 ⊢
    rw [← alloc_ent0] at X0
    obtain ⟨g, hg0⟩ : ∃ g, g = w.heap.size := ⟨_, rfl⟩
    rw [← hg0] at X0 ⊢
    have hg := Nat.le_of_eq hg0.symm
    clear hg0
    go_upto_region 7 with (go_at_call 36; first
      | ((with_reducible refine callQ (kc1.out _) ?_); intro n1)
      | ((with_reducible refine callQ (kc2.out _) ?_); intro n2)
      | ((with_reducible refine callQ (kc3.out _) ?_); intro n3)
      | ((with_reducible refine callQ (kc4.out _) ?_); intro n4))
    have D1 := below_drewN (Below.refl W.heap.size W) (n1 + n2 + n3 + n4)
    have X1 := X0.step D1
    have B1 := below_step B0 D1
    generalize W.drewN (n1 + n2 + n3 + n4) = W1 at X1 B1 ⊢
    clear X0 B0 D1 kc1 kc2 kc3 kc4
    go_wp2_with fail
    with_reducible refine callR (kp.out W1) ?_
    intro w2 hb2 _ _ _
    have X2 := X1.step hb2
    have B2 := below_step B1 hb2
    clear X1 B1 hb2 kp
    go_upto_region 8 with (fail)
    have Y3 := Blk.new w2 pr.1.arr 36
    have A3 := alloc_below w2 (.cells pr.1.arr 36)
    have X3 := X2.step A3
    have B3 := below_step B2 A3
    clear X2 B2 A3
    generalize w2.alloc _ = w3 at *
    generalize w2.heap.size = lg at *
    go_cut [14] (fun v wx => ∃ xb, v = .pointer (some ⟨xb, 0, none⟩) ∧ w3.heap.size ≤ xb ∧ Blk wx xb (⟨false, pr.1, pe.1, pe.2, pm.1, pm.2, 0, via⟩ : Entry).arr ∧ Below w3.heap.size w3 wx)
    case first =>
      have D2 : Below w3.heap.size w3 w3.drew := (Below.refl _ _).drew
      have AL : ∀ o, Below w3.heap.size w3 (w3.drew.alloc o) := fun o => D2.alloc (Nat.le_refl _) _
      have IS := Lib.hid (fun W' (hB : Below w3.heap.size w3 W') => show Has_leg W' lg 0 ∧ of_leg W' lg 0 = pr.1 from ⟨⟨_, (Y3.step hB).is_leg⟩, of_leg_eq (Y3.step hB).is_leg⟩)
      have KE := Lib.hid ke
      go_region_held3 (fun w' => Has_leg w' lg 0 ∧ of_leg w' lg 0 = pr.1) (first | exact IS.out _ D2 | exact IS.out _ (AL _) | exact IS.out _ Be | exact IS.out _ Bm | exact IS.out _ (below_step Be (alloc_below _ _)) | exact IS.out _ (below_step Bm (alloc_below _ _)) | exact IS.out _ (below_setRow' Bm (Nat.le_refl _) _) | exact IS.out _ (below_setRow' Bm hsz _))
        (first
          | (go_at_call 37; (with_reducible refine callP (kv.out _) ?_))
          | (go_at_call 81
             with_reducible refine callR (ke.out _) ?_
             intro we Be0 _ _ _
             have Be : Below w3.heap.size w3 we := below_step (by first | exact D2 | exact AL _) Be0
             try have Ye : Blk we w3.heap.size zeroEnt.arr := (Blk.new w3.drew zeroEnt.arr 41).step Be0)
          | (go_at_call 81
             with_reducible refine callR (km.out _) ?_
             intro wm Bm0 _ _ hzm
             have Bm : Below w3.heap.size w3 wm := below_step (by first | exact Be | exact below_step Be (alloc_below _ _)) Bm0
             try have Ym : Blk wm w3.heap.size zeroEnt.arr := Ye.step Bm0
             try have Ym : Blk wm we.heap.size zeroEnt.arr := (Blk.new we zeroEnt.arr 41).step Bm0
             try have hsz : w3.heap.size ≤ we.heap.size := Be.size
             have hzm3 : w3.heap.size ≤ wm.heap.size := Bm.size
             try have y1 := Ym.plain
             try have y2 := Ym.of))
      all_goals
        go_wp2
        go_meet
        first
          | exact ⟨_, rfl, hzm3, Blk.new _ _ _, below_step Bm (alloc_below _ _)⟩
          | exact ⟨_, rfl, Nat.le_refl _, Ym.set _, below_setRow' Bm (Nat.le_refl _) _⟩
          | exact ⟨_, rfl, hsz, Ym.set _, below_setRow' Bm hsz _⟩
    case rest =>
      obtain ⟨xb, rfl, hxb, P, B4⟩ := hcut
      have X4 := X3.step B4
      have BB := below_step B3 B4
      have hgx : g < xb := by have := X3.lt; omega
      clear X3 Y3 B3 B4 kv ke km
      have XH := Lib.hid X4
      have BH := Lib.hid BB
      clear X4 BB
      obtain ⟨x0, hx0⟩ : ∃ x : Int → Entry, x = fun s => ⟨false, pr.1, pe.1, pe.2, pm.1, pm.2, s, via⟩ := ⟨_, rfl⟩
      have P : Blk wc xb (x0 0).arr := by rw [hx0]; exact P
      have HX := Lib.hid hx0
      have HS0 := Lib.hid (show ∀ a b, (x0 a).arr.setIfInBounds 18 (.int .u8 b) = (x0 b).arr from fun a b => by rw [hx0]; rfl)
      have HE2 := Lib.hid (show out = x0 (secK a1 6) by rw [HE.out, hx0])
      obtain ⟨wB, hwB⟩ : ∃ wB : World, wB = wc := ⟨_, rfl⟩
      rw [← hwB] at XH BH
      have HWB := Lib.hid hwB
      clear hwB hx0 HE
      go_wp2
      go_loopw [15] (fun i wr => ∃ k : Nat, 1 ≤ k ∧ k ≤ 6 ∧ i = .int .i64 k ∧ Blk wr xb (x0 (secK a1 k)).arr ∧ Touch [xb] wB wr) (fun i _ => 6 - (intOf i).toNat)
      case atStart => exact ⟨1, by omega, by omega, rfl, P, by rw [← HWB.out]; exact Touch.refl _ _⟩
      case round =>
        clear P
        obtain ⟨k, hk1, hk6, rfl, P, T⟩ := hrel
        by_cases hlt : k < 6
        · have hlt2 : (k : Int) < 6 := by omega
          have a1' : (0 : Int) ≤ k := by omega
          have a2 : (k : Int) ≤ k + 1 := by omega
          have a3 : (k : Int) + 1 ≤ 6 := by omega
          have a4 : ((k : Int) + 1).toNat = k + 1 := by omega
          have w8 : IntKind.u8.wrap (k : Int) = (k : Int) := by simp only [IntKind.wrap, IntKind.bits, IntKind.signed]; simp; omega
          have HK := Lib.hid (show secK a1 (k + 1) = if a1 = List.drop k (32 :: List.take k [68, 69, 65, 80, 77]) then (k : Int) else secK a1 k by
            simp only [secK, hk1, true_and])
          obtain ⟨LK, hlet⟩ : ∃ LK : List UInt8, List.drop k (32 :: List.take k [68, 69, 65, 80, 77]) = LK := ⟨_, rfl⟩
          have HK2 := Lib.hid (show secK a1 (k + 1) = if a1 = LK then (k : Int) else secK a1 k by rw [HK.out, hlet])
          clear HK
          have c18 := P.cell 18
          have f18 := P.frozen 18
          have TH := Lib.hid T
          have PH := Lib.hid P
          clear P T
          by_cases hq : a1 = LK
          · have h1 : (a1 == LK) = true := by simpa using hq
            have HQ := Lib.hid hq
            clear hq
            go_wp2
            go_roundw
            case rel => exact ⟨k + 1, by omega, by omega, by go_num, by rw [HK2.out, if_pos HQ.out, ← HS0.out (secK a1 k) k]; exact PH.out.setCell 18 _, TH.out.trans (Touch.setCell [xb] _ (by simp) _ _)⟩
            case measure => simp [intOf]; omega
          · have h1 : (a1 == LK) = false := by simpa using hq
            have HQ := Lib.hid hq
            clear hq
            go_wp2
            go_roundw
            case rel => exact ⟨k + 1, by omega, by omega, by go_num, by rw [HK2.out, if_neg HQ.out]; exact PH.out, TH.out⟩
            case measure => simp [intOf]; omega
        · obtain rfl : k = 6 := by omega
          have X5 := T.blk (by simp; omega) XH.out
          have d2 := X5.plain
          have d3 : blkOf wr g = zeroEnt.arr := X5.of
          have i1 : Has_ent wr xb 0 := ⟨_, P.is_ent⟩
          have i2 : of_ent wr xb 0 = x0 (secK a1 6) := of_ent_eq P.is_ent
          have BF := T.below BH.out (by simp; omega)
          clear P T
          go_wp2
          exact bodyPost_ret (results_agg1 Tryz.results39 _ _ g (x0 (secK a1 6)).arr 20 _ rfl rfl (X5.set _).cell Tryz.underlying41 rfl info_ent) rfl ⟨by rw [HE2.out], below_setRow' BF hg _⟩
end Go.Proofs.YtjgondadpjildaaGreatDoor
namespace Go.Proofs.YtjgondadpjildaaGreatDoor
open Go.RowKit Go.Sort
set_option linter.unusedVariables false
set_option linter.unusedSimpArgs false
set_option maxRecDepth 100000
theorem entryR_small {l : List UInt8} (hl : l.length ≤ 4000000000) : (entryR l).small := by
  by_cases hG : l = [71, 65, 80]
  · subst hG
    exact ⟨⟨by decide, by decide⟩, by decide⟩
  · rw [entryR_not hG]
    unfold tail32 head32
    have h1 := cutAt_len 32 l
    have h2 := cutAt_len 32 (cutAt 32 l).2.1
    have h3 := cutAt_len 32 (cutAt 32 (cutAt 32 l).2.1).2.1
    have h4 := cutAt_len 32 (cutAt 32 (cutAt 32 (cutAt 32 l).2.1).2.1).2.1
    have p := parseS_len (cutAt 32 (cutAt 32 (cutAt 32 (cutAt 32 l).2.1).2.1).2.1).2.1
    have u := undashB_len (cutAt 32 (cutAt 32 l).2.1).1
    exact ⟨⟨by show (parseS _).1.fix.length ≤ _; omega, by show (parseS _).1.center.length ≤ _; omega⟩, by show (undashB _).length ≤ _; omega⟩
def strLen : Value → Nat | .string b => b.size | _ => 0
def bitOf : Value → Bool | .bool b => b | _ => false
/-- What is left of the lines. -/
def leftR (m : Bool) (R : List UInt8) : List Entry := if m then (splitC 10 R).map entryR else []
theorem leftR_step (R : List UInt8) : leftR true R = entryR (cutAt 10 R).1 :: leftR (cutAt 10 R).2.2 (cutAt 10 R).2.1 := by
  unfold leftR
  rw [if_pos rfl, splitC_cut]
  cases hf : (cutAt 10 R).2.2
  · rw [cutAt_falseS 10 R hf]; rfl
  · rfl
theorem leftR_start (s : List UInt8) : (splitC 10 s).tail.map entryR = leftR (cutAt 10 s).2.2 (cutAt 10 s).2.1 := by
  unfold leftR
  rw [splitC_cut]
  cases hf : (cutAt 10 s).2.2
  · rfl
  · rfl
attribute [local go_sem ↓] bplan_fold
attribute [local go_sem] run_bplan0 run_bplan3 splice_plan Fits_plan run_storeC_plan
set_option maxHeartbeats 8000000 in
theorem rparse21_any (s : List UInt8) (w : World) (hl : s.length ≤ 100000) : Calls Tryz.prog 13 #[.string ⟨s.toArray⟩] w (RetPl w (parseR s)) := by
  by_cases hbig : 24400 < s.length
  · have HO := Lib.hid (show parseR s = (plan0, 4) by unfold parseR; rw [if_pos hbig])
    generalize parseR s = out at HO ⊢
    go_enter Tryz.func13, Tryz.ntmps13
    go_upto_region 1 with (fail)
    have X0 : Blk (w.alloc (.cells (plan0.arr none 0) 52)) w.heap.size (plan0.arr none 0) := Blk.new w _ _
    have B0 := alloc_below w (.cells (plan0.arr none 0) 52)
    rw [plan0_arr] at X0 B0
    generalize w.alloc _ = W at X0 B0 ⊢
    rw [← plan0_arr] at X0
    have d2 := X0.plain
    have d3 : blkOf W w.heap.size = plan0.arr none 0 := X0.of
    go_wp2
    exact bodyPost_ret (results_agg Tryz.results13 _ _ w.heap.size (plan0.arr none 0) 4 _ rfl rfl (X0.set _).cell Tryz.underlying52 rfl info_plan) rfl ⟨none, 0, by rw [HO.out]; rfl, by rw [HO.out]; exact Nat.le_refl _, by rw [HO.out]; exact Ents.nil _ _, below_setRow' B0 (Nat.le_refl _) _⟩
  · have HO0 : parseR s = if planT (readR s) = [] ∨ planT (readR s) ≠ s then (plan0, 4) else (readR s, 0) := by unfold parseR; rw [if_neg hbig]
    have HSM := Lib.hid (show ∀ x ∈ (readR s).es, x.small from fun x hx => by
      have hx : x ∈ (splitC 10 s).tail.map entryR := hx
      obtain ⟨y, hy, rfl⟩ := List.mem_map.1 hx
      exact entryR_small (by have := splitC_mem 10 s y (List.mem_of_mem_tail hy); omega))
    have HEQ := Lib.hid (show (readR s).es = leftR (cutAt 10 s).2.2 (cutAt 10 s).2.1 from leftR_start s)
    obtain ⟨P, hP⟩ : ∃ P, P = readR s := ⟨_, rfl⟩
    rw [← hP] at HO0 HSM HEQ
    have HO := Lib.hid HO0
    clear HO0
    generalize parseR s = out at HO ⊢
    have hc0 := cutAt_len 10 s
    have hp0 := cutAt_parts 10 s
    have kc0 := Lib.hid (fun w => rcut_at s 10 10 rfl w (by omega))
    have hP := hP.trans rfl
    unfold readR tail32 head32 at hP
    generalize cutAt 10 s = q0 at hc0 kc0 hP HEQ hp0
    obtain ⟨H, R0, m0⟩ := q0
    simp only at hc0 kc0 hP HEQ hp0
    have hR0 : m0 = true → R0.length + 1 ≤ s.length := fun h => by have := congrArg List.length (hp0 h); simp at this; omega
    have HR0 := Lib.hid hR0
    clear hR0 hp0
    have hc1 := cutAt_len 32 H
    have kc1 := Lib.hid (fun w => rcut_at H 32 32 rfl w (by omega))
    generalize cutAt 32 H = q1 at hc1 kc1 hP
    obtain ⟨a1, b1, f1⟩ := q1
    simp only at hc1 kc1 hP
    have hc2 := cutAt_len 32 b1
    have kc2 := Lib.hid (fun w => rcut_at b1 32 32 rfl w (by omega))
    generalize cutAt 32 b1 = q2 at hc2 kc2 hP
    obtain ⟨a2, b2, f2⟩ := q2
    simp only at hc2 kc2 hP
    have hc3 := cutAt_len 32 b2
    have kc3 := Lib.hid (fun w => rcut_at b2 32 32 rfl w (by omega))
    generalize cutAt 32 b2 = q3 at hc3 kc3 hP
    obtain ⟨a3, b3, f3⟩ := q3
    simp only at hc3 kc3 hP
    have kf := Lib.hid (fun w => rvalue_any a2 w (by omega))
    have kt := Lib.hid (fun w => rvalue_any a3 w (by omega))
    have kn := Lib.hid (fun w => rnum_any b3 w (by omega))
    have ua := undashB_len a2
    have ub := undashB_len a3
    have lf : (undashB a2).length ≤ 100000 := by omega
    have lt : (undashB a3).length ≤ 100000 := by omega
    have hRl : R0.length ≤ s.length := hc0.2
    clear hc0 hc1 hc2 hc3 ua ub
    generalize undashB a2 = fr at kf hP lf
    generalize undashB a3 = tt at kt hP lt
    generalize numR b3 = nn at kn hP
    obtain ⟨ES, hES⟩ : ∃ ES, ES = P.es := ⟨_, rfl⟩
    have hPE : P = ⟨fr, tt, ES, nn⟩ := by rw [hES, hP]
    have HP := Lib.hid hPE
    rw [← hES] at HSM HEQ
    clear hP hES hPE
    go_enter Tryz.func13, Tryz.ntmps13
    go_upto_region 1 with (fail)
    have X0 : Blk (w.alloc (.cells (plan0.arr none 0) 52)) w.heap.size (plan0.arr none 0) := Blk.new w _ _
    have B0 := alloc_below w (.cells (plan0.arr none 0) 52)
    rw [plan0_arr] at X0 B0
    generalize w.alloc _ = W at X0 B0 ⊢
    rw [← plan0_arr] at X0
    obtain ⟨g, hg0⟩ : ∃ g, g = w.heap.size := ⟨_, rfl⟩
    rw [← hg0] at X0 ⊢
    have hg := Nat.le_of_eq hg0.symm
    clear hg0
    go_upto_region 7 with (go_at_call 36; first
      | ((with_reducible refine callQ (kc0.out _) ?_); intro n0)
      | ((with_reducible refine callQ (kc1.out _) ?_); intro n1)
      | ((with_reducible refine callQ (kc2.out _) ?_); intro n2)
      | ((with_reducible refine callQ (kc3.out _) ?_); intro n3))
    have D1 := below_drewN (Below.refl W.heap.size W) (n0 + n1 + n2 + n3)
    have X1 := X0.step D1
    have B1 := below_step B0 D1
    generalize W.drewN (n0 + n1 + n2 + n3) = W1 at X1 B1 ⊢
    clear X0 B0 D1 kc0 kc1 kc2 kc3
    go_upto_region 8 with (first
      | (go_at_call 37; first | (with_reducible refine callP (kf.out _) ?_) | (with_reducible refine callP (kt.out _) ?_))
      | (go_at_call 38; (with_reducible refine callP (kn.out _) ?_)))
    have P4 := Blk.new W1 ((⟨fr, tt, [], nn⟩ : Plan).arr none 0) 52
    have A4 := alloc_below W1 (.cells ((⟨fr, tt, [], nn⟩ : Plan).arr none 0) 52)
    have X4 := X1.step A4
    have BB := below_step B1 A4
    have hgp : g < W1.heap.size := X1.lt
    have hwp : w.heap.size ≤ W1.heap.size := B1.size
    clear X1 B1 A4 kf kt kn
    generalize W1.alloc _ = wc at *
    generalize W1.heap.size = pb at *
    obtain ⟨wB, hwB⟩ : ∃ wB : World, wB = wc := ⟨_, rfl⟩
    rw [← hwB] at X4 BB
    have HX := Lib.hid X4
    have BH := Lib.hid BB
    have HWB := Lib.hid hwB
    have hpl : pb < wB.heap.size := by rw [hwB]; exact P4.lt
    clear hwB X4 BB
    have hlq : s.length ≤ 24400 := by omega
    go_loopw [5, 6] (fun r m wr => ∃ (R : List UInt8) (b : Bool) (es : List Entry) (A : Option Addr) (c : Nat), r = .string ⟨R.toArray⟩ ∧ m = .bool b ∧ R.length ≤ s.length ∧ es.length + (if b then R.length + 1 else 0) ≤ s.length ∧ es ++ leftR b R = ES ∧ Blk wr pb ((⟨fr, tt, es, nn⟩ : Plan).arr A c) ∧ Out wB wr (.slice A es.length c) es ∧ Touch [pb] wB wr) (fun r m _ => if bitOf m then strLen r + 1 else 0)
    case atStart =>
      refine ⟨R0, m0, [], none, 0, rfl, rfl, hRl, ?_, by rw [HEQ.out]; rfl, P4, by rw [← HWB.out]; exact Out.nil _ _, by rw [← HWB.out]; exact Touch.refl _ _⟩
      have := HR0.out
      cases m0
      · simp
      · simp at this ⊢; omega
    case round =>
      clear P4
      obtain ⟨R, b, es, A, c, rfl, rfl, hR, hbd, hes, P, O, T⟩ := hrel
      have HES := Lib.hid hes
      clear hes
      have hBr := T.below BH.out (by simp; omega)
      cases b
      · obtain ⟨hc, hE, hA⟩ := O.of_slice
        have hes : es = ES := by have := HES.out; simpa [leftR] using this
        have hel : es.length ≤ 100000 := by have := hbd; simp at this; omega
        have hsm : (⟨fr, tt, es, nn⟩ : Plan).small := ⟨by show fr.length ≤ _; omega, by show tt.length ≤ _; omega, by show es.length ≤ _; omega, by rw [hes]; exact HSM.out⟩
        have hcall := Lib.hid (rptext_any ⟨fr, tt, es, nn⟩ A c wr hsm hc hE)
        rw [HP.out, ← hes] at HO
        clear hsm hes HES O hel hbd
        have X4 := T.blk (by simp; omega) HX.out
        have P4 := Lib.hid P
        have EH := Lib.hid hE
        have CH := Lib.hid hc
        have AH := Lib.hid (show ∀ a, A = some a → a.block ≠ g from fun a ha => by have := hA a ha; omega)
        have i1 : Has_plan wr pb 0 := ⟨_, P.is_plan rfl⟩
        have i2 : of_plan wr pb 0 = (⟨fr, tt, es, nn⟩ : Plan).arr A c := of_plan_eq (P.is_plan rfl)
        clear hE hc hA P T
        generalize planT ⟨fr, tt, es, nn⟩ = TX at hcall HO
        go_upto_region 13 with (go_at_call 17; refine callR hcall.out ?_; intro w5 B5 _ _ hz5)
        have X5 := X4.step B5
        have P5 := P4.out.step B5
        have BF := below_step hBr B5
        have E5 := EH.out.below (B := 0) B5
        clear i1 i2 hcall X4 hBr B5
        have d2 := X5.plain
        have d3 : blkOf w5 g = plan0.arr none 0 := X5.of
        have i1 : Has_plan w5 pb 0 := ⟨_, P5.is_plan rfl⟩
        have i2 : of_plan w5 pb 0 = (⟨fr, tt, es, nn⟩ : Plan).arr A c := of_plan_eq (P5.is_plan rfl)
        by_cases hbad : TX = [] ∨ TX ≠ s
        · have HO2 := Lib.hid (HO.out.trans (if_pos hbad))
          rcases TX with _ | ⟨x, r⟩
          · go_wp2
            exact bodyPost_ret (results_agg Tryz.results13 _ _ g (plan0.arr none 0) 4 _ rfl rfl (X5.set _).cell Tryz.underlying52 rfl info_plan) rfl ⟨none, 0, by rw [HO2.out]; rfl, by rw [HO2.out]; exact Nat.le_refl _, by rw [HO2.out]; exact Ents.nil _ _, below_setRow' BF hg _⟩
          · have h0 : ¬ ((x :: r) = ([] : List UInt8)) := by simp
            have h1 : ((x :: r) == s) = false := by
              rcases hbad with h | h
              · exact absurd h h0
              · simpa using h
            clear hbad HO
            go_wp2
            exact bodyPost_ret (results_agg Tryz.results13 _ _ g (plan0.arr none 0) 4 _ rfl rfl (X5.set _).cell Tryz.underlying52 rfl info_plan) rfl ⟨none, 0, by rw [HO2.out]; rfl, by rw [HO2.out]; exact Nat.le_refl _, by rw [HO2.out]; exact Ents.nil _ _, below_setRow' BF hg _⟩
        · have HO2 := Lib.hid (HO.out.trans (if_neg hbad))
          rcases TX with _ | ⟨x, r⟩
          · exact absurd (.inl rfl) hbad
          · have h0 : ¬ ((x :: r) = ([] : List UInt8)) := by simp
            have h1 : ((x :: r) == s) = true := by
              simp only [not_or, ne_eq, Decidable.not_not] at hbad
              simpa using hbad.2
            clear hbad HO
            go_wp2
            refine bodyPost_ret (results_agg Tryz.results13 _ _ g ((⟨fr, tt, es, nn⟩ : Plan).arr A c) 4 _ rfl rfl (X5.set _).cell Tryz.underlying52 rfl info_plan) rfl ⟨A, c, by rw [HO2.out]; rfl, by rw [HO2.out]; exact CH.out, by rw [HO2.out]; exact E5.far AH.out _, below_setRow' BF hg _⟩
      · have hbd2 : es.length + R.length + 1 ≤ s.length := by simpa [Nat.add_assoc] using hbd
        clear hbd
        have HST := Lib.hid (leftR_step R)
        have hc0 := cutAt_len 10 R
        have hp0 := cutAt_parts 10 R
        have kc0 := Lib.hid (fun w => rcut_at R 10 10 rfl w (by omega))
        generalize cutAt 10 R = q0 at hc0 hp0 kc0 HST
        obtain ⟨x, R1, m1⟩ := q0
        simp only at hc0 hp0 kc0 HST
        have hR1 : m1 = true → R1.length + 1 ≤ R.length := fun h => by have := congrArg List.length (hp0 h); simp at this; omega
        have HR1 := Lib.hid hR1
        clear hR1 hp0
        obtain ⟨hxl, hR1l⟩ := hc0
        have OH := Lib.hid O
        have PH := Lib.hid P
        have TH := Lib.hid T
        clear O P T hBr
        go_upto_region 11 with (go_at_call 36; ((with_reducible refine callQ (kc0.out _) ?_); intro n0))
        have D5 := below_drewN (Below.refl wr.heap.size wr) n0
        have OH := Lib.hid (OH.out.below D5)
        have P := PH.out.step D5
        have TH := Lib.hid (TH.out.trans (Touch.of D5))
        generalize wr.drewN n0 = wr at *
        have PH := Lib.hid P
        have DR : Below wr.heap.size wr wr.drew := (Below.refl _ _).drew
        have HE := Lib.hid (rentry_any x wr.drew (by omega))
        generalize entryR x = y at HE HST
        have f2 : wr.drew.cell? ⟨pb, 2, none⟩ = some (.slice A es.length c) := P.cell 2
        have hplr : pb < wr.heap.size := P.lt
        have hbs := TH.out.size
        obtain ⟨i0, hi, hz0, hz1, hz2⟩ := info_parts info_ent_all
        have HI := Lib.hid hi; have HZ0 := Lib.hid hz0; have HZ1 := Lib.hid hz1; have HZ2 := Lib.hid hz2
        have hen2 : es.length ≤ 1000000 := by omega
        clear P hi hz0 hz1 hz2 D5
        go_region_law (first
          | (refine step_append_lies _ (by rfl) (.tmp 60) (.tmp 63) 43 (by rfl) wB.heap.size 41 i0 _ 20 176 Tryz.underlying43 HI.out HZ0.out HZ1.out HZ2.out rfl (by decide) (.slice A es.length c) es.length (cellsOf es) (by rfl) OA.out ⟨w4.heap.size, 0, none⟩ 1 1 (cellsOf [y]) (by rfl) (cellsOf_len [y]) NW.out (cellsOf_one [y]) (by decide) (by unfold maxLen; omega) (by omega) hba _ rfl ?_
             intro gg cap w5 O5 G5 h5 hlt5
             have P5 := PA.out.grown G5 (fun e => by have := OA.out.own_ge e; omega)
             have f6 := P5.cell
             have f7 := P5.frozen 2)
          | (go_simp
             go_at_call 39
             refine callR HE.out ?_
             intro w4 B4 _ _ hz4
             have B4' : Below wr.heap.size wr w4 := below_step DR B4
             have f4 := (PH.out.step B4').cell
             have hpl4 : pb < w4.heap.size := Nat.lt_of_lt_of_le hplr B4'.size
             have OA := Lib.hid ((OH.out.below B4').alloc (.cells y.arr 41))
             have PA := Lib.hid ((PH.out.step B4').alloc (.cells y.arr 41))
             have NW := Lib.hid (fun j u (hu : (cellsOf [y])[j]? = some u) => show (w4.alloc (.cells y.arr 41)).cell? ((⟨w4.heap.size, 0, none⟩ : Addr).add j) = some u by rw [addr_add, Nat.zero_add, (Blk.one w4 y _).cell]; simpa using hu)
             have hba : wB.heap.size ≤ (w4.alloc (.cells y.arr 41)).heap.size := Nat.le_trans hbs (Nat.le_trans B4'.size (alloc_below _ _).size)
             have TA := Lib.hid ((TH.out.trans (Touch.of B4')).trans (Touch.of (alloc_below w4 (.cells y.arr 41))))))
        all_goals
          go_wp2
          go_roundw
          case rel =>
            refine ⟨R1, m1, es ++ [y], some ⟨gg, 0, none⟩, cap, rfl, rfl, by omega, ?_, by rw [← HES.out, HST.out]; simp, ?_, ?_, ?_⟩
            · have := HR1.out
              cases m1
              · simp; omega
              · simp at this ⊢; omega
            · rw [← plan_snoc fr tt es nn A _ c cap y]
              exact P5.setCell 2 _
            · have O6 : Out wB w5 (.slice (some ⟨gg, 0, none⟩) (es ++ [y]).length cap) (es ++ [y]) := by
                unfold Out
                rw [List.length_append, cellsOf_app]
                exact O5
              exact O6.keep fun k' hk' => Below.heap_setCell _ _ _ _ (by show k' ≠ pb; have := O6.own_ge hk'; omega)
            · exact (touch_grown TA.out OA.out (Nat.le_refl _) G5).trans (Touch.setCell [pb] _ (by simp) _ _)
          case measure =>
            have := HR1.out
            cases m1
            · simp [bitOf, strLen]
            · simp [bitOf, strLen, ByteArray.size] at this ⊢; omega
end Go.Proofs.YtjgondadpjildaaGreatDoor
