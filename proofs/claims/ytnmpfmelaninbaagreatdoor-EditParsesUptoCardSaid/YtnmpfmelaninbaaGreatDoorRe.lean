/- The reference's Parse of edits; walks. Printed by wip/mkedrp.py. EditParses: the statement walked. -/
import Derived.Test.YtnmpfmelaninbaaGreatDoorPk45
import Derived.Test.YtnmpfmelaninbaaGreatDoorPk38
import Derived.Test.YtnmpfmelaninbaaGreatDoorRq
import Derived.Test.YtnmpfmelaninbaaGreatDoorPk39
import Derived.Test.YtnmpfmelaninbaaGreatDoorPk40
namespace Go.Proofs.YtnmpfmelaninbaaGreatDoor
open Go.RowKit Go.Sort
set_option linter.unusedVariables false
set_option linter.unusedSimpArgs false
set_option maxRecDepth 100000
theorem alloc_below5R (w : World) (o : Obj) : Below w.heap.size w (w.alloc o) := (Below.refl _ _).alloc (Nat.le_refl _) _
theorem Blk.setCellFar {W : World} {g q : Nat} {cs : Array Value} (h : Blk W g cs) (hne : g ≠ q) (k : Nat) (v : Value) : Blk (W.setCell ⟨q, k, none⟩ v) g cs := by obtain ⟨t, h⟩ := h; exact ⟨t, (Below.heap_setCell _ _ _ _ hne).trans h⟩
theorem small_no {s : List UInt8} (h : 4 < s.length ∨ s.all isD = false) : smallS s = 0 := by
  unfold smallS; rw [if_neg]; rintro ⟨h1, h2⟩; rcases h with h | h
  · omega
  · rw [h] at h2; cases h2
set_option maxHeartbeats 4000000 in
theorem esmall_any (s : List UInt8) (w : World) (hl : s.length ≤ 4000000000) : Calls Tryz.prog 50 #[.string ⟨s.toArray⟩] w (RetP w (.int .i64 (smallS s))) := by
  go_enter Tryz.func50, Tryz.ntmps50
  go_wp2
  go_loop [3, 4] (fun n i => ∃ (k v : Nat), k ≤ s.length ∧ k ≤ 4 ∧ v < 10 ^ k ∧ i = .int .i64 k ∧ n = .int .i64 v ∧ (s.take k).all isD = true ∧ v = val (s.take k)) (fun _ i => s.length - (intOf i).toNat)
  case atStart => exact ⟨0, 0, by omega, by omega, by decide, rfl, rfl, rfl, rfl⟩
  case round =>
    obtain ⟨k, v, hk, hk4, hv, rfl, rfl, ha, hq⟩ := hrel
    have HA := Lib.hid ha
    have HQ := Lib.hid hq
    have hv4 : v < 10000 := Nat.lt_of_lt_of_le hv (Nat.le_trans (Nat.pow_le_pow_right (by decide) hk4) (by decide))
    have HV := Lib.hid hv
    clear ha hq hv
    by_cases hlt : k < s.length
    · by_cases h4 : k = 4
      · subst h4
        have HS := Lib.hid (small_no (s := s) (.inl hlt))
        go_wp2
        go_ret
        exact RetP.int HS.out.symm rfl
      · have h4' : ((k : Int) == 4) = false := by simp; omega
        obtain ⟨c, hc⟩ : ∃ c, s[k] = c := ⟨_, rfl⟩
        have htk : s.take (k + 1) = s.take k ++ [c] := by rw [List.take_succ_eq_append_getElem hlt, hc]
        by_cases hd : isD c = true
        · have hb : 48 ≤ c.toNat ∧ c.toNat ≤ 57 := by simpa [isD] using hd
          have HN := Lib.hid (show 10 * v + (c.toNat - 48) = val (s.take (k + 1)) by rw [htk, val_snoc, ← HQ.out])
          have HAL := Lib.hid (show (s.take (k + 1)).all isD = true by rw [htk, List.all_append, HA.out]; simp [hd])
          have HVV := Lib.hid (show 10 * v + (c.toNat - 48) < 10 ^ (k + 1) by have := HV.out; rw [Nat.pow_succ]; omega)
          have g1 : ¬ (c.toNat : Int) < 48 := by omega
          have g2 : ¬ (57 : Int) < (c.toNat : Int) := by omega
          have g3 : IntKind.u8.wrap ((c.toNat : Int) - 48) = (c.toNat : Int) - 48 := IntWalk.u8_in _ (by omega)
          have g4 : wrap64 (10 * (v : Int)) = 10 * (v : Int) := IntWalk.wrap64_in _ (by omega)
          have g5 : wrap64 ((c.toNat : Int) - 48) = (c.toNat : Int) - 48 := IntWalk.wrap64_in _ (by omega)
          have g6 : wrap64 (10 * (v : Int) + ((c.toNat : Int) - 48)) = 10 * (v : Int) + ((c.toNat : Int) - 48) := IntWalk.wrap64_in _ (by omega)
          have HE := Lib.hid (show (10 * (v : Int) + ((c.toNat : Int) - 48)) = ((10 * v + (c.toNat - 48) : Nat) : Int) by omega)
          clear htk hd HA HQ HV
          go_wp2
          go_round
          case rel => exact ⟨k + 1, 10 * v + (c.toNat - 48), by omega, by omega, HVV.out, by go_num, by rw [← HE.out], HAL.out, HN.out⟩
          case measure => simp [intOf]; omega
        · have hd' : isD c = false := by simpa using hd
          have HS := Lib.hid (small_no (s := s) (.inr (by
            have hm : c ∈ s := hc ▸ List.getElem_mem hlt
            cases h : s.all isD with
            | false => rfl
            | true => exact absurd (List.all_eq_true.1 h c hm) (by rw [hd']; simp))))
          have hb : c.toNat < 48 ∨ 57 < c.toNat := by
            simp only [isD, Bool.and_eq_false_iff, decide_eq_false_iff_not] at hd'
            omega
          clear htk hd hd' HA HQ HV
          by_cases g1 : (c.toNat : Int) < 48
          · go_wp2
            go_ret
            exact RetP.int HS.out.symm rfl
          · have g2 : (57 : Int) < (c.toNat : Int) := by omega
            go_wp2
            go_ret
            exact RetP.int HS.out.symm rfl
    · have HS := Lib.hid (show smallS s = (v : Int) by
        have ht : s.take k = s := List.take_of_length_le (by omega)
        have h1 := HA.out
        have h2 := HQ.out
        rw [ht] at h1 h2
        unfold smallS; rw [if_pos ⟨by omega, h1⟩, h2])
      go_wp2
      go_ret
      exact RetP.int HS.out.symm rfl
/-- The operation whose word is w, among the first n. -/
def opTo (w : List UInt8) (n : Nat) : Int := (((List.range n).map fun (i : Nat) => (i : Int) + 1).foldl (fun o k => if formW k = w then k else o) 0)
theorem opTo_succ (w : List UInt8) (n : Nat) : opTo w (n + 1) = if formW ((n : Int) + 1) = w then (n : Int) + 1 else opTo w n := by
  unfold opTo
  rw [List.range_succ, List.map_append, List.foldl_append]
  rfl
theorem opTo_range (w : List UInt8) : ∀ n, 0 ≤ opTo w n ∧ opTo w n ≤ n
  | 0 => ⟨Int.le_refl _, Int.le_refl _⟩
  | n + 1 => by
    rw [opTo_succ]
    have := opTo_range w n
    split <;> omega
theorem euses_all (op : Int) (h : 0 ≤ op ∧ op ≤ 12) (w : World) : Calls Tryz.prog 33 #[.int .u8 op] w (RetP w (.string ⟨(usesR op).toArray⟩)) := by
  by_cases h0 : op = 0
  · subst h0; exact euses_none 0 (by omega) w
  · exact euses_any op (by omega) w
theorem uses_zero {op : Int} (h : 0 ≤ op ∧ op ≤ 12) : (usesR op).length ≤ 4 ∧ hasI (usesR op) 105 = (formF op).contains 97 ∧ hasI (usesR op) 102 = (formF op).contains 114 ∧ hasI (usesR op) 110 = (formF op).contains 110 ∧ hasI (usesR op) 114 = (formF op).contains 119 ∧ hasI (usesR op) 116 = (formF op).contains 116 ∧ hasI (usesR op) 97 = (formF op).contains 104 ∧ hasI (usesR op) 115 = (formF op).contains 115 ∧ hasI (usesR op) 99 = (formF op).contains 99 ∧ hasI (usesR op) 100 = (formF op).contains 100 ∧ hasI (usesR op) 117 = (formF op).contains 117 := by
  by_cases h0 : op = 0
  · subst h0; decide
  · exact (uses_in (op := op) (by omega)).2
theorem form_filter {op : Int} (h : 0 ≤ op ∧ op ≤ 12) : edOrder.filter (fun c => (formF op).contains c) = formF op := by
  have : op = 0 ∨ op = 1 ∨ op = 2 ∨ op = 3 ∨ op = 4 ∨ op = 5 ∨ op = 6 ∨ op = 7 ∨ op = 8 ∨ op = 9 ∨ op = 10 ∨ op = 11 ∨ op = 12 := by omega
  rcases this with rfl | rfl | rfl | rfl | rfl | rfl | rfl | rfl | rfl | rfl | rfl | rfl | rfl <;> decide
/-- What is read of the rest of a text, the letters l left. -/
def leftGo (F : List UInt8) (x : EditV) (l : List UInt8) (s : List UInt8) : EditV := rreadGo x (l.filter fun c => F.contains c) s
theorem leftGo_no {F : List UInt8} {x : EditV} {c : UInt8} {l s : List UInt8} (h : F.contains c = false) : leftGo F x (c :: l) s = leftGo F x l s := by
  unfold leftGo; rw [List.filter_cons, h]; rfl
theorem leftGo_yes {F : List UInt8} {x : EditV} {c : UInt8} {l s : List UInt8} (h : F.contains c = true) : leftGo F x (c :: l) s = leftGo F (rreadF x c (head32 s)) l (tail32 s) := by
  unfold leftGo; rw [List.filter_cons, h]; rfl
theorem hd_len (s : List UInt8) : (head32 s).length ≤ s.length ∧ (tail32 s).length ≤ s.length := cutAt_len 32 s
theorem rreadF_small {x : EditV} (hx : x.small) (c : UInt8) {s : List UInt8} (hs : s.length ≤ 4000000000) : (rreadF x c s).small := by
  have hu : (undashB s).length ≤ 4000000000 := by unfold undashB; split
                                                  · simp
                                                  · exact hs
  obtain ⟨h1, h2, h3, h4⟩ := hx
  unfold rreadF
  repeat' split
  all_goals first | exact ⟨h1, h2, h3, h4⟩ | exact ⟨hs, h2, h3, h4⟩ | exact ⟨h1, hs, h3, h4⟩ | exact ⟨h1, h2, hu, h4⟩ | exact ⟨h1, h2, h3, hu⟩
theorem run_storeN_edtA (w : World) (c c' : Array Value) (n : Nat) (hn : n = w.heap.size) (hc : SzIs c 12) (hc' : SzIs c' 12) (h1 : Ones c') :
    (store_edt (.pointer (some ⟨n, 0, none⟩)) (.agg c')).run Tryz.prog (w.alloc (.cells c 26)) = .ok () (w.alloc (.cells c' 26)) := by
  subst hn; exact run_storeN_edt w c c' hc hc' h1
abbrev rCells : Array Value := #[.int .u8 105, .int .u8 102, .int .u8 110, .int .u8 114, .int .u8 116, .int .u8 97, .int .u8 115, .int .u8 99, .int .u8 100, .int .u8 117]
attribute [local go_sem ↓] bedt_fold
attribute [local go_sem] run_bedt0 run_storeN_edtA
set_option maxHeartbeats 64000000 in
theorem reditParse_any (s : List UInt8) (w : World) (hs : s.length ≤ 100000) : Calls Tryz.prog 18 #[.string ⟨s.toArray⟩] w (Ret w (edVal (reditParse s))) := by
  have HO := Lib.hid (show reditParse s = okR s (leftGo (formF (opTo (head32 s) 12)) (editOp (opTo (head32 s) 12)) edOrder (tail32 s)) by
    unfold leftGo; rw [form_filter (opTo_range _ 12)]; rfl)
  generalize reditParse s = OUT at HO ⊢
  have kc0 := Lib.hid (fun w' => rcut_any s 32 w' (by omega))
  rw [show (cutAt 32 s).1 = head32 s from rfl, show (cutAt 32 s).2.1 = tail32 s from rfl] at kc0
  obtain ⟨l1, l2⟩ := hd_len s
  generalize head32 s = hw at kc0 HO l1
  generalize tail32 s = tl at kc0 HO l2
  generalize (cutAt 32 s).2.2 = fb at kc0
  have KC := Lib.hid (fun w' => show Calls Tryz.prog 49 #[.string ⟨s.toArray⟩, .int .u8 32] w' (RetQ w' (.tuple #[.string ⟨hw.toArray⟩, .string ⟨tl.toArray⟩, .bool fb])) from kc0.out w')
  clear kc0
  go_enter Tryz.func18, Tryz.ntmps18
  go_upto_region 1 with (fail)
  have G0 : Blk (w.alloc (.cells edit0.arr 26)) w.heap.size edit0.arr := Blk.new w _ _
  have B0 := alloc_below5R w (.cells edit0.arr 26)
  rw [edit0_arr] at G0 B0
  generalize w.alloc _ = W at G0 B0 ⊢
  rw [← edit0_arr] at G0
  obtain ⟨g, hg0⟩ : ∃ g, g = w.heap.size := ⟨_, rfl⟩
  rw [← hg0] at G0 ⊢
  have hg := Nat.le_of_eq hg0.symm
  clear hg0
  go_upto_region 3 with (go_at_call 49; (with_reducible refine callQ (KC.out _) ?_); intro n1; have hsz : W.heap.size = (W.drewN n1).heap.size := rfl)
  have G1 := (G0.step (below_drewN (Below.refl _ _) n1)).alloc (.cells edit0.arr 26)
  have X1 := Blk.new (W.drewN n1) edit0.arr 26
  have B1 := below_step B0 (below_step (below_drewN (Below.refl _ _) n1) (alloc_below5R (W.drewN n1) (.cells edit0.arr 26)))
  have hgx : g ≠ (W.drewN n1).heap.size := by have := (G0.step (below_drewN (Below.refl _ _) n1)).lt; omega
  have hwx : w.heap.size ≤ (W.drewN n1).heap.size := (below_step B0 (below_drewN (Below.refl _ _) n1)).size
  clear G0 B0 KC
  generalize (W.drewN n1).alloc _ = W1 at G1 X1 B1 ⊢
  generalize (W.drewN n1).heap.size = gx at X1 hgx hwx ⊢
  go_wp2
  go_loopw [8] (fun o wr => ∃ k : Nat, k ≤ 12 ∧ o = .int .u8 ((k : Int) + 1) ∧ Blk wr gx (editOp (opTo hw k)).arr ∧ Blk wr g edit0.arr ∧ Below w.heap.size w wr) (fun o _ => 13 - (intOf o).toNat)
  case atStart => exact ⟨0, by omega, rfl, X1, G1, B1⟩
  case round =>
    obtain ⟨k, hk, rfl, X, G, B⟩ := hrel
    clear X1 G1 B1
    by_cases hlt : k < 12
    · have h1 : (k : Int) + 1 ≤ 12 := by omega
      have h1' : ¬ (12 : Int) < (k : Int) + 1 := by omega
      have hw8 : IntKind.u8.wrap ((k : Int) + 1 + 1) = (k : Int) + 1 + 1 := IntWalk.u8_in _ (by omega)
      have kw := Lib.hid (erword_any ((k : Int) + 1) (by omega) wr)
      have HS := Lib.hid (opTo_succ hw k)
      by_cases hm : formW ((k : Int) + 1) = hw
      · have hm' : (formW ((k : Int) + 1) == hw) = true := by simpa using hm
        have HX := Lib.hid (show opTo hw (k + 1) = (k : Int) + 1 from HS.out.trans (if_pos hm))
        clear hm HS
        go_wp2_with (go_at_call 41; (with_reducible refine callR kw.out ?_); intro w2 b2 _ _ _; have X2 := X.step b2; have f2 := X2.frozen 0; have c2 := X2.cell 0; have G2 := Lib.hid (G.step b2); have B2 := Lib.hid (below_step B b2))
        go_roundw
        case rel =>
          refine ⟨k + 1, by omega, by go_num, ?_, ?_, below_setCell B2.out hwx _ _⟩
          · rw [HX.out]; exact X2.setCell 0 _
          · exact G2.out.setCellFar hgx _ _
        case measure => simp [intOf]; omega
      · have hm' : (formW ((k : Int) + 1) == hw) = false := by simpa using hm
        have HX := Lib.hid (show opTo hw (k + 1) = opTo hw k from HS.out.trans (if_neg hm))
        clear hm HS
        go_wp2_with (go_at_call 41; (with_reducible refine callR kw.out ?_); intro w2 b2 _ _ _)
        go_roundw
        case rel => exact ⟨k + 1, by omega, by go_num, by rw [HX.out]; exact X.step b2, G.step b2, below_step B b2⟩
        case measure => simp [intOf]; omega
    · obtain rfl : k = 12 := by omega
      obtain ⟨o0, o12⟩ := opTo_range hw 12
      generalize opTo hw 12 = op at *
      have ku := Lib.hid (fun w' => euses_all op ⟨o0, o12⟩ w')
      obtain ⟨uL, u97, u114, u110, u119, u116, u104, u115, u99, u100, u117⟩ := uses_zero ⟨o0, o12⟩
      have c0 : wr.cell? ⟨gx, 0, none⟩ = some (.int .u8 op) := X.cell 0
      have kc := Lib.run_convert_bytes_const (P := Tryz.prog) wr 89 5 rCells 10 10 Tryz.underlying89 Tryz.underlying5
      have kh97 := Lib.hid (fun w' => ehas_any (usesR op) 105 w' (by omega))
      rw [u97] at kh97
      clear u97
      have kh114 := Lib.hid (fun w' => ehas_any (usesR op) 102 w' (by omega))
      rw [u114] at kh114
      clear u114
      have kh110 := Lib.hid (fun w' => ehas_any (usesR op) 110 w' (by omega))
      rw [u110] at kh110
      clear u110
      have kh119 := Lib.hid (fun w' => ehas_any (usesR op) 114 w' (by omega))
      rw [u119] at kh119
      clear u119
      have kh116 := Lib.hid (fun w' => ehas_any (usesR op) 116 w' (by omega))
      rw [u116] at kh116
      clear u116
      have kh104 := Lib.hid (fun w' => ehas_any (usesR op) 97 w' (by omega))
      rw [u104] at kh104
      clear u104
      have kh115 := Lib.hid (fun w' => ehas_any (usesR op) 115 w' (by omega))
      rw [u115] at kh115
      clear u115
      have kh99 := Lib.hid (fun w' => ehas_any (usesR op) 99 w' (by omega))
      rw [u99] at kh99
      clear u99
      have kh100 := Lib.hid (fun w' => ehas_any (usesR op) 100 w' (by omega))
      rw [u100] at kh100
      clear u100
      have kh117 := Lib.hid (fun w' => ehas_any (usesR op) 117 w' (by omega))
      rw [u117] at kh117
      clear u117
      generalize formF op = F at *
      have hsmO := editOp_small op
      have B3 := below_step B (alloc_below5R wr (.cells rCells 5 (10, 11)))
      have X3 := X.alloc (.cells rCells 5 (10, 11))
      have G3 := G.alloc (.cells rCells 5 (10, 11))
      have hgs : gx < wr.heap.size := X.lt
      have hgl : wr.heap.size < (wr.alloc (.cells rCells 5 (10, 11))).heap.size := by simp
      have H7 := Lib.hid (show ∀ j, (wr.alloc (.cells rCells 5 (10, 11))).cell? ⟨wr.heap.size, j, none⟩ = rCells[j]? from fun j => cell_of_row _ _ j rCells 5 (10, 11) (heap_alloc_new wr _))
      go_wp2_with (go_at_call 33; (with_reducible refine callP (ku.out _) ?_))
      clear kc c0 X G B ku
      generalize editOp op = x0 at *
      generalize wr.alloc _ = W3 at X3 G3 B3 H7 hgl ⊢
      generalize wr.heap.size = gs at H7 hgs hgl ⊢
      go_loopw [5, 37] (fun rv iv wr => ∃ (k : Nat) (x : EditV) (r : List UInt8), k ≤ 10 ∧ rv = .string ⟨r.toArray⟩ ∧ iv = .int .i64 k ∧ r.length ≤ s.length ∧ x.small ∧ leftGo F x0 edOrder tl = leftGo F x (edOrder.drop k) r ∧ Blk wr gx x.arr ∧ Touch [gx] W3 wr) (fun _ iv _ => 10 - (intOf iv).toNat)
      case atStart => exact ⟨0, x0, tl, by omega, rfl, rfl, l2, hsmO, rfl, X3, Touch.refl _ _⟩
      case round =>
        obtain ⟨k, x, r, hk, rfl, rfl, hr, hsm, hq, X, T⟩ := hrel
        rename_i wr
        have HQ := Lib.hid hq
        clear hq
        by_cases hlt : k < 10
        · clear G3
          have q1 : wr.cell? ⟨gs, k, none⟩ = rCells[k]? := by rw [T.cell (by simp; omega) hgl, H7.out]
          have hk10 : k = 0 ∨ k = 1 ∨ k = 2 ∨ k = 3 ∨ k = 4 ∨ k = 5 ∨ k = 6 ∨ k = 7 ∨ k = 8 ∨ k = 9 := by omega
          have kct := Lib.hid (fun w' => show Calls Tryz.prog 49 #[.string ⟨r.toArray⟩, .int .u8 32] w' (RetQ w' (.tuple #[.string ⟨(head32 r).toArray⟩, .string ⟨(tail32 r).toArray⟩, .bool (cutAt 32 r).2.2])) from rcut_any r 32 w' (by omega))
          obtain ⟨m1, m2⟩ := hd_len r
          clear hlt hk
          rcases hk10 with rfl | rfl | rfl | rfl | rfl | rfl | rfl | rfl | rfl | rfl
          · as_aux_lemma =>
            have q2 : wr.cell? ⟨gs, 0 + 0, none⟩ = some (.int .u8 105) := by rw [Nat.zero_add]; exact q1
            clear q1
            have kh := kh97
            clear kh97 kh114 kh110 kh119 kh116 kh104 kh115 kh99 kh100 kh117
            cases hb : F.contains 97
            · have HN := Lib.hid (show leftGo F x0 edOrder tl = leftGo F x (edOrder.drop 1) r from HQ.out.trans (leftGo_no hb))
              rw [hb] at kh
              clear hb HQ
              go_wp2_with (go_at_call 35; (with_reducible refine callP (kh.out _) ?_))
              go_roundw
              case rel => exact ⟨1, x, r, by omega, rfl, by first | rfl | go_num, hr, hsm, HN.out, X, T⟩
              case measure => simp [intOf]
            · have HN := Lib.hid (show leftGo F x0 edOrder tl = leftGo F (rreadF x 97 (head32 r)) (edOrder.drop 1) (tail32 r) from HQ.out.trans (leftGo_yes hb))
              rw [hb] at kh
              clear hb HQ
              have hys := Lib.hid (rreadF_small hsm 97 (show (head32 r).length ≤ 4000000000 by omega))
              generalize head32 r = hw2 at *
              generalize tail32 r = tl2 at *
              generalize (cutAt 32 r).2.2 = fb2 at *
              have kf := Lib.hid (fun w' => esmall_any hw2 w' (by omega))
              have HE := Lib.hid (show rreadF x 97 hw2 = { x with at_ := smallS hw2 } from rfl)
              rw [HE.out] at hys HN
              clear HE
              generalize smallS hw2 = n at *
              cases h1 : (hw2 == [45])
              · go_wp2_with (first | (go_at_call 35; (with_reducible refine callP (kh.out _) ?_)) | (go_at_call 49; (with_reducible refine callQ (kct.out _) ?_); intro n2; have b2 := below_drewN (Below.refl wr.heap.size wr) n2; generalize wr.drewN n2 = w2 at b2 ⊢; have X2 := X.step b2; have c2 := X2.cell; have f2 := X2.frozen) | (go_at_call 50; (with_reducible refine callP (kf.out _) ?_)))
                go_roundw
                case rel => exact ⟨1, _, tl2, by omega, rfl, by first | rfl | go_num, by omega, hys.out, HN.out, X2.setCell 1 _, (T.trans (Touch.of b2)).trans (Touch.setCell _ _ (by simp) 1 _)⟩
                case measure => simp [intOf]
              · go_wp2_with (first | (go_at_call 35; (with_reducible refine callP (kh.out _) ?_)) | (go_at_call 49; (with_reducible refine callQ (kct.out _) ?_); intro n2; have b2 := below_drewN (Below.refl wr.heap.size wr) n2; generalize wr.drewN n2 = w2 at b2 ⊢; have X2 := X.step b2; have c2 := X2.cell; have f2 := X2.frozen) | (go_at_call 50; (with_reducible refine callP (kf.out _) ?_)))
                go_roundw
                case rel => exact ⟨1, _, tl2, by omega, rfl, by first | rfl | go_num, by omega, hys.out, HN.out, X2.setCell 1 _, (T.trans (Touch.of b2)).trans (Touch.setCell _ _ (by simp) 1 _)⟩
                case measure => simp [intOf]
          · as_aux_lemma =>
            have q2 : wr.cell? ⟨gs, 0 + 1, none⟩ = some (.int .u8 102) := by rw [Nat.zero_add]; exact q1
            clear q1
            have kh := kh114
            clear kh97 kh114 kh110 kh119 kh116 kh104 kh115 kh99 kh100 kh117
            cases hb : F.contains 114
            · have HN := Lib.hid (show leftGo F x0 edOrder tl = leftGo F x (edOrder.drop 2) r from HQ.out.trans (leftGo_no hb))
              rw [hb] at kh
              clear hb HQ
              go_wp2_with (go_at_call 35; (with_reducible refine callP (kh.out _) ?_))
              go_roundw
              case rel => exact ⟨2, x, r, by omega, rfl, by first | rfl | go_num, hr, hsm, HN.out, X, T⟩
              case measure => simp [intOf]
            · have HN := Lib.hid (show leftGo F x0 edOrder tl = leftGo F (rreadF x 114 (head32 r)) (edOrder.drop 2) (tail32 r) from HQ.out.trans (leftGo_yes hb))
              rw [hb] at kh
              clear hb HQ
              have hys := Lib.hid (rreadF_small hsm 114 (show (head32 r).length ≤ 4000000000 by omega))
              generalize head32 r = hw2 at *
              generalize tail32 r = tl2 at *
              generalize (cutAt 32 r).2.2 = fb2 at *
              have HE := Lib.hid (show rreadF x 114 hw2 = { x with ref := hw2 } from rfl)
              rw [HE.out] at hys HN
              clear HE
              cases h1 : (hw2 == [45])
              · go_wp2_with (first | (go_at_call 35; (with_reducible refine callP (kh.out _) ?_)) | (go_at_call 49; (with_reducible refine callQ (kct.out _) ?_); intro n2; have b2 := below_drewN (Below.refl wr.heap.size wr) n2; generalize wr.drewN n2 = w2 at b2 ⊢; have X2 := X.step b2; have c2 := X2.cell; have f2 := X2.frozen))
                go_roundw
                case rel => exact ⟨2, _, tl2, by omega, rfl, by first | rfl | go_num, by omega, hys.out, HN.out, X2.setCell 2 _, (T.trans (Touch.of b2)).trans (Touch.setCell _ _ (by simp) 2 _)⟩
                case measure => simp [intOf]
              · go_wp2_with (first | (go_at_call 35; (with_reducible refine callP (kh.out _) ?_)) | (go_at_call 49; (with_reducible refine callQ (kct.out _) ?_); intro n2; have b2 := below_drewN (Below.refl wr.heap.size wr) n2; generalize wr.drewN n2 = w2 at b2 ⊢; have X2 := X.step b2; have c2 := X2.cell; have f2 := X2.frozen))
                go_roundw
                case rel => exact ⟨2, _, tl2, by omega, rfl, by first | rfl | go_num, by omega, hys.out, HN.out, X2.setCell 2 _, (T.trans (Touch.of b2)).trans (Touch.setCell _ _ (by simp) 2 _)⟩
                case measure => simp [intOf]
          · as_aux_lemma =>
            have q2 : wr.cell? ⟨gs, 0 + 2, none⟩ = some (.int .u8 110) := by rw [Nat.zero_add]; exact q1
            clear q1
            have kh := kh110
            clear kh97 kh114 kh110 kh119 kh116 kh104 kh115 kh99 kh100 kh117
            cases hb : F.contains 110
            · have HN := Lib.hid (show leftGo F x0 edOrder tl = leftGo F x (edOrder.drop 3) r from HQ.out.trans (leftGo_no hb))
              rw [hb] at kh
              clear hb HQ
              go_wp2_with (go_at_call 35; (with_reducible refine callP (kh.out _) ?_))
              go_roundw
              case rel => exact ⟨3, x, r, by omega, rfl, by first | rfl | go_num, hr, hsm, HN.out, X, T⟩
              case measure => simp [intOf]
            · have HN := Lib.hid (show leftGo F x0 edOrder tl = leftGo F (rreadF x 110 (head32 r)) (edOrder.drop 3) (tail32 r) from HQ.out.trans (leftGo_yes hb))
              rw [hb] at kh
              clear hb HQ
              have hys := Lib.hid (rreadF_small hsm 110 (show (head32 r).length ≤ 4000000000 by omega))
              generalize head32 r = hw2 at *
              generalize tail32 r = tl2 at *
              generalize (cutAt 32 r).2.2 = fb2 at *
              have HE := Lib.hid (show rreadF x 110 hw2 = { x with name := hw2 } from rfl)
              rw [HE.out] at hys HN
              clear HE
              cases h1 : (hw2 == [45])
              · go_wp2_with (first | (go_at_call 35; (with_reducible refine callP (kh.out _) ?_)) | (go_at_call 49; (with_reducible refine callQ (kct.out _) ?_); intro n2; have b2 := below_drewN (Below.refl wr.heap.size wr) n2; generalize wr.drewN n2 = w2 at b2 ⊢; have X2 := X.step b2; have c2 := X2.cell; have f2 := X2.frozen))
                go_roundw
                case rel => exact ⟨3, _, tl2, by omega, rfl, by first | rfl | go_num, by omega, hys.out, HN.out, X2.setCell 3 _, (T.trans (Touch.of b2)).trans (Touch.setCell _ _ (by simp) 3 _)⟩
                case measure => simp [intOf]
              · go_wp2_with (first | (go_at_call 35; (with_reducible refine callP (kh.out _) ?_)) | (go_at_call 49; (with_reducible refine callQ (kct.out _) ?_); intro n2; have b2 := below_drewN (Below.refl wr.heap.size wr) n2; generalize wr.drewN n2 = w2 at b2 ⊢; have X2 := X.step b2; have c2 := X2.cell; have f2 := X2.frozen))
                go_roundw
                case rel => exact ⟨3, _, tl2, by omega, rfl, by first | rfl | go_num, by omega, hys.out, HN.out, X2.setCell 3 _, (T.trans (Touch.of b2)).trans (Touch.setCell _ _ (by simp) 3 _)⟩
                case measure => simp [intOf]
          · as_aux_lemma =>
            have q2 : wr.cell? ⟨gs, 0 + 3, none⟩ = some (.int .u8 114) := by rw [Nat.zero_add]; exact q1
            clear q1
            have kh := kh119
            clear kh97 kh114 kh110 kh119 kh116 kh104 kh115 kh99 kh100 kh117
            cases hb : F.contains 119
            · have HN := Lib.hid (show leftGo F x0 edOrder tl = leftGo F x (edOrder.drop 4) r from HQ.out.trans (leftGo_no hb))
              rw [hb] at kh
              clear hb HQ
              go_wp2_with (go_at_call 35; (with_reducible refine callP (kh.out _) ?_))
              go_roundw
              case rel => exact ⟨4, x, r, by omega, rfl, by first | rfl | go_num, hr, hsm, HN.out, X, T⟩
              case measure => simp [intOf]
            · have HN := Lib.hid (show leftGo F x0 edOrder tl = leftGo F (rreadF x 119 (head32 r)) (edOrder.drop 4) (tail32 r) from HQ.out.trans (leftGo_yes hb))
              rw [hb] at kh
              clear hb HQ
              have hys := Lib.hid (rreadF_small hsm 119 (show (head32 r).length ≤ 4000000000 by omega))
              generalize head32 r = hw2 at *
              generalize tail32 r = tl2 at *
              generalize (cutAt 32 r).2.2 = fb2 at *
              by_cases hd : hw2 = [45]
              · have HE := Lib.hid (show rreadF x 119 hw2 = { x with rway := [] } by rw [hd]; rfl)
                rw [HE.out] at hys HN
                clear HE
                have h1 : (hw2 == [45]) = true := by simpa using hd
                clear hd
                go_wp2_with (first | (go_at_call 35; (with_reducible refine callP (kh.out _) ?_)) | (go_at_call 49; (with_reducible refine callQ (kct.out _) ?_); intro n2; have b2 := below_drewN (Below.refl wr.heap.size wr) n2; generalize wr.drewN n2 = w2 at b2 ⊢; have X2 := X.step b2; have c2 := X2.cell; have f2 := X2.frozen))
                go_roundw
                case rel => exact ⟨4, _, tl2, by omega, rfl, by first | rfl | go_num, by omega, hys.out, HN.out, X2.setCell 4 _, (T.trans (Touch.of b2)).trans (Touch.setCell _ _ (by simp) 4 _)⟩
                case measure => simp [intOf]
              · have HE := Lib.hid (show rreadF x 119 hw2 = { x with rway := hw2 } by show ({ x with rway := undashB hw2 } : EditV) = _; unfold undashB; rw [if_neg hd])
                rw [HE.out] at hys HN
                clear HE
                have h1 : (hw2 == [45]) = false := by simpa using hd
                clear hd
                go_wp2_with (first | (go_at_call 35; (with_reducible refine callP (kh.out _) ?_)) | (go_at_call 49; (with_reducible refine callQ (kct.out _) ?_); intro n2; have b2 := below_drewN (Below.refl wr.heap.size wr) n2; generalize wr.drewN n2 = w2 at b2 ⊢; have X2 := X.step b2; have c2 := X2.cell; have f2 := X2.frozen))
                go_roundw
                case rel => exact ⟨4, _, tl2, by omega, rfl, by first | rfl | go_num, by omega, hys.out, HN.out, X2.setCell 4 _, (T.trans (Touch.of b2)).trans (Touch.setCell _ _ (by simp) 4 _)⟩
                case measure => simp [intOf]
          · as_aux_lemma =>
            have q2 : wr.cell? ⟨gs, 0 + 4, none⟩ = some (.int .u8 116) := by rw [Nat.zero_add]; exact q1
            clear q1
            have kh := kh116
            clear kh97 kh114 kh110 kh119 kh116 kh104 kh115 kh99 kh100 kh117
            cases hb : F.contains 116
            · have HN := Lib.hid (show leftGo F x0 edOrder tl = leftGo F x (edOrder.drop 5) r from HQ.out.trans (leftGo_no hb))
              rw [hb] at kh
              clear hb HQ
              go_wp2_with (go_at_call 35; (with_reducible refine callP (kh.out _) ?_))
              go_roundw
              case rel => exact ⟨5, x, r, by omega, rfl, by first | rfl | go_num, hr, hsm, HN.out, X, T⟩
              case measure => simp [intOf]
            · have HN := Lib.hid (show leftGo F x0 edOrder tl = leftGo F (rreadF x 116 (head32 r)) (edOrder.drop 5) (tail32 r) from HQ.out.trans (leftGo_yes hb))
              rw [hb] at kh
              clear hb HQ
              have hys := Lib.hid (rreadF_small hsm 116 (show (head32 r).length ≤ 4000000000 by omega))
              generalize head32 r = hw2 at *
              generalize tail32 r = tl2 at *
              generalize (cutAt 32 r).2.2 = fb2 at *
              by_cases hd : hw2 = [45]
              · have HE := Lib.hid (show rreadF x 116 hw2 = { x with trans := [] } by rw [hd]; rfl)
                rw [HE.out] at hys HN
                clear HE
                have h1 : (hw2 == [45]) = true := by simpa using hd
                clear hd
                go_wp2_with (first | (go_at_call 35; (with_reducible refine callP (kh.out _) ?_)) | (go_at_call 49; (with_reducible refine callQ (kct.out _) ?_); intro n2; have b2 := below_drewN (Below.refl wr.heap.size wr) n2; generalize wr.drewN n2 = w2 at b2 ⊢; have X2 := X.step b2; have c2 := X2.cell; have f2 := X2.frozen))
                go_roundw
                case rel => exact ⟨5, _, tl2, by omega, rfl, by first | rfl | go_num, by omega, hys.out, HN.out, X2.setCell 5 _, (T.trans (Touch.of b2)).trans (Touch.setCell _ _ (by simp) 5 _)⟩
                case measure => simp [intOf]
              · have HE := Lib.hid (show rreadF x 116 hw2 = { x with trans := hw2 } by show ({ x with trans := undashB hw2 } : EditV) = _; unfold undashB; rw [if_neg hd])
                rw [HE.out] at hys HN
                clear HE
                have h1 : (hw2 == [45]) = false := by simpa using hd
                clear hd
                go_wp2_with (first | (go_at_call 35; (with_reducible refine callP (kh.out _) ?_)) | (go_at_call 49; (with_reducible refine callQ (kct.out _) ?_); intro n2; have b2 := below_drewN (Below.refl wr.heap.size wr) n2; generalize wr.drewN n2 = w2 at b2 ⊢; have X2 := X.step b2; have c2 := X2.cell; have f2 := X2.frozen))
                go_roundw
                case rel => exact ⟨5, _, tl2, by omega, rfl, by first | rfl | go_num, by omega, hys.out, HN.out, X2.setCell 5 _, (T.trans (Touch.of b2)).trans (Touch.setCell _ _ (by simp) 5 _)⟩
                case measure => simp [intOf]
          · as_aux_lemma =>
            have q2 : wr.cell? ⟨gs, 0 + 5, none⟩ = some (.int .u8 97) := by rw [Nat.zero_add]; exact q1
            clear q1
            have kh := kh104
            clear kh97 kh114 kh110 kh119 kh116 kh104 kh115 kh99 kh100 kh117
            cases hb : F.contains 104
            · have HN := Lib.hid (show leftGo F x0 edOrder tl = leftGo F x (edOrder.drop 6) r from HQ.out.trans (leftGo_no hb))
              rw [hb] at kh
              clear hb HQ
              go_wp2_with (go_at_call 35; (with_reducible refine callP (kh.out _) ?_))
              go_roundw
              case rel => exact ⟨6, x, r, by omega, rfl, by first | rfl | go_num, hr, hsm, HN.out, X, T⟩
              case measure => simp [intOf]
            · have HN := Lib.hid (show leftGo F x0 edOrder tl = leftGo F (rreadF x 104 (head32 r)) (edOrder.drop 6) (tail32 r) from HQ.out.trans (leftGo_yes hb))
              rw [hb] at kh
              clear hb HQ
              have hys := Lib.hid (rreadF_small hsm 104 (show (head32 r).length ≤ 4000000000 by omega))
              generalize head32 r = hw2 at *
              generalize tail32 r = tl2 at *
              generalize (cutAt 32 r).2.2 = fb2 at *
              have kf := Lib.hid (fun w' => rparseWindow_any hw2 w' (by omega))
              have HE := Lib.hid (show rreadF x 104 hw2 = { x with lo := (rparseWinS hw2).1.1, hi := (rparseWinS hw2).1.2 } from rfl)
              rw [HE.out] at hys HN
              clear HE
              generalize rparseWinS hw2 = q at *
              obtain ⟨⟨a, b⟩, m⟩ := q
              dsimp only at hys HN
              cases h1 : (hw2 == [45])
              · go_wp2_with (first | (go_at_call 35; (with_reducible refine callP (kh.out _) ?_)) | (go_at_call 49; (with_reducible refine callQ (kct.out _) ?_); intro n2; have b2 := below_drewN (Below.refl wr.heap.size wr) n2; generalize wr.drewN n2 = w2 at b2 ⊢; have X2 := X.step b2; have c2 := X2.cell; have f2 := X2.frozen) | (go_at_call 51; (with_reducible refine callR (kf.out _) ?_); intro w3 b3 _ _ _; clear c2 f2; have X3 := X2.step b3; have d2 := X3.plain; have d3 := X3.of; have d4 := splice_edtW x a b))
                go_roundw
                case rel => exact ⟨6, _, tl2, by omega, rfl, by first | rfl | go_num, by omega, hys.out, HN.out, X3.set _, ((T.trans (Touch.of b2)).trans (Touch.of b3)).trans (touch_setRowE _ _)⟩
                case measure => simp [intOf]
              · go_wp2_with (first | (go_at_call 35; (with_reducible refine callP (kh.out _) ?_)) | (go_at_call 49; (with_reducible refine callQ (kct.out _) ?_); intro n2; have b2 := below_drewN (Below.refl wr.heap.size wr) n2; generalize wr.drewN n2 = w2 at b2 ⊢; have X2 := X.step b2; have c2 := X2.cell; have f2 := X2.frozen) | (go_at_call 51; (with_reducible refine callR (kf.out _) ?_); intro w3 b3 _ _ _; clear c2 f2; have X3 := X2.step b3; have d2 := X3.plain; have d3 := X3.of; have d4 := splice_edtW x a b))
                go_roundw
                case rel => exact ⟨6, _, tl2, by omega, rfl, by first | rfl | go_num, by omega, hys.out, HN.out, X3.set _, ((T.trans (Touch.of b2)).trans (Touch.of b3)).trans (touch_setRowE _ _)⟩
                case measure => simp [intOf]
          · as_aux_lemma =>
            have q2 : wr.cell? ⟨gs, 0 + 6, none⟩ = some (.int .u8 115) := by rw [Nat.zero_add]; exact q1
            clear q1
            have kh := kh115
            clear kh97 kh114 kh110 kh119 kh116 kh104 kh115 kh99 kh100 kh117
            cases hb : F.contains 115
            · have HN := Lib.hid (show leftGo F x0 edOrder tl = leftGo F x (edOrder.drop 7) r from HQ.out.trans (leftGo_no hb))
              rw [hb] at kh
              clear hb HQ
              go_wp2_with (go_at_call 35; (with_reducible refine callP (kh.out _) ?_))
              go_roundw
              case rel => exact ⟨7, x, r, by omega, rfl, by first | rfl | go_num, hr, hsm, HN.out, X, T⟩
              case measure => simp [intOf]
            · have HN := Lib.hid (show leftGo F x0 edOrder tl = leftGo F (rreadF x 115 (head32 r)) (edOrder.drop 7) (tail32 r) from HQ.out.trans (leftGo_yes hb))
              rw [hb] at kh
              clear hb HQ
              have hys := Lib.hid (rreadF_small hsm 115 (show (head32 r).length ≤ 4000000000 by omega))
              generalize head32 r = hw2 at *
              generalize tail32 r = tl2 at *
              generalize (cutAt 32 r).2.2 = fb2 at *
              have kf := Lib.hid (fun w' => esmall_any hw2 w' (by omega))
              have HE := Lib.hid (show rreadF x 115 hw2 = { x with speed := smallS hw2 } from rfl)
              rw [HE.out] at hys HN
              clear HE
              generalize smallS hw2 = n at *
              cases h1 : (hw2 == [45])
              · go_wp2_with (first | (go_at_call 35; (with_reducible refine callP (kh.out _) ?_)) | (go_at_call 49; (with_reducible refine callQ (kct.out _) ?_); intro n2; have b2 := below_drewN (Below.refl wr.heap.size wr) n2; generalize wr.drewN n2 = w2 at b2 ⊢; have X2 := X.step b2; have c2 := X2.cell; have f2 := X2.frozen) | (go_at_call 50; (with_reducible refine callP (kf.out _) ?_)))
                go_roundw
                case rel => exact ⟨7, _, tl2, by omega, rfl, by first | rfl | go_num, by omega, hys.out, HN.out, X2.setCell 8 _, (T.trans (Touch.of b2)).trans (Touch.setCell _ _ (by simp) 8 _)⟩
                case measure => simp [intOf]
              · go_wp2_with (first | (go_at_call 35; (with_reducible refine callP (kh.out _) ?_)) | (go_at_call 49; (with_reducible refine callQ (kct.out _) ?_); intro n2; have b2 := below_drewN (Below.refl wr.heap.size wr) n2; generalize wr.drewN n2 = w2 at b2 ⊢; have X2 := X.step b2; have c2 := X2.cell; have f2 := X2.frozen) | (go_at_call 50; (with_reducible refine callP (kf.out _) ?_)))
                go_roundw
                case rel => exact ⟨7, _, tl2, by omega, rfl, by first | rfl | go_num, by omega, hys.out, HN.out, X2.setCell 8 _, (T.trans (Touch.of b2)).trans (Touch.setCell _ _ (by simp) 8 _)⟩
                case measure => simp [intOf]
          · as_aux_lemma =>
            have q2 : wr.cell? ⟨gs, 0 + 7, none⟩ = some (.int .u8 99) := by rw [Nat.zero_add]; exact q1
            clear q1
            have kh := kh99
            clear kh97 kh114 kh110 kh119 kh116 kh104 kh115 kh99 kh100 kh117
            cases hb : F.contains 99
            · have HN := Lib.hid (show leftGo F x0 edOrder tl = leftGo F x (edOrder.drop 8) r from HQ.out.trans (leftGo_no hb))
              rw [hb] at kh
              clear hb HQ
              go_wp2_with (go_at_call 35; (with_reducible refine callP (kh.out _) ?_))
              go_roundw
              case rel => exact ⟨8, x, r, by omega, rfl, by first | rfl | go_num, hr, hsm, HN.out, X, T⟩
              case measure => simp [intOf]
            · have HN := Lib.hid (show leftGo F x0 edOrder tl = leftGo F (rreadF x 99 (head32 r)) (edOrder.drop 8) (tail32 r) from HQ.out.trans (leftGo_yes hb))
              rw [hb] at kh
              clear hb HQ
              have hys := Lib.hid (rreadF_small hsm 99 (show (head32 r).length ≤ 4000000000 by omega))
              generalize head32 r = hw2 at *
              generalize tail32 r = tl2 at *
              generalize (cutAt 32 r).2.2 = fb2 at *
              have kf := Lib.hid (fun w' => rparseExact_any hw2 w' (by omega))
              have HE := Lib.hid (show rreadF x 99 hw2 = { x with course := (parseExS hw2).1 } from rfl)
              rw [HE.out] at hys HN
              clear HE
              generalize parseExS hw2 = q at *
              obtain ⟨n, m⟩ := q
              dsimp only at hys HN
              cases h1 : (hw2 == [45])
              · go_wp2_with (first | (go_at_call 35; (with_reducible refine callP (kh.out _) ?_)) | (go_at_call 49; (with_reducible refine callQ (kct.out _) ?_); intro n2; have b2 := below_drewN (Below.refl wr.heap.size wr) n2; generalize wr.drewN n2 = w2 at b2 ⊢; have X2 := X.step b2; have c2 := X2.cell; have f2 := X2.frozen) | (go_at_call 52; (with_reducible refine callP (kf.out _) ?_)))
                go_roundw
                case rel => exact ⟨8, _, tl2, by omega, rfl, by first | rfl | go_num, by omega, hys.out, HN.out, X2.setCell 9 _, (T.trans (Touch.of b2)).trans (Touch.setCell _ _ (by simp) 9 _)⟩
                case measure => simp [intOf]
              · go_wp2_with (first | (go_at_call 35; (with_reducible refine callP (kh.out _) ?_)) | (go_at_call 49; (with_reducible refine callQ (kct.out _) ?_); intro n2; have b2 := below_drewN (Below.refl wr.heap.size wr) n2; generalize wr.drewN n2 = w2 at b2 ⊢; have X2 := X.step b2; have c2 := X2.cell; have f2 := X2.frozen) | (go_at_call 52; (with_reducible refine callP (kf.out _) ?_)))
                go_roundw
                case rel => exact ⟨8, _, tl2, by omega, rfl, by first | rfl | go_num, by omega, hys.out, HN.out, X2.setCell 9 _, (T.trans (Touch.of b2)).trans (Touch.setCell _ _ (by simp) 9 _)⟩
                case measure => simp [intOf]
          · as_aux_lemma =>
            have q2 : wr.cell? ⟨gs, 0 + 8, none⟩ = some (.int .u8 100) := by rw [Nat.zero_add]; exact q1
            clear q1
            have kh := kh100
            clear kh97 kh114 kh110 kh119 kh116 kh104 kh115 kh99 kh100 kh117
            cases hb : F.contains 100
            · have HN := Lib.hid (show leftGo F x0 edOrder tl = leftGo F x (edOrder.drop 9) r from HQ.out.trans (leftGo_no hb))
              rw [hb] at kh
              clear hb HQ
              go_wp2_with (go_at_call 35; (with_reducible refine callP (kh.out _) ?_))
              go_roundw
              case rel => exact ⟨9, x, r, by omega, rfl, by first | rfl | go_num, hr, hsm, HN.out, X, T⟩
              case measure => simp [intOf]
            · have HN := Lib.hid (show leftGo F x0 edOrder tl = leftGo F (rreadF x 100 (head32 r)) (edOrder.drop 9) (tail32 r) from HQ.out.trans (leftGo_yes hb))
              rw [hb] at kh
              clear hb HQ
              have hys := Lib.hid (rreadF_small hsm 100 (show (head32 r).length ≤ 4000000000 by omega))
              generalize head32 r = hw2 at *
              generalize tail32 r = tl2 at *
              generalize (cutAt 32 r).2.2 = fb2 at *
              have kf := Lib.hid (fun w' => rparseDist_any hw2 w' (by omega))
              have HE := Lib.hid (show rreadF x 100 hw2 = { x with dist := (distP hw2).1 } from rfl)
              rw [HE.out] at hys HN
              clear HE
              generalize distP hw2 = q at *
              obtain ⟨n, m⟩ := q
              dsimp only at hys HN
              cases h1 : (hw2 == [45])
              · go_wp2_with (first | (go_at_call 35; (with_reducible refine callP (kh.out _) ?_)) | (go_at_call 49; (with_reducible refine callQ (kct.out _) ?_); intro n2; have b2 := below_drewN (Below.refl wr.heap.size wr) n2; generalize wr.drewN n2 = w2 at b2 ⊢; have X2 := X.step b2; have c2 := X2.cell; have f2 := X2.frozen) | (go_at_call 53; (with_reducible refine callQ (kf.out _) ?_); intro n3; have b3 := below_drewN (Below.refl w2.heap.size w2) n3; generalize w2.drewN n3 = w3 at b3 ⊢; clear c2 f2; have X3 := X2.step b3; have c3 := X3.cell; have f3 := X3.frozen))
                go_roundw
                case rel => exact ⟨9, _, tl2, by omega, rfl, by first | rfl | go_num, by omega, hys.out, HN.out, X3.setCell 10 _, ((T.trans (Touch.of b2)).trans (Touch.of b3)).trans (Touch.setCell _ _ (by simp) 10 _)⟩
                case measure => simp [intOf]
              · go_wp2_with (first | (go_at_call 35; (with_reducible refine callP (kh.out _) ?_)) | (go_at_call 49; (with_reducible refine callQ (kct.out _) ?_); intro n2; have b2 := below_drewN (Below.refl wr.heap.size wr) n2; generalize wr.drewN n2 = w2 at b2 ⊢; have X2 := X.step b2; have c2 := X2.cell; have f2 := X2.frozen) | (go_at_call 53; (with_reducible refine callQ (kf.out _) ?_); intro n3; have b3 := below_drewN (Below.refl w2.heap.size w2) n3; generalize w2.drewN n3 = w3 at b3 ⊢; clear c2 f2; have X3 := X2.step b3; have c3 := X3.cell; have f3 := X3.frozen))
                go_roundw
                case rel => exact ⟨9, _, tl2, by omega, rfl, by first | rfl | go_num, by omega, hys.out, HN.out, X3.setCell 10 _, ((T.trans (Touch.of b2)).trans (Touch.of b3)).trans (Touch.setCell _ _ (by simp) 10 _)⟩
                case measure => simp [intOf]
          · as_aux_lemma =>
            have q2 : wr.cell? ⟨gs, 0 + 9, none⟩ = some (.int .u8 117) := by rw [Nat.zero_add]; exact q1
            clear q1
            have kh := kh117
            clear kh97 kh114 kh110 kh119 kh116 kh104 kh115 kh99 kh100 kh117
            cases hb : F.contains 117
            · have HN := Lib.hid (show leftGo F x0 edOrder tl = leftGo F x (edOrder.drop 10) r from HQ.out.trans (leftGo_no hb))
              rw [hb] at kh
              clear hb HQ
              go_wp2_with (go_at_call 35; (with_reducible refine callP (kh.out _) ?_))
              go_roundw
              case rel => exact ⟨10, x, r, by omega, rfl, by first | rfl | go_num, hr, hsm, HN.out, X, T⟩
              case measure => simp [intOf]
            · have HN := Lib.hid (show leftGo F x0 edOrder tl = leftGo F (rreadF x 117 (head32 r)) (edOrder.drop 10) (tail32 r) from HQ.out.trans (leftGo_yes hb))
              rw [hb] at kh
              clear hb HQ
              have hys := Lib.hid (rreadF_small hsm 117 (show (head32 r).length ≤ 4000000000 by omega))
              generalize head32 r = hw2 at *
              generalize tail32 r = tl2 at *
              generalize (cutAt 32 r).2.2 = fb2 at *
              by_cases hd : hw2 = [82]
              · have HE := Lib.hid (show rreadF x 117 hw2 = { x with turn := 2 } by rw [hd]; rfl)
                rw [HE.out] at hys HN
                clear HE
                subst hd
                go_wp2_with (first | (go_at_call 35; (with_reducible refine callP (kh.out _) ?_)) | (go_at_call 49; (with_reducible refine callQ (kct.out _) ?_); intro n2; have b2 := below_drewN (Below.refl wr.heap.size wr) n2; generalize wr.drewN n2 = w2 at b2 ⊢; have X2 := X.step b2; have c2 := X2.cell; have f2 := X2.frozen))
                go_roundw
                case rel => exact ⟨10, _, tl2, by omega, rfl, by first | rfl | go_num, by omega, hys.out, HN.out, (X2.setCell 11 _).setCell 11 _, ((T.trans (Touch.of b2)).trans (Touch.setCell _ _ (by simp) 11 _)).trans (Touch.setCell _ _ (by simp) 11 _)⟩
                case measure => simp [intOf]
              · have HE := Lib.hid (show rreadF x 117 hw2 = { x with turn := 1 } by show ({ x with turn := if hw2 = [82] then 2 else 1 } : EditV) = _; rw [if_neg hd])
                rw [HE.out] at hys HN
                clear HE
                have h1 : (hw2 == [82]) = false := by simpa using hd
                clear hd
                cases h2 : (hw2 == [45])
                · go_wp2_with (first | (go_at_call 35; (with_reducible refine callP (kh.out _) ?_)) | (go_at_call 49; (with_reducible refine callQ (kct.out _) ?_); intro n2; have b2 := below_drewN (Below.refl wr.heap.size wr) n2; generalize wr.drewN n2 = w2 at b2 ⊢; have X2 := X.step b2; have c2 := X2.cell; have f2 := X2.frozen))
                  go_roundw
                  case rel => exact ⟨10, _, tl2, by omega, rfl, by first | rfl | go_num, by omega, hys.out, HN.out, X2.setCell 11 _, (T.trans (Touch.of b2)).trans (Touch.setCell _ _ (by simp) 11 _)⟩
                  case measure => simp [intOf]
                · go_wp2_with (first | (go_at_call 35; (with_reducible refine callP (kh.out _) ?_)) | (go_at_call 49; (with_reducible refine callQ (kct.out _) ?_); intro n2; have b2 := below_drewN (Below.refl wr.heap.size wr) n2; generalize wr.drewN n2 = w2 at b2 ⊢; have X2 := X.step b2; have c2 := X2.cell; have f2 := X2.frozen))
                  go_roundw
                  case rel => exact ⟨10, _, tl2, by omega, rfl, by first | rfl | go_num, by omega, hys.out, HN.out, X2.setCell 11 _, (T.trans (Touch.of b2)).trans (Touch.setCell _ _ (by simp) 11 _)⟩
                  case measure => simp [intOf]
        · obtain rfl : k = 10 := by omega
          have HX := Lib.hid (show OUT = okR s x from HO.out.trans (by rw [HQ.out]; rfl))
          clear HQ HO
          have kt := Lib.hid (fun w' => reditText_any x hsm w')
          have G := T.blk (by simp; omega) G3
          have B := T.below B3 (by simp; omega)
          have i1 : Has_edt wr gx 0 := ⟨_, X.is_edt⟩
          have i2 : of_edt wr gx 0 = x := of_edt_eq X.is_edt
          have HXb := Lib.hid X
          have HB := Lib.hid B
          have HU := Lib.hid (show okR s x = if editText x = [] ∨ editText x ≠ s then (edit0, 4) else (x, 0) from rfl)
          clear B X T G3 X3 B3 hsmO H7 hgl
          generalize okR s x = RES at HX HU
          generalize editText x = TX at *
          by_cases hE : TX = []
          · have HN := Lib.hid (show OUT = (edit0, 4) from HX.out.trans (HU.out.trans (if_pos (.inl hE))))
            have h1 : (TX == []) = true := by simpa using hE
            clear hE HX HU
            go_wp2_with (go_at_call 16; (with_reducible refine callR (kt.out _) ?_); intro w7 b7 _ _ _
                         have G7 := G.step b7
                         have d2 := G7.plain
                         have d3 : blkOf w7 g = edit0.arr := G7.of
                         have d4 := splice_edt edit0 edit0)
            exact bodyPost_ret (results_agg Tryz.results18 _ _ g edit0.arr 12 _ rfl rfl (G7.set _).cell Tryz.underlying26 rfl info_edt) rfl ⟨by rw [HN.out]; rfl, below_setRow' (below_step HB.out b7) hg _⟩
          · have h1 : (TX == []) = false := by simpa using hE
            by_cases hts : TX = s
            · have HN := Lib.hid (show OUT = (x, 0) from HX.out.trans (HU.out.trans (if_neg (by rintro (h | h); exact hE h; exact h hts))))
              have h2 : (TX == s) = true := by simpa using hts
              clear hE HX HU hts
              go_wp2_with (go_at_call 16; (with_reducible refine callR (kt.out _) ?_); intro w7 b7 _ _ _
                           have X7 := HXb.out.step b7
                           have G7 := G.step b7
                           have j1 : Has_edt w7 gx 0 := ⟨_, X7.is_edt⟩
                           have j2 : of_edt w7 gx 0 = x := of_edt_eq X7.is_edt
                           have d2 := G7.plain
                           have d3 : blkOf w7 g = edit0.arr := G7.of
                           have d4 := splice_edt edit0 x)
              exact bodyPost_ret (results_agg Tryz.results18 _ _ g x.arr 12 _ rfl rfl (G7.set _).cell Tryz.underlying26 rfl info_edt) rfl ⟨by rw [HN.out]; rfl, below_setRow' (below_step HB.out b7) hg _⟩
            · have HN := Lib.hid (show OUT = (edit0, 4) from HX.out.trans (HU.out.trans (if_pos (.inr hts))))
              have h2 : (TX == s) = false := by simpa using hts
              clear hE HX HU hts
              go_wp2_with (go_at_call 16; (with_reducible refine callR (kt.out _) ?_); intro w7 b7 _ _ _
                           have G7 := G.step b7
                           have d2 := G7.plain
                           have d3 : blkOf w7 g = edit0.arr := G7.of
                           have d4 := splice_edt edit0 edit0)
              exact bodyPost_ret (results_agg Tryz.results18 _ _ g edit0.arr 12 _ rfl rfl (G7.set _).cell Tryz.underlying26 rfl info_edt) rfl ⟨by rw [HN.out]; rfl, below_setRow' (below_step HB.out b7) hg _⟩
end Go.Proofs.YtnmpfmelaninbaaGreatDoor
namespace Go.Proofs.YtnmpfmelaninbaaGreatDoor
open Go.RowKit Go.Sort
set_option linter.unusedVariables false
set_option linter.unusedSimpArgs false
set_option maxRecDepth 100000
theorem dash_long (l : List UInt8) : l.length ≤ (dashB l).length := by
  unfold dashB; split
  · rename_i h; simp [List.isEmpty_iff.1 (by simpa using h)]
  · exact Nat.le_refl _
theorem valid_small {e : EditV} (h : editCheck e = 0) : e.small := by
  have ha := (edit_ok h).2
  have hf : ∀ c ∈ edOrder, ∀ l : List UInt8, (zeroF e c = true → l = []) → (l.length ≤ (writeF e c).length) → l.length ≤ 4000000000 := by
    intro c hc l h0 h1
    cases hu : (formF e.op).contains c
    · rw [h0 (st_zero (ha c hc) hu)]; simp
    · have := write_short hc (st_used (ha c hc) hu); omega
  exact ⟨hf 114 (by decide) e.ref z114 (Nat.le_refl _), hf 110 (by decide) e.name z110 (Nat.le_refl _), hf 119 (by decide) e.rway z119 (dash_long _), hf 116 (by decide) e.trans z116 (dash_long _)⟩
attribute [local go_sem ↓] run_eql_edt run_neq_edt
set_option maxHeartbeats 8000000 in
theorem lawEdParses_any (s : List UInt8) (hs : s.length ≤ 4000000000) (w : World) (hO : Open23 w) : Calls Tryz.prog 5 #[.string ⟨s.toArray⟩] w (Ret w (.bool true)) := by
  have ka := Lib.hid (awake23_any w hO)
  go_enter Tryz.func5, Tryz.ntmps5
  go_upto_region 3 with (go_at_call 12; (with_reducible refine callR ka.out ?_); intro w1 B1 _ _ _)
  by_cases hl : 1000 < s.length
  · have h1 : (1000 : Int) < (s.length : Int) := by omega
    go_wp2
    go_ret
    exact Ret.bool rfl B1
  · have h1 : ¬ (1000 : Int) < (s.length : Int) := by omega
    have kp := Lib.hid (fun w' (h : Below w.heap.size w w') => editParse_any s w' (hO.below h).laid (hO.below h).errs (hO.below h).forms (by omega))
    have kr := Lib.hid (fun w' => reditParse_any s w' (by omega))
    rw [edit_parse_same] at kr
    rcases editParse_cases s with hP | ⟨e, hc, ht, hP⟩
    · rw [hP] at kp kr
      unfold edVal at kp kr
      have hself : edit0.eqB edit0 = true := (EditV.eqB_iff _ _).2 rfl
      clear hP
      generalize edit0 = e at *
      go_wp2_with (first
        | (go_at_call 17; (with_reducible refine callR (kp.out _ B1) ?_); intro w2 b2 _ _ _; have B2 := below_step B1 b2; obtain ⟨X3, b3⟩ := edt_box w2 e; have B3 := below_step B2 b3; have hl3 := X3.lt)
        | (go_at_call 18; (with_reducible refine callR (kr.out _) ?_); intro w4 b4 _ _ _; have X4 := X3.step b4; obtain ⟨Y5, b5⟩ := edt_box w4 e; have X5 := X4.step b5; have B5 := below_step (below_step B3 b4) b5
           have i1 : Has_edt (w4.alloc (.cells e.arr 26)) w2.heap.size 0 := ⟨_, X5.is_edt⟩; have i2 : of_edt (w4.alloc (.cells e.arr 26)) w2.heap.size 0 = e := of_edt_eq X5.is_edt
           have j1 : Has_edt (w4.alloc (.cells e.arr 26)) w4.heap.size 0 := ⟨_, Y5.is_edt⟩; have j2 : of_edt (w4.alloc (.cells e.arr 26)) w4.heap.size 0 = e := of_edt_eq Y5.is_edt))
      go_ret
      exact Ret.bool rfl B5
    · rw [hP] at kp kr
      unfold edVal at kp kr
      have hself : e.eqB e = true := (EditV.eqB_iff _ _).2 rfl
      have kt := Lib.hid (fun w' (h : Below w.heap.size w w') => editText_any e (valid_small hc) w' (hO.below h).laid (hO.below h).forms)
      rw [ht] at kt
      clear hP hc ht
      go_wp2_with (first
        | (go_at_call 17; (with_reducible refine callR (kp.out _ B1) ?_); intro w2 b2 _ _ _; have B2 := below_step B1 b2; obtain ⟨X3, b3⟩ := edt_box w2 e; have B3 := below_step B2 b3; have hl3 := X3.lt)
        | (go_at_call 18; (with_reducible refine callR (kr.out _) ?_); intro w4 b4 _ _ _; have X4 := X3.step b4; obtain ⟨Y5, b5⟩ := edt_box w4 e; have X5 := X4.step b5; have B5 := below_step (below_step B3 b4) b5
           have i1 : Has_edt (w4.alloc (.cells e.arr 26)) w2.heap.size 0 := ⟨_, X5.is_edt⟩; have i2 : of_edt (w4.alloc (.cells e.arr 26)) w2.heap.size 0 = e := of_edt_eq X5.is_edt
           have j1 : Has_edt (w4.alloc (.cells e.arr 26)) w4.heap.size 0 := ⟨_, Y5.is_edt⟩; have j2 : of_edt (w4.alloc (.cells e.arr 26)) w4.heap.size 0 = e := of_edt_eq Y5.is_edt)
        | (go_at_call 15; (with_reducible refine callR (kt.out _ B5) ?_); intro w6 b6 _ _ _))
      go_ret
      exact Ret.bool rfl (below_step B5 b6)
end Go.Proofs.YtnmpfmelaninbaaGreatDoor
