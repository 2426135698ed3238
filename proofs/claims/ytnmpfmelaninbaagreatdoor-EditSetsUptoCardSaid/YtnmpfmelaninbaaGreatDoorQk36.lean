/- Lemmas and walks. -/
import Derived.Test.YtnmpfmelaninbaaGreatDoorQk18
import Derived.Test.YtnmpfmelaninbaaGreatDoorQk12
import Derived.Test.YtnmpfmelaninbaaGreatDoorQk25
import Derived.Test.YtnmpfmelaninbaaGreatDoorQk07
import Derived.Test.YtnmpfmelaninbaaGreatDoorQk17
set_option linter.unusedSimpArgs false
set_option linter.unusedVariables false
namespace Go.Proofs.YtnmpfmelaninbaaGreatDoor
open Go.RowKit Go.Sort
set_option maxRecDepth 100000
theorem edash_any (l : List UInt8) (w : World) : Calls Tryz.prog 92 #[.string ⟨l.toArray⟩] w (RetP w (.string ⟨(dashB l).toArray⟩)) := by
  cases l with
  | nil =>
    go_enter Tryz.func92, Tryz.ntmps92
    go_wp2
    go_ret
    exact ⟨rfl, rfl⟩
  | cons c r =>
    have h : ¬ (c :: r = ([] : List UInt8)) := by simp
    go_enter Tryz.func92, Tryz.ntmps92
    go_wp2
    go_ret
    exact ⟨rfl, rfl⟩
set_option maxHeartbeats 4000000 in
theorem ewrite_any (e : EditV) (c : UInt8) (hc : c ∈ edOrder) (h : checkF e c = 0) (w : World) (hL : Laid w) : Calls Tryz.prog 40 #[.agg e.arr, .int .u8 (c.toNat : Int)] w (Ret w (.string ⟨(writeF e c).toArray⟩)) := by
  obtain ⟨X0, B0⟩ := edt_box w e
  have L0 := hL.below B0
  simp only [edOrder, List.mem_cons, List.not_mem_nil, or_false] at hc
  rcases hc with rfl | rfl | rfl | rfl | rfl | rfl | rfl | rfl | rfl | rfl
  · have hb := betE (show betweenS e.at_ 0 60 = 0 from h)
    have kc := Lib.hid (itoa_any e.at_ (by omega) (by omega) (w.alloc (.cells e.arr 26)) L0)
    have HE := Lib.hid (show writeF e 97 = Lib.itoa e.at_ from rfl)
    generalize writeF e 97 = out at HE ⊢
    go_enter Tryz.func40, Tryz.ntmps40
    go_upto_region 1 with (fail)
    generalize w.alloc _ = W at X0 B0 kc ⊢
    generalize w.heap.size = g at X0 ⊢
    have k := X0.cell
    go_wp2_with (go_at_call 91; (with_reducible refine callR kc.out ?_); intro w1 b1 _ _ _)
    go_ret
    exact Ret.str (by rw [HE.out]) (below_step B0 b1)
  · go_enter Tryz.func40, Tryz.ntmps40
    go_upto_region 1 with (fail)
    generalize w.alloc _ = W at X0 B0 ⊢
    generalize w.heap.size = g at X0 ⊢
    have k := X0.cell
    go_wp2
    go_ret
    exact Ret.str rfl B0
  · go_enter Tryz.func40, Tryz.ntmps40
    go_upto_region 1 with (fail)
    generalize w.alloc _ = W at X0 B0 ⊢
    generalize w.heap.size = g at X0 ⊢
    have k := X0.cell
    go_wp2
    go_ret
    exact Ret.str rfl B0
  · have kc := Lib.hid (edash_any e.rway)
    have HE := Lib.hid (show writeF e 119 = dashB e.rway from rfl)
    generalize writeF e 119 = out at HE ⊢
    generalize dashB e.rway = d at kc HE
    go_enter Tryz.func40, Tryz.ntmps40
    go_upto_region 1 with (fail)
    generalize w.alloc _ = W at X0 B0 ⊢
    generalize w.heap.size = g at X0 ⊢
    have k := X0.cell
    go_wp2_with (go_at_call 92; (with_reducible refine callP (kc.out _) ?_))
    go_ret
    exact Ret.str (by rw [HE.out]) B0
  · have kc := Lib.hid (edash_any e.trans)
    have HE := Lib.hid (show writeF e 116 = dashB e.trans from rfl)
    generalize writeF e 116 = out at HE ⊢
    generalize dashB e.trans = d at kc HE
    go_enter Tryz.func40, Tryz.ntmps40
    go_upto_region 1 with (fail)
    generalize w.alloc _ = W at X0 B0 ⊢
    generalize w.heap.size = g at X0 ⊢
    have k := X0.cell
    go_wp2_with (go_at_call 92; (with_reducible refine callP (kc.out _) ?_))
    go_ret
    exact Ret.str (by rw [HE.out]) B0
  · have kc := Lib.hid (winText_in e.lo e.hi (w.alloc (.cells e.arr 26)) L0 (win_okE h))
    have HE := Lib.hid (show writeF e 104 = winS e.lo e.hi by show (winT e.lo e.hi).1 = _; rw [winT_in (win_okE h)])
    generalize writeF e 104 = out at HE ⊢
    generalize winS e.lo e.hi = d at kc HE
    go_enter Tryz.func40, Tryz.ntmps40
    go_upto_region 1 with (fail)
    generalize w.alloc _ = W at X0 B0 kc ⊢
    generalize w.heap.size = g at X0 ⊢
    have k := X0.cell
    have i1 : Has_win W g 6 := ⟨_, X0.edt_win⟩
    have i2 : of_win W g 6 = ⟨e.lo, e.hi⟩ := of_win_eq X0.edt_win
    go_wp2_with (go_at_call 93; (with_reducible refine callR kc.out ?_); intro w1 b1 _ _ _)
    go_ret
    exact Ret.str (by rw [HE.out]) (below_step B0 b1)
  · have hb := betE (show betweenS e.speed 0 1000 = 0 from h)
    have kc := Lib.hid (fmt_any e.speed (by omega) (by omega) (w.alloc (.cells e.arr 26)) L0)
    have HE := Lib.hid (show writeF e 115 = Lib.itoa e.speed from rfl)
    generalize writeF e 115 = out at HE ⊢
    go_enter Tryz.func40, Tryz.ntmps40
    go_upto_region 1 with (fail)
    generalize w.alloc _ = W at X0 B0 kc ⊢
    generalize w.heap.size = g at X0 ⊢
    have k := X0.cell
    go_wp2_with (go_at_call 94; (with_reducible refine callR kc.out ?_); intro w1 b1 _ _ _)
    go_ret
    exact Ret.str (by rw [HE.out]) (below_step B0 b1)
  · have hb := betE (show betweenS e.course 0 129599999 = 0 from h)
    have kc := Lib.hid (exact_any e.course (w.alloc (.cells e.arr 26)) (by omega) (by omega))
    have HE := Lib.hid (show writeF e 99 = exactS e.course.toNat from rfl)
    generalize writeF e 99 = out at HE ⊢
    generalize exactS e.course.toNat = d at kc HE
    go_enter Tryz.func40, Tryz.ntmps40
    go_upto_region 1 with (fail)
    generalize w.alloc _ = W at X0 B0 kc ⊢
    generalize w.heap.size = g at X0 ⊢
    have k := X0.cell
    go_wp2_with (go_at_call 95; (with_reducible refine callR kc.out ?_); intro w1 b1 _ _ _)
    go_ret
    exact Ret.str (by rw [HE.out]) (below_step B0 b1)
  · have kc := Lib.hid (distText_any e.dist (w.alloc (.cells e.arr 26)) L0)
    have HE := Lib.hid (show writeF e 100 = (distT e.dist).1 from rfl)
    generalize writeF e 100 = out at HE ⊢
    generalize distT e.dist = d at kc HE
    obtain ⟨d1, d2⟩ := d
    go_enter Tryz.func40, Tryz.ntmps40
    go_upto_region 1 with (fail)
    generalize w.alloc _ = W at X0 B0 kc ⊢
    generalize w.heap.size = g at X0 ⊢
    have k := X0.cell
    go_wp2_with (go_at_call 96; (with_reducible refine callR kc.out ?_); intro w1 b1 _ _ _)
    go_ret
    exact Ret.str (by rw [HE.out]) (below_step B0 b1)
  · have HE := Lib.hid (show writeF e 117 = if e.turn = 1 then [76] else [82] from rfl)
    generalize writeF e 117 = out at HE ⊢
    by_cases h1 : e.turn = 1
    · have HO := Lib.hid (HE.out.trans (if_pos h1))
      clear HE
      go_enter Tryz.func40, Tryz.ntmps40
      go_upto_region 1 with (fail)
      generalize w.alloc _ = W at X0 B0 ⊢
      generalize w.heap.size = g at X0 ⊢
      have k := X0.cell
      go_wp2
      go_ret
      exact Ret.str (by rw [HO.out]) B0
    · have HO := Lib.hid (HE.out.trans (if_neg h1))
      clear HE
      go_enter Tryz.func40, Tryz.ntmps40
      go_upto_region 1 with (fail)
      generalize w.alloc _ = W at X0 B0 ⊢
      generalize w.heap.size = g at X0 ⊢
      have k := X0.cell
      go_wp2
      go_ret
      exact Ret.str (by rw [HO.out]) B0
end Go.Proofs.YtnmpfmelaninbaaGreatDoor
namespace Go.Proofs.YtnmpfmelaninbaaGreatDoor
open Go.RowKit Go.Sort
set_option maxRecDepth 100000
theorem tailT_app (e : EditV) : ∀ (a b : List UInt8), tailT e (a ++ b) = tailT e a ++ tailT e b
  | [], b => rfl
  | c :: r, b => by
      show 32 :: (writeF e c ++ tailT e (r ++ b)) = (32 :: (writeF e c ++ tailT e r)) ++ tailT e b
      rw [tailT_app e r b]; simp
theorem tailT_take (e : EditV) (fs : List UInt8) (k : Nat) (h : k < fs.length) : tailT e (fs.take (k + 1)) = tailT e (fs.take k) ++ (32 :: writeF e fs[k]) := by
  rw [List.take_succ_eq_append_getElem h, tailT_app]
  show _ ++ (32 :: (writeF e fs[k] ++ [])) = _
  rw [List.append_nil]
theorem write_len {e : EditV} (hs : e.small) {c : UInt8} (hc : c ∈ edOrder) (h : checkF e c = 0) : (writeF e c).length ≤ 4000000000 := by
  obtain ⟨s1, s2, s3, s4⟩ := hs
  have hd : ∀ l : List UInt8, l.length ≤ 4000000000 → (dashB l).length ≤ 4000000000 := fun l hl => by
    unfold dashB; split
    · decide
    · exact hl
  simp only [edOrder, List.mem_cons, List.not_mem_nil, or_false] at hc
  rcases hc with rfl | rfl | rfl | rfl | rfl | rfl | rfl | rfl | rfl | rfl
  · have hb := betE (show betweenS e.at_ 0 60 = 0 from h)
    have := itoa_len e.at_ (by omega) (by omega)
    show (Lib.itoa e.at_).length ≤ _; omega
  · exact s1
  · exact s2
  · exact hd _ s3
  · exact hd _ s4
  · show (winT e.lo e.hi).1.length ≤ _
    rw [winT_in (win_okE h)]
    have := winS_len (win_okE h)
    show (winS e.lo e.hi).length ≤ _; omega
  · have hb := betE (show betweenS e.speed 0 1000 = 0 from h)
    have := itoa_len e.speed (by omega) (by omega)
    show (Lib.itoa e.speed).length ≤ _; omega
  · show (exactS e.course.toNat).length ≤ _
    rw [exactS_len]; omega
  · show (distT e.dist).1.length ≤ _
    rw [distT_in (dist_okE h)]
    have := distS_len (d := e.dist.toNat) (by have := dist_okE h; omega)
    show (distS _).length ≤ _; omega
  · show (if e.turn = 1 then [76] else [82] : List UInt8).length ≤ _
    split <;> decide
theorem tail_len {e : EditV} : ∀ (fs : List UInt8), (∀ c ∈ fs, (writeF e c).length ≤ 4000000000) → (tailT e fs).length ≤ fs.length * 4000000001
  | [], _ => by simp [tailT]
  | c :: r, h => by
      have h1 := h c (by simp)
      have h2 := tail_len r fun d hd => h d (by simp [hd])
      show (32 :: (writeF e c ++ tailT e r)).length ≤ _
      simp only [List.length_cons, List.length_append]
      omega
theorem form_len {op : Int} (h : 1 ≤ op ∧ op ≤ 12) : (formW op).length ≤ 9 ∧ (formF op).length ≤ 4 := by
  obtain ⟨k, rfl⟩ : ∃ k : Nat, op = k := ⟨op.toNat, by omega⟩
  have : k = 1 ∨ k = 2 ∨ k = 3 ∨ k = 4 ∨ k = 5 ∨ k = 6 ∨ k = 7 ∨ k = 8 ∨ k = 9 ∨ k = 10 ∨ k = 11 ∨ k = 12 := by omega
  rcases this with rfl | rfl | rfl | rfl | rfl | rfl | rfl | rfl | rfl | rfl | rfl | rfl <;> decide
attribute [local go_sem] ba_append
set_option maxHeartbeats 4000000 in
theorem editText_any (e : EditV) (hs : e.small) (w : World) (hL : Laid w) (hF : FormsAt w) : Calls Tryz.prog 15 #[.agg e.arr] w (Ret w (.string ⟨(editText e).toArray⟩)) := by
  obtain ⟨X0, B0⟩ := edt_box w e
  have L0 := hL.below B0
  have F0 := hF.below B0
  have kc := Lib.hid (editCheck_any e hs (w.alloc (.cells e.arr 26)) L0 F0)
  go_enter Tryz.func15, Tryz.ntmps15
  go_upto_region 1 with (fail)
  generalize w.alloc _ = W at X0 B0 kc L0 F0 ⊢
  obtain ⟨g, hg⟩ : ∃ g, g = w.heap.size := ⟨_, rfl⟩
  rw [← hg] at X0 ⊢
  clear hg
  have i1 : Has_edt W g 0 := ⟨_, X0.is_edt⟩
  have i2 : of_edt W g 0 = e := of_edt_eq X0.is_edt
  by_cases hk : editCheck e = 0
  · have HT := Lib.hid (text_of hk)
    obtain ⟨ho, _⟩ := edit_ok hk
    have hu := Lib.hid (used_check hk)
    have hin := Lib.hid (formF_in ho).1
    obtain ⟨hl1, hl2⟩ := form_len ho
    have hwl := Lib.hid (fun c hc => write_len hs ((formF_in ho).1 c hc) (used_check hk c hc))
    have hLB := Lib.hid (fun w' (h : Below W.heap.size W w') => L0.below h)
    have hXB := Lib.hid (fun w' (h : Below W.heap.size W w') => X0.step h)
    rw [hk] at kc
    obtain ⟨n, hn⟩ : ∃ n : Nat, e.op = n := ⟨e.op.toNat, by omega⟩
    have hn12 : n ≤ 12 := by omega
    have hFB := Lib.hid (fun w' (h : Below W.heap.size W w') => F0.below h)
    go_upto_region 3 with (go_at_call 13; (with_reducible refine callR kc.out ?_); intro w1 b1 _ _ _)
    have hXr := hXB.out w1 b1
    have B1 := below_step B0 b1
    have F1 := hFB.out w1 b1
    have f0 := F1.word n hn12
    have f1 := F1.flds n hn12
    have L1 := hLB.out w1 b1
    have k0 := hXr.cell
    clear i1 i2 X0 B0 L0 F0 hFB hXB hLB b1 kc
    rw [hn] at HT hu hin hl1 hl2 hwl
    generalize formW (n : Int) = wd at *
    generalize formF (n : Int) = fs at *
    have cv := Lib.run_convert_string_bytes (P := Tryz.prog) w1 9 89 5 ⟨fs.toArray⟩ Tryz.underlying9 Tryz.underlying89 Tryz.underlying5
    have cb := Lib.bytesWorld_below w1 5 ⟨fs.toArray⟩
    have cc := Lib.hid (fun j hj => Lib.bytesWorld_cell w1 5 ⟨fs.toArray⟩ j hj)
    have cz := Lib.bytesWorld_size w1 5 ⟨fs.toArray⟩
    generalize hW1 : Lib.bytesWorld w1 5 ⟨fs.toArray⟩ = W2 at cv cb cc cz
    clear hW1
    go_wp2
    clear cv k0 f0 f1
    have hX2 := hXr.step cb
    have B2 := below_step B1 cb
    have L2 := L1.below cb
    have HXB := Lib.hid (fun w' (h : Below W2.heap.size W2 w') => hX2.step h)
    have HBB := Lib.hid (fun w' (h : Below W2.heap.size W2 w') => below_step B2 h)
    have HLB := Lib.hid (fun w' (h : Below W2.heap.size W2 w') => L2.below h)
    have hgb : w1.heap.size < W2.heap.size := by omega
    clear hXr B1 F1 L1 hX2 B2 L2 cb cz
    generalize w1.heap.size = gb at *
    go_loopw [3, 21] (fun o i wr => ∃ k : Nat, k ≤ fs.length ∧ i = .int .i64 k ∧ o = .string ⟨(wd ++ tailT e (fs.take k)).toArray⟩ ∧ Below W2.heap.size W2 wr) (fun _ i _ => fs.length - (intOf i).toNat)
    case atStart => exact ⟨0, by omega, rfl, by simp [tailT], Below.refl _ _⟩
    case round =>
      obtain ⟨k, hk2, rfl, rfl, BW⟩ := hrel
      by_cases hlt : k < fs.length
      · have hcb := cc.out k (by simp [ByteArray.size]; omega)
        have hgd : fs.getD k 0 = fs[k] := by simp [List.getD, hlt]
        rw [hgd, ← BW.cell (p := ⟨gb, k, none⟩) hgb] at hcb
        have hcm := List.getElem_mem hlt
        have HT2 := Lib.hid (tailT_take e fs k hlt)
        have htl : (tailT e (fs.take k)).length ≤ 20000000000 :=
          Nat.le_trans (tail_len (e := e) (fs.take k) (fun c hc => hwl.out c (List.mem_of_mem_take hc))) (Nat.le_trans (Nat.mul_le_mul_right _ (show (fs.take k).length ≤ 4 by rw [List.length_take]; omega)) (by decide))
        generalize tailT e (fs.take k) = O at htl HT2 ⊢
        generalize fs[k] = c at hcb hcm HT2
        have hVl := hwl.out c hcm
        have kw := Lib.hid (ewrite_any e c (hin.out c hcm) (hu.out c hcm) wr (HLB.out _ BW))
        generalize writeF e c = V at hVl kw HT2
        have i1 : Has_edt wr g 0 := ⟨_, (HXB.out _ BW).is_edt⟩
        have i2 : of_edt wr g 0 = e := of_edt_eq (HXB.out _ BW).is_edt
        have n1 : ¬ 9223372036854775807 < ((V.length + 1 : Nat) : Int) := by omega
        have n2 : ¬ 9223372036854775807 < ((wd.length + O.length + (V.length + 1) : Nat) : Int) := by omega
        have n3 : ¬ 9223372036854775807 < ((wd.length + (O.length + (V.length + 1)) : Nat) : Int) := by omega
        clear hcm
        go_wp2_with (go_at_call 40; (with_reducible refine callR kw.out ?_); intro w2 b2 _ _ _)
        go_roundw
        case rel => exact ⟨k + 1, by omega, by go_num, by first | (rw [HT2.out]; done) | (rw [HT2.out]; simp), BW.trans (b2.mono BW.size)⟩
        case measure => simp [intOf]; omega
      · have HR := Lib.hid (show editText e = wd ++ tailT e (fs.take k) by rw [List.take_of_length_le (by omega)]; exact HT.out)
        generalize tailT e (fs.take k) = O at HR ⊢
        go_wp2
        go_ret
        exact Ret.str (by rw [HR.out]) (HBB.out _ BW)
  · have HO := Lib.hid (show editText e = [] by unfold editText; rw [if_pos (by simpa using hk)])
    generalize editCheck e = z at *
    go_wp2_with (go_at_call 13; (with_reducible refine callR kc.out ?_); intro w1 b1 _ _ _)
    go_ret
    exact Ret.str (by rw [HO.out]) (below_step B0 b1)
end Go.Proofs.YtnmpfmelaninbaaGreatDoor
namespace Go.Proofs.YtnmpfmelaninbaaGreatDoor
open Go.RowKit Go.Sort
set_option maxRecDepth 100000
theorem atoiP_any (l : List UInt8) (w : World) (hl : l.length ≤ 4000000000) (hR : ErrsAt w) : Calls Tryz.prog 102 #[.string ⟨l.toArray⟩] w (RetNum w (atoiP l)) := by
  unfold atoiP
  cases hp : Lib.atoiAll l with
  | ok v =>
    refine (Tryz.strconv_Atoi_ok ⟨l.toArray⟩ (by simp [ByteArray.size]; omega) v (by simpa using hp) w).mono fun e w' ⟨h1, h2⟩ => ⟨⟨_, h1⟩, ?_⟩
    rcases h2 with rfl | ⟨t, rfl⟩
    · exact Below.refl _ _
    · exact Lib.bytesWorld_below _ _ _
  | range =>
    obtain ⟨ev, h1, h2⟩ := hR.range
    exact (Tryz.strconv_Atoi_range ⟨l.toArray⟩ (by simp [ByteArray.size]; omega) (by simpa using hp) ev w h1 h2).mono fun e w' ⟨N, h3, _, _, h4⟩ => ⟨⟨_, by simpa using h3⟩, h4⟩
  | _ =>
    obtain ⟨ev, h1, h2⟩ := hR.form
    exact (Tryz.strconv_Atoi_syntax ⟨l.toArray⟩ (by simp [ByteArray.size]; omega) (by simpa using hp) ev w h1 h2).mono fun e w' ⟨N, h3, _, _, h4⟩ => ⟨⟨_, h3⟩, h4⟩
def RetRd (W : World) (g : Nat) (x : EditV) (e : Ending) (W' : World) : Prop := e = .returned (.tuple #[]) ∧ Touch [g] W W' ∧ Blk W' g x.arr
theorem touch_setRowE {g : Nat} (w : World) (cs : Array Value) : Touch [g] w (w.setRow g cs) :=
  ⟨rfl, rfl, rfl, by simp [World.setRow], fun k _ hn => setRow_other w g k _ (fun e => hn (by simp [e]))⟩
theorem splice_edtW (x : EditV) (a b : Int) : splice x.arr 6 (Win.arr ⟨a, b⟩) = ({ x with lo := a, hi := b } : EditV).arr := rfl
theorem readF_small {x : EditV} {c : UInt8} {s : List UInt8} (h : x.small) (hs : s.length ≤ 4000000000) : (readF x c s).small := by
  obtain ⟨h1, h2, h3, h4⟩ := h
  unfold readF
  split
  · exact ⟨h1, h2, h3, h4⟩
  split
  · exact ⟨hs, h2, h3, h4⟩
  split
  · exact ⟨h1, hs, h3, h4⟩
  split
  · split
    · exact ⟨h1, h2, h3, h4⟩
    · exact ⟨h1, h2, hs, h4⟩
  split
  · split
    · exact ⟨h1, h2, h3, h4⟩
    · exact ⟨h1, h2, h3, hs⟩
  split
  · exact ⟨h1, h2, h3, h4⟩
  split
  · exact ⟨h1, h2, h3, h4⟩
  split
  · exact ⟨h1, h2, h3, h4⟩
  split
  · exact ⟨h1, h2, h3, h4⟩
  · exact ⟨h1, h2, h3, h4⟩
set_option maxHeartbeats 4000000 in
theorem eread_any (x : EditV) (c : UInt8) (hc : c ∈ edOrder) (s : List UInt8) (g : Nat) (W : World) (hL : Laid W) (hR : ErrsAt W) (hX : Blk W g x.arr) (hs : s.length ≤ 4000000000) :
    Calls Tryz.prog 48 #[.pointer (some ⟨g, 0, none⟩), .int .u8 (c.toNat : Int), .string ⟨s.toArray⟩] W (RetRd W g (readF x c s)) := by
  have c0 := hX.cell
  have f0 := hX.frozen
  simp only [edOrder, List.mem_cons, List.not_mem_nil, or_false] at hc
  rcases hc with rfl | rfl | rfl | rfl | rfl | rfl | rfl | rfl | rfl | rfl
  · have kc := Lib.hid (atoiP_any s W hs hR)
    have HE := Lib.hid (show readF x 97 s = { x with at_ := atoiP s } from rfl)
    generalize atoiP s = n at kc HE
    go_enter Tryz.func48, Tryz.ntmps48
    go_wp2_with (go_at_call 102; (with_reducible refine callNum kc.out ?_); intro ev w1 b1; clear c0 f0; have X1 := hX.step b1; have c1 := X1.cell; have f1 := X1.frozen)
    go_end0
    exact ⟨rfl, (Touch.of b1).trans (Touch.setCell _ _ (by simp) 1 _), by rw [HE.out]; exact X1.setCell 1 _⟩
  · go_enter Tryz.func48, Tryz.ntmps48
    go_wp2
    go_end0
    exact ⟨rfl, Touch.setCell _ _ (by simp) 2 _, hX.setCell 2 _⟩
  · go_enter Tryz.func48, Tryz.ntmps48
    go_wp2
    go_end0
    exact ⟨rfl, Touch.setCell _ _ (by simp) 3 _, hX.setCell 3 _⟩
  · by_cases hd : s = [45]
    · subst hd
      go_enter Tryz.func48, Tryz.ntmps48
      go_wp2
      go_end0
      exact ⟨rfl, Touch.refl _ _, hX⟩
    · have HE := Lib.hid (show readF x 119 s = { x with rway := s } from if_neg hd)
      have h0 : (s == [45]) = false := by simpa using hd
      clear hd
      go_enter Tryz.func48, Tryz.ntmps48
      go_wp2
      go_end0
      exact ⟨rfl, Touch.setCell _ _ (by simp) 4 _, by rw [HE.out]; exact hX.setCell 4 _⟩
  · by_cases hd : s = [45]
    · subst hd
      go_enter Tryz.func48, Tryz.ntmps48
      go_wp2
      go_end0
      exact ⟨rfl, Touch.refl _ _, hX⟩
    · have HE := Lib.hid (show readF x 116 s = { x with trans := s } from if_neg hd)
      have h0 : (s == [45]) = false := by simpa using hd
      clear hd
      go_enter Tryz.func48, Tryz.ntmps48
      go_wp2
      go_end0
      exact ⟨rfl, Touch.setCell _ _ (by simp) 5 _, by rw [HE.out]; exact hX.setCell 5 _⟩
  · have kc := Lib.hid (parseWindow_any s W hL hs)
    have HE := Lib.hid (show readF x 104 s = { x with lo := (parseWinS s).1.1, hi := (parseWinS s).1.2 } from rfl)
    generalize parseWinS s = q at kc HE
    obtain ⟨⟨a, b⟩, m⟩ := q
    go_enter Tryz.func48, Tryz.ntmps48
    go_wp2_with (go_at_call 103; (with_reducible refine callR kc.out ?_); intro w1 b1 _ _ _; clear c0 f0; have X1 := hX.step b1; have d2 := X1.plain; have d3 := X1.of; have d4 := splice_edtW x a b)
    go_end0
    exact ⟨rfl, (Touch.of b1).trans (touch_setRowE _ _), by rw [HE.out]; exact X1.set _⟩
  · have kc := Lib.hid (parseIntP_any s W hs hR)
    have HE := Lib.hid (show readF x 115 s = { x with speed := numP s } from rfl)
    generalize numP s = n at kc HE
    go_enter Tryz.func48, Tryz.ntmps48
    go_wp2_with (go_at_call 104; (with_reducible refine callNum kc.out ?_); intro ev w1 b1; clear c0 f0; have X1 := hX.step b1; have c1 := X1.cell; have f1 := X1.frozen)
    go_end0
    exact ⟨rfl, (Touch.of b1).trans (Touch.setCell _ _ (by simp) 8 _), by rw [HE.out]; exact X1.setCell 8 _⟩
  · have kc := Lib.hid (parseExact_any s W (by omega))
    have HE := Lib.hid (show readF x 99 s = { x with course := (parseExS s).1 } from rfl)
    generalize parseExS s = q at kc HE
    obtain ⟨n, m⟩ := q
    go_enter Tryz.func48, Tryz.ntmps48
    go_wp2_with (go_at_call 105; (with_reducible refine callP kc.out ?_))
    go_end0
    exact ⟨rfl, Touch.setCell _ _ (by simp) 9 _, by rw [HE.out]; exact hX.setCell 9 _⟩
  · have kc := Lib.hid (parseDist_any s W hL hs)
    have HE := Lib.hid (show readF x 100 s = { x with dist := (distP s).1 } from rfl)
    generalize distP s = q at kc HE
    obtain ⟨n, m⟩ := q
    go_enter Tryz.func48, Tryz.ntmps48
    go_wp2_with (go_at_call 106; (with_reducible refine callR kc.out ?_); intro w1 b1 _ _ _; clear c0 f0; have X1 := hX.step b1; have c1 := X1.cell; have f1 := X1.frozen)
    go_end0
    exact ⟨rfl, (Touch.of b1).trans (Touch.setCell _ _ (by simp) 10 _), by rw [HE.out]; exact X1.setCell 10 _⟩
  · by_cases hd : s = [76]
    · subst hd
      go_enter Tryz.func48, Tryz.ntmps48
      go_wp2
      go_end0
      exact ⟨rfl, (Touch.setCell _ W (by simp) 11 _).trans (Touch.setCell _ _ (by simp) 11 _), (hX.setCell 11 _).setCell 11 _⟩
    · have HE := Lib.hid (show readF x 117 s = { x with turn := 2 } by show ({ x with turn := if s = [76] then 1 else 2 } : EditV) = _; rw [if_neg hd])
      have h0 : (s == [76]) = false := by simpa using hd
      clear hd
      go_enter Tryz.func48, Tryz.ntmps48
      go_wp2
      go_end0
      exact ⟨rfl, Touch.setCell _ _ (by simp) 11 _, by rw [HE.out]; exact hX.setCell 11 _⟩
end Go.Proofs.YtnmpfmelaninbaaGreatDoor
namespace Go.Proofs.YtnmpfmelaninbaaGreatDoor
open Go.RowKit Go.Sort
set_option maxRecDepth 100000
theorem splitC_len (c : UInt8) (l : List UInt8) : (splitC c l).length = l.count c + 1 := by
  induction l with
  | nil => rfl
  | cons x r ih =>
    by_cases hx : x = c
    · simp [splitC, hx, ih]
    · rw [List.count_cons_of_ne hx]
      unfold splitC
      rw [if_neg hx]
      have h1 := splitC_ne c r
      match h : splitC c r with
      | [] => exact absurd h h1
      | a :: q => rw [h] at ih; simpa using ih
theorem splitK_splitC (c : UInt8) : ∀ (k : Nat) (l : List UInt8), l.count c ≤ k → Lib.splitK [c] 0 k l = splitC c l
  | 0, l, h => by
    rw [Lib.splitK, splitC_cut]
    have h1 := count_cutAt c l
    cases hf : (cutAt c l).2.2
    · simp
    · rw [hf] at h1; simp at h1; omega
  | k + 1, l, h => by
    rw [Lib.splitK, splitC_cut]
    have h1 := count_cutAt c l
    cases hf : (cutAt c l).2.2
    · rw [if_pos (by rw [index_cutAt, hf]; rfl)]; simp
    · rw [if_neg (by rw [index_cutAt, hf]; first | (simp; done) | (simp; omega)), (drop_cutAt c l hf).1, (drop_cutAt c l hf).2]
      rw [hf] at h1
      simp only [if_true] at h1 ⊢
      rw [splitK_splitC c k _ (by omega)]
theorem splitB_strs (c : UInt8) (k : Nat) (l : List UInt8) : (Lib.splitB ⟨#[c]⟩ 0 k ⟨l.toArray⟩).map Value.string = (Lib.splitK [c] 0 k l).map fun q => Value.string ⟨q.toArray⟩ := by
  have h := Lib.splitB_data ⟨#[c]⟩ 0 k ⟨l.toArray⟩
  rw [← show _ = Lib.splitK [c] 0 k l from h, List.map_map]
  rfl
theorem countB_c (c : UInt8) (l : List UInt8) : Lib.countB ⟨l.toArray⟩ ⟨#[c]⟩ = l.count c := by
  have hc : Lib.countB ⟨l.toArray⟩ ⟨#[c]⟩ = Lib.count l [c] := by rfl
  rw [hc, Lib.count, countFrom_cutAt c _ l (by omega)]
def strCellsC (ws : List (List UInt8)) : Array Value := (ws.map fun q => Value.string ⟨q.toArray⟩).toArray
theorem splitC_any (c : UInt8) (l : List UInt8) (w : World) (hL : Laid w) (hl : l.length ≤ 4000000000) : Calls Tryz.prog 47 #[.string ⟨l.toArray⟩, .string ⟨#[c]⟩] w fun e w' =>
    e = .returned (.slice (some ⟨w.heap.size, 0, none⟩) (splitC c l).length (splitC c l).length) ∧ w' = w.alloc (.cells (strCellsC (splitC c l)) 9) := by
  obtain ⟨m, hm⟩ := hL.maxLen
  have h := Tryz.strings_Split ⟨l.toArray⟩ ⟨#[c]⟩ m w (by simp [ByteArray.size]; omega) hm (Nat.le_refl 1)
  rw [splitB_strs, countB_c, splitK_splitC c _ l (Nat.le_refl _), ← splitC_len] at h
  exact h
end Go.Proofs.YtnmpfmelaninbaaGreatDoor
namespace Go.Proofs.YtnmpfmelaninbaaGreatDoor
open Go.RowKit Go.Sort
set_option maxRecDepth 100000
theorem splitC_memE (c : UInt8) : ∀ (l : List UInt8), ∀ x ∈ splitC c l, x.length ≤ l.length
  | [], x, hx => by
    have : x = [] := by simpa [splitC] using hx
    rw [this]; simp
  | y :: r, x, hx => by
    have ih := splitC_memE c r
    unfold splitC at hx
    split at hx
    · rcases List.mem_cons.1 hx with rfl | hx
      · simp
      · have := ih x hx; simp; omega
    · revert hx
      have hne := splitC_ne c r
      match hm : splitC c r with
      | [] => exact absurd hm hne
      | a :: q =>
        intro hx
        rw [hm] at ih
        rcases List.mem_cons.1 hx with rfl | hx
        · have := ih a (by simp); simp; omega
        · have := ih x (by simp [hx]); simp; omega
def StrsAtE (w : World) (b : Nat) (ss : List (List UInt8)) : Prop := ∀ k x, ss[k]? = some x → w.cell? ⟨b, k, none⟩ = some (.string ⟨x.toArray⟩)
theorem alloc_belowP (w : World) (o : Obj) : Below w.heap.size w (w.alloc o) := (Below.refl _ _).alloc (Nat.le_refl _) _
def formArr (k : Nat) : Array Value := #[.string ⟨(formW (k : Int)).toArray⟩, .string ⟨(formF (k : Int)).toArray⟩]
theorem formArr_one (k : Nat) : (formArr k).all (·.oneCell') = true := by simp [formArr, Value.oneCell']
def formsArr : Array Value := ((List.range 13).flatMap fun (k : Nat) => (formArr k).toList).toArray
theorem formsArr_size : formsArr.size = 26 := rfl
theorem formsArr_at : ∀ k : Nat, k ≤ 12 → formsArr[k * 2]? = some (.string ⟨(formW (k : Int)).toArray⟩) ∧ formsArr[k * 2 + 1]? = some (.string ⟨(formF (k : Int)).toArray⟩) := by
  intro k hk
  have : k = 0 ∨ k = 1 ∨ k = 2 ∨ k = 3 ∨ k = 4 ∨ k = 5 ∨ k = 6 ∨ k = 7 ∨ k = 8 ∨ k = 9 ∨ k = 10 ∨ k = 11 ∨ k = 12 := by omega
  rcases this with rfl | rfl | rfl | rfl | rfl | rfl | rfl | rfl | rfl | rfl | rfl | rfl | rfl <;> exact ⟨rfl, rfl⟩
theorem FormsAt.arr {w : World} (h : FormsAt w) : ∀ j, j < 26 → w.cell? ⟨0, 0 + j, none⟩ = formsArr[j]? := by
  intro j hj
  rw [Nat.zero_add]
  obtain ⟨k, hk, e⟩ : ∃ k, k ≤ 12 ∧ (j = k * 2 ∨ j = k * 2 + 1) := ⟨j / 2, by omega, by omega⟩
  rcases e with rfl | rfl
  · rw [h.word k hk, (formsArr_at k hk).1]
  · rw [h.flds k hk, (formsArr_at k hk).2]
theorem info_forms : (Tryz.prog.info? 88).map (·.size) = some 26 := by kernel_rfl
theorem info_form : (Tryz.prog.info? 87).map (·.size) = some 2 := by kernel_rfl
theorem run_index_forms (k : Nat) (hk : k ≤ 12) (w : World) : (Instr.index 88 (.agg formsArr) (.int .i64 (k : Int))).run Tryz.prog w = .ok (.agg (formArr k)) w := by
  have : k = 0 ∨ k = 1 ∨ k = 2 ∨ k = 3 ∨ k = 4 ∨ k = 5 ∨ k = 6 ∨ k = 7 ∨ k = 8 ∨ k = 9 ∨ k = 10 ∨ k = 11 ∨ k = 12 := by omega
  rcases this with rfl | rfl | rfl | rfl | rfl | rfl | rfl | rfl | rfl | rfl | rfl | rfl | rfl <;> rfl
def bedt (parts : Array (Nat × Value)) : Sem Value := Instr.build 26 parts
theorem bedt_fold (parts : Array (Nat × Value)) : Instr.build 26 parts = bedt parts := rfl
theorem run_bedt0 (w : World) : (bedt #[]).run Tryz.prog w = .ok (.agg edit0.arr) w := run_build w _ _ _ (by kernel_rfl)
def editOp (n : Int) : EditV := ⟨n, 0, [], [], [], [], 0, 0, 0, 0, 0, 0⟩
theorem run_bedt1 (w : World) (n : Int) : (bedt #[(0, .int .u8 n)]).run Tryz.prog w = .ok (.agg (editOp n).arr) w := run_build w _ _ _ (by kernel_rfl)
attribute [local go_sem ↓] bedt_fold
attribute [local go_sem] run_bedt0 run_bedt1
theorem edit0_arr : edit0.arr = #[.int .u8 0, .int .i64 0, .string ⟨#[]⟩, .string ⟨#[]⟩, .string ⟨#[]⟩, .string ⟨#[]⟩, .int .i64 0, .int .i64 0, .int .i64 0, .int .i64 0, .int .i64 0, .int .u8 0] := rfl
theorem ed_parse_skip {s : List UInt8} {W : List (List UInt8)} {k : Nat} (hk : k < 13) (h : tryOp s W k = none) : parseFrom s W k (13 - k) = parseFrom s W (k + 1) (13 - (k + 1)) := by
  obtain ⟨m, hm⟩ : ∃ m, 13 - k = m + 1 := ⟨12 - k, by omega⟩
  rw [hm, show 13 - (k + 1) = m by omega, parseFrom, h]
theorem ed_parse_hit {s : List UInt8} {W : List (List UInt8)} {k : Nat} {e : EditV} (hk : k < 13) (h : tryOp s W k = some e) : parseFrom s W k (13 - k) = (e, 0) := by
  obtain ⟨m, hm⟩ : ∃ m, 13 - k = m + 1 := ⟨12 - k, by omega⟩
  rw [hm, parseFrom, h]
theorem ed_try_zero (s : List UInt8) (W : List (List UInt8)) : tryOp s W ((0 : Nat) : Int) = none := by unfold tryOp; rw [if_pos (.inl rfl)]
theorem ed_try_word {s w0 : List UInt8} {ws : List (List UInt8)} {k : Nat} (h : formW (k : Int) ≠ w0) : tryOp s (w0 :: ws) k = none := by unfold tryOp; rw [if_pos (.inr (.inl h))]
theorem ed_try_len {s w0 : List UInt8} {ws : List (List UInt8)} {k : Nat} (h : (formF (k : Int)).length ≠ ws.length) : tryOp s (w0 :: ws) k = none := by unfold tryOp; rw [if_pos (.inr (.inr (by simpa using h)))]
theorem ed_try_some {s w0 : List UInt8} {ws : List (List UInt8)} {k : Nat} (h0 : k ≠ 0) (h1 : formW (k : Int) = w0) (h2 : (formF (k : Int)).length = ws.length) : tryOp s (w0 :: ws) k = okP s (readGo (editOp (k : Int)) (formF (k : Int)) ws) := by
  unfold tryOp
  rw [if_neg]
  · rfl
  · rintro (h | h | h)
    · exact h0 (by omega)
    · exact h h1
    · exact h (by simpa using h2)
theorem form_lenK : ∀ k : Nat, k ≤ 12 → (formW (k : Int)).length ≤ 9 ∧ (formF (k : Int)).length ≤ 4 := by
  intro k hk
  have : k = 0 ∨ k = 1 ∨ k = 2 ∨ k = 3 ∨ k = 4 ∨ k = 5 ∨ k = 6 ∨ k = 7 ∨ k = 8 ∨ k = 9 ∨ k = 10 ∨ k = 11 ∨ k = 12 := by omega
  rcases this with rfl | rfl | rfl | rfl | rfl | rfl | rfl | rfl | rfl | rfl | rfl | rfl | rfl <;> decide
theorem formF_inK (k : Nat) (hk : k ≤ 12) (h0 : k ≠ 0) : ∀ c ∈ formF (k : Int), c ∈ edOrder := (formF_in (op := (k : Int)) ⟨by omega, by omega⟩).1
def edVal (r : EditV × Int) : Value := .tuple #[.agg r.1.arr, .int .i64 r.2]
theorem editOp_small (n : Int) : (editOp n).small := ⟨Nat.zero_le _, Nat.zero_le _, Nat.zero_le _, Nat.zero_le _⟩
set_option maxHeartbeats 16000000 in
theorem editParse_any (s : List UInt8) (w : World) (hL : Laid w) (hR : ErrsAt w) (hF : FormsAt w) (hs : s.length ≤ 100000) : Calls Tryz.prog 17 #[.string ⟨s.toArray⟩] w (Ret w (edVal (editParse s))) := by
  obtain ⟨w0, ws, hws⟩ : ∃ w0 ws, splitC 32 s = w0 :: ws := by
    match h : splitC 32 s with
    | [] => exact absurd h (splitC_ne 32 s)
    | a :: q => exact ⟨a, q, rfl⟩
  have hmem := splitC_memE 32 s
  have hcnt : ws.length ≤ s.length := by
    have h1 := splitC_len 32 s
    have h2 := List.count_le_length (a := (32 : UInt8)) (l := s)
    rw [hws] at h1; simp at h1; omega
  rw [hws] at hmem
  have hl0 := hmem w0 (by simp)
  have HR := Lib.hid (fun x hx => hmem x (List.mem_cons_of_mem _ hx) : ∀ x ∈ ws, x.length ≤ s.length)
  have HO := Lib.hid (show editParse s = parseFrom s (w0 :: ws) 0 13 by unfold editParse; rw [hws])
  have hsp := Lib.hid (fun W hL' => splitC_any 32 s W hL' (by omega))
  rw [hws] at hsp
  clear hmem hws
  generalize editParse s = OUT at HO ⊢
  go_enter Tryz.func17, Tryz.ntmps17
  go_upto_region 1 with (fail)
  have X0 : Blk (w.alloc (.cells edit0.arr 26)) w.heap.size edit0.arr := Blk.new w _ _
  have B0 := alloc_belowP w (.cells edit0.arr 26)
  have L0 := hL.below B0
  rw [edit0_arr] at X0 B0 L0
  generalize w.alloc _ = W at X0 B0 L0 ⊢
  rw [← edit0_arr] at X0
  obtain ⟨g, hg0⟩ : ∃ g, g = w.heap.size := ⟨_, rfl⟩
  rw [← hg0] at X0 ⊢
  have hg := Nat.le_of_eq hg0.symm
  clear hg0
  go_wp2_with fail
  refine (hsp.out W L0).mono ?_
  rintro e w1 ⟨rfl, hw1⟩
  have A1 : Below W.heap.size W w1 := by rw [hw1]; exact alloc_belowP _ _
  have hs1 : W.heap.size < w1.heap.size := by rw [hw1]; simp
  have S1 : StrsAtE w1 W.heap.size (w0 :: ws) := fun k x hx => by
    rw [hw1, cell_of_row _ _ k _ _ (0, 0) (heap_alloc_new W _)]
    unfold strCellsC
    rw [List.getElem?_toArray, List.getElem?_map, hx]
    rfl
  have X1 := X0.step A1
  have B1 := below_step B0 A1
  have F1 := hF.below B1
  clear hw1 A1 X0 B0 L0 hsp
  generalize W.heap.size = sb at *
  rw [List.length_cons]
  have HFA := Lib.hid F1.arr
  go_wp2_with (refine wpList_load_arr rfl 88 (.global 0) rfl 0 0 rfl formsArr 26 _ formsArr_size HFA.out Tryz.underlying88 rfl info_forms ?_)
  have HX := Lib.hid X1
  have HB := Lib.hid B1
  have HS := Lib.hid (fun (wr : World) (BW : Below w1.heap.size w1 wr) k x (hx : (w0 :: ws)[k]? = some x) => show wr.cell? ⟨sb, k, none⟩ = some (.string ⟨x.toArray⟩) from by rw [BW.cell (p := ⟨sb, k, none⟩) hs1]; exact S1 k x hx)
  have HLR := Lib.hid (fun (wr : World) (BW : Below w1.heap.size w1 wr) => (⟨hL.below (below_step B1 BW), hR.below (below_step B1 BW), hF.below (below_step B1 BW)⟩ : Laid wr ∧ ErrsAt wr ∧ FormsAt wr))
  have hgl : g < w1.heap.size := X1.lt
  clear X1 B1 F1 S1 HFA
  go_loopw [13] (fun i wr => ∃ k : Nat, k ≤ 13 ∧ i = .int .i64 k ∧ OUT = parseFrom s (w0 :: ws) k (13 - k) ∧ Below w1.heap.size w1 wr) (fun i _ => 13 - (intOf i).toNat)
  case atStart => exact ⟨0, by omega, rfl, HO.out, Below.refl _ _⟩
  case round =>
    clear HO
    obtain ⟨k, hk, rfl, hq, BW⟩ := hrel
    have HQ := Lib.hid hq
    clear hq
    by_cases hlt : k < 13
    · have hix := run_index_forms k (by omega)
      go_upto_region 5 with (refine wpList_store_new rfl 87 (.tmp 6) (.tmp 16) rfl _ (formArr k) rfl rfl 2 info_form rfl rfl (formArr_one k) ?_)
      have P0 : Blk (wr.alloc (.cells (formArr k) 87)) wr.heap.size (formArr k) := Blk.new wr _ _
      have A0 := alloc_belowP wr (.cells (formArr k) 87)
      have B2 := BW.trans (A0.mono BW.size)
      have HWR := Lib.hid BW.size
      generalize wr.alloc _ = W2 at P0 A0 B2 ⊢
      generalize wr.heap.size = gf at P0 A0 HWR ⊢
      have P2 := HS.out wr BW
      have c0 : W2.cell? ⟨gf, 0, none⟩ = some (.string ⟨(formW (k : Int)).toArray⟩) := P0.cell 0
      have c1 : W2.cell? ⟨gf, 1, none⟩ = some (.string ⟨(formF (k : Int)).toArray⟩) := P0.cell 1
      have cw : W2.cell? ⟨sb, 0, none⟩ = some (.string ⟨w0.toArray⟩) := HS.out W2 B2 0 w0 rfl
      have fl := form_lenK k (by omega)
      have hwsl : ws.length ≤ 100000 := by omega
      have q0 : IntKind.i64.wrap ((ws.length : Nat) : Int) = ((ws.length : Nat) : Int) := IntWalk.i64_in _ (by omega)
      clear P2 hix
      by_cases hk0 : k = 0
      · subst hk0
        have HN := Lib.hid (show OUT = parseFrom s (w0 :: ws) 1 12 by rw [HQ.out, ed_parse_skip hlt (ed_try_zero s _)])
        clear HQ c0 c1
        go_quiet (fail)
        go_wp2
        go_roundw
        case rel => exact ⟨1, by omega, by go_num, HN.out, below_drewN B2 _⟩
        case measure => simp [intOf]
      have hk1 : ((k : Int) == 0) = false := by rw [beq_eq_false_iff_ne]; omega
      by_cases hw : formW (k : Int) = w0
      rotate_left
      · have HN := Lib.hid (show OUT = parseFrom s (w0 :: ws) (k + 1) (13 - (k + 1)) by rw [HQ.out, ed_parse_skip hlt (ed_try_word hw)])
        have h0 : (formW (k : Int) == w0) = false := by simpa using hw
        generalize formW (k : Int) = FW at *
        generalize formF (k : Int) = FF at *
        clear HQ hw
        go_quiet (fail)
        go_wp2
        go_roundw
        case rel => exact ⟨k + 1, by omega, by go_num, HN.out, below_drewN B2 _⟩
        case measure => simp [intOf]; omega
      have h0 : (formW (k : Int) == w0) = true := by simpa using hw
      by_cases hn : (formF (k : Int)).length = ws.length
      rotate_left
      · have HN := Lib.hid (show OUT = parseFrom s (w0 :: ws) (k + 1) (13 - (k + 1)) by rw [HQ.out, ed_parse_skip hlt (ed_try_len hn)])
        generalize formW (k : Int) = FW at *
        generalize formF (k : Int) = FF at *
        have h1 : (((FF.length : Nat) : Int) == ((ws.length : Nat) : Int)) = false := by rw [beq_eq_false_iff_ne]; omega
        clear HQ hw hn
        go_quiet (fail)
        go_wp2
        go_roundw
        case rel => exact ⟨k + 1, by omega, by go_num, HN.out, below_drewN B2 _⟩
        case measure => simp [intOf]; omega
      have HT := Lib.hid (ed_try_some (s := s) hk0 hw hn)
      have hfo := Lib.hid (formF_inK k (by omega) hk0)
      have HFF := Lib.hid (show (formArr k)[1]? = some (.string ⟨(formF (k : Int)).toArray⟩) from rfl)
      generalize formW (k : Int) = FW at *
      generalize formF (k : Int) = FF at *
      have h1 : (((FF.length : Nat) : Int) == ((ws.length : Nat) : Int)) = true := by rw [beq_iff_eq]; omega
      go_quiet (fail)
      have B3 := below_drewN B2 nq
      have P3 := P0.step (below_drewN (Below.refl _ _) nq)
      have hgf3 : gf < (W2.drewN nq).heap.size := P3.lt
      clear c0 c1 cw h0 h1 hk1 q0 P0 A0 B2
      generalize W2.drewN nq = W3 at *
      have c1 : W3.cell? ⟨gf, 1, none⟩ = some (.string ⟨FF.toArray⟩) := by have := P3.cell 1; rw [this]; exact HFF.out
      have q0 : IntKind.u8.wrap (k : Int) = (k : Int) := by simp only [IntKind.wrap, IntKind.bits, IntKind.signed]; simp; omega
      go_upto_region 7 with (fail)
      have E4 := Blk.new W3 (editOp (k : Int)).arr 26
      have P4 := P3.alloc (.cells (editOp (k : Int)).arr 26)
      have B4 := below_step B3 (alloc_belowP W3 (.cells (editOp (k : Int)).arr 26))
      have HGE := Lib.hid B3.size
      have hlt4 : W3.heap.size < (W3.alloc (.cells (editOp (k : Int)).arr 26)).heap.size := by simp
      clear c1 P3 B3 q0
      generalize W3.alloc _ = W4 at *
      generalize W3.heap.size = ge at *
      have c1 : W4.cell? ⟨gf, 1, none⟩ = some (.string ⟨FF.toArray⟩) := by have := P4.cell 1; rw [this]; exact HFF.out
      have cv := Lib.run_convert_string_bytes (P := Tryz.prog) W4 9 89 5 ⟨FF.toArray⟩ Tryz.underlying9 Tryz.underlying89 Tryz.underlying5
      have cb := Lib.bytesWorld_below W4 5 ⟨FF.toArray⟩
      have cc := Lib.hid (fun j hj => Lib.bytesWorld_cell W4 5 ⟨FF.toArray⟩ j hj)
      have cz := Lib.bytesWorld_size W4 5 ⟨FF.toArray⟩
      generalize hW5 : Lib.bytesWorld W4 5 ⟨FF.toArray⟩ = W5 at cv cb cc cz
      clear hW5
      go_wp2
      clear cv c1 P4
      have E5 := E4.step cb
      have B5 := below_step B4 cb
      have hgb : W4.heap.size < W5.heap.size := by omega
      have hgbe : W4.heap.size ≠ ge := by omega
      clear E4 B4 cb cz hlt4
      generalize W4.heap.size = gb at *
      have HE5 := Lib.hid E5
      clear E5
      go_loopw [43] (fun i wr => ∃ (j : Nat) (x : EditV), j ≤ FF.length ∧ i = .int .i64 j ∧ readGo (editOp (k : Int)) FF ws = readGo x (FF.drop j) (ws.drop j) ∧ x.small ∧ Blk wr ge x.arr ∧ Touch [ge] W5 wr) (fun i _ => FF.length - (intOf i).toNat)
      case atStart => exact ⟨0, editOp (k : Int), by omega, rfl, rfl, editOp_small _, HE5.out, Touch.refl _ _⟩
      case round =>
        clear HE5
        obtain ⟨j, x, hj, rfl, hgo, hsm, X, T⟩ := hrel
        have HGO := Lib.hid hgo
        clear hgo
        have BR := T.below B5 (by simp; exact HGE.out)
        obtain ⟨Lr, Rr, Fr⟩ := HLR.out _ BR
        by_cases hlt2 : j < FF.length
        · have hcb := cc.out j (by simp [ByteArray.size]; omega)
          have hgd : FF.getD j 0 = FF[j] := by simp [List.getD, hlt2]
          rw [hgd, ← T.cell (g := gb) (by simpa using hgbe) hgb] at hcb
          have hwl : j < ws.length := by omega
          have hwd := HS.out _ BR (j + 1) ws[j] (by simp [hwl])
          have hwn := HR.out ws[j] (List.getElem_mem hwl)
          have HN := Lib.hid (show readGo (editOp (k : Int)) FF ws = readGo (readF x FF[j] ws[j]) (FF.drop (j + 1)) (ws.drop (j + 1)) by rw [HGO.out, List.drop_eq_getElem_cons hlt2, List.drop_eq_getElem_cons hwl]; rfl)
          have hcm := hfo.out _ (List.getElem_mem hlt2)
          clear HGO hgd
          generalize FF[j] = c at hcb hcm HN
          generalize ws[j] = wd at hwd hwn HN
          have kr := Lib.hid (eread_any x c hcm wd ge _ Lr Rr X (by omega))
          have hxs := Lib.hid (readF_small (c := c) hsm (show wd.length ≤ 4000000000 by omega))
          generalize readF x c wd = y at kr HN hxs
          have q1 : IntKind.i64.wrap ((j : Int) + 1) = (j : Int) + 1 := IntWalk.i64_in _ (by omega)
          have q2 : (0 : Int) ≤ (j : Int) + 1 := by omega
          have q3 : ((j : Int) + 1).toNat = j + 1 := by omega
          have q4 : (j : Int) + 1 < (ws.length : Int) + 1 := by omega
          have HB5 := Lib.hid B5
          have HT0 := Lib.hid T
          clear hcm Lr Rr Fr BR X B5 T hsm
          go_wp2_with (go_at_call 48; (refine kr.out.mono ?_); rintro e w6 ⟨rfl, T6, X6⟩)
          go_roundw
          case rel => exact ⟨j + 1, y, by omega, by go_num, HN.out, hxs.out, X6, HT0.out.trans T6⟩
          case measure => simp [intOf]; omega
        · have HXX := Lib.hid (show readGo (editOp (k : Int)) FF ws = x by rw [HGO.out, List.drop_of_length_le (by omega)]; cases ws.drop j <;> rfl)
          have kt := Lib.hid (editText_any x hsm _ Lr Fr)
          have i1 : Has_edt wr ge 0 := ⟨_, X.is_edt⟩
          have i2 : of_edt wr ge 0 = x := of_edt_eq X.is_edt
          have XG := HX.out.step BR
          have HTT := Lib.hid (show tryOp s (w0 :: ws) (k : Int) = if editText x = s then some x else none by rw [HT.out, HXX.out]; rfl)
          have HXb := Lib.hid X
          have BR2 := Lib.hid BR
          have hgge : g ≠ ge := by have := HGE.out; omega
          clear HT HXX HGO Lr Rr Fr X T BR
          generalize editText x = TX at kt HTT
          by_cases hts : TX = s
          · have HN := Lib.hid (show OUT = (x, 0) by rw [HQ.out, ed_parse_hit hlt (HTT.out.trans (if_pos hts))])
            have h1 : (TX == s) = true := by simpa using hts
            clear hts HTT HQ
            go_wp2_with (go_at_call 15; (with_reducible refine callR kt.out ?_); intro w7 b7 _ _ _
                         have X7 := HXb.out.step b7
                         have G7 := XG.step b7
                         have j1 : Has_edt w7 ge 0 := ⟨_, X7.is_edt⟩
                         have j2 : of_edt w7 ge 0 = x := of_edt_eq X7.is_edt
                         have d2 := G7.plain
                         have d3 : blkOf w7 g = edit0.arr := G7.of
                         have d4 := splice_edt edit0 x)
            exact bodyPost_ret (results_agg Tryz.results17 _ _ g x.arr 12 _ rfl rfl (G7.set _).cell Tryz.underlying26 rfl info_edt) rfl ⟨by rw [HN.out]; rfl, below_setRow' (below_step (below_step HB.out BR2.out) b7) hg _⟩
          · have HN := Lib.hid (show OUT = parseFrom s (w0 :: ws) (k + 1) (13 - (k + 1)) by rw [HQ.out, ed_parse_skip hlt (HTT.out.trans (if_neg hts))])
            have h1 : (TX == s) = false := by simpa using hts
            clear hts HTT HQ
            go_wp2_with (go_at_call 15; (with_reducible refine callR kt.out ?_); intro w7 b7 _ _ _)
            go_roundw
            case rel => exact ⟨k + 1, by omega, by go_num, HN.out, below_step BR2.out b7⟩
            case measure => simp [intOf]; omega
    · have HN := Lib.hid (show OUT = (edit0, 4) by rw [HQ.out, show 13 - k = 0 by omega]; rfl)
      have X2 := HX.out.step BW
      have d2 := X2.plain
      have d3 : blkOf wr g = edit0.arr := X2.of
      have d4 := splice_edt edit0 edit0
      go_wp2
      exact bodyPost_ret (results_agg Tryz.results17 _ _ g edit0.arr 12 _ rfl rfl (X2.set _).cell Tryz.underlying26 rfl info_edt) rfl ⟨by rw [HN.out]; rfl, below_setRow' (below_step HB.out BW) hg _⟩
end Go.Proofs.YtnmpfmelaninbaaGreatDoor
