/- edit.write, edit.dash, edit.Text; walks. edit.Text; walk. edit.read; walk. strings.Split and strings.SplitN at one byte. -/
import Derived.Test.YtnmpfmelaninbaaGreatDoorPk20
import Derived.Test.YtnmpfmelaninbaaGreatDoorPk12
import Derived.Test.YtnmpfmelaninbaaGreatDoorPk27
import Derived.Test.YtnmpfmelaninbaaGreatDoorPk19
import Derived.Test.YtnmpfmelaninbaaGreatDoorPk13
namespace Go.Proofs.YtnmpfmelaninbaaGreatDoor
open Go.RowKit Go.Sort
set_option linter.unusedVariables false
set_option linter.unusedSimpArgs false
set_option maxRecDepth 100000
theorem edash_any (l : List UInt8) (w : World) : Calls Tryz.prog 92 #[.string ⟨l.toArray⟩] w (RetP w (.string ⟨(dashB l).toArray⟩)) := by
  cases l with
  | nil =>
    go_enter Tryz.func92, Tryz.ntmps92
    go_wp2
    go_ret
    exact ⟨rfl, rfl⟩
  | cons c r =>
    have h : ¬ (c :: r = ([] : List UInt8)) := by simp
    go_enter Tryz.func92, Tryz.ntmps92
    go_wp2
    go_ret
    exact ⟨rfl, rfl⟩
set_option maxHeartbeats 4000000 in
theorem ewrite_any (e : EditV) (c : UInt8) (hc : c ∈ edOrder) (h : checkF e c = 0) (w : World) (hL : Laid w) : Calls Tryz.prog 40 #[.agg e.arr, .int .u8 (c.toNat : Int)] w (Ret w (.string ⟨(writeF e c).toArray⟩)) := by
  obtain ⟨X0, B0⟩ := edt_box w e
  have L0 := hL.below B0
  simp only [edOrder, List.mem_cons, List.not_mem_nil, or_false] at hc
  rcases hc with rfl | rfl | rfl | rfl | rfl | rfl | rfl | rfl | rfl | rfl
  · have hb := betE (show betweenS e.at_ 0 60 = 0 from h)
    have kc := Lib.hid (itoa_any e.at_ (by omega) (by omega) (w.alloc (.cells e.arr 26)) L0)
    have HE := Lib.hid (show writeF e 97 = Lib.itoa e.at_ from rfl)
    generalize writeF e 97 = out at HE ⊢
    go_enter Tryz.func40, Tryz.ntmps40
    go_upto_region 1 with (fail)
    generalize w.alloc _ = W at X0 B0 kc ⊢
    generalize w.heap.size = g at X0 ⊢
    have k := X0.cell
    go_wp2_with (go_at_call 91; (with_reducible refine callR kc.out ?_); intro w1 b1 _ _ _)
    go_ret
    exact Ret.str (by rw [HE.out]) (below_step B0 b1)
  · go_enter Tryz.func40, Tryz.ntmps40
    go_upto_region 1 with (fail)
    generalize w.alloc _ = W at X0 B0 ⊢
    generalize w.heap.size = g at X0 ⊢
    have k := X0.cell
    go_wp2
    go_ret
    exact Ret.str rfl B0
  · go_enter Tryz.func40, Tryz.ntmps40
    go_upto_region 1 with (fail)
    generalize w.alloc _ = W at X0 B0 ⊢
    generalize w.heap.size = g at X0 ⊢
    have k := X0.cell
    go_wp2
    go_ret
    exact Ret.str rfl B0
  · have kc := Lib.hid (edash_any e.rway)
    have HE := Lib.hid (show writeF e 119 = dashB e.rway from rfl)
    generalize writeF e 119 = out at HE ⊢
    generalize dashB e.rway = d at kc HE
    go_enter Tryz.func40, Tryz.ntmps40
    go_upto_region 1 with (fail)
    generalize w.alloc _ = W at X0 B0 ⊢
    generalize w.heap.size = g at X0 ⊢
    have k := X0.cell
    go_wp2_with (go_at_call 92; (with_reducible refine callP (kc.out _) ?_))
    go_ret
    exact Ret.str (by rw [HE.out]) B0
  · have kc := Lib.hid (edash_any e.trans)
    have HE := Lib.hid (show writeF e 116 = dashB e.trans from rfl)
    generalize writeF e 116 = out at HE ⊢
    generalize dashB e.trans = d at kc HE
    go_enter Tryz.func40, Tryz.ntmps40
    go_upto_region 1 with (fail)
    generalize w.alloc _ = W at X0 B0 ⊢
    generalize w.heap.size = g at X0 ⊢
    have k := X0.cell
    go_wp2_with (go_at_call 92; (with_reducible refine callP (kc.out _) ?_))
    go_ret
    exact Ret.str (by rw [HE.out]) B0
  · have kc := Lib.hid (winText_in e.lo e.hi (w.alloc (.cells e.arr 26)) L0 (win_okE h))
    have HE := Lib.hid (show writeF e 104 = winS e.lo e.hi by show (winT e.lo e.hi).1 = _; rw [winT_in (win_okE h)])
    generalize writeF e 104 = out at HE ⊢
    generalize winS e.lo e.hi = d at kc HE
    go_enter Tryz.func40, Tryz.ntmps40
    go_upto_region 1 with (fail)
    generalize w.alloc _ = W at X0 B0 kc ⊢
    generalize w.heap.size = g at X0 ⊢
    have k := X0.cell
    have i1 : Has_win W g 6 := ⟨_, X0.edt_win⟩
    have i2 : of_win W g 6 = ⟨e.lo, e.hi⟩ := of_win_eq X0.edt_win
    go_wp2_with (go_at_call 93; (with_reducible refine callR kc.out ?_); intro w1 b1 _ _ _)
    go_ret
    exact Ret.str (by rw [HE.out]) (below_step B0 b1)
  · have hb := betE (show betweenS e.speed 0 1000 = 0 from h)
    have kc := Lib.hid (fmt_any e.speed (by omega) (by omega) (w.alloc (.cells e.arr 26)) L0)
    have HE := Lib.hid (show writeF e 115 = Lib.itoa e.speed from rfl)
    generalize writeF e 115 = out at HE ⊢
    go_enter Tryz.func40, Tryz.ntmps40
    go_upto_region 1 with (fail)
    generalize w.alloc _ = W at X0 B0 kc ⊢
    generalize w.heap.size = g at X0 ⊢
    have k := X0.cell
    go_wp2_with (go_at_call 94; (with_reducible refine callR kc.out ?_); intro w1 b1 _ _ _)
    go_ret
    exact Ret.str (by rw [HE.out]) (below_step B0 b1)
  · have hb := betE (show betweenS e.course 0 129599999 = 0 from h)
    have kc := Lib.hid (exact_any e.course (w.alloc (.cells e.arr 26)) (by omega) (by omega))
    have HE := Lib.hid (show writeF e 99 = exactS e.course.toNat from rfl)
    generalize writeF e 99 = out at HE ⊢
    generalize exactS e.course.toNat = d at kc HE
    go_enter Tryz.func40, Tryz.ntmps40
    go_upto_region 1 with (fail)
    generalize w.alloc _ = W at X0 B0 kc ⊢
    generalize w.heap.size = g at X0 ⊢
    have k := X0.cell
    go_wp2_with (go_at_call 95; (with_reducible refine callR kc.out ?_); intro w1 b1 _ _ _)
    go_ret
    exact Ret.str (by rw [HE.out]) (below_step B0 b1)
  · have kc := Lib.hid (distText_any e.dist (w.alloc (.cells e.arr 26)) L0)
    have HE := Lib.hid (show writeF e 100 = (distT e.dist).1 from rfl)
    generalize writeF e 100 = out at HE ⊢
    generalize distT e.dist = d at kc HE
    obtain ⟨d1, d2⟩ := d
    go_enter Tryz.func40, Tryz.ntmps40
    go_upto_region 1 with (fail)
    generalize w.alloc _ = W at X0 B0 kc ⊢
    generalize w.heap.size = g at X0 ⊢
    have k := X0.cell
    go_wp2_with (go_at_call 96; (with_reducible refine callR kc.out ?_); intro w1 b1 _ _ _)
    go_ret
    exact Ret.str (by rw [HE.out]) (below_step B0 b1)
  · have HE := Lib.hid (show writeF e 117 = if e.turn = 1 then [76] else [82] from rfl)
    generalize writeF e 117 = out at HE ⊢
    by_cases h1 : e.turn = 1
    · have HO := Lib.hid (HE.out.trans (if_pos h1))
      clear HE
      go_enter Tryz.func40, Tryz.ntmps40
      go_upto_region 1 with (fail)
      generalize w.alloc _ = W at X0 B0 ⊢
      generalize w.heap.size = g at X0 ⊢
      have k := X0.cell
      go_wp2
      go_ret
      exact Ret.str (by rw [HO.out]) B0
    · have HO := Lib.hid (HE.out.trans (if_neg h1))
      clear HE
      go_enter Tryz.func40, Tryz.ntmps40
      go_upto_region 1 with (fail)
      generalize w.alloc _ = W at X0 B0 ⊢
      generalize w.heap.size = g at X0 ⊢
      have k := X0.cell
      go_wp2
      go_ret
      exact Ret.str (by rw [HO.out]) B0
end Go.Proofs.YtnmpfmelaninbaaGreatDoor
namespace Go.Proofs.YtnmpfmelaninbaaGreatDoor
open Go.RowKit Go.Sort
set_option linter.unusedVariables false
set_option linter.unusedSimpArgs false
set_option maxRecDepth 100000
theorem tailT_app (e : EditV) : ∀ (a b : List UInt8), tailT e (a ++ b) = tailT e a ++ tailT e b
  | [], b => rfl
  | c :: r, b => by
      show 32 :: (writeF e c ++ tailT e (r ++ b)) = (32 :: (writeF e c ++ tailT e r)) ++ tailT e b
      rw [tailT_app e r b]; simp
theorem tailT_take (e : EditV) (fs : List UInt8) (k : Nat) (h : k < fs.length) : tailT e (fs.take (k + 1)) = tailT e (fs.take k) ++ (32 :: writeF e fs[k]) := by
  rw [List.take_succ_eq_append_getElem h, tailT_app]
  show _ ++ (32 :: (writeF e fs[k] ++ [])) = _
  rw [List.append_nil]
/-- A valid edit's words are short. -/
theorem write_len {e : EditV} (hs : e.small) {c : UInt8} (hc : c ∈ edOrder) (h : checkF e c = 0) : (writeF e c).length ≤ 4000000000 := by
  obtain ⟨s1, s2, s3, s4⟩ := hs
  have hd : ∀ l : List UInt8, l.length ≤ 4000000000 → (dashB l).length ≤ 4000000000 := fun l hl => by
    unfold dashB; split
    · decide
    · exact hl
  simp only [edOrder, List.mem_cons, List.not_mem_nil, or_false] at hc
  rcases hc with rfl | rfl | rfl | rfl | rfl | rfl | rfl | rfl | rfl | rfl
  · have hb := betE (show betweenS e.at_ 0 60 = 0 from h)
    have := itoa_len e.at_ (by omega) (by omega)
    show (Lib.itoa e.at_).length ≤ _; omega
  · exact s1
  · exact s2
  · exact hd _ s3
  · exact hd _ s4
  · show (winT e.lo e.hi).1.length ≤ _
    rw [winT_in (win_okE h)]
    have := winS_len (win_okE h)
    show (winS e.lo e.hi).length ≤ _; omega
  · have hb := betE (show betweenS e.speed 0 1000 = 0 from h)
    have := itoa_len e.speed (by omega) (by omega)
    show (Lib.itoa e.speed).length ≤ _; omega
  · show (exactS e.course.toNat).length ≤ _
    rw [exactS_len]; omega
  · show (distT e.dist).1.length ≤ _
    rw [distT_in (dist_okE h)]
    have := distS_len (d := e.dist.toNat) (by have := dist_okE h; omega)
    show (distS _).length ≤ _; omega
  · show (if e.turn = 1 then [76] else [82] : List UInt8).length ≤ _
    split <;> decide
theorem tail_len {e : EditV} : ∀ (fs : List UInt8), (∀ c ∈ fs, (writeF e c).length ≤ 4000000000) → (tailT e fs).length ≤ fs.length * 4000000001
  | [], _ => by simp [tailT]
  | c :: r, h => by
      have h1 := h c (by simp)
      have h2 := tail_len r fun d hd => h d (by simp [hd])
      show (32 :: (writeF e c ++ tailT e r)).length ≤ _
      simp only [List.length_cons, List.length_append]
      omega
theorem form_len {op : Int} (h : 1 ≤ op ∧ op ≤ 12) : (formW op).length ≤ 9 ∧ (formF op).length ≤ 4 := by
  obtain ⟨k, rfl⟩ : ∃ k : Nat, op = k := ⟨op.toNat, by omega⟩
  have : k = 1 ∨ k = 2 ∨ k = 3 ∨ k = 4 ∨ k = 5 ∨ k = 6 ∨ k = 7 ∨ k = 8 ∨ k = 9 ∨ k = 10 ∨ k = 11 ∨ k = 12 := by omega
  rcases this with rfl | rfl | rfl | rfl | rfl | rfl | rfl | rfl | rfl | rfl | rfl | rfl <;> decide
attribute [local go_sem] ba_append
set_option maxHeartbeats 4000000 in
theorem editText_any (e : EditV) (hs : e.small) (w : World) (hL : Laid w) (hF : FormsAt w) : Calls Tryz.prog 15 #[.agg e.arr] w (Ret w (.string ⟨(editText e).toArray⟩)) := by
  obtain ⟨X0, B0⟩ := edt_box w e
  have L0 := hL.below B0
  have F0 := hF.below B0
  have kc := Lib.hid (editCheck_any e hs (w.alloc (.cells e.arr 26)) L0 F0)
  go_enter Tryz.func15, Tryz.ntmps15
  go_upto_region 1 with (fail)
  generalize w.alloc _ = W at X0 B0 kc L0 F0 ⊢
  obtain ⟨g, hg⟩ : ∃ g, g = w.heap.size := ⟨_, rfl⟩
  rw [← hg] at X0 ⊢
  clear hg
  have i1 : Has_edt W g 0 := ⟨_, X0.is_edt⟩
  have i2 : of_edt W g 0 = e := of_edt_eq X0.is_edt
  by_cases hk : editCheck e = 0
  · have HT := Lib.hid (text_of hk)
    obtain ⟨ho, _⟩ := edit_ok hk
    have hu := Lib.hid (used_check hk)
    have hin := Lib.hid (formF_in ho).1
    obtain ⟨hl1, hl2⟩ := form_len ho
    have hwl := Lib.hid (fun c hc => write_len hs ((formF_in ho).1 c hc) (used_check hk c hc))
    have hLB := Lib.hid (fun w' (h : Below W.heap.size W w') => L0.below h)
    have hXB := Lib.hid (fun w' (h : Below W.heap.size W w') => X0.step h)
    rw [hk] at kc
    obtain ⟨n, hn⟩ : ∃ n : Nat, e.op = n := ⟨e.op.toNat, by omega⟩
    have hn12 : n ≤ 12 := by omega
    have hFB := Lib.hid (fun w' (h : Below W.heap.size W w') => F0.below h)
    go_upto_region 3 with (go_at_call 13; (with_reducible refine callR kc.out ?_); intro w1 b1 _ _ _)
    have hXr := hXB.out w1 b1
    have B1 := below_step B0 b1
    have F1 := hFB.out w1 b1
    have f0 := F1.word n hn12
    have f1 := F1.flds n hn12
    have L1 := hLB.out w1 b1
    have k0 := hXr.cell
    clear i1 i2 X0 B0 L0 F0 hFB hXB hLB b1 kc
    rw [hn] at HT hu hin hl1 hl2 hwl
    generalize formW (n : Int) = wd at *
    generalize formF (n : Int) = fs at *
    have cv := Lib.run_convert_string_bytes (P := Tryz.prog) w1 9 89 5 ⟨fs.toArray⟩ Tryz.underlying9 Tryz.underlying89 Tryz.underlying5
    have cb := Lib.bytesWorld_below w1 5 ⟨fs.toArray⟩
    have cc := Lib.hid (fun j hj => Lib.bytesWorld_cell w1 5 ⟨fs.toArray⟩ j hj)
    have cz := Lib.bytesWorld_size w1 5 ⟨fs.toArray⟩
    generalize hW1 : Lib.bytesWorld w1 5 ⟨fs.toArray⟩ = W2 at cv cb cc cz
    clear hW1
    go_wp2
    clear cv k0 f0 f1
    have hX2 := hXr.step cb
    have B2 := below_step B1 cb
    have L2 := L1.below cb
    have HXB := Lib.hid (fun w' (h : Below W2.heap.size W2 w') => hX2.step h)
    have HBB := Lib.hid (fun w' (h : Below W2.heap.size W2 w') => below_step B2 h)
    have HLB := Lib.hid (fun w' (h : Below W2.heap.size W2 w') => L2.below h)
    have hgb : w1.heap.size < W2.heap.size := by omega
    clear hXr B1 F1 L1 hX2 B2 L2 cb cz
    generalize w1.heap.size = gb at *
    go_loopw [3, 21] (fun o i wr => ∃ k : Nat, k ≤ fs.length ∧ i = .int .i64 k ∧ o = .string ⟨(wd ++ tailT e (fs.take k)).toArray⟩ ∧ Below W2.heap.size W2 wr) (fun _ i _ => fs.length - (intOf i).toNat)
    case atStart => exact ⟨0, by omega, rfl, by simp [tailT], Below.refl _ _⟩
    case round =>
      obtain ⟨k, hk2, rfl, rfl, BW⟩ := hrel
      by_cases hlt : k < fs.length
      · have hcb := cc.out k (by simp [ByteArray.size]; omega)
        have hgd : fs.getD k 0 = fs[k] := by simp [List.getD, hlt]
        rw [hgd, ← BW.cell (p := ⟨gb, k, none⟩) hgb] at hcb
        have hcm := List.getElem_mem hlt
        have HT2 := Lib.hid (tailT_take e fs k hlt)
        have htl : (tailT e (fs.take k)).length ≤ 20000000000 :=
          Nat.le_trans (tail_len (e := e) (fs.take k) (fun c hc => hwl.out c (List.mem_of_mem_take hc))) (Nat.le_trans (Nat.mul_le_mul_right _ (show (fs.take k).length ≤ 4 by rw [List.length_take]; omega)) (by decide))
        generalize tailT e (fs.take k) = O at htl HT2 ⊢
        generalize fs[k] = c at hcb hcm HT2
        have hVl := hwl.out c hcm
        have kw := Lib.hid (ewrite_any e c (hin.out c hcm) (hu.out c hcm) wr (HLB.out _ BW))
        generalize writeF e c = V at hVl kw HT2
        have i1 : Has_edt wr g 0 := ⟨_, (HXB.out _ BW).is_edt⟩
        have i2 : of_edt wr g 0 = e := of_edt_eq (HXB.out _ BW).is_edt
        have n1 : ¬ 9223372036854775807 < ((V.length + 1 : Nat) : Int) := by omega
        have n2 : ¬ 9223372036854775807 < ((wd.length + O.length + (V.length + 1) : Nat) : Int) := by omega
        have n3 : ¬ 9223372036854775807 < ((wd.length + (O.length + (V.length + 1)) : Nat) : Int) := by omega
        clear hcm
        go_wp2_with (go_at_call 40; (with_reducible refine callR kw.out ?_); intro w2 b2 _ _ _)
        go_roundw
        case rel => exact ⟨k + 1, by omega, by go_num, by first | (rw [HT2.out]; done) | (rw [HT2.out]; simp), BW.trans (b2.mono BW.size)⟩
        case measure => simp [intOf]; omega
      · have HR := Lib.hid (show editText e = wd ++ tailT e (fs.take k) by rw [List.take_of_length_le (by omega)]; exact HT.out)
        generalize tailT e (fs.take k) = O at HR ⊢
        go_wp2
        go_ret
        exact Ret.str (by rw [HR.out]) (HBB.out _ BW)
  · have HO := Lib.hid (show editText e = [] by unfold editText; rw [if_pos (by simpa using hk)])
    generalize editCheck e = z at *
    go_wp2_with (go_at_call 13; (with_reducible refine callR kc.out ?_); intro w1 b1 _ _ _)
    go_ret
    exact Ret.str (by rw [HO.out]) (below_step B0 b1)
end Go.Proofs.YtnmpfmelaninbaaGreatDoor
namespace Go.Proofs.YtnmpfmelaninbaaGreatDoor
open Go.RowKit Go.Sort
set_option linter.unusedVariables false
set_option linter.unusedSimpArgs false
set_option maxRecDepth 100000
theorem atoiP_any (l : List UInt8) (w : World) (hl : l.length ≤ 4000000000) (hR : ErrsAt w) : Calls Tryz.prog 102 #[.string ⟨l.toArray⟩] w (RetNum w (atoiP l)) := by
  unfold atoiP
  cases hp : Lib.atoiAll l with
  | ok v =>
    refine (Tryz.strconv_Atoi_ok ⟨l.toArray⟩ (by simp [ByteArray.size]; omega) v (by simpa using hp) w).mono fun e w' ⟨h1, h2⟩ => ⟨⟨_, h1⟩, ?_⟩
    rcases h2 with rfl | ⟨t, rfl⟩
    · exact Below.refl _ _
    · exact Lib.bytesWorld_below _ _ _
  | range =>
    obtain ⟨ev, h1, h2⟩ := hR.range
    exact (Tryz.strconv_Atoi_range ⟨l.toArray⟩ (by simp [ByteArray.size]; omega) (by simpa using hp) ev w h1 h2).mono fun e w' ⟨N, h3, _, _, h4⟩ => ⟨⟨_, by simpa using h3⟩, h4⟩
  | _ =>
    obtain ⟨ev, h1, h2⟩ := hR.form
    exact (Tryz.strconv_Atoi_syntax ⟨l.toArray⟩ (by simp [ByteArray.size]; omega) (by simpa using hp) ev w h1 h2).mono fun e w' ⟨N, h3, _, _, h4⟩ => ⟨⟨_, h3⟩, h4⟩
/-- The call writes block g alone; it holds x now. -/
def RetRd (W : World) (g : Nat) (x : EditV) (e : Ending) (W' : World) : Prop := e = .returned (.tuple #[]) ∧ Touch [g] W W' ∧ Blk W' g x.arr
theorem touch_setRowE {g : Nat} (w : World) (cs : Array Value) : Touch [g] w (w.setRow g cs) :=
  ⟨rfl, rfl, rfl, by simp [World.setRow], fun k _ hn => setRow_other w g k _ (fun e => hn (by simp [e]))⟩
theorem splice_edtW (x : EditV) (a b : Int) : splice x.arr 6 (Win.arr ⟨a, b⟩) = ({ x with lo := a, hi := b } : EditV).arr := rfl
theorem readF_small {x : EditV} {c : UInt8} {s : List UInt8} (h : x.small) (hs : s.length ≤ 4000000000) : (readF x c s).small := by
  obtain ⟨h1, h2, h3, h4⟩ := h
  unfold readF
  split
  · exact ⟨h1, h2, h3, h4⟩
  split
  · exact ⟨hs, h2, h3, h4⟩
  split
  · exact ⟨h1, hs, h3, h4⟩
  split
  · split
    · exact ⟨h1, h2, h3, h4⟩
    · exact ⟨h1, h2, hs, h4⟩
  split
  · split
    · exact ⟨h1, h2, h3, h4⟩
    · exact ⟨h1, h2, h3, hs⟩
  split
  · exact ⟨h1, h2, h3, h4⟩
  split
  · exact ⟨h1, h2, h3, h4⟩
  split
  · exact ⟨h1, h2, h3, h4⟩
  split
  · exact ⟨h1, h2, h3, h4⟩
  · exact ⟨h1, h2, h3, h4⟩
set_option maxHeartbeats 4000000 in
theorem eread_any (x : EditV) (c : UInt8) (hc : c ∈ edOrder) (s : List UInt8) (g : Nat) (W : World) (hL : Laid W) (hR : ErrsAt W) (hX : Blk W g x.arr) (hs : s.length ≤ 4000000000) :
    Calls Tryz.prog 48 #[.pointer (some ⟨g, 0, none⟩), .int .u8 (c.toNat : Int), .string ⟨s.toArray⟩] W (RetRd W g (readF x c s)) := by
  have c0 := hX.cell
  have f0 := hX.frozen
  simp only [edOrder, List.mem_cons, List.not_mem_nil, or_false] at hc
  rcases hc with rfl | rfl | rfl | rfl | rfl | rfl | rfl | rfl | rfl | rfl
  · have kc := Lib.hid (atoiP_any s W hs hR)
    have HE := Lib.hid (show readF x 97 s = { x with at_ := atoiP s } from rfl)
    generalize atoiP s = n at kc HE
    go_enter Tryz.func48, Tryz.ntmps48
    go_wp2_with (go_at_call 102; (with_reducible refine callNum kc.out ?_); intro ev w1 b1; clear c0 f0; have X1 := hX.step b1; have c1 := X1.cell; have f1 := X1.frozen)
    go_end0
    exact ⟨rfl, (Touch.of b1).trans (Touch.setCell _ _ (by simp) 1 _), by rw [HE.out]; exact X1.setCell 1 _⟩
  · go_enter Tryz.func48, Tryz.ntmps48
    go_wp2
    go_end0
    exact ⟨rfl, Touch.setCell _ _ (by simp) 2 _, hX.setCell 2 _⟩
  · go_enter Tryz.func48, Tryz.ntmps48
    go_wp2
    go_end0
    exact ⟨rfl, Touch.setCell _ _ (by simp) 3 _, hX.setCell 3 _⟩
  · by_cases hd : s = [45]
    · subst hd
      go_enter Tryz.func48, Tryz.ntmps48
      go_wp2
      go_end0
      exact ⟨rfl, Touch.refl _ _, hX⟩
    · have HE := Lib.hid (show readF x 119 s = { x with rway := s } from if_neg hd)
      have h0 : (s == [45]) = false := by simpa using hd
      clear hd
      go_enter Tryz.func48, Tryz.ntmps48
      go_wp2
      go_end0
      exact ⟨rfl, Touch.setCell _ _ (by simp) 4 _, by rw [HE.out]; exact hX.setCell 4 _⟩
  · by_cases hd : s = [45]
    · subst hd
      go_enter Tryz.func48, Tryz.ntmps48
      go_wp2
      go_end0
      exact ⟨rfl, Touch.refl _ _, hX⟩
    · have HE := Lib.hid (show readF x 116 s = { x with trans := s } from if_neg hd)
      have h0 : (s == [45]) = false := by simpa using hd
      clear hd
      go_enter Tryz.func48, Tryz.ntmps48
      go_wp2
      go_end0
      exact ⟨rfl, Touch.setCell _ _ (by simp) 5 _, by rw [HE.out]; exact hX.setCell 5 _⟩
  · have kc := Lib.hid (parseWindow_any s W hL hs)
    have HE := Lib.hid (show readF x 104 s = { x with lo := (parseWinS s).1.1, hi := (parseWinS s).1.2 } from rfl)
    generalize parseWinS s = q at kc HE
    obtain ⟨⟨a, b⟩, m⟩ := q
    go_enter Tryz.func48, Tryz.ntmps48
    go_wp2_with (go_at_call 103; (with_reducible refine callR kc.out ?_); intro w1 b1 _ _ _; clear c0 f0; have X1 := hX.step b1; have d2 := X1.plain; have d3 := X1.of; have d4 := splice_edtW x a b)
    go_end0
    exact ⟨rfl, (Touch.of b1).trans (touch_setRowE _ _), by rw [HE.out]; exact X1.set _⟩
  · have kc := Lib.hid (parseIntP_any s W hs hR)
    have HE := Lib.hid (show readF x 115 s = { x with speed := numP s } from rfl)
    generalize numP s = n at kc HE
    go_enter Tryz.func48, Tryz.ntmps48
    go_wp2_with (go_at_call 104; (with_reducible refine callNum kc.out ?_); intro ev w1 b1; clear c0 f0; have X1 := hX.step b1; have c1 := X1.cell; have f1 := X1.frozen)
    go_end0
    exact ⟨rfl, (Touch.of b1).trans (Touch.setCell _ _ (by simp) 8 _), by rw [HE.out]; exact X1.setCell 8 _⟩
  · have kc := Lib.hid (parseExact_any s W (by omega))
    have HE := Lib.hid (show readF x 99 s = { x with course := (parseExS s).1 } from rfl)
    generalize parseExS s = q at kc HE
    obtain ⟨n, m⟩ := q
    go_enter Tryz.func48, Tryz.ntmps48
    go_wp2_with (go_at_call 105; (with_reducible refine callP kc.out ?_))
    go_end0
    exact ⟨rfl, Touch.setCell _ _ (by simp) 9 _, by rw [HE.out]; exact hX.setCell 9 _⟩
  · have kc := Lib.hid (parseDist_any s W hL hs)
    have HE := Lib.hid (show readF x 100 s = { x with dist := (distP s).1 } from rfl)
    generalize distP s = q at kc HE
    obtain ⟨n, m⟩ := q
    go_enter Tryz.func48, Tryz.ntmps48
    go_wp2_with (go_at_call 106; (with_reducible refine callR kc.out ?_); intro w1 b1 _ _ _; clear c0 f0; have X1 := hX.step b1; have c1 := X1.cell; have f1 := X1.frozen)
    go_end0
    exact ⟨rfl, (Touch.of b1).trans (Touch.setCell _ _ (by simp) 10 _), by rw [HE.out]; exact X1.setCell 10 _⟩
  · by_cases hd : s = [76]
    · subst hd
      go_enter Tryz.func48, Tryz.ntmps48
      go_wp2
      go_end0
      exact ⟨rfl, (Touch.setCell _ W (by simp) 11 _).trans (Touch.setCell _ _ (by simp) 11 _), (hX.setCell 11 _).setCell 11 _⟩
    · have HE := Lib.hid (show readF x 117 s = { x with turn := 2 } by show ({ x with turn := if s = [76] then 1 else 2 } : EditV) = _; rw [if_neg hd])
      have h0 : (s == [76]) = false := by simpa using hd
      clear hd
      go_enter Tryz.func48, Tryz.ntmps48
      go_wp2
      go_end0
      exact ⟨rfl, Touch.setCell _ _ (by simp) 11 _, by rw [HE.out]; exact hX.setCell 11 _⟩
end Go.Proofs.YtnmpfmelaninbaaGreatDoor
namespace Go.Proofs.YtnmpfmelaninbaaGreatDoor
open Go.RowKit Go.Sort
set_option linter.unusedVariables false
set_option linter.unusedSimpArgs false
set_option maxRecDepth 100000
theorem splitC_len (c : UInt8) (l : List UInt8) : (splitC c l).length = l.count c + 1 := by
  induction l with
  | nil => rfl
  | cons x r ih =>
    by_cases hx : x = c
    · simp [splitC, hx, ih]
    · rw [List.count_cons_of_ne hx]
      unfold splitC
      rw [if_neg hx]
      have h1 := splitC_ne c r
      match h : splitC c r with
      | [] => exact absurd h h1
      | a :: q => rw [h] at ih; simpa using ih
theorem splitK_splitC (c : UInt8) : ∀ (k : Nat) (l : List UInt8), l.count c ≤ k → Lib.splitK [c] 0 k l = splitC c l
  | 0, l, h => by
    rw [Lib.splitK, splitC_cut]
    have h1 := count_cutAt c l
    cases hf : (cutAt c l).2.2
    · simp
    · rw [hf] at h1; simp at h1; omega
  | k + 1, l, h => by
    rw [Lib.splitK, splitC_cut]
    have h1 := count_cutAt c l
    cases hf : (cutAt c l).2.2
    · rw [if_pos (by rw [index_cutAt, hf]; rfl)]; simp
    · rw [if_neg (by rw [index_cutAt, hf]; first | (simp; done) | (simp; omega)), (drop_cutAt c l hf).1, (drop_cutAt c l hf).2]
      rw [hf] at h1
      simp only [if_true] at h1 ⊢
      rw [splitK_splitC c k _ (by omega)]
theorem splitK_cutN : ∀ (k : Nat) (l : List UInt8), Lib.splitK [32] 0 k l = cutN k l
  | 0, l => rfl
  | k + 1, l => by
    rw [Lib.splitK, cutN]
    cases hf : (cutAt 32 l).2.2
    · rw [if_pos (by rw [index_cutAt, hf]; rfl)]; simp
    · rw [if_neg (by rw [index_cutAt, hf]; first | (simp; done) | (simp; omega)), (drop_cutAt 32 l hf).1, (drop_cutAt 32 l hf).2, splitK_cutN k]
      simp
/-- Cutting at more blanks than there are bytes changes nothing. -/
theorem cutN_more : ∀ (k j : Nat) (l : List UInt8), l.length ≤ k → cutN (k + j) l = cutN k l
  | 0, j, l, h => by
    have : l = [] := List.eq_nil_of_length_eq_zero (by omega)
    subst this
    cases j with
    | zero => rfl
    | succ j => simp [cutN, cutAt]
  | k + 1, j, l, h => by
    rw [show k + 1 + j = (k + j) + 1 by omega, cutN, cutN]
    cases hf : (cutAt 32 l).2.2
    · simp
    · have := cutAt_lt 32 l hf
      simp only [if_true]
      rw [cutN_more k j _ (by omega)]
theorem cutN_min (k : Nat) (l : List UInt8) : cutN (min (k + 1) (l.length + 1) - 1) l = cutN k l := by
  by_cases h : k ≤ l.length
  · rw [show min (k + 1) (l.length + 1) - 1 = k by omega]
  · rw [show min (k + 1) (l.length + 1) - 1 = l.length by omega]
    obtain ⟨j, rfl⟩ : ∃ j, k = l.length + j := ⟨k - l.length, by omega⟩
    rw [cutN_more l.length j l (Nat.le_refl _)]
theorem splitB_strs (c : UInt8) (k : Nat) (l : List UInt8) : (Lib.splitB ⟨#[c]⟩ 0 k ⟨l.toArray⟩).map Value.string = (Lib.splitK [c] 0 k l).map fun q => Value.string ⟨q.toArray⟩ := by
  have h := Lib.splitB_data ⟨#[c]⟩ 0 k ⟨l.toArray⟩
  rw [← show _ = Lib.splitK [c] 0 k l from h, List.map_map]
  rfl
theorem splitB_len (c : UInt8) (k : Nat) (l : List UInt8) : (Lib.splitB ⟨#[c]⟩ 0 k ⟨l.toArray⟩).length = (Lib.splitK [c] 0 k l).length := by
  have := congrArg List.length (splitB_strs c k l)
  simpa using this
theorem countB_c (c : UInt8) (l : List UInt8) : Lib.countB ⟨l.toArray⟩ ⟨#[c]⟩ = l.count c := by
  have hc : Lib.countB ⟨l.toArray⟩ ⟨#[c]⟩ = Lib.count l [c] := by rfl
  rw [hc, Lib.count, countFrom_cutAt c _ l (by omega)]
def strCellsC (ws : List (List UInt8)) : Array Value := (ws.map fun q => Value.string ⟨q.toArray⟩).toArray
theorem splitC_any (c : UInt8) (l : List UInt8) (w : World) (hL : Laid w) (hl : l.length ≤ 4000000000) : Calls Tryz.prog 47 #[.string ⟨l.toArray⟩, .string ⟨#[c]⟩] w fun e w' =>
    e = .returned (.slice (some ⟨w.heap.size, 0, none⟩) (splitC c l).length (splitC c l).length) ∧ w' = w.alloc (.cells (strCellsC (splitC c l)) 9) := by
  obtain ⟨m, hm⟩ := hL.maxLen
  have h := Tryz.strings_Split ⟨l.toArray⟩ ⟨#[c]⟩ m w (by simp [ByteArray.size]; omega) hm (Nat.le_refl 1)
  rw [splitB_strs, countB_c, splitK_splitC c _ l (Nat.le_refl _), ← splitC_len] at h
  exact h
theorem splitC_strs (c : UInt8) (l : List UInt8) (w : World) (hL : Laid w) (hl : l.length ≤ 4000000000) (hc : l.length < 9000000000) : Calls Tryz.prog 47 #[.string ⟨l.toArray⟩, .string ⟨#[c]⟩] w (RetStrs w (splitC c l)) := by
  refine (splitC_any c l w hL hl).mono ?_
  rintro e w' ⟨rfl, rfl⟩
  refine ⟨_, rfl, ?_, (Below.refl _ _).alloc (Nat.le_refl _) _⟩
  have hlen : (splitC c l).length ≤ l.length + 1 := by rw [splitC_len]; have := List.count_le_length (a := c) (l := l); omega
  exact World.ownsRow_lit (e := 9) (base := w.heap.size) (size := 1) w (strCellsC (splitC c l)) (splitC c l).length (Nat.le_refl _) (by unfold maxLen; omega) (by simp [strCellsC])
end Go.Proofs.YtnmpfmelaninbaaGreatDoor
