/- edit.write, edit.dash, edit.Text; walks. edit.Text; walk. strconv.ParseInt of every string, its error left aside. -/
import Derived.Test.YtlleijickhifmaaGreatDoorPk42
import Derived.Test.YtlleijickhifmaaGreatDoorPk07
import Derived.Test.YtlleijickhifmaaGreatDoorPk38
import Derived.Test.YtlleijickhifmaaGreatDoorPk17
import Derived.Test.YtlleijickhifmaaGreatDoorPk16
import Derived.Lib.ConvBytes
namespace Go.Proofs.YtlleijickhifmaaGreatDoor
open Go.RowKit Go.Sort
set_option linter.unusedVariables false
set_option linter.unusedSimpArgs false
set_option maxRecDepth 100000
theorem edash_any (l : List UInt8) (w : World) : Calls Tryz.prog 66 #[.string ⟨l.toArray⟩] w (RetP w (.string ⟨(dashB l).toArray⟩)) := by
  cases l with
  | nil =>
    go_enter Tryz.func66, Tryz.ntmps66
    go_wp2
    go_ret
    exact ⟨rfl, rfl⟩
  | cons c r =>
    have h : ¬ (c :: r = ([] : List UInt8)) := by simp
    go_enter Tryz.func66, Tryz.ntmps66
    go_wp2
    go_ret
    exact ⟨rfl, rfl⟩
set_option maxHeartbeats 4000000 in
theorem ewrite_any (e : EditV) (c : UInt8) (hc : c ∈ edOrder) (h : checkF e c = 0) (w : World) (hL : Laid w) : Calls Tryz.prog 37 #[.agg e.arr, .int .u8 (c.toNat : Int)] w (Ret w (.string ⟨(writeF e c).toArray⟩)) := by
  obtain ⟨X0, B0⟩ := edt_box w e
  have L0 := hL.below B0
  simp only [edOrder, List.mem_cons, List.not_mem_nil, or_false] at hc
  rcases hc with rfl | rfl | rfl | rfl | rfl | rfl | rfl | rfl | rfl | rfl
  · have hb := betE (show betweenS e.at_ 0 60 = 0 from h)
    have kc := Lib.hid (itoa_any e.at_ (by omega) (by omega) (w.alloc (.cells e.arr 53)) L0)
    have HE := Lib.hid (show writeF e 97 = Lib.itoa e.at_ from rfl)
    generalize writeF e 97 = out at HE ⊢
    go_enter Tryz.func37, Tryz.ntmps37
    go_upto_region 1 with (fail)
    generalize w.alloc _ = W at X0 B0 kc ⊢
    generalize w.heap.size = g at X0 ⊢
    have k := X0.cell
    go_wp2_with (go_at_call 23; (with_reducible refine callR kc.out ?_); intro w1 b1 _ _ _)
    go_ret
    exact Ret.str (by rw [HE.out]) (below_step B0 b1)
  · go_enter Tryz.func37, Tryz.ntmps37
    go_upto_region 1 with (fail)
    generalize w.alloc _ = W at X0 B0 ⊢
    generalize w.heap.size = g at X0 ⊢
    have k := X0.cell
    go_wp2
    go_ret
    exact Ret.str rfl B0
  · go_enter Tryz.func37, Tryz.ntmps37
    go_upto_region 1 with (fail)
    generalize w.alloc _ = W at X0 B0 ⊢
    generalize w.heap.size = g at X0 ⊢
    have k := X0.cell
    go_wp2
    go_ret
    exact Ret.str rfl B0
  · have kc := Lib.hid (edash_any e.rway)
    have HE := Lib.hid (show writeF e 119 = dashB e.rway from rfl)
    generalize writeF e 119 = out at HE ⊢
    generalize dashB e.rway = d at kc HE
    go_enter Tryz.func37, Tryz.ntmps37
    go_upto_region 1 with (fail)
    generalize w.alloc _ = W at X0 B0 ⊢
    generalize w.heap.size = g at X0 ⊢
    have k := X0.cell
    go_wp2_with (go_at_call 66; (with_reducible refine callP (kc.out _) ?_))
    go_ret
    exact Ret.str (by rw [HE.out]) B0
  · have kc := Lib.hid (edash_any e.trans)
    have HE := Lib.hid (show writeF e 116 = dashB e.trans from rfl)
    generalize writeF e 116 = out at HE ⊢
    generalize dashB e.trans = d at kc HE
    go_enter Tryz.func37, Tryz.ntmps37
    go_upto_region 1 with (fail)
    generalize w.alloc _ = W at X0 B0 ⊢
    generalize w.heap.size = g at X0 ⊢
    have k := X0.cell
    go_wp2_with (go_at_call 66; (with_reducible refine callP (kc.out _) ?_))
    go_ret
    exact Ret.str (by rw [HE.out]) B0
  · have kc := Lib.hid (winText_in e.lo e.hi (w.alloc (.cells e.arr 53)) L0 (win_okE h))
    have HE := Lib.hid (show writeF e 104 = winS e.lo e.hi by show (winT e.lo e.hi).1 = _; rw [winT_in (win_okE h)])
    generalize writeF e 104 = out at HE ⊢
    generalize winS e.lo e.hi = d at kc HE
    go_enter Tryz.func37, Tryz.ntmps37
    go_upto_region 1 with (fail)
    generalize w.alloc _ = W at X0 B0 kc ⊢
    generalize w.heap.size = g at X0 ⊢
    have k := X0.cell
    have i1 : Has_win W g 6 := ⟨_, X0.edt_win⟩
    have i2 : of_win W g 6 = ⟨e.lo, e.hi⟩ := of_win_eq X0.edt_win
    go_wp2_with (go_at_call 39; (with_reducible refine callR kc.out ?_); intro w1 b1 _ _ _)
    go_ret
    exact Ret.str (by rw [HE.out]) (below_step B0 b1)
  · have hb := betE (show betweenS e.speed 0 1000 = 0 from h)
    have kc := Lib.hid (fmt_any e.speed (by omega) (by omega) (w.alloc (.cells e.arr 53)) L0)
    have HE := Lib.hid (show writeF e 115 = Lib.itoa e.speed from rfl)
    generalize writeF e 115 = out at HE ⊢
    go_enter Tryz.func37, Tryz.ntmps37
    go_upto_region 1 with (fail)
    generalize w.alloc _ = W at X0 B0 kc ⊢
    generalize w.heap.size = g at X0 ⊢
    have k := X0.cell
    go_wp2_with (go_at_call 67; (with_reducible refine callR kc.out ?_); intro w1 b1 _ _ _)
    go_ret
    exact Ret.str (by rw [HE.out]) (below_step B0 b1)
  · have hb := betE (show betweenS e.course 0 129599999 = 0 from h)
    have kc := Lib.hid (exact_any e.course (w.alloc (.cells e.arr 53)) (by omega) (by omega))
    have HE := Lib.hid (show writeF e 99 = exactS e.course.toNat from rfl)
    generalize writeF e 99 = out at HE ⊢
    generalize exactS e.course.toNat = d at kc HE
    go_enter Tryz.func37, Tryz.ntmps37
    go_upto_region 1 with (fail)
    generalize w.alloc _ = W at X0 B0 kc ⊢
    generalize w.heap.size = g at X0 ⊢
    have k := X0.cell
    go_wp2_with (go_at_call 68; (with_reducible refine callR kc.out ?_); intro w1 b1 _ _ _)
    go_ret
    exact Ret.str (by rw [HE.out]) (below_step B0 b1)
  · have kc := Lib.hid (distText_any e.dist (w.alloc (.cells e.arr 53)) L0)
    have HE := Lib.hid (show writeF e 100 = (distT e.dist).1 from rfl)
    generalize writeF e 100 = out at HE ⊢
    generalize distT e.dist = d at kc HE
    obtain ⟨d1, d2⟩ := d
    go_enter Tryz.func37, Tryz.ntmps37
    go_upto_region 1 with (fail)
    generalize w.alloc _ = W at X0 B0 kc ⊢
    generalize w.heap.size = g at X0 ⊢
    have k := X0.cell
    go_wp2_with (go_at_call 41; (with_reducible refine callR kc.out ?_); intro w1 b1 _ _ _)
    go_ret
    exact Ret.str (by rw [HE.out]) (below_step B0 b1)
  · have HE := Lib.hid (show writeF e 117 = if e.turn = 1 then [76] else [82] from rfl)
    generalize writeF e 117 = out at HE ⊢
    by_cases h1 : e.turn = 1
    · have HO := Lib.hid (HE.out.trans (if_pos h1))
      clear HE
      go_enter Tryz.func37, Tryz.ntmps37
      go_upto_region 1 with (fail)
      generalize w.alloc _ = W at X0 B0 ⊢
      generalize w.heap.size = g at X0 ⊢
      have k := X0.cell
      go_wp2
      go_ret
      exact Ret.str (by rw [HO.out]) B0
    · have HO := Lib.hid (HE.out.trans (if_neg h1))
      clear HE
      go_enter Tryz.func37, Tryz.ntmps37
      go_upto_region 1 with (fail)
      generalize w.alloc _ = W at X0 B0 ⊢
      generalize w.heap.size = g at X0 ⊢
      have k := X0.cell
      go_wp2
      go_ret
      exact Ret.str (by rw [HO.out]) B0
end Go.Proofs.YtlleijickhifmaaGreatDoor
namespace Go.Proofs.YtlleijickhifmaaGreatDoor
open Go.RowKit Go.Sort
set_option linter.unusedVariables false
set_option linter.unusedSimpArgs false
set_option maxRecDepth 100000
theorem tailT_app (e : EditV) : ∀ (a b : List UInt8), tailT e (a ++ b) = tailT e a ++ tailT e b
  | [], b => rfl
  | c :: r, b => by
      show 32 :: (writeF e c ++ tailT e (r ++ b)) = (32 :: (writeF e c ++ tailT e r)) ++ tailT e b
      rw [tailT_app e r b]; simp
theorem tailT_take (e : EditV) (fs : List UInt8) (k : Nat) (h : k < fs.length) : tailT e (fs.take (k + 1)) = tailT e (fs.take k) ++ (32 :: writeF e fs[k]) := by
  rw [List.take_succ_eq_append_getElem h, tailT_app]
  show _ ++ (32 :: (writeF e fs[k] ++ [])) = _
  rw [List.append_nil]
/-- A valid edit's words are short. -/
theorem write_len {e : EditV} (hs : e.small) {c : UInt8} (hc : c ∈ edOrder) (h : checkF e c = 0) : (writeF e c).length ≤ 4000000000 := by
  obtain ⟨s1, s2, s3, s4⟩ := hs
  have hd : ∀ l : List UInt8, l.length ≤ 4000000000 → (dashB l).length ≤ 4000000000 := fun l hl => by
    unfold dashB; split
    · decide
    · exact hl
  simp only [edOrder, List.mem_cons, List.not_mem_nil, or_false] at hc
  rcases hc with rfl | rfl | rfl | rfl | rfl | rfl | rfl | rfl | rfl | rfl
  · have hb := betE (show betweenS e.at_ 0 60 = 0 from h)
    have := itoa_len e.at_ (by omega) (by omega)
    show (Lib.itoa e.at_).length ≤ _; omega
  · exact s1
  · exact s2
  · exact hd _ s3
  · exact hd _ s4
  · show (winT e.lo e.hi).1.length ≤ _
    rw [winT_in (win_okE h)]
    have := winS_len (win_okE h)
    show (winS e.lo e.hi).length ≤ _; omega
  · have hb := betE (show betweenS e.speed 0 1000 = 0 from h)
    have := itoa_len e.speed (by omega) (by omega)
    show (Lib.itoa e.speed).length ≤ _; omega
  · show (exactS e.course.toNat).length ≤ _
    rw [exactS_len]; omega
  · show (distT e.dist).1.length ≤ _
    rw [distT_in (dist_okE h)]
    have := distS_len (d := e.dist.toNat) (by have := dist_okE h; omega)
    show (distS _).length ≤ _; omega
  · show (if e.turn = 1 then [76] else [82] : List UInt8).length ≤ _
    split <;> decide
theorem tail_len {e : EditV} : ∀ (fs : List UInt8), (∀ c ∈ fs, (writeF e c).length ≤ 4000000000) → (tailT e fs).length ≤ fs.length * 4000000001
  | [], _ => by simp [tailT]
  | c :: r, h => by
      have h1 := h c (by simp)
      have h2 := tail_len r fun d hd => h d (by simp [hd])
      show (32 :: (writeF e c ++ tailT e r)).length ≤ _
      simp only [List.length_cons, List.length_append]
      omega
theorem form_len {op : Int} (h : 1 ≤ op ∧ op ≤ 12) : (formW op).length ≤ 9 ∧ (formF op).length ≤ 4 := by
  obtain ⟨k, rfl⟩ : ∃ k : Nat, op = k := ⟨op.toNat, by omega⟩
  have : k = 1 ∨ k = 2 ∨ k = 3 ∨ k = 4 ∨ k = 5 ∨ k = 6 ∨ k = 7 ∨ k = 8 ∨ k = 9 ∨ k = 10 ∨ k = 11 ∨ k = 12 := by omega
  rcases this with rfl | rfl | rfl | rfl | rfl | rfl | rfl | rfl | rfl | rfl | rfl | rfl <;> decide
attribute [local go_sem] ba_append
set_option maxHeartbeats 4000000 in
theorem editText_any (e : EditV) (hs : e.small) (w : World) (hL : Laid w) (hF : FormsAt w) : Calls Tryz.prog 18 #[.agg e.arr] w (Ret w (.string ⟨(editText e).toArray⟩)) := by
  obtain ⟨X0, B0⟩ := edt_box w e
  have L0 := hL.below B0
  have F0 := hF.below B0
  have kc := Lib.hid (editCheck_any e hs (w.alloc (.cells e.arr 53)) L0 F0)
  go_enter Tryz.func18, Tryz.ntmps18
  go_upto_region 1 with (fail)
  generalize w.alloc _ = W at X0 B0 kc L0 F0 ⊢
  obtain ⟨g, hg⟩ : ∃ g, g = w.heap.size := ⟨_, rfl⟩
  rw [← hg] at X0 ⊢
  clear hg
  have i1 : Has_edt W g 0 := ⟨_, X0.is_edt⟩
  have i2 : of_edt W g 0 = e := of_edt_eq X0.is_edt
  by_cases hk : editCheck e = 0
  · have HT := Lib.hid (text_of hk)
    obtain ⟨ho, _⟩ := edit_ok hk
    have hu := Lib.hid (used_check hk)
    have hin := Lib.hid (formF_in ho).1
    obtain ⟨hl1, hl2⟩ := form_len ho
    have hwl := Lib.hid (fun c hc => write_len hs ((formF_in ho).1 c hc) (used_check hk c hc))
    have hLB := Lib.hid (fun w' (h : Below W.heap.size W w') => L0.below h)
    have hXB := Lib.hid (fun w' (h : Below W.heap.size W w') => X0.step h)
    rw [hk] at kc
    obtain ⟨n, hn⟩ : ∃ n : Nat, e.op = n := ⟨e.op.toNat, by omega⟩
    have hn12 : n ≤ 12 := by omega
    have hFB := Lib.hid (fun w' (h : Below W.heap.size W w') => F0.below h)
    go_upto_region 3 with (go_at_call 36; (with_reducible refine callR kc.out ?_); intro w1 b1 _ _ _)
    have hXr := hXB.out w1 b1
    have B1 := below_step B0 b1
    have F1 := hFB.out w1 b1
    have f0 := F1.word n hn12
    have f1 := F1.flds n hn12
    have L1 := hLB.out w1 b1
    have k0 := hXr.cell
    clear i1 i2 X0 B0 L0 F0 hFB hXB hLB b1 kc
    rw [hn] at HT hu hin hl1 hl2 hwl
    generalize formW (n : Int) = wd at *
    generalize formF (n : Int) = fs at *
    have cv := Lib.run_convert_string_bytes (P := Tryz.prog) w1 9 71 5 ⟨fs.toArray⟩ Tryz.underlying9 Tryz.underlying71 Tryz.underlying5
    have cb := Lib.bytesWorld_below w1 5 ⟨fs.toArray⟩
    have cc := Lib.hid (fun j hj => Lib.bytesWorld_cell w1 5 ⟨fs.toArray⟩ j hj)
    have cz := Lib.bytesWorld_size w1 5 ⟨fs.toArray⟩
    generalize hW1 : Lib.bytesWorld w1 5 ⟨fs.toArray⟩ = W2 at cv cb cc cz
    clear hW1
    go_wp2
    clear cv k0 f0 f1
    have hX2 := hXr.step cb
    have B2 := below_step B1 cb
    have L2 := L1.below cb
    have HXB := Lib.hid (fun w' (h : Below W2.heap.size W2 w') => hX2.step h)
    have HBB := Lib.hid (fun w' (h : Below W2.heap.size W2 w') => below_step B2 h)
    have HLB := Lib.hid (fun w' (h : Below W2.heap.size W2 w') => L2.below h)
    have hgb : w1.heap.size < W2.heap.size := by omega
    clear hXr B1 F1 L1 hX2 B2 L2 cb cz
    generalize w1.heap.size = gb at *
    go_loopw [3, 21] (fun o i wr => ∃ k : Nat, k ≤ fs.length ∧ i = .int .i64 k ∧ o = .string ⟨(wd ++ tailT e (fs.take k)).toArray⟩ ∧ Below W2.heap.size W2 wr) (fun _ i _ => fs.length - (intOf i).toNat)
    case atStart => exact ⟨0, by omega, rfl, by simp [tailT], Below.refl _ _⟩
    case round =>
      obtain ⟨k, hk2, rfl, rfl, BW⟩ := hrel
      by_cases hlt : k < fs.length
      · have hcb := cc.out k (by simp [ByteArray.size]; omega)
        have hgd : fs.getD k 0 = fs[k] := by simp [List.getD, hlt]
        rw [hgd, ← BW.cell (p := ⟨gb, k, none⟩) hgb] at hcb
        have hcm := List.getElem_mem hlt
        have HT2 := Lib.hid (tailT_take e fs k hlt)
        have htl : (tailT e (fs.take k)).length ≤ 20000000000 :=
          Nat.le_trans (tail_len (e := e) (fs.take k) (fun c hc => hwl.out c (List.mem_of_mem_take hc))) (Nat.le_trans (Nat.mul_le_mul_right _ (show (fs.take k).length ≤ 4 by rw [List.length_take]; omega)) (by decide))
        generalize tailT e (fs.take k) = O at htl HT2 ⊢
        generalize fs[k] = c at hcb hcm HT2
        have hVl := hwl.out c hcm
        have kw := Lib.hid (ewrite_any e c (hin.out c hcm) (hu.out c hcm) wr (HLB.out _ BW))
        generalize writeF e c = V at hVl kw HT2
        have i1 : Has_edt wr g 0 := ⟨_, (HXB.out _ BW).is_edt⟩
        have i2 : of_edt wr g 0 = e := of_edt_eq (HXB.out _ BW).is_edt
        have n1 : ¬ 9223372036854775807 < ((V.length + 1 : Nat) : Int) := by omega
        have n2 : ¬ 9223372036854775807 < ((wd.length + O.length + (V.length + 1) : Nat) : Int) := by omega
        have n3 : ¬ 9223372036854775807 < ((wd.length + (O.length + (V.length + 1)) : Nat) : Int) := by omega
        clear hcm
        go_wp2_with (go_at_call 37; (with_reducible refine callR kw.out ?_); intro w2 b2 _ _ _)
        go_roundw
        case rel => exact ⟨k + 1, by omega, by go_num, by first | (rw [HT2.out]; done) | (rw [HT2.out]; simp), BW.trans (b2.mono BW.size)⟩
        case measure => simp [intOf]; omega
      · have HR := Lib.hid (show editText e = wd ++ tailT e (fs.take k) by rw [List.take_of_length_le (by omega)]; exact HT.out)
        generalize tailT e (fs.take k) = O at HR ⊢
        go_wp2
        go_ret
        exact Ret.str (by rw [HR.out]) (HBB.out _ BW)
  · have HO := Lib.hid (show editText e = [] by unfold editText; rw [if_pos (by simpa using hk)])
    generalize editCheck e = z at *
    go_wp2_with (go_at_call 36; (with_reducible refine callR kc.out ?_); intro w1 b1 _ _ _)
    go_ret
    exact Ret.str (by rw [HO.out]) (below_step B0 b1)
end Go.Proofs.YtlleijickhifmaaGreatDoor
namespace Go.Proofs.YtlleijickhifmaaGreatDoor
open Go.RowKit
set_option linter.unusedVariables false
set_option linter.unusedSimpArgs false
/-- What the sentinels of strconv hold. -/
structure ErrsAt (w : World) : Prop where
  range : ∃ ev, w.cell? ⟨5, 0, none⟩ = some ev ∧ (ev = .nilIface ∨ ∃ te pe, ev = .iface te pe)
  form : ∃ ev, w.cell? ⟨4, 0, none⟩ = some ev ∧ (ev = .nilIface ∨ ∃ te pe, ev = .iface te pe)
theorem ErrsAt.below {w w' : World} (h : ErrsAt w) (hb : Below w.heap.size w w') : ErrsAt w' := by
  obtain ⟨⟨a, a1, a2⟩, ⟨b, b1, b2⟩⟩ := h
  exact ⟨⟨a, by rw [hb.cell (p := ⟨_, 0, none⟩) (block_lt_of_cell a1)]; exact a1, a2⟩, ⟨b, by rw [hb.cell (p := ⟨_, 0, none⟩) (block_lt_of_cell b1)]; exact b1, b2⟩⟩
/-- The call returns a number, and some error or none. -/
def RetNum (W : World) (n : Int) : Ending → World → Prop := fun e w' => (∃ ev, e = .returned (.tuple #[.int .i64 n, ev])) ∧ Below W.heap.size W w'
theorem parseIntP_any (l : List UInt8) (w : World) (hl : l.length ≤ 4000000000) (hR : ErrsAt w) : Calls Tryz.prog 33 #[.string ⟨l.toArray⟩, .int .i64 10, .int .i64 64] w (RetNum w (numP l)) := by
  unfold numP
  cases hp : Lib.parseIntB 64 l with
  | ok v =>
    refine (Tryz.strconv_ParseInt_10_at64_ok ⟨l.toArray⟩ (by simp [ByteArray.size]; omega) v (by simpa using hp) w).mono fun e w' ⟨h1, h2⟩ => ⟨⟨_, h1⟩, ?_⟩
    rcases h2 with rfl | ⟨t, rfl⟩
    · exact Below.refl _ _
    · exact Lib.bytesWorld_below _ _ _
  | range =>
    obtain ⟨ev, h1, h2⟩ := hR.range
    exact (Tryz.strconv_ParseInt_10_at64_range ⟨l.toArray⟩ (by simp [ByteArray.size]; omega) (by simpa using hp) ev w h1 h2).mono fun e w' ⟨N, h3, _, _, h4⟩ => ⟨⟨_, by simpa using h3⟩, h4⟩
  | _ =>
    obtain ⟨ev, h1, h2⟩ := hR.form
    exact (Tryz.strconv_ParseInt_10_at64_syntax ⟨l.toArray⟩ (by simp [ByteArray.size]; omega) (by simpa using hp) ev w h1 h2).mono fun e w' ⟨N, h3, _, _, h4⟩ => ⟨⟨_, h3⟩, h4⟩
theorem callNum {P : Program} {f : FuncId} {args : Array Value} {W : World} {n : Int} {K : Ending → World → Prop} (h : Calls P f args W (RetNum W n)) (k : ∀ ev w', Below W.heap.size W w' → K (.returned (.tuple #[.int .i64 n, ev])) w') : Calls P f args W K :=
  h.mono fun e w' ⟨⟨ev, he⟩, hb⟩ => by subst he; exact k ev w' hb
end Go.Proofs.YtlleijickhifmaaGreatDoor
