/- slices.Clone of points, parts and legs; points of airways, airway.Index; walks. -/
import Derived.Test.YtlggdgpdfepppaaGreatDoorQk25
import Derived.Test.YtlggdgpdfepppaaGreatDoorQk19
import Derived.Test.YtlggdgpdfepppaaGreatDoorQk29
import Derived.Test.YtlggdgpdfepppaaGreatDoorQk14
namespace Go.Proofs.YtlggdgpdfepppaaGreatDoor
open Go.RowKit Go.Sort
set_option linter.unusedVariables false
set_option linter.unusedSimpArgs false
set_option maxRecDepth 100000
theorem infoA_apt : (Tryz.prog.info? 181).map (fun i => (i.zero, i.size, i.bytes)) = some (some (.agg (noPt.arr)), 4, 40) := by kernel_rfl
theorem infoA_prt : (Tryz.prog.info? 225).map (fun i => (i.zero, i.size, i.bytes)) = some (some (.agg #[.int .u8 0, .string ⟨#[]⟩, .slice none 0 0]), 3, 48) := by kernel_rfl
theorem infoA_leg : (Tryz.prog.info? 77).map (fun i => (i.zero, i.size, i.bytes)) = some (some (.agg ((⟨0, [], [], 0, false, 0, 0, 0, 0, 0, 0, 0, 0⟩ : Leg).arr)), 13, 112) := by kernel_rfl
theorem Items.none_nil {w : World} {n : Nat} {l : List (Array Value)} (h : Items w none n l) : l = [] := by
  rcases l with _ | ⟨y, r⟩
  · rfl
  · obtain ⟨b, o, hh, _⟩ := h.at_ (by simp)
    cases hh
theorem aidx1_any (p : APt) (r : List UInt8) (q : Nat) (w : World) (hq : q < w.heap.size) (hc : w.cell? ⟨q, 0, none⟩ = some (.string ⟨r.toArray⟩)) :
    Calls Tryz.prog 169 #[.agg p.arr, .pointer (some ⟨q, 0, none⟩)] w (Ret w (.bool (p.ref == r))) := by
  go_enter Tryz.func169, Tryz.ntmps169
  go_upto_region 1 with (fail)
  have X0 : Blk (w.alloc (.cells p.arr 181)) w.heap.size p.arr := Blk.new w _ _
  have B0 := alloc_below3 w (.cells p.arr 181)
  have hc0 : (w.alloc (.cells p.arr 181)).cell? ⟨q, 0, none⟩ = some (.string ⟨r.toArray⟩) := by rw [B0.cell (p := ⟨q, 0, none⟩) hq]; exact hc
  generalize w.alloc _ = W at X0 B0 hc0 ⊢
  obtain ⟨g0, hg0⟩ : ∃ g, g = w.heap.size := ⟨_, rfl⟩
  rw [← hg0] at X0 ⊢
  clear hg0 hc
  have c0 : W.cell? ⟨g0, 0, none⟩ = some (.string ⟨p.ref.toArray⟩) := X0.cell 0
  go_wp2
  go_ret
  exact ⟨rfl, B0⟩
set_option maxHeartbeats 2000000 in
theorem aidxf_any (l : List APt) (r : List UInt8) (A : Option Addr) (c q : Nat) (w : World) (hI : Items w A 4 (l.map APt.arr)) (hn : l.length ≤ 9000000000) (hq : q < w.heap.size) (hc : w.cell? ⟨q, 0, none⟩ = some (.string ⟨r.toArray⟩)) :
    Calls Tryz.prog 168 #[.slice A l.length c, .func (.func 169) #[] #[.pointer (some ⟨q, 0, none⟩)]] w (Ret w (.int .i64 (idxA r l 0))) := by
  have HC := Lib.hid hc
  clear hc
  go_enter Tryz.func168, Tryz.ntmps168
  go_wp2
  go_loopw [5, 8] (fun _ i wr => ∃ k : Nat, k ≤ l.length ∧ i = .int .i64 k ∧ idxA r l 0 = idxA r (l.drop k) k ∧ Below w.heap.size w wr) (fun _ i _ => l.length - (intOf i).toNat)
  case atStart => exact ⟨0, by omega, rfl, rfl, Below.refl _ _⟩
  case round =>
    obtain ⟨k, hk, rfl, hf, hB⟩ := hrel
    have HF := Lib.hid hf
    clear hf
    by_cases hlt : k < l.length
    · obtain ⟨b, off, hA, hb, _⟩ := hI.get (k := k) (by simpa using hlt)
      subst hA
      have hd := Lib.hid (List.drop_eq_getElem_cons hlt)
      have hx := aptItem hI hB hlt
      generalize l[k] = f at hd hx
      have i1 : Has_apt wr b (off + k * 4) := ⟨_, hx⟩
      have i2 : of_apt wr b (off + k * 4) = f := of_apt_eq hx
      have hcall := Lib.hid (aidx1_any f r q wr (Nat.lt_of_lt_of_le hq hB.size) (by rw [hB.cell (p := ⟨q, 0, none⟩) hq]; exact HC.out))
      clear hx
      have HD := Lib.hid (show idxA r l 0 = if f.ref == r then (k : Int) else idxA r (l.drop (k + 1)) (k + 1) by rw [HF.out, hd.out]; rfl)
      clear HF hd
      generalize (f.ref == r) = t at hcall HD
      cases t with
      | true =>
        go_wp2_with (go_at_call 169; (with_reducible refine callR hcall.out ?_); intro w1 b1 _ _ _)
        go_ret
        exact Ret.int (HD.out.trans (if_pos trivial)).symm (hB.trans (b1.mono hB.size))
      | false =>
        go_wp2_with (go_at_call 169; (with_reducible refine callR hcall.out ?_); intro w1 b1 _ _ _)
        go_roundw
        case rel => exact ⟨k + 1, by omega, by go_num, HD.out, hB.trans (b1.mono hB.size)⟩
        case measure => simp [intOf]; omega
    · go_wp2
      go_ret
      exact Ret.int (by rw [HF.out, List.drop_of_length_le (by omega)]; rfl) hB
theorem aindex_any (a : AwyV) (cs : Array Value) (r : List UInt8) (w : World) (h : AwyAt w cs a) (hn : a.pts.length ≤ 4000000000) :
    Calls Tryz.prog 148 #[.agg cs, .string ⟨r.toArray⟩] w (Ret w (.int .i64 (idxA r a.pts 0))) := by
  obtain ⟨A, c, rfl, hlc, hI⟩ := h.ex
  go_enter Tryz.func148, Tryz.ntmps148
  go_upto_region 1 with (fail)
  generalize hW : (w.alloc _).alloc _ = W
  have X0 : Blk W w.heap.size (awyArr a A c) := by rw [← hW]; exact (Blk.new w _ _).alloc _
  have X1 : Blk W (w.heap.size + 1) #[.string ⟨r.toArray⟩] := by rw [← hW, ← World.size_alloc w (.cells (awyArr a A c) 174)]; exact Blk.new _ _ _
  have B0 : Below w.heap.size w W := by rw [← hW]; go_grown
  clear hW h
  have hk := Lib.hid (aidxf_any a.pts r A c (w.heap.size + 1) W (hI.below B0) (by omega) X1.lt (X1.cell 0))
  generalize w.heap.size + 1 = g1 at *
  obtain ⟨g0, hg0⟩ : ∃ g, g = w.heap.size := ⟨_, rfl⟩
  rw [← hg0] at X0 ⊢
  clear hg0 X1
  have c1 : W.cell? ⟨g0, 1, none⟩ = some (.slice A a.pts.length c) := X0.cell 1
  go_wp2_with (go_at_call 168; (with_reducible refine callR hk.out ?_); intro w1 b1 _ _ _)
  go_ret
  exact Ret.int rfl (below_step B0 b1)
theorem clone_apt (l : List (Array Value)) (A : Option Addr) (m c : Nat) (w : World) (hI : Items w A 4 l) (hm : l.length = m) (hn : m ≤ 100000000) (hl : ∀ y ∈ l, y.size = 4) (h1 : ∀ y ∈ l, y.toList.all (·.oneCell') = true) :
    Calls Tryz.prog 146 #[.slice A m c] w (RetCl w 181 4 m l) := by
  have HL := Lib.hid hl
  have H1 := Lib.hid h1
  have HM := Lib.hid hm
  clear hl h1 hm
  cases A with
  | none =>
    obtain rfl := hI.none_nil
    obtain rfl : 0 = m := HM.out
    have he := fun w => Lib.run_eql_slice_nil (P := Tryz.prog) w 172 181 none 0 c 0 0 Tryz.underlying172
    clear HL H1 HM hI
    go_enter Tryz.func146, Tryz.ntmps146
    go_wp2
    go_ret
    exact ⟨none, 0, rfl, GOut.nil _ _ _ _, Below.refl _ _⟩
  | some ad =>
    have he := fun w => Lib.run_eql_slice_nil (P := Tryz.prog) w 172 181 (some ad) m c 0 0 Tryz.underlying172
    have HI := Lib.hid hI
    clear hI
    have HE := Lib.hid (GOut.empty w 181 4)
    go_enter Tryz.func146, Tryz.ntmps146
    go_wp2_with (at_builtin; refine wpList_append_items rfl (.tmp 5) (.tmp 6) _ 181 4 40 _ infoA_apt rfl (by omega) Tryz.underlying172 rfl HE.out rfl l (some ad) m c HM.out rfl (HI.out.below (alloc_below3 _ _)) HL.out H1.out (by simp only [List.length_nil]; unfold maxLen; omega) (by simp only [List.length_nil]; omega) (by simp) ?_; intro v' W' O' G' N'; rw [List.nil_append] at O'; obtain ⟨A', c', hv⟩ := O'.len; rw [HM.out] at hv; subst hv)
    go_ret
    exact ⟨A', c', rfl, O', HE.out.below_grown G' (alloc_below3 w _) (Nat.le_refl _) (by simp)⟩
theorem clone_prt (l : List (Array Value)) (A : Option Addr) (m c : Nat) (w : World) (hI : Items w A 3 l) (hm : l.length = m) (hn : m ≤ 100000000) (hl : ∀ y ∈ l, y.size = 3) (h1 : ∀ y ∈ l, y.toList.all (·.oneCell') = true) :
    Calls Tryz.prog 172 #[.slice A m c] w (RetCl w 225 3 m l) := by
  have HL := Lib.hid hl
  have H1 := Lib.hid h1
  have HM := Lib.hid hm
  clear hl h1 hm
  cases A with
  | none =>
    obtain rfl := hI.none_nil
    obtain rfl : 0 = m := HM.out
    have he := fun w => Lib.run_eql_slice_nil (P := Tryz.prog) w 184 225 none 0 c 0 0 Tryz.underlying184
    clear HL H1 HM hI
    go_enter Tryz.func172, Tryz.ntmps172
    go_wp2
    go_ret
    exact ⟨none, 0, rfl, GOut.nil _ _ _ _, Below.refl _ _⟩
  | some ad =>
    have he := fun w => Lib.run_eql_slice_nil (P := Tryz.prog) w 184 225 (some ad) m c 0 0 Tryz.underlying184
    have HI := Lib.hid hI
    clear hI
    have HE := Lib.hid (GOut.empty w 225 3)
    go_enter Tryz.func172, Tryz.ntmps172
    go_wp2_with (at_builtin; refine wpList_append_items rfl (.tmp 5) (.tmp 6) _ 225 3 48 _ infoA_prt rfl (by omega) Tryz.underlying184 rfl HE.out rfl l (some ad) m c HM.out rfl (HI.out.below (alloc_below3 _ _)) HL.out H1.out (by simp only [List.length_nil]; unfold maxLen; omega) (by simp only [List.length_nil]; omega) (by simp) ?_; intro v' W' O' G' N'; rw [List.nil_append] at O'; obtain ⟨A', c', hv⟩ := O'.len; rw [HM.out] at hv; subst hv)
    go_ret
    exact ⟨A', c', rfl, O', HE.out.below_grown G' (alloc_below3 w _) (Nat.le_refl _) (by simp)⟩
theorem clone_leg (l : List (Array Value)) (A : Option Addr) (m c : Nat) (w : World) (hI : Items w A 13 l) (hm : l.length = m) (hn : m ≤ 100000000) (hl : ∀ y ∈ l, y.size = 13) (h1 : ∀ y ∈ l, y.toList.all (·.oneCell') = true) :
    Calls Tryz.prog 173 #[.slice A m c] w (RetCl w 77 13 m l) := by
  have HL := Lib.hid hl
  have H1 := Lib.hid h1
  have HM := Lib.hid hm
  clear hl h1 hm
  cases A with
  | none =>
    obtain rfl := hI.none_nil
    obtain rfl : 0 = m := HM.out
    have he := fun w => Lib.run_eql_slice_nil (P := Tryz.prog) w 179 77 none 0 c 0 0 Tryz.underlying179
    clear HL H1 HM hI
    go_enter Tryz.func173, Tryz.ntmps173
    go_wp2
    go_ret
    exact ⟨none, 0, rfl, GOut.nil _ _ _ _, Below.refl _ _⟩
  | some ad =>
    have he := fun w => Lib.run_eql_slice_nil (P := Tryz.prog) w 179 77 (some ad) m c 0 0 Tryz.underlying179
    have HI := Lib.hid hI
    clear hI
    have HE := Lib.hid (GOut.empty w 77 13)
    go_enter Tryz.func173, Tryz.ntmps173
    go_wp2_with (at_builtin; refine wpList_append_items rfl (.tmp 5) (.tmp 6) _ 77 13 112 _ infoA_leg rfl (by omega) Tryz.underlying179 rfl HE.out rfl l (some ad) m c HM.out rfl (HI.out.below (alloc_below3 _ _)) HL.out H1.out (by simp only [List.length_nil]; unfold maxLen; omega) (by simp only [List.length_nil]; omega) (by simp) ?_; intro v' W' O' G' N'; rw [List.nil_append] at O'; obtain ⟨A', c', hv⟩ := O'.len; rw [HM.out] at hv; subst hv)
    go_ret
    exact ⟨A', c', rfl, O', HE.out.below_grown G' (alloc_below3 w _) (Nat.le_refl _) (by simp)⟩
end Go.Proofs.YtlggdgpdfepppaaGreatDoor
