/- edit: one entry bound; walks. edit: InsertFix; walks. edit: an edit run on the editor; walks. Printed by wip/mkedap.py. edit.Apply; walks. -/
import Derived.Test.YtlggdgpdfepppaaGreatDoorQk34
import Derived.Test.YtlggdgpdfepppaaGreatDoorQk35
import Derived.Test.YtlggdgpdfepppaaGreatDoorQk18
import Derived.Deep.CutBlock
import Derived.Test.YtlggdgpdfepppaaGreatDoorQk11
import Derived.Test.YtlggdgpdfepppaaGreatDoorQk31
import Derived.Deep.RegionHeld3
namespace Go.Proofs.YtlggdgpdfepppaaGreatDoor
open Go.RowKit Go.Sort
set_option linter.unusedVariables false
set_option linter.unusedSimpArgs false
set_option maxRecDepth 100000
theorem alloc_below5 (w : World) (o : Obj) : Below w.heap.size w (w.alloc o) := (Below.refl _ _).alloc (Nat.le_refl _) _
theorem info_leg_all : (Tryz.prog.info? 77).map (fun i => (i.zero, i.size, i.bytes)) = some (some (.agg (⟨0, [], [], 0, false, 0, 0, 0, 0, 0, 0, 0, 0⟩ : Leg).arr), 13, 112) := by kernel_rfl
def bsl1 (parts : Array (Nat × Value)) : Sem Value := Instr.buildSlice 179 1 parts
theorem bsl1_fold (parts : Array (Nat × Value)) : Instr.buildSlice 179 1 parts = bsl1 parts := rfl
theorem run_bsl1 (w : World) (x : Leg) : (bsl1 #[(0, .agg x.arr)]).run Tryz.prog w = .ok (.slice (some ⟨w.heap.size, 0, none⟩) 1 1) (w.alloc (.cells x.arr 77)) := by
  obtain ⟨i0, hi, hz0, hz1, hz2⟩ := info_parts info_leg_all
  refine run_buildSlice w 179 77 1 #[(0, .agg x.arr)] x.arr i0 _ Tryz.underlying179 hi hz0 (by rw [hz1]; decide) (by rw [hz1]; decide) ?_
  rw [hz1]
  kernel_rfl
theorem Blk.legItems {W : World} {q : Nat} {x : Leg} (h : Blk W q x.arr) : Items W (some ⟨q, 0, none⟩) 13 ([x].map Leg.arr) where
  at_ _ := ⟨q, 0, rfl, h.lt, fun i y hy j hj => by
    cases i with
    | zero =>
      obtain rfl : x.arr = y := by simpa using hy
      rw [h.cell]; congr 2; omega
    | succ i => simp at hy⟩
theorem Ed.is_db {w W : World} {g : Nat} {x : Edr} {es : List Entry} (h : Ed w W g x es) : Is_db W g 0 x.db := ⟨rfl, fun j hj => by
  rw [h.blk.cell, Nat.zero_add]
  match j, hj with
  | 0, _ | 1, _ | 2, _ | 3, _ | 4, _ | 5, _ | 6, _ | 7, _ | 8, _ => rfl⟩
theorem run_bentZ (w : World) : (bentD #[]).run Tryz.prog w = .ok (.agg zeroE.arr) w := run_build w _ _ _ (by kernel_rfl)
theorem Has_db_drew5 (W : World) (b o : Nat) : Has_db W.drew b o = Has_db W b o := propext ⟨fun h => h, fun h => h⟩
theorem of_db_drew5 (W : World) (b o : Nat) : of_db W.drew b o = of_db W b o := rfl
theorem Has_win_drew5 (W : World) (b o : Nat) : Has_win W.drew b o = Has_win W b o := propext ⟨fun h => h, fun h => h⟩
theorem of_win_drew5 (W : World) (b o : Nat) : of_win W.drew b o = of_win W b o := rfl
theorem Has_db_alloc5 (w : World) (b o : Nat) (ob : Obj) (h : b < w.heap.size) : Has_db (w.alloc ob) b o = Has_db w b o := by
  have e : ∀ j, (w.alloc ob).cell? ⟨b, o + j, none⟩ = w.cell? ⟨b, o + j, none⟩ := fun j => World.cell?_alloc_lt w ob ⟨b, o + j, none⟩ h
  simp only [Has_db, Is_db, e]
theorem of_db_alloc5 (w : World) (b o : Nat) (ob : Obj) (h : b < w.heap.size) (hh : Has_db w b o) : of_db (w.alloc ob) b o = of_db w b o :=
  of_db_eq ⟨(of_db_spec hh).1, fun j hj => by rw [World.cell?_alloc_lt w ob ⟨b, o + j, none⟩ h]; exact (of_db_spec hh).2 j hj⟩
attribute [local go_sem] Has_db_alloc5 of_db_alloc5 Has_db_drew5 of_db_drew5 Has_win_drew5 of_win_drew5
attribute [local go_sem ↓] bleg_fold bentD_fold bsl1_fold
attribute [local go_sem] run_bleg3 run_bentZ run_bsl1
theorem bindS_len0 {pt : List UInt8 → (Int × Int) × Int} {legs : List Leg} {s : Int} {via : List UInt8} (h : (bindS pt legs s via).2 = 0) : (bindS pt legs s via).1.length = legs.length := by
  unfold bindS at h ⊢
  split at h
  · simp at h
  · rename_i h1
    split at h
    · simp at h
    · rename_i h2
      split at h
      · rename_i h3
        rw [if_neg h1, if_neg h2, if_pos h3]; simp
      · rename_i h3; exact absurd h h3
theorem bindS_nil {pt : List UInt8 → (Int × Int) × Int} {legs : List Leg} {s : Int} {via : List UInt8} (h : (bindS pt legs s via).2 ≠ 0) : (bindS pt legs s via).1 = [] := by
  unfold bindS at h ⊢
  split
  · rfl
  · split
    · rfl
    · split
      · rename_i h1 h2 h3
        rw [if_neg h1, if_neg h2, if_pos h3] at h; simp at h
      · rfl
theorem oneS_ok {L : Look} {t s : Int} {ref via : List UInt8} (h : (oneS L t ref s via).2 = 0) : ∃ y, (oneS L t ref s via).1 = [y] := by
  have h1 := bindS_len0 (legs := [toLeg t ref]) h
  match hm : (oneS L t ref s via).1 with
  | [] => unfold oneS at hm; rw [hm] at h1; simp at h1
  | [y] => exact ⟨y, rfl⟩
  | y :: z :: r => unfold oneS at hm; rw [hm] at h1; simp at h1
def oneE (L : Look) (t : Int) (ref : List UInt8) (s : Int) (via : List UInt8) : Entry := (oneS L t ref s via).1.headD zeroE
set_option maxHeartbeats 16000000 in
theorem eone_any (x : Edr) (es : List Entry) (g : Nat) (w W : World) (h : Ed w W g x es) (hL : Laid w) (d : DBs) (l : List FixV) (hd : d.cells = x.db) (hD : DbAt w d l) (L : Look) (hpt : L.pt = pointV d.lat d.lon l) (hG : GapAt w) (t s : Int) (ref via : List UInt8)
    (hr : ref.length ≤ 4000000000) (hv : via.length ≤ 4000000000) :
    Calls Tryz.prog 120 #[.pointer (some ⟨g, 0, none⟩), .int .u8 t, .string ⟨ref.toArray⟩, .int .u8 s, .string ⟨via.toArray⟩] W (Ret W (.tuple #[.agg (oneE L t ref s via).arr, .int .i64 (oneS L t ref s via).2])) := by
  have HB := Lib.hid (fun (W' : World) (b : Below w.heap.size w W') (q : Nat) (Y : Blk W' q (toLeg t ref).arr) =>
    show Calls Tryz.prog 124 #[.agg x.db, .slice (some ⟨q, 0, none⟩) 1 1, .int .u8 s, .string ⟨via.toArray⟩] W' (RetBd W' (oneS L t ref s via)) from by
      have := bind_any d l [toLeg t ref] (some ⟨q, 0, none⟩) 1 s via W' (hL.below b) (hD.below b) Y.legItems (Nat.le_refl _) (by simp) (fun y hy => (List.mem_singleton.1 hy) ▸ toLeg_small hr) hv
      rw [hd, ← hpt] at this
      exact this)
  have HN := Lib.hid (fun h => @bindS_nil L.pt [toLeg t ref] s via h)
  have HO := Lib.hid (fun h => @oneS_ok L t s ref via h)
  have HE := Lib.hid (show oneE L t ref s via = (oneS L t ref s via).1.headD zeroE from rfl)
  have HNl := Lib.hid (show bindS L.pt [toLeg t ref] s via = oneS L t ref s via from rfl)
  rw [HNl.out] at HN
  generalize oneS L t ref s via = r at *
  generalize oneE L t ref s via = out at *
  clear HNl hD hL hpt hd
  go_enter Tryz.func120, Tryz.ntmps120
  go_upto_region 1 with (fail)
  have R0 := Blk.new W zeroE.arr 82
  have X0 := h.alloc (.cells zeroE.arr 82)
  have B0 := alloc_below5 W (.cells zeroE.arr 82)
  have hg0 : W.heap.size ≤ W.heap.size := Nat.le_refl _
  have hz : zeroE.arr = #[.bool false, .int .u8 0, .string ⟨#[]⟩, .string ⟨#[]⟩, .int .u8 0, .bool false, .int .i64 0, .int .i64 0, .int .i64 0, .int .i64 0, .int .i64 0, .int .i64 0, .int .i64 0, .int .i64 0, .int .i64 0, .int .i64 0, .int .i64 0, .int .i64 0, .int .u8 0, .string ⟨#[]⟩] := rfl
  rw [hz] at R0 X0 B0
  generalize W.alloc _ = W0 at R0 X0 B0 ⊢
  rw [← hz] at R0
  clear hz h
  obtain ⟨g9, hg9⟩ : ∃ g9, g9 = W.heap.size := ⟨_, rfl⟩
  rw [← hg9] at R0 ⊢
  have hge : W.heap.size ≤ g9 := by omega
  clear hg9 hg0
  go_cut [12, 13] (fun a e wx => ∃ A c, a = .slice A r.1.length c ∧ e = .int .i64 r.2 ∧ r.1.length ≤ c ∧ Ents wx A r.1 ∧ Below W0.heap.size W0 wx)
  case first =>
    have k1 : Has_db W0 g 0 := ⟨_, X0.is_db⟩
    have k2 : of_db W0 g 0 = x.db := of_db_eq X0.is_db
    have hlt := X0.lt
    have hlt3 := block_lt_of_cell (hG.below X0.bel).lo
    have r1 : Has_win W0 4 0 := ⟨_, (hG.below X0.bel).win⟩
    have r2 : of_win W0 4 0 = ⟨-200000, 6000000⟩ := of_win_eq (hG.below X0.bel).win
    have hX0 := Lib.hid X0
    unfold toLeg at HB
    clear X0 R0
    go_region_with (go_at_call 124; refine (HB.out _ (hX0.out.alloc _).drw.bel _ ((Blk.new _ _ _).step (Below.refl _ _).drew)).mono ?_; rintro e w2 ⟨A2, c2, rfl, hc2, hE2, b2⟩)
    all_goals
      go_wp2
      go_meet
      exact ⟨A2, c2, rfl, rfl, hc2, hE2, below_step (alloc_below5 _ _).drew b2⟩
  case rest =>
    obtain ⟨A, c, rfl, rfl, hc, hE, BC⟩ := hcut
    have R1 := R0.step BC
    have BB := below_step B0 BC
    clear X0 R0 BC B0 HB
    have d2 := R1.plain
    have d3 := R1.of
    obtain ⟨l1, e1⟩ := r
    by_cases hz : e1 = 0
    · obtain ⟨y, hy⟩ := HO.out hz
      have HOUT := Lib.hid (show out = y by rw [HE.out, hy]; rfl)
      obtain rfl : l1 = [y] := hy
      subst hz
      obtain ⟨b, off, hA, hb, hcl⟩ := hE.get (k := 0) (by simp)
      subst hA
      have hI : Is_ent wc b off y := fun j hj => by have := hcl j hj; rw [Nat.zero_mul, Nat.add_zero] at this; exact this
      have i1 : Has_ent wc b off := ⟨_, hI⟩
      have i2 : of_ent wc b off = y := of_ent_eq hI
      have f3 : splice zeroE.arr 0 y.arr = y.arr := rfl
      clear hcl hE hI HN HO
      go_wp2
      exact bodyPost_ret (results_agg Tryz.results120 _ _ g9 y.arr 20 _ rfl rfl (R1.set _).cell Tryz.underlying82 rfl info_ent) rfl ⟨by rw [HOUT.out]; rfl, below_setRow' BB hge _⟩
    · have hn := HN.out hz
      have HOUT := Lib.hid (show out = zeroE by rw [HE.out, hn]; rfl)
      have hz' : (e1 != 0) = true := by simpa using hz
      have f3 : splice zeroE.arr 0 zeroE.arr = zeroE.arr := rfl
      clear HN HO hE
      go_wp2
      exact bodyPost_ret (results_agg Tryz.results120 _ _ g9 zeroE.arr 20 _ rfl rfl (R1.set _).cell Tryz.underlying82 rfl info_ent) rfl ⟨by rw [HOUT.out]; rfl, below_setRow' BB hge _⟩
end Go.Proofs.YtlggdgpdfepppaaGreatDoor
namespace Go.Proofs.YtlggdgpdfepppaaGreatDoor
open Go.RowKit Go.Sort
set_option linter.unusedVariables false
set_option linter.unusedSimpArgs false
set_option maxRecDepth 100000
attribute [local go_sem ↓] slE_fold
attribute [local go_sem] run_slE_hk run_slE_hk1 run_slE_lk run_slE_lk1 run_bs2'
theorem findGo_range (from_ : Int) (ref : List UInt8) : ∀ (l : List Entry) (i : Nat), findGo from_ ref l i = -1 ∨ ∃ m, m < l.length ∧ findGo from_ ref l i = ((i + m : Nat) : Int)
  | [], i => .inl rfl
  | x :: r, i => by
    rw [findGo]
    split
    · exact .inr ⟨0, by simp, by simp⟩
    · rcases findGo_range from_ ref r (i + 1) with h | ⟨m, h1, h2⟩
      · exact .inl h
      · exact .inr ⟨m + 1, by simp; omega, by rw [h2]; congr 1; omega⟩
theorem secLast_step (s : Int) {l : List Entry} {k : Nat} (h : k < l.length) : secLast s (l.drop k) = secLast (if l[k].gap then s else l[k].sec) (l.drop (k + 1)) := by
  rw [List.drop_eq_getElem_cons h, secLast]
theorem secFirst_step (s : Int) {l : List Entry} {k : Nat} (h : k < l.length) : secFirst s (l.drop k) = if l[k].gap then secFirst s (l.drop (k + 1)) else l[k].sec := by
  rw [List.drop_eq_getElem_cons h, secFirst]
theorem Ents.entE {w : World} {A : Option Addr} {l : List Entry} (h : Ents w A l) {k : Nat} (hk : k < l.length) : ∃ b off, A = some ⟨b, off, none⟩ ∧ ∀ W', Below w.heap.size w W' → Is_ent W' b (off + k * 20) l[k] := by
  obtain ⟨b, off, hA, hb, hc⟩ := h.get hk
  refine ⟨b, off, hA, fun W' hB j hj => ?_⟩
  rw [hB.cell (p := ⟨b, _, none⟩) hb]
  exact hc j hj
set_option maxHeartbeats 32000000 in
theorem einsert_any (x : Edr) (g : Nat) (w W : World) (h : Ed w W g x []) (hL : Laid w) (hE : Ents w x.A x.p.es) (hc : x.p.es.length ≤ x.c) (hn : x.p.es.length ≤ 60) (ha : -1 ≤ x.p.active) (h0 : 0 ≤ x.e.at_) (hat : x.e.at_ ≤ x.p.es.length) (hG : GapAt w) (L : Look)
    (hF : ∃ d l, DBs.cells d = x.db ∧ DbAt w d l ∧ L.pt = pointV d.lat d.lon l) (hr : x.e.ref.length ≤ 4000000000) :
    Calls Tryz.prog 88 #[.pointer (some ⟨g, 0, none⟩)] W (RetRun w g x (insertS L x.p x.e)) := by
  have c11 := h.c11
  have c14 := h.c14
  go_enter Tryz.func88, Tryz.ntmps88
  go_upto_region 1 with (fail)
  go_region
  replace h := h.drw
  clear c11 c14
  generalize W.drew = W1 at h ⊢
  clear W
  have c12 := h.c12
  by_cases h1 : x.e.at_ ≤ x.p.active
  · have HS := Lib.hid (show insertS L x.p x.e = .bad 8 from if_pos h1)
    have HX := Lib.hid h
    clear h hE hc hn h0 hat hG hF
    go_wp2
    go_ret
    exact RetRun.bad HS.out (by decide) HX.out.bel
  · obtain ⟨k, hk⟩ : ∃ k : Nat, x.e.at_ = k := ⟨x.e.at_.toNat, by omega⟩
    have hkl : k ≤ x.p.es.length := by omega
    have hkc : k ≤ x.c := by omega
    have HEn := Lib.hid (fun W' (b : Below w.heap.size w W') => (hE.below (B := 0) b : Ents W' x.A x.p.es))
    have HGp := Lib.hid (fun W' (b : Below w.heap.size w W') => (hG.below b).is)
    have HC := Lib.hid hc
    have HN := Lib.hid hn
    have c15 := h.c15
    have KS := Lib.hid (search_any x.p.es x.A x.p.es.length x.c k x.e.ref W1 (HEn.out _ h.bel) rfl (by omega) (by omega))
    have HSI : insertS L x.p x.e = if 0 ≤ searchE x.p.es k x.e.ref then
        keepR x.p (x.p.es.take k ++ [directE (entAt x.p (searchE x.p.es k x.e.ref).toNat)] ++ x.p.es.drop ((searchE x.p.es k x.e.ref).toNat + 1))
      else if (oneS L 4 x.e.ref (secFirst (secLast 2 x.p.es) (x.p.es.drop k)) []).2 ≠ 0 then .bad (oneS L 4 x.e.ref (secFirst (secLast 2 x.p.es) (x.p.es.drop k)) []).2
      else keepR x.p (x.p.es.take k ++ ((oneS L 4 x.e.ref (secFirst (secLast 2 x.p.es) (x.p.es.drop k)) []).1 ++ [gapE]) ++ x.p.es.drop k) := by
      unfold insertS; rw [if_neg h1, hk, Int.toNat_natCast]
    have hrange := findGo_range k x.e.ref x.p.es 0
    have hse : searchE x.p.es k x.e.ref = findGo k x.e.ref x.p.es 0 := rfl
    rw [← hse] at hrange
    generalize searchE x.p.es k x.e.ref = z at KS HSI hrange
    clear hse
    rw [hk] at h1 ⊢
    rcases hrange with rfl | ⟨m, hm, rfl⟩
    · have HSI := Lib.hid (show insertS L x.p x.e = _ from HSI.trans (if_neg (by decide)))
      go_upto_region 12 with (go_at_call 117; (with_reducible refine callR KS.out ?_); intro w2 b2 _ _ _)
      have X2 := h.step b2
      clear KS b2 h c12 c15 h1
      go_loopw [6, 61] (fun s i wr => ∃ (j : Nat) (y : Int), j ≤ x.p.es.length ∧ i = .int .i64 j ∧ s = .int .u8 y ∧ secLast 2 x.p.es = secLast y (x.p.es.drop j) ∧ Below w2.heap.size w2 wr) (fun _ i _ => x.p.es.length - (intOf i).toNat)
      case atStart => exact ⟨0, 2, by omega, rfl, rfl, rfl, Below.refl _ _⟩
      case round =>
        obtain ⟨j, y, hj, rfl, rfl, hq, BW⟩ := hrel
        have HQ := Lib.hid hq
        clear hq
        by_cases hlt : j < x.p.es.length
        · obtain ⟨b, off, hA, hcl⟩ := hE.entE hlt
          have hI := hcl wr (X2.bel.trans (BW.mono X2.bel.size))
          have HQ2 := Lib.hid (HQ.out.trans (secLast_step y hlt))
          generalize x.p.es[j] = u at hI HQ2
          have i1 : Has_ent wr b (off + j * 20) := ⟨_, hI⟩
          have i2 : of_ent wr b (off + j * 20) = u := of_ent_eq hI
          have hlt2 : (j : Int) < (x.p.es.length : Int) := by omega
          have hjc : j < x.c := by have := HC.out; omega
          have hB := Lib.hid BW
          clear HQ hcl hI BW X2 HSI HEn HGp
          go_upto_region 14 with (fail)
          have Y := Blk.new wr u.arr 82
          have B3 := below_step hB.out ((Below.refl wr.heap.size wr).alloc (Nat.le_refl _) (.cells u.arr 82))
          clear i1 i2 hB
          generalize wr.alloc _ = W3 at Y B3 ⊢
          generalize wr.heap.size = gy at Y ⊢
          have c0 : W3.cell? ⟨gy, 0, none⟩ = some (.bool u.gap) := Y.cell 0
          have c18 : W3.cell? ⟨gy, 18, none⟩ = some (.int .u8 u.sec) := Y.cell 18
          cases hg : u.gap with
          | true =>
            rw [hg] at HQ2 c0
            go_wp2
            go_roundw
            case rel => exact ⟨j + 1, y, by omega, by go_num, rfl, HQ2.out, B3⟩
            case measure => simp [intOf]; omega
          | false =>
            rw [hg] at HQ2 c0
            go_wp2
            go_roundw
            case rel => exact ⟨j + 1, u.sec, by omega, by go_num, rfl, HQ2.out, B3⟩
            case measure => simp [intOf]; omega
        · have hj2 : j = x.p.es.length := by omega
          have HY := Lib.hid (show secLast 2 x.p.es = y by rw [HQ.out, List.drop_of_length_le (by omega)]; rfl)
          rw [HY.out] at HSI
          subst hj2
          have X3 := X2.step BW
          clear X2 BW HQ hlt HY
          obtain ⟨l, hl⟩ : ∃ l, x.p.es.drop k = l := ⟨_, rfl⟩
          have HL := Lib.hid hl
          have hln : l.length = x.p.es.length - k := by rw [← hl, List.length_drop]
          rw [hl] at HSI
          clear hl
          go_upto_block 2 with (fail)
          go_cut [6] (fun s wx => s = .int .u8 (secFirst y l) ∧ Below wr.heap.size wr wx)
          case first =>
            go_wp2_with (fail)
            go_loopw [6, 75] (fun s i wx => ∃ (j : Nat), j ≤ l.length ∧ i = .int .i64 j ∧ s = .int .u8 y ∧ secFirst y l = secFirst y (l.drop j) ∧ Below wr.heap.size wr wx) (fun _ i _ => l.length - (intOf i).toNat)
            case atStart => exact ⟨0, by omega, rfl, rfl, rfl, Below.refl _ _⟩
            case round =>
              obtain ⟨j, hj, rfl, rfl, hq, BW⟩ := hrel
              have HQ := Lib.hid hq
              clear hq HSI
              by_cases hlt : j < l.length
              · obtain ⟨b, off, hA, hcl⟩ := (HL.out ▸ hE.drop (k := k) HC.out : Ents w (subE x.A k x.c) l).entE hlt
                have hI := hcl wr (X3.bel.trans (BW.mono X3.bel.size))
                have HQ2 := Lib.hid (HQ.out.trans (secFirst_step y hlt))
                generalize l[j] = u at hI HQ2
                have i1 : Has_ent wr b (off + j * 20) := ⟨_, hI⟩
                have i2 : of_ent wr b (off + j * 20) = u := of_ent_eq hI
                have hlt2 : (j : Int) < ((x.p.es.length - k : Nat) : Int) := by omega
                have hlt3 : j < x.p.es.length - k := by omega
                have hB := Lib.hid BW
                have HJ := Lib.hid hj
                clear HQ hcl hI BW X3 HEn HGp hj
                go_upto_region 20 with (fail)
                have Y := Blk.new wr u.arr 82
                have B3 := below_step hB.out ((Below.refl wr.heap.size wr).alloc (Nat.le_refl _) (.cells u.arr 82))
                clear i1 i2 hB
                generalize wr.alloc _ = W3 at Y B3 ⊢
                generalize wr.heap.size = gy at Y ⊢
                have c0 : W3.cell? ⟨gy, 0, none⟩ = some (.bool u.gap) := Y.cell 0
                have c18 : W3.cell? ⟨gy, 18, none⟩ = some (.int .u8 u.sec) := Y.cell 18
                cases hg : u.gap with
                | true =>
                  rw [hg] at HQ2 c0
                  go_wp2
                  go_roundw
                  case rel => exact ⟨j + 1, by omega, by go_num, rfl, HQ2.out, B3⟩
                  case measure => simp [intOf]; omega
                | false =>
                  rw [hg] at HQ2 c0
                  go_wp2
                  go_meet
                  exact ⟨by rw [HQ2.out]; rfl, B3⟩
              · have HY := Lib.hid (show secFirst y l = y by rw [HQ.out, List.drop_of_length_le (by omega)]; rfl)
                have hge : ¬ (j : Int) < ((x.p.es.length - k : Nat) : Int) := by omega
                have hB := Lib.hid BW
                clear HQ BW hlt
                go_wp2
                go_meet
                exact ⟨by rw [HY.out], hB.out⟩
          case rest =>
            obtain ⟨rfl, BC⟩ := hcut
            have X4 := X3.step BC
            clear X3 BC
            generalize secFirst y l = sc at HSI ⊢
            obtain ⟨d, lx, hd, hD, hpt⟩ := hF
            have K := Lib.hid (show Calls Tryz.prog 120 #[.pointer (some ⟨g, 0, none⟩), .int .u8 4, .string ⟨x.e.ref.toArray⟩, .int .u8 sc, .string ⟨#[]⟩] wc (Ret wc (.tuple #[.agg (oneE L 4 x.e.ref sc []).arr, .int .i64 (oneS L 4 x.e.ref sc []).2])) from
              eone_any x [] g w wc X4 hL d lx hd hD L hpt hG 4 sc x.e.ref [] hr (by simp))
            have HO := Lib.hid (fun h => @oneS_ok L 4 sc x.e.ref [] h)
            have HE1 := Lib.hid (show oneE L 4 x.e.ref sc [] = (oneS L 4 x.e.ref sc []).1.headD zeroE from rfl)
            generalize oneE L 4 x.e.ref sc [] = y1 at K HE1
            obtain ⟨l1, e1⟩ : ∃ r, oneS L 4 x.e.ref sc [] = r := ⟨_, rfl⟩
            rw [e1] at K HO HE1 HSI
            clear e1 hd hD hpt
            obtain ⟨l2, e2⟩ := l1
            have c15 := X4.c15
            go_upto_region 24 with (go_at_call 120; (with_reducible refine callR K.out ?_); intro w5 b5 _ _ _)
            have X5 := X4.step b5
            have Y := Blk.new w5 y1.arr 82
            have X6 := X5.alloc (.cells y1.arr 82)
            have F := FarB.new X5 (.cells y1.arr 82)
            clear X4 X5 b5 K c15
            generalize w5.alloc _ = W6 at Y X6 F ⊢
            generalize w5.heap.size = gy at Y F ⊢
            by_cases hz : e2 = 0
            · subst hz
              obtain ⟨y2, hy⟩ := HO.out rfl
              obtain rfl : l2 = [y2] := hy
              obtain rfl : y1 = y2 := HE1.out
              have HS := Lib.hid (show insertS L x.p x.e = keepR x.p (x.p.es.take k ++ [y1, gapE] ++ l) from HSI.out)
              have K1 := Lib.hid (put_any x [] (x.p.es.take k) (subE x.A 0 x.c) x.c k g w W6 X6 (HEn.out _ X6.bel).take (by rw [List.length_take]; omega) (by have := HN.out; simp; omega))
              rw [List.nil_append] at K1
              clear HSI HO HE1
              go_upto_region 27 with (go_at_call 118; (with_reducible refine callPut K1.out ?_); intro v7 W7 X7 kp)
              have Y7 := kp.blk F Y
              have j1 : Has_ent W7 gy 0 := ⟨_, Y7.is_ent⟩
              have j2 : of_ent W7 gy 0 = y1 := of_ent_eq Y7.is_ent
              have g1 : Has_ent W7 3 0 := ⟨_, HGp.out W7 X7.bel⟩
              have g2 : of_ent W7 3 0 = gapE := of_ent_eq (HGp.out W7 X7.bel)
              have K2 := Lib.hid (put_any { x with v := v7 } (x.p.es.take k) [y1, gapE] (some ⟨W7.heap.size, 0, none⟩) 2 2 g w _ (X7.alloc (.cells (cellsOf [y1, gapE]).toArray 82)) (Blk.new _ _ _).ents rfl (by rw [List.length_take]; have := HN.out; omega))
              clear K1 kp F Y
              go_wp2_with (first
                | (go_at_call 118; (with_reducible refine callPut K2.out ?_); intro v8 W8 X8 _
                   have K3 := Lib.hid (put_any { x with v := v8 } (x.p.es.take k ++ [y1, gapE]) l (subE x.A k x.c) (x.c - k) (x.p.es.length - k) g w W8 X8 (HL.out ▸ (HEn.out W8 X8.bel).drop HC.out) hln (by simp; have := HN.out; omega)))
                | (go_at_call 118; (with_reducible refine callPut K3.out ?_); intro v9 W9 X9 _))
              go_ret
              exact RetRun.keep HS.out X9
            · have HS := Lib.hid (show insertS L x.p x.e = .bad e2 from HSI.out.trans (if_pos hz))
              have hz' : (e2 != 0) = true := by simpa using hz
              have HZ := Lib.hid hz
              clear HSI HO HE1 hz
              go_wp2
              go_ret
              exact RetRun.bad HS.out HZ.out X6.bel
    · have HS := Lib.hid (show insertS L x.p x.e = keepR x.p (x.p.es.take k ++ [directE (entAt x.p m)] ++ x.p.es.drop (m + 1)) by rw [HSI, if_pos (by omega)]; simp)
      obtain ⟨b, off, hA, hcl⟩ := hE.ent hm
      have HEa := Lib.hid (fun W' (bb : Below w.heap.size w W') => (show Ents W' (some ⟨b, off, none⟩) x.p.es from by have := hE.below (B := 0) bb; rwa [hA] at this))
      have HI := Lib.hid hcl
      rw [hA] at KS
      have hw1 : wrap64 ((m : Int) + 1) = (m : Int) + 1 := IntWalk.wrap64_in _ (by omega)
      have hlt : (m : Int) < (x.p.es.length : Int) := by omega
      have hm1 : m + 1 ≤ x.p.es.length := by omega
      rw [Nat.zero_add] at KS
      have HX := Lib.hid h
      clear h hE hG hcl ha hk hat hc hn h0 HSI HEn HGp
      go_upto_region 6 with (go_at_call 117; (with_reducible refine callR KS.out ?_); intro w2 b2 _ _ _)
      have X2 := HX.out.step b2
      have K1 := Lib.hid (put_any x [] (x.p.es.take k) (subE (some ⟨b, off, none⟩) 0 x.c) x.c k g w w2 X2 (HEa.out _ X2.bel).take (by rw [List.length_take]; omega) (by have := HN.out; simp; omega))
      rw [List.nil_append] at K1
      clear KS b2 HX c12 c15 h1
      go_upto_region 7 with (go_at_call 118; (with_reducible refine callPut K1.out ?_); intro v3 W3 X3 _)
      have j1 : Has_ent W3 b (off + m * 20) := ⟨_, HI.out _ X3.bel⟩
      have j2 : of_ent W3 b (off + m * 20) = entAt x.p m := of_ent_eq (HI.out _ X3.bel)
      have kd := Lib.hid (edirect_any (entAt x.p m) W3)
      clear K1 X2
      go_wp2_with (first
        | (go_at_call 119; (with_reducible refine callR kd.out ?_); intro wd bd _ _ _
           have K2 := Lib.hid (put_any { x with v := v3 } (x.p.es.take k) [directE (entAt x.p m)] (some ⟨wd.heap.size, 0, none⟩) 1 1 g w _ ((X3.step bd).alloc (.cells (directE (entAt x.p m)).arr 82)) (ents1 (Blk.new _ _ _)) rfl (by rw [List.length_take]; have := HN.out; omega)))
        | (go_at_call 118; (with_reducible refine callPut K2.out ?_); intro v5 W5 X5 _
           have K3 := Lib.hid (put_any { x with v := v5 } (x.p.es.take k ++ [directE (entAt x.p m)]) (x.p.es.drop (m + 1)) (subE (some ⟨b, off, none⟩) (m + 1) x.c) (x.c - (m + 1)) (x.p.es.length - (m + 1)) g w W5 X5 ((HEa.out W5 X5.bel).drop HC.out) (by rw [List.length_drop]) (by simp; have := HN.out; omega)))
        | (go_at_call 118; (with_reducible refine callPut K3.out ?_); intro v6 W6 X6 _))
      go_ret
      exact RetRun.keep HS.out X6
end Go.Proofs.YtlggdgpdfepppaaGreatDoor
namespace Go.Proofs.YtlggdgpdfepppaaGreatDoor
open Go.RowKit Go.Sort
set_option linter.unusedVariables false
set_option linter.unusedSimpArgs false
set_option maxRecDepth 100000
theorem callRun {P : Program} {f : FuncId} {args : Array Value} {w W : World} {g : Nat} {x : Edr} {r : EdR} {K : Ending → World → Prop} (h : Calls P f args W (RetRun w g x r))
    (k : ∀ W', Below w.heap.size w W' → (r.err = 0 → ∃ v', Ed w W' g { x with p := ⟨r.from_, r.to_, x.p.es, r.active⟩, v := v' } r.list) → K (.returned (.int .i64 r.err)) W') : Calls P f args W K :=
  h.mono fun e W' ⟨he, h1, h2⟩ => by subst he; exact k W' h1 h2
structure EdHard (w : World) (g : Nat) (x : Edr) (L : Look) : Prop where
  join : ∀ W, Ed w W g x [] → x.e.op = 8 → x.e.at_ < x.p.es.length → Calls Tryz.prog 93 #[.pointer (some ⟨g, 0, none⟩)] W (RetRun w g x (joinS L x.p x.e))
  depart : ∀ W, Ed w W g x [] → x.e.op = 9 → Calls Tryz.prog 94 #[.pointer (some ⟨g, 0, none⟩)] W (RetRun w g x (departS L x.p x.e))
  arrive : ∀ W, Ed w W g x [] → x.e.op = 10 → Calls Tryz.prog 95 #[.pointer (some ⟨g, 0, none⟩), .int .u8 2, .int .u8 3] W (RetRun w g x (arriveS L x.p x.e 2 3))
  approach : ∀ W, Ed w W g x [] → x.e.op = 11 → Calls Tryz.prog 95 #[.pointer (some ⟨g, 0, none⟩), .int .u8 3, .int .u8 4] W (RetRun w g x (arriveS L x.p x.e 3 4))
  divert : ∀ W, Ed w W g x [] → x.e.op = 12 → x.e.at_ < x.p.es.length → Calls Tryz.prog 96 #[.pointer (some ⟨g, 0, none⟩)] W (RetRun w g x (divertS L x.p x.e))
structure EdPre (w : World) (g : Nat) (x : Edr) (L : Look) : Prop where
  laid : Laid w
  forms : FormsAt w
  gap : GapAt w
  ents : Ents w x.A x.p.es
  cap : x.p.es.length ≤ x.c
  len : x.p.es.length ≤ 60
  act0 : -1 ≤ x.p.active
  act1 : x.p.active < x.p.es.length
  at0 : 0 ≤ x.e.at_
  ref : x.e.ref.length ≤ 4000000000
  fix : ∃ d l, DBs.cells d = x.db ∧ DbAt w d l ∧ L.pt = pointV d.lat d.lon l
  hard : EdHard w g x L
set_option maxHeartbeats 4000000 in
theorem erun1_any (x : Edr) (g : Nat) (w W : World) (L : Look) (h : Ed w W g x []) (P : EdPre w g x L) (ho : x.e.op = 1) : Calls Tryz.prog 61 #[.pointer (some ⟨g, 0, none⟩)] W (RetRun w g x (runS L x.p x.e)) := by
  have c11 := h.c11
  have c13 := h.c13
  rw [ho] at c13
  have c14 := h.c14
  have f1 : W.cell? ⟨1, 3, none⟩ = some (.string ⟨#[97, 114]⟩) := (P.forms.below h.bel).flds 1 (by decide)
  have ki := Lib.hid (fun W' => show Calls Tryz.prog 85 #[.string ⟨#[97, 114]⟩, .int .u8 97] W' (RetP W' (.int .i64 (0))) from eindex_any [97, 114] 97 W')
  have hfa : (formF x.e.op).contains 97 = true := by rw [ho]; decide
  by_cases h1 : (x.p.es.length : Int) < x.e.at_
  · have HS := Lib.hid (show runS L x.p x.e = .bad 6 by unfold runS; rw [if_pos ⟨hfa, .inl h1⟩])
    have HB := Lib.hid h.bel
    clear h P
    go_enter Tryz.func61, Tryz.ntmps61
    go_wp2_with (go_at_call 85; (with_reducible refine callP (ki.out _) ?_))
    go_ret
    exact RetRun.bad HS.out (by decide) HB.out
  have hat1 : x.e.at_ ≤ x.p.es.length := by omega
  have HS := Lib.hid (show runS L x.p x.e = insertS L x.p x.e by unfold runS; rw [if_neg (by rintro ⟨_, h | ⟨_, h⟩⟩ <;> omega), if_pos ho])
  have K := Lib.hid (einsert_any x g w W h P.laid P.ents P.cap P.len P.act0 P.at0 hat1 P.gap L P.fix P.ref)
  clear h P
  generalize insertS L x.p x.e = r at K HS
  go_enter Tryz.func61, Tryz.ntmps61
  go_wp2_with (first
    | (go_at_call 85; (with_reducible refine callP (ki.out _) ?_))
    | (go_at_call 88; (with_reducible refine callRun K.out ?_); intro W' b' k'))
  all_goals
    go_ret
    rw [HS.out]
    exact ⟨rfl, b', k'⟩
set_option maxHeartbeats 4000000 in
theorem erun2_any (x : Edr) (g : Nat) (w W : World) (L : Look) (h : Ed w W g x []) (P : EdPre w g x L) (ho : x.e.op = 2) : Calls Tryz.prog 61 #[.pointer (some ⟨g, 0, none⟩)] W (RetRun w g x (runS L x.p x.e)) := by
  have c11 := h.c11
  have c13 := h.c13
  rw [ho] at c13
  have c14 := h.c14
  have f1 : W.cell? ⟨1, 5, none⟩ = some (.string ⟨#[97]⟩) := (P.forms.below h.bel).flds 2 (by decide)
  have ki := Lib.hid (fun W' => show Calls Tryz.prog 85 #[.string ⟨#[97]⟩, .int .u8 97] W' (RetP W' (.int .i64 (0))) from eindex_any [97] 97 W')
  have hfa : (formF x.e.op).contains 97 = true := by rw [ho]; decide
  by_cases h1 : (x.p.es.length : Int) < x.e.at_
  · have HS := Lib.hid (show runS L x.p x.e = .bad 6 by unfold runS; rw [if_pos ⟨hfa, .inl h1⟩])
    have HB := Lib.hid h.bel
    clear h P
    go_enter Tryz.func61, Tryz.ntmps61
    go_wp2_with (go_at_call 85; (with_reducible refine callP (ki.out _) ?_))
    go_ret
    exact RetRun.bad HS.out (by decide) HB.out
  by_cases h2 : x.e.at_ = x.p.es.length
  · have HS := Lib.hid (show runS L x.p x.e = .bad 6 by unfold runS; rw [if_pos ⟨hfa, .inr ⟨h2, by rw [ho]; decide⟩⟩])
    have HB := Lib.hid h.bel
    rw [h2] at c14
    clear h P h1
    go_enter Tryz.func61, Tryz.ntmps61
    go_wp2_with (go_at_call 85; (with_reducible refine callP (ki.out _) ?_))
    go_ret
    exact RetRun.bad HS.out (by decide) HB.out
  have hat : x.e.at_ < x.p.es.length := by omega
  have h2' : (x.e.at_ == (x.p.es.length : Int)) = false := by simpa using h2
  have HS := Lib.hid (show runS L x.p x.e = deleteS x.p x.e by unfold runS; rw [if_neg (by rintro ⟨_, h | ⟨h, _⟩⟩ <;> omega), ho]; rfl)
  have K := Lib.hid (edelete_any x g w W h P.ents P.cap P.len P.act0 hat P.gap)
  clear h P
  generalize deleteS x.p x.e = r at K HS
  go_enter Tryz.func61, Tryz.ntmps61
  go_wp2_with (first
    | (go_at_call 85; (with_reducible refine callP (ki.out _) ?_))
    | (go_at_call 89; (with_reducible refine callRun K.out ?_); intro W' b' k'))
  all_goals
    go_ret
    rw [HS.out]
    exact ⟨rfl, b', k'⟩
set_option maxHeartbeats 4000000 in
theorem erun3_any (x : Edr) (g : Nat) (w W : World) (L : Look) (h : Ed w W g x []) (P : EdPre w g x L) (ho : x.e.op = 3) : Calls Tryz.prog 61 #[.pointer (some ⟨g, 0, none⟩)] W (RetRun w g x (runS L x.p x.e)) := by
  have c11 := h.c11
  have c13 := h.c13
  rw [ho] at c13
  have c14 := h.c14
  have f1 : W.cell? ⟨1, 7, none⟩ = some (.string ⟨#[97]⟩) := (P.forms.below h.bel).flds 3 (by decide)
  have ki := Lib.hid (fun W' => show Calls Tryz.prog 85 #[.string ⟨#[97]⟩, .int .u8 97] W' (RetP W' (.int .i64 (0))) from eindex_any [97] 97 W')
  have hfa : (formF x.e.op).contains 97 = true := by rw [ho]; decide
  by_cases h1 : (x.p.es.length : Int) < x.e.at_
  · have HS := Lib.hid (show runS L x.p x.e = .bad 6 by unfold runS; rw [if_pos ⟨hfa, .inl h1⟩])
    have HB := Lib.hid h.bel
    clear h P
    go_enter Tryz.func61, Tryz.ntmps61
    go_wp2_with (go_at_call 85; (with_reducible refine callP (ki.out _) ?_))
    go_ret
    exact RetRun.bad HS.out (by decide) HB.out
  by_cases h2 : x.e.at_ = x.p.es.length
  · have HS := Lib.hid (show runS L x.p x.e = .bad 6 by unfold runS; rw [if_pos ⟨hfa, .inr ⟨h2, by rw [ho]; decide⟩⟩])
    have HB := Lib.hid h.bel
    rw [h2] at c14
    clear h P h1
    go_enter Tryz.func61, Tryz.ntmps61
    go_wp2_with (go_at_call 85; (with_reducible refine callP (ki.out _) ?_))
    go_ret
    exact RetRun.bad HS.out (by decide) HB.out
  have hat : x.e.at_ < x.p.es.length := by omega
  have h2' : (x.e.at_ == (x.p.es.length : Int)) = false := by simpa using h2
  have HS := Lib.hid (show runS L x.p x.e = directS x.p x.e by unfold runS; rw [if_neg (by rintro ⟨_, h | ⟨h, _⟩⟩ <;> omega), ho]; rfl)
  have K := Lib.hid (edirectTo_any x g w W h P.ents P.cap P.len P.at0 hat P.gap)
  clear h P
  generalize directS x.p x.e = r at K HS
  go_enter Tryz.func61, Tryz.ntmps61
  go_wp2_with (first
    | (go_at_call 85; (with_reducible refine callP (ki.out _) ?_))
    | (go_at_call 90; (with_reducible refine callRun K.out ?_); intro W' b' k'))
  all_goals
    go_ret
    rw [HS.out]
    exact ⟨rfl, b', k'⟩
set_option maxHeartbeats 4000000 in
theorem erun4_any (x : Edr) (g : Nat) (w W : World) (L : Look) (h : Ed w W g x []) (P : EdPre w g x L) (ho : x.e.op = 4) : Calls Tryz.prog 61 #[.pointer (some ⟨g, 0, none⟩)] W (RetRun w g x (runS L x.p x.e)) := by
  have c11 := h.c11
  have c13 := h.c13
  rw [ho] at c13
  have c14 := h.c14
  have f1 : W.cell? ⟨1, 9, none⟩ = some (.string ⟨#[97, 104]⟩) := (P.forms.below h.bel).flds 4 (by decide)
  have ki := Lib.hid (fun W' => show Calls Tryz.prog 85 #[.string ⟨#[97, 104]⟩, .int .u8 97] W' (RetP W' (.int .i64 (0))) from eindex_any [97, 104] 97 W')
  have hfa : (formF x.e.op).contains 97 = true := by rw [ho]; decide
  by_cases h1 : (x.p.es.length : Int) < x.e.at_
  · have HS := Lib.hid (show runS L x.p x.e = .bad 6 by unfold runS; rw [if_pos ⟨hfa, .inl h1⟩])
    have HB := Lib.hid h.bel
    clear h P
    go_enter Tryz.func61, Tryz.ntmps61
    go_wp2_with (go_at_call 85; (with_reducible refine callP (ki.out _) ?_))
    go_ret
    exact RetRun.bad HS.out (by decide) HB.out
  by_cases h2 : x.e.at_ = x.p.es.length
  · have HS := Lib.hid (show runS L x.p x.e = .bad 6 by unfold runS; rw [if_pos ⟨hfa, .inr ⟨h2, by rw [ho]; decide⟩⟩])
    have HB := Lib.hid h.bel
    rw [h2] at c14
    clear h P h1
    go_enter Tryz.func61, Tryz.ntmps61
    go_wp2_with (go_at_call 85; (with_reducible refine callP (ki.out _) ?_))
    go_ret
    exact RetRun.bad HS.out (by decide) HB.out
  have hat : x.e.at_ < x.p.es.length := by omega
  have h2' : (x.e.at_ == (x.p.es.length : Int)) = false := by simpa using h2
  have HS := Lib.hid (show runS L x.p x.e = setS x.p x.e by unfold runS; rw [if_neg (by rintro ⟨_, h | ⟨h, _⟩⟩ <;> omega), ho]; rfl)
  have K := Lib.hid (eset_any x g w W h P.ents P.cap P.len P.at0 hat (by omega))
  clear h P
  generalize setS x.p x.e = r at K HS
  go_enter Tryz.func61, Tryz.ntmps61
  go_wp2_with (first
    | (go_at_call 85; (with_reducible refine callP (ki.out _) ?_))
    | (go_at_call 91; (with_reducible refine callRun K.out ?_); intro W' b' k'))
  all_goals
    go_ret
    rw [HS.out]
    exact ⟨rfl, b', k'⟩
set_option maxHeartbeats 4000000 in
theorem erun5_any (x : Edr) (g : Nat) (w W : World) (L : Look) (h : Ed w W g x []) (P : EdPre w g x L) (ho : x.e.op = 5) : Calls Tryz.prog 61 #[.pointer (some ⟨g, 0, none⟩)] W (RetRun w g x (runS L x.p x.e)) := by
  have c11 := h.c11
  have c13 := h.c13
  rw [ho] at c13
  have c14 := h.c14
  have f1 : W.cell? ⟨1, 11, none⟩ = some (.string ⟨#[97, 115]⟩) := (P.forms.below h.bel).flds 5 (by decide)
  have ki := Lib.hid (fun W' => show Calls Tryz.prog 85 #[.string ⟨#[97, 115]⟩, .int .u8 97] W' (RetP W' (.int .i64 (0))) from eindex_any [97, 115] 97 W')
  have hfa : (formF x.e.op).contains 97 = true := by rw [ho]; decide
  by_cases h1 : (x.p.es.length : Int) < x.e.at_
  · have HS := Lib.hid (show runS L x.p x.e = .bad 6 by unfold runS; rw [if_pos ⟨hfa, .inl h1⟩])
    have HB := Lib.hid h.bel
    clear h P
    go_enter Tryz.func61, Tryz.ntmps61
    go_wp2_with (go_at_call 85; (with_reducible refine callP (ki.out _) ?_))
    go_ret
    exact RetRun.bad HS.out (by decide) HB.out
  by_cases h2 : x.e.at_ = x.p.es.length
  · have HS := Lib.hid (show runS L x.p x.e = .bad 6 by unfold runS; rw [if_pos ⟨hfa, .inr ⟨h2, by rw [ho]; decide⟩⟩])
    have HB := Lib.hid h.bel
    rw [h2] at c14
    clear h P h1
    go_enter Tryz.func61, Tryz.ntmps61
    go_wp2_with (go_at_call 85; (with_reducible refine callP (ki.out _) ?_))
    go_ret
    exact RetRun.bad HS.out (by decide) HB.out
  have hat : x.e.at_ < x.p.es.length := by omega
  have h2' : (x.e.at_ == (x.p.es.length : Int)) = false := by simpa using h2
  have HS := Lib.hid (show runS L x.p x.e = setS x.p x.e by unfold runS; rw [if_neg (by rintro ⟨_, h | ⟨h, _⟩⟩ <;> omega), ho]; rfl)
  have K := Lib.hid (eset_any x g w W h P.ents P.cap P.len P.at0 hat (by omega))
  clear h P
  generalize setS x.p x.e = r at K HS
  go_enter Tryz.func61, Tryz.ntmps61
  go_wp2_with (first
    | (go_at_call 85; (with_reducible refine callP (ki.out _) ?_))
    | (go_at_call 91; (with_reducible refine callRun K.out ?_); intro W' b' k'))
  all_goals
    go_ret
    rw [HS.out]
    exact ⟨rfl, b', k'⟩
set_option maxHeartbeats 4000000 in
theorem erun6_any (x : Edr) (g : Nat) (w W : World) (L : Look) (h : Ed w W g x []) (P : EdPre w g x L) (ho : x.e.op = 6) : Calls Tryz.prog 61 #[.pointer (some ⟨g, 0, none⟩)] W (RetRun w g x (runS L x.p x.e)) := by
  have c11 := h.c11
  have c13 := h.c13
  rw [ho] at c13
  have c14 := h.c14
  have f1 : W.cell? ⟨1, 13, none⟩ = some (.string ⟨#[97, 100]⟩) := (P.forms.below h.bel).flds 6 (by decide)
  have ki := Lib.hid (fun W' => show Calls Tryz.prog 85 #[.string ⟨#[97, 100]⟩, .int .u8 97] W' (RetP W' (.int .i64 (0))) from eindex_any [97, 100] 97 W')
  have hfa : (formF x.e.op).contains 97 = true := by rw [ho]; decide
  by_cases h1 : (x.p.es.length : Int) < x.e.at_
  · have HS := Lib.hid (show runS L x.p x.e = .bad 6 by unfold runS; rw [if_pos ⟨hfa, .inl h1⟩])
    have HB := Lib.hid h.bel
    clear h P
    go_enter Tryz.func61, Tryz.ntmps61
    go_wp2_with (go_at_call 85; (with_reducible refine callP (ki.out _) ?_))
    go_ret
    exact RetRun.bad HS.out (by decide) HB.out
  by_cases h2 : x.e.at_ = x.p.es.length
  · have HS := Lib.hid (show runS L x.p x.e = .bad 6 by unfold runS; rw [if_pos ⟨hfa, .inr ⟨h2, by rw [ho]; decide⟩⟩])
    have HB := Lib.hid h.bel
    rw [h2] at c14
    clear h P h1
    go_enter Tryz.func61, Tryz.ntmps61
    go_wp2_with (go_at_call 85; (with_reducible refine callP (ki.out _) ?_))
    go_ret
    exact RetRun.bad HS.out (by decide) HB.out
  have hat : x.e.at_ < x.p.es.length := by omega
  have h2' : (x.e.at_ == (x.p.es.length : Int)) = false := by simpa using h2
  have HS := Lib.hid (show runS L x.p x.e = setS x.p x.e by unfold runS; rw [if_neg (by rintro ⟨_, h | ⟨h, _⟩⟩ <;> omega), ho]; rfl)
  have K := Lib.hid (eset_any x g w W h P.ents P.cap P.len P.at0 hat (by omega))
  clear h P
  generalize setS x.p x.e = r at K HS
  go_enter Tryz.func61, Tryz.ntmps61
  go_wp2_with (first
    | (go_at_call 85; (with_reducible refine callP (ki.out _) ?_))
    | (go_at_call 91; (with_reducible refine callRun K.out ?_); intro W' b' k'))
  all_goals
    go_ret
    rw [HS.out]
    exact ⟨rfl, b', k'⟩
set_option maxHeartbeats 4000000 in
theorem erun7_any (x : Edr) (g : Nat) (w W : World) (L : Look) (h : Ed w W g x []) (P : EdPre w g x L) (ho : x.e.op = 7) : Calls Tryz.prog 61 #[.pointer (some ⟨g, 0, none⟩)] W (RetRun w g x (runS L x.p x.e)) := by
  have c11 := h.c11
  have c13 := h.c13
  rw [ho] at c13
  have c14 := h.c14
  have f1 : W.cell? ⟨1, 15, none⟩ = some (.string ⟨#[97, 99, 100, 117]⟩) := (P.forms.below h.bel).flds 7 (by decide)
  have ki := Lib.hid (fun W' => show Calls Tryz.prog 85 #[.string ⟨#[97, 99, 100, 117]⟩, .int .u8 97] W' (RetP W' (.int .i64 (0))) from eindex_any [97, 99, 100, 117] 97 W')
  have hfa : (formF x.e.op).contains 97 = true := by rw [ho]; decide
  by_cases h1 : (x.p.es.length : Int) < x.e.at_
  · have HS := Lib.hid (show runS L x.p x.e = .bad 6 by unfold runS; rw [if_pos ⟨hfa, .inl h1⟩])
    have HB := Lib.hid h.bel
    clear h P
    go_enter Tryz.func61, Tryz.ntmps61
    go_wp2_with (go_at_call 85; (with_reducible refine callP (ki.out _) ?_))
    go_ret
    exact RetRun.bad HS.out (by decide) HB.out
  by_cases h2 : x.e.at_ = x.p.es.length
  · have HS := Lib.hid (show runS L x.p x.e = .bad 6 by unfold runS; rw [if_pos ⟨hfa, .inr ⟨h2, by rw [ho]; decide⟩⟩])
    have HB := Lib.hid h.bel
    rw [h2] at c14
    clear h P h1
    go_enter Tryz.func61, Tryz.ntmps61
    go_wp2_with (go_at_call 85; (with_reducible refine callP (ki.out _) ?_))
    go_ret
    exact RetRun.bad HS.out (by decide) HB.out
  have hat : x.e.at_ < x.p.es.length := by omega
  have h2' : (x.e.at_ == (x.p.es.length : Int)) = false := by simpa using h2
  have HS := Lib.hid (show runS L x.p x.e = holdS x.p x.e by unfold runS; rw [if_neg (by rintro ⟨_, h | ⟨h, _⟩⟩ <;> omega), ho]; rfl)
  have K := Lib.hid (ehold_any x g w W h P.ents P.cap P.len P.at0 hat P.gap)
  clear h P
  generalize holdS x.p x.e = r at K HS
  go_enter Tryz.func61, Tryz.ntmps61
  go_wp2_with (first
    | (go_at_call 85; (with_reducible refine callP (ki.out _) ?_))
    | (go_at_call 92; (with_reducible refine callRun K.out ?_); intro W' b' k'))
  all_goals
    go_ret
    rw [HS.out]
    exact ⟨rfl, b', k'⟩
set_option maxHeartbeats 4000000 in
theorem erun8_any (x : Edr) (g : Nat) (w W : World) (L : Look) (h : Ed w W g x []) (P : EdPre w g x L) (ho : x.e.op = 8) : Calls Tryz.prog 61 #[.pointer (some ⟨g, 0, none⟩)] W (RetRun w g x (runS L x.p x.e)) := by
  have c11 := h.c11
  have c13 := h.c13
  rw [ho] at c13
  have c14 := h.c14
  have f1 : W.cell? ⟨1, 17, none⟩ = some (.string ⟨#[97, 114, 110]⟩) := (P.forms.below h.bel).flds 8 (by decide)
  have ki := Lib.hid (fun W' => show Calls Tryz.prog 85 #[.string ⟨#[97, 114, 110]⟩, .int .u8 97] W' (RetP W' (.int .i64 (0))) from eindex_any [97, 114, 110] 97 W')
  have hfa : (formF x.e.op).contains 97 = true := by rw [ho]; decide
  by_cases h1 : (x.p.es.length : Int) < x.e.at_
  · have HS := Lib.hid (show runS L x.p x.e = .bad 6 by unfold runS; rw [if_pos ⟨hfa, .inl h1⟩])
    have HB := Lib.hid h.bel
    clear h P
    go_enter Tryz.func61, Tryz.ntmps61
    go_wp2_with (go_at_call 85; (with_reducible refine callP (ki.out _) ?_))
    go_ret
    exact RetRun.bad HS.out (by decide) HB.out
  by_cases h2 : x.e.at_ = x.p.es.length
  · have HS := Lib.hid (show runS L x.p x.e = .bad 6 by unfold runS; rw [if_pos ⟨hfa, .inr ⟨h2, by rw [ho]; decide⟩⟩])
    have HB := Lib.hid h.bel
    rw [h2] at c14
    clear h P h1
    go_enter Tryz.func61, Tryz.ntmps61
    go_wp2_with (go_at_call 85; (with_reducible refine callP (ki.out _) ?_))
    go_ret
    exact RetRun.bad HS.out (by decide) HB.out
  have hat : x.e.at_ < x.p.es.length := by omega
  have h2' : (x.e.at_ == (x.p.es.length : Int)) = false := by simpa using h2
  have HS := Lib.hid (show runS L x.p x.e = joinS L x.p x.e by unfold runS; rw [if_neg (by rintro ⟨_, h | ⟨h, _⟩⟩ <;> omega), ho]; rfl)
  have K := Lib.hid (P.hard.join W h ho hat)
  clear h P
  generalize joinS L x.p x.e = r at K HS
  go_enter Tryz.func61, Tryz.ntmps61
  go_wp2_with (first
    | (go_at_call 85; (with_reducible refine callP (ki.out _) ?_))
    | (go_at_call 93; (with_reducible refine callRun K.out ?_); intro W' b' k'))
  all_goals
    go_ret
    rw [HS.out]
    exact ⟨rfl, b', k'⟩
set_option maxHeartbeats 4000000 in
theorem erun9_any (x : Edr) (g : Nat) (w W : World) (L : Look) (h : Ed w W g x []) (P : EdPre w g x L) (ho : x.e.op = 9) : Calls Tryz.prog 61 #[.pointer (some ⟨g, 0, none⟩)] W (RetRun w g x (runS L x.p x.e)) := by
  have c11 := h.c11
  have c13 := h.c13
  rw [ho] at c13
  have c14 := h.c14
  have f1 : W.cell? ⟨1, 19, none⟩ = some (.string ⟨#[110, 119, 116]⟩) := (P.forms.below h.bel).flds 9 (by decide)
  have ki := Lib.hid (fun W' => show Calls Tryz.prog 85 #[.string ⟨#[110, 119, 116]⟩, .int .u8 97] W' (RetP W' (.int .i64 (-1))) from eindex_any [110, 119, 116] 97 W')
  have HS := Lib.hid (show runS L x.p x.e = departS L x.p x.e by unfold runS; rw [if_neg (by rintro ⟨h, _⟩; rw [ho] at h; exact absurd h (by decide)), ho]; rfl)
  have K := Lib.hid (P.hard.depart W h ho)
  clear h P
  generalize departS L x.p x.e = r at K HS
  go_enter Tryz.func61, Tryz.ntmps61
  go_wp2_with (first
    | (go_at_call 85; (with_reducible refine callP (ki.out _) ?_))
    | (go_at_call 94; (with_reducible refine callRun K.out ?_); intro W' b' k'))
  all_goals
    go_ret
    rw [HS.out]
    exact ⟨rfl, b', k'⟩
set_option maxHeartbeats 4000000 in
theorem erun10_any (x : Edr) (g : Nat) (w W : World) (L : Look) (h : Ed w W g x []) (P : EdPre w g x L) (ho : x.e.op = 10) : Calls Tryz.prog 61 #[.pointer (some ⟨g, 0, none⟩)] W (RetRun w g x (runS L x.p x.e)) := by
  have c11 := h.c11
  have c13 := h.c13
  rw [ho] at c13
  have c14 := h.c14
  have f1 : W.cell? ⟨1, 21, none⟩ = some (.string ⟨#[110, 119, 116]⟩) := (P.forms.below h.bel).flds 10 (by decide)
  have ki := Lib.hid (fun W' => show Calls Tryz.prog 85 #[.string ⟨#[110, 119, 116]⟩, .int .u8 97] W' (RetP W' (.int .i64 (-1))) from eindex_any [110, 119, 116] 97 W')
  have HS := Lib.hid (show runS L x.p x.e = arriveS L x.p x.e 2 3 by unfold runS; rw [if_neg (by rintro ⟨h, _⟩; rw [ho] at h; exact absurd h (by decide)), ho]; rfl)
  have K := Lib.hid (P.hard.arrive W h ho)
  clear h P
  generalize arriveS L x.p x.e 2 3 = r at K HS
  go_enter Tryz.func61, Tryz.ntmps61
  go_wp2_with (first
    | (go_at_call 85; (with_reducible refine callP (ki.out _) ?_))
    | (go_at_call 95; (with_reducible refine callRun K.out ?_); intro W' b' k'))
  all_goals
    go_ret
    rw [HS.out]
    exact ⟨rfl, b', k'⟩
set_option maxHeartbeats 4000000 in
theorem erun11_any (x : Edr) (g : Nat) (w W : World) (L : Look) (h : Ed w W g x []) (P : EdPre w g x L) (ho : x.e.op = 11) : Calls Tryz.prog 61 #[.pointer (some ⟨g, 0, none⟩)] W (RetRun w g x (runS L x.p x.e)) := by
  have c11 := h.c11
  have c13 := h.c13
  rw [ho] at c13
  have c14 := h.c14
  have f1 : W.cell? ⟨1, 23, none⟩ = some (.string ⟨#[110, 116]⟩) := (P.forms.below h.bel).flds 11 (by decide)
  have ki := Lib.hid (fun W' => show Calls Tryz.prog 85 #[.string ⟨#[110, 116]⟩, .int .u8 97] W' (RetP W' (.int .i64 (-1))) from eindex_any [110, 116] 97 W')
  have HS := Lib.hid (show runS L x.p x.e = arriveS L x.p x.e 3 4 by unfold runS; rw [if_neg (by rintro ⟨h, _⟩; rw [ho] at h; exact absurd h (by decide)), ho]; rfl)
  have K := Lib.hid (P.hard.approach W h ho)
  clear h P
  generalize arriveS L x.p x.e 3 4 = r at K HS
  go_enter Tryz.func61, Tryz.ntmps61
  go_wp2_with (first
    | (go_at_call 85; (with_reducible refine callP (ki.out _) ?_))
    | (go_at_call 95; (with_reducible refine callRun K.out ?_); intro W' b' k'))
  all_goals
    go_ret
    rw [HS.out]
    exact ⟨rfl, b', k'⟩
set_option maxHeartbeats 4000000 in
theorem erun12_any (x : Edr) (g : Nat) (w W : World) (L : Look) (h : Ed w W g x []) (P : EdPre w g x L) (ho : x.e.op = 12) : Calls Tryz.prog 61 #[.pointer (some ⟨g, 0, none⟩)] W (RetRun w g x (runS L x.p x.e)) := by
  have c11 := h.c11
  have c13 := h.c13
  rw [ho] at c13
  have c14 := h.c14
  have f1 : W.cell? ⟨1, 25, none⟩ = some (.string ⟨#[97, 110]⟩) := (P.forms.below h.bel).flds 12 (by decide)
  have ki := Lib.hid (fun W' => show Calls Tryz.prog 85 #[.string ⟨#[97, 110]⟩, .int .u8 97] W' (RetP W' (.int .i64 (0))) from eindex_any [97, 110] 97 W')
  have hfa : (formF x.e.op).contains 97 = true := by rw [ho]; decide
  by_cases h1 : (x.p.es.length : Int) < x.e.at_
  · have HS := Lib.hid (show runS L x.p x.e = .bad 6 by unfold runS; rw [if_pos ⟨hfa, .inl h1⟩])
    have HB := Lib.hid h.bel
    clear h P
    go_enter Tryz.func61, Tryz.ntmps61
    go_wp2_with (go_at_call 85; (with_reducible refine callP (ki.out _) ?_))
    go_ret
    exact RetRun.bad HS.out (by decide) HB.out
  by_cases h2 : x.e.at_ = x.p.es.length
  · have HS := Lib.hid (show runS L x.p x.e = .bad 6 by unfold runS; rw [if_pos ⟨hfa, .inr ⟨h2, by rw [ho]; decide⟩⟩])
    have HB := Lib.hid h.bel
    rw [h2] at c14
    clear h P h1
    go_enter Tryz.func61, Tryz.ntmps61
    go_wp2_with (go_at_call 85; (with_reducible refine callP (ki.out _) ?_))
    go_ret
    exact RetRun.bad HS.out (by decide) HB.out
  have hat : x.e.at_ < x.p.es.length := by omega
  have h2' : (x.e.at_ == (x.p.es.length : Int)) = false := by simpa using h2
  have HS := Lib.hid (show runS L x.p x.e = divertS L x.p x.e by unfold runS; rw [if_neg (by rintro ⟨_, h | ⟨h, _⟩⟩ <;> omega), ho]; rfl)
  have K := Lib.hid (P.hard.divert W h ho hat)
  clear h P
  generalize divertS L x.p x.e = r at K HS
  go_enter Tryz.func61, Tryz.ntmps61
  go_wp2_with (first
    | (go_at_call 85; (with_reducible refine callP (ki.out _) ?_))
    | (go_at_call 96; (with_reducible refine callRun K.out ?_); intro W' b' k'))
  all_goals
    go_ret
    rw [HS.out]
    exact ⟨rfl, b', k'⟩
theorem erun_any (x : Edr) (g : Nat) (w W : World) (L : Look) (h : Ed w W g x []) (P : EdPre w g x L) (ho : ¬ (x.e.op < 1 ∨ 12 < x.e.op)) : Calls Tryz.prog 61 #[.pointer (some ⟨g, 0, none⟩)] W (RetRun w g x (runS L x.p x.e)) := by
  have : x.e.op = 1 ∨ x.e.op = 2 ∨ x.e.op = 3 ∨ x.e.op = 4 ∨ x.e.op = 5 ∨ x.e.op = 6 ∨ x.e.op = 7 ∨ x.e.op = 8 ∨ x.e.op = 9 ∨ x.e.op = 10 ∨ x.e.op = 11 ∨ x.e.op = 12 := by omega
  rcases this with o | o | o | o | o | o | o | o | o | o | o | o
  · exact erun1_any x g w W L h P o
  · exact erun2_any x g w W L h P o
  · exact erun3_any x g w W L h P o
  · exact erun4_any x g w W L h P o
  · exact erun5_any x g w W L h P o
  · exact erun6_any x g w W L h P o
  · exact erun7_any x g w W L h P o
  · exact erun8_any x g w W L h P o
  · exact erun9_any x g w W L h P o
  · exact erun10_any x g w W L h P o
  · exact erun11_any x g w W L h P o
  · exact erun12_any x g w W L h P o
end Go.Proofs.YtlggdgpdfepppaaGreatDoor
namespace Go.Proofs.YtlggdgpdfepppaaGreatDoor
open Go.RowKit Go.Sort
set_option linter.unusedVariables false
set_option linter.unusedSimpArgs false
set_option maxRecDepth 100000
def RetAp (w : World) (r : Plan × Int) (e : Ending) (w' : World) : Prop :=
  ∃ A c, e = .returned (.tuple #[.agg (r.1.arr A c), .int .i64 r.2]) ∧ r.1.es.length ≤ c ∧ Ents w' A r.1.es ∧ (∀ a, A = some a → w.heap.size ≤ a.block) ∧ Below w.heap.size w w'
theorem callAp {P : Program} {f : FuncId} {args : Array Value} {W : World} {r : Plan × Int} {K : Ending → World → Prop} (h : Calls P f args W (RetAp W r))
    (k : ∀ A c w', r.1.es.length ≤ c → Ents w' A r.1.es → (∀ a, A = some a → W.heap.size ≤ a.block) → Below W.heap.size W w' → K (.returned (.tuple #[.agg (r.1.arr A c), .int .i64 r.2])) w') : Calls P f args W K :=
  h.mono fun e w' ⟨A, c, he, h1, h2, h3, h4⟩ => by subst he; exact k A c w' h1 h2 h3 h4
theorem callOutA {P : Program} {f : FuncId} {args : Array Value} {W : World} {es : List Entry} {K : Ending → World → Prop} (h : Calls P f args W (RetOut W es)) (k : ∀ A c w', es.length ≤ c → Ents w' A es → (∀ a, A = some a → W.heap.size ≤ a.block) → Below W.heap.size W w' → K (.returned (.slice A es.length c)) w') : Calls P f args W K :=
  h.mono fun e w' ⟨v, he, ho, hb⟩ => by
    subst he
    obtain ⟨A, c, rfl, h1, h2, h3⟩ := ho.form
    exact k A c w' h1 h2 h3 hb
theorem Ents.farA {w : World} {A : Option Addr} {es : List Entry} (h : Ents w A es) {g : Nat} (hA : ∀ a, A = some a → a.block ≠ g) (cs : Array Value) : Ents (w.setRow g cs) A es := by
  refine ⟨fun hne => ?_⟩
  obtain ⟨b, o, h1, h2, h3⟩ := h.at_ hne
  refine ⟨b, o, h1, by simpa [World.setRow] using h2, fun i x hx j hj => ?_⟩
  rw [World.cell?_of_block (w := w) (setRow_other w g b cs (hA _ h1))]
  exact h3 i x hx j hj
def bplanA (parts : Array (Nat × Value)) : Sem Value := Instr.build 24 parts
theorem bplanA_fold (parts : Array (Nat × Value)) : Instr.build 24 parts = bplanA parts := rfl
theorem run_bplanA0 (w : World) : (bplanA #[]).run Tryz.prog w = .ok (.agg (plan0.arr none 0)) w := run_build w _ _ _ (by kernel_rfl)
theorem run_bplanA4 (w : World) (a b : List UInt8) (n : Int) (es : List Entry) (A : Option Addr) (c : Nat) : (bplanA #[(0, .string ⟨a.toArray⟩), (1, .string ⟨b.toArray⟩), (3, .int .i64 n), (2, .slice A es.length c)]).run Tryz.prog w = .ok (.agg ((⟨a, b, es, n⟩ : Plan).arr A c)) w := run_build w _ _ _ (by kernel_rfl)
def bedr (parts : Array (Nat × Value)) : Sem Value := Instr.build 117 parts
theorem bedr_fold (parts : Array (Nat × Value)) : Instr.build 117 parts = bedr parts := rfl
def mkEdr (cs : Array Value) (p : Plan) (A : Option Addr) (c : Nat) (e : EditV) : Edr := ⟨cs.getD 0 undef, cs.getD 1 undef, cs.getD 2 undef, cs.getD 3 undef, cs.getD 4 undef, cs.getD 5 undef, cs.getD 6 undef, cs.getD 7 undef, cs.getD 8 undef, p, A, c, e, .slice none 0 0⟩
theorem list9A {l : List Value} (h : l.length = 9) : ∃ a b c d e f g h' i, l = [a, b, c, d, e, f, g, h', i] := by
  match l, h with
  | [a, b, c, d, e, f, g, h', i], _ => exact ⟨a, b, c, d, e, f, g, h', i, rfl⟩
theorem mkEdr_db {cs : Array Value} (h : cs.size = 9) (p : Plan) (A : Option Addr) (c : Nat) (e : EditV) : cs = (mkEdr cs p A c e).db := by
  obtain ⟨l⟩ := cs
  obtain ⟨x0, x1, x2, x3, x4, x5, x6, x7, x8, rfl⟩ := list9A (l := l) h
  rfl
theorem run_bedr (w : World) (cs : Array Value) (h : cs.size = 9) (p : Plan) (A : Option Addr) (c : Nat) (e : EditV) : (bedr #[(0, .agg cs), (1, .agg (p.arr A c)), (2, .agg e.arr)]).run Tryz.prog w = .ok (.agg (mkEdr cs p A c e).arr) w := by
  obtain ⟨l⟩ := cs
  obtain ⟨x0, x1, x2, x3, x4, x5, x6, x7, x8, rfl⟩ := list9A (l := l) h
  exact run_build w _ _ _ (by kernel_rfl)
theorem run_storeD_plan (W : World) (g o : Nat) (v : Array Value) (hv : SzIs v 4) (h1 : Ones v) (hp : Plain W g) (hn : Fits o 4 (blkOf W g)) :
    (store_plan (.pointer (some ⟨g, o, none⟩)) (.agg v)).run Tryz.prog W = .ok () (W.setRow g (splice (blkOf W g) o v)) := run_store_blk W g o 4 _ v info_plan hv h1 hp hn
theorem splice_planA (p q : Plan) (A B : Option Addr) (c d : Nat) : splice (p.arr A c) 0 (q.arr B d) = q.arr B d := rfl
theorem Fits_planA (p : Plan) (A : Option Addr) (c o n : Nat) : Fits o n (p.arr A c) = (o + n ≤ 4) := propext ⟨fun h => h, fun h => h⟩
attribute [local go_sem ↓] bplanA_fold bedr_fold
attribute [local go_sem] run_bplanA0 run_bplanA4 run_bedr run_storeD_plan splice_planA Fits_planA
theorem Ed.box {w W : World} (cs : Array Value) (p : Plan) (A : Option Addr) (c : Nat) (e : EditV) (hb : Below w.heap.size w W) : Ed w (W.alloc (.cells (mkEdr cs p A c e).arr 117)) W.heap.size (mkEdr cs p A c e) [] :=
  ⟨Blk.new _ _ _, ⟨rfl, .inl ⟨rfl, rfl⟩⟩, (by intro h; cases h), hb.alloc hb.size _, hb.size⟩
theorem Plan.smallOf {p : Plan} {n : Nat} (hn : n ≤ 4000000000) (h1 : p.from_.length ≤ 4000000000) (h2 : p.to_.length ≤ 4000000000) (h : SmL n p.es) : p.small := ⟨h1, h2, Nat.le_trans h.1 hn, h.2⟩
set_option maxHeartbeats 16000000 in
theorem eapply_any (d : DBs) (l : List FixV) (L : Look) (p : Plan) (A : Option Addr) (c : Nat) (e : EditV) (w : World) (hL : Laid w) (hF : FormsAt w) (hG : GapAt w) (hD : DbAt w d l) (hpt : L.pt = pointV d.lat d.lon l) (hLo : L.ok)
    (hp : p.small) (hc : p.es.length ≤ c) (hE : Ents w A p.es) (hpf : p.from_.length ≤ 1000000000) (hpt2 : p.to_.length ≤ 1000000000) (he : e.ref.length ≤ 1000000000 ∧ e.name.length ≤ 1000000000 ∧ e.rway.length ≤ 1000000000 ∧ e.trans.length ≤ 1000000000)
    (hH : ∀ wb g, Below w.heap.size w wb → planCheck p = 0 → editCheck e = 0 → EdHard wb g (mkEdr d.cells p A c e) L) :
    Calls Tryz.prog 33 #[.agg d.cells, .agg (p.arr A c), .agg e.arr] w (RetAp w (applyS L p e)) := by
  have h9 := hD.ok.size
  have hes : e.small := ⟨by have := he.1; omega, by have := he.2.1; omega, by have := he.2.2.1; omega, by have := he.2.2.2; omega⟩
  obtain ⟨R, hR⟩ : ∃ R, R = applyS L p e := ⟨_, rfl⟩
  rw [← hR]
  unfold applyS at hR
  have HA := Lib.hid hR
  clear hR
  have KC := Lib.hid (fun W' (b : Below w.heap.size w W') => planCheck_any p A c W' (hL.below b) hp hc (hE.below (B := 0) b))
  have KE := Lib.hid (fun W' (b : Below w.heap.size w W') => editCheck_any e hes W' (hL.below b) (hF.below b))
  have KR := Lib.hid (fun (h1 : planCheck p = 0) (h2 : editCheck e = 0) (wb W : World) (g : Nat) (b : Below w.heap.size w wb) (hx : Ed wb W g (mkEdr d.cells p A c e) []) =>
    show Calls Tryz.prog 61 #[.pointer (some ⟨g, 0, none⟩)] W (RetRun wb g (mkEdr d.cells p A c e) (runS L p e)) from
      erun_any (mkEdr d.cells p A c e) g wb W L hx ⟨hL.below b, hF.below b, hG.below b, hE.below (B := 0) b, hc, (planChk_ok h1).2.1, (planChk_ok h1).2.2.1, (planChk_ok h1).2.2.2, (edit_at h2).1, by show e.ref.length ≤ _; have := he.1; omega, ⟨d, l, mkEdr_db h9 p A c e, hD.below b, hpt⟩, hH wb g b h1 h2⟩
        (by have := (edit_ok h2).1; show ¬ (e.op < 1 ∨ 12 < e.op); omega))
  have HSM := Lib.hid (fun (h1 : planCheck p = 0) => runS_sm (L := L) (p := p) (e := e) ⟨(planChk_ok h1).2.1, hp.each, he.1, he.2.1, he.2.2.1, he.2.2.2, hpf, hpt2⟩ hLo)
  have HLB := Lib.hid (fun W' (b : Below w.heap.size w W') => hL.below b)
  generalize d.cells = cs at *
  clear hD hG hF hpt hLo hH hE hL
  go_enter Tryz.func33, Tryz.ntmps33
  go_upto_region 1 with (fail)
  generalize hW : (((w.alloc _).alloc _).alloc _).alloc _ = W
  have D0 : Blk W w.heap.size cs := by rw [← hW]; exact (((Blk.new w cs _).alloc _).alloc _).alloc _
  have P0 : Blk W (w.heap.size + 1) (p.arr A c) := by rw [← hW, ← World.size_alloc w (.cells cs 48)]; exact ((Blk.new _ _ _).alloc _).alloc _
  have E0 : Blk W (w.heap.size + 1 + 1) e.arr := by rw [← hW, ← World.size_alloc w (.cells cs 48), ← World.size_alloc (w.alloc (.cells cs 48)) (.cells (p.arr A c) 24)]; exact (Blk.new _ _ _).alloc _
  have R0 : Blk W (w.heap.size + 1 + 1 + 1) (plan0.arr none 0) := by rw [← hW, ← World.size_alloc w (.cells cs 48), ← World.size_alloc (w.alloc (.cells cs 48)) (.cells (p.arr A c) 24), ← World.size_alloc ((w.alloc (.cells cs 48)).alloc (.cells (p.arr A c) 24)) (.cells e.arr 58)]; exact Blk.new _ _ _
  have B0 : Below w.heap.size w W := by rw [← hW]; go_grown
  clear hW
  obtain ⟨gr, hgr⟩ : ∃ g, g = w.heap.size + 1 + 1 + 1 := ⟨_, rfl⟩
  rw [← hgr] at R0 ⊢
  have hge : w.heap.size ≤ gr := by omega
  clear hgr
  generalize w.heap.size + 1 + 1 = ge at E0 ⊢
  generalize w.heap.size + 1 = gp at P0 ⊢
  obtain ⟨gd, hgd⟩ : ∃ g, g = w.heap.size := ⟨_, rfl⟩
  rw [← hgd] at D0 ⊢
  clear hgd
  have i1 : Has_plan W gp 0 := ⟨_, P0.is_plan rfl⟩
  have i2 : of_plan W gp 0 = p.arr A c := of_plan_eq (P0.is_plan rfl)
  have k0 := KC.out W B0
  have k0 := Lib.hid (show Calls Tryz.prog 11 #[.agg (p.arr A c)] W (Ret W (.int .i64 (planCheck p))) from k0)
  clear KC
  by_cases h1 : planCheck p = 0
  case neg =>
    have HS := Lib.hid (show R = (plan0, planCheck p) from HA.out.trans (if_pos h1))
    generalize planCheck p = z at k0 HS h1
    have h1' : (z != 0) = true := by simpa using h1
    have HR := Lib.hid R0
    clear HA KE KR HSM D0 P0 E0 R0 h1
    go_wp2_with (go_at_call 11; (with_reducible refine callR k0.out ?_); intro w1 b1 _ _ _; have R1 := HR.out.step b1; have d2 := R1.plain; have d3 := R1.of)
    exact bodyPost_ret (results_agg Tryz.results33 _ _ gr (plan0.arr none 0) 4 _ rfl rfl (R1.set _).cell Tryz.underlying24 rfl info_plan) rfl ⟨none, 0, by rw [HS.out]; rfl, by rw [HS.out]; exact Nat.le_refl _, by rw [HS.out]; exact Ents.nil _ _, (fun a h => by cases h), below_setRow' (below_step B0 b1) hge _⟩
  case pos =>
    have HA := Lib.hid (show R = _ from HA.out.trans (if_neg (not_not_intro h1)))
    have KR := Lib.hid (KR.out h1)
    have HSM := Lib.hid (HSM.out h1)
    rw [h1] at k0
    clear h1
    go_upto_region 4 with (go_at_call 11; (with_reducible refine callR k0.out ?_); intro w1 b1 _ _ _)
    have D1 := D0.step b1
    have P1 := P0.step b1
    have E1 := E0.step b1
    have R1 := R0.step b1
    have B1 := below_step B0 b1
    clear D0 P0 E0 R0 B0 b1 i1 i2 k0
    have i1 : Has_edt w1 ge 0 := ⟨_, E1.is_edt⟩
    have i2 : of_edt w1 ge 0 = e := of_edt_eq E1.is_edt
    have k0 := Lib.hid (KE.out w1 B1)
    clear KE
    by_cases h1 : editCheck e = 0
    case neg =>
      have HS := Lib.hid (show R = (plan0, editCheck e) from HA.out.trans (if_pos h1))
      generalize editCheck e = z at k0 HS h1
      have h1' : (z != 0) = true := by simpa using h1
      have HR := Lib.hid R1
      clear HA KR HSM D1 P1 E1 R1 h1
      go_wp2_with (go_at_call 60; (with_reducible refine callR k0.out ?_); intro w2 b2 _ _ _; have R2 := HR.out.step b2; have d2 := R2.plain; have d3 := R2.of)
      exact bodyPost_ret (results_agg Tryz.results33 _ _ gr (plan0.arr none 0) 4 _ rfl rfl (R2.set _).cell Tryz.underlying24 rfl info_plan) rfl ⟨none, 0, by rw [HS.out]; rfl, by rw [HS.out]; exact Nat.le_refl _, by rw [HS.out]; exact Ents.nil _ _, (fun a h => by cases h), below_setRow' (below_step B1 b2) hge _⟩
    case pos =>
      have HA := Lib.hid (show R = _ from HA.out.trans (if_neg (not_not_intro h1)))
      have KR := Lib.hid (KR.out h1)
      rw [h1] at k0
      clear h1
      go_upto_region 7 with (go_at_call 60; (with_reducible refine callR k0.out ?_); intro w2 b2 _ _ _)
      have D2 := D1.step b2
      have P2 := P1.step b2
      have E2 := E1.step b2
      have R2 := R1.step b2
      have B2 := below_step B1 b2
      clear D1 P1 E1 R1 B1 b2 i1 i2 k0
      have i1 : Has_edt w2 ge 0 := ⟨_, E2.is_edt⟩
      have i2 : of_edt w2 ge 0 = e := of_edt_eq E2.is_edt
      have i3 : Has_plan w2 gp 0 := ⟨_, P2.is_plan rfl⟩
      have i4 : of_plan w2 gp 0 = p.arr A c := of_plan_eq (P2.is_plan rfl)
      have i5 : Has_db w2 gd 0 := ⟨_, D2.is_db h9⟩
      have i6 : of_db w2 gd 0 = cs := of_db_eq (D2.is_db h9)
      go_upto_region 8 with (fail)
      have X := Ed.box (w := w2) cs p A c e (Below.refl _ _)
      have hgw : gr < w2.heap.size := R2.lt
      have k0 := Lib.hid (KR.out w2 _ _ B2 X)
      clear KR D2 P2 E2 i1 i2 i3 i4 i5 i6 X
      generalize w2.alloc _ = W3 at k0 ⊢
      generalize hg : w2.heap.size = g at k0 ⊢
      generalize runS L p e = r at k0 HA HSM
      go_upto_region 9 with (go_at_call 61; (with_reducible refine callRun k0.out ?_); intro W4 b4 k4)
      have R4 := R2.step b4
      have B4 := below_step B2 b4
      clear k0 R2
      by_cases h1 : r.err = 0
      case neg =>
        have HS := Lib.hid (show R = (plan0, r.err) from HA.out.trans (if_pos h1))
        generalize r.err = z at k4 HS h1 ⊢
        have h1' : (z != 0) = true := by simpa using h1
        have d2 := R4.plain
        have d3 := R4.of
        clear HA HSM h1 k4 b4
        go_wp2
        exact bodyPost_ret (results_agg Tryz.results33 _ _ gr (plan0.arr none 0) 4 _ rfl rfl (R4.set _).cell Tryz.underlying24 rfl info_plan) rfl ⟨none, 0, by rw [HS.out]; rfl, by rw [HS.out]; exact Nat.le_refl _, by rw [HS.out]; exact Ents.nil _ _, (fun a h => by cases h), below_setRow' B4 hge _⟩
      case pos =>
        have HA := Lib.hid (show R = _ from HA.out.trans (if_neg (not_not_intro h1)))
        obtain ⟨v4, X4⟩ := k4 h1
        rw [h1]
        clear h1 k4
        go_upto_region 11 with (fail)
        obtain ⟨A2, c2, hv, hc2, hE2, _⟩ := X4.out.form
        have hv : v4 = .slice A2 r.list.length c2 := hv
        subst hv
        have hjs := joinE_small HSM.out.1
        obtain ⟨J, hJ⟩ : ∃ J, joinE r.list = J := ⟨_, rfl⟩
        rw [hJ] at HA hjs
        have KJ := Lib.hid (fun W' (b : Below W4.heap.size W4 W') => join_any r.list A2 c2 W' (by have := HSM.out.1.1; omega) hc2 (hE2.below (B := 0) b))
        rw [hJ] at KJ
        clear hJ
        go_cut [12] (fun v wx => ∃ A' c' gq, v = .pointer (some ⟨gq, 0, none⟩) ∧ Blk wx gq ((⟨r.from_, r.to_, J, r.active⟩ : Plan).arr A' c') ∧ J.length ≤ c' ∧ Ents wx A' J ∧ (∀ a, A' = some a → W4.heap.size ≤ a.block) ∧ Below W4.heap.size W4 wx)
        case first =>
          have c9 : W4.cell? ⟨g, 9, none⟩ = some (.string ⟨r.from_.toArray⟩) := X4.c9
          have c10 : W4.cell? ⟨g, 10, none⟩ = some (.string ⟨r.to_.toArray⟩) := X4.c10
          have c12 : W4.cell? ⟨g, 12, none⟩ = some (.int .i64 r.active) := X4.c12
          have c25 : W4.cell? ⟨g, 25, none⟩ = some (.slice A2 r.list.length c2) := X4.blk.cell 25
          have HX := Lib.hid X4
          have hgW : g ≠ W4.heap.size := by have := X4.lt; omega
          clear X4 R4 HA hE2
          go_region_held3 (fun w' => w'.cell? ⟨g, 9, none⟩ = some (.string ⟨r.from_.toArray⟩) ∧ w'.cell? ⟨g, 10, none⟩ = some (.string ⟨r.to_.toArray⟩) ∧ w'.cell? ⟨g, 12, none⟩ = some (.int .i64 r.active) ∧ w'.cell? ⟨g, 25, none⟩ = some (.slice A2 r.list.length c2)) (first | exact ⟨HX.out.c9, HX.out.c10, HX.out.c12, HX.out.blk.cell 25⟩ | exact ⟨(HX.out.alloc _).c9, (HX.out.alloc _).c10, (HX.out.alloc _).c12, (HX.out.alloc _).blk.cell 25⟩ | exact ⟨HX7.out.c9, HX7.out.c10, HX7.out.c12, HX7.out.blk.cell 25⟩ | exact ⟨(HX7.out.alloc _).c9, (HX7.out.alloc _).c10, (HX7.out.alloc _).c12, (HX7.out.alloc _).blk.cell 25⟩ | exact ⟨(HX7.out.blk.far hgW _).cell 9, (HX7.out.blk.far hgW _).cell 10, (HX7.out.blk.far hgW _).cell 12, (HX7.out.blk.far hgW _).cell 25⟩) (first
            | (go_at_call 62; (with_reducible refine callOutA (KJ.out _ (Below.refl _ _).drew) ?_); intro A7 c7 w7 h7 E7 a7 b7
               have HX7 := Lib.hid (HX.out.drw.step b7))
            | (go_at_call 62; (with_reducible refine callOutA (KJ.out _ (alloc_below5 _ _).drew) ?_); intro A7 c7 w7 h7 E7 a7 b7
               have Y7 : Blk w7 W4.heap.size (plan0.arr none 0) := ((Blk.new W4 (plan0.arr none 0) 24).step (Below.refl _ _).drew).step b7
               have q2 := Y7.plain
               have q3 := Y7.of
               have HX7 := Lib.hid ((HX.out.alloc (.cells (plan0.arr none 0) 24)).drw.step b7)
               have HA7 := Lib.hid a7
               have HB7 := Lib.hid b7
               have HE7 := Lib.hid E7
               have HY7 := Lib.hid Y7
               clear a7 E7 b7 Y7))
          all_goals
            go_wp2
            go_meet
            first
              | exact ⟨A7, c7, _, rfl, Blk.new _ _ _, h7, E7.below (B := 0) (alloc_below5 _ _), a7, below_step (Below.refl _ _).drew (below_step b7 (alloc_below5 _ _))⟩
              | exact ⟨A7, c7, _, rfl, HY7.out.set _, h7, HE7.out.farA (fun a ha => by have := HA7.out a ha; simp at this; omega) _, (fun a ha => by have := HA7.out a ha; simp at this; omega), below_setRow' (below_step (alloc_below5 _ _).drew HB7.out) (Nat.le_refl _) _⟩
        case rest =>
          obtain ⟨A', c', gq, rfl, Q, hJc, hEJ, hAJ, BC⟩ := hcut
          have hgr4 := R4.lt
          have hsz4 : w.heap.size ≤ W4.heap.size := B4.size
          have R5 := R4.step BC
          have B5 := below_step B4 BC
          clear R4 BC X4 KJ hE2 B4 b4
          obtain ⟨q, hq⟩ : ∃ q : Plan, q = ⟨r.from_, r.to_, J, r.active⟩ := ⟨_, rfl⟩
          have hqs : q.small := by rw [hq]; exact Plan.smallOf (n := 2 * 300300) (by omega) HSM.out.2.1 HSM.out.2.2 hjs
          have hqe : q.es = J := by rw [hq]
          rw [← hq] at HA Q
          rw [← hqe] at hJc hEJ
          have i1 : Has_plan wc gq 0 := ⟨_, Q.is_plan rfl⟩
          have i2 : of_plan wc gq 0 = q.arr A' c' := of_plan_eq (Q.is_plan rfl)
          have k0 := Lib.hid (show Calls Tryz.prog 11 #[.agg (q.arr A' c')] wc (Ret wc (.int .i64 (planCheck q))) from planCheck_any q A' c' wc (HLB.out wc B5) hqs hJc hEJ)
          clear hq hqs hqe HSM hjs
          by_cases h1 : planCheck q = 0
          case neg =>
            have HS := Lib.hid (show R = (plan0, planCheck q) from HA.out.trans (if_pos h1))
            generalize planCheck q = z at k0 HS h1
            have h1' : (z != 0) = true := by simpa using h1
            have HR := Lib.hid R5
            clear HA R5 h1 Q hJc hEJ hAJ
            go_wp2_with (go_at_call 11; (with_reducible refine callR k0.out ?_); intro w6 b6 _ _ _; have R6 := HR.out.step b6; have d2 := R6.plain; have d3 := R6.of)
            exact bodyPost_ret (results_agg Tryz.results33 _ _ gr (plan0.arr none 0) 4 _ rfl rfl (R6.set _).cell Tryz.underlying24 rfl info_plan) rfl ⟨none, 0, by rw [HS.out]; rfl, by rw [HS.out]; exact Nat.le_refl _, by rw [HS.out]; exact Ents.nil _ _, (fun a h => by cases h), below_setRow' (below_step B5 b6) hge _⟩
          case pos =>
            have HS := Lib.hid (show R = (q, 0) from HA.out.trans (if_neg (not_not_intro h1)))
            rw [h1] at k0
            have HR := Lib.hid R5
            have HQ := Lib.hid Q
            have HEJ := Lib.hid hEJ
            have HAJ := Lib.hid hAJ
            have HC := Lib.hid hJc
            clear HA R5 h1 Q hJc hEJ hAJ
            go_wp2_with (go_at_call 11; (with_reducible refine callR k0.out ?_); intro w6 b6 _ _ _; have R6 := HR.out.step b6; have d2 := R6.plain; have d3 := R6.of; have j1 : Has_plan w6 gq 0 := ⟨_, (HQ.out.step b6).is_plan rfl⟩; have j2 : of_plan w6 gq 0 = q.arr A' c' := of_plan_eq ((HQ.out.step b6).is_plan rfl))
            exact bodyPost_ret (results_agg Tryz.results33 _ _ gr (q.arr A' c') 4 _ rfl rfl (R6.set _).cell Tryz.underlying24 rfl info_plan) rfl ⟨A', c', by rw [HS.out]; rfl, by rw [HS.out]; exact HC.out, by rw [HS.out]; exact (HEJ.out.below (B := 0) b6).farA (fun a ha => by have := HAJ.out a ha; omega) _, (fun a ha => by have := HAJ.out a ha; have := hsz4; omega), below_setRow' (below_step B5 b6) hge _⟩
end Go.Proofs.YtlggdgpdfepppaaGreatDoor
