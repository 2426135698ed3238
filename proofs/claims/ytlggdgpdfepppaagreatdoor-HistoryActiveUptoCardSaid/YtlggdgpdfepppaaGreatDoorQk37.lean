/- Copies of plans and of lists of states; walks. Printed by wip/mkhisc.py. A history's beginning and what it shows; walks. A plan made the temporary one; walks. Undo, redo, execution, erasure, replacement; walks. Printed by wip/mkhisw3.py. Undo, redo, execution, erasure, replacement, an edit; walks. Replacement and an edit of a history; walks. -/
import Derived.Test.YtlggdgpdfepppaaGreatDoorQk21
import Derived.Test.YtlggdgpdfepppaaGreatDoorQk30
import Derived.Test.YtlggdgpdfepppaaGreatDoorQk36
import Derived.Deep.AppendLies
import Derived.Deep.RegionHeld3
namespace Go.Proofs.YtlggdgpdfepppaaGreatDoor
open Go.RowKit Go.Sort
set_option linter.unusedVariables false
set_option linter.unusedSimpArgs false
set_option maxRecDepth 100000
theorem infoA_ent : (Tryz.prog.info? 82).map (fun i => (i.zero, i.size, i.bytes)) = some (some (.agg zeroE.arr), 20, 176) := by kernel_rfl
theorem infoA_st : (Tryz.prog.info? 87).map (fun i => (i.zero, i.size, i.bytes)) = some (some (.agg noMS.arr), 5, 72) := by kernel_rfl
theorem clone_ent (l : List (Array Value)) (A : Option Addr) (m c : Nat) (w : World) (hI : Items w A 20 l) (hm : l.length = m) (hn : m ≤ 100000000) (hl : ∀ y ∈ l, y.size = 20) (h1 : ∀ y ∈ l, y.toList.all (·.oneCell') = true) :
    Calls Tryz.prog 46 #[.slice A m c] w (RetCl w 82 20 m l) := by
  have HL := Lib.hid hl
  have H1 := Lib.hid h1
  have HM := Lib.hid hm
  clear hl h1 hm
  cases A with
  | none =>
    obtain rfl := hI.none_nil
    obtain rfl : 0 = m := HM.out
    have he := fun w => Lib.run_eql_slice_nil (P := Tryz.prog) w 22 82 none 0 c 0 0 Tryz.underlying22
    clear HL H1 HM hI
    go_enter Tryz.func46, Tryz.ntmps46
    go_wp2
    go_ret
    exact ⟨none, 0, rfl, GOut.nil _ _ _ _, Below.refl _ _⟩
  | some ad =>
    have he := fun w => Lib.run_eql_slice_nil (P := Tryz.prog) w 22 82 (some ad) m c 0 0 Tryz.underlying22
    have HI := Lib.hid hI
    clear hI
    have HE := Lib.hid (GOut.empty w 82 20)
    go_enter Tryz.func46, Tryz.ntmps46
    go_wp2_with (at_builtin; refine wpList_append_items rfl (.tmp 5) (.tmp 6) _ 82 20 176 _ infoA_ent rfl (by omega) Tryz.underlying22 rfl HE.out rfl l (some ad) m c HM.out rfl (HI.out.below (alloc_below3 _ _)) HL.out H1.out (by simp only [List.length_nil]; unfold maxLen; omega) (by simp only [List.length_nil]; omega) (by simp) ?_; intro v' W' O' G' N'; rw [List.nil_append] at O'; obtain ⟨A', c', hv⟩ := O'.len; rw [HM.out] at hv; subst hv)
    go_ret
    exact ⟨A', c', rfl, O', HE.out.below_grown G' (alloc_below3 w _) (Nat.le_refl _) (by simp)⟩
theorem clone_st (l : List (Array Value)) (A : Option Addr) (m c : Nat) (w : World) (hI : Items w A 5 l) (hm : l.length = m) (hn : m ≤ 100000000) (hl : ∀ y ∈ l, y.size = 5) (h1 : ∀ y ∈ l, y.toList.all (·.oneCell') = true) :
    Calls Tryz.prog 63 #[.slice A m c] w (RetCl w 87 5 m l) := by
  have HL := Lib.hid hl
  have H1 := Lib.hid h1
  have HM := Lib.hid hm
  clear hl h1 hm
  cases A with
  | none =>
    obtain rfl := hI.none_nil
    obtain rfl : 0 = m := HM.out
    have he := fun w => Lib.run_eql_slice_nil (P := Tryz.prog) w 88 87 none 0 c 0 0 Tryz.underlying88
    clear HL H1 HM hI
    go_enter Tryz.func63, Tryz.ntmps63
    go_wp2
    go_ret
    exact ⟨none, 0, rfl, GOut.nil _ _ _ _, Below.refl _ _⟩
  | some ad =>
    have he := fun w => Lib.run_eql_slice_nil (P := Tryz.prog) w 88 87 (some ad) m c 0 0 Tryz.underlying88
    have HI := Lib.hid hI
    clear hI
    have HE := Lib.hid (GOut.empty w 87 5)
    go_enter Tryz.func63, Tryz.ntmps63
    go_wp2_with (at_builtin; refine wpList_append_items rfl (.tmp 5) (.tmp 6) _ 87 5 72 _ infoA_st rfl (by omega) Tryz.underlying88 rfl HE.out rfl l (some ad) m c HM.out rfl (HI.out.below (alloc_below3 _ _)) HL.out H1.out (by simp only [List.length_nil]; unfold maxLen; omega) (by simp only [List.length_nil]; omega) (by simp) ?_; intro v' W' O' G' N'; rw [List.nil_append] at O'; obtain ⟨A', c', hv⟩ := O'.len; rw [HM.out] at hv; subst hv)
    go_ret
    exact ⟨A', c', rfl, O', HE.out.below_grown G' (alloc_below3 w _) (Nat.le_refl _) (by simp)⟩
theorem Ents.items {w : World} {A : Option Addr} {es : List Entry} (h : Ents w A es) : Items w A 20 (es.map Entry.arr) where
  at_ hne := by
    obtain ⟨b, o, rfl, hb, hc⟩ := h.at_ (by simpa using hne)
    refine ⟨b, o, rfl, hb, fun i x hx j hj => ?_⟩
    rw [List.getElem?_map] at hx
    cases hq : es[i]? with
    | none => rw [hq] at hx; cases hx
    | some y =>
      rw [hq] at hx
      obtain rfl : y.arr = x := by simpa using hx
      exact hc i y hq j hj
theorem Items.ents {w : World} {A : Option Addr} {es : List Entry} (h : Items w A 20 (es.map Entry.arr)) : Ents w A es where
  at_ hne := by
    obtain ⟨b, o, rfl, hb, hc⟩ := h.at_ (by simpa using hne)
    exact ⟨b, o, rfl, hb, fun i x hx j hj => hc i x.arr (by rw [List.getElem?_map, hx]; rfl) j hj⟩
theorem ent_sizes (l : List Entry) : ∀ y ∈ l.map Entry.arr, y.size = 20 := fun y hy => by
  obtain ⟨s, _, rfl⟩ := List.mem_map.1 hy
  exact s.arr_size
theorem ent_ones (l : List Entry) : ∀ y ∈ l.map Entry.arr, y.toList.all (·.oneCell') = true := fun y hy => by
  obtain ⟨s, _, rfl⟩ := List.mem_map.1 hy
  simp [Entry.arr, Value.oneCell']
def RetOwn (w : World) (p : Plan) (e : Ending) (w' : World) : Prop := ∃ A c, e = .returned (.agg (p.arr A c)) ∧ p.es.length ≤ c ∧ Ents w' A p.es ∧ (∀ a, A = some a → w.heap.size ≤ a.block) ∧ Below w.heap.size w w'
theorem callOwn {P : Program} {f : FuncId} {args : Array Value} {W : World} {p : Plan} {K : Ending → World → Prop} (h : Calls P f args W (RetOwn W p))
    (k : ∀ A c w', p.es.length ≤ c → Ents w' A p.es → (∀ a, A = some a → W.heap.size ≤ a.block) → Below W.heap.size W w' → K (.returned (.agg (p.arr A c))) w') : Calls P f args W K :=
  h.mono fun e w' ⟨A, c, he, h1, h2, h3, h4⟩ => by subst he; exact k A c w' h1 h2 h3 h4
attribute [local go_sem ↓] bplanA_fold
attribute [local go_sem] run_bplanA0 run_storeD_plan splice_planA Fits_planA
set_option maxHeartbeats 4000000 in
theorem own_any (p : Plan) (A : Option Addr) (c : Nat) (w : World) (hc : p.es.length ≤ c) (hn : p.es.length ≤ 1000000) (hE : Ents w A p.es) :
    Calls Tryz.prog 26 #[.agg (p.arr A c)] w (RetOwn w p) := by
  go_enter Tryz.func26, Tryz.ntmps26
  go_upto_region 1 with (fail)
  generalize hW : (w.alloc _).alloc _ = W
  have P0 : Blk W w.heap.size (p.arr A c) := by rw [← hW]; exact (Blk.new w _ _).alloc _
  have R0 : Blk W (w.heap.size + 1) (plan0.arr none 0) := by rw [← hW, ← World.size_alloc w (.cells (p.arr A c) 24)]; exact Blk.new _ _ _
  have B0 : Below w.heap.size w W := by rw [← hW]; go_grown
  clear hW
  have kc := Lib.hid (clone_ent (p.es.map Entry.arr) A p.es.length c W (Ents.items (hE.below (B := 0) B0)) (by simp) (by omega) (ent_sizes _) (ent_ones _))
  obtain ⟨gp, hgp⟩ : ∃ g, g = w.heap.size := ⟨_, rfl⟩
  obtain ⟨gr, hgr⟩ : ∃ g, g = w.heap.size + 1 := ⟨_, rfl⟩
  rw [← hgr] at R0 ⊢
  rw [← hgp] at P0 ⊢
  have hne : gr ≠ gp := by omega
  have hge1 : w.heap.size ≤ gp := by omega
  have hge2 : w.heap.size ≤ gr := by omega
  clear hgp hgr
  have hsz := B0.size
  have hlt1 := P0.lt
  have hlt2 := R0.lt
  have k2 : W.cell? ⟨gp, 2, none⟩ = some (.slice A p.es.length c) := P0.cell 2
  go_upto_region 2 with (go_at_call 46; (with_reducible refine callCl kc.out ?_); intro A3 c3 w3 O3 b3; have Z3 := P0.step b3; have f1 := Z3.frozen 2; have f2 : w3.cell? ⟨gp, 2, none⟩ = some (.slice A p.es.length c) := Z3.cell 2)
  have Z4 : Blk (w3.setCell ⟨gp, 2, none⟩ (.slice A3 p.es.length c3)) gp (p.arr A3 c3) := Z3.setCell 2 _
  have R4 := ((R0.step b3).setFar hne 2 (.slice A3 p.es.length c3))
  have D4 := below_setCell (below_step B0 b3) hge1 2 (.slice A3 p.es.length c3)
  obtain ⟨A4, c4, e4, hl4, hI4, hA4, _⟩ := O3.form (ent_sizes _)
  injection e4 with e4 _ e5
  subst e4 e5
  rw [List.length_map] at hl4
  have hE5 : Ents (w3.setCell ⟨gp, 2, none⟩ (.slice A3 p.es.length c3)) A3 p.es := (Items.ents hI4).keepB (by simp [World.setCell]) (fun _ a ha => Below.heap_setCell _ _ _ _ (by have := hA4 a ha; show a.block ≠ gp; omega))
  clear f1 f2 Z3 O3 hI4 kc k2 P0 R0
  generalize w3.setCell _ _ = w4 at *
  have i1 : Has_plan w4 gp 0 := ⟨_, Z4.is_plan rfl⟩
  have i2 : of_plan w4 gp 0 = p.arr A3 c3 := of_plan_eq (Z4.is_plan rfl)
  have d2 := R4.plain
  have d3 := R4.of
  go_wp2
  exact bodyPost_ret (results_agg1 Tryz.results26 _ _ gr (p.arr A3 c3) 4 _ rfl rfl (R4.set _).cell Tryz.underlying24 rfl info_plan) rfl ⟨A3, c3, rfl, hl4, hE5.farA (fun a ha => by have := hA4 a ha; omega) _, (fun a ha => by have := hA4 a ha; omega), below_setRow' D4 hge2 _⟩
end Go.Proofs.YtlggdgpdfepppaaGreatDoor
namespace Go.Proofs.YtlggdgpdfepppaaGreatDoor
open Go.RowKit Go.Sort
set_option linter.unusedVariables false
set_option linter.unusedSimpArgs false
set_option maxRecDepth 100000
def bhis (parts : Array (Nat × Value)) : Sem Value := Instr.build 90 parts
theorem bhis_fold (parts : Array (Nat × Value)) : Instr.build 90 parts = bhis parts := rfl
def newHM (p : Plan) (A : Option Addr) (c : Nat) : HM := ⟨p, A, c, noMS, [], [], .slice none 0 0, .slice none 0 0⟩
theorem run_bhis (w : World) (p : Plan) (A : Option Addr) (c : Nat) : (bhis #[(0, .agg (p.arr A c))]).run Tryz.prog w = .ok (.agg (newHM p A c).arr) w := run_build w _ _ _ (by kernel_rfl)
theorem His.new {w W : World} {p : Plan} {A : Option Addr} {c : Nat} (hb : Below w.heap.size w W) (hc : p.es.length ≤ c) (hE : Ents W A p.es) (t : TypeId) : His w (W.alloc (.cells (newHM p A c).arr t)) W.heap.size (newHM p A c) where
  blk := Blk.new _ _ _
  uo := GOut.nil _ _ _ _
  ro := GOut.nil _ _ _ _
  ug := by intro h; cases h
  rg := by intro h; cases h
  ur k h := by cases h
  pl := ⟨hc, hE.below (B := 0) ((Below.refl _ _).alloc (Nat.le_refl _) _), fun hne a ha => ⟨by
    obtain ⟨b, o, hA, hb, _⟩ := hE.at_ hne
    rw [hA] at ha
    injection ha with ha
    subst ha
    show b ≠ _
    omega, (by intro h; cases h), (by intro h; cases h)⟩⟩
  tp := StW.zero _ _ _ _
  us_ s hs := by cases hs
  rs_ s hs := by cases hs
  bel := hb.alloc hb.size _
  ge := hb.size
theorem newHM_abs (p : Plan) (A : Option Addr) (c : Nat) : (newHM p A c).abs = histNew p := rfl
def RetNew (w : World) (p : Plan) (e : Ending) (w' : World) : Prop := ∃ v, e = .returned (.tuple #[v, .int .i64 (planCheck p)]) ∧ Below w.heap.size w w' ∧ (planCheck p ≠ 0 → v = .pointer none) ∧ (planCheck p = 0 → ∃ g A c, v = .pointer (some ⟨g, 0, none⟩) ∧ His w w' g (newHM p A c) ∧ ∀ a, A = some a → w.heap.size ≤ a.block)
attribute [local go_sem ↓] bplanA_fold bhis_fold
attribute [local go_sem] run_bplanA0 run_storeD_plan splice_planA Fits_planA run_bhis
set_option maxHeartbeats 4000000 in
theorem hnew_any (p : Plan) (A : Option Addr) (c : Nat) (w : World) (hL : Laid w) (hs : p.small) (hc : p.es.length ≤ c) (hE : Ents w A p.es) :
    Calls Tryz.prog 9 #[.agg (p.arr A c)] w (RetNew w p) := by
  have HPL := Lib.hid (fun h => (planChk_ok (p := p) h).2.1)
  have HL := Lib.hid (fun W' (b : Below w.heap.size w W') => planCheck_any p A c W' (hL.below b) hs hc (hE.below (B := 0) b))
  have HO := Lib.hid (fun W' (b : Below w.heap.size w W') (hn : p.es.length ≤ 60) => own_any p A c W' hc (by omega) (hE.below (B := 0) b))
  clear hL hs hc hE
  go_enter Tryz.func9, Tryz.ntmps9
  go_upto_region 1 with (fail)
  have P0 : Blk (w.alloc (.cells (p.arr A c) 24)) w.heap.size (p.arr A c) := Blk.new w _ _
  have B0 := alloc_below5 w (.cells (p.arr A c) 24)
  generalize w.alloc _ = W at P0 B0 ⊢
  obtain ⟨gp, hgp⟩ : ∃ g, g = w.heap.size := ⟨_, rfl⟩
  rw [← hgp] at P0 ⊢
  clear hgp
  have i1 : Has_plan W gp 0 := ⟨_, P0.is_plan rfl⟩
  have i2 : of_plan W gp 0 = p.arr A c := of_plan_eq (P0.is_plan rfl)
  have kc := Lib.hid (HL.out W B0)
  by_cases hz : planCheck p = 0
  · have hn := HPL.out hz
    rw [hz] at kc
    have HN := Lib.hid hn
    have HZ := Lib.hid hz
    clear hz hn
    go_upto_region 4 with (go_at_call 11; (with_reducible refine callR kc.out ?_); intro w2 b2 _ _ _)
    have P2 := P0.step b2
    have B2 := below_step B0 b2
    have j1 : Has_plan w2 gp 0 := ⟨_, P2.is_plan rfl⟩
    have j2 : of_plan w2 gp 0 = p.arr A c := of_plan_eq (P2.is_plan rfl)
    have ko := Lib.hid (HO.out w2 B2 HN.out)
    clear i1 i2 kc P0 B0 b2 P2
    go_wp2_with (go_at_call 26; (with_reducible refine callOwn ko.out ?_); intro A3 c3 w3 hl3 hE3 hA3 b3)
    go_ret2
    exact ⟨_, by rw [HZ.out]; rfl, below_step (below_step B2 b3) (alloc_below5 _ _), fun h => absurd HZ.out h, fun _ => ⟨_, A3, c3, rfl, His.new (below_step B2 b3) hl3 hE3 _, fun a ha => by have := hA3 a ha; have := B2.size; omega⟩⟩
  · have HZ := Lib.hid hz
    have hz' : (planCheck p != 0) = true := by simpa using hz
    generalize hq : planCheck p = z at *
    clear hz
    go_wp2_with (go_at_call 11; (with_reducible refine callR kc.out ?_); intro w2 b2 _ _ _)
    go_ret2
    exact ⟨_, by rw [hq]; rfl, below_step B0 b2, fun _ => rfl, fun h => absurd (hq.symm.trans h) HZ.out⟩
theorem callNew {P : Program} {f : FuncId} {args : Array Value} {W : World} {p : Plan} {K : Ending → World → Prop} (h : Calls P f args W (RetNew W p)) (hz : planCheck p = 0)
    (k : ∀ g A c w', His W w' g (newHM p A c) → (∀ a, A = some a → W.heap.size ≤ a.block) → K (.returned (.tuple #[.pointer (some ⟨g, 0, none⟩), .int .i64 0])) w') : Calls P f args W K :=
  h.mono fun e w' ⟨v, he, _, _, h2⟩ => by
    obtain ⟨g, A, c, rfl, h3, h4⟩ := h2 hz
    subst he
    rw [hz]
    exact k g A c w' h3 h4
set_option maxHeartbeats 4000000 in
theorem hactive_any {w : World} (W : World) (g : Nat) (m : HM) (h : His w W g m) (hn : m.p.es.length ≤ 1000000) :
    Calls Tryz.prog 19 #[.pointer (some ⟨g, 0, none⟩)] W (RetOwn W m.p) := by
  go_enter Tryz.func19, Tryz.ntmps19
  go_upto_region 1 with (fail)
  have R0 : Blk (W.alloc (.cells (plan0.arr none 0) 24)) W.heap.size (plan0.arr none 0) := Blk.new W _ _
  have B0 := alloc_below5 W (.cells (plan0.arr none 0) 24)
  have X0 := h.alloc (.cells (plan0.arr none 0) 24)
  generalize hW0 : W.alloc _ = W0
  have hE : W.alloc (.cells (plan0.arr none 0) 24) = W0 := hW0
  rw [hE] at R0 B0 X0
  clear hW0 hE
  obtain ⟨gr, hgr⟩ : ∃ g, g = W.heap.size := ⟨_, rfl⟩
  rw [← hgr] at R0 ⊢
  have hge : W.heap.size ≤ gr := by omega
  have hlt := R0.lt
  clear hgr
  have i1 : Has_plan W0 g 0 := ⟨_, X0.is_plan⟩
  have i2 : of_plan W0 g 0 = m.p.arr m.A m.c := of_plan_eq X0.is_plan
  have ko := Lib.hid (own_any m.p m.A m.c W0 X0.pl.len hn X0.pl.ents)
  clear h X0
  go_wp2_with (go_at_call 26; (with_reducible refine callOwn ko.out ?_); intro A3 c3 w3 hl3 hE3 hA3 b3; have R3 := R0.step b3; have d2 := R3.plain; have d3 := R3.of)
  exact bodyPost_ret (results_agg1 Tryz.results19 _ _ gr (m.p.arr A3 c3) 4 _ rfl rfl (R3.set _).cell Tryz.underlying24 rfl info_plan) rfl ⟨A3, c3, rfl, hl3, hE3.farA (fun a ha => by have := hA3 a ha; omega) _, (fun a ha => by have := hA3 a ha; have := B0.size; omega), below_setRow' (below_step B0 b3) hge _⟩
def RetTmp (w : World) (q : Option Plan) (e : Ending) (w' : World) : Prop := ∃ A c, e = .returned (.tuple #[.agg ((q.getD plan0).arr A c), .bool q.isSome]) ∧ (q.getD plan0).es.length ≤ c ∧ Ents w' A (q.getD plan0).es ∧ (∀ a, A = some a → w.heap.size ≤ a.block) ∧ Below w.heap.size w w'
theorem callTmp {P : Program} {f : FuncId} {args : Array Value} {W : World} {q : Option Plan} {K : Ending → World → Prop} (h : Calls P f args W (RetTmp W q))
    (k : ∀ A c w', (q.getD plan0).es.length ≤ c → Ents w' A (q.getD plan0).es → (∀ a, A = some a → W.heap.size ≤ a.block) → Below W.heap.size W w' → K (.returned (.tuple #[.agg ((q.getD plan0).arr A c), .bool q.isSome])) w') : Calls P f args W K :=
  h.mono fun e w' ⟨A, c, he, h1, h2, h3, h4⟩ => by subst he; exact k A c w' h1 h2 h3 h4
set_option maxHeartbeats 4000000 in
theorem htemp_any {w : World} (W : World) (g : Nat) (m : HM) (h : His w W g m) (hn : m.t.p.es.length ≤ 1000000) :
    Calls Tryz.prog 16 #[.pointer (some ⟨g, 0, none⟩)] W (RetTmp W m.t.abs) := by
  go_enter Tryz.func16, Tryz.ntmps16
  go_upto_region 1 with (fail)
  have R0 : Blk (W.alloc (.cells (plan0.arr none 0) 24)) W.heap.size (plan0.arr none 0) := Blk.new W _ _
  have B0 := alloc_below5 W (.cells (plan0.arr none 0) 24)
  have X0 := h.alloc (.cells (plan0.arr none 0) 24)
  generalize hW0 : W.alloc _ = W0
  have hE : W.alloc (.cells (plan0.arr none 0) 24) = W0 := hW0
  rw [hE] at R0 B0 X0
  clear hW0 hE
  obtain ⟨gr, hgr⟩ : ∃ g, g = W.heap.size := ⟨_, rfl⟩
  rw [← hgr] at R0 ⊢
  have hge : W.heap.size ≤ gr := by omega
  have hlt := R0.lt
  clear hgr
  have i1 : Has_plan W0 g 4 := ⟨_, X0.is_tplan⟩
  have i2 : of_plan W0 g 4 = m.t.p.arr m.t.A m.t.c := of_plan_eq X0.is_tplan
  have c8 := X0.c8
  have ko := Lib.hid (own_any m.t.p m.t.A m.t.c W0 X0.tp.pl.len hn X0.tp.pl.ents)
  have HA := Lib.hid (show m.t.abs = if m.t.b then some m.t.p else none from rfl)
  clear h X0
  cases hb : m.t.b with
  | true =>
    rw [hb] at c8 HA
    have HA := Lib.hid (show m.t.abs = some m.t.p from HA.out)
    go_wp2_with (go_at_call 26; (with_reducible refine callOwn ko.out ?_); intro A3 c3 w3 hl3 hE3 hA3 b3; have R3 := R0.step b3; have d2 := R3.plain; have d3 := R3.of)
    exact bodyPost_ret (results_agg Tryz.results16 _ _ gr (m.t.p.arr A3 c3) 4 _ rfl rfl (R3.set _).cell Tryz.underlying24 rfl info_plan) rfl ⟨A3, c3, by rw [HA.out]; rfl, by rw [HA.out]; exact hl3, by rw [HA.out]; exact hE3.farA (fun a ha => by have := hA3 a ha; omega) _, (fun a ha => by have := hA3 a ha; have := B0.size; omega), below_setRow' (below_step B0 b3) hge _⟩
  | false =>
    rw [hb] at c8 HA
    have HA := Lib.hid (show m.t.abs = none from HA.out)
    have d2 := R0.plain
    have d3 := R0.of
    go_wp2
    exact bodyPost_ret (results_agg Tryz.results16 _ _ gr (plan0.arr none 0) 4 _ rfl rfl (R0.set _).cell Tryz.underlying24 rfl info_plan) rfl ⟨none, 0, by rw [HA.out]; rfl, by rw [HA.out]; exact Nat.le_refl _, by rw [HA.out]; exact Ents.nil _ _, (fun a ha => by cases ha), below_setRow' B0 hge _⟩
set_option maxHeartbeats 4000000 in
theorem hdepth_any {w : World} (W : World) (g : Nat) (m : HM) (h : His w W g m) :
    Calls Tryz.prog 22 #[.pointer (some ⟨g, 0, none⟩)] W (Ret W (.tuple #[.int .i64 m.us.length, .int .i64 m.rs.length])) := by
  obtain ⟨A1, c1, e1⟩ := h.ul
  obtain ⟨A2, c2, e2⟩ := h.rl
  have c9 := h.c9
  have c10 := h.c10
  rw [e1] at c9
  rw [e2] at c10
  clear e1 e2 h
  go_enter Tryz.func22, Tryz.ntmps22
  go_upto_region 3 with (fail)
  go_region
  go_wp2
  go_ret2
  exact ⟨rfl, (Below.refl _ _).drew⟩
end Go.Proofs.YtlggdgpdfepppaaGreatDoor
namespace Go.Proofs.YtlggdgpdfepppaaGreatDoor
open Go.RowKit Go.Sort
set_option linter.unusedVariables false
set_option linter.unusedSimpArgs false
set_option maxRecDepth 100000
theorem of_st_drew (W : World) (b o : Nat) : of_st W.drew b o = of_st W b o := rfl
def bst (parts : Array (Nat × Value)) : Sem Value := Instr.build 87 parts
theorem bst_fold (parts : Array (Nat × Value)) : Instr.build 87 parts = bst parts := rfl
theorem run_bst2 (w : World) (p : Plan) (A : Option Addr) (c : Nat) (b : Bool) : (bst #[(0, .agg (p.arr A c)), (1, .bool b)]).run Tryz.prog w = .ok (.agg (MS.mk p A c b).arr) w := run_build w _ _ _ (by kernel_rfl)
theorem run_bst0 (w : World) : (bst #[]).run Tryz.prog w = .ok (.agg noMS.arr) w := run_build w _ _ _ (by kernel_rfl)
def bsst (parts : Array (Nat × Value)) : Sem Value := Instr.buildSlice 88 1 parts
theorem bsst_fold (parts : Array (Nat × Value)) : Instr.buildSlice 88 1 parts = bsst parts := rfl
theorem run_bsst (w : World) (x : MS) : (bsst #[(0, .agg x.arr)]).run Tryz.prog w = .ok (.slice (some ⟨w.heap.size, 0, none⟩) 1 1) (w.alloc (.cells x.arr 87)) := by
  obtain ⟨i0, hi, hz0, hz1, hz2⟩ := info_parts infoA_st
  refine run_buildSlice w 88 87 1 #[(0, .agg x.arr)] x.arr i0 _ Tryz.underlying88 hi hz0 (by rw [hz1]; decide) (by rw [hz1]; decide) ?_
  rw [hz1]
  kernel_rfl
def subS (A : Option Addr) (k c : Nat) : Option Addr := if c = k then A else A.map (·.add (k * 5))
theorem Items.dropS {w : World} {A : Option Addr} {l : List (Array Value)} (h : Items w A 5 l) {k c : Nat} (hc : l.length ≤ c) : Items w (subS A k c) 5 (l.drop k) := by
  refine ⟨fun hne => ?_⟩
  have hk : k < l.length := by
    rcases Nat.lt_or_ge k l.length with h | h
    · exact h
    · exact absurd (List.drop_of_length_le h) hne
  obtain ⟨b, o, rfl, hb, hcell⟩ := h.at_ (by rintro rfl; simp at hk)
  refine ⟨b, o + k * 5, ?_, hb, fun i x hx j hj => ?_⟩
  · unfold subS
    rw [if_neg (by omega), Option.map_some, addr_add]
  · rw [List.getElem?_drop] at hx
    have := hcell (k + i) x hx j hj
    rw [← this]
    congr 2
    omega
def slS (v : Value) (lo hi : Option Value) : Sem Value := Instr.slice 88 v lo hi none
theorem slS_fold (v : Value) (lo hi : Option Value) : Instr.slice 88 v lo hi none = slS v lo hi := rfl
theorem elem_sts : Tryz.prog.elem 88 = 87 := by kernel_rfl
theorem run_size_st (w : World) : (sizeOf 87).run Tryz.prog w = .ok 5 w := by
  have h := info_st
  cases hq : Tryz.prog.info? 87 with
  | none => rw [hq] at h; cases h
  | some i =>
    rw [hq] at h
    simp only [Option.map_some, Option.some.injEq] at h
    simp [sizeOf, typeInfo, Sem.run_bind, hq, h, Result.andThen]
theorem run_slS_h (A : Option Addr) (n c : Nat) (h : Int) (h0 : 0 ≤ h) (h1 : h ≤ c) (w : World) : (slS (.slice A n c) none (some (.int .i64 h))).run Tryz.prog w = .ok (.slice (subS A 0 c) h.toNat c) w := by
  unfold slS
  rw [run_slice_h (P := Tryz.prog) w 88 A n c (by rw [elem_sts]; exact Tryz.underlying88) .i64 h h0 h1, elem_sts, run_size_st]
  simp [Result.andThen, sliced, subS]
theorem run_slS_l (A : Option Addr) (n c : Nat) (l : Int) (h0 : 0 ≤ l) (h1 : l ≤ n) (w : World) : (slS (.slice A n c) (some (.int .i64 l)) none).run Tryz.prog w = .ok (.slice (subS A l.toNat c) (n - l.toNat) (c - l.toNat)) w := by
  unfold slS
  rw [run_slice_l (P := Tryz.prog) w 88 A n c (by rw [elem_sts]; exact Tryz.underlying88) .i64 l h0 h1, elem_sts, run_size_st]
  simp [Result.andThen, sliced, subS]
theorem splice_hisT (m : HM) (s : MS) : splice m.arr 4 s.arr = ({ m with t := s } : HM).arr := rfl
theorem splice_hisP (m : HM) (q : Plan) (A : Option Addr) (c : Nat) : splice m.arr 0 (q.arr A c) = ({ m with p := q, A := A, c := c } : HM).arr := rfl
theorem Fits_his (m : HM) (o n : Nat) : Fits o n m.arr = (o + n ≤ 11) := propext ⟨fun h => h, fun h => h⟩
theorem pushU_map (us : List MS) (t : MS) : pushU (us.map MS.abs) t.abs = (if 16 < us.length + 1 then (us ++ [t]).drop 1 else us ++ [t]).map MS.abs := by
  unfold pushU
  rw [List.length_map]
  split
  · rw [List.map_drop, List.map_append]; rfl
  · rw [List.map_append]; rfl
structure HOff (m : HM) (q : Nat) : Prop where
  act : m.p.es ≠ [] → ∀ a, m.A = some a → a.block ≠ q
  tmp : m.t.p.es ≠ [] → ∀ a, m.t.A = some a → a.block ≠ q
  us_ : ∀ s ∈ m.us, s.p.es ≠ [] → ∀ a, s.A = some a → a.block ≠ q
  rs_ : ∀ s ∈ m.rs, s.p.es ≠ [] → ∀ a, s.A = some a → a.block ≠ q
theorem PlW.off {W : World} {g : Nat} {u r : Value} {p : Plan} {A : Option Addr} {c q : Nat} (h : PlW W g u r p A c) (hq : W.heap.size ≤ q) : p.es ≠ [] → ∀ a, A = some a → a.block ≠ q := fun hne a ha => by
  have := (h.hfar hne a ha).lt
  omega
theorem His.off {w W : World} {g : Nat} {m : HM} (h : His w W g m) {q : Nat} (hq : W.heap.size ≤ q) : HOff m q := ⟨h.pl.off hq, h.tp.pl.off hq, fun s hs => (h.us_ s hs).pl.off hq, fun s hs => (h.rs_ s hs).pl.off hq⟩
def RetH (w W : World) (g : Nat) (m : HM) (h' : Hist) (v : Value) (e : Ending) (W' : World) : Prop := ∃ m', e = .returned v ∧ His w W' g m' ∧ m'.abs = h' ∧ HKeep g W m.u m.r W' m'.u m'.r ∧ ∀ q, q < W.heap.size → HOff m q → HOff m' q
theorem callH {P : Program} {f : FuncId} {args : Array Value} {w W : World} {g : Nat} {m : HM} {h' : Hist} {v : Value} {K : Ending → World → Prop} (h : Calls P f args W (RetH w W g m h' v))
    (k : ∀ m' W', His w W' g m' → m'.abs = h' → HKeep g W m.u m.r W' m'.u m'.r → (∀ q, q < W.heap.size → HOff m q → HOff m' q) → K (.returned v) W') : Calls P f args W K :=
  h.mono fun e W' ⟨m', he, h1, h2, h3, h4⟩ => by subst he; exact k m' W' h1 h2 h3 h4
theorem run_slS_1 (A : Option Addr) (n c : Nat) (w : World) : (slS (.slice A (n + 1) c) (some (.int .i64 1)) none).run Tryz.prog w = .ok (.slice (subS A 1 c) n (c - 1)) w := by
  rw [run_slS_l A (n + 1) c 1 (by omega) (by omega)]
  rfl
attribute [local go_sem ↓] bst_fold bsst_fold slS_fold
attribute [local go_sem] of_st_drew run_bst2 run_bst0 run_bsst run_slS_1 splice_hisT splice_hisP Fits_his SzIs_ms Ones_ms
set_option maxHeartbeats 8000000 in
theorem hchange_any (p : Plan) (A : Option Addr) (c : Nat) {w : World} (W : World) (g : Nat) (m : HM) (h : His w W g m) (hp : PlW W g m.u m.r p A c) (hn : p.es.length ≤ 1000000) (hus : m.us.length ≤ 1000) :
    Calls Tryz.prog 34 #[.pointer (some ⟨g, 0, none⟩), .agg (p.arr A c)] W (RetH w W g m (m.abs.change p) (.tuple #[])) := by
  go_enter Tryz.func34, Tryz.ntmps34
  go_upto_region 1 with (fail)
  have P0 : Blk (W.alloc (.cells (p.arr A c) 24)) W.heap.size (p.arr A c) := Blk.new W _ _
  have B0 := alloc_below5 W (.cells (p.arr A c) 24)
  have X0 := h.alloc (.cells (p.arr A c) 24)
  have F0 : HFar (W.alloc (.cells (p.arr A c) 24)) g m.u m.r W.heap.size := ⟨by simp, by have := h.lt; omega, fun e => by have := h.ult _ e; omega, fun e => by have := h.rlt _ e; omega⟩
  have K0 : HKeep g W m.u m.r (W.alloc (.cells (p.arr A c) 24)) m.u m.r := .of B0
  generalize hW0 : W.alloc _ = W0
  have hWE : W.alloc (.cells (p.arr A c) 24) = W0 := hW0
  rw [hWE] at P0 X0 F0 K0
  clear hW0 hWE B0
  generalize W.heap.size = gp at P0 F0 ⊢
  have HP := Lib.hid hp
  have HK0 := Lib.hid K0
  have HF0 := Lib.hid F0
  have HP0 := Lib.hid P0
  clear h hp K0 F0 P0
  go_cut [8] (fun _ wx => ∃ v', His w wx g { m with us := m.us ++ [m.t], u := v' } ∧ HKeep g W0 m.u m.r wx v' m.r)
  case first =>
    obtain ⟨A1, c1, e1⟩ := X0.ul
    have D0 := Lib.hid X0.drw
    have c9 : W0.drew.cell? ⟨g, 9, none⟩ = some (.slice A1 m.us.length c1) := by rw [← e1]; exact D0.out.c9
    have i1 : Has_st W0.drew g 4 := ⟨_, D0.out.is_temp⟩
    have i2 : of_st W0.drew g 4 = m.t.arr := of_st_eq D0.out.is_temp
    have hg := D0.out.lt
    have XA := Lib.hid (D0.out.alloc (.cells m.t.arr 87))
    have c9a : (W0.alloc (.cells m.t.arr 87)).cell? ⟨g, 9, none⟩ = some (.slice A1 m.us.length c1) := by rw [← e1]; exact XA.out.c9
    have OA := Lib.hid (e1 ▸ GOut.row XA.out.uo : (W0.drew.alloc (.cells m.t.arr 87)).ownsRow w.heap.size 87 5 (.slice A1 m.us.length c1) m.us.length (cellsIn (m.us.map MS.arr)))
    have NW := Lib.hid (fun j u (hu : m.t.arr.toList[j]? = some u) => show (W0.drew.alloc (.cells m.t.arr 87)).cell? ((⟨W0.drew.heap.size, 0, none⟩ : Addr).add j) = some u by rw [addr_add, Nat.zero_add, (Blk.new _ _ _).cell]; simpa using hu)
    have hba := Lib.hid XA.out.bel.size
    have HON := Lib.hid (fun u (hu : u ∈ m.t.arr.toList) => (List.all_eq_true.1 m.t.arr_oneL) u hu)
    have EU := Lib.hid e1
    obtain ⟨i0, hi, hz0, hz1, hz2⟩ := info_parts infoA_st
    have HI := Lib.hid hi; have HZ0 := Lib.hid hz0; have HZ1 := Lib.hid hz1; have HZ2 := Lib.hid hz2
    clear X0 e1 hi hz0 hz1 hz2
    go_region_law (first
      | (refine step_append_lies _ (by rfl) (.tmp 8) (.tmp 13) 88 (by rfl) w.heap.size 87 i0 _ 5 72 Tryz.underlying88 HI.out HZ0.out HZ1.out HZ2.out rfl (by decide) (.slice A1 m.us.length c1) m.us.length (cellsIn (m.us.map MS.arr)) (by rfl) OA.out ⟨W0.drew.heap.size, 0, none⟩ 1 1 m.t.arr.toList (by rfl) (by rfl) NW.out HON.out (by decide) (by unfold maxLen; omega) (by omega) hba.out _ rfl ?_
         intro gg cap w5 O5 G5 h5 hlt5
         have P5 := XA.out.blk.grown (EU.out ▸ G5) XA.out.ug
         have f6 : w5.cell? ⟨g, 9, none⟩ = some m.u := P5.cell 9
         have f7 := P5.frozen 9))
    all_goals
      have O6 : GOut w.heap.size w5 87 5 (.slice (some ⟨gg, 0, none⟩) (m.us.length + 1) cap) ((m.us ++ [m.t]).map MS.arr) := GOut.ofRow (by rw [ms_snoc, List.length_append]; exact O5)
      obtain ⟨R1, R2⟩ := XA.out.appU (by rw [EU.out]; exact G5) O6 (by
        rw [EU.out]
        rcases h5 with h5 | h5
        · exact .inl (h5.trans rfl)
        · exact .inr ⟨gg, rfl, by rw [h5]; exact Nat.le_refl _⟩)
      have R3 := (HKeep.of (g := g) (u := m.u) (r := m.r) (below_step (Below.refl W0.heap.size W0).drew (alloc_below5 W0.drew (.cells m.t.arr 87)))).trans R2
      clear P5 f6 f7 O5 G5 O6
      go_wp2
      go_meet
      exact ⟨_, R1, R3⟩
  case rest =>
    obtain ⟨v1, X1, R1⟩ := hcut
    obtain ⟨A2, c2, e2⟩ := X1.ul
    have e2 : v1 = .slice A2 (m.us.length + 1) c2 := by simpa using e2
    have c9 : wc.cell? ⟨g, 9, none⟩ = some (.slice A2 (m.us.length + 1) c2) := by rw [← e2]; exact X1.c9
    obtain ⟨us2, hus2⟩ : ∃ us2, us2 = if 16 < m.us.length + 1 then (m.us ++ [m.t]).drop 1 else m.us ++ [m.t] := ⟨_, rfl⟩
    have HUS := Lib.hid hus2
    clear hus2
    have hw1 : (16 < (m.us.length : Int) + 1) = (16 < m.us.length + 1) := propext ⟨by omega, by omega⟩
    clear X0
    have HX1 := Lib.hid X1
    clear X1
    go_upto_if 22 with (fail)
    go_cut [23] (fun _ wx => ∃ v2, His w wx g { m with us := us2, u := v2 } ∧ HKeep g W0 m.u m.r wx v2 m.r)
    case first =>
      by_cases hbig : 16 < m.us.length + 1
      · have HB := Lib.hid hbig
        obtain ⟨A3, c3, e3, hl3, I3⟩ := HX1.out.uo.items (ms_sizes _)
        have e3 : v1 = .slice A3 (m.us.length + 1) c3 := by simpa using e3
        obtain ⟨rfl, rfl⟩ : A3 = A2 ∧ c3 = c2 := by rw [e2] at e3; injection e3 with q1 _ q3; exact ⟨q1.symm, q3.symm⟩
        have kc := Lib.hid (clone_st (((m.us ++ [m.t]).map MS.arr).drop 1) (subS A3 1 c3) m.us.length (c3 - 1) wc (I3.dropS hl3) (by simp) (by omega) (fun y hy => ms_sizes _ y (List.mem_of_mem_drop hy)) (fun y hy => ms_ones _ y (List.mem_of_mem_drop hy)))
        clear e3 hl3 I3 e2
        go_wp2_with (go_at_call 63; (with_reducible refine callCl kc.out ?_); intro A7 c7 w7 O7 b7; have Z7 := HX1.out.blk.step b7; have f1 := Z7.frozen 9; have f2 : w7.cell? ⟨g, 9, none⟩ = some v1 := Z7.cell 9)
        go_meet
        obtain ⟨R5, R6⟩ := HX1.out.setU (us' := us2) b7 (by rw [HUS.out, if_pos HB.out, List.map_drop]; exact O7) (fun s hs => by rw [HUS.out, if_pos HB.out] at hs; exact List.mem_of_mem_drop hs)
        exact ⟨_, R5, R1.trans R6⟩
      · have HB := Lib.hid hbig
        clear e2
        go_wp2
        go_meet
        exact ⟨v1, by rw [HUS.out, if_neg HB.out]; exact HX1.out, R1⟩
    case rest =>
      obtain ⟨v2, X2, R2⟩ := hcut
      have f10 := X2.blk.frozen 10
      have c10 := X2.c10
      have HX2 := Lib.hid X2
      have HR2 := Lib.hid R2
      clear X2 R2 R1 HX1 c9 e2 hw1
      go_upto_region 5 with (fail)
      obtain ⟨X3, R3⟩ := HX2.out.write (m' := { m with us := us2, u := v2, rs := [], r := .slice none 0 0 }) (Only.setCell g 10 _ (.slice none 0 0)) (HX2.out.blk.setCell 10 _) HX2.out.uo (GOut.nil _ _ _ _) (fun k e => e) (fun k e => by cases e) HX2.out.pl HX2.out.tp HX2.out.us_ (fun s hs => by cases hs)
      have R3 := HR2.out.trans R3
      clear f10 c10
      generalize World.setCell _ _ _ = W3 at X3 R3 ⊢
      have P3 := R3.blk HF0.out HP0.out
      have PW3 := (HP.out.keep HK0.out).keep R3
      have i1 : Has_plan W3 gp 0 := ⟨_, P3.is_plan rfl⟩
      have i2 : of_plan W3 gp 0 = p.arr A c := of_plan_eq (P3.is_plan rfl)
      have ko := Lib.hid (own_any p A c W3 PW3.len hn PW3.ents)
      have HX3 := Lib.hid X3
      have HR3 := Lib.hid R3
      clear X3 R3 P3 PW3
      go_wp2_with (go_at_call 26; (with_reducible refine callOwn ko.out ?_); intro A7 c7 w7 hl7 hE7 hA7 b7; have X7 := Lib.hid (HX3.out.step b7); have d2 := X7.out.blk.plain; have d3 := X7.out.blk.of)
      go_end0
      obtain ⟨X8, R8⟩ := X7.out.write (m' := { m with us := us2, u := v2, rs := [], r := .slice none 0 0, t := ⟨p, A7, c7, true⟩ }) (Only.setRow g _ _) (X7.out.blk.set _) X7.out.uo X7.out.ro (fun k e => e) (fun k e => e) X7.out.pl
        ⟨⟨hl7, hE7, fun _ a ha => by
          have := hA7 a ha
          have h1 := HX3.out.lt
          refine ⟨by omega, fun e => ?_, fun e => by cases e⟩
          have := HX3.out.ult _ e
          omega⟩, fun e => by cases e⟩ X7.out.us_ X7.out.rs_
      refine ⟨_, rfl, X8, ?_, HK0.out.trans (HR3.out.trans ((HKeep.of b7).trans R8)), fun q hq ho => ⟨ho.act, fun _ a ha => by have := hA7 a ha; have := HK0.out.size; have := HR3.out.size; omega, fun s hs => ?_, fun s hs => by cases hs⟩⟩
      rotate_left
      · have hs : s ∈ m.us ++ [m.t] := by
          have hs : s ∈ us2 := hs
          rw [HUS.out] at hs
          split at hs
          · exact List.mem_of_mem_drop hs
          · exact hs
        rcases List.mem_append.1 hs with hs | hs
        · exact ho.us_ s hs
        · obtain rfl : s = m.t := by simpa using hs
          exact ho.tmp
      show Hist.mk m.p (some p) (us2.map MS.abs) [] = Hist.mk m.p (some p) (pushU (m.us.map MS.abs) m.t.abs) []
      rw [pushU_map, HUS.out]
end Go.Proofs.YtlggdgpdfepppaaGreatDoor
namespace Go.Proofs.YtlggdgpdfepppaaGreatDoor
open Go.RowKit Go.Sort
set_option linter.unusedVariables false
set_option linter.unusedSimpArgs false
set_option maxRecDepth 100000
theorem run_slS_hk (A : Option Addr) (n c k : Nat) (h : k ≤ c) (w : World) : (slS (.slice A n c) none (some (.int .i64 (k : Int)))).run Tryz.prog w = .ok (.slice (subS A 0 c) k c) w := by
  rw [run_slS_h A n c k (by omega) (by omega)]
  rfl
theorem subS_0 (b : Nat) (o c : Nat) : subS (some ⟨b, o, none⟩) 0 c = some ⟨b, o, none⟩ := by
  unfold subS
  split
  · rfl
  · rw [Option.map_some, addr_add]; simp
attribute [local go_sem ↓] bst_fold bsst_fold slS_fold bplanA_fold
attribute [local go_sem] of_st_drew run_bst2 run_bst0 run_bsst run_slS_hk subS_0 splice_hisT splice_hisP Fits_his SzIs_ms Ones_ms run_storeD_plan run_bplanA0
set_option maxHeartbeats 8000000 in
theorem hmoveU_any {w : World} (W : World) (g : Nat) (m : HM) (h : His w W g m) (hus : m.us.length ≤ 1000) (hrs : m.rs.length ≤ 1000) :
    Calls Tryz.prog 36 #[.pointer (some ⟨g, 0, none⟩), .pointer (some ⟨g, 9, none⟩), .pointer (some ⟨g, 10, none⟩)] W (RetH w W g m m.abs.undoH.1 (.int .i64 m.abs.undoH.2)) := by
  rcases List.eq_nil_or_concat m.us with he | ⟨us', s, he⟩
  · have HE := Lib.hid (show m.abs.undoH = (m.abs, 6) by
      unfold Hist.undoH
      rw [show m.abs.undo = [] by show m.us.map MS.abs = []; rw [he]; rfl]
      rfl)
    obtain ⟨A1, c1, e1⟩ := h.ul
    have c9 : W.cell? ⟨g, 9, none⟩ = some (.slice A1 0 c1) := by rw [h.c9, e1, he]; rfl
    have HX := Lib.hid h
    clear h e1
    go_enter Tryz.func36, Tryz.ntmps36
    go_wp2
    go_ret
    exact ⟨m, by rw [HE.out]; rfl, HX.out, by rw [HE.out], .refl _ _ _ _, fun q _ h => h⟩
  · rw [List.concat_eq_append] at he
    have HE := Lib.hid (show m.abs.undoH = (⟨m.p, s.abs, us'.map MS.abs, m.rs.map MS.abs ++ [m.t.abs]⟩, 0) by
      unfold Hist.undoH
      have : m.abs.undo = us'.map MS.abs ++ [s.abs] := by show m.us.map MS.abs = _; rw [he, List.map_append]; rfl
      rw [this, List.getLast?_concat, List.dropLast_concat]
      rfl)
    have HUS := Lib.hid he
    have hlen : m.us.length = us'.length + 1 := by rw [he]; simp
    have hmem : s ∈ m.us := by rw [he]; simp
    have hmem2 : ∀ y ∈ us', y ∈ m.us := fun y hy => by rw [he]; simp [hy]
    have HM1 := Lib.hid hmem
    have HM2 := Lib.hid hmem2
    clear he hmem hmem2
    obtain ⟨A1, c1, e1⟩ := h.ul
    rw [hlen] at e1
    have c9 : W.cell? ⟨g, 9, none⟩ = some (.slice A1 (us'.length + 1) c1) := by rw [h.c9, e1]
    have hne0 : ((us'.length : Int) + 1 == 0) = false := by rw [beq_eq_false_iff_ne]; omega
    have HX := Lib.hid h
    have E1 := Lib.hid e1
    clear h e1 hlen
    go_enter Tryz.func36, Tryz.ntmps36
    go_upto_region 4 with (fail)
    clear c9
    go_cut [8] (fun _ wx => ∃ v', His w wx g { m with rs := m.rs ++ [m.t], r := v' } ∧ HKeep g W m.u m.r wx m.u v')
    case first =>
      obtain ⟨A2, c2, e2⟩ := HX.out.rl
      have D0 := Lib.hid HX.out.drw
      have c10 : W.drew.cell? ⟨g, 10, none⟩ = some (.slice A2 m.rs.length c2) := by rw [← e2]; exact D0.out.c10
      have i1 : Has_st W.drew g 4 := ⟨_, D0.out.is_temp⟩
      have i2 : of_st W.drew g 4 = m.t.arr := of_st_eq D0.out.is_temp
      have hg := D0.out.lt
      have XA := Lib.hid (D0.out.alloc (.cells m.t.arr 87))
      have c10a : (W.alloc (.cells m.t.arr 87)).cell? ⟨g, 10, none⟩ = some (.slice A2 m.rs.length c2) := by rw [← e2]; exact XA.out.c10
      have OA := Lib.hid (e2 ▸ GOut.row XA.out.ro : (W.drew.alloc (.cells m.t.arr 87)).ownsRow w.heap.size 87 5 (.slice A2 m.rs.length c2) m.rs.length (cellsIn (m.rs.map MS.arr)))
      have NW := Lib.hid (fun j u (hu : m.t.arr.toList[j]? = some u) => show (W.drew.alloc (.cells m.t.arr 87)).cell? ((⟨W.drew.heap.size, 0, none⟩ : Addr).add j) = some u by rw [addr_add, Nat.zero_add, (Blk.new _ _ _).cell]; simpa using hu)
      have hba := Lib.hid XA.out.bel.size
      have HON := Lib.hid (fun u (hu : u ∈ m.t.arr.toList) => (List.all_eq_true.1 m.t.arr_oneL) u hu)
      have EU := Lib.hid e2
      obtain ⟨i0, hi, hz0, hz1, hz2⟩ := info_parts infoA_st
      have HI := Lib.hid hi; have HZ0 := Lib.hid hz0; have HZ1 := Lib.hid hz1; have HZ2 := Lib.hid hz2
      clear e2 hi hz0 hz1 hz2
      go_region_law (first
        | (refine step_append_lies _ (by rfl) (.tmp 17) (.tmp 22) 88 (by rfl) w.heap.size 87 i0 _ 5 72 Tryz.underlying88 HI.out HZ0.out HZ1.out HZ2.out rfl (by decide) (.slice A2 m.rs.length c2) m.rs.length (cellsIn (m.rs.map MS.arr)) (by rfl) OA.out ⟨W.drew.heap.size, 0, none⟩ 1 1 m.t.arr.toList (by rfl) (by rfl) NW.out HON.out (by decide) (by unfold maxLen; omega) (by omega) hba.out _ rfl ?_
           intro gg cap w5 O5 G5 h5 hlt5
           have P5 := XA.out.blk.grown (EU.out ▸ G5) XA.out.rg
           have f6 : w5.cell? ⟨g, 10, none⟩ = some m.r := P5.cell 10
           have f7 := P5.frozen 10))
      all_goals
        have O6 : GOut w.heap.size w5 87 5 (.slice (some ⟨gg, 0, none⟩) (m.rs.length + 1) cap) ((m.rs ++ [m.t]).map MS.arr) := GOut.ofRow (by rw [ms_snoc, List.length_append]; exact O5)
        obtain ⟨R1, R2⟩ := XA.out.appR (by rw [EU.out]; exact G5) O6 (by
          rw [EU.out]
          rcases h5 with h5 | h5
          · exact .inl (h5.trans rfl)
          · exact .inr ⟨gg, rfl, by rw [h5]; exact Nat.le_refl _⟩)
        have R3 := (HKeep.of (g := g) (u := m.u) (r := m.r) (below_step (Below.refl W.heap.size W).drew (alloc_below5 W.drew (.cells m.t.arr 87)))).trans R2
        clear P5 f6 f7 O5 G5 O6
        go_wp2
        go_meet
        exact ⟨_, R1, R3⟩
    case rest =>
      obtain ⟨v1, X1, R1⟩ := hcut
      obtain ⟨A3, c3, e3, hl3, I3⟩ := X1.uo.items (ms_sizes _)
      have e3 : m.u = .slice A3 m.us.length c3 := by simpa using e3
      have hlen : m.us.length = us'.length + 1 := by rw [HUS.out]; simp
      rw [hlen] at e3
      obtain ⟨rfl, rfl⟩ : A3 = A1 ∧ c3 = c1 := by rw [E1.out] at e3; injection e3 with q1 _ q3; exact ⟨q1.symm, q3.symm⟩
      have hlt5 : us'.length ≤ 1000 := by have : m.us.length = us'.length + 1 := hlen; omega
      have hlt3 : us'.length < c3 := by rw [List.length_map] at hl3; have : m.us.length ≤ c3 := hl3; omega
      obtain ⟨b, off, hA, hb, hcl⟩ := I3.get (k := us'.length) (by rw [List.length_map]; show us'.length < m.us.length; omega)
      subst hA
      have hel : ({ m with rs := m.rs ++ [m.t], r := v1 } : HM).us.map MS.arr = us'.map MS.arr ++ [s.arr] := by show m.us.map MS.arr = _; rw [HUS.out, List.map_append]; rfl
      have hI : Is_st wc b (off + us'.length * 5) s.arr := ⟨s.arr_sz, fun j hj => by
        have := hcl j hj
        rw [this]
        congr 1
        simp [hel]⟩
      have c9 : wc.cell? ⟨g, 9, none⟩ = some (.slice (some ⟨b, off, none⟩) (us'.length + 1) c3) := by rw [← e3]; exact X1.c9
      have i1 : Has_st wc b (off + us'.length * 5) := ⟨_, hI⟩
      have i2 : of_st wc b (off + us'.length * 5) = s.arr := of_st_eq hI
      have d2 := X1.blk.plain
      have d3 := X1.blk.of
      have hw1 : wrap64 (us'.length : Int) = (us'.length : Int) := IntWalk.wrap64_in _ (by have := hlt5; omega)
      have hlt4 : (us'.length : Int) < (us'.length : Int) + 1 := by omega
      have HX1 := Lib.hid X1
      have HE3 := Lib.hid e3
      have HR1 := Lib.hid R1
      clear X1 R1 e3 hI hcl I3 hel hlen hl3 hb
      go_upto_region 6 with (fail)
      obtain ⟨X2, R2⟩ := HX1.out.write (m' := { m with rs := m.rs ++ [m.t], r := v1, t := s }) (Only.setRow g _ _) (HX1.out.blk.set _) HX1.out.uo HX1.out.ro (fun k e => e) (fun k e => e) HX1.out.pl (HX1.out.us_ s HM1.out) HX1.out.us_ HX1.out.rs_
      clear d2 d3 c9 i1 i2
      generalize wc.setRow g _ = W2 at X2 R2 ⊢
      have c9 : W2.cell? ⟨g, 9, none⟩ = some (.slice (some ⟨b, off, none⟩) (us'.length + 1) c3) := by rw [← E1.out]; exact X2.c9
      have f9 := X2.blk.frozen 9
      have hk3 : us'.length ≤ c3 := by omega
      have HX2 := Lib.hid X2
      have HR2 := Lib.hid R2
      clear X2 R2
      go_wp2
      go_ret
      have U3 : GOut w.heap.size W2 87 5 (.slice (some ⟨b, off, none⟩) us'.length c3) (us'.map MS.arr) := by
        have h1 : GOut w.heap.size W2 87 5 m.u (m.us.map MS.arr) := HX2.out.uo
        rw [E1.out] at h1
        have h2 := h1.dropLast (ms_sizes _)
        rw [HUS.out, List.map_append, List.map_cons, List.map_nil, List.dropLast_concat] at h2
        exact h2
      obtain ⟨X3, R3⟩ := HX2.out.write (m' := { m with rs := m.rs ++ [m.t], r := v1, t := s, us := us', u := .slice (some ⟨b, off, none⟩) us'.length c3 }) (Only.setCell g 9 _ _) (HX2.out.blk.setCell 9 _) U3 HX2.out.ro (fun k e => by show m.u.ownBlock = some k; rw [E1.out]; exact e) (fun k e => e) HX2.out.pl HX2.out.tp (fun y hy => HX2.out.us_ y (HM2.out y hy)) HX2.out.rs_
      refine ⟨_, by rw [HE.out]; rfl, X3, ?_, HR1.out.trans (HR2.out.trans R3), fun q hq ho => ⟨ho.act, ho.us_ s HM1.out, fun y hy => ho.us_ y (HM2.out y hy), fun y hy => ?_⟩⟩
      rotate_left
      · rcases List.mem_append.1 hy with hy | hy
        · exact ho.rs_ y hy
        · obtain rfl : y = m.t := by simpa using hy
          exact ho.tmp
      rw [HE.out]
      show Hist.mk m.p s.abs (us'.map MS.abs) ((m.rs ++ [m.t]).map MS.abs) = _
      rw [List.map_append]
      rfl
set_option maxHeartbeats 8000000 in
theorem hmoveR_any {w : World} (W : World) (g : Nat) (m : HM) (h : His w W g m) (hus : m.rs.length ≤ 1000) (hrs : m.us.length ≤ 1000) :
    Calls Tryz.prog 36 #[.pointer (some ⟨g, 0, none⟩), .pointer (some ⟨g, 10, none⟩), .pointer (some ⟨g, 9, none⟩)] W (RetH w W g m m.abs.redoH.1 (.int .i64 m.abs.redoH.2)) := by
  rcases List.eq_nil_or_concat m.rs with he | ⟨rs', s, he⟩
  · have HE := Lib.hid (show m.abs.redoH = (m.abs, 6) by
      unfold Hist.redoH
      rw [show m.abs.redo = [] by show m.rs.map MS.abs = []; rw [he]; rfl]
      rfl)
    obtain ⟨A1, c1, e1⟩ := h.rl
    have c10 : W.cell? ⟨g, 10, none⟩ = some (.slice A1 0 c1) := by rw [h.c10, e1, he]; rfl
    have HX := Lib.hid h
    clear h e1
    go_enter Tryz.func36, Tryz.ntmps36
    go_wp2
    go_ret
    exact ⟨m, by rw [HE.out]; rfl, HX.out, by rw [HE.out], .refl _ _ _ _, fun q _ h => h⟩
  · rw [List.concat_eq_append] at he
    have HE := Lib.hid (show m.abs.redoH = (⟨m.p, s.abs, m.us.map MS.abs ++ [m.t.abs], rs'.map MS.abs⟩, 0) by
      unfold Hist.redoH
      have : m.abs.redo = rs'.map MS.abs ++ [s.abs] := by show m.rs.map MS.abs = _; rw [he, List.map_append]; rfl
      rw [this, List.getLast?_concat, List.dropLast_concat]
      rfl)
    have HUS := Lib.hid he
    have hlen : m.rs.length = rs'.length + 1 := by rw [he]; simp
    have hmem : s ∈ m.rs := by rw [he]; simp
    have hmem2 : ∀ y ∈ rs', y ∈ m.rs := fun y hy => by rw [he]; simp [hy]
    have HM1 := Lib.hid hmem
    have HM2 := Lib.hid hmem2
    clear he hmem hmem2
    obtain ⟨A1, c1, e1⟩ := h.rl
    rw [hlen] at e1
    have c10 : W.cell? ⟨g, 10, none⟩ = some (.slice A1 (rs'.length + 1) c1) := by rw [h.c10, e1]
    have hne0 : ((rs'.length : Int) + 1 == 0) = false := by rw [beq_eq_false_iff_ne]; omega
    have HX := Lib.hid h
    have E1 := Lib.hid e1
    clear h e1 hlen
    go_enter Tryz.func36, Tryz.ntmps36
    go_upto_region 4 with (fail)
    clear c10
    go_cut [8] (fun _ wx => ∃ v', His w wx g { m with us := m.us ++ [m.t], u := v' } ∧ HKeep g W m.u m.r wx v' m.r)
    case first =>
      obtain ⟨A2, c2, e2⟩ := HX.out.ul
      have D0 := Lib.hid HX.out.drw
      have c9 : W.drew.cell? ⟨g, 9, none⟩ = some (.slice A2 m.us.length c2) := by rw [← e2]; exact D0.out.c9
      have i1 : Has_st W.drew g 4 := ⟨_, D0.out.is_temp⟩
      have i2 : of_st W.drew g 4 = m.t.arr := of_st_eq D0.out.is_temp
      have hg := D0.out.lt
      have XA := Lib.hid (D0.out.alloc (.cells m.t.arr 87))
      have c9a : (W.alloc (.cells m.t.arr 87)).cell? ⟨g, 9, none⟩ = some (.slice A2 m.us.length c2) := by rw [← e2]; exact XA.out.c9
      have OA := Lib.hid (e2 ▸ GOut.row XA.out.uo : (W.drew.alloc (.cells m.t.arr 87)).ownsRow w.heap.size 87 5 (.slice A2 m.us.length c2) m.us.length (cellsIn (m.us.map MS.arr)))
      have NW := Lib.hid (fun j u (hu : m.t.arr.toList[j]? = some u) => show (W.drew.alloc (.cells m.t.arr 87)).cell? ((⟨W.drew.heap.size, 0, none⟩ : Addr).add j) = some u by rw [addr_add, Nat.zero_add, (Blk.new _ _ _).cell]; simpa using hu)
      have hba := Lib.hid XA.out.bel.size
      have HON := Lib.hid (fun u (hu : u ∈ m.t.arr.toList) => (List.all_eq_true.1 m.t.arr_oneL) u hu)
      have EU := Lib.hid e2
      obtain ⟨i0, hi, hz0, hz1, hz2⟩ := info_parts infoA_st
      have HI := Lib.hid hi; have HZ0 := Lib.hid hz0; have HZ1 := Lib.hid hz1; have HZ2 := Lib.hid hz2
      clear e2 hi hz0 hz1 hz2
      go_region_law (first
        | (refine step_append_lies _ (by rfl) (.tmp 17) (.tmp 22) 88 (by rfl) w.heap.size 87 i0 _ 5 72 Tryz.underlying88 HI.out HZ0.out HZ1.out HZ2.out rfl (by decide) (.slice A2 m.us.length c2) m.us.length (cellsIn (m.us.map MS.arr)) (by rfl) OA.out ⟨W.drew.heap.size, 0, none⟩ 1 1 m.t.arr.toList (by rfl) (by rfl) NW.out HON.out (by decide) (by unfold maxLen; omega) (by omega) hba.out _ rfl ?_
           intro gg cap w5 O5 G5 h5 hlt5
           have P5 := XA.out.blk.grown (EU.out ▸ G5) XA.out.ug
           have f6 : w5.cell? ⟨g, 9, none⟩ = some m.u := P5.cell 9
           have f7 := P5.frozen 9))
      all_goals
        have O6 : GOut w.heap.size w5 87 5 (.slice (some ⟨gg, 0, none⟩) (m.us.length + 1) cap) ((m.us ++ [m.t]).map MS.arr) := GOut.ofRow (by rw [ms_snoc, List.length_append]; exact O5)
        obtain ⟨R1, R2⟩ := XA.out.appU (by rw [EU.out]; exact G5) O6 (by
          rw [EU.out]
          rcases h5 with h5 | h5
          · exact .inl (h5.trans rfl)
          · exact .inr ⟨gg, rfl, by rw [h5]; exact Nat.le_refl _⟩)
        have R3 := (HKeep.of (g := g) (u := m.u) (r := m.r) (below_step (Below.refl W.heap.size W).drew (alloc_below5 W.drew (.cells m.t.arr 87)))).trans R2
        clear P5 f6 f7 O5 G5 O6
        go_wp2
        go_meet
        exact ⟨_, R1, R3⟩
    case rest =>
      obtain ⟨v1, X1, R1⟩ := hcut
      obtain ⟨A3, c3, e3, hl3, I3⟩ := X1.ro.items (ms_sizes _)
      have e3 : m.r = .slice A3 m.rs.length c3 := by simpa using e3
      have hlen : m.rs.length = rs'.length + 1 := by rw [HUS.out]; simp
      rw [hlen] at e3
      obtain ⟨rfl, rfl⟩ : A3 = A1 ∧ c3 = c1 := by rw [E1.out] at e3; injection e3 with q1 _ q3; exact ⟨q1.symm, q3.symm⟩
      have hlt5 : rs'.length ≤ 1000 := by have : m.rs.length = rs'.length + 1 := hlen; omega
      have hlt3 : rs'.length < c3 := by rw [List.length_map] at hl3; have : m.rs.length ≤ c3 := hl3; omega
      obtain ⟨b, off, hA, hb, hcl⟩ := I3.get (k := rs'.length) (by rw [List.length_map]; show rs'.length < m.rs.length; omega)
      subst hA
      have hel : ({ m with us := m.us ++ [m.t], u := v1 } : HM).rs.map MS.arr = rs'.map MS.arr ++ [s.arr] := by show m.rs.map MS.arr = _; rw [HUS.out, List.map_append]; rfl
      have hI : Is_st wc b (off + rs'.length * 5) s.arr := ⟨s.arr_sz, fun j hj => by
        have := hcl j hj
        rw [this]
        congr 1
        simp [hel]⟩
      have c10 : wc.cell? ⟨g, 10, none⟩ = some (.slice (some ⟨b, off, none⟩) (rs'.length + 1) c3) := by rw [← e3]; exact X1.c10
      have i1 : Has_st wc b (off + rs'.length * 5) := ⟨_, hI⟩
      have i2 : of_st wc b (off + rs'.length * 5) = s.arr := of_st_eq hI
      have d2 := X1.blk.plain
      have d3 := X1.blk.of
      have hw1 : wrap64 (rs'.length : Int) = (rs'.length : Int) := IntWalk.wrap64_in _ (by have := hlt5; omega)
      have hlt4 : (rs'.length : Int) < (rs'.length : Int) + 1 := by omega
      have HX1 := Lib.hid X1
      have HE3 := Lib.hid e3
      have HR1 := Lib.hid R1
      clear X1 R1 e3 hI hcl I3 hel hlen hl3 hb
      go_upto_region 6 with (fail)
      obtain ⟨X2, R2⟩ := HX1.out.write (m' := { m with us := m.us ++ [m.t], u := v1, t := s }) (Only.setRow g _ _) (HX1.out.blk.set _) HX1.out.uo HX1.out.ro (fun k e => e) (fun k e => e) HX1.out.pl (HX1.out.rs_ s HM1.out) HX1.out.us_ HX1.out.rs_
      clear d2 d3 c10 i1 i2
      generalize wc.setRow g _ = W2 at X2 R2 ⊢
      have c10 : W2.cell? ⟨g, 10, none⟩ = some (.slice (some ⟨b, off, none⟩) (rs'.length + 1) c3) := by rw [← E1.out]; exact X2.c10
      have f10 := X2.blk.frozen 10
      have hk3 : rs'.length ≤ c3 := by omega
      have HX2 := Lib.hid X2
      have HR2 := Lib.hid R2
      clear X2 R2
      go_wp2
      go_ret
      have U3 : GOut w.heap.size W2 87 5 (.slice (some ⟨b, off, none⟩) rs'.length c3) (rs'.map MS.arr) := by
        have h1 : GOut w.heap.size W2 87 5 m.r (m.rs.map MS.arr) := HX2.out.ro
        rw [E1.out] at h1
        have h2 := h1.dropLast (ms_sizes _)
        rw [HUS.out, List.map_append, List.map_cons, List.map_nil, List.dropLast_concat] at h2
        exact h2
      obtain ⟨X3, R3⟩ := HX2.out.write (m' := { m with us := m.us ++ [m.t], u := v1, t := s, rs := rs', r := .slice (some ⟨b, off, none⟩) rs'.length c3 }) (Only.setCell g 10 _ _) (HX2.out.blk.setCell 10 _) HX2.out.uo U3 (fun k e => e) (fun k e => by show m.r.ownBlock = some k; rw [E1.out]; exact e) HX2.out.pl HX2.out.tp HX2.out.us_ (fun y hy => HX2.out.rs_ y (HM2.out y hy))
      refine ⟨_, by rw [HE.out]; rfl, X3, ?_, HR1.out.trans (HR2.out.trans R3), fun q hq ho => ⟨ho.act, ho.rs_ s HM1.out, fun y hy => ?_, fun y hy => ho.rs_ y (HM2.out y hy)⟩⟩
      rotate_left
      · rcases List.mem_append.1 hy with hy | hy
        · exact ho.us_ y hy
        · obtain rfl : y = m.t := by simpa using hy
          exact ho.tmp
      rw [HE.out]
      show Hist.mk m.p s.abs ((m.us ++ [m.t]).map MS.abs) (rs'.map MS.abs) = _
      rw [List.map_append]
      rfl
end Go.Proofs.YtlggdgpdfepppaaGreatDoor
namespace Go.Proofs.YtlggdgpdfepppaaGreatDoor
open Go.RowKit Go.Sort
set_option linter.unusedVariables false
set_option linter.unusedSimpArgs false
set_option maxRecDepth 100000
theorem RetH.from {w W W' : World} {g : Nat} {m : HM} {h' : Hist} {v : Value} {e : Ending} {W2 : World} (h : RetH w W' g m h' v e W2) (b : Below W.heap.size W W') : RetH w W g m h' v e W2 := by
  obtain ⟨m', h1, h2, h3, h4, h5⟩ := h
  exact ⟨m', h1, h2, h3, (HKeep.of b).trans h4, fun q hq => h5 q (Nat.lt_of_lt_of_le hq b.size)⟩
attribute [local go_sem ↓] bst_fold bsst_fold slS_fold bplanA_fold
attribute [local go_sem] of_st_drew run_bst2 run_bst0 run_bsst splice_hisT splice_hisP Fits_his SzIs_ms Ones_ms run_storeD_plan run_bplanA0 splice_planA Fits_planA
set_option maxHeartbeats 4000000 in
theorem hundo_any {w : World} (W : World) (g : Nat) (m : HM) (h : His w W g m) (hus : m.us.length ≤ 1000) (hrs : m.rs.length ≤ 1000) :
    Calls Tryz.prog 18 #[.pointer (some ⟨g, 0, none⟩)] W (RetH w W g m m.abs.undoH.1 (.int .i64 m.abs.undoH.2)) := by
  have K := Lib.hid (hmoveU_any W.drew g m h.drw hus hrs)
  generalize m.abs.undoH = r at *
  clear h
  go_enter Tryz.func18, Tryz.ntmps18
  go_upto_region 3 with (fail)
  go_region_with (go_at_call 36; (with_reducible refine callH K.out ?_); intro m1 W1 X1 e1 R1 O1)
  all_goals
    go_wp2
    go_ret
    exact ⟨m1, rfl, X1, e1, (HKeep.of (Below.refl _ _).drew).trans R1, O1⟩
set_option maxHeartbeats 4000000 in
theorem hredo_any {w : World} (W : World) (g : Nat) (m : HM) (h : His w W g m) (hus : m.us.length ≤ 1000) (hrs : m.rs.length ≤ 1000) :
    Calls Tryz.prog 20 #[.pointer (some ⟨g, 0, none⟩)] W (RetH w W g m m.abs.redoH.1 (.int .i64 m.abs.redoH.2)) := by
  have K := Lib.hid (hmoveR_any W.drew g m h.drw hrs hus)
  generalize m.abs.redoH = r at *
  clear h
  go_enter Tryz.func20, Tryz.ntmps20
  go_upto_region 3 with (fail)
  go_region_with (go_at_call 36; (with_reducible refine callH K.out ?_); intro m1 W1 X1 e1 R1 O1)
  all_goals
    go_wp2
    go_ret
    exact ⟨m1, rfl, X1, e1, (HKeep.of (Below.refl _ _).drew).trans R1, O1⟩
set_option maxHeartbeats 4000000 in
theorem hend_any {w : World} (W : World) (g : Nat) (m : HM) (h : His w W g m) :
    Calls Tryz.prog 64 #[.pointer (some ⟨g, 0, none⟩)] W (RetH w W g m ⟨m.p, none, [], []⟩ (.tuple #[])) := by
  obtain ⟨X1, R1⟩ := h.write (m' := { m with t := noMS }) (Only.setRow g _ _) (h.blk.set _) h.uo h.ro (fun k e => e) (fun k e => e) h.pl (StW.zero _ _ _ _) h.us_ h.rs_
  obtain ⟨X2, R2⟩ := X1.write (m' := { m with t := noMS, us := [], u := .slice none 0 0 }) (Only.setCell g 9 _ (.slice none 0 0)) (X1.blk.setCell 9 _) (GOut.nil _ _ _ _) X1.ro (fun k e => by cases e) (fun k e => e) X1.pl X1.tp (fun s hs => by cases hs) X1.rs_
  obtain ⟨X3, R3⟩ := X2.write (m' := { m with t := noMS, us := [], u := .slice none 0 0, rs := [], r := .slice none 0 0 }) (Only.setCell g 10 _ (.slice none 0 0)) (X2.blk.setCell 10 _) X2.uo (GOut.nil _ _ _ _) (fun k e => e) (fun k e => by cases e) X2.pl X2.tp X2.us_ (fun s hs => by cases hs)
  have d2 := h.blk.plain
  have d3 := h.blk.of
  have f9 := X1.blk.frozen 9
  have c9 := X1.c9
  have f10 := X2.blk.frozen 10
  have c10 := X2.c10
  have HX := Lib.hid X3
  have HR := Lib.hid (R1.trans (R2.trans R3))
  clear X1 X2 X3 R1 R2 R3 h
  go_enter Tryz.func64, Tryz.ntmps64
  go_wp2
  go_end0
  exact ⟨{ m with t := noMS, us := [], u := .slice none 0 0, rs := [], r := .slice none 0 0 }, rfl, HX.out, rfl, HR.out, fun q _ h => ⟨h.act, (fun _ a ha => by cases ha), (fun s hs => by cases hs), (fun s hs => by cases hs)⟩⟩
set_option maxHeartbeats 4000000 in
theorem herase_any {w : World} (W : World) (g : Nat) (m : HM) (h : His w W g m) :
    Calls Tryz.prog 38 #[.pointer (some ⟨g, 0, none⟩)] W (RetH w W g m m.abs.erase.1 (.int .i64 m.abs.erase.2)) := by
  have c8 := h.c8
  have K := Lib.hid (hend_any W g m h)
  have HX := Lib.hid h
  cases hb : m.t.b with
  | false =>
    have HE := Lib.hid (show m.abs.erase = (m.abs, 8) by
      unfold Hist.erase
      rw [show m.abs.temp = none by show m.t.abs = none; unfold MS.abs; rw [hb]; rfl])
    rw [hb] at c8
    clear h hb
    go_enter Tryz.func38, Tryz.ntmps38
    go_wp2
    go_ret
    exact ⟨m, by rw [HE.out]; rfl, HX.out, by rw [HE.out], .refl _ _ _ _, fun q _ h => h⟩
  | true =>
    have HE := Lib.hid (show m.abs.erase = (⟨m.p, none, [], []⟩, 0) by
      unfold Hist.erase
      rw [show m.abs.temp = some m.t.p by show m.t.abs = _; unfold MS.abs; rw [hb]; rfl]
      rfl)
    rw [hb] at c8
    clear h hb
    go_enter Tryz.func38, Tryz.ntmps38
    go_wp2_with (go_at_call 64; (with_reducible refine callH K.out ?_); intro m1 W1 X1 e1 R1 O1)
    go_ret
    exact ⟨m1, by rw [HE.out]; rfl, X1, by rw [HE.out]; exact e1, R1, O1⟩
set_option maxHeartbeats 4000000 in
theorem hexec_any {w : World} (W : World) (g : Nat) (m : HM) (h : His w W g m) :
    Calls Tryz.prog 37 #[.pointer (some ⟨g, 0, none⟩)] W (RetH w W g m m.abs.exec.1 (.int .i64 m.abs.exec.2)) := by
  have c8 := h.c8
  have HX := Lib.hid h
  cases hb : m.t.b with
  | false =>
    have HE := Lib.hid (show m.abs.exec = (m.abs, 8) by
      unfold Hist.exec
      rw [show m.abs.temp = none by show m.t.abs = none; unfold MS.abs; rw [hb]; rfl])
    rw [hb] at c8
    clear h hb
    go_enter Tryz.func37, Tryz.ntmps37
    go_wp2
    go_ret
    exact ⟨m, by rw [HE.out]; rfl, HX.out, by rw [HE.out], .refl _ _ _ _, fun q _ h => h⟩
  | true =>
    have HE := Lib.hid (show m.abs.exec = (⟨m.t.p, none, [], []⟩, 0) by
      unfold Hist.exec
      rw [show m.abs.temp = some m.t.p by show m.t.abs = _; unfold MS.abs; rw [hb]; rfl])
    rw [hb] at c8
    obtain ⟨X1, R1⟩ := h.write (m' := { m with p := m.t.p, A := m.t.A, c := m.t.c }) (Only.setRow g _ _) (h.blk.set _) h.uo h.ro (fun k e => e) (fun k e => e) h.tp.pl h.tp h.us_ h.rs_
    have K := Lib.hid (hend_any _ g _ X1)
    have HR := Lib.hid R1
    have d2 := h.blk.plain
    have d3 := h.blk.of
    have i1 : Has_plan W g 4 := ⟨_, h.is_tplan⟩
    have i2 : of_plan W g 4 = m.t.p.arr m.t.A m.t.c := of_plan_eq h.is_tplan
    clear h hb X1 R1
    go_enter Tryz.func37, Tryz.ntmps37
    go_wp2_with (go_at_call 64; (with_reducible refine callH K.out ?_); intro m1 W1 X1 e1 R1 O1)
    go_ret
    exact ⟨m1, by rw [HE.out]; rfl, X1, by rw [HE.out]; exact e1, HR.out.trans R1, fun q hq h => O1 q (Nat.lt_of_lt_of_le hq HR.out.size) ⟨h.tmp, h.tmp, h.us_, h.rs_⟩⟩
end Go.Proofs.YtlggdgpdfepppaaGreatDoor
namespace Go.Proofs.YtlggdgpdfepppaaGreatDoor
open Go.RowKit Go.Sort
set_option linter.unusedVariables false
set_option linter.unusedSimpArgs false
set_option maxRecDepth 100000
attribute [local go_sem ↓] bplanA_fold
attribute [local go_sem] run_bplanA0 run_storeD_plan splice_planA Fits_planA
set_option maxHeartbeats 8000000 in
theorem hreplace_any (p : Plan) (A : Option Addr) (c : Nat) {w : World} (W : World) (g : Nat) (m : HM) (h : His w W g m) (hL : Laid w) (hs : p.small) (hp : PlW W g m.u m.r p A c) (hus : m.us.length ≤ 1000) :
    Calls Tryz.prog 39 #[.pointer (some ⟨g, 0, none⟩), .agg (p.arr A c)] W (RetH w W g m (m.abs.replace p).1 (.int .i64 (m.abs.replace p).2)) := by
  have HPL := Lib.hid (fun h => (planChk_ok (p := p) h).2.1)
  have HL := Lib.hid (fun W' (b : Below W.heap.size W W') => planCheck_any p A c W' (hL.below (h.bel.trans (b.mono h.bel.size))) hs hp.len (hp.ents.below (B := 0) b))
  go_enter Tryz.func39, Tryz.ntmps39
  go_upto_region 1 with (fail)
  have P0 : Blk (W.alloc (.cells (p.arr A c) 24)) W.heap.size (p.arr A c) := Blk.new W _ _
  have B0 := alloc_below5 W (.cells (p.arr A c) 24)
  have X0 := h.alloc (.cells (p.arr A c) 24)
  have K0 : HKeep g W m.u m.r (W.alloc (.cells (p.arr A c) 24)) m.u m.r := .of B0
  have Q0 := hp.keep K0
  have kc := Lib.hid (HL.out _ B0)
  generalize hW0 : W.alloc _ = W0
  have hWE : W.alloc (.cells (p.arr A c) 24) = W0 := hW0
  rw [hWE] at P0 X0 Q0 K0 kc
  clear hW0 hWE B0 HL
  generalize W.heap.size = gp at P0 ⊢
  have i1 : Has_plan W0 gp 0 := ⟨_, P0.is_plan rfl⟩
  have i2 : of_plan W0 gp 0 = p.arr A c := of_plan_eq (P0.is_plan rfl)
  have HX0 := Lib.hid X0
  have HQ0 := Lib.hid Q0
  have HK0 := Lib.hid K0
  clear X0 Q0 K0 h hp
  by_cases hz : planCheck p = 0
  · have hn := HPL.out hz
    rw [hz] at kc
    have HN := Lib.hid hn
    have HE := Lib.hid (show m.abs.replace p = (m.abs.change p, 0) by unfold Hist.replace; rw [if_neg (by simpa using hz)])
    clear hz hn
    go_upto_region 4 with (go_at_call 11; (with_reducible refine callR kc.out ?_); intro w2 b2 _ _ _)
    have P2 := P0.step b2
    have j1 : Has_plan w2 gp 0 := ⟨_, P2.is_plan rfl⟩
    have j2 : of_plan w2 gp 0 = p.arr A c := of_plan_eq (P2.is_plan rfl)
    have ko := Lib.hid (hchange_any p A c w2 g m (HX0.out.step b2) (HQ0.out.keep (.of b2)) (by have := HN.out; omega) hus)
    clear i1 i2 kc P0
    go_wp2_with (go_at_call 34; (with_reducible refine callH ko.out ?_); intro m3 w3 X3 e3 R3 O3)
    go_ret
    exact ⟨m3, by rw [HE.out]; rfl, X3, by rw [HE.out]; exact e3, HK0.out.trans ((HKeep.of b2).trans R3), fun q hq => O3 q (Nat.lt_of_lt_of_le (Nat.lt_of_lt_of_le hq HK0.out.size) b2.size)⟩
  · have HE := Lib.hid (show m.abs.replace p = (m.abs, planCheck p) by unfold Hist.replace; rw [if_pos hz])
    have hz' : (planCheck p != 0) = true := by simpa using hz
    generalize planCheck p = z at *
    clear hz
    go_wp2_with (go_at_call 11; (with_reducible refine callR kc.out ?_); intro w2 b2 _ _ _)
    go_ret
    exact ⟨m, by rw [HE.out]; rfl, HX0.out.step b2, by rw [HE.out], HK0.out.trans (.of b2), fun q _ h => h⟩
set_option maxHeartbeats 16000000 in
theorem hdo_any (L : Look) (cs : Array Value) (e : EditV) {w : World} (W : World) (g : Nat) (m : HM) (h : His w W g m) (hcs : cs.size = 9) (hus : m.us.length ≤ 1000)
    (hA : ∀ (A : Option Addr) (c : Nat) (W' : World), Below w.heap.size w W' → m.abs.base.es.length ≤ c → Ents W' A m.abs.base.es → Calls Tryz.prog 33 #[.agg cs, .agg (m.abs.base.arr A c), .agg e.arr] W' (RetAp W' (applyS L m.abs.base e)))
    (hsm : (applyS L m.abs.base e).2 = 0 → (applyS L m.abs.base e).1.es.length ≤ 1000000) :
    Calls Tryz.prog 15 #[.pointer (some ⟨g, 0, none⟩), .agg cs, .agg e.arr] W (RetH w W g m (m.abs.doE L e).1 (.int .i64 (m.abs.doE L e).2)) := by
  have c8 := h.c8
  obtain ⟨bp, bA, bc, hb, hpw, hb0, hb1⟩ : ∃ bp bA bc, bp = m.abs.base ∧ PlW W g m.u m.r bp bA bc ∧ (m.t.b = false → bp = m.p ∧ bA = m.A ∧ bc = m.c) ∧ (m.t.b = true → bp = m.t.p ∧ bA = m.t.A ∧ bc = m.t.c) := by
    cases hq : m.t.b with
    | false => exact ⟨m.p, m.A, m.c, by unfold Hist.base; show _ = (m.t.abs).getD m.p; unfold MS.abs; rw [hq]; rfl, h.pl, (fun _ => ⟨rfl, rfl, rfl⟩), fun e => by cases e⟩
    | true => exact ⟨m.t.p, m.t.A, m.t.c, by unfold Hist.base; show _ = (m.t.abs).getD m.p; unfold MS.abs; rw [hq]; rfl, h.tp.pl, (fun e => by cases e), fun _ => ⟨rfl, rfl, rfl⟩⟩
  rw [← hb] at hA hsm
  have HD := Lib.hid (show m.abs.doE L e = if (applyS L bp e).2 ≠ 0 then (m.abs, (applyS L bp e).2) else (m.abs.change (applyS L bp e).1, 0) by unfold Hist.doE; rw [← hb])
  have HA := Lib.hid (fun W' (b : Below W.heap.size W W') => hA bA bc W' (h.bel.trans (b.mono h.bel.size)) hpw.len (hpw.ents.below (B := 0) b))
  have HS := Lib.hid hsm
  clear hA hsm hb
  generalize applyS L bp e = R at *
  obtain ⟨q, er⟩ := R
  go_enter Tryz.func15, Tryz.ntmps15
  go_upto_region 1 with (fail)
  have D0 : Blk ((W.alloc (.cells cs 48)).alloc (.cells e.arr 58)) W.heap.size cs := (Blk.new W _ _).alloc _
  have E0 : Blk ((W.alloc (.cells cs 48)).alloc (.cells e.arr 58)) (W.heap.size + 1) e.arr := by rw [← World.size_alloc W (.cells cs 48)]; exact Blk.new _ _ _
  have B0 : Below W.heap.size W ((W.alloc (.cells cs 48)).alloc (.cells e.arr 58)) := by go_grown
  have hdl := D0.lt
  have hel := E0.lt
  generalize hW0 : (W.alloc (.cells cs 48)).alloc (.cells e.arr 58) = W0 at D0 E0 B0 hdl hel
  have hW0' : World.alloc (World.alloc W _) _ = W0 := hW0
  try rw [hW0']
  clear hW0 hW0'
  have hge : W.heap.size ≤ W0.heap.size := B0.size
  generalize W.heap.size + 1 = ge at E0 hel ⊢
  obtain ⟨gd, hgd⟩ : ∃ g, g = W.heap.size := ⟨_, rfl⟩
  rw [← hgd] at D0 hdl ⊢
  clear hgd
  have X0 := h.step B0
  have i1 : Has_plan W0 g 0 := ⟨_, X0.is_plan⟩
  have i2 : of_plan W0 g 0 = m.p.arr m.A m.c := of_plan_eq X0.is_plan
  go_upto_region 4 with (fail)
  have Y0 : Blk (W0.alloc (.cells (m.p.arr m.A m.c) 24)) W0.heap.size (m.p.arr m.A m.c) := Blk.new W0 _ _
  have D1 := D0.alloc (.cells (m.p.arr m.A m.c) 24)
  have E1 := E0.alloc (.cells (m.p.arr m.A m.c) 24)
  have X1 := X0.alloc (.cells (m.p.arr m.A m.c) 24)
  have B1 := below_step B0 (alloc_below5 W0 (.cells (m.p.arr m.A m.c) 24))
  clear i1 i2 X0 D0 E0 B0
  generalize hW1 : W0.alloc (.cells (m.p.arr m.A m.c) 24) = W1 at Y0 D1 E1 X1 B1
  have hW1' : World.alloc W0 _ = W1 := hW1
  try rw [hW1']
  clear hW1 hW1'
  generalize W0.heap.size = gp at Y0 hge hdl hel ⊢
  have HH := Lib.hid h
  have HPW := Lib.hid hpw
  have HX1 := Lib.hid X1
  have HB1 := Lib.hid B1
  have HD1 := Lib.hid D1
  have HE1 := Lib.hid E1
  have HY0 := Lib.hid Y0
  clear h hpw X1 B1 D1 E1 Y0
  have c8 := HX1.out.c8
  go_upto_if 20 with (fail)
  go_cut [25] (fun _ wx => Below W.heap.size W wx ∧ Blk wx gd cs ∧ Blk wx ge e.arr ∧ Blk wx gp (bp.arr bA bc))
  case first =>
    cases hb : m.t.b with
    | false =>
      obtain ⟨rfl, rfl, rfl⟩ := hb0 hb
      rw [hb] at c8
      clear hb0 hb1
      go_wp2
      go_meet
      exact ⟨HB1.out, HD1.out, HE1.out, HY0.out⟩
    | true =>
      obtain ⟨rfl, rfl, rfl⟩ := hb1 hb
      rw [hb] at c8
      have i1 : Has_plan W1 g 4 := ⟨_, HX1.out.is_tplan⟩
      have i2 : of_plan W1 g 4 = m.t.p.arr m.t.A m.t.c := of_plan_eq HX1.out.is_tplan
      have d2 := HY0.out.plain
      have d3 := HY0.out.of
      clear hb0 hb1
      go_wp2
      go_meet
      exact ⟨below_setRow' HB1.out hge _, HD1.out.far (by omega) _, HE1.out.far (by omega) _, HY0.out.set _⟩
  case rest =>
    obtain ⟨B2, D2, E2, Y2⟩ := hcut
    have k1 : Has_db wc gd 0 := ⟨_, D2.is_db hcs⟩
    have k2 : of_db wc gd 0 = cs := of_db_eq (D2.is_db hcs)
    have i1 : Has_plan wc gp 0 := ⟨_, Y2.is_plan rfl⟩
    have i2 : of_plan wc gp 0 = bp.arr bA bc := of_plan_eq (Y2.is_plan rfl)
    have j1 : Has_edt wc ge 0 := ⟨_, E2.is_edt⟩
    have j2 : of_edt wc ge 0 = e := of_edt_eq E2.is_edt
    have KA := Lib.hid (HA.out wc B2)
    have HB2 := Lib.hid B2
    clear D2 E2 Y2 c8 hb0 hb1 HY0 HD1 HE1 HX1 HB1 B2 hge hdl hel
    go_upto_region 7 with (go_at_call 33; (with_reducible refine callAp KA.out ?_); intro Aq cq w3 hcq hEq hAq b3)
    have B3 := below_step HB2.out b3
    have B4 := below_step B3 (alloc_below5 w3 (.cells (q.arr Aq cq) 24))
    have Q4 := Blk.new w3 (q.arr Aq cq) 24
    have F4 := hEq.below (B := 0) (alloc_below5 w3 (.cells (q.arr Aq cq) 24))
    have X4 := HH.out.step B4
    have hsz := HB2.out.size
    clear k1 k2 i1 i2 j1 j2 KA b3 B3 hEq
    generalize hW4 : w3.alloc (.cells (q.arr Aq cq) 24) = W4 at B4 Q4 F4 X4
    have hW4' : World.alloc w3 _ = W4 := hW4
    try rw [hW4']
    clear hW4 hW4'
    generalize w3.heap.size = gq at Q4 ⊢
    by_cases hz : er = 0
    · subst hz
      have i1 : Has_plan W4 gq 0 := ⟨_, Q4.is_plan rfl⟩
      have i2 : of_plan W4 gq 0 = q.arr Aq cq := of_plan_eq (Q4.is_plan rfl)
      have HE := Lib.hid (show m.abs.doE L e = (m.abs.change q, 0) by rw [HD.out]; simp)
      have KC := Lib.hid (hchange_any q Aq cq W4 g m X4 ⟨hcq, F4, fun _ a ha => by
        have := hAq a ha
        have h1 := HH.out.lt
        exact ⟨by omega, fun e => by have := HH.out.ult _ e; omega, fun e => by have := HH.out.rlt _ e; omega⟩⟩ (HS.out rfl) hus)
      have HB4 := Lib.hid B4
      clear X4 Q4 F4 hcq hAq hsz HD HS HA B4
      go_wp2_with (go_at_call 34; (with_reducible refine callH KC.out ?_); intro m5 w5 X5 e5 R5 O5)
      go_ret
      exact ⟨m5, by rw [HE.out]; rfl, X5, by rw [HE.out]; exact e5, (HKeep.of HB4.out).trans R5, fun q hq => O5 q (Nat.lt_of_lt_of_le hq HB4.out.size)⟩
    · have HE := Lib.hid (show m.abs.doE L e = (m.abs, er) by rw [HD.out]; simp [hz])
      have hz' : (er != 0) = true := by simpa using hz
      have HB4 := Lib.hid B4
      have HX4 := Lib.hid X4
      clear X4 Q4 F4 hcq hAq hsz HD HS HA B4 hz
      go_wp2
      go_ret
      exact ⟨m, by rw [HE.out]; rfl, HX4.out, by rw [HE.out], .of HB4.out, fun q _ h => h⟩
end Go.Proofs.YtlggdgpdfepppaaGreatDoor
