/- The reference's histories and the acts of a script in memory. Printed by wip/mkhisr.py. One act of a script done; walk. -/
import Derived.Test.YtlggdgpdfepppaaGreatDoorQk40
import Derived.Test.YtlggdgpdfepppaaGreatDoorQk41
import Derived.Test.YtlggdgpdfepppaaGreatDoorQk42
namespace Go.Proofs.YtlggdgpdfepppaaGreatDoor
open Go.RowKit Go.Sort
set_option linter.unusedVariables false
set_option linter.unusedSimpArgs false
set_option maxRecDepth 100000
theorem info_rh : (Tryz.prog.info? 34).map (·.size) = some 11 := by kernel_rfl
def Is_rh (w : World) (b o : Nat) (x : Array Value) : Prop := x.size = 11 ∧ ∀ j, j < 11 → w.cell? ⟨b, o + j, none⟩ = x[j]?
def Has_rh (w : World) (b o : Nat) : Prop := ∃ x, Is_rh w b o x
open Classical in
noncomputable def of_rh (w : World) (b o : Nat) : Array Value := if h : Has_rh w b o then h.choose else #[]
theorem of_rh_spec {w : World} {b o : Nat} (h : Has_rh w b o) : Is_rh w b o (of_rh w b o) := by
  unfold of_rh
  rw [dif_pos h]
  exact h.choose_spec
theorem of_rh_eq {w : World} {b o : Nat} {x : Array Value} (h : Is_rh w b o x) : of_rh w b o = x := by
  have hs := of_rh_spec ⟨x, h⟩
  apply Array.ext_getElem?
  intro j
  rcases Nat.lt_or_ge j 11 with hj | hj
  · exact (hs.2 j hj).symm.trans (h.2 j hj)
  · rw [Array.getElem?_eq_none (by rw [hs.1]; exact hj), Array.getElem?_eq_none (by rw [h.1]; exact hj)]
theorem of_rh_drewN (w : World) (b o n : Nat) : of_rh (w.drewN n) b o = of_rh w b o := rfl
theorem Blk.is_rh {W : World} {g : Nat} {x : Array Value} (h : Blk W g x) (hx : x.size = 11) : Is_rh W g 0 x := ⟨hx, fun j _ => by rw [Nat.zero_add]; exact h.cell j⟩
def load_rh (v : Value) : Sem Value := Instr.loadAt 34 v
theorem load_rh_fold (v : Value) : Instr.loadAt 34 v = load_rh v := rfl
theorem run_load_rh (w : World) (b o : Nat) (h : Has_rh w b o) : (load_rh (.pointer (some ⟨b, o, none⟩))).run Tryz.prog w = .ok (.agg (of_rh w b o)) w := by
  have hs := of_rh_spec h
  generalize of_rh w b o = x at hs
  have hl := run_load_agg (P := Tryz.prog) w ⟨b, o, none⟩ 34 x.toList _ (fun j v hv => by
    rw [addr_add, hs.2 j (by have := (List.getElem?_eq_some_iff.1 hv).1; rw [← hs.1]; simpa using this)]
    simpa using hv) Tryz.underlying34 rfl (by rw [info_rh]; simp [hs.1])
  simp only [load_rh, Instr.loadAt, Instr.sureAddr, Sem.run_bind, Sem.run_pure, Result.andThen_ok]
  simpa using hl
attribute [go_sem ↓] load_rh_fold
attribute [go_sem] run_load_rh of_rh_drewN
def store_rh (p v : Value) : Sem Unit := Instr.storeAt 34 p v
theorem store_rh_fold (p v : Value) : Instr.storeAt 34 p v = store_rh p v := rfl
theorem run_storeN_rh (w : World) (c c' : Array Value) (hc : SzIs c 11) (hc' : SzIs c' 11) (h1 : Ones c') :
    (store_rh (.pointer (some ⟨w.heap.size, 0, none⟩)) (.agg c')).run Tryz.prog (w.alloc (.cells c 34)) = .ok () (w.alloc (.cells c' 34)) :=
  run_storeAt_new (P := Tryz.prog) w 34 c c' (by rw [show c'.size = 11 from hc']; exact info_rh) (by rw [show c'.size = 11 from hc', show c.size = 11 from hc]) (Array.all_eq_true_iff_forall_mem.2 fun v hv => (List.all_eq_true.1 (show c'.toList.all (·.oneCell') = true from h1)) v (by simpa using hv))
theorem run_storeB_rh (W : World) (g o : Nat) (v : Array Value) (hv : SzIs v 11) (h1 : Ones v) (hp : Plain W g) (hn : Fits o 11 (blkOf W g)) :
    (store_rh (.pointer (some ⟨g, o, none⟩)) (.agg v)).run Tryz.prog W = .ok () (W.setRow g (splice (blkOf W g) o v)) := run_store_blk W g o 11 _ v info_rh hv h1 hp hn
attribute [go_sem ↓] store_rh_fold
attribute [go_sem] run_storeN_rh run_storeB_rh
theorem info_act : (Tryz.prog.info? 68).map (·.size) = some 18 := by kernel_rfl
def Is_act (w : World) (b o : Nat) (x : Array Value) : Prop := x.size = 18 ∧ ∀ j, j < 18 → w.cell? ⟨b, o + j, none⟩ = x[j]?
def Has_act (w : World) (b o : Nat) : Prop := ∃ x, Is_act w b o x
open Classical in
noncomputable def of_act (w : World) (b o : Nat) : Array Value := if h : Has_act w b o then h.choose else #[]
theorem of_act_spec {w : World} {b o : Nat} (h : Has_act w b o) : Is_act w b o (of_act w b o) := by
  unfold of_act
  rw [dif_pos h]
  exact h.choose_spec
theorem of_act_eq {w : World} {b o : Nat} {x : Array Value} (h : Is_act w b o x) : of_act w b o = x := by
  have hs := of_act_spec ⟨x, h⟩
  apply Array.ext_getElem?
  intro j
  rcases Nat.lt_or_ge j 18 with hj | hj
  · exact (hs.2 j hj).symm.trans (h.2 j hj)
  · rw [Array.getElem?_eq_none (by rw [hs.1]; exact hj), Array.getElem?_eq_none (by rw [h.1]; exact hj)]
theorem of_act_drewN (w : World) (b o n : Nat) : of_act (w.drewN n) b o = of_act w b o := rfl
theorem Blk.is_act {W : World} {g : Nat} {x : Array Value} (h : Blk W g x) (hx : x.size = 18) : Is_act W g 0 x := ⟨hx, fun j _ => by rw [Nat.zero_add]; exact h.cell j⟩
def load_act (v : Value) : Sem Value := Instr.loadAt 68 v
theorem load_act_fold (v : Value) : Instr.loadAt 68 v = load_act v := rfl
theorem run_load_act (w : World) (b o : Nat) (h : Has_act w b o) : (load_act (.pointer (some ⟨b, o, none⟩))).run Tryz.prog w = .ok (.agg (of_act w b o)) w := by
  have hs := of_act_spec h
  generalize of_act w b o = x at hs
  have hl := run_load_agg (P := Tryz.prog) w ⟨b, o, none⟩ 68 x.toList _ (fun j v hv => by
    rw [addr_add, hs.2 j (by have := (List.getElem?_eq_some_iff.1 hv).1; rw [← hs.1]; simpa using this)]
    simpa using hv) Tryz.underlying68 rfl (by rw [info_act]; simp [hs.1])
  simp only [load_act, Instr.loadAt, Instr.sureAddr, Sem.run_bind, Sem.run_pure, Result.andThen_ok]
  simpa using hl
attribute [go_sem ↓] load_act_fold
attribute [go_sem] run_load_act of_act_drewN
def store_act (p v : Value) : Sem Unit := Instr.storeAt 68 p v
theorem store_act_fold (p v : Value) : Instr.storeAt 68 p v = store_act p v := rfl
theorem run_storeN_act (w : World) (c c' : Array Value) (hc : SzIs c 18) (hc' : SzIs c' 18) (h1 : Ones c') :
    (store_act (.pointer (some ⟨w.heap.size, 0, none⟩)) (.agg c')).run Tryz.prog (w.alloc (.cells c 68)) = .ok () (w.alloc (.cells c' 68)) :=
  run_storeAt_new (P := Tryz.prog) w 68 c c' (by rw [show c'.size = 18 from hc']; exact info_act) (by rw [show c'.size = 18 from hc', show c.size = 18 from hc]) (Array.all_eq_true_iff_forall_mem.2 fun v hv => (List.all_eq_true.1 (show c'.toList.all (·.oneCell') = true from h1)) v (by simpa using hv))
attribute [go_sem ↓] store_act_fold
attribute [go_sem] run_storeN_act 
theorem Has_rh_drew (W : World) (b o : Nat) : Has_rh W.drew b o = Has_rh W b o := propext ⟨fun h => h, fun h => h⟩
theorem of_rh_drew (W : World) (b o : Nat) : of_rh W.drew b o = of_rh W b o := rfl
theorem Plain_drewH (w : World) (g : Nat) : Plain w.drew g = Plain w g := propext ⟨fun h => h, fun h => h⟩
theorem blkOf_drewH (w : World) (g : Nat) : blkOf w.drew g = blkOf w g := rfl
theorem setRow_drewH (w : World) (g : Nat) (cs : Array Value) : w.drew.setRow g cs = (w.setRow g cs).drew := rfl
def rhArr (p : Plan) (A : Option Addr) (c : Nat) : Array Value :=
  #[.string ⟨p.from_.toArray⟩, .string ⟨p.to_.toArray⟩, .slice A p.es.length c, .int .i64 p.active, .bool false, .string ⟨#[]⟩, .string ⟨#[]⟩, .slice none 0 0, .int .i64 0, .slice none 0 0, .slice none 0 0]
theorem rhArr_sz (p : Plan) (A : Option Addr) (c : Nat) (n : Nat) : SzIs (rhArr p A c) n = (11 = n) := propext ⟨fun h => h, fun h => h⟩
theorem rhArr_ones (p : Plan) (A : Option Addr) (c : Nat) : Ones (rhArr p A c) = True := eq_true (by show (rhArr p A c).toList.all (·.oneCell') = true; simp [rhArr, Value.oneCell'])
abbrev rh0 : Array Value := rhArr plan0 none 0
def brh (parts : Array (Nat × Value)) : Sem Value := Instr.build 34 parts
theorem brh_fold (parts : Array (Nat × Value)) : Instr.build 34 parts = brh parts := rfl
theorem run_brh (w : World) (p : Plan) (A : Option Addr) (c : Nat) : (brh #[(0, .agg (p.arr A c))]).run Tryz.prog w = .ok (.agg (rhArr p A c)) w := run_build w _ _ _ (by kernel_rfl)
theorem run_brh0 (w : World) : (brh #[]).run Tryz.prog w = .ok (.agg rh0) w := run_build w _ _ _ (by kernel_rfl)
theorem splice_rh (p q : Plan) (A B : Option Addr) (c d : Nat) : splice (rhArr p A c) 0 (rhArr q B d) = rhArr q B d := rfl
theorem Fits_rh (p : Plan) (A : Option Addr) (c o n : Nat) : Fits o n (rhArr p A c) = (o + n ≤ 11) := propext ⟨fun h => h, fun h => h⟩
theorem results_tct {P : Program} {fn : Func} {p t u : Tmp} {ty : TypeId} (h : fn.results = #[.tmp t, .cell p ty, .tmp u]) (tmps : Array Value) (w : World) (g : Nat) (arr : Array Value) (n : Nat) (d : TypeDesc) (hp : tmps.getD p undef = .pointer (some ⟨g, 0, none⟩)) (hn : arr.size = n) (hc : ∀ j, w.cell? ⟨g, j, none⟩ = arr[j]?)
    (hu : P.underlying ty = some d) (hd : (match d with | .struct _ | .array _ _ => true | _ => false) = true) (hi : (P.info? ty).map (·.size) = some n) :
    (results fn tmps).run P w = .ok (.tuple #[tmps.getD t undef, .agg arr, tmps.getD u undef]) w := by
  subst hn
  have hp' : tmps[p]?.getD undef = .pointer (some ⟨g, 0, none⟩) := by simpa using hp
  have hl := run_load_agg (P := P) w ⟨g, 0, none⟩ ty arr.toList _ (fun j v hv => by
    rw [addr_add, Nat.zero_add, hc]
    simpa using hv) hu hd (by simpa using hi)
  simp [results, h, hp', asAddr, hl]
attribute [local go_sem ↓] bplanA_fold brh_fold
attribute [local go_sem] run_bplanA0 run_storeD_plan splice_planA Fits_planA run_brh run_brh0 rhArr_sz rhArr_ones splice_rh Fits_rh Has_rh_drew of_rh_drew Plain_drewH blkOf_drewH setRow_drewH
set_option maxHeartbeats 4000000 in
theorem rnew24_any (p : Plan) (A : Option Addr) (c : Nat) (w : World) (hs : p.small) (hc : p.es.length ≤ c) (hE : Ents w A p.es) :
    Calls Tryz.prog 10 #[.agg (p.arr A c)] w (Ret w (.tuple #[.agg (if planCheck p ≠ 0 then rh0 else rhArr p A c), .int .i64 (planCheck p)])) := by
  have HL := Lib.hid (fun W' (b : Below w.heap.size w W') => rplanCheck_any p A c W' hs hc (hE.below (B := 0) b))
  clear hs hE
  obtain ⟨v, hv⟩ : ∃ v, v = (if planCheck p ≠ 0 then rh0 else rhArr p A c) := ⟨_, rfl⟩
  rw [← hv]
  have HV := Lib.hid hv
  clear hv
  go_enter Tryz.func10, Tryz.ntmps10
  go_upto_region 1 with (fail)
  have P0 : Blk ((w.alloc (.cells (p.arr A c) 24)).alloc (.cells rh0 34)) w.heap.size (p.arr A c) := (Blk.new w _ _).alloc _
  have R0 : Blk ((w.alloc (.cells (p.arr A c) 24)).alloc (.cells rh0 34)) (w.heap.size + 1) rh0 := by rw [← World.size_alloc w (.cells (p.arr A c) 24)]; exact Blk.new _ _ _
  have B0 : Below w.heap.size w ((w.alloc (.cells (p.arr A c) 24)).alloc (.cells rh0 34)) := by go_grown
  generalize hW0 : World.alloc (World.alloc w _) _ = W0
  have hW0' : (w.alloc (.cells (p.arr A c) 24)).alloc (.cells rh0 34) = W0 := hW0
  rw [hW0'] at P0 R0 B0
  clear hW0 hW0'
  have hge : w.heap.size ≤ w.heap.size + 1 := by omega
  generalize w.heap.size + 1 = gr at R0 hge ⊢
  obtain ⟨gp, hgp⟩ : ∃ g, g = w.heap.size := ⟨_, rfl⟩
  rw [← hgp] at P0 ⊢
  clear hgp
  have i1 : Has_plan W0 gp 0 := ⟨_, P0.is_plan rfl⟩
  have i2 : of_plan W0 gp 0 = p.arr A c := of_plan_eq (P0.is_plan rfl)
  have kc := Lib.hid (HL.out W0 B0)
  generalize planCheck p = z at *
  go_upto_region 2 with (go_at_call 27; (with_reducible refine callR kc.out ?_); intro w2 b2 _ _ _)
  have P2 := P0.step b2
  have R2 := R0.step b2
  have B2 := below_step B0 b2
  clear i1 i2 kc P0 R0 B0 b2
  have i1 : Has_plan w2 gp 0 := ⟨_, P2.is_plan rfl⟩
  have i2 : of_plan w2 gp 0 = p.arr A c := of_plan_eq (P2.is_plan rfl)
  have d2 := R2.plain
  have d3 := R2.of
  by_cases hz : z = 0
  · have HZ := Lib.hid (show v = rhArr p A c by rw [HV.out, if_neg (by simpa using hz)])
    subst hz
    go_wp2
    exact bodyPost_ret (results_agg Tryz.results10 _ _ gr (rhArr p A c) 11 _ rfl rfl (R2.set _).cell Tryz.underlying34 rfl info_rh) rfl ⟨by rw [HZ.out]; rfl, below_setRow' B2 hge _⟩
  · have hz' : (z != 0) = true := by simpa using hz
    have HZ := Lib.hid (show v = rh0 by rw [HV.out, if_pos hz])
    clear hz
    go_wp2
    exact bodyPost_ret (results_agg Tryz.results10 _ _ gr rh0 11 _ rfl rfl (R2.set _).cell Tryz.underlying34 rfl info_rh) rfl ⟨by rw [HZ.out]; rfl, below_setRow' B2 hge _⟩
theorem PlW.other {W W' : World} {g q : Nat} {u r : Value} {p : Plan} {A : Option Addr} {c : Nat} (h : PlW W g u r p A c) (O : Only q W W') (hA : p.es ≠ [] → ∀ a, A = some a → a.block ≠ q) : PlW W' g u r p A c :=
  ⟨h.len, h.ents.keepB (by rw [O.size]; exact Nat.le_refl _) (fun hne a ha => O.block _ (hA hne a ha)), h.far⟩
theorem His.other {w W W' : World} {g q : Nat} {m : HM} (h : His w W g m) (O : Only q W W') (hg : g ≠ q) (hu : m.u.ownBlock ≠ some q) (hr : m.r.ownBlock ≠ some q) (ho : HOff m q) (hq : w.heap.size ≤ q) : His w W' g m where
  blk := by obtain ⟨t, hb⟩ := h.blk; exact ⟨t, (O.block g hg).trans hb⟩
  uo := h.uo.keepE fun k e => O.block k (by rintro rfl; exact hu e)
  ro := h.ro.keepE fun k e => O.block k (by rintro rfl; exact hr e)
  ug := h.ug
  rg := h.rg
  ur := h.ur
  pl := h.pl.other O ho.act
  tp := ⟨h.tp.pl.other O ho.tmp, h.tp.none⟩
  us_ s hs := ⟨(h.us_ s hs).pl.other O (ho.us_ s hs), (h.us_ s hs).none⟩
  rs_ s hs := ⟨(h.rs_ s hs).pl.other O (ho.rs_ s hs), (h.rs_ s hs).none⟩
  bel := O.below h.bel hq
  ge := h.ge
theorem His.lift {w w1 W : World} {g : Nat} {m : HM} (h : His w1 W g m) (b : Below w.heap.size w w1) : His w W g m where
  blk := h.blk
  uo := h.uo.mono b.size
  ro := h.ro.mono b.size
  ug := h.ug
  rg := h.rg
  ur := h.ur
  pl := h.pl
  tp := h.tp
  us_ := h.us_
  rs_ := h.rs_
  bel := b.trans (h.bel.mono b.size)
  ge := Nat.le_trans b.size h.ge
theorem HOff.new {p : Plan} {A : Option Addr} {c q : Nat} (h : ∀ a, A = some a → a.block ≠ q) : HOff (newHM p A c) q := ⟨fun _ => h, fun _ a ha => (by cases ha), fun s hs => (by cases hs), fun s hs => (by cases hs)⟩
def RetOpen (w : World) (p : Plan) (e : Ending) (w' : World) : Prop :=
  (planCheck p ≠ 0 → e = .returned (.tuple #[.pointer none, .agg rh0, .bool false]) ∧ Below w.heap.size w w') ∧
  (planCheck p = 0 → ∃ g A c A0 c0, e = .returned (.tuple #[.pointer (some ⟨g, 0, none⟩), .agg (rhArr p A0 c0), .bool true]) ∧ His w w' g (newHM p A c) ∧ ∀ a, A = some a → w.heap.size ≤ a.block)
theorem callOpen0 {P : Program} {f : FuncId} {args : Array Value} {W : World} {p : Plan} {K : Ending → World → Prop} (h : Calls P f args W (RetOpen W p)) (hz : planCheck p ≠ 0)
    (k : ∀ w', Below W.heap.size W w' → K (.returned (.tuple #[.pointer none, .agg rh0, .bool false])) w') : Calls P f args W K :=
  h.mono fun e w' hh => by
    obtain ⟨he, hb⟩ := hh.1 hz
    subst he
    exact k w' hb
theorem callOpen1 {P : Program} {f : FuncId} {args : Array Value} {W : World} {p : Plan} {K : Ending → World → Prop} (h : Calls P f args W (RetOpen W p)) (hz : planCheck p = 0)
    (k : ∀ g A c A0 c0 w', His W w' g (newHM p A c) → (∀ a, A = some a → W.heap.size ≤ a.block) → K (.returned (.tuple #[.pointer (some ⟨g, 0, none⟩), .agg (rhArr p A0 c0), .bool true])) w') : Calls P f args W K :=
  h.mono fun e w' hh => by
    obtain ⟨g, A, c, A0, c0, he, h1, h2⟩ := hh.2 hz
    subst he
    exact k g A c A0 c0 w' h1 h2
set_option maxHeartbeats 8000000 in
theorem open24_any (p : Plan) (A : Option Addr) (c : Nat) (w : World) (hL : Laid w) (hs : p.small) (hc : p.es.length ≤ c) (hE : Ents w A p.es) :
    Calls Tryz.prog 13 #[.agg (p.arr A c)] w (RetOpen w p) := by
  have HR := Lib.hid (fun W' (b : Below w.heap.size w W') => rnew24_any p A c W' hs hc (hE.below (B := 0) b))
  have HN := Lib.hid (fun W' (b : Below w.heap.size w W') => hnew_any p A c W' (hL.below b) hs hc (hE.below (B := 0) b))
  clear hL hs hE
  go_enter Tryz.func13, Tryz.ntmps13
  go_upto_region 1 with (fail)
  have P0 : Blk ((w.alloc (.cells (p.arr A c) 24)).alloc (.cells rh0 34)) w.heap.size (p.arr A c) := (Blk.new w _ _).alloc _
  have R0 : Blk ((w.alloc (.cells (p.arr A c) 24)).alloc (.cells rh0 34)) (w.heap.size + 1) rh0 := by rw [← World.size_alloc w (.cells (p.arr A c) 24)]; exact Blk.new _ _ _
  have B0 : Below w.heap.size w ((w.alloc (.cells (p.arr A c) 24)).alloc (.cells rh0 34)) := by go_grown
  generalize hW0 : World.alloc (World.alloc w _) _ = W0
  have hW0' : (w.alloc (.cells (p.arr A c) 24)).alloc (.cells rh0 34) = W0 := hW0
  rw [hW0'] at P0 R0 B0
  clear hW0 hW0'
  have hge : w.heap.size ≤ w.heap.size + 1 := by omega
  have hltr := R0.lt
  generalize w.heap.size + 1 = gr at R0 hge hltr ⊢
  obtain ⟨gp, hgp⟩ : ∃ g, g = w.heap.size := ⟨_, rfl⟩
  rw [← hgp] at P0 ⊢
  clear hgp
  have i1 : Has_plan W0 gp 0 := ⟨_, P0.is_plan rfl⟩
  have i2 : of_plan W0 gp 0 = p.arr A c := of_plan_eq (P0.is_plan rfl)
  have kc := Lib.hid (HR.out W0 B0)
  have HC := Lib.hid hc
  clear hc
  by_cases hz : planCheck p = 0
  · have HZ := Lib.hid hz
    have kc := Lib.hid (show Calls Tryz.prog 10 #[.agg (p.arr A c)] W0 (Ret W0 (.tuple #[.agg (rhArr p A c), .int .i64 0])) by
      have := kc.out
      rw [hz, if_neg (by decide)] at this
      exact this)
    clear hz
    go_upto_region 2 with (go_at_call 10; (with_reducible refine callR kc.out ?_); intro w2 b2 _ _ _)
    have Z2 := Blk.new w2 (rhArr p A c) 34
    have D2 := below_step b2 (alloc_below5 w2 (.cells (rhArr p A c) 34))
    have hlt2 := b2.size
    clear b2 kc i1 i2
    have P2 := (P0.step D2)
    have R2 := (R0.step D2)
    have B2 := below_step B0 D2
    have hlt3 := Z2.lt
    clear P0 R0 D2
    generalize hW2 : w2.alloc (.cells (rhArr p A c) 34) = W2 at Z2 P2 R2 B2 hlt3
    have hW2' : World.alloc w2 _ = W2 := hW2
    try rw [hW2']
    clear hW2 hW2'
    generalize w2.heap.size = g5 at Z2 hlt2 hlt3 ⊢
    have i1 : Has_plan W2 gp 0 := ⟨_, P2.is_plan rfl⟩
    have i2 : of_plan W2 gp 0 = p.arr A c := of_plan_eq (P2.is_plan rfl)
    have kn := Lib.hid (HN.out W2 B2)
    go_upto_region 5 with (go_at_call 9; (with_reducible refine callNew kn.out HZ.out ?_); intro g A3 c3 w3 X3 hA3)
    have b3 := X3.bel
    have R3 := R2.step b3
    have Z3 := Z2.step b3
    have i3 : Has_rh w3 g5 0 := ⟨_, Z3.is_rh rfl⟩
    have i4 : of_rh w3 g5 0 = rhArr p A c := of_rh_eq (Z3.is_rh rfl)
    have d2 := R3.plain
    have d3 := R3.of
    have hgr : gr < W2.heap.size := by omega
    have hne5 : ¬ g5 = gr := by omega
    have hg3 := X3.ge
    have XF : ∀ cs, His w (w3.setRow gr cs) g (newHM p A3 c3) := fun cs => (X3.lift B2).other (Only.setRow gr _ _) (by omega) (by intro e; cases e) (by intro e; cases e) (HOff.new (fun a ha => by have := hA3 a ha; omega)) hge
    have HXF := Lib.hid XF
    have HAF := Lib.hid (fun a ha => show w.heap.size ≤ Addr.block a by have := hA3 a ha; have := B2.size; omega)
    clear i1 i2 kn P2 R2 Z2 X3 hA3 b3 XF
    go_region
    all_goals
      go_wp2
      exact bodyPost_ret (results_tct Tryz.results13 _ _ gr (rhArr p A c) 11 _ rfl rfl ((R3.set _).cell) Tryz.underlying34 rfl info_rh) rfl ⟨fun h => absurd HZ.out h, fun _ => ⟨g, A3, c3, A, c, rfl, (HXF.out _).drw, HAF.out⟩⟩
  · have HZ := Lib.hid hz
    have kc := Lib.hid (show Calls Tryz.prog 10 #[.agg (p.arr A c)] W0 (Ret W0 (.tuple #[.agg rh0, .int .i64 (planCheck p)])) by
      have := kc.out
      rw [if_pos hz] at this
      exact this)
    have hz' : (planCheck p != 0) = true := by simpa using hz
    generalize hq : planCheck p = z at *
    clear hz
    go_upto_region 2 with (go_at_call 10; (with_reducible refine callR kc.out ?_); intro w2 b2 _ _ _)
    have Z2 := Blk.new w2 rh0 34
    have D2 := below_step b2 (alloc_below5 w2 (.cells rh0 34))
    have R2 := (R0.step D2)
    have B2 := below_step B0 D2
    have hne5 : ¬ w2.heap.size = gr := by have := b2.size; omega
    clear P0 R0 D2 b2 kc i1 i2
    generalize hW2 : World.alloc w2 _ = W2
    have hW2' : w2.alloc (.cells rh0 34) = W2 := hW2
    rw [hW2'] at Z2 R2 B2
    clear hW2 hW2'
    generalize w2.heap.size = g5 at Z2 hne5 ⊢
    have i3 : Has_rh W2 g5 0 := ⟨_, Z2.is_rh rfl⟩
    have i4 : of_rh W2 g5 0 = rh0 := of_rh_eq (Z2.is_rh rfl)
    have d2 := R2.plain
    have d3 := R2.of
    clear Z2
    go_upto_region 3 with (fail)
    go_region
    all_goals
      go_wp2
      exact bodyPost_ret (results_tct Tryz.results13 _ _ gr rh0 11 _ rfl rfl ((R2.set _).cell) Tryz.underlying34 rfl info_rh) rfl ⟨fun _ => ⟨rfl, (below_setRow' B2 hge _).drew⟩, fun h => absurd (hq.symm.trans h) HZ.out⟩
def fewB (n n6 n7 n8 : Nat) : Bool := decide (n ≤ 40) && (decide (n6 ≤ 400) && (decide (n7 ≤ 60) && decide (n8 ≤ 60)))
def fewG (d : DBs) (G : GDB) (n : Nat) : Bool := fewB n d.fn G.airways.length G.procs.length
set_option maxHeartbeats 4000000 in
theorem few24_any (d : DBs) (G : GDB) (w : World) (hD : GdAt w d G) (B : Option Addr) (n : Nat) (cb : Nat) : Calls Tryz.prog 14 #[.agg d.cells, .slice B n cb] w (Ret w (.bool (fewG d G n))) := by
  obtain ⟨A, c, h7, _, _⟩ := hD.air
  obtain ⟨A8, c8, h8, _, _⟩ := hD.prc
  have h6 := hD.db.ok.c6
  unfold fewG
  clear hD
  generalize d.cells = cs at *
  generalize G.airways.length = n7 at *
  generalize G.procs.length = n8 at *
  generalize d.fa = A6 at *
  generalize d.fc = c6 at *
  generalize d.fn = n6 at *
  have HF := Lib.hid (show fewB n n6 n7 n8 = (decide (n ≤ 40) && (decide (n6 ≤ 400) && (decide (n7 ≤ 60) && decide (n8 ≤ 60)))) from rfl)
  generalize fewB n n6 n7 n8 = v at *
  go_enter Tryz.func14, Tryz.ntmps14
  go_upto_region 1 with (fail)
  have X0 : Blk (w.alloc (.cells cs 48)) w.heap.size cs := Blk.new w _ _
  have B0 := alloc_below3 w (.cells cs 48)
  generalize w.alloc _ = W at X0 B0 ⊢
  generalize w.heap.size = g0 at X0 ⊢
  have k6 : W.cell? ⟨g0, 6, none⟩ = some (.slice A6 n6 c6) := (X0.cell 6).trans h6
  have k7 : W.cell? ⟨g0, 7, none⟩ = some (.slice A n7 c) := (X0.cell 7).trans h7
  have k8 : W.cell? ⟨g0, 8, none⟩ = some (.slice A8 n8 c8) := (X0.cell 8).trans h8
  clear h6 h7 h8 X0
  by_cases a0 : n ≤ 40
  · have a0' : decide ((n : Int) ≤ 40) = true := by simp; omega
    by_cases a1 : n6 ≤ 400
    · have a1' : decide ((n6 : Int) ≤ 400) = true := by simp; omega
      by_cases a2 : n7 ≤ 60
      · have a2' : decide ((n7 : Int) ≤ 60) = true := by simp; omega
        have HV := Lib.hid (show v = decide ((n8 : Int) ≤ 60) by rw [HF.out]; simp [a0, a1, a2]; omega)
        clear a0 a1 a2
        go_wp2
        go_ret
        exact Ret.bool (by rw [HV.out]) B0
      · have a2' : decide ((n7 : Int) ≤ 60) = false := by simp; omega
        have HV := Lib.hid (show v = false by rw [HF.out]; simp [a2])
        clear a0 a1 a2
        go_wp2
        go_ret
        exact Ret.bool (by rw [HV.out]) B0
    · have a1' : decide ((n6 : Int) ≤ 400) = false := by simp; omega
      have HV := Lib.hid (show v = false by rw [HF.out]; simp [a1])
      clear a0 a1
      go_wp2
      go_ret
      exact Ret.bool (by rw [HV.out]) B0
  · have a0' : decide ((n : Int) ≤ 40) = false := by simp; omega
    have HV := Lib.hid (show v = false by rw [HF.out]; simp [a0])
    clear a0
    go_wp2
    go_ret
    exact Ret.bool (by rw [HV.out]) B0
end Go.Proofs.YtlggdgpdfepppaaGreatDoor
namespace Go.Proofs.YtlggdgpdfepppaaGreatDoor
open Go.RowKit Go.Sort
set_option linter.unusedVariables false
set_option linter.unusedSimpArgs false
set_option maxRecDepth 100000
theorem Blk.act_edt {W : World} {g : Nat} {a : ActV} {A : Option Addr} {c : Nat} (h : Blk W g (actArr a A c)) : Is_edt W g 1 a.e := fun j hj => by
  rw [h.cell]
  match j, hj with
  | 0, _ | 1, _ | 2, _ | 3, _ | 4, _ | 5, _ | 6, _ | 7, _ | 8, _ | 9, _ | 10, _ | 11, _ => rfl
theorem Blk.act_plan {W : World} {g : Nat} {a : ActV} {A : Option Addr} {c : Nat} (h : Blk W g (actArr a A c)) : Is_plan W g 14 (a.plan.arr A c) := ⟨rfl, fun j hj => by
  rw [h.cell]
  match j, hj with
  | 0, _ | 1, _ | 2, _ | 3, _ => rfl⟩
structure HBnd (m : HM) : Prop where
  us : m.us.length ≤ 1000
  rs : m.rs.length ≤ 1000
  act : m.p.es.length ≤ 1000000
  tmp : m.t.p.es.length ≤ 1000000
  usE : ∀ s ∈ m.us, s.p.es.length ≤ 1000000
  rsE : ∀ s ∈ m.rs, s.p.es.length ≤ 1000000
set_option maxHeartbeats 16000000 in
theorem do24_any (L : Look) (cs : Array Value) (a : ActV) (A : Option Addr) (c : Nat) {w : World} (W : World) (g : Nat) (m : HM) (h : His w W g m) (hL : Laid w) (hcs : cs.size = 9) (hk0 : 0 ≤ a.kind) (hk1 : a.kind ≤ 255)
    (hpw : PlW W g m.u m.r a.plan A c) (hps : a.plan.small) (hb : HBnd m)
    (hA : ∀ (A : Option Addr) (c : Nat) (W' : World), Below w.heap.size w W' → m.abs.base.es.length ≤ c → Ents W' A m.abs.base.es → Calls Tryz.prog 33 #[.agg cs, .agg (m.abs.base.arr A c), .agg a.e.arr] W' (RetAp W' (applyS L m.abs.base a.e)))
    (hsm : (applyS L m.abs.base a.e).2 = 0 → (applyS L m.abs.base a.e).1.es.length ≤ 1000000) :
    Calls Tryz.prog 21 #[.pointer (some ⟨g, 0, none⟩), .agg cs, .agg (actArr a A c)] W (RetH w W g m (m.abs.step L a).1 (.int .i64 (m.abs.step L a).2)) := by
  obtain ⟨k, hk⟩ : ∃ k : Nat, a.kind = (k : Int) := ⟨a.kind.toNat, by omega⟩
  have c0 : (actArr a A c)[0]? = some (.int .u8 (k : Int)) := by rw [← hk]; rfl
  have c13 : (actArr a A c)[13]? = some (.int .i64 a.to_) := rfl
  have HP := Lib.hid hpw
  have HA := Lib.hid hA
  have HS := Lib.hid hsm
  clear hpw hA hsm
  go_enter Tryz.func21, Tryz.ntmps21
  go_upto_region 1 with (fail)
  have D0 : Blk ((W.alloc (.cells cs 48)).alloc (.cells (actArr a A c) 68)) W.heap.size cs := (Blk.new W _ _).alloc _
  have E0 : Blk ((W.alloc (.cells cs 48)).alloc (.cells (actArr a A c) 68)) (W.heap.size + 1) (actArr a A c) := by rw [← World.size_alloc W (.cells cs 48)]; exact Blk.new _ _ _
  have B0 : Below W.heap.size W ((W.alloc (.cells cs 48)).alloc (.cells (actArr a A c) 68)) := by go_grown
  have X0 := h.step B0
  have P0 := HP.out.keep (.of B0)
  generalize hW0 : World.alloc (World.alloc W _) _ = W0
  have hW0' : (W.alloc (.cells cs 48)).alloc (.cells (actArr a A c) 68) = W0 := hW0
  rw [hW0'] at D0 E0 B0 X0 P0
  clear hW0 hW0'
  generalize W.heap.size + 1 = ga at E0 ⊢
  generalize W.heap.size = gd at D0 ⊢
  have k0 : W0.cell? ⟨ga, 0, none⟩ = some (.int .u8 (k : Int)) := (E0.cell 0).trans c0
  go_upto_region 2 with (fail)
  obtain ⟨r, hr⟩ : ∃ r : Int, r = (k : Int) % 9 := ⟨_, rfl⟩
  rw [← hr]
  have HB := Lib.hid B0
  have HX := Lib.hid X0
  have HD := Lib.hid D0
  have HE := Lib.hid E0
  have HP0 := Lib.hid P0
  clear h B0 X0 D0 E0 P0 k0 c0
  by_cases h3 : r = 3
  · have HS := Lib.hid (show m.abs.step L a = m.abs.undoH by unfold Hist.step; rw [hk, if_pos (by omega)])
    have K := Lib.hid (hundo_any W0 g m HX.out hb.us hb.rs)
    subst h3
    clear hr hk hk0 hk1
    go_wp2_with (go_at_call 18; (with_reducible refine callH K.out ?_); intro m1 W1 X1 e1 R1 O1)
    go_ret
    exact RetH.from ⟨m1, by rw [HS.out]; rfl, X1, by rw [HS.out]; exact e1, R1, O1⟩ HB.out
  have hn3 : (r == 3) = false := by simpa using h3
  by_cases h4 : r = 4
  · have HS := Lib.hid (show m.abs.step L a = m.abs.redoH by unfold Hist.step; rw [hk, if_neg (by omega), if_pos (by omega)])
    have K := Lib.hid (hredo_any W0 g m HX.out hb.us hb.rs)
    subst h4
    clear hr hk hk0 hk1
    go_wp2_with (go_at_call 20; (with_reducible refine callH K.out ?_); intro m1 W1 X1 e1 R1 O1)
    go_ret
    exact RetH.from ⟨m1, by rw [HS.out]; rfl, X1, by rw [HS.out]; exact e1, R1, O1⟩ HB.out
  have hn4 : (r == 4) = false := by simpa using h4
  by_cases h5 : r = 5
  · have HS := Lib.hid (show m.abs.step L a = m.abs.exec by unfold Hist.step; rw [hk, if_neg (by omega), if_neg (by omega), if_pos (by omega)])
    have K := Lib.hid (hexec_any W0 g m HX.out)
    subst h5
    clear hr hk hk0 hk1
    go_wp2_with (go_at_call 37; (with_reducible refine callH K.out ?_); intro m1 W1 X1 e1 R1 O1)
    go_ret
    exact RetH.from ⟨m1, by rw [HS.out]; rfl, X1, by rw [HS.out]; exact e1, R1, O1⟩ HB.out
  have hn5 : (r == 5) = false := by simpa using h5
  by_cases h6 : r = 6
  · have HS := Lib.hid (show m.abs.step L a = m.abs.erase by unfold Hist.step; rw [hk, if_neg (by omega), if_neg (by omega), if_neg (by omega), if_pos (by omega)])
    have K := Lib.hid (herase_any W0 g m HX.out)
    subst h6
    clear hr hk hk0 hk1
    go_wp2_with (go_at_call 38; (with_reducible refine callH K.out ?_); intro m1 W1 X1 e1 R1 O1)
    go_ret
    exact RetH.from ⟨m1, by rw [HS.out]; rfl, X1, by rw [HS.out]; exact e1, R1, O1⟩ HB.out
  have hn6 : (r == 6) = false := by simpa using h6
  by_cases h7 : r = 7
  · have HS := Lib.hid (show m.abs.step L a = m.abs.advance a.to_ by unfold Hist.step; rw [hk, if_neg (by omega), if_neg (by omega), if_neg (by omega), if_neg (by omega), if_pos (by omega)])
    have K := Lib.hid (hadvance_any W0 g m HX.out a.to_ hb.act hb.tmp hb.usE hb.rsE hb.us hb.rs)
    subst h7
    have k13 : W0.cell? ⟨ga, 13, none⟩ = some (.int .i64 a.to_) := (HE.out.cell 13).trans c13
    clear hr hk hk0 hk1
    go_wp2_with (go_at_call 25; (with_reducible refine callH K.out ?_); intro m1 W1 X1 e1 R1 O1)
    go_ret
    exact RetH.from ⟨m1, by rw [HS.out]; rfl, X1, by rw [HS.out]; exact e1, R1, O1⟩ HB.out
  have hn7 : (r == 7) = false := by simpa using h7
  by_cases h8 : r = 8
  · have HS := Lib.hid (show m.abs.step L a = m.abs.replace a.plan by unfold Hist.step; rw [hk, if_neg (by omega), if_neg (by omega), if_neg (by omega), if_neg (by omega), if_neg (by omega), if_pos (by omega)])
    have K := Lib.hid (hreplace_any a.plan A c W0 g m HX.out hL hps HP0.out hb.us)
    subst h8
    have i1 : Has_plan W0 ga 14 := ⟨_, HE.out.act_plan⟩
    have i2 : of_plan W0 ga 14 = a.plan.arr A c := of_plan_eq HE.out.act_plan
    clear hr hk hk0 hk1
    go_wp2_with (go_at_call 39; (with_reducible refine callH K.out ?_); intro m1 W1 X1 e1 R1 O1)
    go_ret
    exact RetH.from ⟨m1, by rw [HS.out]; rfl, X1, by rw [HS.out]; exact e1, R1, O1⟩ HB.out
  have hn8 : (r == 8) = false := by simpa using h8
  have HS2 := Lib.hid (show m.abs.step L a = m.abs.doE L a.e by unfold Hist.step; rw [hk, if_neg (by omega), if_neg (by omega), if_neg (by omega), if_neg (by omega), if_neg (by omega), if_neg (by omega)])
  have K := Lib.hid (hdo_any L cs a.e W0 g m HX.out hcs hb.us HA.out HS.out)
  have k1 : Has_db W0 gd 0 := ⟨_, HD.out.is_db hcs⟩
  have k2 : of_db W0 gd 0 = cs := of_db_eq (HD.out.is_db hcs)
  have j1 : Has_edt W0 ga 1 := ⟨_, HE.out.act_edt⟩
  have j2 : of_edt W0 ga 1 = a.e := of_edt_eq HE.out.act_edt
  clear hr hk hk0 hk1 h3 h4 h5 h6 h7 h8
  go_wp2_with (go_at_call 15; (with_reducible refine callH K.out ?_); intro m1 W1 X1 e1 R1 O1)
  go_ret
  exact RetH.from ⟨m1, by rw [HS2.out]; rfl, X1, by rw [HS2.out]; exact e1, R1, O1⟩ HB.out
end Go.Proofs.YtlggdgpdfepppaaGreatDoor
