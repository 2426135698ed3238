/- The reference's histories and the acts of a script in memory. Printed by wip/mkhisr.py. One act of a script done; walk. -/
import Derived.Test.YtlggdgpdfepppaaGreatDoorPk40
import Derived.Test.YtlggdgpdfepppaaGreatDoorPk41
import Derived.Test.YtlggdgpdfepppaaGreatDoorPk42
namespace Go.Proofs.YtlggdgpdfepppaaGreatDoor
open Go.RowKit Go.Sort
set_option linter.unusedVariables false
set_option linter.unusedSimpArgs false
set_option maxRecDepth 100000
theorem info_rh : (Tryz.prog.info? 34).map (·.size) = some 11 := by kernel_rfl
def Is_rh (w : World) (b o : Nat) (x : Array Value) : Prop := x.size = 11 ∧ ∀ j, j < 11 → w.cell? ⟨b, o + j, none⟩ = x[j]?
def Has_rh (w : World) (b o : Nat) : Prop := ∃ x, Is_rh w b o x
open Classical in
noncomputable def of_rh (w : World) (b o : Nat) : Array Value := if h : Has_rh w b o then h.choose else #[]
theorem of_rh_spec {w : World} {b o : Nat} (h : Has_rh w b o) : Is_rh w b o (of_rh w b o) := by
  unfold of_rh
  rw [dif_pos h]
  exact h.choose_spec
theorem of_rh_eq {w : World} {b o : Nat} {x : Array Value} (h : Is_rh w b o x) : of_rh w b o = x := by
  have hs := of_rh_spec ⟨x, h⟩
  apply Array.ext_getElem?
  intro j
  rcases Nat.lt_or_ge j 11 with hj | hj
  · exact (hs.2 j hj).symm.trans (h.2 j hj)
  · rw [Array.getElem?_eq_none (by rw [hs.1]; exact hj), Array.getElem?_eq_none (by rw [h.1]; exact hj)]
theorem of_rh_drewN (w : World) (b o n : Nat) : of_rh (w.drewN n) b o = of_rh w b o := rfl
theorem Blk.is_rh {W : World} {g : Nat} {x : Array Value} (h : Blk W g x) (hx : x.size = 11) : Is_rh W g 0 x := ⟨hx, fun j _ => by rw [Nat.zero_add]; exact h.cell j⟩
def load_rh (v : Value) : Sem Value := Instr.loadAt 34 v
theorem load_rh_fold (v : Value) : Instr.loadAt 34 v = load_rh v := rfl
theorem run_load_rh (w : World) (b o : Nat) (h : Has_rh w b o) : (load_rh (.pointer (some ⟨b, o, none⟩))).run Tryz.prog w = .ok (.agg (of_rh w b o)) w := by
  have hs := of_rh_spec h
  generalize of_rh w b o = x at hs
  have hl := run_load_agg (P := Tryz.prog) w ⟨b, o, none⟩ 34 x.toList _ (fun j v hv => by
    rw [addr_add, hs.2 j (by have := (List.getElem?_eq_some_iff.1 hv).1; rw [← hs.1]; simpa using this)]
    simpa using hv) Tryz.underlying34 rfl (by rw [info_rh]; simp [hs.1])
  simp only [load_rh, Instr.loadAt, Instr.sureAddr, Sem.run_bind, Sem.run_pure, Result.andThen_ok]
  simpa using hl
attribute [go_sem ↓] load_rh_fold
attribute [go_sem] run_load_rh of_rh_drewN
def store_rh (p v : Value) : Sem Unit := Instr.storeAt 34 p v
theorem store_rh_fold (p v : Value) : Instr.storeAt 34 p v = store_rh p v := rfl
theorem run_storeN_rh (w : World) (c c' : Array Value) (hc : SzIs c 11) (hc' : SzIs c' 11) (h1 : Ones c') :
    (store_rh (.pointer (some ⟨w.heap.size, 0, none⟩)) (.agg c')).run Tryz.prog (w.alloc (.cells c 34)) = .ok () (w.alloc (.cells c' 34)) :=
  run_storeAt_new (P := Tryz.prog) w 34 c c' (by rw [show c'.size = 11 from hc']; exact info_rh) (by rw [show c'.size = 11 from hc', show c.size = 11 from hc]) (Array.all_eq_true_iff_forall_mem.2 fun v hv => (List.all_eq_true.1 (show c'.toList.all (·.oneCell') = true from h1)) v (by simpa using hv))
theorem run_storeB_rh (W : World) (g o : Nat) (v : Array Value) (hv : SzIs v 11) (h1 : Ones v) (hp : Plain W g) (hn : Fits o 11 (blkOf W g)) :
    (store_rh (.pointer (some ⟨g, o, none⟩)) (.agg v)).run Tryz.prog W = .ok () (W.setRow g (splice (blkOf W g) o v)) := run_store_blk W g o 11 _ v info_rh hv h1 hp hn
attribute [go_sem ↓] store_rh_fold
attribute [go_sem] run_storeN_rh run_storeB_rh
theorem info_act : (Tryz.prog.info? 68).map (·.size) = some 18 := by kernel_rfl
def Is_act (w : World) (b o : Nat) (x : Array Value) : Prop := x.size = 18 ∧ ∀ j, j < 18 → w.cell? ⟨b, o + j, none⟩ = x[j]?
def Has_act (w : World) (b o : Nat) : Prop := ∃ x, Is_act w b o x
open Classical in
noncomputable def of_act (w : World) (b o : Nat) : Array Value := if h : Has_act w b o then h.choose else #[]
theorem of_act_spec {w : World} {b o : Nat} (h : Has_act w b o) : Is_act w b o (of_act w b o) := by
  unfold of_act
  rw [dif_pos h]
  exact h.choose_spec
theorem of_act_eq {w : World} {b o : Nat} {x : Array Value} (h : Is_act w b o x) : of_act w b o = x := by
  have hs := of_act_spec ⟨x, h⟩
  apply Array.ext_getElem?
  intro j
  rcases Nat.lt_or_ge j 18 with hj | hj
  · exact (hs.2 j hj).symm.trans (h.2 j hj)
  · rw [Array.getElem?_eq_none (by rw [hs.1]; exact hj), Array.getElem?_eq_none (by rw [h.1]; exact hj)]
theorem of_act_drewN (w : World) (b o n : Nat) : of_act (w.drewN n) b o = of_act w b o := rfl
theorem Blk.is_act {W : World} {g : Nat} {x : Array Value} (h : Blk W g x) (hx : x.size = 18) : Is_act W g 0 x := ⟨hx, fun j _ => by rw [Nat.zero_add]; exact h.cell j⟩
def load_act (v : Value) : Sem Value := Instr.loadAt 68 v
theorem load_act_fold (v : Value) : Instr.loadAt 68 v = load_act v := rfl
theorem run_load_act (w : World) (b o : Nat) (h : Has_act w b o) : (load_act (.pointer (some ⟨b, o, none⟩))).run Tryz.prog w = .ok (.agg (of_act w b o)) w := by
  have hs := of_act_spec h
  generalize of_act w b o = x at hs
  have hl := run_load_agg (P := Tryz.prog) w ⟨b, o, none⟩ 68 x.toList _ (fun j v hv => by
    rw [addr_add, hs.2 j (by have := (List.getElem?_eq_some_iff.1 hv).1; rw [← hs.1]; simpa using this)]
    simpa using hv) Tryz.underlying68 rfl (by rw [info_act]; simp [hs.1])
  simp only [load_act, Instr.loadAt, Instr.sureAddr, Sem.run_bind, Sem.run_pure, Result.andThen_ok]
  simpa using hl
attribute [go_sem ↓] load_act_fold
attribute [go_sem] run_load_act of_act_drewN
theorem of_rh_drew (W : World) (b o : Nat) : of_rh W.drew b o = of_rh W b o := rfl
theorem blkOf_drewH (w : World) (g : Nat) : blkOf w.drew g = blkOf w g := rfl
theorem setRow_drewH (w : World) (g : Nat) (cs : Array Value) : w.drew.setRow g cs = (w.setRow g cs).drew := rfl
def rhArr (p : Plan) (A : Option Addr) (c : Nat) : Array Value :=
  #[.string ⟨p.from_.toArray⟩, .string ⟨p.to_.toArray⟩, .slice A p.es.length c, .int .i64 p.active, .bool false, .string ⟨#[]⟩, .string ⟨#[]⟩, .slice none 0 0, .int .i64 0, .slice none 0 0, .slice none 0 0]
theorem rhArr_sz (p : Plan) (A : Option Addr) (c : Nat) (n : Nat) : SzIs (rhArr p A c) n = (11 = n) := propext ⟨fun h => h, fun h => h⟩
theorem rhArr_ones (p : Plan) (A : Option Addr) (c : Nat) : Ones (rhArr p A c) = True := eq_true (by show (rhArr p A c).toList.all (·.oneCell') = true; simp [rhArr, Value.oneCell'])
abbrev rh0 : Array Value := rhArr plan0 none 0
def brh (parts : Array (Nat × Value)) : Sem Value := Instr.build 34 parts
theorem brh_fold (parts : Array (Nat × Value)) : Instr.build 34 parts = brh parts := rfl
theorem run_brh (w : World) (p : Plan) (A : Option Addr) (c : Nat) : (brh #[(0, .agg (p.arr A c))]).run Tryz.prog w = .ok (.agg (rhArr p A c)) w := run_build w _ _ _ (by kernel_rfl)
theorem run_brh0 (w : World) : (brh #[]).run Tryz.prog w = .ok (.agg rh0) w := run_build w _ _ _ (by kernel_rfl)
theorem splice_rh (p q : Plan) (A B : Option Addr) (c d : Nat) : splice (rhArr p A c) 0 (rhArr q B d) = rhArr q B d := rfl
theorem Fits_rh (p : Plan) (A : Option Addr) (c o n : Nat) : Fits o n (rhArr p A c) = (o + n ≤ 11) := propext ⟨fun h => h, fun h => h⟩
attribute [local go_sem ↓] bplanA_fold brh_fold
attribute [local go_sem] run_bplanA0 run_storeD_plan splice_planA Fits_planA run_brh run_brh0 rhArr_sz rhArr_ones splice_rh Fits_rh of_rh_drew blkOf_drewH setRow_drewH
set_option maxHeartbeats 4000000 in
theorem rnew24_any (p : Plan) (A : Option Addr) (c : Nat) (w : World) (hs : p.small) (hc : p.es.length ≤ c) (hE : Ents w A p.es) :
    Calls Tryz.prog 10 #[.agg (p.arr A c)] w (Ret w (.tuple #[.agg (if planCheck p ≠ 0 then rh0 else rhArr p A c), .int .i64 (planCheck p)])) := by
  have HL := Lib.hid (fun W' (b : Below w.heap.size w W') => rplanCheck_any p A c W' hs hc (hE.below (B := 0) b))
  clear hs hE
  obtain ⟨v, hv⟩ : ∃ v, v = (if planCheck p ≠ 0 then rh0 else rhArr p A c) := ⟨_, rfl⟩
  rw [← hv]
  have HV := Lib.hid hv
  clear hv
  go_enter Tryz.func10, Tryz.ntmps10
  go_upto_region 1 with (fail)
  have P0 : Blk ((w.alloc (.cells (p.arr A c) 24)).alloc (.cells rh0 34)) w.heap.size (p.arr A c) := (Blk.new w _ _).alloc _
  have R0 : Blk ((w.alloc (.cells (p.arr A c) 24)).alloc (.cells rh0 34)) (w.heap.size + 1) rh0 := by rw [← World.size_alloc w (.cells (p.arr A c) 24)]; exact Blk.new _ _ _
  have B0 : Below w.heap.size w ((w.alloc (.cells (p.arr A c) 24)).alloc (.cells rh0 34)) := by go_grown
  generalize hW0 : World.alloc (World.alloc w _) _ = W0
  have hW0' : (w.alloc (.cells (p.arr A c) 24)).alloc (.cells rh0 34) = W0 := hW0
  rw [hW0'] at P0 R0 B0
  clear hW0 hW0'
  have hge : w.heap.size ≤ w.heap.size + 1 := by omega
  generalize w.heap.size + 1 = gr at R0 hge ⊢
  obtain ⟨gp, hgp⟩ : ∃ g, g = w.heap.size := ⟨_, rfl⟩
  rw [← hgp] at P0 ⊢
  clear hgp
  have i1 : Has_plan W0 gp 0 := ⟨_, P0.is_plan rfl⟩
  have i2 : of_plan W0 gp 0 = p.arr A c := of_plan_eq (P0.is_plan rfl)
  have kc := Lib.hid (HL.out W0 B0)
  generalize planCheck p = z at *
  go_upto_region 2 with (go_at_call 27; (with_reducible refine callR kc.out ?_); intro w2 b2 _ _ _)
  have P2 := P0.step b2
  have R2 := R0.step b2
  have B2 := below_step B0 b2
  clear i1 i2 kc P0 R0 B0 b2
  have i1 : Has_plan w2 gp 0 := ⟨_, P2.is_plan rfl⟩
  have i2 : of_plan w2 gp 0 = p.arr A c := of_plan_eq (P2.is_plan rfl)
  have d2 := R2.plain
  have d3 := R2.of
  by_cases hz : z = 0
  · have HZ := Lib.hid (show v = rhArr p A c by rw [HV.out, if_neg (by simpa using hz)])
    subst hz
    go_wp2
    exact bodyPost_ret (results_agg Tryz.results10 _ _ gr (rhArr p A c) 11 _ rfl rfl (R2.set _).cell Tryz.underlying34 rfl info_rh) rfl ⟨by rw [HZ.out]; rfl, below_setRow' B2 hge _⟩
  · have hz' : (z != 0) = true := by simpa using hz
    have HZ := Lib.hid (show v = rh0 by rw [HV.out, if_pos hz])
    clear hz
    go_wp2
    exact bodyPost_ret (results_agg Tryz.results10 _ _ gr rh0 11 _ rfl rfl (R2.set _).cell Tryz.underlying34 rfl info_rh) rfl ⟨by rw [HZ.out]; rfl, below_setRow' B2 hge _⟩
theorem PlW.other {W W' : World} {g q : Nat} {u r : Value} {p : Plan} {A : Option Addr} {c : Nat} (h : PlW W g u r p A c) (O : Only q W W') (hA : p.es ≠ [] → ∀ a, A = some a → a.block ≠ q) : PlW W' g u r p A c :=
  ⟨h.len, h.ents.keepB (by rw [O.size]; exact Nat.le_refl _) (fun hne a ha => O.block _ (hA hne a ha)), h.far⟩
theorem His.other {w W W' : World} {g q : Nat} {m : HM} (h : His w W g m) (O : Only q W W') (hg : g ≠ q) (hu : m.u.ownBlock ≠ some q) (hr : m.r.ownBlock ≠ some q) (ho : HOff m q) (hq : w.heap.size ≤ q) : His w W' g m where
  blk := by obtain ⟨t, hb⟩ := h.blk; exact ⟨t, (O.block g hg).trans hb⟩
  uo := h.uo.keepE fun k e => O.block k (by rintro rfl; exact hu e)
  ro := h.ro.keepE fun k e => O.block k (by rintro rfl; exact hr e)
  ug := h.ug
  rg := h.rg
  ur := h.ur
  pl := h.pl.other O ho.act
  tp := ⟨h.tp.pl.other O ho.tmp, h.tp.none⟩
  us_ s hs := ⟨(h.us_ s hs).pl.other O (ho.us_ s hs), (h.us_ s hs).none⟩
  rs_ s hs := ⟨(h.rs_ s hs).pl.other O (ho.rs_ s hs), (h.rs_ s hs).none⟩
  bel := O.below h.bel hq
  ge := h.ge
theorem His.lift {w w1 W : World} {g : Nat} {m : HM} (h : His w1 W g m) (b : Below w.heap.size w w1) : His w W g m where
  blk := h.blk
  uo := h.uo.mono b.size
  ro := h.ro.mono b.size
  ug := h.ug
  rg := h.rg
  ur := h.ur
  pl := h.pl
  tp := h.tp
  us_ := h.us_
  rs_ := h.rs_
  bel := b.trans (h.bel.mono b.size)
  ge := Nat.le_trans b.size h.ge
end Go.Proofs.YtlggdgpdfepppaaGreatDoor
namespace Go.Proofs.YtlggdgpdfepppaaGreatDoor
open Go.RowKit Go.Sort
set_option linter.unusedVariables false
set_option linter.unusedSimpArgs false
set_option maxRecDepth 100000
theorem Blk.act_edt {W : World} {g : Nat} {a : ActV} {A : Option Addr} {c : Nat} (h : Blk W g (actArr a A c)) : Is_edt W g 1 a.e := fun j hj => by
  rw [h.cell]
  match j, hj with
  | 0, _ | 1, _ | 2, _ | 3, _ | 4, _ | 5, _ | 6, _ | 7, _ | 8, _ | 9, _ | 10, _ | 11, _ => rfl
theorem Blk.act_plan {W : World} {g : Nat} {a : ActV} {A : Option Addr} {c : Nat} (h : Blk W g (actArr a A c)) : Is_plan W g 14 (a.plan.arr A c) := ⟨rfl, fun j hj => by
  rw [h.cell]
  match j, hj with
  | 0, _ | 1, _ | 2, _ | 3, _ => rfl⟩
structure HBnd (m : HM) : Prop where
  us : m.us.length ≤ 1000
  rs : m.rs.length ≤ 1000
  act : m.p.es.length ≤ 1000000
  tmp : m.t.p.es.length ≤ 1000000
  usE : ∀ s ∈ m.us, s.p.es.length ≤ 1000000
  rsE : ∀ s ∈ m.rs, s.p.es.length ≤ 1000000
end Go.Proofs.YtlggdgpdfepppaaGreatDoor
