/- What advancing does to the states of a history, in memory: one cell of a state written. No walk here. Advancing a history; walks. -/
import Derived.Test.YtlggdgpdfepppaaGreatDoorQk37
import Derived.Test.YtlggdgpdfepppaaGreatDoorQk39
import Derived.BigQuiet
namespace Go.Proofs.YtlggdgpdfepppaaGreatDoor
open Go.RowKit Go.Sort
set_option linter.unusedVariables false
set_option linter.unusedSimpArgs false
set_option maxRecDepth 100000
def folB (es : List Entry) (k : Nat) (s : MS) : Bool := s.b && (decide (k < s.p.es.length) && eqGo (s.p.es.take (k + 1)) (es.take (k + 1)))
def folM (es : List Entry) (k : Nat) (s : MS) : MS := if folB es k s then { s with p := { s.p with active := (k : Int) } } else s
theorem folM_abs (es : List Entry) (k : Nat) (s : MS) : (folM es k s).abs = followH es k s.abs := by
  unfold folM folB MS.abs followH
  cases hb : s.b with
  | false => simp [hb]
  | true =>
    rw [Bool.true_and]
    split
    · simp [*]
    · simp [*]
theorem folM_es (es : List Entry) (k : Nat) (s : MS) : (folM es k s).p.es = s.p.es ∧ (folM es k s).A = s.A ∧ (folM es k s).c = s.c ∧ (folM es k s).b = s.b := by
  unfold folM
  split <;> exact ⟨rfl, rfl, rfl, rfl⟩
theorem folM_yes {es : List Entry} {k : Nat} {s : MS} (h : folB es k s = true) : (folM es k s).arr = s.arr.setIfInBounds 3 (.int .i64 (k : Int)) := by
  unfold folM
  rw [if_pos h]
  rfl
theorem folM_no {es : List Entry} {k : Nat} {s : MS} (h : folB es k s = false) : folM es k s = s := by
  unfold folM
  rw [h]
  rfl
theorem StW.fol {W : World} {g : Nat} {u r : Value} {s : MS} (h : StW W g u r s) (es : List Entry) (k : Nat) : StW W g u r (folM es k s) := by
  obtain ⟨e1, e2, e3, e4⟩ := folM_es es k s
  refine ⟨⟨by rw [e1, e3]; exact h.pl.len, by rw [e1, e2]; exact h.pl.ents, by rw [e1, e2]; exact h.pl.far⟩, fun hb => ?_⟩
  rw [e4] at hb
  rw [folM_no (by unfold folB; rw [hb]; rfl)]
  exact h.none hb
def mapTo {α : Type _} (f : α → α) (l : List α) (i : Nat) : List α := (l.take i).map f ++ l.drop i
theorem mapTo_0 {α : Type _} (f : α → α) (l : List α) : mapTo f l 0 = l := by simp [mapTo]
theorem mapTo_all {α : Type _} (f : α → α) (l : List α) {i : Nat} (h : l.length ≤ i) : mapTo f l i = l.map f := by simp [mapTo, List.take_of_length_le h, List.drop_of_length_le h]
theorem mapTo_len {α : Type _} (f : α → α) (l : List α) (i : Nat) : (mapTo f l i).length = l.length := by simp [mapTo]; omega
theorem mapTo_get {α : Type _} (f : α → α) (l : List α) {i : Nat} (h : i < l.length) : (mapTo f l i)[i]? = some l[i] := by
  unfold mapTo
  rw [List.getElem?_append_right (by simp; omega)]
  simp [List.getElem?_drop, Nat.min_eq_left (Nat.le_of_lt h), h]
theorem mapTo_set {α : Type _} (f : α → α) (l : List α) {i : Nat} (h : i < l.length) : (mapTo f l i).set i (f l[i]) = mapTo f l (i + 1) := by
  unfold mapTo
  have e : ((l.take i).map f).length = i := by simp; omega
  rw [List.set_append_right _ _ (by omega), e, Nat.sub_self, List.drop_eq_getElem_cons h, List.set_cons_zero, List.take_succ_eq_append_getElem h, List.map_append, List.append_assoc]
  rfl
theorem HKeep.onlyU {g q : Nat} {W W' : World} {u r : Value} (h : Only q W W') (hu : u.ownBlock = some q) : HKeep g W u r W' u r :=
  ⟨h.os, h.tape, h.output, by rw [h.size]; exact Nat.le_refl _, fun k _ _ hk _ => h.block k (by rintro rfl; exact hk hu), fun k e _ => .inl e, fun k e _ => .inr e⟩
theorem HKeep.onlyR {g q : Nat} {W W' : World} {u r : Value} (h : Only q W W') (hu : r.ownBlock = some q) : HKeep g W u r W' u r :=
  ⟨h.os, h.tape, h.output, by rw [h.size]; exact Nat.le_refl _, fun k _ _ _ hk => h.block k (by rintro rfl; exact hk hu), fun k e _ => .inl e, fun k e _ => .inr e⟩
theorem ms_set (l : List MS) (i : Nat) (s : MS) : (l.set i s).map MS.arr = (l.map MS.arr).set i s.arr := List.map_set
theorem His.folU {w W : World} {g q n c : Nat} {m : HM} (h : His w W g m) (hu : m.u = .slice (some ⟨q, 0, none⟩) n c) {es : List Entry} {k i : Nat} {s : MS} (hi : m.us[i]? = some s) (hf : folB es k s = true) :
    His w (W.setCell ⟨q, i * 5 + 3, none⟩ (.int .i64 (k : Int))) g { m with us := m.us.set i (folM es k s) } ∧ HKeep g W m.u m.r (W.setCell ⟨q, i * 5 + 3, none⟩ (.int .i64 (k : Int))) m.u m.r := by
  have hq : m.u.ownBlock = some q := by rw [hu]; rfl
  have O := Only.setCell q (i * 5 + 3) W (.int .i64 (k : Int))
  have K : HKeep g W m.u m.r (W.setCell ⟨q, i * 5 + 3, none⟩ (.int .i64 (k : Int))) m.u m.r := HKeep.onlyU O hq
  have hlen : m.us.length = n := by
    obtain ⟨A, c', e⟩ := h.ul
    rw [hu] at e
    injection e with _ e _
    exact e.symm
  have U := h.uo
  rw [hu] at U
  have hs : s ∈ m.us := List.mem_of_getElem? hi
  have U2 := U.setAt (by rw [List.length_map]; exact hlen) (ms_sizes _) (k := i) (j := 3) (x := s.arr) (by rw [List.getElem?_map, hi]; rfl) (by decide) (.int .i64 (k : Int))
  rw [← folM_yes hf, ← ms_set] at U2
  refine ⟨?_, K⟩
  exact {
    blk := by obtain ⟨t, hb⟩ := h.blk; exact ⟨t, (O.block g (by rintro rfl; exact h.ug hq)).trans hb⟩
    uo := by rw [← hu] at U2; exact U2
    ro := h.ro.keepE fun k e => O.block k (by rintro rfl; exact h.ur _ hq e)
    ug := h.ug
    rg := h.rg
    ur := h.ur
    pl := h.pl.keep K
    tp := h.tp.keep K
    us_ := fun y hy => by
      rcases List.mem_or_eq_of_mem_set hy with hy | rfl
      · exact (h.us_ y hy).keep K
      · exact ((h.us_ s hs).keep K).fol es k
    rs_ := fun y hy => (h.rs_ y hy).keep K
    bel := below_setCell h.bel (h.uo.own_lt q hq).2 _ _
    ge := h.ge }
theorem His.folR {w W : World} {g q n c : Nat} {m : HM} (h : His w W g m) (hu : m.r = .slice (some ⟨q, 0, none⟩) n c) {es : List Entry} {k i : Nat} {s : MS} (hi : m.rs[i]? = some s) (hf : folB es k s = true) :
    His w (W.setCell ⟨q, i * 5 + 3, none⟩ (.int .i64 (k : Int))) g { m with rs := m.rs.set i (folM es k s) } ∧ HKeep g W m.u m.r (W.setCell ⟨q, i * 5 + 3, none⟩ (.int .i64 (k : Int))) m.u m.r := by
  have hq : m.r.ownBlock = some q := by rw [hu]; rfl
  have O := Only.setCell q (i * 5 + 3) W (.int .i64 (k : Int))
  have K : HKeep g W m.u m.r (W.setCell ⟨q, i * 5 + 3, none⟩ (.int .i64 (k : Int))) m.u m.r := HKeep.onlyR O hq
  have hlen : m.rs.length = n := by
    obtain ⟨A, c', e⟩ := h.rl
    rw [hu] at e
    injection e with _ e _
    exact e.symm
  have U := h.ro
  rw [hu] at U
  have hs : s ∈ m.rs := List.mem_of_getElem? hi
  have U2 := U.setAt (by rw [List.length_map]; exact hlen) (ms_sizes _) (k := i) (j := 3) (x := s.arr) (by rw [List.getElem?_map, hi]; rfl) (by decide) (.int .i64 (k : Int))
  rw [← folM_yes hf, ← ms_set] at U2
  refine ⟨?_, K⟩
  exact {
    blk := by obtain ⟨t, hb⟩ := h.blk; exact ⟨t, (O.block g (by rintro rfl; exact h.rg hq)).trans hb⟩
    ro := by rw [← hu] at U2; exact U2
    uo := h.uo.keepE fun k e => O.block k (by rintro rfl; exact h.ur _ e hq)
    ug := h.ug
    rg := h.rg
    ur := h.ur
    pl := h.pl.keep K
    tp := h.tp.keep K
    us_ := fun y hy => (h.us_ y hy).keep K
    rs_ := fun y hy => by
      rcases List.mem_or_eq_of_mem_set hy with hy | rfl
      · exact (h.rs_ y hy).keep K
      · exact ((h.rs_ s hs).keep K).fol es k
    bel := below_setCell h.bel (h.ro.own_lt q hq).2 _ _
    ge := h.ge }
theorem His.folT {w W : World} {g : Nat} {m : HM} (h : His w W g m) {es : List Entry} {k : Nat} (hf : folB es k m.t = true) :
    His w (W.setCell ⟨g, 7, none⟩ (.int .i64 (k : Int))) g { m with t := folM es k m.t } ∧ HKeep g W m.u m.r (W.setCell ⟨g, 7, none⟩ (.int .i64 (k : Int))) m.u m.r :=
  h.write (m' := { m with t := folM es k m.t }) (Only.setCell g 7 _ _) (by
    have := h.blk.setCell 7 (.int .i64 (k : Int))
    have e : m.arr.setIfInBounds 7 (.int .i64 (k : Int)) = ({ m with t := folM es k m.t } : HM).arr := by
      unfold folM
      rw [if_pos hf]
      rfl
    rwa [e] at this) h.uo h.ro (fun k e => e) (fun k e => e) h.pl (h.tp.fol es k) h.us_ h.rs_
theorem His.setAct {w W : World} {g : Nat} {m : HM} (h : His w W g m) (k : Nat) :
    His w (W.setCell ⟨g, 3, none⟩ (.int .i64 (k : Int))) g { m with p := { m.p with active := (k : Int) } } ∧ HKeep g W m.u m.r (W.setCell ⟨g, 3, none⟩ (.int .i64 (k : Int))) m.u m.r :=
  h.write (m' := { m with p := { m.p with active := (k : Int) } }) (Only.setCell g 3 _ _) (h.blk.setCell 3 _) h.uo h.ro (fun k e => e) (fun k e => e) ⟨h.pl.len, h.pl.ents, h.pl.far⟩ h.tp h.us_ h.rs_
theorem adv_abs (m : HM) (k : Nat) (hk : ¬ ((k : Int) < 0 ∨ (m.p.es.length : Int) ≤ (k : Int) ∨ (k : Int) ≤ m.p.active ∨ (entAt m.p k).gap = true)) :
    m.abs.advance (k : Int) = (({ m with p := { m.p with active := (k : Int) }, t := folM m.p.es k m.t, us := m.us.map (folM m.p.es k), rs := m.rs.map (folM m.p.es k) } : HM).abs, 0) := by
  unfold Hist.advance
  rw [if_neg (show ¬ ((k : Int) < 0 ∨ (m.abs.act.es.length : Int) ≤ (k : Int) ∨ (k : Int) ≤ m.abs.act.active ∨ (entAt m.abs.act (k : Int).toNat).gap = true) from hk)]
  show (Hist.mk _ _ _ _, (0 : Int)) = (Hist.mk _ _ _ _, 0)
  rw [Prod.mk.injEq, Hist.mk.injEq]
  refine ⟨⟨rfl, (folM_abs _ _ _).symm, ?_, ?_⟩, rfl⟩
  · show (m.us.map MS.abs).map _ = (m.us.map _).map MS.abs
    rw [List.map_map, List.map_map]
    exact List.map_congr_left fun s _ => (folM_abs _ _ s).symm
  · show (m.rs.map MS.abs).map _ = (m.rs.map _).map MS.abs
    rw [List.map_map, List.map_map]
    exact List.map_congr_left fun s _ => (folM_abs _ _ s).symm
theorem below_dr (W : World) (n : Nat) : Below W.heap.size W (W.drewN n) := below_drewN (Below.refl _ _) n
theorem His.folT2 {w W : World} {g : Nat} {m : HM} (h : His w W g m) (es : List Entry) (k n : Nat) :
    His w ((if folB es k m.t then W.setCell ⟨g, 7, none⟩ (.int .i64 (k : Int)) else W).drewN n) g { m with t := folM es k m.t } ∧ HKeep g W m.u m.r ((if folB es k m.t then W.setCell ⟨g, 7, none⟩ (.int .i64 (k : Int)) else W).drewN n) m.u m.r := by
  cases hf : folB es k m.t with
  | false =>
    rw [folM_no hf, if_neg (by simp)]
    exact ⟨h.step (below_dr W n), .of (below_dr W n)⟩
  | true =>
    rw [if_pos rfl]
    obtain ⟨X, K⟩ := h.folT hf
    exact ⟨X.step (below_dr _ n), K.trans (.of (below_dr _ n))⟩
theorem set_same {α : Type _} {l : List α} {i : Nat} {x : α} (h : l[i]? = some x) : l.set i x = l := by
  apply List.ext_getElem?
  intro j
  rw [List.getElem?_set]
  split
  · rename_i e
    subst e
    obtain ⟨hi, _⟩ := List.getElem?_eq_some_iff.1 h
    rw [if_pos hi, h]
  · rfl
theorem His.folU2 {w W : World} {g q n c : Nat} {m : HM} (h : His w W g m) (hu : m.u = .slice (some ⟨q, 0, none⟩) n c) (es : List Entry) (k d : Nat) {i : Nat} {s : MS} (hi : m.us[i]? = some s) :
    His w ((if folB es k s then W.setCell ⟨q, i * 5 + 3, none⟩ (.int .i64 (k : Int)) else W).drewN d) g { m with us := m.us.set i (folM es k s) } ∧ HKeep g W m.u m.r ((if folB es k s then W.setCell ⟨q, i * 5 + 3, none⟩ (.int .i64 (k : Int)) else W).drewN d) m.u m.r := by
  cases hf : folB es k s with
  | false =>
    rw [folM_no hf, if_neg (by simp), set_same hi]
    exact ⟨h.step (below_dr W d), .of (below_dr W d)⟩
  | true =>
    rw [if_pos rfl]
    obtain ⟨X, K⟩ := h.folU hu hi hf
    exact ⟨X.step (below_dr _ d), K.trans (.of (below_dr _ d))⟩
theorem His.folR2 {w W : World} {g q n c : Nat} {m : HM} (h : His w W g m) (hu : m.r = .slice (some ⟨q, 0, none⟩) n c) (es : List Entry) (k d : Nat) {i : Nat} {s : MS} (hi : m.rs[i]? = some s) :
    His w ((if folB es k s then W.setCell ⟨q, i * 5 + 3, none⟩ (.int .i64 (k : Int)) else W).drewN d) g { m with rs := m.rs.set i (folM es k s) } ∧ HKeep g W m.u m.r ((if folB es k s then W.setCell ⟨q, i * 5 + 3, none⟩ (.int .i64 (k : Int)) else W).drewN d) m.u m.r := by
  cases hf : folB es k s with
  | false =>
    rw [folM_no hf, if_neg (by simp), set_same hi]
    exact ⟨h.step (below_dr W d), .of (below_dr W d)⟩
  | true =>
    rw [if_pos rfl]
    obtain ⟨X, K⟩ := h.folR hu hi hf
    exact ⟨X.step (below_dr _ d), K.trans (.of (below_dr _ d))⟩
theorem GOut.stAt {B : Nat} {W : World} {v : Value} {l : List MS} (h : GOut B W 87 5 v (l.map MS.arr)) {j : Nat} {s : MS} (hj : l[j]? = some s) :
    ∃ q c, v = .slice (some ⟨q, 0, none⟩) l.length c ∧ (∀ i, i < 5 → W.cell? ⟨q, j * 5 + i, none⟩ = s.arr[i]?) ∧ ∀ i, W.frozen? ⟨q, i, none⟩ = false := by
  have hlt : j < l.length := (List.getElem?_eq_some_iff.1 hj).1
  have h0 := h
  obtain ⟨hl, hh⟩ := h
  rcases hh with ⟨_, e⟩ | ⟨q, cap, cur, e, hg, hbk, hn, hm, hsz, hc⟩
  · rw [List.length_map] at e; omega
  · rw [List.length_map] at e hn
    subst e
    refine ⟨q, cap, rfl, fun i hi => ?_, fun i => by simp [World.frozen?, hbk]⟩
    obtain ⟨A, c, e2, _, I⟩ := h0.items (ms_sizes _)
    injection e2 with e2 _ _
    subst e2
    obtain ⟨b, off, hA, hb, hcl⟩ := I.get (k := j) (by simpa using hlt)
    injection hA with hA
    injection hA with h1 h2 _
    subst h1 h2
    have := hcl i hi
    rw [Nat.zero_add] at this
    rw [this]
    congr 1
    rw [List.getElem_map]
    congr 1
    exact Option.some.inj ((List.getElem?_eq_getElem hlt).symm.trans hj)
end Go.Proofs.YtlggdgpdfepppaaGreatDoor
namespace Go.Proofs.YtlggdgpdfepppaaGreatDoor
open Go.RowKit Go.Sort
set_option linter.unusedVariables false
set_option linter.unusedSimpArgs false
set_option maxRecDepth 100000
def RetFol (W : World) (b : Bool) (a : Addr) (k : Nat) (e : Ending) (W' : World) : Prop := e = .returned (.tuple #[]) ∧ ∃ n, W' = (if b then W.setCell a (.int .i64 (k : Int)) else W).drewN n
theorem callFol {P : Program} {f : FuncId} {args : Array Value} {W : World} {b : Bool} {a : Addr} {k : Nat} {K : Ending → World → Prop} (h : Calls P f args W (RetFol W b a k))
    (kk : ∀ n, K (.returned (.tuple #[])) ((if b then W.setCell a (.int .i64 (k : Int)) else W).drewN n)) : Calls P f args W K :=
  h.mono fun e W' ⟨he, n, hw⟩ => by subst he; subst hw; exact kk n
attribute [local go_sem ↓] slE_fold
attribute [local go_sem] run_slE_hk run_slE_hk1
set_option maxHeartbeats 4000000 in
theorem follow_any (es : List Entry) (k : Nat) (s : MS) (W : World) (q o g gt gh : Nat) (Aa : Option Addr) (ca : Nat)
    (c4 : W.cell? ⟨q, o + 4, none⟩ = some (.bool s.b)) (c2 : W.cell? ⟨q, o + 2, none⟩ = some (.slice s.A s.p.es.length s.c)) (c3 : W.cell? ⟨q, o + 3, none⟩ = some (.int .i64 s.p.active)) (f3 : W.frozen? ⟨q, o + 3, none⟩ = false)
    (ht : W.cell? ⟨gt, 0, none⟩ = some (.int .i64 (k : Int))) (hh : W.cell? ⟨gh, 0, none⟩ = some (.pointer (some ⟨g, 0, none⟩))) (ha : W.cell? ⟨g, 2, none⟩ = some (.slice Aa es.length ca))
    (hk : k < es.length) (hn : es.length ≤ 1000000) (hns : s.p.es.length ≤ 1000000) (h1 : es.length ≤ ca) (h2 : s.p.es.length ≤ s.c) (hE : Ents W Aa es) (hF : Ents W s.A s.p.es) :
    Calls Tryz.prog 45 #[.pointer (some ⟨q, o, none⟩), .pointer (some ⟨gt, 0, none⟩), .pointer (some ⟨gh, 0, none⟩)] W (RetFol W (folB es k s) ⟨q, o + 3, none⟩ k) := by
  have HB := Lib.hid (show folB es k s = (s.b && (decide (k < s.p.es.length) && eqGo (s.p.es.take (k + 1)) (es.take (k + 1)))) from rfl)
  generalize folB es k s = fb at *
  cases hb : s.b with
  | false =>
    rw [hb] at c4
    have HB := Lib.hid (show fb = false by rw [HB.out, hb]; rfl)
    clear hb hE hF
    go_enter Tryz.func45, Tryz.ntmps45
    go_wp2
    go_quiet (fail)
    go_wp2
    go_end0
    exact ⟨rfl, _, by rw [HB.out]; rfl⟩
  | true =>
    rw [hb] at c4
    by_cases hlt : k < s.p.es.length
    · have K0 := fun W' => sequal_any (s.p.es.take (k + 1)) (es.take (k + 1)) (subE s.A 0 s.c) (subE Aa 0 ca) s.c ca W' (by rw [List.length_take]; omega) (by rw [List.length_take]; omega) (by rw [List.length_take]; omega) (by rw [List.length_take]; omega)
      have e1 : (s.p.es.take (k + 1)).length = k + 1 := by rw [List.length_take]; omega
      have e2 : (es.take (k + 1)).length = k + 1 := by rw [List.length_take]; omega
      rw [e1, e2] at K0
      have K1 := Lib.hid (fun n => K0 (W.drewN n) ((hF.take).below (B := 0) (below_drewN (Below.refl _ _) n)) ((hE.take).below (B := 0) (below_drewN (Below.refl _ _) n)))
      have HB2 := Lib.hid (show fb = eqGo (s.p.es.take (k + 1)) (es.take (k + 1)) by rw [HB.out, hb]; simp [hlt])
      generalize eqGo (s.p.es.take (k + 1)) (es.take (k + 1)) = eb at K1 HB2
      have hgt : ((s.p.es.length : Int) > (k : Int)) := by omega
      have hw : wrap64 ((k : Int) + 1) = (k : Int) + 1 := IntWalk.wrap64_in _ (by omega)
      have l1 : k + 1 ≤ s.c := by omega
      have l2 : k + 1 ≤ ca := by omega
      clear hb hE hF K0 e1 e2 HB
      go_enter Tryz.func45, Tryz.ntmps45
      go_wp2
      go_quiet ((go_at_call 35; exact quietQ (K1.out _)))
      cases eb with
      | false =>
        go_wp2
        go_end0
        exact ⟨rfl, _, by rw [HB2.out]; rfl⟩
      | true =>
        go_wp2
        go_end0
        exact ⟨rfl, _, by rw [HB2.out]; rfl⟩
    · have HB2 := Lib.hid (show fb = false by rw [HB.out, hb]; simp [hlt])
      have hgt : decide ((s.p.es.length : Int) > (k : Int)) = false := by simp; omega
      clear hb hE hF HB
      go_enter Tryz.func45, Tryz.ntmps45
      go_wp2
      go_quiet (fail)
      go_wp2
      go_end0
      exact ⟨rfl, _, by rw [HB2.out]; rfl⟩
set_option maxHeartbeats 16000000 in
theorem hadvance_any {w : World} (W : World) (g : Nat) (m : HM) (h : His w W g m) (to_ : Int) (hn : m.p.es.length ≤ 1000000) (hnt : m.t.p.es.length ≤ 1000000) (hnu : ∀ s ∈ m.us, s.p.es.length ≤ 1000000) (hnr : ∀ s ∈ m.rs, s.p.es.length ≤ 1000000)
    (hus : m.us.length ≤ 1000) (hrs : m.rs.length ≤ 1000) :
    Calls Tryz.prog 25 #[.pointer (some ⟨g, 0, none⟩), .int .i64 to_] W (RetH w W g m (m.abs.advance to_).1 (.int .i64 (m.abs.advance to_).2)) := by
  go_enter Tryz.func25, Tryz.ntmps25
  go_upto_region 3 with (fail)
  have D0 : Blk ((W.alloc (.cells #[.pointer (some ⟨g, 0, none⟩)] 26)).alloc (.cells #[.int .i64 to_] 3)) W.heap.size #[.pointer (some ⟨g, 0, none⟩)] := (Blk.new W _ _).alloc _
  have E0 : Blk ((W.alloc (.cells #[.pointer (some ⟨g, 0, none⟩)] 26)).alloc (.cells #[.int .i64 to_] 3)) (W.heap.size + 1) #[.int .i64 to_] := by rw [← World.size_alloc W (.cells #[.pointer (some ⟨g, 0, none⟩)] 26)]; exact Blk.new _ _ _
  have B0 : Below W.heap.size W ((W.alloc (.cells #[.pointer (some ⟨g, 0, none⟩)] 26)).alloc (.cells #[.int .i64 to_] 3)) := by go_grown
  have X0 := h.step B0
  have K0 : HKeep g W m.u m.r _ m.u m.r := HKeep.of B0
  have F1 : HFar ((W.alloc (.cells #[.pointer (some ⟨g, 0, none⟩)] 26)).alloc (.cells #[.int .i64 to_] 3)) g m.u m.r W.heap.size := ⟨D0.lt, by have := h.lt; omega, fun e => by have := h.ult _ e; omega, fun e => by have := h.rlt _ e; omega⟩
  have F2 : HFar ((W.alloc (.cells #[.pointer (some ⟨g, 0, none⟩)] 26)).alloc (.cells #[.int .i64 to_] 3)) g m.u m.r (W.heap.size + 1) := ⟨E0.lt, by have := h.lt; omega, fun e => by have := h.ult _ e; omega, fun e => by have := h.rlt _ e; omega⟩
  generalize hW0 : (W.alloc (.cells #[.pointer (some ⟨g, 0, none⟩)] 26)).alloc (.cells #[.int .i64 to_] 3) = W0 at D0 E0 B0 X0 K0 F1 F2
  have hW0' : World.alloc (World.alloc W _) _ = W0 := hW0
  try rw [hW0']
  clear hW0 hW0' B0
  generalize W.heap.size + 1 = gt at E0 F2 ⊢
  generalize W.heap.size = gh at D0 F1 ⊢
  have kh : W0.cell? ⟨gh, 0, none⟩ = some (.pointer (some ⟨g, 0, none⟩)) := D0.cell 0
  have kt : W0.cell? ⟨gt, 0, none⟩ = some (.int .i64 to_) := E0.cell 0
  have c2 := X0.c2
  have c3 := X0.c3
  have HX0 := Lib.hid X0
  have HK0 := Lib.hid K0
  have HF1 := Lib.hid F1
  have HF2 := Lib.hid F2
  have HD0 := Lib.hid D0
  have HE0 := Lib.hid E0
  clear h X0 K0 F1 F2 D0 E0
  by_cases h1 : to_ < 0
  · have HE := Lib.hid (show m.abs.advance to_ = (m.abs, 2) by unfold Hist.advance; rw [if_pos (.inl h1)])
    have h1b : decide (to_ < 0) = true := by simpa using h1
    go_quiet (fail)
    go_wp2
    go_ret
    exact ⟨m, by rw [HE.out]; rfl, HX0.out.step (below_dr _ _), by rw [HE.out], HK0.out.trans (.of (below_dr _ _)), fun q _ h => h⟩
  obtain ⟨k, rfl⟩ : ∃ k : Nat, to_ = (k : Int) := ⟨to_.toNat, by omega⟩
  by_cases h2 : (m.p.es.length : Int) ≤ (k : Int)
  · have HE := Lib.hid (show m.abs.advance (k : Int) = (m.abs, 2) by unfold Hist.advance; rw [if_pos (.inr (.inl h2))])
    have h1b : decide ((k : Int) < 0) = false := by simp
    have h2b : decide (m.p.es.length ≤ k) = true := by simp; omega
    clear h1
    go_quiet (fail)
    go_wp2
    go_ret
    exact ⟨m, by rw [HE.out]; rfl, HX0.out.step (below_dr _ _), by rw [HE.out], HK0.out.trans (.of (below_dr _ _)), fun q _ h => h⟩
  by_cases h3 : (k : Int) ≤ m.p.active
  · have HE := Lib.hid (show m.abs.advance (k : Int) = (m.abs, 2) by unfold Hist.advance; rw [if_pos (.inr (.inr (.inl h3)))])
    have h1b : decide ((k : Int) < 0) = false := by simp
    have h2b : decide (m.p.es.length ≤ k) = false := by simp; omega
    clear h1 h2
    go_quiet (fail)
    go_wp2
    go_ret
    exact ⟨m, by rw [HE.out]; rfl, HX0.out.step (below_dr _ _), by rw [HE.out], HK0.out.trans (.of (below_dr _ _)), fun q _ h => h⟩
  have hk : k < m.p.es.length := by omega
  obtain ⟨b, o, hA, hb, hcl⟩ := HX0.out.pl.ents.at_ (by intro h; rw [h] at hk; simp at hk)
  have cg : W0.cell? ⟨b, o + k * 20, none⟩ = some (.bool (entAt m.p k).gap) := (hcl k _ (entAt_get hk) 0 (by decide)).trans rfl
  have c2' := c2
  rw [hA] at c2
  have hkc : (k : Int) < (m.p.es.length : Int) := by omega
  have h1b : decide ((k : Int) < 0) = false := by simp
  have h2b : decide (m.p.es.length ≤ k) = false := by simp; omega
  have h3b : decide ((k : Int) ≤ m.p.active) = false := by simpa using h3
  clear hcl
  cases hg : (entAt m.p k).gap with
  | true =>
    have HE := Lib.hid (show m.abs.advance (k : Int) = (m.abs, 2) by unfold Hist.advance; rw [if_pos (.inr (.inr (.inr hg)))])
    rw [hg] at cg
    clear h1 h2 h3 hg c2'
    go_quiet (fail)
    go_wp2
    go_ret
    exact ⟨m, by rw [HE.out]; rfl, HX0.out.step (below_dr _ _), by rw [HE.out], HK0.out.trans (.of (below_dr _ _)), fun q _ h => h⟩
  | false =>
    have HE := Lib.hid (adv_abs m k (by rw [hg]; simp; omega))
    rw [hg] at cg
    clear h1 h2 h3 hg
    go_quiet (fail)
    have X1 := HX0.out.step (below_dr W0 nq)
    have K1 := HK0.out.trans (.of (below_dr W0 nq))
    have F1 := HF1.out.step (.of (below_dr W0 nq))
    have F2 := HF2.out.step (.of (below_dr W0 nq))
    have D1 := HD0.out.step (below_dr W0 nq)
    have E1 := HE0.out.step (below_dr W0 nq)
    clear kh kt c2 c3 cg c2' hA hb HX0 HK0 HF1 HF2 HD0 HE0 h1b h2b h3b hkc
    generalize W0.drewN nq = W1 at *
    have kh : W1.cell? ⟨gh, 0, none⟩ = some (.pointer (some ⟨g, 0, none⟩)) := D1.cell 0
    have kt : W1.cell? ⟨gt, 0, none⟩ = some (.int .i64 (k : Int)) := E1.cell 0
    have c3 := X1.c3
    have f3 := X1.blk.frozen 3
    obtain ⟨X2, R2⟩ := X1.setAct k
    have D2 := R2.blk F1 D1
    have E2 := R2.blk F2 E1
    have F1 := F1.step R2
    have F2 := F2.step R2
    have K2 := K1.trans R2
    have HX2 := Lib.hid X2
    have HK2 := Lib.hid K2
    have HF1 := Lib.hid F1
    have HF2 := Lib.hid F2
    have HD2 := Lib.hid D2
    have HE2 := Lib.hid E2
    clear X1 X2 K1 K2 R2 F1 F2 D1 E1 D2 E2
    go_upto_region 7 with (fail)
    generalize W1.setCell _ _ = W2 at HX2 HK2 HF1 HF2 HD2 HE2 ⊢
    have kh : W2.cell? ⟨gh, 0, none⟩ = some (.pointer (some ⟨g, 0, none⟩)) := HD2.out.cell 0
    have kt : W2.cell? ⟨gt, 0, none⟩ = some (.int .i64 (k : Int)) := HE2.out.cell 0
    have K3 := Lib.hid (show Calls Tryz.prog 45 #[.pointer (some ⟨g, 4, none⟩), .pointer (some ⟨gt, 0, none⟩), .pointer (some ⟨gh, 0, none⟩)] W2 (RetFol W2 (folB m.p.es k m.t) ⟨g, 7, none⟩ k) from
      follow_any m.p.es k m.t W2 g 4 g gt gh m.A m.c HX2.out.c8 (HX2.out.blk.cell 6) (HX2.out.blk.cell 7) (HX2.out.blk.frozen 7) kt kh HX2.out.c2 hk hn hnt HX2.out.pl.len HX2.out.tp.pl.len HX2.out.pl.ents HX2.out.tp.pl.ents)
    go_upto_region 8 with (go_at_call 45; (with_reducible refine callFol K3.out ?_); intro n3)
    obtain ⟨X3, R3⟩ := HX2.out.folT2 m.p.es k n3
    have D3 := R3.blk HF1.out HD2.out
    have E3 := R3.blk HF2.out HE2.out
    have F1 := HF1.out.step R3
    have F2 := HF2.out.step R3
    have R3 := HK2.out.trans R3
    clear kh kt K3 HX2 HK2 HF1 HF2 HD2 HE2
    generalize hW3 : World.drewN _ n3 = W3 at *
    clear hW3
    have HX := Lib.hid X3
    have HK3 := Lib.hid R3
    have HF1 := Lib.hid F1
    have HF2 := Lib.hid F2
    have HD := Lib.hid D3
    have HE2 := Lib.hid E3
    clear X3 R3 F1 F2 D3 E3
    obtain ⟨A1, c1, e1⟩ := HX.out.ul
    have c9 : W3.cell? ⟨g, 9, none⟩ = some (.slice A1 m.us.length c1) := by rw [HX.out.c9]; exact congrArg some e1
    have kh : W3.cell? ⟨gh, 0, none⟩ = some (.pointer (some ⟨g, 0, none⟩)) := HD.out.cell 0
    have E1 := Lib.hid e1
    clear e1
    go_wp2
    go_loopw [58] (fun iv wr => ∃ j : Nat, j ≤ m.us.length ∧ iv = .int .i64 j ∧ His w wr g { m with p := { m.p with active := (k : Int) }, t := folM m.p.es k m.t, us := mapTo (folM m.p.es k) m.us j } ∧ HKeep g W3 m.u m.r wr m.u m.r) (fun iv _ => m.us.length - (intOf iv).toNat)
    case atStart => exact ⟨0, Nat.zero_le _, rfl, by rw [mapTo_0]; exact HX.out, .refl _ _ _ _⟩
    case round =>
      obtain ⟨j, hj, rfl, X, K⟩ := hrel
      by_cases hlt : j < m.us.length
      · have hs := mapTo_get (folM m.p.es k) m.us hlt
        have hst := mapTo_set (folM m.p.es k) m.us hlt
        have hsl := hnu _ (List.getElem_mem hlt)
        generalize m.us[j] = s at hs hst hsl
        obtain ⟨q, c, eq, hcl, hfr⟩ := X.uo.stAt hs
        rw [mapTo_len] at eq
        have hsw := X.us_ _ (List.mem_of_getElem? hs)
        have kh : wr.cell? ⟨gh, 0, none⟩ = some (.pointer (some ⟨g, 0, none⟩)) := (K.blk HF1.out HD.out).cell 0
        have kt : wr.cell? ⟨gt, 0, none⟩ = some (.int .i64 (k : Int)) := (K.blk HF2.out HE2.out).cell 0
        have c9 : wr.cell? ⟨g, 9, none⟩ = some (.slice (some ⟨q, 0, none⟩) m.us.length c) := by rw [X.c9]; exact congrArg some eq
        have K4 := Lib.hid (follow_any m.p.es k s wr q (j * 5) g gt gh m.A m.c (hcl 4 (by decide)) (hcl 2 (by decide)) (hcl 3 (by decide)) (hfr _) kt kh X.c2 hk hn hsl X.pl.len hsw.pl.len X.pl.ents hsw.pl.ents)
        have hlt' : (j : Int) < (m.us.length : Int) := by omega
        have HS := Lib.hid hs
        have HT := Lib.hid hst
        have HX' := Lib.hid X
        have HK' := Lib.hid K
        have HQ := Lib.hid eq
        clear hs hst X K hcl hfr hsw eq hsl HX
        go_wp2_with (go_at_call 45; (with_reducible refine callFol K4.out ?_); intro n5)
        go_roundw
        case rel =>
          obtain ⟨X5, R5⟩ := HX'.out.folU2 HQ.out m.p.es k n5 HS.out
          refine ⟨j + 1, by omega, by go_num, ?_, HK'.out.trans R5⟩
          rw [← HT.out]
          exact X5
        case measure => simp [intOf]; omega
      · have hlt' : ¬ (j : Int) < (m.us.length : Int) := by omega
        rw [mapTo_all _ _ (by omega)] at X
        have F1 := HF1.out.step K
        have F2 := HF2.out.step K
        have D := K.blk HF1.out HD.out
        have E := K.blk HF2.out HE2.out
        have HK4 := Lib.hid K
        clear HF1 HF2 HD HE2 HX
        have HF1 := Lib.hid F1
        have HF2 := Lib.hid F2
        have HD := Lib.hid D
        have HE2 := Lib.hid E
        have HX := Lib.hid X
        clear F1 F2 D E K X
        obtain ⟨A1, c1, e1⟩ := HX.out.rl
        have c10 : wr.cell? ⟨g, 10, none⟩ = some (.slice A1 m.rs.length c1) := by rw [HX.out.c10]; exact congrArg some e1
        have kh : wr.cell? ⟨gh, 0, none⟩ = some (.pointer (some ⟨g, 0, none⟩)) := HD.out.cell 0
        have E1 := Lib.hid e1
        clear e1
        generalize wr = W4 at *
        go_wp2
        go_loopw [75] (fun iv wr => ∃ j : Nat, j ≤ m.rs.length ∧ iv = .int .i64 j ∧ His w wr g { m with p := { m.p with active := (k : Int) }, t := folM m.p.es k m.t, us := m.us.map (folM m.p.es k), rs := mapTo (folM m.p.es k) m.rs j } ∧ HKeep g W4 m.u m.r wr m.u m.r) (fun iv _ => m.rs.length - (intOf iv).toNat)
        case atStart => exact ⟨0, Nat.zero_le _, rfl, by rw [mapTo_0]; exact HX.out, .refl _ _ _ _⟩
        case round =>
          obtain ⟨j, hj, rfl, X, K⟩ := hrel
          by_cases hlt : j < m.rs.length
          · have hs := mapTo_get (folM m.p.es k) m.rs hlt
            have hst := mapTo_set (folM m.p.es k) m.rs hlt
            have hsl := hnr _ (List.getElem_mem hlt)
            generalize m.rs[j] = s at hs hst hsl
            obtain ⟨q, c, eq, hcl, hfr⟩ := X.ro.stAt hs
            rw [mapTo_len] at eq
            have hsw := X.rs_ _ (List.mem_of_getElem? hs)
            have kh : wr.cell? ⟨gh, 0, none⟩ = some (.pointer (some ⟨g, 0, none⟩)) := (K.blk HF1.out HD.out).cell 0
            have kt : wr.cell? ⟨gt, 0, none⟩ = some (.int .i64 (k : Int)) := (K.blk HF2.out HE2.out).cell 0
            have c9 : wr.cell? ⟨g, 10, none⟩ = some (.slice (some ⟨q, 0, none⟩) m.rs.length c) := by rw [X.c10]; exact congrArg some eq
            have K4 := Lib.hid (follow_any m.p.es k s wr q (j * 5) g gt gh m.A m.c (hcl 4 (by decide)) (hcl 2 (by decide)) (hcl 3 (by decide)) (hfr _) kt kh X.c2 hk hn hsl X.pl.len hsw.pl.len X.pl.ents hsw.pl.ents)
            have hlt' : (j : Int) < (m.rs.length : Int) := by omega
            have HS := Lib.hid hs
            have HT := Lib.hid hst
            have HX' := Lib.hid X
            have HK' := Lib.hid K
            have HQ := Lib.hid eq
            clear hs hst X K hcl hfr hsw eq hsl HX
            go_wp2_with (go_at_call 45; (with_reducible refine callFol K4.out ?_); intro n5)
            go_roundw
            case rel =>
              obtain ⟨X5, R5⟩ := HX'.out.folR2 HQ.out m.p.es k n5 HS.out
              refine ⟨j + 1, by omega, by go_num, ?_, HK'.out.trans R5⟩
              rw [← HT.out]
              exact X5
            case measure => simp [intOf]; omega
          · have hlt' : ¬ (j : Int) < (m.rs.length : Int) := by omega
            rw [mapTo_all _ _ (by omega)] at X
            have HX' := Lib.hid X
            have HK' := Lib.hid K
            clear X K HX
            go_wp2
            go_ret
            refine ⟨_, by rw [HE.out]; rfl, HX'.out, by rw [HE.out], HK3.out.trans (HK4.out.trans HK'.out), fun q _ ho => ⟨ho.act, ?_, ?_, ?_⟩⟩
            · show (folM m.p.es k m.t).p.es ≠ [] → ∀ a, (folM m.p.es k m.t).A = some a → a.block ≠ q
              rw [(folM_es _ _ _).2.1, (folM_es _ _ _).1]
              exact ho.tmp
            · intro s hs
              obtain ⟨y, hy, rfl⟩ := List.mem_map.1 hs
              rw [(folM_es _ _ _).2.1, (folM_es _ _ _).1]
              exact ho.us_ y hy
            · intro s hs
              obtain ⟨y, hy, rfl⟩ := List.mem_map.1 hs
              rw [(folM_es _ _ _).2.1, (folM_es _ _ _).1]
              exact ho.rs_ y hy
end Go.Proofs.YtlggdgpdfepppaaGreatDoor
