/- Lemmas and walks. -/
import Derived.Test.YtgoeedohgomodaaGreatDoorPk41
import Derived.Test.YtgoeedohgomodaaGreatDoorPk45
import Derived.Test.YtgoeedohgomodaaGreatDoorPk47
import Derived.Test.YtgoeedohgomodaaGreatDoorPk48
import Derived.Test.YtgoeedohgomodaaGreatDoorPk32
import Derived.Test.YtgoeedohgomodaaGreatDoorPk10
import Derived.Deep.RegionHeld3
import Derived.Test.YtgoeedohgomodaaGreatDoorPk14
import Derived.Test.YtgoeedohgomodaaGreatDoorPk20
import Derived.Test.YtgoeedohgomodaaGreatDoorPk34
import Derived.Test.YtgoeedohgomodaaGreatDoorPk37
import Derived.Test.YtgoeedohgomodaaGreatDoorPk11
import Derived.Test.YtgoeedohgomodaaGreatDoorPk35
set_option linter.unusedSimpArgs false
set_option linter.unusedVariables false
namespace Go.Proofs.YtgoeedohgomodaaGreatDoor
open Go.RowKit Go.Sort
theorem goS_err {R : RLook} {items : List ItemV} {ws : List (List UInt8)} {f i : Nat} {l : List Entry} (hi : i < items.length) (he : (itemStep R items (ws.getD i []) i l).2.2 ≠ 0) :
    routeGo R items ws (f + 1) i l = itemStep R items (ws.getD i []) i l := by
  conv => lhs; unfold routeGo
  rw [if_pos hi, if_pos he]
theorem goS_ok {R : RLook} {items : List ItemV} {ws : List (List UInt8)} {f i : Nat} {l : List Entry} (hi : i < items.length) (he : (itemStep R items (ws.getD i []) i l).2.2 = 0) :
    routeGo R items ws (f + 1) i l = routeGo R items ws f ((itemStep R items (ws.getD i []) i l).2.1.toNat + 1) (itemStep R items (ws.getD i []) i l).1 := by
  conv => lhs; unfold routeGo
  rw [if_pos hi, if_neg (not_not_intro he)]
theorem goS_end {R : RLook} {items : List ItemV} {ws : List (List UInt8)} : ∀ {f i : Nat} {l : List Entry}, items.length ≤ i → routeGo R items ws f i l = (l, (0, 0))
  | 0, _, _, _ => rfl
  | f + 1, i, l, h => by
    conv => lhs; unfold routeGo
    rw [if_neg (by omega)]
structure KindOk (xs : List ItemV) (i : Nat) : Prop where
  lo : 1 ≤ (xs.getD i noItem).kind
  hi : (xs.getD i noItem).kind ≤ 8
  k1 : (xs.getD i noItem).kind = 1 → 1 < xs.length
  k3 : (xs.getD i noItem).kind = 3 → i + 1 < xs.length
  k8 : (xs.getD i noItem).kind = 8 → 1 ≤ i
theorem itemS_kind8 {s : List UInt8} {x : ItemV} (h : itemS s = some x) : 2 ≤ x.kind ∧ x.kind ≤ 7 := by
  unfold itemS at h
  split at h
  · split at h
    · cases h
    · rename_i h1
      injection h with h
      subst h
      have h2 : letterK (s.getD 0 0) ≠ 0 := fun q => h1 (.inl q)
      show 2 ≤ letterK (s.getD 0 0) ∧ letterK (s.getD 0 0) ≤ 7
      revert h2
      unfold letterK
      split
      · intro _; omega
      · split
        · intro _; omega
        · split
          · intro _; omega
          · intro h; exact absurd rfl h
  · split at h
    · injection h with h; subst h; exact ⟨by dsimp only; omega, by dsimp only; omega⟩
    · split at h
      · injection h with h; subst h; exact ⟨by dsimp only; omega, by dsimp only; omega⟩
      · split at h
        · injection h with h; subst h; exact ⟨by dsimp only; omega, by dsimp only; omega⟩
        · cases h
theorem kind_ok {ws : List (List UInt8)} {xs : List ItemV} (h : ItemsOk ws xs) (h1 : ws.length ≠ 1) {i : Nat} (hi : i < xs.length) : KindOk xs i := by
  have hw : i < ws.length := h.1 ▸ hi
  have a := (h.2 i hw hi).1
  have e : xs.getD i noItem = xs[i] := by rw [List.getD_eq_getElem?_getD, List.getElem?_eq_getElem hi]; rfl
  have hl := h.1
  generalize xs[i] = x at a e
  unfold wordI at a
  split at a
  · rename_i hc
    split at a
    · injection a with a
      have hk : x.kind = if i = 0 then 1 else 8 := by rw [← a]
      refine ⟨?_, ?_, ?_, ?_, ?_⟩
      all_goals rw [e, hk]
      · split <;> omega
      · split <;> omega
      · intro _; omega
      · intro q; split at q <;> omega
      · intro q; split at q <;> omega
    · cases a
  · rename_i hc
    have hk := itemS_kind8 a
    refine ⟨?_, ?_, ?_, ?_, ?_⟩
    all_goals rw [e]
    · exact Int.le_trans (by decide) hk.1
    · exact Int.le_trans hk.2 (by decide)
    · intro q; omega
    · intro _; omega
    · intro q; omega
theorem bstep_any {w : World} {d : DBs} {G : GDB} {iA : Option Addr} {ic : Nat} {xs : List ItemV} (hS : RS w d G iA ic xs) (es : List Entry) (L : Option Addr) (c g : Nat) (W : World) (h : Bu w W g d.cells (.slice iA xs.length ic) L c es) (hE : LOk 247000 es) (i : Nat) (hi : i < xs.length) (hn : xs.length ≤ 124) (word : List UInt8) (hw : word.length ≤ 4000000000)
    (hk : KindOk xs i) (hne : 1 ≤ i → es ≠ []) :
    Calls Tryz.prog 41 #[.pointer (some ⟨g, 0, none⟩), .int .i64 i, .string ⟨word.toArray⟩] W (RetSt w W g d.cells (.slice iA xs.length ic) (itemStep (lookR G) xs word i es)) := by
  have he : es.length ≤ 250000 := Nat.le_trans hE.len (by omega)
  have := hk.lo
  have := hk.hi
  have hc : (xs.getD i noItem).kind = 1 ∨ (xs.getD i noItem).kind = 2 ∨ (xs.getD i noItem).kind = 3 ∨ (xs.getD i noItem).kind = 4 ∨ (xs.getD i noItem).kind = 5 ∨ (xs.getD i noItem).kind = 6 ∨ (xs.getD i noItem).kind = 7 ∨ (xs.getD i noItem).kind = 8 := by omega
  rcases hc with k | k | k | k | k | k | k | k
  · exact bstep1_any hS es L c g W h he i hi hn word hw k (hk.k1 k)
  · exact bstep2_any hS es L c g W h he i hi hn word hw k
  · exact bstep3_any hS es L c g W h he i hi hn word hw k (hk.k3 k)
  · exact bstep4_any hS es L c g W h he i hi hn word hw k
  · exact bstep5_any hS es L c g W h he i hi hn word hw k
  · exact bstep6_any hS es L c g W h he i hi hn word hw k
  · exact bstep7_any hS es L c g W h he i hi hn word hw k
  · exact bstep8_any hS es L c g W h he i hi hn word hw k hE (hne (hk.k8 k)) (hk.k8 k)
theorem step_on {G : GDB} (hG : G.short) (hN : ∀ a ∈ G.airways, a.small) {ws : List (List UInt8)} {xs : List ItemV} (h : ItemsOk ws xs) (h1 : ws.length ≠ 1) (hs : ∀ x ∈ xs, x.short) {i : Nat} (hi : i < xs.length) {es : List Entry} (hE : LOk (2000 * i) es) (hne : 1 ≤ i → es ≠ []) (word : List UInt8)
    (he : (itemStep (lookR G) xs word i es).2.2 = 0) (h0 : i = 0 → es = []) :
    ∃ j, i ≤ j ∧ (itemStep (lookR G) xs word i es).2.1 = ((j : Nat) : Int) ∧ j < xs.length ∧ LOk (2000 * (j + 1)) (itemStep (lookR G) xs word i es).1 ∧ (itemStep (lookR G) xs word i es).1 ≠ [] := by
  have g := step_grown (R := lookR G) hE.chain xs word i
  have hk := step_okL hG hN hE hs word i
  have hne2 : (itemStep (lookR G) xs word i es).1 ≠ [] := by
    by_cases h0' : i = 0
    · have k1 := kind1_at h (show 0 < xs.length by omega)
      have hs0 : itemStep (lookR G) xs word i es = atI i (originS (lookR G) es (xs.getD 1 noItem) word) := by
        unfold itemStep
        rw [h0', if_pos k1]
      rw [hs0, atI_fst]
      rw [hs0] at he
      rw [h0 h0'] at he ⊢
      obtain ⟨_, s, via, e⟩ := originS_first (R := lookR G) (x := xs.getD 1 noItem) (w := word) he
      rw [e]
      exact List.cons_ne_nil _ _
    · obtain ⟨_, n, e⟩ := g
      rw [e]
      intro q
      exact hne (by omega) (List.append_eq_nil_iff.1 q).1
  rcases step_next (lookR G) xs word i es he with e | ⟨e, k⟩
  · exact ⟨i, Nat.le_refl _, e, hi, hk.mono (by omega), hne2⟩
  · have hlt : i + 1 < xs.length := by
      rcases Nat.lt_or_ge (i + 1) xs.length with q | q
      · exact q
      · have : xs.getD (i + 1) noItem = noItem := by rw [List.getD_eq_getElem?_getD, List.getElem?_eq_none q]; rfl
        rw [this] at k
        rcases k with k | k <;> exact absurd k (by decide)
    exact ⟨i + 1, by omega, by rw [e]; rfl, hlt, hk.mono (by omega), hne2⟩
end Go.Proofs.YtgoeedohgomodaaGreatDoor
namespace Go.Proofs.YtgoeedohgomodaaGreatDoor
open Go.RowKit Go.Sort
set_option maxRecDepth 100000
def RetEx (w : World) (r : (Plan × Int) × Int) (e : Ending) (w' : World) : Prop :=
  ∃ A c, e = .returned (.tuple #[.agg (r.1.1.arr A c), .int .i64 r.1.2, .int .i64 r.2]) ∧ r.1.1.es.length ≤ c ∧ Ents w' A r.1.1.es ∧ Below w.heap.size w w'
theorem callEx {P : Program} {f : FuncId} {args : Array Value} {W : World} {r : (Plan × Int) × Int} {K : Ending → World → Prop} (h : Calls P f args W (RetEx W r))
    (k : ∀ A c w', r.1.1.es.length ≤ c → Ents w' A r.1.1.es → Below W.heap.size W w' → K (.returned (.tuple #[.agg (r.1.1.arr A c), .int .i64 r.1.2, .int .i64 r.2])) w') : Calls P f args W K :=
  h.mono fun e w' ⟨A, c, he, h1, h2, h3⟩ => by subst he; exact k A c w' h1 h2 h3
def bplanR (parts : Array (Nat × Value)) : Sem Value := Instr.build 43 parts
theorem bplanR_fold (parts : Array (Nat × Value)) : Instr.build 43 parts = bplanR parts := rfl
theorem run_bplanR0 (w : World) : (bplanR #[]).run Tryz.prog w = .ok (.agg (plan0.arr none 0)) w := run_build w _ _ _ (by kernel_rfl)
theorem run_bplanR4 (w : World) (a b : List UInt8) (n : Int) (es : List Entry) (A : Option Addr) (c : Nat) : (bplanR #[(0, .string ⟨a.toArray⟩), (1, .string ⟨b.toArray⟩), (2, .slice A es.length c), (3, .int .i64 n)]).run Tryz.prog w = .ok (.agg ((⟨a, b, es, n⟩ : Plan).arr A c)) w := run_build w _ _ _ (by kernel_rfl)
def bbuR (parts : Array (Nat × Value)) : Sem Value := Instr.build 90 parts
theorem bbuR_fold (parts : Array (Nat × Value)) : Instr.build 90 parts = bbuR parts := rfl
theorem list9R {l : List Value} (h : l.length = 9) : ∃ a b c d e f g h' i, l = [a, b, c, d, e, f, g, h', i] := by
  match l, h with
  | [a, b, c, d, e, f, g, h', i], _ => exact ⟨a, b, c, d, e, f, g, h', i, rfl⟩
theorem run_bbuR (w : World) (cs : Array Value) (h : cs.size = 9) (A : Option Addr) (n c : Nat) : (bbuR #[(0, .agg cs), (1, .slice A n c)]).run Tryz.prog w = .ok (.agg (buArr cs (.slice A n c) (.slice none 0 0))) w := by
  obtain ⟨l⟩ := cs
  obtain ⟨x0, x1, x2, x3, x4, x5, x6, x7, x8, rfl⟩ := list9R (l := l) h
  exact run_build w _ _ _ (by kernel_rfl)
theorem run_storeD_planR (W : World) (g o : Nat) (v : Array Value) (hv : SzIs v 4) (h1 : Ones v) (hp : Plain W g) (hn : Fits o 4 (blkOf W g)) :
    (store_plan (.pointer (some ⟨g, o, none⟩)) (.agg v)).run Tryz.prog W = .ok () (W.setRow g (splice (blkOf W g) o v)) := run_store_blk W g o 4 _ v info_plan hv h1 hp hn
theorem splice_planR (p q : Plan) (A B : Option Addr) (c d : Nat) : splice (p.arr A c) 0 (q.arr B d) = q.arr B d := rfl
theorem Fits_planR (p : Plan) (A : Option Addr) (c o n : Nat) : Fits o n (p.arr A c) = (o + n ≤ 4) := propext ⟨fun h => h, fun h => h⟩
theorem Ents.setRow4R {w : World} {A : Option Addr} {es : List Entry} {g : Nat} {cs : Array Value} (h : Ents w A es) (hb : Blk w g cs) (hs : cs.size = 4) (cs' : Array Value) : Ents (w.setRow g cs') A es := by
  refine ⟨fun hne => ?_⟩
  obtain ⟨b, o, h1, h2, h3⟩ := h.at_ hne
  have hbg : b ≠ g := by
    rintro rfl
    obtain ⟨x, t, rfl⟩ := List.exists_cons_of_ne_nil hne
    have := h3 0 x rfl 19 (by omega)
    rw [hb.cell, Array.getElem?_eq_none (by omega)] at this
    simp [Entry.arr] at this
  refine ⟨b, o, h1, by simpa [World.setRow] using h2, fun i x hx j hj => ?_⟩
  rw [World.cell?_of_block (w := w) (setRow_other w g b cs' hbg)]
  exact h3 i x hx j hj
attribute [local go_sem ↓] bplanR_fold bbuR_fold
attribute [local go_sem] run_bplanR0 run_bplanR4 run_bbuR run_storeD_planR splice_planR Fits_planR Plain_drewR blkOf_drewR Plain_newR blkOf_newR setRow_drewO
theorem wordI_short {n i : Nat} {s : List UInt8} {x : ItemV} (h : wordI n i s = some x) (hs : s.length ≤ 8000000) : x.short := by
  unfold wordI at h
  split at h
  · split at h
    · injection h with h
      subst h
      have := cutAt_len 47 s
      exact ⟨by show (cutAt 47 s).1.length ≤ _; omega, by show (cutAt 47 s).2.1.length ≤ _; omega⟩
    · cases h
  · unfold itemS at h
    split at h
    · split at h
      · cases h
      · injection h with h
        subst h
        have := cutAt_len 46 (s.drop 2)
        rw [List.length_drop] at this
        exact ⟨by show (cutAt 46 (s.drop 2)).1.length ≤ _; omega, by show (cutAt 46 (s.drop 2)).2.1.length ≤ _; omega⟩
    · split at h
      · injection h with h; subst h; exact ⟨by decide, by decide⟩
      · split at h
        · injection h with h; subst h; exact ⟨hs, by simp⟩
        · split at h
          · injection h with h; subst h; exact ⟨hs, by simp⟩
          · cases h
theorem itemsGo_none (ws : List (List UInt8)) : ∀ (l : List (List UInt8)) (i : Nat) (out : List ItemV), (itemsGo ws l i out).2 ≠ 0 → (itemsGo ws l i out).1.1 = []
  | [], i, out, h => absurd rfl h
  | w :: r, i, out, h => by
    unfold itemsGo at h ⊢
    split
    · rfl
    · rename_i x hx
      rw [hx] at h
      dsimp only at h
      split
      · rfl
      · rename_i hm
        rw [if_neg hm] at h
        exact itemsGo_none ws r _ _ h
theorem routeParse_none {s : List UInt8} (h : (routeParse s).2 ≠ 0) : (routeParse s).1.1 = [] := by
  unfold routeParse at h ⊢
  split
  · rfl
  · rename_i h1
    rw [if_neg h1] at h
    split
    · rename_i h2
      exact itemsGo_none _ _ _ _ h2
    · rename_i h2
      rw [if_neg h2] at h
      split
      · rfl
      · rename_i h3
        rw [if_neg h3] at h
        exact absurd h h2
theorem route_short {s : List UInt8} (hs : s.length ≤ 4000000) : ∀ x ∈ (routeParse s).1.1, x.short := by
  intro x hx
  by_cases h : (routeParse s).2 = 0
  · obtain ⟨ok, _, _, hw⟩ := parse_ok h
    obtain ⟨i, hi, rfl⟩ := List.mem_iff_getElem.1 hx
    have hi' : i < (splitC 32 s).length := ok.1 ▸ hi
    have a := (ok.2 i hi' hi).1
    have hl := splitC_memR 32 s _ (List.getElem_mem hi')
    have := wordI_word a
    exact wordI_short a (by omega)
  · have : (routeParse s).1.1 = [] := routeParse_none h
    rw [this] at hx
    cases hx
def planW (ws : List (List UInt8)) (es : List Entry) : Plan := ⟨ws.headD [], ws.getLastD [], es, -1⟩
theorem expand_eq (R : RLook) (s : List UInt8) : expandS R s = if (routeParse s).2 ≠ 0 then ((plan0, (routeParse s).1.2), (routeParse s).2) else
    if (routeGo R (routeParse s).1.1 (splitC 32 s) (routeParse s).1.1.length 0 []).2.2 ≠ 0 then ((plan0, (routeGo R (routeParse s).1.1 (splitC 32 s) (routeParse s).1.1.length 0 []).2.1), (routeGo R (routeParse s).1.1 (splitC 32 s) (routeParse s).1.1.length 0 []).2.2) else
    if planCheck (planW (splitC 32 s) (routeGo R (routeParse s).1.1 (splitC 32 s) (routeParse s).1.1.length 0 []).1) ≠ 0 then
      ((plan0, ((splitC 32 s).length : Int)), planCheck (planW (splitC 32 s) (routeGo R (routeParse s).1.1 (splitC 32 s) (routeParse s).1.1.length 0 []).1))
    else ((planW (splitC 32 s) (routeGo R (routeParse s).1.1 (splitC 32 s) (routeParse s).1.1.length 0 []).1, 0), 0) := rfl
theorem RetEx.err {w w' : World} {r : (Plan × Int) × Int} {i n : Int} (h : r = ((plan0, i), n)) (b : Below w.heap.size w w') : RetEx w r (.returned (.tuple #[.agg (plan0.arr none 0), .int .i64 i, .int .i64 n])) w' := by
  subst h
  exact ⟨none, 0, rfl, Nat.le_refl _, Ents.nil _ _, b⟩
set_option maxHeartbeats 16000000 in
theorem rexpand_any (d : DBs) (G : GDB) (s : List UInt8) (hs : s.length ≤ 4000000) (w : World) (hL : Laid w) (hD : GdAt w d G) (hG : G.short) :
    Calls Tryz.prog 17 #[.agg d.cells, .string ⟨s.toArray⟩] w (RetEx w (expandS (lookR G) s)) := by
  have HO := Lib.hid (expand_eq (lookR G) s)
  have KP := Lib.hid (fun W' (b : Below w.heap.size w W') => rparse_any s (by omega) W' (hL.below b))
  have HSH := Lib.hid (route_short hs)
  have HPO := Lib.hid (fun h => @parse_ok s h)
  have HWL := Lib.hid (fun x hx => Nat.le_trans (splitC_memR 32 s x hx) hs)
  have HWN := Lib.hid (List.length_pos_iff.2 (splitC_ne 32 s))
  have KS := Lib.hid (fun W' (b : Below w.heap.size w W') => splitC_any 32 s W' (hL.below b) (by omega))
  have HD := Lib.hid hD
  have HGS := Lib.hid hG
  have HLW := Lib.hid (fun W' (b : Below w.heap.size w W') => hL.below b)
  have h9 := hD.db.ok.size
  generalize expandS (lookR G) s = OUT at *
  generalize splitC 32 s = ws at *
  generalize routeParse s = pr at *
  obtain ⟨⟨xs, pi⟩, pe⟩ := pr
  dsimp only at HO HSH HPO
  clear hL hD hG
  go_enter Tryz.func17, Tryz.ntmps17
  go_upto_region 1 with (fail)
  obtain ⟨D0, R0, B0⟩ := blk2R w d.cells (plan0.arr none 0) 37 43
  generalize hW : World.alloc (World.alloc w _) _ = W
  have hW' : (w.alloc (.cells d.cells 37)).alloc (.cells (plan0.arr none 0) 43) = W := hW
  rw [hW'] at D0 R0 B0
  clear hW hW'
  obtain ⟨gr, hgr⟩ : ∃ g, g = w.heap.size + 1 := ⟨_, rfl⟩
  rw [← hgr] at R0 ⊢
  have hge : w.heap.size ≤ gr := by omega
  clear hgr
  obtain ⟨gd, hgd⟩ : ∃ g, g = w.heap.size := ⟨_, rfl⟩
  rw [← hgd] at D0 ⊢
  clear hgd
  have kp := Lib.hid (KP.out W B0)
  by_cases hz : pe = 0
  rotate_left
  · have hz' : (pe != 0) = true := by simpa using hz
    have HE := Lib.hid (HO.out.trans (if_pos hz))
    have HR := Lib.hid R0
    have HB := Lib.hid B0
    clear HO hz R0 D0 B0
    go_wp2_with (go_at_call 11; (with_reducible refine callItms kp.out ?_); intro A1 c1 w1 hc1 I1 g1 b1; have R1 := HR.out.step b1; have d2 := R1.plain; have d3 := R1.of)
    exact bodyPost_ret (results_agg3E Tryz.results17 _ _ gr (plan0.arr none 0) 4 _ rfl rfl (R1.set _).cell Tryz.underlying43 rfl info_plan) rfl (RetEx.err HE.out (below_setRow' (below_step HB.out b1) hge _))
  subst hz
  have HO2 := Lib.hid (HO.out.trans (if_neg (not_not_intro rfl)))
  clear HO
  obtain ⟨ok, h124, hw1, hwt⟩ := HPO.out rfl
  have hlen := ok.1
  have HOK := Lib.hid ok
  have HW1 := Lib.hid hw1
  have hx124 : xs.length ≤ 124 := by omega
  have HLN := Lib.hid hlen
  clear ok hwt hw1 HPO hlen
  go_upto_region 4 with (go_at_call 11; (with_reducible refine callItms kp.out ?_); intro A1 c1 w1 hc1 I1 g1 b1)
  have D1 := D0.step b1
  have R1 := R0.step b1
  have B1 := Lib.hid (below_step B0 b1)
  clear D0 R0 B0 kp b1 KP g1
  have ks := Lib.hid (KS.out w1 B1.out)
  clear KS
  go_upto_region 5 with (refine ks.out.mono ?_; rintro e w2 ⟨rfl, hw2⟩; replace hw2 := Lib.hid hw2)
  replace hw2 := hw2.out
  have b2 : Below w1.heap.size w1 w2 := by rw [hw2]; exact alloc_belowR _ _
  have hs2 : w1.heap.size < w2.heap.size := by rw [hw2]; simp
  have S2 : ∀ k x, ws[k]? = some x → w2.cell? ⟨w1.heap.size, k, none⟩ = some (.string ⟨x.toArray⟩) := fun k x hx => by
    rw [hw2, cell_of_row _ _ k _ _ (0, 0) (heap_alloc_new w1 _)]
    unfold strCellsC
    rw [List.getElem?_toArray, List.getElem?_map, hx]
    rfl
  have D2 := D1.step b2
  have R2 := R1.step b2
  have B2 := Lib.hid (below_step B1.out b2)
  have I2 := I1.below b2
  clear hw2 D1 R1 I1 b2 ks
  obtain ⟨sb, hsb⟩ : ∃ b, b = w1.heap.size := ⟨_, rfl⟩
  rw [← hsb] at hs2 S2 ⊢
  clear hsb B1
  have k1 : Has_db w2 gd 0 := ⟨_, D2.is_db h9⟩
  have k2 : of_db w2 gd 0 = d.cells := of_db_eq (D2.is_db h9)
  have HRS := Lib.hid (show RS w2 d G A1 c1 xs from ⟨HLW.out w2 B2.out, HD.out.below B2.out, HGS.out, I2, hc1, HSH.out⟩)
  go_upto_region 6 with (fail)
  have X3 : Bu w2 (w2.alloc (.cells (buArr d.cells (.slice A1 xs.length c1) (.slice none 0 0)) 90)) w2.heap.size d.cells (.slice A1 xs.length c1) none 0 [] :=
    ⟨Blk.new _ _ _, h9, Ents.nil _ _, (fun _ h => by cases h), Nat.le_refl _, alloc_belowR _ _, Nat.le_refl _⟩
  have D3 := alloc_belowR w2 (.cells (buArr d.cells (.slice A1 xs.length c1) (.slice none 0 0)) 90)
  have HS2 := Lib.hid (fun W' (b : Below w2.heap.size w2 W') k x (hx : ws[k]? = some x) => show W'.cell? ⟨sb, k, none⟩ = some (.string ⟨x.toArray⟩) from by rw [b.cell (p := ⟨sb, k, none⟩) hs2]; exact S2 k x hx)
  have HR2 := Lib.hid (fun W' (b : Below w2.heap.size w2 W') => R2.step b)
  have hgr2 := R2.lt
  clear k1 k2 D2 I2 S2 hc1 R2
  generalize hw3 : World.alloc w2 _ = w3
  have hw3' : w2.alloc (.cells (buArr d.cells (.slice A1 xs.length c1) (.slice none 0 0)) 90) = w3 := hw3
  rw [hw3'] at X3 D3
  clear hw3 hw3'
  obtain ⟨g, hg⟩ : ∃ g, g = w2.heap.size := ⟨_, rfl⟩
  rw [← hg] at X3 ⊢
  have HG := Lib.hid hg
  clear hg
  have HX3 := Lib.hid X3
  have HB3 := Lib.hid (below_step B2.out D3)
  have HD3 := Lib.hid D3
  clear X3 D3
  go_upto_region 7 with (fail)
  go_loopw [9, 12] (fun ev iv wr => ∃ (i : Nat) (es : List Entry) (L : Option Addr) (c f : Nat), ev = .int .i64 0 ∧ iv = .int .i64 i ∧ i ≤ xs.length ∧ xs.length ≤ i + f ∧ routeGo (lookR G) xs ws xs.length 0 [] = routeGo (lookR G) xs ws f i es ∧ LOk (2000 * i) es ∧ (1 ≤ i → es ≠ []) ∧ (i = 0 → es = []) ∧ Bu w2 wr g d.cells (.slice A1 xs.length c1) L c es ∧ OnlyB g w3 wr) (fun _ iv _ => xs.length - (intOf iv).toNat)
  case atStart => exact ⟨0, [], none, 0, xs.length, rfl, rfl, Nat.zero_le _, by omega, rfl, LOk.nil, (fun h => absurd h (by omega)), (fun _ => rfl), HX3.out, OnlyB.refl _ _⟩
  case round =>
    obtain ⟨i, es, L, c, f, rfl, rfl, hi, hf, hgo, hE, hne, h0, X, O⟩ := hrel
    have HGO := Lib.hid hgo
    have HE := Lib.hid hE
    have HNE := Lib.hid hne
    have HZ0 := Lib.hid h0
    have HX := Lib.hid X
    have HO := Lib.hid O
    clear hgo hE hne h0 X O
    by_cases hlt : i < xs.length
    · have hlt' : (i : Int) < (xs.length : Int) := by omega
      have hiw : i < ws.length := by have := HLN.out; omega
      obtain ⟨x, hx⟩ : ∃ x, ws[i]? = some x := ⟨_, List.getElem?_eq_getElem hiw⟩
      have hxg : ws.getD i [] = x := by rw [List.getD_eq_getElem?_getD, hx]; rfl
      have hxl := HWL.out x (List.mem_of_getElem? hx)
      have hcx := HS2.out wr HX.out.bel i x hx
      have kst := Lib.hid (bstep_any HRS.out es L c g wr HX.out (HE.out.mono (by omega)) i hlt hx124 x (by omega) (kind_ok HOK.out HW1.out hlt) HNE.out)
      obtain ⟨f', rfl⟩ : ∃ f', f = f' + 1 := ⟨f - 1, by omega⟩
      have HER := Lib.hid (fun he => HGO.out.trans (goS_err (R := lookR G) (ws := ws) (f := f') (l := es) hlt he))
      have HOKS := Lib.hid (fun he => HGO.out.trans (goS_ok (R := lookR G) (ws := ws) (f := f') (l := es) hlt he))
      rw [hxg] at HER HOKS
      have HON := Lib.hid (fun he => step_on HGS.out HD.out.airS HOK.out HW1.out HSH.out hlt HE.out HNE.out x he HZ0.out)
      clear hx hxg
      generalize itemStep (lookR G) xs x i es = r at *
      obtain ⟨rl, rj, re⟩ := r
      dsimp only at HER HOKS HON kst
      by_cases hz : re = 0
      · subst hz
        obtain ⟨j, hj1, rfl, hj2, hj3, hj4⟩ := HON.out rfl
        have HGN := Lib.hid (HOKS.out rfl)
        have HJ3 := Lib.hid hj3
        have HJ4 := Lib.hid hj4
        have hj5 : j ≤ 124 := by omega
        clear HER HOKS HON hj3 hj4
        go_wp2_with (go_at_call 41; (with_reducible refine callSt kst.out ?_); intro w5 O5 h5; obtain ⟨L5, c5, B5⟩ := h5 rfl)
        go_roundw
        case rel => exact ⟨j + 1, rl, L5, c5, f', rfl, by go_num, by omega, by omega, by rw [HGN.out, Int.toNat_natCast], HJ3.out, (fun _ => HJ4.out), (fun h => absurd h (by omega)), B5, HO.out.trans O5⟩
        case measure => simp [intOf]; omega
      · have hz' : (re != 0) = true := by simpa using hz
        have HGE := Lib.hid (HER.out hz)
        have HOE := Lib.hid (show OUT = ((plan0, rj), re) by rw [HO2.out, HGE.out, if_pos hz])
        clear HER HOKS HON hz
        go_wp2_with (go_at_call 41; (with_reducible refine callSt kst.out ?_); intro w5 O5 _; have b5 := (HO.out.trans O5).below HD3.out (by have := HG.out; omega); have R5 := HR2.out _ b5; have d2 := R5.plain; have d3 := R5.of)
        exact bodyPost_ret (results_agg3E Tryz.results17 _ _ gr (plan0.arr none 0) 4 _ rfl rfl (R5.set _).cell Tryz.underlying43 rfl info_plan) rfl (RetEx.err HOE.out (below_setRow' (below_step B2.out b5) hge _))
    · obtain rfl : i = xs.length := by omega
      have hlt' : ¬ (xs.length : Int) < (xs.length : Int) := by omega
      have HGN := Lib.hid (show routeGo (lookR G) xs ws xs.length 0 [] = (es, (0, 0)) from HGO.out.trans (goS_end (Nat.le_refl _)))
      have HO3 := Lib.hid (show OUT = if planCheck (planW ws es) ≠ 0 then ((plan0, (ws.length : Int)), planCheck (planW ws es)) else ((planW ws es, 0), 0) by rw [HO2.out, HGN.out]; exact if_neg (not_not_intro rfl))
      have b4 : Below w2.heap.size w2 wr := HX.out.bel
      obtain ⟨n, hn⟩ : ∃ n, ws.length = n + 1 := ⟨ws.length - 1, by have := HWN.out; omega⟩
      have hwh : ws[0]? = some (ws.headD []) := by rw [headD_at, List.getElem?_eq_getElem (by omega)]; rfl
      have hwl : ws[n]? = some (ws.getLastD []) := by rw [getLastD_at, show ws.length - 1 = n by omega, List.getElem?_eq_getElem (by omega)]; rfl
      have IS := Lib.hid (fun W' (D : Below wr.heap.size wr W') => show W'.cell? ⟨sb, 0, none⟩ = some (.string ⟨(ws.headD []).toArray⟩) ∧ W'.cell? ⟨sb, n, none⟩ = some (.string ⟨(ws.getLastD []).toArray⟩) ∧ W'.cell? ⟨g, 10, none⟩ = some (.slice L es.length c) from
        ⟨HS2.out W' (below_step b4 D) 0 _ hwh, HS2.out W' (below_step b4 D) n _ hwl, (HX.out.step D).c10⟩)
      have hsm : (planW ws es).small := ⟨Nat.le_trans (HWL.out _ (List.mem_of_getElem? hwh)) (by omega), Nat.le_trans (HWL.out _ (List.mem_of_getElem? hwl)) (by omega), Nat.le_trans HE.out.len (by omega), HE.out.small⟩
      have HP := Lib.hid (show planW ws es = ⟨ws.headD [], ws.getLastD [], es, -1⟩ from rfl)
      have HPE := Lib.hid (show (planW ws es).es = es from rfl)
      have HO4 := Lib.hid (show OUT = if planCheck (planW ws es) ≠ 0 then ((plan0, (n : Int) + 1), planCheck (planW ws es)) else ((planW ws es, 0), 0) by rw [HO3.out, hn]; rfl)
      have hcap : (planW ws es).es.length ≤ c := HX.out.cap
      have hents : Ents wr L (planW ws es).es := HX.out.ents
      have hws : ws.length ≤ 124 := h124
      rw [hn] at hws
      rw [hn]
      generalize ws.headD [] = hd at *
      generalize ws.getLastD [] = lt at *
      generalize planW ws es = p at *
      have HR4 := Lib.hid (HR2.out wr b4)
      have HB4 := Lib.hid (below_step B2.out b4)
      have HC := Lib.hid hcap
      have HEn := Lib.hid hents
      have HSM := Lib.hid hsm
      have hwn : IntKind.i64.wrap (n : Int) = (n : Int) := by rw [IntKind.wrap_i64]; omega
      have hnn : (n : Int) < (n : Int) + 1 := by omega
      have hn0 : (0 : Int) < (n : Int) + 1 := by omega
      have hnl : n < n + 1 := by omega
      have hnz : 0 < n + 1 := by omega
      clear hwh hwl hsm hcap hents HO2 HO3 hn hlt HX3 h124
      go_upto_region 12 with (fail)
      go_cut [13] (fun v wx => ∃ gq, v = .pointer (some ⟨gq, 0, none⟩) ∧ Blk wx gq (p.arr L c) ∧ Below wr.heap.size wr wx)
      case first =>
        have D2 : Below wr.heap.size wr wr.drew := (Below.refl _ _).drew
        go_region_held3 (fun w' => w'.cell? ⟨sb, 0, none⟩ = some (.string ⟨hd.toArray⟩) ∧ w'.cell? ⟨sb, n, none⟩ = some (.string ⟨lt.toArray⟩) ∧ w'.cell? ⟨g, 10, none⟩ = some (.slice L es.length c))
          ((refine IS.out _ ?_; repeat' (first | assumption | omega | (refine below_setRow' ?_ ?_ _) | (refine Below.alloc ?_ ?_ _) | (refine Below.drew ?_) | exact Below.refl _ _ | (simp; done) | (simp; omega))))
          (fail)
        all_goals
          go_wp2
          go_meet
          rw [HP.out]
          first
            | exact ⟨_, rfl, (filledO wr (plan0.arr none 0) ((⟨hd, lt, es, -1⟩ : Plan).arr L c) 43).1.step (Below.refl _ _).drew, (filledO wr (plan0.arr none 0) ((⟨hd, lt, es, -1⟩ : Plan).arr L c) 43).2.drew⟩
            | exact ⟨_, rfl, Blk.new _ _ _, below_step (Below.refl _ _).drew (alloc_belowR _ _)⟩
      case rest =>
      obtain ⟨gq, rfl, Q, BC⟩ := hcut
      have R5 := Lib.hid (HR4.out.step BC)
      have B5 := Lib.hid (below_step HB4.out BC)
      have i1 : Has_plan wc gq 0 := ⟨_, Q.is_plan rfl⟩
      have i2 : of_plan wc gq 0 = p.arr L c := of_plan_eq (Q.is_plan rfl)
      have k0 := Lib.hid (show Calls Tryz.prog 23 #[.agg (p.arr L c)] wc (Ret wc (.int .i64 (planCheck p))) from planCheck_any p L c wc (HLW.out wc B5.out) HSM.out HC.out (HEn.out.below (B := 0) BC))
      have HEc := Lib.hid (HEn.out.below (B := 0) BC)
      have HQ := Lib.hid Q
      clear Q BC HR4 HB4 IS HX HR2 HRS
      by_cases h1 : planCheck p = 0
      rotate_left
      · have HS := Lib.hid (show OUT = ((plan0, (n : Int) + 1), planCheck p) from HO4.out.trans (if_pos h1))
        generalize planCheck p = z at k0 HS h1
        have h1' : (z != 0) = true := by simpa using h1
        clear HO4 h1
        go_wp2_with (go_at_call 23; (with_reducible refine callR k0.out ?_); intro w6 b6 _ _ _; have R6 := R5.out.step b6; have d2 := R6.plain; have d3 := R6.of)
        exact bodyPost_ret (results_agg3E Tryz.results17 _ _ gr (plan0.arr none 0) 4 _ rfl rfl (R6.set _).cell Tryz.underlying43 rfl info_plan) rfl (RetEx.err HS.out (below_setRow' (below_step B5.out b6) hge _))
      · have HS := Lib.hid (show OUT = ((p, 0), 0) from HO4.out.trans (if_neg (not_not_intro h1)))
        rw [h1] at k0
        clear HO4 h1
        go_wp2_with (go_at_call 23; (with_reducible refine callR k0.out ?_); intro w6 b6 _ _ _; have R6 := R5.out.step b6; have d2 := R6.plain; have d3 := R6.of; have j1 : Has_plan w6 gq 0 := ⟨_, (HQ.out.step b6).is_plan rfl⟩; have j2 : of_plan w6 gq 0 = p.arr L c := of_plan_eq ((HQ.out.step b6).is_plan rfl))
        exact bodyPost_ret (results_agg3E Tryz.results17 _ _ gr (p.arr L c) 4 _ rfl rfl (R6.set _).cell Tryz.underlying43 rfl info_plan) rfl ⟨L, c, by rw [HS.out]; rfl, by rw [HS.out]; exact HC.out, by rw [HS.out]; exact (HEc.out.below (B := 0) b6).setRow4R R6 rfl _, below_setRow' (below_step B5.out b6) hge _⟩
end Go.Proofs.YtgoeedohgomodaaGreatDoor
namespace Go.Proofs.YtgoeedohgomodaaGreatDoor
open Go.RowKit
def viaS (ks : List Int) : List Entry → List UInt8
  | [] => []
  | x :: r => if x.gap = false ∧ x.via ≠ [] ∧ x.sec ∈ ks then x.via else viaS ks r
def midOf (i : Nat) (x : Entry) : List (List UInt8) :=
  if i = 0 ∨ x.gap = true ∨ x.sec ≠ 2 ∨ endsB x.leg.ty = false then [] else (if x.via = [] then [] else [x.via]) ++ [x.leg.fix]
def printMid : Nat → List Entry → List (List UInt8)
  | _, [] => []
  | i, x :: r => midOf i x ++ printMid (i + 1) r
def optR (k : UInt8) (v : List UInt8) : List (List UInt8) := if v = [] then [] else [k :: 61 :: v]
def printWords (p : Plan) : List (List UInt8) := [p.from_] ++ optR 68 (viaS [1] p.es) ++ printMid 0 p.es ++ optR 65 (viaS [3] p.es) ++ optR 80 (viaS [4, 5] p.es) ++ [p.to_]
def printS (p : Plan) : List UInt8 := if planCheck p ≠ 0 ∨ p.from_ = [] ∨ p.to_ = [] then [] else Lib.join (printWords p) [32]
theorem viaS_len {ks : List Int} : ∀ {l : List Entry}, (∀ x ∈ l, x.small) → (viaS ks l).length ≤ 4000000000
  | [], _ => by simp [viaS]
  | x :: r, h => by
    unfold viaS
    split
    · exact (h x (by simp)).via
    · exact viaS_len fun y hy => h y (by simp [hy])
theorem viaS_step {ks : List Int} {l : List Entry} {k : Nat} (h : k < l.length) : viaS ks (l.drop k) = if l[k].gap = false ∧ l[k].via ≠ [] ∧ l[k].sec ∈ ks then l[k].via else viaS ks (l.drop (k + 1)) := by
  rw [List.drop_eq_getElem_cons h]; rfl
theorem printMid_step {l : List Entry} {k : Nat} (h : k < l.length) : printMid k (l.drop k) = midOf k l[k] ++ printMid (k + 1) (l.drop (k + 1)) := by
  rw [List.drop_eq_getElem_cons h]; rfl
theorem midOf_no {i : Nat} {x : Entry} (h : i = 0 ∨ x.gap = true ∨ x.sec ≠ 2 ∨ endsB x.leg.ty = false) : midOf i x = [] := if_pos h
theorem midOf_yes {i : Nat} {x : Entry} (h1 : i ≠ 0) (h2 : x.gap = false) (h3 : x.sec = 2) (h4 : endsB x.leg.ty = true) : midOf i x = (if x.via = [] then [] else [x.via]) ++ [x.leg.fix] :=
  if_neg (by rintro (h | h | h | h); exact h1 h; rw [h2] at h; cases h; exact h h3; rw [h4] at h; cases h)
theorem optR_small {k : UInt8} {v : List UInt8} {n : Nat} (h : v.length ≤ n) : ∀ s ∈ optR k v, s.length ≤ n + 2 := by
  intro s hs
  unfold optR at hs
  split at hs
  · cases hs
  · obtain rfl : s = k :: 61 :: v := by simpa using hs
    simp; omega
theorem printMid_small : ∀ {l : List Entry} {i : Nat}, (∀ x ∈ l, x.small) → ∀ s ∈ printMid i l, s.length ≤ 4000000000
  | [], _, _, s, hs => by cases hs
  | x :: r, i, h, s, hs => by
    rcases List.mem_append.1 hs with hs | hs
    · unfold midOf at hs
      split at hs
      · cases hs
      · rcases List.mem_append.1 hs with hs | hs
        · split at hs
          · cases hs
          · obtain rfl : s = x.via := by simpa using hs
            exact (h x (by simp)).via
        · obtain rfl : s = x.leg.fix := by simpa using hs
          exact (h x (by simp)).leg.fix
    · exact printMid_small (fun y hy => h y (by simp [hy])) s hs
theorem printMid_len : ∀ (l : List Entry) (i : Nat), (printMid i l).length ≤ 2 * l.length
  | [], _ => by simp [printMid]
  | x :: r, i => by
    have := printMid_len r (i + 1)
    have h2 : (midOf i x).length ≤ 2 := by
      unfold midOf
      split
      · simp
      · split <;> simp
    show (midOf i x ++ printMid (i + 1) r).length ≤ _
    rw [List.length_append, List.length_cons]
    omega
end Go.Proofs.YtgoeedohgomodaaGreatDoor
namespace Go.Proofs.YtgoeedohgomodaaGreatDoor
open Go.RowKit Go.Sort
set_option maxRecDepth 100000
theorem secidx_any (ks : List Int) (A : Option Addr) (m c : Nat) (k : Int) (w : World) (hK : KindsAt w A ks) (hm : ks.length = m) (hn : m ≤ 1000) :
    Calls Tryz.prog 144 #[.slice A m c, .int .u8 k] w (RetP w (.int .i64 (rankI k ks 0))) := by
  have HM := Lib.hid hm
  clear hm
  go_enter Tryz.func144, Tryz.ntmps144
  go_wp2
  go_loopw [8] (fun iv wr => ∃ i : Nat, i ≤ m ∧ iv = .int .i64 i ∧ rankI k ks 0 = rankI k (ks.drop i) i ∧ wr = w) (fun iv _ => m - (intOf iv).toNat)
  case atStart => exact ⟨0, by omega, rfl, rfl, rfl⟩
  case round =>
    obtain ⟨i, hi, rfl, hf, rfl⟩ := hrel
    have HF := Lib.hid hf
    clear hf
    by_cases hlt : i < m
    · have hlk : i < ks.length := by rw [HM.out]; exact hlt
      obtain ⟨b, rfl, hb, hc⟩ := hK.at_ (by rintro rfl; simp at hlk)
      have e1 := hc i _ (List.getElem?_eq_getElem hlk)
      have HD := Lib.hid (HF.out.trans (rankI_drop k ks hlk))
      generalize ks[i] = x at e1 HD
      have hlt' : (i : Int) < (m : Int) := by omega
      clear HF hc
      by_cases hx : x = k
      · have h1 : (k == x) = true := by simp [hx]
        have HO := Lib.hid (HD.out.trans (if_pos (by simp [hx])))
        clear HD hx
        go_wp2
        go_ret
        exact RetP.int HO.out.symm rfl
      · have h1 : (k == x) = false := by simp; omega
        have HO := Lib.hid (HD.out.trans (if_neg (by simpa using hx)))
        clear HD hx
        go_wp2
        go_roundw
        case rel => exact ⟨i + 1, by omega, by go_num, HO.out, by first | trivial | rfl⟩
        case measure => simp [intOf]; omega
    · have HO := Lib.hid (show rankI k ks 0 = -1 by rw [HF.out, List.drop_of_length_le (by rw [HM.out]; omega)]; rfl)
      have hlt' : ¬ (i : Int) < (m : Int) := by omega
      go_wp2
      go_ret
      exact RetP.int HO.out.symm rfl
theorem rankI_mem (k : Int) : ∀ (l : List Int) (i : Nat), decide (0 ≤ rankI k l i) = decide (k ∈ l)
  | [], i => by simp [rankI]
  | x :: t, i => by
    unfold rankI
    by_cases h : (x == k) = true
    · have : x = k := by simpa using h
      subst this
      simp
    · have h' : x ≠ k := by simpa using h
      rw [if_neg h, rankI_mem k t (i + 1)]
      simp [Ne.symm h']
theorem seccont_any (ks : List Int) (A : Option Addr) (m c : Nat) (k : Int) (w : World) (hK : KindsAt w A ks) (hm : ks.length = m) (hn : m ≤ 1000) :
    Calls Tryz.prog 93 #[.slice A m c, .int .u8 k] w (RetP w (.bool (decide (k ∈ ks)))) := by
  have K := Lib.hid (secidx_any ks A m c k w hK hm hn)
  have HR := Lib.hid (rankI_mem k ks 0)
  generalize rankI k ks 0 = r at *
  clear hK hm
  go_enter Tryz.func93, Tryz.ntmps93
  go_wp2_with (go_at_call 144; (with_reducible refine callP K.out ?_))
  go_ret
  exact RetP.bool HR.out rfl
set_option maxHeartbeats 4000000 in
theorem routevia_any (ks : List Int) (B : Option Addr) (m cb : Nat) (p : Plan) (A : Option Addr) (c : Nat) (w : World) (hK : KindsAt w B ks) (hm : ks.length = m) (hn : m ≤ 1000) (hE : Ents w A p.es) (hc : p.es.length ≤ c) (hl : p.es.length ≤ 1000000) :
    Calls Tryz.prog 46 #[.agg (p.arr A c), .slice B m cb] w (Ret w (.string ⟨(viaS ks p.es).toArray⟩)) := by
  have KC := Lib.hid (fun k W' (b : Below w.heap.size w W') => seccont_any ks B m cb k W' (hK.below b) hm hn)
  have HEn := Lib.hid (fun W' (b : Below w.heap.size w W') => hE.below (B := 0) b)
  have HV := Lib.hid (fun k (h : k < p.es.length) => viaS_step (ks := ks) h)
  clear hK hm hE
  go_enter Tryz.func46, Tryz.ntmps46
  go_upto_region 1 with (fail)
  have X0 := Blk.new w (p.arr A c) 43
  have B0 := alloc_belowR w (.cells (p.arr A c) 43)
  generalize w.alloc _ = W at X0 B0 ⊢
  obtain ⟨g0, hg0⟩ : ∃ g, g = w.heap.size := ⟨_, rfl⟩
  rw [← hg0] at X0 ⊢
  clear hg0
  have c2 : W.cell? ⟨g0, 2, none⟩ = some (.slice A p.es.length c) := X0.cell 2
  have HB := Lib.hid B0
  go_upto_region 2 with (fail)
  clear X0 B0 c2
  generalize p.es = l at *
  go_loopw [10] (fun iv wr => ∃ k : Nat, k ≤ l.length ∧ iv = .int .i64 k ∧ viaS ks l = viaS ks (l.drop k) ∧ Below W.heap.size W wr) (fun iv _ => l.length - (intOf iv).toNat)
  case atStart => exact ⟨0, Nat.zero_le _, rfl, rfl, Below.refl _ _⟩
  case round =>
    obtain ⟨k, hk, rfl, hf, BW⟩ := hrel
    have HF := Lib.hid hf
    clear hf
    have BB := Lib.hid (below_step HB.out BW)
    by_cases hlt : k < l.length
    · obtain ⟨b, off, hA, hb, hcl⟩ := (HEn.out wr BB.out).get (k := k) hlt
      have HD := Lib.hid (HF.out.trans (HV.out k hlt))
      have HI : Is_ent wr b (off + k * 20) l[k] := fun j hj => hcl j hj
      generalize l[k] = y at *
      subst hA
      have i1 : Has_ent wr b (off + k * 20) := ⟨_, HI⟩
      have i2 : of_ent wr b (off + k * 20) = y := of_ent_eq HI
      have hlt' : (k : Int) < (l.length : Int) := by omega
      have hkc : k < c := by omega
      clear hcl HI HF
      go_upto_region 4 with (fail)
      have Y := Blk.new wr y.arr 69
      have B1 := below_step BW (alloc_belowR wr (.cells y.arr 69))
      clear i1 i2 hb BW
      generalize wr.alloc _ = w1 at Y B1 ⊢
      generalize wr.heap.size = g6 at Y ⊢
      have z0 : w1.cell? ⟨g6, 0, none⟩ = some (.bool y.gap) := Y.cell 0
      have z18 : w1.cell? ⟨g6, 18, none⟩ = some (.int .u8 y.sec) := Y.cell 18
      have z19 : w1.cell? ⟨g6, 19, none⟩ = some (.string ⟨y.via.toArray⟩) := Y.cell 19
      have kc := Lib.hid (KC.out y.sec w1 (below_step HB.out B1))
      cases hg : y.gap with
      | true =>
        have HN := Lib.hid (HD.out.trans (if_neg (by rw [hg]; simp)))
        rw [hg] at z0
        clear hg HD
        go_wp2
        go_roundw
        case rel => exact ⟨k + 1, by omega, by go_num, HN.out, B1⟩
        case measure => simp [intOf]; omega
      | false =>
        rw [hg] at z0
        by_cases hv : y.via = []
        · have ev : (y.via == []) = true := by simpa using hv
          have HN := Lib.hid (HD.out.trans (if_neg (by rw [hv]; simp)))
          clear hg HD hv
          go_wp2
          go_roundw
          case rel => exact ⟨k + 1, by omega, by go_num, HN.out, B1⟩
          case measure => simp [intOf]; omega
        · have ev : (y.via == []) = false := by simpa using hv
          by_cases hs : y.sec ∈ ks
          · have HY := Lib.hid (HD.out.trans (if_pos ⟨hg, hv, hs⟩))
            rw [decide_eq_true hs] at kc
            clear hg HD hv hs
            go_wp2_with (go_at_call 93; (with_reducible refine callP kc.out ?_))
            go_ret
            exact Ret.str (by rw [HY.out]) (below_step HB.out B1)
          · have HN := Lib.hid (HD.out.trans (if_neg (fun q => hs q.2.2)))
            rw [decide_eq_false hs] at kc
            clear hg HD hv hs
            go_wp2_with (go_at_call 93; (with_reducible refine callP kc.out ?_))
            go_roundw
            case rel => exact ⟨k + 1, by omega, by go_num, HN.out, B1⟩
            case measure => simp [intOf]; omega
    · have hlt' : ¬ (k : Int) < (l.length : Int) := by omega
      have HE := Lib.hid (show viaS ks l = [] by rw [HF.out, List.drop_of_length_le (by omega)]; rfl)
      go_wp2
      go_ret
      exact Ret.str (by rw [HE.out]) BB.out
end Go.Proofs.YtgoeedohgomodaaGreatDoor
namespace Go.Proofs.YtgoeedohgomodaaGreatDoor
open Go.RowKit Go.Sort
set_option maxRecDepth 100000
theorem kinds1P (w : World) (a : Int) (t : TypeId) : KindsAt (w.alloc (.cells #[.int .u8 a] t)) (some ⟨w.heap.size, 0, none⟩) [a] :=
  ⟨fun _ => ⟨w.heap.size, rfl, by simp, fun i x hx => by
    rw [cell_of_row _ _ i _ t (0, 0) (heap_alloc_new w _)]
    match i, hx with
    | 0, hx => simpa using hx
    | i + 1, hx => simp at hx⟩⟩
theorem kinds2P (w : World) (a b : Int) (t : TypeId) : KindsAt (w.alloc (.cells #[.int .u8 a, .int .u8 b] t)) (some ⟨w.heap.size, 0, none⟩) [a, b] :=
  ⟨fun _ => ⟨w.heap.size, rfl, by simp, fun i x hx => by
    rw [cell_of_row _ _ i _ t (0, 0) (heap_alloc_new w _)]
    match i, hx with
    | 0, hx => simpa using hx
    | 1, hx => simpa using hx
    | i + 2, hx => simp at hx⟩⟩
theorem sout_one (w0 W : World) (s : List UInt8) (h : w0.heap.size ≤ W.heap.size) : SOut w0 (W.alloc (.cells #[sval s] 9)) (.slice (some ⟨W.heap.size, 0, none⟩) 1 1) [s] :=
  World.ownsRow_lit (e := 9) (base := w0.heap.size) (size := 1) W #[sval s] 1 h (by unfold maxLen; omega) (by simp)
theorem SOut.ne_new {w0 W : World} {v : Value} {ss : List (List UInt8)} (h : SOut w0 W v ss) : some W.heap.size ≠ v.ownBlock := by
  intro he
  obtain ⟨hl, h⟩ := h
  rcases h with ⟨rfl, h1⟩ | ⟨g', cap, cur, rfl, hg, hb, hn, _, hsz, hc⟩
  · simp [Value.ownBlock] at he
  · have e : W.heap.size = g' := by simpa [Value.ownBlock] using he
    rw [← e, Array.getElem?_eq_none (Nat.le_refl _)] at hb
    cases hb
theorem print_no {p : Plan} (h : planCheck p ≠ 0 ∨ p.from_ = [] ∨ p.to_ = []) : printS p = [] := if_pos h
theorem print_yes {p : Plan} (h1 : planCheck p = 0) (h2 : p.from_ ≠ []) (h3 : p.to_ ≠ []) : printS p = Lib.join (([p.from_] ++ optR 68 (viaS [1] p.es) ++ printMid 0 p.es ++ optR 65 (viaS [3] p.es) ++ optR 80 (viaS [4, 5] p.es)) ++ [p.to_]) [32] :=
  if_neg (by rintro (h | h | h); exact h h1; exact h2 h; exact h3 h)
theorem optR_len (k : UInt8) (v : List UInt8) : (optR k v).length ≤ 1 := by unfold optR; split <;> simp
attribute [local go_sem] ba_append
set_option maxHeartbeats 16000000 in
theorem rprint_any (p : Plan) (A : Option Addr) (c : Nat) (w : World) (hL : Laid w) (hp : p.small) (hc : p.es.length ≤ c) (hE : Ents w A p.es) :
    Calls Tryz.prog 20 #[.agg (p.arr A c)] w (Ret w (.string ⟨(printS p).toArray⟩)) := by
  have KC := Lib.hid (fun W' (b : Below w.heap.size w W') => show Calls Tryz.prog 23 #[.agg (p.arr A c)] W' (Ret W' (.int .i64 (planCheck p))) from planCheck_any p A c W' (hL.below b) hp hc (hE.below (B := 0) b))
  have HEn := Lib.hid (fun W' (b : Below w.heap.size w W') => hE.below (B := 0) b)
  have HN := Lib.hid (fun h => @print_no p h)
  have HY := Lib.hid (fun h1 h2 h3 => @print_yes p h1 h2 h3)
  have H60 := Lib.hid (fun h => (@planChk_ok p h).2.1)
  generalize printS p = out at *
  clear hL hE
  go_enter Tryz.func20, Tryz.ntmps20
  go_upto_region 1 with (fail)
  have X0 := Blk.new w (p.arr A c) 43
  have B0 := alloc_belowR w (.cells (p.arr A c) 43)
  generalize w.alloc _ = W at X0 B0 ⊢
  obtain ⟨g0, hg0⟩ : ∃ g, g = w.heap.size := ⟨_, rfl⟩
  rw [← hg0] at X0 ⊢
  clear hg0
  have kc := Lib.hid (KC.out W B0)
  have i1 : Has_plan W g0 0 := ⟨_, X0.is_plan rfl⟩
  have i2 : of_plan W g0 0 = p.arr A c := of_plan_eq (X0.is_plan rfl)
  have HX0 := Lib.hid X0
  have HB0 := Lib.hid B0
  clear X0 B0 KC
  by_cases h1 : planCheck p = 0
  rotate_left
  · have h1' : (planCheck p != 0) = true := by simpa using h1
    have HO := Lib.hid (HN.out (.inl h1))
    clear HN HY H60 h1
    generalize planCheck p = z at *
    go_wp2_with (go_at_call 23; (with_reducible refine callR kc.out ?_); intro w1 b1 _ _ _)
    go_ret
    exact Ret.str (by rw [HO.out]) (below_step HB0.out b1)
  have HL60 := Lib.hid (H60.out h1)
  have HY1 := Lib.hid (HY.out h1)
  rw [h1] at kc
  clear h1 H60 HY
  obtain ⟨fr, to_, es, act⟩ := p
  dsimp only at HY1 HN HL60
  have hsm := hp.each
  have hfr : fr.length ≤ 4000000000 := hp.from_
  have hto : to_.length ≤ 4000000000 := hp.to_
  dsimp only at hsm hc HEn
  by_cases hf : fr = []
  · have ef : (fr == []) = true := by simpa using hf
    have HO := Lib.hid (HN.out (.inr (.inl hf)))
    clear HN HY1 hf
    go_wp2_with (go_at_call 23; (with_reducible refine callR kc.out ?_); intro w1 b1 _ _ _; have z0 : w1.cell? ⟨g0, 0, none⟩ = some (.string ⟨fr.toArray⟩) := (HX0.out.step b1).cell 0)
    go_ret
    exact Ret.str (by rw [HO.out]) (below_step HB0.out b1)
  have ef : (fr == []) = false := by simpa using hf
  by_cases ht : to_ = []
  · have et : (to_ == []) = true := by simpa using ht
    have HO := Lib.hid (HN.out (.inr (.inr ht)))
    clear HN HY1 hf ht
    go_wp2_with (go_at_call 23; (with_reducible refine callR kc.out ?_); intro w1 b1 _ _ _; have z0 : w1.cell? ⟨g0, 0, none⟩ = some (.string ⟨fr.toArray⟩) := (HX0.out.step b1).cell 0; have z1 : w1.cell? ⟨g0, 1, none⟩ = some (.string ⟨to_.toArray⟩) := (HX0.out.step b1).cell 1)
    go_ret
    exact Ret.str (by rw [HO.out]) (below_step HB0.out b1)
  have et : (to_ == []) = false := by simpa using ht
  have HO := Lib.hid (HY1.out hf ht)
  clear HN HY1 hf ht
  have hv1 := viaS_len (ks := [1]) hsm
  have hv3 := viaS_len (ks := [3]) hsm
  have hv4 := viaS_len (ks := [4, 5]) hsm
  have HMS := Lib.hid (fun s hs => printMid_small (l := es) (i := 0) hsm s hs)
  have HML := Lib.hid (printMid_len es 0)
  have KV := Lib.hid (fun ks B m cb W' (hK : KindsAt W' B ks) (hm : ks.length = m) (hn : m ≤ 1000) (b : Below w.heap.size w W') => routevia_any ks B m cb ⟨fr, to_, es, act⟩ A c W' hK hm hn (HEn.out W' b) hc (by have := HL60.out; show es.length ≤ _; omega))
  have HSM := Lib.hid hsm
  clear hsm
  have HXB := Lib.hid (fun W' (B : Below W.heap.size W W') => HX0.out.step B)
  clear HX0
  go_upto_region 3 with (go_at_call 23; (with_reducible refine callR kc.out ?_); intro w1 b1 _ _ _; have z0 : w1.cell? ⟨g0, 0, none⟩ = some (.string ⟨fr.toArray⟩) := (HXB.out _ b1).cell 0; have z1 : w1.cell? ⟨g0, 1, none⟩ = some (.string ⟨to_.toArray⟩) := (HXB.out _ b1).cell 1)
  clear i1 i2 kc
  go_upto_region 4 with (fail)
  have O2 := sout_one W w1 fr b1.size
  have B2 := below_step b1 (alloc_belowR w1 (.cells #[sval fr] 9))
  clear z0 z1 b1
  generalize hw2 : World.alloc w1 _ = w2
  have hw2' : w1.alloc (.cells #[sval fr] 9) = w2 := hw2
  rw [hw2'] at O2 B2
  clear hw2 hw2'
  generalize Value.slice (some ⟨w1.heap.size, 0, none⟩) 1 1 = v2 at O2 ⊢
  obtain ⟨v1, hv1e⟩ : ∃ v, viaS [1] es = v := ⟨_, rfl⟩
  obtain ⟨v3, hv3e⟩ : ∃ v, viaS [3] es = v := ⟨_, rfl⟩
  have i1 : Has_plan w2 g0 0 := ⟨_, (HXB.out w2 B2).is_plan rfl⟩
  have i2 : of_plan w2 g0 0 = (⟨fr, to_, es, act⟩ : Plan).arr A c := of_plan_eq ((HXB.out w2 B2).is_plan rfl)
  have kv := Lib.hid (KV.out [1] (some ⟨w2.heap.size, 0, none⟩) 1 1 (w2.alloc (.cells #[.int .u8 1] 67)) (kinds1P w2 1 _) rfl (by omega) (below_step HB0.out (below_step B2 (alloc_belowR _ _))))
  obtain ⟨vv, hvv⟩ : ∃ v, viaS [1] es = v := ⟨_, rfl⟩
  have hvl : vv.length ≤ 4000000000 := by rw [← hvv]; exact hv1
  rw [hvv] at kv
  have HVV := Lib.hid hvv
  clear hvv
  go_upto_if 29 with (go_at_call 46; (with_reducible refine callR kv.out ?_); intro wx b4 _ _ _)
  have D4 := below_step (alloc_belowR w2 (.cells #[.int .u8 1] 67)) b4
  have O4 := O2.below D4
  have B4 := below_step B2 D4
  clear i1 i2 kv b4 D4 O2 B2
  go_cut [3] (fun v wy => SOut W wy v ([fr] ++ optR 68 vv) ∧ Below W.heap.size W wy)
  case first =>
    by_cases hv : vv = []
    · have ev : vv.isEmpty = true := by simpa using hv
      rw [ev]
      have HR := Lib.hid (show [fr] ++ optR 68 vv = [fr] by rw [hv]; simp [optR])
      clear hv ev
      go_wp2
      go_meet
      rw [HR.out]
      exact ⟨O4, B4⟩
    · have ev : vv.isEmpty = false := by simpa using hv
      rw [ev]
      have HR := Lib.hid (show optR 68 vv = [68 :: 61 :: vv] from if_neg hv)
      have hbb : ¬ 9223372036854775807 < 2 + vv.length := by omega
      have HLL := Lib.hid (show ([fr]).length + 1 ≤ 10000000 by simp)
      clear hv ev
      go_wp2_with (at_builtin; refine wpList_append_sout rfl (.tmp 30) (.tmp 33) rfl (O4.alloc _) rfl (68 :: 61 :: vv) wx.heap.size 1 rfl (cell_of_row _ _ 0 _ _ _ (heap_alloc_new wx _)) HLL.out (below_step B4 (alloc_belowR _ _)).size ?_; intro v5 W5 O5 hg5)
      go_meet
      rw [HR.out]
      exact ⟨O5, below_sgrown (below_step B4 (alloc_belowR _ _)) (O4.alloc _) hg5⟩
  case rest =>
  obtain ⟨O6, B6⟩ := hcut
  generalize wc = w6 at *
  clear O4 B4
  obtain rfl : vv = v1 := HVV.out.symm.trans hv1e
  have c2 : w6.cell? ⟨g0, 2, none⟩ = some (.slice A es.length c) := (HXB.out w6 B6).cell 2
  go_upto_region 8 with (fail)
  have HC := Lib.hid hc
  have HHV := Lib.hid hv1e
  have HHV3 := Lib.hid hv3e
  clear c2 hv1e hv3e hc
  go_loopw [3, 38] (fun v iv wr => ∃ (k : Nat) (ss : List (List UInt8)), k ≤ es.length ∧ iv = .int .i64 k ∧ ([fr] ++ optR 68 vv) ++ printMid 0 es = ss ++ printMid k (es.drop k) ∧ ss.length ≤ 2 + 2 * k ∧ SOut W wr v ss ∧ Below W.heap.size W wr) (fun _ iv _ => es.length - (intOf iv).toNat)
  case atStart => exact ⟨0, _, Nat.zero_le _, rfl, rfl, by have := optR_len 68 vv; simp only [List.length_append, List.length_singleton]; omega, O6, B6⟩
  case round =>
    obtain ⟨k, ss, hk, rfl, hss, hsl, O, BW⟩ := hrel
    have HSS := Lib.hid hss
    clear hss
    have h60 : es.length ≤ 60 := HL60.out
    by_cases hlt : k < es.length
    · obtain ⟨b, off, hA, hb, hcl⟩ := (HEn.out wr (below_step HB0.out BW)).get (k := k) hlt
      have HD := Lib.hid (HSS.out.trans (congrArg (ss ++ ·) (printMid_step hlt)))
      have HI : Is_ent wr b (off + k * 20) es[k] := fun j hj => hcl j hj
      have hys := HSM.out _ (List.getElem_mem hlt)
      generalize es[k] = y at *
      subst hA
      have i1 : Has_ent wr b (off + k * 20) := ⟨_, HI⟩
      have i2 : of_ent wr b (off + k * 20) = y := of_ent_eq HI
      have hlt' : (k : Int) < (es.length : Int) := by omega
      have hkc : k < c := by have := HC.out; omega
      clear hcl HI HSS
      go_upto_region 10 with (fail)
      have Y := Blk.new wr y.arr 69
      have B1 := below_step BW (alloc_belowR wr (.cells y.arr 69))
      have O1 := O.alloc (.cells y.arr 69)
      have hne6 := O.ne_new
      clear i1 i2 hb BW O
      generalize wr.alloc _ = w7 at Y B1 O1 ⊢
      generalize wr.heap.size = g6 at Y hne6 ⊢
      have z0 : w7.cell? ⟨g6, 0, none⟩ = some (.bool y.gap) := Y.cell 0
      have z1 : w7.cell? ⟨g6, 1, none⟩ = some (.int .u8 y.leg.ty) := Y.cell 1
      have z2 : w7.cell? ⟨g6, 2, none⟩ = some (.string ⟨y.leg.fix.toArray⟩) := Y.cell 2
      have z18 : w7.cell? ⟨g6, 18, none⟩ = some (.int .u8 y.sec) := Y.cell 18
      have z19 : w7.cell? ⟨g6, 19, none⟩ = some (.string ⟨y.via.toArray⟩) := Y.cell 19
      have ke := Lib.hid (ends_any y.leg.ty w7)
      have HM0 := Lib.hid (fun h => @midOf_no k y h)
      have HM1 := Lib.hid (fun h1 h2 h3 h4 => @midOf_yes k y h1 h2 h3 h4)
      by_cases hk0 : k = 0
      · have e0 : ((k : Int) == 0) = true := by simp; omega
        have HN2 := Lib.hid (HD.out.trans (by rw [HM0.out (.inl hk0), List.nil_append]))
        clear HD HM0 HM1 hk0
        go_wp2
        go_roundw
        case rel => exact ⟨k + 1, ss, by omega, by go_num, HN2.out, by omega, O1, B1⟩
        case measure => simp [intOf]; omega
      have e0 : ((k : Int) == 0) = false := by simp; omega
      cases hg : y.gap with
      | true =>
        have HN2 := Lib.hid (HD.out.trans (by rw [HM0.out (.inr (.inl hg)), List.nil_append]))
        rw [hg] at z0
        clear HD HM0 HM1 hk0 hg
        go_wp2
        go_roundw
        case rel => exact ⟨k + 1, ss, by omega, by go_num, HN2.out, by omega, O1, B1⟩
        case measure => simp [intOf]; omega
      | false =>
      rw [hg] at z0
      by_cases hs2 : y.sec = 2
      rotate_left
      · have e2 : (y.sec != 2) = true := by simpa using hs2
        have HN2 := Lib.hid (HD.out.trans (by rw [HM0.out (.inr (.inr (.inl hs2))), List.nil_append]))
        clear HD HM0 HM1 hk0 hg hs2
        go_wp2
        go_roundw
        case rel => exact ⟨k + 1, ss, by omega, by go_num, HN2.out, by omega, O1, B1⟩
        case measure => simp [intOf]; omega
      have e2 : (y.sec != 2) = false := by simpa using hs2
      cases hen : endsB y.leg.ty with
      | false =>
        rw [hen] at ke
        have HN2 := Lib.hid (HD.out.trans (by rw [HM0.out (.inr (.inr (.inr hen))), List.nil_append]))
        clear HD HM0 HM1 hk0 hg hs2 hen
        go_wp2_with (go_at_call 47; (with_reducible refine callP ke.out ?_))
        go_roundw
        case rel => exact ⟨k + 1, ss, by omega, by go_num, HN2.out, by omega, O1, B1⟩
        case measure => simp [intOf]; omega
      | true =>
      rw [hen] at ke
      have HMY := Lib.hid (HM1.out hk0 hg hs2 hen)
      clear HM0 HM1 hk0 hg hs2 hen
      by_cases hv : y.via = []
      · have ev : (y.via == []) = true := by simpa using hv
        have HN2 := Lib.hid (HD.out.trans (show ss ++ (midOf k y ++ printMid (k + 1) (es.drop (k + 1))) = (ss ++ [y.leg.fix]) ++ printMid (k + 1) (es.drop (k + 1)) by rw [HMY.out, if_pos hv]; simp))
        clear HD HMY hv
        go_wp2_with (first
          | (go_at_call 47; (with_reducible refine callP ke.out ?_))
          | (at_builtin; refine wpList_append_sout rfl (.tmp 69) (.tmp 73) rfl (O1.alloc _) rfl y.leg.fix w7.heap.size 1 rfl (cell_of_row _ _ 0 _ _ _ (heap_alloc_new w7 _)) (by omega) (below_step B1 (alloc_belowR _ _)).size ?_; intro v8 W8 O8 hg8; have B8 := below_sgrown (below_step B1 (alloc_belowR _ _)) (O1.alloc _) hg8))
        go_roundw
        case rel => exact ⟨k + 1, ss ++ [y.leg.fix], by omega, by go_num, HN2.out, by simp only [List.length_append, List.length_singleton]; omega, O8, B8⟩
        case measure => simp [intOf]; omega
      · have ev : (y.via == []) = false := by simpa using hv
        have HN2 := Lib.hid (HD.out.trans (show ss ++ (midOf k y ++ printMid (k + 1) (es.drop (k + 1))) = ((ss ++ [y.via]) ++ [y.leg.fix]) ++ printMid (k + 1) (es.drop (k + 1)) by rw [HMY.out, if_neg hv]; simp))
        have hsl1 : (ss ++ [y.via]).length + 1 ≤ 10000000 := by simp only [List.length_append, List.length_singleton]; omega
        have HYB := Lib.hid Y
        clear HD HMY hv
        go_upto_region 12 with (go_at_call 47; (with_reducible refine callP ke.out ?_))
        go_upto_region 13 with (at_builtin; refine wpList_append_sout rfl (.tmp 64) (.tmp 67) rfl (O1.alloc _) rfl y.via w7.heap.size 1 rfl (cell_of_row _ _ 0 _ _ _ (heap_alloc_new w7 _)) (by omega) (below_step B1 (alloc_belowR _ _)).size ?_; intro v8 W8 O8 hg8)
        have B8 := below_sgrown (below_step B1 (alloc_belowR _ _)) (O1.alloc _) hg8
        have z2' : W8.cell? ⟨g6, 2, none⟩ = some (.string ⟨y.leg.fix.toArray⟩) := World.grownBy.cell hg8 (a := ⟨g6, 2, none⟩) (by rw [World.cell?_alloc_lt w7 _ ⟨g6, 2, none⟩ HYB.out.lt]; exact z2) hne6
        clear z0 z1 z2 z18 z19 ke hg8 O1 B1 HYB
        go_wp2_with (at_builtin; refine wpList_append_sout rfl (.tmp 69) (.tmp 73) rfl (O8.alloc _) rfl y.leg.fix W8.heap.size 1 rfl (cell_of_row _ _ 0 _ _ _ (heap_alloc_new W8 _)) hsl1 (below_step B8 (alloc_belowR _ _)).size ?_; intro v9 W9 O9 hg9; have B9 := below_sgrown (below_step B8 (alloc_belowR _ _)) (O8.alloc _) hg9)
        go_roundw
        case rel => exact ⟨k + 1, (ss ++ [y.via]) ++ [y.leg.fix], by omega, by go_num, HN2.out, by simp only [List.length_append, List.length_singleton]; omega, O9, B9⟩
        case measure => simp [intOf]; omega
    · obtain rfl : k = es.length := by omega
      have hlt' : ¬ (es.length : Int) < (es.length : Int) := by omega
      have HSE := Lib.hid (show ([fr] ++ optR 68 vv) ++ printMid 0 es = ss by rw [HSS.out, List.drop_length]; simp [printMid])
      clear HSS hlt
      go_upto_region 15 with (fail)
      have HHH := Lib.hid hv3
      have i1 : Has_plan wr g0 0 := ⟨_, (HXB.out wr BW).is_plan rfl⟩
      have i2 : of_plan wr g0 0 = (⟨fr, to_, es, act⟩ : Plan).arr A c := of_plan_eq ((HXB.out wr BW).is_plan rfl)
      have kv := Lib.hid (KV.out [3] (some ⟨wr.heap.size, 0, none⟩) 1 1 (wr.alloc (.cells #[.int .u8 3] 67)) (kinds1P wr 3 _) rfl (by omega) (below_step HB0.out (below_step BW (alloc_belowR _ _))))
      obtain ⟨vb, hvb⟩ : ∃ v, viaS [3] es = v := ⟨_, rfl⟩
      have hvl : vb.length ≤ 4000000000 := by rw [← hvb]; exact hv3
      rw [hvb] at kv
      have HVV := Lib.hid hvb
      clear hvb
      go_upto_if 80 with (go_at_call 46; (with_reducible refine callR kv.out ?_); intro wx b4 _ _ _)
      have D4 := below_step (alloc_belowR wr (.cells #[.int .u8 3] 67)) b4
      have O4 := O.below D4
      have B4 := below_step BW D4
      clear i1 i2 kv b4 D4 O BW
      go_cut [3] (fun v wy => SOut W wy v (ss ++ optR 65 vb) ∧ Below W.heap.size W wy)
      case first =>
        by_cases hv : vb = []
        · have ev : vb.isEmpty = true := by simpa using hv
          rw [ev]
          have HR := Lib.hid (show ss ++ optR 65 vb = ss by rw [hv]; simp [optR])
          clear hv ev
          go_wp2
          go_meet
          rw [HR.out]
          exact ⟨O4, B4⟩
        · have ev : vb.isEmpty = false := by simpa using hv
          rw [ev]
          have HR := Lib.hid (show optR 65 vb = [65 :: 61 :: vb] from if_neg hv)
          have hbb : ¬ 9223372036854775807 < 2 + vb.length := by omega
          have HLL := Lib.hid (show (ss).length + 1 ≤ 10000000 by omega)
          clear hv ev
          go_wp2_with (at_builtin; refine wpList_append_sout rfl (.tmp 81) (.tmp 84) rfl (O4.alloc _) rfl (65 :: 61 :: vb) wx.heap.size 1 rfl (cell_of_row _ _ 0 _ _ _ (heap_alloc_new wx _)) HLL.out (below_step B4 (alloc_belowR _ _)).size ?_; intro v5 W5 O5 hg5)
          go_meet
          rw [HR.out]
          exact ⟨O5, below_sgrown (below_step B4 (alloc_belowR _ _)) (O4.alloc _) hg5⟩
      case rest =>
      obtain ⟨O10, B10⟩ := hcut
      generalize wc = w10 at *
      clear O4 B4
      have HV3 := Lib.hid HVV.out
      clear HVV
      have hsl2 : (ss ++ optR 65 vb).length ≤ 3 + 2 * es.length := by have := optR_len 65 vb; simp only [List.length_append]; omega
      obtain ⟨s2, hs2⟩ : ∃ s, ss ++ optR 65 vb = s := ⟨_, rfl⟩
      rw [hs2] at O10 hsl2
      have HS2 := Lib.hid hs2
      clear hs2
      obtain ⟨w3v, hw3v⟩ : ∃ v, v = vb := ⟨_, rfl⟩
      rw [← hw3v] at HS2 HV3
      clear hw3v hvl
      have i1 : Has_plan w10 g0 0 := ⟨_, (HXB.out w10 B10).is_plan rfl⟩
      have i2 : of_plan w10 g0 0 = (⟨fr, to_, es, act⟩ : Plan).arr A c := of_plan_eq ((HXB.out w10 B10).is_plan rfl)
      have kv := Lib.hid (KV.out [4, 5] (some ⟨w10.heap.size, 0, none⟩) 2 2 (w10.alloc (.cells #[.int .u8 4, .int .u8 5] 67)) (kinds2P w10 4 5 _) rfl (by omega) (below_step HB0.out (below_step B10 (alloc_belowR _ _))))
      obtain ⟨vv, hvv⟩ : ∃ v, viaS [4, 5] es = v := ⟨_, rfl⟩
      have hvl : vv.length ≤ 4000000000 := by rw [← hvv]; exact hv4
      rw [hvv] at kv
      have HVV := Lib.hid hvv
      clear hvv
      go_upto_if 90 with (go_at_call 46; (with_reducible refine callR kv.out ?_); intro wx b4 _ _ _)
      have D4 := below_step (alloc_belowR w10 (.cells #[.int .u8 4, .int .u8 5] 67)) b4
      have O4 := O10.below D4
      have B4 := below_step B10 D4
      clear i1 i2 kv b4 D4 O10 B10
      go_cut [3] (fun v wy => SOut W wy v (s2 ++ optR 80 vv) ∧ Below W.heap.size W wy)
      case first =>
        by_cases hv : vv = []
        · have ev : vv.isEmpty = true := by simpa using hv
          rw [ev]
          have HR := Lib.hid (show s2 ++ optR 80 vv = s2 by rw [hv]; simp [optR])
          clear hv ev
          go_wp2
          go_meet
          rw [HR.out]
          exact ⟨O4, B4⟩
        · have ev : vv.isEmpty = false := by simpa using hv
          rw [ev]
          have HR := Lib.hid (show optR 80 vv = [80 :: 61 :: vv] from if_neg hv)
          have hbb : ¬ 9223372036854775807 < 2 + vv.length := by omega
          have HLL := Lib.hid (show (s2).length + 1 ≤ 10000000 by omega)
          clear hv ev
          go_wp2_with (at_builtin; refine wpList_append_sout rfl (.tmp 91) (.tmp 94) rfl (O4.alloc _) rfl (80 :: 61 :: vv) wx.heap.size 1 rfl (cell_of_row _ _ 0 _ _ _ (heap_alloc_new wx _)) HLL.out (below_step B4 (alloc_belowR _ _)).size ?_; intro v5 W5 O5 hg5)
          go_meet
          rw [HR.out]
          exact ⟨O5, below_sgrown (below_step B4 (alloc_belowR _ _)) (O4.alloc _) hg5⟩
      case rest =>
      obtain ⟨O11, B11⟩ := hcut
      generalize wc = w11 at *
      clear O4 B4
      have HV4 := Lib.hid HVV.out
      have HE := Lib.hid (show out = Lib.join ((s2 ++ optR 80 vv) ++ [to_]) [32] by
        rw [HO.out, HHV.out, HSE.out, HV3.out, HS2.out, HV4.out])
      have z1 : w11.cell? ⟨g0, 1, none⟩ = some (.string ⟨to_.toArray⟩) := (HXB.out w11 B11).cell 1
      have hsl3 : (s2 ++ optR 80 vv).length ≤ 4 + 2 * es.length := by have := optR_len 80 vv; simp only [List.length_append]; omega
      have hws : ∀ s ∈ (s2 ++ optR 80 vv) ++ [to_], s.length ≤ 4000000002 := by
        intro s hs
        rcases List.mem_append.1 hs with hs | hs
        · rcases List.mem_append.1 hs with hs | hs
          · rw [← HS2.out] at hs
            rcases List.mem_append.1 hs with hs | hs
            · rw [← HSE.out] at hs
              rcases List.mem_append.1 hs with hs | hs
              · rcases List.mem_append.1 hs with hs | hs
                · obtain rfl : s = fr := by simpa using hs
                  omega
                · exact optR_small (n := 4000000000) (by rw [← HHV.out]; exact hv1) s hs
              · exact Nat.le_trans (HMS.out s hs) (by omega)
            · exact optR_small (n := 4000000000) (by rw [← HV3.out]; exact hv3) s hs
          · exact optR_small (n := 4000000000) hvl s hs
        · obtain rfl : s = to_ := by simpa using hs
          omega
      have HWS := Lib.hid hws
      generalize s2 ++ optR 80 vv = s3 at *
      have KJ := Lib.hid (fun W' v' (O' : SOut W W' v' (s3 ++ [to_])) => show ∃ A' c', v' = .slice A' (s3.length + 1) c' ∧ Calls Tryz.prog 48 #[.slice A' (s3.length + 1) c', .string ⟨#[32]⟩] W' (Ret W' (.string ⟨(Lib.join (s3 ++ [to_]) [32]).toArray⟩)) from by
        obtain ⟨A', c', e', hl', hS'⟩ := O'.form
        rw [show s3.length + 1 = (s3 ++ [to_]).length by simp]
        exact ⟨A', c', e', sjoin_any (s3 ++ [to_]) A' c' [32] W' (by simp) hS' hl' (by simp only [List.length_append, List.length_singleton]; omega) 4000000002 HWS.out (by simp)⟩)
      clear hws
      go_wp2_with (first
        | (at_builtin; refine wpList_append_sout rfl (.tmp 96) (.tmp 99) rfl (O11.alloc _) rfl to_ w11.heap.size 1 rfl (cell_of_row _ _ 0 _ _ _ (heap_alloc_new w11 _)) (by omega) (below_step B11 (alloc_belowR _ _)).size ?_; intro v12 W12 O12 hg12; have B12 := below_sgrown (below_step B11 (alloc_belowR _ _)) (O11.alloc _) hg12; obtain ⟨A12, c12, hv12, kj⟩ := KJ.out _ _ O12; subst hv12; replace kj := Lib.hid kj)
        | (go_at_call 48; (with_reducible refine callR kj.out ?_); intro w13 b13 _ _ _))
      go_ret
      exact Ret.str (by rw [HE.out]) (below_step HB0.out (below_step B12 b13))
end Go.Proofs.YtgoeedohgomodaaGreatDoor
namespace Go.Proofs.YtgoeedohgomodaaGreatDoor
open Go.RowKit Go.Sort
set_option maxRecDepth 100000
def hdrM : Array Value := #[.string ⟨#[]⟩, .int .i64 0, .int .i64 0, .int .i64 0, .int .i64 16920000, .int .i64 (-43920000)]
def dbM (v6 v7 : Value) : Array Value := #[.string ⟨#[]⟩, .int .i64 0, .int .i64 0, .int .i64 0, .int .i64 16920000, .int .i64 (-43920000), v6, v7, .slice none 0 0]
def bposM (parts : Array (Nat × Value)) : Sem Value := Instr.build 30 parts
theorem bposM_fold (parts : Array (Nat × Value)) : Instr.build 30 parts = bposM parts := rfl
theorem run_bposM (w : World) (a b : Int) : (bposM #[(0, .int .i64 a), (1, .int .i64 b)]).run Tryz.prog w = .ok (.agg (Pos.arr ⟨a, b⟩)) w := run_build w _ _ _ (by kernel_rfl)
def bhdrM (parts : Array (Nat × Value)) : Sem Value := Instr.build 32 parts
theorem bhdrM_fold (parts : Array (Nat × Value)) : Instr.build 32 parts = bhdrM parts := rfl
theorem run_bhdrM (w : World) : (bhdrM #[(4, .agg (Pos.arr ⟨16920000, -43920000⟩))]).run Tryz.prog w = .ok (.agg hdrM) w := run_build w _ _ _ (by kernel_rfl)
def bdbM (parts : Array (Nat × Value)) : Sem Value := Instr.build 37 parts
theorem bdbM_fold (parts : Array (Nat × Value)) : Instr.build 37 parts = bdbM parts := rfl
theorem run_bdbM (w : World) : (bdbM #[(0, .agg hdrM)]).run Tryz.prog w = .ok (.agg (dbM (.slice none 0 0) (.slice none 0 0))) w := run_build w _ _ _ (by kernel_rfl)
def fixM (s : List UInt8) (k lon : Int) : FixV := ⟨s, [75, 49], k, 16920000, lon, 0, 0⟩
theorem run_bfixM (w : World) (s : List UInt8) (k lat lon : Int) : (bfix #[(0, .string ⟨s.toArray⟩), (1, .string ⟨#[75, 49]⟩), (2, .int .u8 k), (3, .agg (Pos.arr ⟨lat, lon⟩))]).run Tryz.prog w = .ok (.agg (FixV.arr ⟨s, [75, 49], k, lat, lon, 0, 0⟩)) w := run_build w _ _ _ (by kernel_rfl)
theorem infoA_fixM : (Tryz.prog.info? 84).map (fun i => (i.zero, i.size, i.bytes)) = some (some (.agg noFix.arr), 7, 72) := by kernel_rfl
def bslF (parts : Array (Nat × Value)) : Sem Value := Instr.buildSlice 33 1 parts
theorem bslF_fold (parts : Array (Nat × Value)) : Instr.buildSlice 33 1 parts = bslF parts := rfl
theorem run_bslF (w : World) (x : FixV) : (bslF #[(0, .agg x.arr)]).run Tryz.prog w = .ok (.slice (some ⟨w.heap.size, 0, none⟩) 1 1) (w.alloc (.cells x.arr 84)) := by
  obtain ⟨i0, hi, hz0, hz1, hz2⟩ := info_parts infoA_fixM
  refine run_buildSlice w 33 84 1 #[(0, .agg x.arr)] x.arr i0 _ Tryz.underlying33 hi hz0 (by rw [hz1]; decide) (by rw [hz1]; decide) ?_
  rw [hz1]
  kernel_rfl
def ptsA (a b c : List UInt8 × Int × Int) : Array Value := wptA a ++ wptA b ++ wptA c
def bslA3 (parts : Array (Nat × Value)) : Sem Value := Instr.buildSlice 79 3 parts
theorem bslA3_fold (parts : Array (Nat × Value)) : Instr.buildSlice 79 3 parts = bslA3 parts := rfl
theorem run_bslA3 (w : World) (a b c : List UInt8 × Int × Int) : (bslA3 #[(0, .agg (wptA a)), (1, .agg (wptA b)), (2, .agg (wptA c))]).run Tryz.prog w = .ok (.slice (some ⟨w.heap.size, 0, none⟩) 3 3) (w.alloc (.cells (ptsA a b c) 107)) := by
  obtain ⟨i0, hi, hz0, hz1, hz2⟩ := info_parts infoA_apt
  refine run_buildSlice w 79 107 3 #[(0, .agg (wptA a)), (1, .agg (wptA b)), (2, .agg (wptA c))] (ptsA a b c) i0 _ Tryz.underlying79 hi hz0 (by rw [hz1]; decide) (by rw [hz1]; decide) ?_
  rw [hz1]
  kernel_rfl
theorem ptsA_items {W : World} {g : Nat} {a b c : List UInt8 × Int × Int} (h : Blk W g (ptsA a b c)) : Items W (some ⟨g, 0, none⟩) 4 ([wpt a, wpt b, wpt c].map APt.arr) where
  at_ _ := ⟨g, 0, rfl, h.lt, fun i x hx j hj => by
    rw [Nat.zero_add, h.cell]
    match i, hx with
    | 0, hx =>
      obtain rfl : (wpt a).arr = x := by simpa using hx
      match j, hj with
      | 0, _ | 1, _ | 2, _ | 3, _ => rfl
    | 1, hx =>
      obtain rfl : (wpt b).arr = x := by simpa using hx
      match j, hj with
      | 0, _ | 1, _ | 2, _ | 3, _ => rfl
    | 2, hx =>
      obtain rfl : (wpt c).arr = x := by simpa using hx
      match j, hj with
      | 0, _ | 1, _ | 2, _ | 3, _ => rfl
    | i + 3, hx => simp at hx⟩
theorem one_item {W : World} {g n : Nat} {cs : Array Value} (h : Blk W g cs) (hn : cs.size = n) : Items W (some ⟨g, 0, none⟩) n [cs] where
  at_ _ := ⟨g, 0, rfl, h.lt, fun i x hx j hj => by
    match i, hx with
    | 0, hx =>
      obtain rfl : cs = x := by simpa using hx
      rw [← h.cell]; simp
    | i + 1, hx => simp at hx⟩
def awyM : AwyV := ⟨[86, 50, 51], [⟨[65, 47, 75, 49], -200000, 6000000, 0⟩, ⟨[66, 47, 75, 49], -200000, 6000000, 0⟩, ⟨[67, 47, 75, 49], -200000, 6000000, 0⟩]⟩
theorem run_bawyM (w : World) (g : Nat) : (bawyG #[(0, .string ⟨#[86, 50, 51]⟩), (1, .slice (some ⟨g, 0, none⟩) 3 3)]).run Tryz.prog w = .ok (.agg (awyArr awyM (some ⟨g, 0, none⟩) 3)) w := run_build w _ _ _ (by kernel_rfl)
theorem infoA_awyM : (Tryz.prog.info? 81).map (fun i => (i.zero, i.size, i.bytes)) = some (some (.agg (awyArr noAwy none 0)), 2, 40) := by kernel_rfl
def bslW (parts : Array (Nat × Value)) : Sem Value := Instr.buildSlice 34 1 parts
theorem bslW_fold (parts : Array (Nat × Value)) : Instr.buildSlice 34 1 parts = bslW parts := rfl
theorem run_bslW (w : World) (a : AwyV) (A : Option Addr) (c : Nat) : (bslW #[(0, .agg (awyArr a A c))]).run Tryz.prog w = .ok (.slice (some ⟨w.heap.size, 0, none⟩) 1 1) (w.alloc (.cells (awyArr a A c) 81)) := by
  obtain ⟨i0, hi, hz0, hz1, hz2⟩ := info_parts infoA_awyM
  refine run_buildSlice w 34 81 1 #[(0, .agg (awyArr a A c))] (awyArr a A c) i0 _ Tryz.underlying34 hi hz0 (by rw [hz1]; decide) (by rw [hz1]; decide) ?_
  rw [hz1]
  kernel_rfl
def bwinM (parts : Array (Nat × Value)) : Sem Value := Instr.build 62 parts
theorem bwinM_fold (parts : Array (Nat × Value)) : Instr.build 62 parts = bwinM parts := rfl
theorem run_bwinM (w : World) (a b : Int) : (bwinM #[(0, .int .i64 a), (1, .int .i64 b)]).run Tryz.prog w = .ok (.agg (Win.arr ⟨a, b⟩)) w := run_build w _ _ _ (by kernel_rfl)
def fixesM : List FixV := [fixM [65] 1 (-43820000), fixM [66] 1 (-43720000), fixM [67] 1 (-43620000), fixM [75, 83, 69, 65] 5 (-43920000)]
def gM : GDB := ⟨16920000, -43920000, fixesM, [awyM], []⟩
theorem OnlyB.grown {g : Nat} {W0 W W' : World} {t : TypeId} {n : Nat} {v : Value} {l : List (Array Value)} (o : OnlyB g W0 W) (h : GOut W0.heap.size W t n v l) (hg : W.grownBy W' v.ownBlock) : OnlyB g W0 W' := by
  refine ⟨hg.os.trans o.os, hg.tape.trans o.tape, hg.output.trans o.output, Nat.le_trans o.size hg.size, fun k hk hne => ?_⟩
  refine (hg.block k (Nat.lt_of_lt_of_le hk o.size) fun e => ?_).trans (o.block k hk hne)
  have := (h.own_lt k e.symm).2
  omega
theorem GOut.ne_far {B : Nat} {W W' : World} {t : TypeId} {n : Nat} {v : Value} {l : List (Array Value)} {q : Nat} {cs : Array Value} (h : GOut B W t n v l) (hg : W.grownBy W' v.ownBlock) (b : Blk W q cs) (hq : q < B) : Blk W' q cs := by
  have hl := b.lt
  obtain ⟨ty, e⟩ := b
  exact ⟨ty, (h.grown hg q hq hl).trans e⟩
theorem GOut.setFar {B : Nat} {W : World} {t : TypeId} {n : Nat} {v : Value} {l : List (Array Value)} (h : GOut B W t n v l) (q j : Nat) (hq : q < B) (u : Value) : GOut B (W.setCell ⟨q, j, none⟩ u) t n v l :=
  h.below fun k hk _ => Below.heap_setCell _ _ _ _ (show k ≠ q by omega)
theorem fixM_small : ∀ f ∈ fixesM, f.small := by
  intro f hf
  simp only [fixesM, List.mem_cons, List.not_mem_nil, or_false] at hf
  rcases hf with rfl | rfl | rfl | rfl <;> exact ⟨by decide, by decide⟩
end Go.Proofs.YtgoeedohgomodaaGreatDoor
namespace Go.Proofs.YtgoeedohgomodaaGreatDoor
open Go.RowKit Go.Sort
set_option maxRecDepth 100000
def RetDb (w : World) (e : Ending) (w' : World) : Prop := ∃ d : DBs, e = .returned (.agg d.cells) ∧ GdAt w' d gM ∧ Below w.heap.size w w'
theorem callDb {P : Program} {f : FuncId} {args : Array Value} {W : World} {K : Ending → World → Prop} (h : Calls P f args W (RetDb W))
    (k : ∀ d W', GdAt W' d gM → Below W.heap.size W W' → K (.returned (.agg d.cells)) W') : Calls P f args W K :=
  h.mono fun e W' ⟨d, he, h1, h2⟩ => by subst he; exact k d W' h1 h2
theorem SzIs_dbM (a b : Value) : SzIs (dbM a b) 9 := rfl
theorem Ones_dbM (A B : Option Addr) (n c m e : Nat) : Ones (dbM (.slice A n c) (.slice B m e)) := by simp [Ones, dbM, Value.oneCell']
def dbZ : Array Value := #[.string ⟨#[]⟩, .int .i64 0, .int .i64 0, .int .i64 0, .int .i64 0, .int .i64 0, .slice none 0 0, .slice none 0 0, .slice none 0 0]
theorem Fits_dbZ (o n : Nat) : Fits o n dbZ = (o + n ≤ 9) := propext ⟨fun h => h, fun h => h⟩
theorem splice_dbZ (a b : Value) : splice dbZ 0 (dbM a b) = dbM a b := rfl
theorem dbM_set6 (a b v : Value) : (dbM a b).setIfInBounds 6 v = dbM v b := rfl
theorem dbM_set7 (a b v : Value) : (dbM a b).setIfInBounds 7 v = dbM a v := rfl
def wsM : List (List UInt8) := [[65], [66], [67]]
theorem take_fixM {k : Nat} (h : k < 3) {x : List UInt8} (hx : wsM[k]? = some x) : fixesM.take (k + 1) = fixesM.take k ++ [fixM x 1 (-43920000 + ((k : Int) + 1) * 100000)] := by
  match k, h with
  | 0, _ => obtain rfl : [65] = x := by simpa [wsM] using hx
            rfl
  | 1, _ => obtain rfl : [66] = x := by simpa [wsM] using hx
            rfl
  | 2, _ => obtain rfl : [67] = x := by simpa [wsM] using hx
            rfl
theorem fixArrs (l : List FixV) : ∀ y ∈ l.map FixV.arr, y.size = 7 := fun y hy => by obtain ⟨f, _, rfl⟩ := List.mem_map.1 hy; rfl
attribute [local go_sem ↓] bposM_fold bhdrM_fold bdbM_fold bfix_fold bslF_fold bslA3_fold bawyG_fold bslW_fold bwinM_fold baptG_fold
attribute [local go_sem] run_bposM run_bhdrM run_bdbM run_bfixM run_bslF run_bslA3 run_bawyM run_bslW run_bwinM run_baptG SzIs_dbM Ones_dbM Fits_dbZ splice_dbZ
set_option maxHeartbeats 8000000 in
theorem small22_any (w : World) : Calls Tryz.prog 28 #[] w (RetDb w) := by
  go_enter Tryz.func28, Tryz.ntmps28
  go_upto_region 1 with (fail)
  have Z0 : Blk (w.alloc (.cells #[.string ⟨#[]⟩, .int .i64 0, .int .i64 0, .int .i64 0, .int .i64 0, .int .i64 0, .slice none 0 0, .slice none 0 0, .slice none 0 0] 37)) w.heap.size dbZ := Blk.new w _ _
  have B0 := alloc_belowR w (.cells #[.string ⟨#[]⟩, .int .i64 0, .int .i64 0, .int .i64 0, .int .i64 0, .int .i64 0, .slice none 0 0, .slice none 0 0, .slice none 0 0] 37)
  generalize w.alloc _ = W0 at Z0 B0 ⊢
  obtain ⟨q0, hq0⟩ : ∃ q, q = w.heap.size := ⟨_, rfl⟩
  rw [← hq0] at Z0 ⊢
  have hq0w : w.heap.size ≤ q0 := by omega
  clear hq0
  go_upto_region 2 with (fail)
  have X1 := Blk.new W0 (dbM (.slice none 0 0) (.slice none 0 0)) 37
  have D1 := alloc_belowR W0 (.cells (dbM (.slice none 0 0) (.slice none 0 0)) 37)
  have Z1 := Z0.step D1
  have B1 := below_step B0 D1
  have hlt0 := Z0.lt
  have hsz0 := B0.size
  generalize hw1 : World.alloc W0 _ = W1
  have hw1' : W0.alloc (.cells (dbM (.slice none 0 0) (.slice none 0 0)) 37) = W1 := hw1
  rw [hw1'] at X1 Z1 B1
  clear hw1 hw1' D1 Z0 B0
  obtain ⟨q1, hq1⟩ : ∃ q, q = W0.heap.size := ⟨_, rfl⟩
  rw [← hq1] at X1 ⊢
  have hq01 : q0 ≠ q1 := by omega
  have hq1w : w.heap.size ≤ q1 := by omega
  clear hq1 hlt0 hsz0
  go_upto_region 3 with (fail)
  have S2 : ∀ k x, wsM[k]? = some x → (W1.alloc (.cells #[.string ⟨#[65]⟩, .string ⟨#[66]⟩, .string ⟨#[67]⟩] 9)).cell? ⟨W1.heap.size, k, none⟩ = some (.string ⟨x.toArray⟩) := by
    intro k x hx
    rw [cell_of_row _ _ k _ 9 (0, 0) (heap_alloc_new W1 _)]
    match k, hx with
    | 0, hx => obtain rfl : [65] = x := by simpa [wsM] using hx
               rfl
    | 1, hx => obtain rfl : [66] = x := by simpa [wsM] using hx
               rfl
    | 2, hx => obtain rfl : [67] = x := by simpa [wsM] using hx
               rfl
    | k + 3, hx => simp [wsM] at hx
  have D2 := alloc_belowR W1 (.cells #[.string ⟨#[65]⟩, .string ⟨#[66]⟩, .string ⟨#[67]⟩] 9)
  have X2 := X1.step D2
  have Z2 := Z1.step D2
  have B2 := below_step B1 D2
  have hqs : W1.heap.size < (W1.alloc (.cells #[.string ⟨#[65]⟩, .string ⟨#[66]⟩, .string ⟨#[67]⟩] 9)).heap.size := by simp
  have hq1s := X1.lt
  clear X1 Z1 B1 D2
  generalize hw2 : World.alloc W1 _ = W2
  have hw2' : W1.alloc (.cells #[.string ⟨#[65]⟩, .string ⟨#[66]⟩, .string ⟨#[67]⟩] 9) = W2 := hw2
  rw [hw2'] at S2 X2 Z2 B2 hqs
  clear hw2 hw2'
  generalize W1.heap.size = sb at S2 hqs hq1s ⊢
  have HS := Lib.hid (fun W' (o : OnlyB q1 W2 W') k x (hx : wsM[k]? = some x) => show W'.cell? ⟨sb, k, none⟩ = some (.string ⟨x.toArray⟩) by
    rw [World.cell?_of_block (w := W2) (o.block sb hqs (by omega))]; exact S2 k x hx)
  have hq1W := X2.lt
  have HX2 := Lib.hid X2
  have HZ2 := Lib.hid Z2
  have HB2 := Lib.hid B2
  clear S2 X2 Z2 B2
  go_loopw [10] (fun iv wr => ∃ (k : Nat) (v : Value), k ≤ 3 ∧ iv = .int .i64 k ∧ Blk wr q1 (dbM v (.slice none 0 0)) ∧ GOut W2.heap.size wr 84 7 v ((fixesM.take k).map FixV.arr) ∧ OnlyB q1 W2 wr) (fun iv _ => 3 - (intOf iv).toNat)
  case atStart => exact ⟨0, _, by omega, rfl, HX2.out, GOut.nil _ _ _ _, OnlyB.refl _ _⟩
  case round =>
    obtain ⟨k, v, hk, rfl, X, O, OB⟩ := hrel
    by_cases hlt : k < 3
    · obtain ⟨x, hx⟩ : ∃ x, wsM[k]? = some x := ⟨_, List.getElem?_eq_getElem (show k < wsM.length from hlt)⟩
      have hs := HS.out wr OB k x hx
      have HT := Lib.hid (take_fixM hlt hx)
      have c6 : wr.cell? ⟨q1, 6, none⟩ = some v := X.cell 6
      have f6 := X.frozen 6
      have hlt' : (k : Int) < 3 := by omega
      have hk0 : (0 : Int) ≤ (k : Int) := by omega
      have HXX := Lib.hid X
      have HO := Lib.hid O
      have HOB := Lib.hid OB
      have hll : ((fixesM.take k).map FixV.arr).length ≤ 4 := by rw [List.length_map]; exact Nat.le_trans (List.length_take_le' _ _) (by decide)
      have HLN := Lib.hid (show ((fixesM.take k).map FixV.arr ++ [(fixM x 1 (-43920000 + ((k : Int) + 1) * 100000)).arr]).length = k + 1 by simp [fixesM]; omega)
      clear hx X O OB
      go_wp2_with (at_builtin; refine wpList_append_item rfl (.tmp 16) (.tmp 24) _ 84 7 72 _ infoA_fixM rfl (by omega) Tryz.underlying33 rfl (HO.out.alloc _) rfl (fixM x 1 (-43920000 + ((k : Int) + 1) * 100000)).arr wr.heap.size 1 (FixV.arr_size _) (FixV.arr_one _) rfl (Blk.new wr _ _).cell (by unfold maxLen; omega) (by omega) (by have := HOB.out.size; simp; omega) ?_; intro v5 W5 O5 g5; obtain ⟨A5, c5, hv5⟩ := O5.len; rw [HLN.out] at hv5; subst hv5; have X5 := GOut.ne_far (HO.out.alloc _) g5 (HXX.out.alloc _) hq1W; have f5 := X5.frozen 6; have e5 : W5.cell? ⟨q1, 6, none⟩ = some v := X5.cell 6; have OB5 := ((HOB.out.trans (OnlyB.of (alloc_belowR _ _))).grown (HO.out.alloc _) g5))
      go_roundw
      case rel => exact ⟨k + 1, _, by omega, by go_num, X5.setCell 6 _, by rw [HT.out, List.map_append]; exact O5.setFar q1 6 hq1W _, OB5.trans (OnlyB.setCell _ _ _ _)⟩
      case measure => simp [intOf]; omega
    · obtain rfl : k = 3 := by omega
      have c6 : wr.cell? ⟨q1, 6, none⟩ = some v := X.cell 6
      have f6 := X.frozen 6
      have i1 : Has_pos wr q1 4 := ⟨⟨16920000, -43920000⟩, fun j hj => by match j, hj with | 0, _ => exact X.cell 4 | 1, _ => exact X.cell 5⟩
      have i2 : of_pos wr q1 4 = ⟨16920000, -43920000⟩ := of_pos_eq (fun j hj => by match j, hj with | 0, _ => exact X.cell 4 | 1, _ => exact X.cell 5)
      have HXX := Lib.hid X
      have HO := Lib.hid O
      have HOB := Lib.hid OB
      have HLN := Lib.hid (show ((fixesM.take 3).map FixV.arr ++ [(fixM [75, 83, 69, 65] 5 (-43920000)).arr]).length = 4 from rfl)
      clear X O OB hlt
      go_upto_region 8 with (at_builtin; refine wpList_append_item rfl (.tmp 29) (.tmp 34) _ 84 7 72 _ infoA_fixM rfl (by omega) Tryz.underlying33 rfl (HO.out.alloc _) rfl (fixM [75, 83, 69, 65] 5 (-43920000)).arr wr.heap.size 1 (FixV.arr_size _) (FixV.arr_one _) rfl (Blk.new wr _ _).cell (by rw [List.length_map]; unfold maxLen; decide) (by rw [List.length_map]; decide) (by have := HOB.out.size; simp; omega) ?_; intro v5 W5 O5 g5; obtain ⟨A5, c5, hv5⟩ := O5.len; rw [HLN.out] at hv5; subst hv5; have X5 := GOut.ne_far (HO.out.alloc _) g5 (HXX.out.alloc _) hq1W; have f5 := X5.frozen 6; have e5 : W5.cell? ⟨q1, 6, none⟩ = some v := X5.cell 6; have OB5 := ((HOB.out.trans (OnlyB.of (alloc_belowR _ _))).grown (HO.out.alloc _) g5))
      have X6 := X5.setCell 6 (.slice A5 4 c5)
      rw [dbM_set6] at X6
      have O6 := O5.setFar q1 6 hq1W (.slice A5 4 c5)
      have OB6 := OB5.trans (OnlyB.setCell q1 6 W5 (.slice A5 4 c5))
      clear HX2 HO HOB HXX c6 f6 i1 i2 g5 O5 X5 OB5 e5 f5 HS
      generalize W5.setCell _ _ = W6 at X6 O6 OB6 ⊢
      go_upto_region 9 with (fail)
      have Y4 := Blk.new W6 (Win.arr ⟨-200000, 6000000⟩) 62
      have D7 := alloc_belowR W6 (.cells (Win.arr ⟨-200000, 6000000⟩) 62)
      have X7 := X6.step D7
      have O7 := O6.step D7
      have OB7 := OB6.trans (OnlyB.of D7)
      clear X6 O6 OB6
      generalize hw7 : World.alloc W6 _ = W7
      have hw7' : W6.alloc (.cells (Win.arr ⟨-200000, 6000000⟩) 62) = W7 := hw7
      rw [hw7'] at Y4 X7 O7 OB7
      clear hw7 hw7' D7
      generalize W6.heap.size = q4 at Y4 ⊢
      have i1 : Has_win W7 q4 0 := ⟨_, Y4.is_win⟩
      have i2 : of_win W7 q4 0 = ⟨-200000, 6000000⟩ := of_win_eq Y4.is_win
      obtain ⟨aw, haw⟩ : ∃ aw, aw = awyArr awyM (some ⟨W7.heap.size, 0, none⟩) 3 := ⟨_, rfl⟩
      obtain ⟨pts, hpts⟩ : ∃ p, p = ptsA ([65, 47, 75, 49], -200000, 6000000) ([66, 47, 75, 49], -200000, 6000000) ([67, 47, 75, 49], -200000, 6000000) := ⟨_, rfl⟩
      have e7 : W7.cell? ⟨q1, 7, none⟩ = some (.slice none 0 0) := X7.cell 7
      have f7 := X7.frozen 7
      have hs7 : q1 < W7.heap.size := X7.lt
      have hs8 := OB7.size
      have hs9 := HZ2.out.lt
      have hsz : (W7.setCell ⟨q1, 7, none⟩ (.slice (some ⟨W7.heap.size + 1, 0, none⟩) 1 1)).heap.size = W7.heap.size := by simp [World.setCell]
      have S7 := X7.setCell 7 (.slice (some ⟨W7.heap.size + 1, 0, none⟩) 1 1)
      rw [dbM_set7] at S7
      have X9 := (S7.alloc (.cells pts 107)).alloc (.cells aw 81)
      have P9 := (Blk.new (W7.setCell ⟨q1, 7, none⟩ (.slice (some ⟨W7.heap.size + 1, 0, none⟩) 1 1)) pts 107).alloc (.cells aw 81)
      have A9 := Blk.new ((W7.setCell ⟨q1, 7, none⟩ (.slice (some ⟨W7.heap.size + 1, 0, none⟩) 1 1)).alloc (.cells pts 107)) aw 81
      rw [World.size_alloc, hsz] at A9
      rw [hsz] at P9
      have O9 := ((O7.setFar q1 7 hq1W (.slice (some ⟨W7.heap.size + 1, 0, none⟩) 1 1)).alloc (.cells pts 107)).alloc (.cells aw 81)
      have OB9 := ((OB7.trans (OnlyB.setCell q1 7 W7 (.slice (some ⟨W7.heap.size + 1, 0, none⟩) 1 1))).trans (OnlyB.of (alloc_belowR _ (.cells pts 107)))).trans (OnlyB.of (alloc_belowR _ (.cells aw 81)))
      have HAW := Lib.hid haw
      have HPT := Lib.hid hpts
      have HX9 := Lib.hid X9
      have HP9 := Lib.hid P9
      have HA9 := Lib.hid A9
      have HO9 := Lib.hid O9
      have HOB9 := Lib.hid OB9
      clear X7 O7 OB7 haw hpts S7 X9 P9 A9 O9 OB9 hsz
      go_upto_region 10 with (fail)
      rw [← HAW.out, ← HPT.out]
      clear e7 f7
      have X9 := HX9.out
      have P9 := HP9
      have A9 := HA9
      have O9 := HO9
      have OB9 := HOB9
      clear HX9 HP9 HA9 HO9 HOB9
      generalize World.alloc (World.alloc _ _) _ = W9 at X9 P9 A9 O9 OB9 ⊢
      have h7 : q0 < W7.heap.size := by omega
      have h27 : W2.heap.size ≤ W7.heap.size := hs8
      obtain ⟨gp, hgp⟩ : ∃ g, g = W7.heap.size := ⟨_, rfl⟩
      rw [← hgp] at X9 P9 A9 h7 HAW h27 ⊢
      clear hs8 hs7 hgp
      have Z9 := HZ2.out.only OB9.out hq01
      have d2 := Z9.plain
      have d3 := Z9.of
      have j1 : Has_db W9 q1 0 := ⟨_, X9.is_db rfl⟩
      have j2 : of_db W9 q1 0 = dbM (.slice A5 4 c5) (.slice (some ⟨gp + 1, 0, none⟩) 1 1) := of_db_eq (X9.is_db rfl)
      have B9 := OB9.out.below HB2.out hq1w
      have O10 := O9.out.below (W' := W9.setRow q0 (dbM (.slice A5 4 c5) (.slice (some ⟨gp + 1, 0, none⟩) 1 1))) (fun k hk _ => setRow_other W9 q0 k _ (by omega))
      have P10 := P9.out.far (g' := q0) (by omega) (dbM (.slice A5 4 c5) (.slice (some ⟨gp + 1, 0, none⟩) 1 1))
      have A10 := A9.out.far (g' := q0) (by omega) (dbM (.slice A5 4 c5) (.slice (some ⟨gp + 1, 0, none⟩) 1 1))
      have HZ9 := Lib.hid Z9
      have HB9 := Lib.hid B9
      have HO10 := Lib.hid O10
      have HP10 := Lib.hid P10
      have HA10 := Lib.hid A10
      clear X9 O10 P10 A10 Z9 B9 P9 A9 O9
      go_wp2
      refine bodyPost_ret (results_agg1 Tryz.results28 _ _ q0 (dbM (.slice A5 4 c5) (.slice (some ⟨gp + 1, 0, none⟩) 1 1)) 9 _ rfl rfl (HZ9.out.set _).cell Tryz.underlying37 rfl info_db) rfl ⟨⟨dbM (.slice A5 4 c5) (.slice (some ⟨gp + 1, 0, none⟩) 1 1), 16920000, -43920000, A5, 4, c5⟩, rfl, ?_, below_setRow' HB9.out hq0w _⟩
      obtain ⟨A3, c3, e3, hl3, hI3, _, _⟩ := HO10.out.form (fun y hy => (List.mem_append.1 hy).elim (fixArrs _ y) (fun h => by rw [List.mem_singleton.1 h]; rfl))
      rw [HLN.out] at e3 hl3
      injection e3 with e4 e5 e6
      subst e4
      subst e6
      refine ⟨⟨⟨rfl, rfl, rfl, rfl⟩, rfl, hl3, hI3, by decide, fixM_small⟩, rfl, rfl, ⟨some ⟨gp + 1, 0, none⟩, 1, rfl, Nat.le_refl _, ⟨⟨[aw], rfl, one_item HA10.out (by rw [HAW.out]; rfl), ?_⟩⟩⟩, ⟨none, 0, rfl, Nat.le_refl _, ⟨⟨[], rfl, Items.nil _ _ _, fun i cs x h => by simp at h⟩⟩⟩, by decide, by decide, ?_, fun p hp => by cases hp⟩
      · intro i cs x hcs hx
        match i, hcs, hx with
        | 0, hcs, hx =>
          obtain rfl : aw = cs := by simpa using hcs
          obtain rfl : awyM = x := by simpa [gM] using hx
          exact ⟨⟨some ⟨gp, 0, none⟩, 3, HAW.out, Nat.le_refl _, ptsA_items (by have := HP10.out; rw [HPT.out] at this; exact this)⟩⟩
        | i + 1, hcs, hx => simp at hcs
      · intro a ha
        obtain rfl : a = awyM := by simpa [gM] using ha
        exact ⟨by decide, by decide, fun p hp => by
          simp only [awyM, List.mem_cons, List.not_mem_nil, or_false] at hp
          rcases hp with rfl | rfl | rfl <;> decide⟩
end Go.Proofs.YtgoeedohgomodaaGreatDoor
namespace Go.Proofs.YtgoeedohgomodaaGreatDoor
open Go.RowKit Go.Sort
set_option maxRecDepth 100000
def s22a : List UInt8 := [75, 83, 69, 65, 47, 82, 87, 49, 54, 76, 32, 68, 61, 83, 85, 77, 77, 65, 50, 46, 66, 84, 71, 32, 86, 50, 51, 32, 66, 84, 71, 47, 75, 49, 32, 75, 80, 68, 88]
def s22b : List UInt8 := [75, 83, 69, 65]
def s22c : List UInt8 := [75, 83, 69, 65, 32, 68, 61, 65, 32, 66, 84, 71, 32, 68, 61, 66, 32, 75, 80, 68, 88]
def s22d : List UInt8 := [75, 83, 69, 65, 32, 32, 75, 80, 68, 88]
def s22e : List UInt8 := [75, 83, 69, 65, 32, 65, 47, 75, 49, 32, 86, 50, 51, 32, 67, 32, 75, 83, 69, 65]
def s22f : List UInt8 := [75, 83, 69, 65, 32, 65, 47, 75, 49, 32, 86, 50, 51, 32, 66, 47, 75, 49, 32, 86, 50, 51, 32, 67, 47, 75, 49, 32, 75, 83, 69, 65, 47, 75, 49, 32, 75, 83, 69, 65]
def l22a : List ItemV := [⟨1, [75, 83, 69, 65], [82, 87, 49, 54, 76]⟩, ⟨2, [83, 85, 77, 77, 65, 50], [66, 84, 71]⟩, ⟨3, [86, 50, 51], []⟩, ⟨4, [66, 84, 71, 47, 75, 49], []⟩, ⟨8, [75, 80, 68, 88], []⟩]
def leg22 (t : Int) (f : List UInt8) : Leg := ⟨t, f, [], 0, false, 0, 0, 0, 0, -200000, 6000000, 0, 0⟩
def p22 : Plan := ⟨[75, 83, 69, 65], [75, 83, 69, 65],
  [⟨false, leg22 1 [75, 83, 69, 65, 47, 75, 49], 0, 0, 0, 0, 2, []⟩, ⟨false, leg22 2 [65, 47, 75, 49], 68200, 121, 0, 0, 2, []⟩, ⟨false, leg22 2 [66, 47, 75, 49], 136401, 484, 0, 0, 2, [86, 50, 51]⟩,
   ⟨false, leg22 2 [67, 47, 75, 49], 204602, 1088, 0, 0, 2, [86, 50, 51]⟩, ⟨false, leg22 2 [75, 83, 69, 65, 47, 75, 49], 0, 0, 0, 0, 2, []⟩], -1⟩
theorem aw22_a : routeParse s22a = ((l22a, 0), 0) := by kernel_rfl
theorem aw22_b : routeParse s22b = (([], 1), 4) := by kernel_rfl
theorem aw22_c : routeParse s22c = (([], 3), 9) := by kernel_rfl
theorem aw22_d : routeParse s22d = (([], 1), 4) := by kernel_rfl
theorem aw22_e : expandS (lookR gM) s22e = ((p22, 0), 0) := by kernel_rfl
theorem aw22_f : printS p22 = s22f := by kernel_rfl
theorem gM_short : gM.short := by
  refine ⟨?_, ?_, fun p hp => by cases hp⟩
  · intro f hf
    have := fixM_small f hf
    simp only [gM, fixesM, List.mem_cons, List.not_mem_nil, or_false] at hf
    rcases hf with rfl | rfl | rfl | rfl <;> exact ⟨by decide, by decide⟩
  · intro a ha p hp
    obtain rfl : a = awyM := by simpa [gM] using ha
    simp only [awyM, List.mem_cons, List.not_mem_nil, or_false] at hp
    rcases hp with rfl | rfl | rfl <;> decide
theorem p22_small : p22.small := by
  refine ⟨by decide, by decide, by decide, ?_⟩
  intro x hx
  simp only [p22, List.mem_cons, List.not_mem_nil, or_false] at hx
  rcases hx with rfl | rfl | rfl | rfl | rfl <;> exact ⟨⟨by decide, by decide⟩, by decide⟩
attribute [local go_sem ↓] bitm_fold run_neq_itm
attribute [local go_sem] run_bitm3 s22f
set_option maxHeartbeats 2000000 in
theorem awake22_any (w : World) (hL : Laid w) : Calls Tryz.prog 10 #[] w (Ret w (.bool true)) := by
  have ka := Lib.hid (fun W (b : Below w.heap.size w W) => show Calls Tryz.prog 11 #[.string ⟨#[75, 83, 69, 65, 47, 82, 87, 49, 54, 76, 32, 68, 61, 83, 85, 77, 77, 65, 50, 46, 66, 84, 71, 32, 86, 50, 51, 32, 66, 84, 71, 47, 75, 49, 32, 75, 80, 68, 88]⟩] W (RetItms W ((l22a, 0), 0)) from aw22_a ▸ rparse_any s22a (by decide) W (hL.below b))
  have kb := Lib.hid (fun W (b : Below w.heap.size w W) => show Calls Tryz.prog 11 #[.string ⟨#[75, 83, 69, 65]⟩] W (RetItms W (([], 1), 4)) from aw22_b ▸ rparse_any s22b (by decide) W (hL.below b))
  have kc := Lib.hid (fun W (b : Below w.heap.size w W) => show Calls Tryz.prog 11 #[.string ⟨#[75, 83, 69, 65, 32, 68, 61, 65, 32, 66, 84, 71, 32, 68, 61, 66, 32, 75, 80, 68, 88]⟩] W (RetItms W (([], 3), 9)) from aw22_c ▸ rparse_any s22c (by decide) W (hL.below b))
  have kd := Lib.hid (fun W (b : Below w.heap.size w W) => show Calls Tryz.prog 11 #[.string ⟨#[75, 83, 69, 65, 32, 32, 75, 80, 68, 88]⟩] W (RetItms W (([], 1), 4)) from aw22_d ▸ rparse_any s22d (by decide) W (hL.below b))
  have ke := Lib.hid (fun (d : DBs) W (b : Below w.heap.size w W) (hD : GdAt W d gM) => show Calls Tryz.prog 17 #[.agg d.cells, .string ⟨#[75, 83, 69, 65, 32, 65, 47, 75, 49, 32, 86, 50, 51, 32, 67, 32, 75, 83, 69, 65]⟩] W (RetEx W ((p22, 0), 0)) from aw22_e ▸ rexpand_any d gM s22e (by decide) W (hL.below b) hD gM_short)
  have kf := Lib.hid (fun A c W (b : Below w.heap.size w W) (hc : p22.es.length ≤ c) (hE : Ents W A p22.es) => show Calls Tryz.prog 20 #[.agg (p22.arr A c)] W (Ret W (.string ⟨s22f.toArray⟩)) from aw22_f ▸ rprint_any p22 A c W (hL.below b) p22_small hc hE)
  clear hL
  go_enter Tryz.func10, Tryz.ntmps10
  go_upto_region 2 with (go_at_call 11; (with_reducible refine callItms (ka.out _ (Below.refl _ _)) ?_); intro A1 c1 w1 hc1 I1 _ b1)
  obtain ⟨b, off, hA, _, hcl⟩ := I1.get (k := 0) (by decide)
  have HI : ∀ k (h : k < l22a.length), Is_itm w1 b (off + k * 3) l22a[k] := fun k h => by
    obtain ⟨b', off', hA', _, hIs⟩ := I1.itm h
    rw [hA] at hA'
    injection hA' with e
    injection e with e1 e2
    subst e1
    subst e2
    exact hIs w1 (Below.refl _ _)
  subst hA
  have hl5 : l22a.length = 5 := rfl
  rw [hl5] at hc1 ⊢
  have i1 : Has_itm w1 b (off + 3) := ⟨_, HI 1 (by decide)⟩
  have i2 : of_itm w1 b (off + 3) = ⟨2, [83, 85, 77, 77, 65, 50], [66, 84, 71]⟩ := of_itm_eq (HI 1 (by decide))
  have i3 : w1.cell? ⟨b, off + 6, none⟩ = some (.int .u8 3) := HI 2 (by decide) 0 (by decide)
  have i4 : w1.cell? ⟨b, off + 9, none⟩ = some (.int .u8 4) := HI 3 (by decide) 0 (by decide)
  have hq : ItemV.eqB ⟨2, [83, 85, 77, 77, 65, 50], [66, 84, 71]⟩ ⟨2, [83, 85, 77, 77, 65, 50], [66, 84, 71]⟩ = true := by decide
  have hn1 : (1 : Nat) < c1 := by omega
  have hn2 : (2 : Nat) < c1 := by omega
  have hn3 : (3 : Nat) < c1 := by omega
  have B1 := Lib.hid b1
  clear HI hcl I1 b1 hl5
  go_upto_region 9 with (first
    | (go_at_call 11; (with_reducible refine callItms (kb.out _ B1.out) ?_); intro A2 c2 w2 _ _ _ b2)
    | (go_at_call 11; (with_reducible refine callItms (kc.out _ (below_step B1.out b2)) ?_); intro A3 c3 w3 _ _ _ b3)
    | (go_at_call 11; (with_reducible refine callItms (kd.out _ (below_step (below_step B1.out b2) b3)) ?_); intro A4 c4 w4 _ _ _ b4))
  have B4 := Lib.hid (below_step (below_step (below_step B1.out b2) b3) b4)
  clear i1 i2 i3 i4 hq hn1 hn2 hn3 b2 b3 b4 B1 hc1
  go_upto_region 10 with (first
    | (go_at_call 28; (with_reducible refine callDb (small22_any _) ?_); intro d w5 D5 b5)
    | (go_at_call 17; (with_reducible refine callEx (ke.out d _ (below_step B4.out b5) D5) ?_); intro A6 c6 w6 hc6 E6 b6))
  have bA := alloc_belowR w6 (.cells (p22.arr A6 c6) 43)
  have Q := Blk.new w6 (p22.arr A6 c6) 43
  have E7 := E6.below (B := 0) bA
  have B7 := Lib.hid (below_step (below_step (below_step B4.out b5) b6) bA)
  clear b5 b6 bA D5 E6 B4
  generalize hw7 : World.alloc w6 _ = w7
  have hw7' : w6.alloc (.cells (p22.arr A6 c6) 43) = w7 := hw7
  rw [hw7'] at Q E7 B7
  clear hw7 hw7'
  generalize w6.heap.size = gq at Q ⊢
  have i1 : Has_plan w7 gq 0 := ⟨_, Q.is_plan rfl⟩
  have i2 : of_plan w7 gq 0 = p22.arr A6 c6 := of_plan_eq (Q.is_plan rfl)
  have kp := Lib.hid (kf.out A6 c6 w7 B7.out hc6 E7)
  have hc5 : 5 ≤ c6 := hc6
  have c2 : w7.cell? ⟨gq, 2, none⟩ = some (.slice A6 5 c6) := Q.cell 2
  obtain ⟨bl, ol, hL, hbl, hc3⟩ := E7.get (k := 3) (by decide)
  obtain ⟨bl', ol', hL', _, hc4⟩ := E7.get (k := 4) (by decide)
  rw [hL] at hL'
  injection hL' with e
  injection e with e1 e2
  subst e1
  subst e2
  subst hL
  have k1 : w7.cell? ⟨bl, ol + 60 + 1 + 1, none⟩ = some (.string ⟨#[67, 47, 75, 49]⟩) := hc3 2 (by decide)
  have k2 : w7.cell? ⟨bl, ol + 60 + 19, none⟩ = some (.string ⟨#[86, 50, 51]⟩) := hc3 19 (by decide)
  have k3 : w7.cell? ⟨bl, ol + 80 + 1 + 1, none⟩ = some (.string ⟨#[75, 83, 69, 65, 47, 75, 49]⟩) := hc4 2 (by decide)
  have k1' : w7.cell? ⟨bl, ol + 62, none⟩ = some (.string ⟨#[67, 47, 75, 49]⟩) := hc3 2 (by decide)
  have k2' : w7.cell? ⟨bl, ol + 79, none⟩ = some (.string ⟨#[86, 50, 51]⟩) := hc3 19 (by decide)
  have k3' : w7.cell? ⟨bl, ol + 82, none⟩ = some (.string ⟨#[75, 83, 69, 65, 47, 75, 49]⟩) := hc4 2 (by decide)
  clear hc3 hc4 hbl E7 hc6 Q
  go_wp2_with (go_at_call 20; (with_reducible refine callR kp.out ?_); intro w8 b8 _ _ _)
  go_ret
  exact Ret.bool rfl (below_step B7.out b8)
end Go.Proofs.YtgoeedohgomodaaGreatDoor
