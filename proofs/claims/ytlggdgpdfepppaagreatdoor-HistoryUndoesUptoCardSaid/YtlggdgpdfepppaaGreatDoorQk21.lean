/- States and histories in memory: their cells, the lists of states, what a method leaves. Printed by wip/mkhism.py. -/
import Derived.Test.YtlggdgpdfepppaaGreatDoorQk18
import Derived.Test.YtlggdgpdfepppaaGreatDoorQk19
import Derived.Test.YtlggdgpdfepppaaGreatDoorQk20
import Derived.Test.YtlggdgpdfepppaaGreatDoorQk02
import Derived.Test.YtlggdgpdfepppaaGreatDoorQk03
import Derived.Deep.MidRow
import Derived.Deep.WholeRow
import Derived.Deep.Light
namespace Go.Proofs.YtlggdgpdfepppaaGreatDoor
open Go.RowKit
set_option linter.unusedVariables false
set_option linter.unusedSimpArgs false
theorem info_st : (Tryz.prog.info? 87).map (·.size) = some 5 := by kernel_rfl
def Is_st (w : World) (b o : Nat) (x : Array Value) : Prop := x.size = 5 ∧ ∀ j, j < 5 → w.cell? ⟨b, o + j, none⟩ = x[j]?
def Has_st (w : World) (b o : Nat) : Prop := ∃ x, Is_st w b o x
open Classical in
noncomputable def of_st (w : World) (b o : Nat) : Array Value := if h : Has_st w b o then h.choose else #[]
theorem of_st_spec {w : World} {b o : Nat} (h : Has_st w b o) : Is_st w b o (of_st w b o) := by
  unfold of_st
  rw [dif_pos h]
  exact h.choose_spec
theorem of_st_eq {w : World} {b o : Nat} {x : Array Value} (h : Is_st w b o x) : of_st w b o = x := by
  have hs := of_st_spec ⟨x, h⟩
  apply Array.ext_getElem?
  intro j
  rcases Nat.lt_or_ge j 5 with hj | hj
  · exact (hs.2 j hj).symm.trans (h.2 j hj)
  · rw [Array.getElem?_eq_none (by rw [hs.1]; exact hj), Array.getElem?_eq_none (by rw [h.1]; exact hj)]
theorem of_st_drewN (w : World) (b o n : Nat) : of_st (w.drewN n) b o = of_st w b o := rfl
def load_st (v : Value) : Sem Value := Instr.loadAt 87 v
theorem load_st_fold (v : Value) : Instr.loadAt 87 v = load_st v := rfl
theorem run_load_st (w : World) (b o : Nat) (h : Has_st w b o) : (load_st (.pointer (some ⟨b, o, none⟩))).run Tryz.prog w = .ok (.agg (of_st w b o)) w := by
  have hs := of_st_spec h
  generalize of_st w b o = x at hs
  have hl := run_load_agg (P := Tryz.prog) w ⟨b, o, none⟩ 87 x.toList _ (fun j v hv => by
    rw [addr_add, hs.2 j (by have := (List.getElem?_eq_some_iff.1 hv).1; rw [← hs.1]; simpa using this)]
    simpa using hv) Tryz.underlying87 rfl (by rw [info_st]; simp [hs.1])
  simp only [load_st, Instr.loadAt, Instr.sureAddr, Sem.run_bind, Sem.run_pure, Result.andThen_ok]
  simpa using hl
attribute [go_sem ↓] load_st_fold
attribute [go_sem] run_load_st of_st_drewN
def store_st (p v : Value) : Sem Unit := Instr.storeAt 87 p v
theorem store_st_fold (p v : Value) : Instr.storeAt 87 p v = store_st p v := rfl
theorem run_storeB_st (W : World) (g o : Nat) (v : Array Value) (hv : SzIs v 5) (h1 : Ones v) (hp : Plain W g) (hn : Fits o 5 (blkOf W g)) :
    (store_st (.pointer (some ⟨g, o, none⟩)) (.agg v)).run Tryz.prog W = .ok () (W.setRow g (splice (blkOf W g) o v)) := run_store_blk W g o 5 _ v info_st hv h1 hp hn
attribute [go_sem ↓] store_st_fold
attribute [go_sem] run_storeB_st
structure MS where
  p : Plan
  A : Option Addr
  c : Nat
  b : Bool
def MS.arr (s : MS) : Array Value := #[.string ⟨s.p.from_.toArray⟩, .string ⟨s.p.to_.toArray⟩, .slice s.A s.p.es.length s.c, .int .i64 s.p.active, .bool s.b]
def MS.abs (s : MS) : Option Plan := if s.b then some s.p else none
def noMS : MS := ⟨plan0, none, 0, false⟩
theorem MS.arr_sz (s : MS) : s.arr.size = 5 := by simp [MS.arr]
theorem MS.arr_oneL (s : MS) : s.arr.toList.all (·.oneCell') = true := by simp [MS.arr, Value.oneCell']
theorem SzIs_ms (s : MS) (n : Nat) : SzIs s.arr n = (5 = n) := propext ⟨fun h => h, fun h => h⟩
theorem Ones_ms (s : MS) : Ones s.arr = True := eq_true s.arr_oneL
theorem ms_sizes (l : List MS) : ∀ y ∈ l.map MS.arr, y.size = 5 := fun y hy => by
  obtain ⟨s, _, rfl⟩ := List.mem_map.1 hy
  exact s.arr_sz
theorem ms_ones (l : List MS) : ∀ y ∈ l.map MS.arr, y.toList.all (·.oneCell') = true := fun y hy => by
  obtain ⟨s, _, rfl⟩ := List.mem_map.1 hy
  exact s.arr_oneL
structure PlW (W : World) (g : Nat) (u r : Value) (p : Plan) (A : Option Addr) (c : Nat) : Prop where
  len : p.es.length ≤ c
  ents : Ents W A p.es
  far : p.es ≠ [] → ∀ a, A = some a → a.block ≠ g ∧ u.ownBlock ≠ some a.block ∧ r.ownBlock ≠ some a.block
structure StW (W : World) (g : Nat) (u r : Value) (s : MS) : Prop where
  pl : PlW W g u r s.p s.A s.c
  none : s.b = false → s = noMS
structure HM where
  p : Plan
  A : Option Addr
  c : Nat
  t : MS
  us : List MS
  rs : List MS
  u : Value
  r : Value
def HM.arr (m : HM) : Array Value := #[.string ⟨m.p.from_.toArray⟩, .string ⟨m.p.to_.toArray⟩, .slice m.A m.p.es.length m.c, .int .i64 m.p.active,
  .string ⟨m.t.p.from_.toArray⟩, .string ⟨m.t.p.to_.toArray⟩, .slice m.t.A m.t.p.es.length m.t.c, .int .i64 m.t.p.active, .bool m.t.b, m.u, m.r]
def HM.abs (m : HM) : Hist := ⟨m.p, m.t.abs, m.us.map MS.abs, m.rs.map MS.abs⟩
structure His (w W : World) (g : Nat) (m : HM) : Prop where
  blk : Blk W g m.arr
  uo : GOut w.heap.size W 87 5 m.u (m.us.map MS.arr)
  ro : GOut w.heap.size W 87 5 m.r (m.rs.map MS.arr)
  ug : m.u.ownBlock ≠ some g
  rg : m.r.ownBlock ≠ some g
  ur : ∀ k, m.u.ownBlock = some k → m.r.ownBlock ≠ some k
  pl : PlW W g m.u m.r m.p m.A m.c
  tp : StW W g m.u m.r m.t
  us_ : ∀ s ∈ m.us, StW W g m.u m.r s
  rs_ : ∀ s ∈ m.rs, StW W g m.u m.r s
  bel : Below w.heap.size w W
  ge : w.heap.size ≤ g
structure HKeep (g : Nat) (W : World) (u r : Value) (W' : World) (u' r' : Value) : Prop where
  os : W'.os = W.os
  tape : W'.tape = W.tape
  output : W'.output = W.output
  size : W.heap.size ≤ W'.heap.size
  block : ∀ k, k < W.heap.size → k ≠ g → u.ownBlock ≠ some k → r.ownBlock ≠ some k → W'.heap[k]? = W.heap[k]?
  ou : ∀ k, u'.ownBlock = some k → k < W.heap.size → u.ownBlock = some k ∨ r.ownBlock = some k
  or_ : ∀ k, r'.ownBlock = some k → k < W.heap.size → u.ownBlock = some k ∨ r.ownBlock = some k
theorem HKeep.refl (g : Nat) (W : World) (u r : Value) : HKeep g W u r W u r := ⟨rfl, rfl, rfl, Nat.le_refl _, fun _ _ _ _ _ => rfl, fun _ h _ => .inl h, fun _ h _ => .inr h⟩
theorem HKeep.trans {g : Nat} {a b c : World} {u r u' r' u2 r2 : Value} (h : HKeep g a u r b u' r') (k : HKeep g b u' r' c u2 r2) : HKeep g a u r c u2 r2 where
  os := k.os.trans h.os
  tape := k.tape.trans h.tape
  output := k.output.trans h.output
  size := Nat.le_trans h.size k.size
  block i hi hg hu hr := by
    refine (k.block i (Nat.lt_of_lt_of_le hi h.size) hg (fun e => ?_) (fun e => ?_)).trans (h.block i hi hg hu hr)
    · rcases h.ou i e hi with e | e
      · exact hu e
      · exact hr e
    · rcases h.or_ i e hi with e | e
      · exact hu e
      · exact hr e
  ou i e hi := by
    rcases k.ou i e (Nat.lt_of_lt_of_le hi h.size) with e | e
    · exact h.ou i e hi
    · exact h.or_ i e hi
  or_ i e hi := by
    rcases k.or_ i e (Nat.lt_of_lt_of_le hi h.size) with e | e
    · exact h.ou i e hi
    · exact h.or_ i e hi
theorem HKeep.of {g : Nat} {W W' : World} {u r : Value} (b : Below W.heap.size W W') : HKeep g W u r W' u r := ⟨b.os, b.tape, b.output, b.size, fun k hk _ _ _ => b.block k hk, fun _ h _ => .inl h, fun _ h _ => .inr h⟩
structure HFar (W : World) (g : Nat) (u r : Value) (q : Nat) : Prop where
  lt : q < W.heap.size
  ne : q ≠ g
  ou : u.ownBlock ≠ some q
  or_ : r.ownBlock ≠ some q
theorem HFar.step {g : Nat} {W W' : World} {u r u' r' : Value} {q : Nat} (h : HFar W g u r q) (k : HKeep g W u r W' u' r') : HFar W' g u' r' q where
  lt := Nat.lt_of_lt_of_le h.lt k.size
  ne := h.ne
  ou e := by
    rcases k.ou q e h.lt with e | e
    · exact h.ou e
    · exact h.or_ e
  or_ e := by
    rcases k.or_ q e h.lt with e | e
    · exact h.ou e
    · exact h.or_ e
theorem HKeep.blk {g : Nat} {W W' : World} {u r u' r' : Value} {q : Nat} {cs : Array Value} (k : HKeep g W u r W' u' r') (f : HFar W g u r q) (h : Blk W q cs) : Blk W' q cs := by
  obtain ⟨t, h⟩ := h
  exact ⟨t, (k.block q f.lt f.ne f.ou f.or_).trans h⟩
theorem PlW.hfar {W : World} {g : Nat} {u r : Value} {p : Plan} {A : Option Addr} {c : Nat} (h : PlW W g u r p A c) (hne : p.es ≠ []) : ∀ a, A = some a → HFar W g u r a.block := by
  intro a ha
  obtain ⟨b, o, hA, hb, _⟩ := h.ents.at_ hne
  obtain ⟨f1, f2, f3⟩ := h.far hne a ha
  rw [hA] at ha
  injection ha with ha
  subst ha
  exact ⟨hb, f1, f2, f3⟩
theorem Ents.keepB {W W' : World} {A : Option Addr} {es : List Entry} (h : Ents W A es) (hs : W.heap.size ≤ W'.heap.size) (hk : es ≠ [] → ∀ a, A = some a → W'.heap[a.block]? = W.heap[a.block]?) : Ents W' A es := by
  refine ⟨fun hne => ?_⟩
  obtain ⟨b, o, rfl, hb, hc⟩ := h.at_ hne
  refine ⟨b, o, rfl, Nat.lt_of_lt_of_le hb hs, fun i x hx j hj => ?_⟩
  rw [World.cell?_of_block (show W'.heap[b]? = W.heap[b]? from hk hne _ rfl)]
  exact hc i x hx j hj
theorem PlW.keep {W W' : World} {g : Nat} {u r u' r' : Value} {p : Plan} {A : Option Addr} {c : Nat} (h : PlW W g u r p A c) (k : HKeep g W u r W' u' r') : PlW W' g u' r' p A c where
  len := h.len
  ents := h.ents.keepB k.size fun hne a ha => by have f := h.hfar hne a ha; exact k.block _ f.lt f.ne f.ou f.or_
  far hne a ha := by have f := (h.hfar hne a ha).step k; exact ⟨f.ne, f.ou, f.or_⟩
theorem StW.keep {W W' : World} {g : Nat} {u r u' r' : Value} {s : MS} (h : StW W g u r s) (k : HKeep g W u r W' u' r') : StW W' g u' r' s := ⟨h.pl.keep k, h.none⟩
theorem StW.zero (W : World) (g : Nat) (u r : Value) : StW W g u r noMS := ⟨⟨Nat.le_refl _, Ents.nil _ _, fun h => absurd rfl h⟩, fun _ => rfl⟩
theorem His.lt {w W : World} {g : Nat} {m : HM} (h : His w W g m) : g < W.heap.size := h.blk.lt
theorem His.step {w W W' : World} {g : Nat} {m : HM} (h : His w W g m) (b : Below W.heap.size W W') : His w W' g m where
  blk := h.blk.step b
  uo := h.uo.step b
  ro := h.ro.step b
  ug := h.ug
  rg := h.rg
  ur := h.ur
  pl := h.pl.keep (.of b)
  tp := h.tp.keep (.of b)
  us_ s hs := (h.us_ s hs).keep (.of b)
  rs_ s hs := (h.rs_ s hs).keep (.of b)
  bel := h.bel.trans (b.mono h.bel.size)
  ge := h.ge
theorem His.alloc {w W : World} {g : Nat} {m : HM} (h : His w W g m) (o : Obj) : His w (W.alloc o) g m := h.step ((Below.refl _ _).alloc (Nat.le_refl _) _)
theorem His.drw {w W : World} {g : Nat} {m : HM} (h : His w W g m) : His w W.drew g m := h.step (Below.refl _ _).drew
theorem His.ul {w W : World} {g : Nat} {m : HM} (h : His w W g m) : ∃ A c, m.u = .slice A m.us.length c := by
  obtain ⟨A, c, e⟩ := h.uo.len
  exact ⟨A, c, by rw [e, List.length_map]⟩
theorem His.rl {w W : World} {g : Nat} {m : HM} (h : His w W g m) : ∃ A c, m.r = .slice A m.rs.length c := by
  obtain ⟨A, c, e⟩ := h.ro.len
  exact ⟨A, c, by rw [e, List.length_map]⟩
theorem His.is_plan {w W : World} {g : Nat} {m : HM} (h : His w W g m) : Is_plan W g 0 (m.p.arr m.A m.c) := ⟨rfl, fun j hj => by
  rw [Nat.zero_add, h.blk.cell]
  match j, hj with
  | 0, _ | 1, _ | 2, _ | 3, _ => rfl⟩
theorem His.is_tplan {w W : World} {g : Nat} {m : HM} (h : His w W g m) : Is_plan W g 4 (m.t.p.arr m.t.A m.t.c) := ⟨rfl, fun j hj => by
  rw [h.blk.cell]
  match j, hj with
  | 0, _ | 1, _ | 2, _ | 3, _ => rfl⟩
theorem His.is_temp {w W : World} {g : Nat} {m : HM} (h : His w W g m) : Is_st W g 4 m.t.arr := ⟨rfl, fun j hj => by
  rw [h.blk.cell]
  match j, hj with
  | 0, _ | 1, _ | 2, _ | 3, _ | 4, _ => rfl⟩
theorem His.c2 {w W : World} {g : Nat} {m : HM} (h : His w W g m) : W.cell? ⟨g, 2, none⟩ = some (.slice m.A m.p.es.length m.c) := h.blk.cell 2
theorem His.c3 {w W : World} {g : Nat} {m : HM} (h : His w W g m) : W.cell? ⟨g, 3, none⟩ = some (.int .i64 m.p.active) := h.blk.cell 3
theorem His.c8 {w W : World} {g : Nat} {m : HM} (h : His w W g m) : W.cell? ⟨g, 8, none⟩ = some (.bool m.t.b) := h.blk.cell 8
theorem His.c9 {w W : World} {g : Nat} {m : HM} (h : His w W g m) : W.cell? ⟨g, 9, none⟩ = some m.u := h.blk.cell 9
theorem His.c10 {w W : World} {g : Nat} {m : HM} (h : His w W g m) : W.cell? ⟨g, 10, none⟩ = some m.r := h.blk.cell 10
theorem GOut.dropLast {B : Nat} {W : World} {t : TypeId} {n : Nat} {A : Option Addr} {k c : Nat} {l : List (Array Value)} (h : GOut B W t n (.slice A k c) l) (hx : ∀ x ∈ l, x.size = n) : GOut B W t n (.slice A (k - 1) c) l.dropLast := by
  have hcl := cellsIn_len n l hx
  obtain ⟨hl, h⟩ := h
  have hd : ∀ x ∈ l.dropLast, x.size = n := fun x h => hx x ((List.dropLast_sublist l).subset h)
  refine ⟨by rw [cellsIn_len n _ hd], ?_⟩
  rcases h with ⟨e, h0⟩ | ⟨g, cap, cur, e, hg, hbk, hn, hm, hsz, hc⟩
  · injection e with e1 e2 e3
    subst e1 e2 e3
    exact .inl ⟨rfl, by rw [List.length_dropLast, h0]⟩
  · injection e with e1 e2 e3
    subst e1 e2 e3
    refine .inr ⟨g, c, cur, by rw [List.length_dropLast], hg, hbk, by rw [List.length_dropLast]; omega, hm, hsz, ?_⟩
    have e : cellsIn l.dropLast = (cellsIn l).take ((l.length - 1) * n) := by
      rcases List.eq_nil_or_concat l with rfl | ⟨a, x, rfl⟩
      · simp [cellsIn]
      · rw [List.concat_eq_append, List.dropLast_concat, cellsIn_app, List.take_append_of_le_length (by rw [cellsIn_len n a (fun y hy => hx y (by simp [hy]))]; simp), List.take_of_length_le (by rw [cellsIn_len n a (fun y hy => hx y (by simp [hy]))]; simp)]
    rw [e, ← hc, List.take_take, List.length_dropLast, Nat.min_eq_left (Nat.mul_le_mul_right n (by omega))]
theorem GOut.items {B : Nat} {W : World} {t : TypeId} {n : Nat} {v : Value} {l : List (Array Value)} (h : GOut B W t n v l) (hx : ∀ x ∈ l, x.size = n) : ∃ A c, v = .slice A l.length c ∧ l.length ≤ c ∧ Items W A n l := by
  obtain ⟨A, c, h1, h2, h3, _, _⟩ := h.form hx
  exact ⟨A, c, h1, h2, h3⟩
theorem GOut.keepE {B : Nat} {W W' : World} {t : TypeId} {n : Nat} {v : Value} {l : List (Array Value)} (h : GOut B W t n v l) (hk : ∀ k, v.ownBlock = some k → W'.heap[k]? = W.heap[k]?) : GOut B W' t n v l := by
  obtain ⟨hl, h⟩ := h
  refine ⟨hl, ?_⟩
  rcases h with ⟨rfl, h0⟩ | ⟨g, cap, cur, rfl, hg, hbk, hn, hm, hsz, hc⟩
  · exact .inl ⟨rfl, h0⟩
  · exact .inr ⟨g, cap, cur, rfl, hg, (hk g (by simp [Value.ownBlock])).trans hbk, hn, hm, hsz, hc⟩
theorem GOut.mono {B B' : Nat} {W : World} {t : TypeId} {n : Nat} {v : Value} {l : List (Array Value)} (h : GOut B W t n v l) (hb : B' ≤ B) : GOut B' W t n v l := by
  obtain ⟨hl, h⟩ := h
  refine ⟨hl, ?_⟩
  rcases h with h | ⟨g, cap, cur, rfl, hg, r⟩
  · exact .inl h
  · exact .inr ⟨g, cap, cur, rfl, Nat.le_trans hb hg, r⟩
theorem GOut.ofRow {B : Nat} {W : World} {t : TypeId} {v : Value} {us : List MS} (h : W.ownsRow B t 5 v us.length (cellsIn (us.map MS.arr))) : GOut B W t 5 v (us.map MS.arr) := by
  unfold GOut; rwa [List.length_map]
theorem GOut.row {B : Nat} {W : World} {t : TypeId} {v : Value} {us : List MS} (h : GOut B W t 5 v (us.map MS.arr)) : W.ownsRow B t 5 v us.length (cellsIn (us.map MS.arr)) := by
  unfold GOut at h; rwa [List.length_map] at h
theorem ms_snoc (us : List MS) (t : MS) : cellsIn ((us ++ [t]).map MS.arr) = cellsIn (us.map MS.arr) ++ t.arr.toList := by simp [cellsIn]
theorem His.ult {w W : World} {g : Nat} {m : HM} (h : His w W g m) : ∀ k, m.u.ownBlock = some k → k < W.heap.size := fun k e => (h.uo.own_lt k e).1
theorem His.rlt {w W : World} {g : Nat} {m : HM} (h : His w W g m) : ∀ k, m.r.ownBlock = some k → k < W.heap.size := fun k e => (h.ro.own_lt k e).1
theorem His.appU {w W w5 : World} {g : Nat} {m : HM} {v' : Value} (h : His w W g m) (G : W.grownBy w5 m.u.ownBlock) (O5 : GOut w.heap.size w5 87 5 v' ((m.us ++ [m.t]).map MS.arr))
    (hv : m.u.ownBlock = v'.ownBlock ∨ ∃ q, v'.ownBlock = some q ∧ W.heap.size ≤ q) : His w (w5.setCell ⟨g, 9, none⟩ v') g { m with us := m.us ++ [m.t], u := v' } ∧ HKeep g W m.u m.r (w5.setCell ⟨g, 9, none⟩ v') v' m.r := by
  have hvg : v'.ownBlock ≠ some g := by
    rcases hv with e | ⟨q, e, hq⟩
    · rw [← e]; exact h.ug
    · rw [e]; intro z; injection z with z; have := h.lt; omega
  have K : HKeep g W m.u m.r (w5.setCell ⟨g, 9, none⟩ v') v' m.r := {
    os := G.os
    tape := G.tape
    output := G.output
    size := Nat.le_trans G.size (by simp [World.setCell])
    block := fun k hk hg hu _ => (Below.heap_setCell _ _ _ _ (by show k ≠ g; exact hg)).trans (G.block k hk (fun e => hu e.symm))
    ou := fun k e hk => by
      rcases hv with e2 | ⟨q, e2, hq⟩
      · exact .inl (e2.trans e)
      · rw [e2] at e; injection e with e; omega
    or_ := fun k e _ => .inr e }
  refine ⟨?_, K⟩
  exact {
    blk := (h.blk.grown G h.ug).setCell 9 _
    uo := O5.keepE fun k e => Below.heap_setCell _ _ _ _ (by show k ≠ g; rintro rfl; exact hvg e)
    ro := h.ro.keepE fun k e => (Below.heap_setCell _ _ _ _ (by show k ≠ g; rintro rfl; exact h.rg e)).trans (G.block k (h.rlt k e) (fun e2 => h.ur k e2.symm e))
    ug := hvg
    rg := h.rg
    ur := fun k e => by
      rcases hv with e2 | ⟨q, e2, hq⟩
      · exact h.ur k (e2.trans e)
      · intro e3
        have e : v'.ownBlock = some k := e
        rw [e2] at e; injection e with e
        have := h.rlt k e3
        omega
    pl := h.pl.keep K
    tp := h.tp.keep K
    us_ := fun s hs => by
      rcases List.mem_append.1 hs with hs | hs
      · exact (h.us_ s hs).keep K
      · obtain rfl : s = m.t := by simpa using hs
        exact h.tp.keep K
    rs_ := fun s hs => (h.rs_ s hs).keep K
    bel := below_setCell (h.uo.below_grown G h.bel (Nat.le_refl _) h.bel.size) h.ge _ _
    ge := h.ge }
theorem His.appR {w W w5 : World} {g : Nat} {m : HM} {v' : Value} (h : His w W g m) (G : W.grownBy w5 m.r.ownBlock) (O5 : GOut w.heap.size w5 87 5 v' ((m.rs ++ [m.t]).map MS.arr))
    (hv : m.r.ownBlock = v'.ownBlock ∨ ∃ q, v'.ownBlock = some q ∧ W.heap.size ≤ q) : His w (w5.setCell ⟨g, 10, none⟩ v') g { m with rs := m.rs ++ [m.t], r := v' } ∧ HKeep g W m.u m.r (w5.setCell ⟨g, 10, none⟩ v') m.u v' := by
  have hvg : v'.ownBlock ≠ some g := by
    rcases hv with e | ⟨q, e, hq⟩
    · rw [← e]; exact h.rg
    · rw [e]; intro z; injection z with z; have := h.lt; omega
  have K : HKeep g W m.u m.r (w5.setCell ⟨g, 10, none⟩ v') m.u v' := {
    os := G.os
    tape := G.tape
    output := G.output
    size := Nat.le_trans G.size (by simp [World.setCell])
    block := fun k hk hg _ hr => (Below.heap_setCell _ _ _ _ (by show k ≠ g; exact hg)).trans (G.block k hk (fun e => hr e.symm))
    ou := fun k e _ => .inl e
    or_ := fun k e hk => by
      rcases hv with e2 | ⟨q, e2, hq⟩
      · exact .inr (e2.trans e)
      · rw [e2] at e; injection e with e; omega }
  refine ⟨?_, K⟩
  exact {
    blk := (h.blk.grown G h.rg).setCell 10 _
    ro := O5.keepE fun k e => Below.heap_setCell _ _ _ _ (by show k ≠ g; rintro rfl; exact hvg e)
    uo := h.uo.keepE fun k e => (Below.heap_setCell _ _ _ _ (by show k ≠ g; rintro rfl; exact h.ug e)).trans (G.block k (h.ult k e) (fun e2 => h.ur k e e2.symm))
    ug := h.ug
    rg := hvg
    ur := fun k e => by
      rcases hv with e2 | ⟨q, e2, hq⟩
      · intro e3; exact h.ur k e (e2.trans e3)
      · intro e3
        have e3 : v'.ownBlock = some k := e3
        rw [e2] at e3; injection e3 with e3
        have := h.ult k e
        omega
    pl := h.pl.keep K
    tp := h.tp.keep K
    us_ := fun s hs => (h.us_ s hs).keep K
    rs_ := fun s hs => by
      rcases List.mem_append.1 hs with hs | hs
      · exact (h.rs_ s hs).keep K
      · obtain rfl : s = m.t := by simpa using hs
        exact h.tp.keep K
    bel := below_setCell (h.ro.below_grown G h.bel (Nat.le_refl _) h.bel.size) h.ge _ _
    ge := h.ge }
structure Only (g : Nat) (W W' : World) : Prop where
  os : W'.os = W.os
  tape : W'.tape = W.tape
  output : W'.output = W.output
  size : W'.heap.size = W.heap.size
  block : ∀ k, k ≠ g → W'.heap[k]? = W.heap[k]?
theorem Only.setCell (g j : Nat) (W : World) (v : Value) : Only g W (W.setCell ⟨g, j, none⟩ v) := ⟨rfl, rfl, rfl, by simp [World.setCell], fun k hk => Below.heap_setCell _ _ _ _ hk⟩
theorem Only.setRow (g : Nat) (W : World) (cs : Array Value) : Only g W (W.setRow g cs) := ⟨rfl, rfl, rfl, by simp [World.setRow], fun k hk => setRow_other _ _ _ _ hk⟩
theorem Only.below {g B : Nat} {w W W' : World} (h : Only g W W') (hb : Below B w W) (hg : B ≤ g) : Below B w W' := hb.trans ⟨h.os, h.tape, h.output, by rw [h.size]; exact Nat.le_refl _, fun k hk => h.block k (by omega)⟩
theorem HKeep.only {g : Nat} {W W' : World} {u r u' r' : Value} (h : Only g W W') (hu : ∀ k, u'.ownBlock = some k → u.ownBlock = some k) (hr : ∀ k, r'.ownBlock = some k → r.ownBlock = some k) : HKeep g W u r W' u' r' :=
  ⟨h.os, h.tape, h.output, by rw [h.size]; exact Nat.le_refl _, fun k _ hg _ _ => h.block k hg, fun k e _ => .inl (hu k e), fun k e _ => .inr (hr k e)⟩
theorem His.write {w W W' : World} {g : Nat} {m m' : HM} (h : His w W g m) (O : Only g W W') (hb : Blk W' g m'.arr)
    (hu : GOut w.heap.size W 87 5 m'.u (m'.us.map MS.arr)) (hr : GOut w.heap.size W 87 5 m'.r (m'.rs.map MS.arr)) (hu1 : ∀ k, m'.u.ownBlock = some k → m.u.ownBlock = some k) (hr1 : ∀ k, m'.r.ownBlock = some k → m.r.ownBlock = some k)
    (hp : PlW W g m.u m.r m'.p m'.A m'.c) (ht : StW W g m.u m.r m'.t) (hus : ∀ s ∈ m'.us, StW W g m.u m.r s) (hrs : ∀ s ∈ m'.rs, StW W g m.u m.r s) : His w W' g m' ∧ HKeep g W m.u m.r W' m'.u m'.r := by
  have K : HKeep g W m.u m.r W' m'.u m'.r := HKeep.only O hu1 hr1
  refine ⟨?_, K⟩
  exact {
    blk := hb
    uo := hu.keepE fun k e => O.block k (by rintro rfl; exact h.ug (hu1 _ e))
    ro := hr.keepE fun k e => O.block k (by rintro rfl; exact h.rg (hr1 _ e))
    ug := fun e => h.ug (hu1 _ e)
    rg := fun e => h.rg (hr1 _ e)
    ur := fun k e e2 => h.ur k (hu1 _ e) (hr1 _ e2)
    pl := hp.keep K
    tp := ht.keep K
    us_ := fun s hs => (hus s hs).keep K
    rs_ := fun s hs => (hrs s hs).keep K
    bel := O.below h.bel h.ge
    ge := h.ge }
theorem His.setU {w W w7 : World} {g : Nat} {m : HM} {v' : Value} {us' : List MS} (h : His w W g m) (b : Below W.heap.size W w7) (O : GOut W.heap.size w7 87 5 v' (us'.map MS.arr)) (hs : ∀ s ∈ us', s ∈ m.us) :
    His w (w7.setCell ⟨g, 9, none⟩ v') g { m with us := us', u := v' } ∧ HKeep g W m.u m.r (w7.setCell ⟨g, 9, none⟩ v') v' m.r := by
  have hfr : ∀ k, v'.ownBlock = some k → W.heap.size ≤ k := fun k e => (O.own_lt k e).2
  have hvg : v'.ownBlock ≠ some g := fun e => by have := hfr _ e; have := h.lt; omega
  have K : HKeep g W m.u m.r (w7.setCell ⟨g, 9, none⟩ v') v' m.r := {
    os := b.os
    tape := b.tape
    output := b.output
    size := Nat.le_trans b.size (by simp [World.setCell])
    block := fun k hk hg _ _ => (Below.heap_setCell _ _ _ _ (by show k ≠ g; exact hg)).trans (b.block k hk)
    ou := fun k e hk => by have := hfr _ e; omega
    or_ := fun k e _ => .inr e }
  refine ⟨?_, K⟩
  exact {
    blk := (h.blk.step b).setCell 9 _
    uo := (O.mono h.bel.size).keepE fun k e => Below.heap_setCell _ _ _ _ (by show k ≠ g; rintro rfl; exact hvg e)
    ro := h.ro.keepE fun k e => (Below.heap_setCell _ _ _ _ (by show k ≠ g; rintro rfl; exact h.rg e)).trans (b.block k (h.rlt k e))
    ug := hvg
    rg := h.rg
    ur := fun k e e2 => by have := hfr _ e; have := h.rlt k e2; omega
    pl := h.pl.keep K
    tp := h.tp.keep K
    us_ := fun s hs' => (h.us_ s (hs s hs')).keep K
    rs_ := fun s hs => (h.rs_ s hs).keep K
    bel := below_setCell (below_step h.bel b) h.ge _ _
    ge := h.ge }
end Go.Proofs.YtlggdgpdfepppaaGreatDoor
