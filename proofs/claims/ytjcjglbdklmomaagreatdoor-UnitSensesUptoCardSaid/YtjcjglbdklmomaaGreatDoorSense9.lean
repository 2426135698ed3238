/- Layer 57: Decode. -/
import Derived.Test.YtjcjglbdklmomaaGreatDoorSense6
import Derived.Test.YtjcjglbdklmomaaGreatDoorSense8
import Derived.Deep.CutRange
import Derived.Laws.IdiomStrings
namespace Go.Proofs.YtjcjglbdklmomaaGreatDoor
open Go.RowKit
set_option linter.unusedVariables false
set_option linter.unusedSimpArgs false
def sense0 : Sense := ⟨0, [], 0, 0, 0, 0, 0, 0, 0, false, false, false, []⟩
/-- While Decode runs: the result's block, the input's block with the cells cs, the scanner. -/
structure DecI (w W : World) (rb sb g : Nat) (cs : Array Value) (st : Scan) : Prop where
  below : Below w.heap.size w W
  lo : w.heap.size ≤ rb
  r : Blk W rb (sense0.arr none 0)
  s : Blk W sb cs
  scan : Scn w.heap.size W g st
theorem DecI.call {w W W' : World} {rb sb g : Nat} {cs : Array Value} {st st' : Scan} (h : DecI w W rb sb g cs st) (h1 : rb < sb) (h2 : sb < g) (hS : Scn w.heap.size W' g st') (hT : Touch [g] W W') : DecI w W' rb sb g cs st' where
  below := hT.below h.below (by intro x hx; simp at hx; have := h.lo; omega)
  lo := h.lo
  r := hT.blk (by simp; omega) h.r
  s := hT.blk (by simp; omega) h.s
  scan := hS
theorem DecI.set {w W : World} {rb sb g : Nat} {cs : Array Value} {st : Scan} (h1 : rb < sb) (h2 : sb < g) (h : DecI w W rb sb g cs st) (k : Nat) (v : Value) : DecI w (W.setCell ⟨sb, k, none⟩ v) rb sb g (cs.setIfInBounds k v) st where
  below := below_setCell h.below (by have := h.lo; omega) k v
  lo := h.lo
  r := h.r.setFar (by omega) k v
  s := h.s.setCell k v
  scan := by
    obtain ⟨A, c, hbk, q1, q2, hR, hB⟩ := h.scan
    exact ⟨A, c, hbk.setFar (by omega) k v, q1, q2, hR.far fun b o hb => far_cell (by have := h.lo; omega), hB⟩
theorem callS {P : Program} {f : FuncId} {args : Array Value} {w W : World} {rb sb g : Nat} {cs : Array Value} {st st' : Scan} {v : Value} {K : Ending → World → Prop} (h1 : rb < sb) (h2 : sb < g) (I : DecI w W rb sb g cs st)
    (h : Scn w.heap.size W g st → Calls P f args W (RetS w.heap.size W g v st')) (k : ∀ W', DecI w W' rb sb g cs st' → Touch [g] W W' → (∀ j, W'.cell? ⟨sb, j, none⟩ = cs[j]?) → (∀ j, W'.frozen? ⟨sb, j, none⟩ = false) → K (.returned v) W') : Calls P f args W K :=
  (h I.scan).mono fun e W' ⟨he, hS, hT⟩ => by
    subst he
    have I' := I.call h1 h2 hS hT
    exact k W' I' hT I'.s.cell I'.s.frozen
theorem dec_start (w : World) (A : Option Addr) (l : List UInt8) (c : Nat) (hR : Rd w w.heap.size A l) (hlc : l.length ≤ c) (hc9 : c ≤ maxLen) :
    DecI w (((w.alloc (.cells (sense0.arr none 0) 26)).alloc (.cells (sense0.arr none 0) 26)).alloc (.cells #[.slice A l.length c, .bool false] 75)) w.heap.size (w.heap.size + 1) (w.heap.size + 1 + 1) (sense0.arr none 0) (l, false) where
  below := (((Below.refl _ _).alloc (Nat.le_refl _) _).alloc (by simp) _).alloc (by simp; omega) _
  lo := Nat.le_refl _
  r := ((Blk.new w _ _).alloc _).alloc _
  s := by
    have := (Blk.new (w.alloc (.cells (sense0.arr none 0) 26)) (sense0.arr none 0) 26).alloc (.cells #[.slice A l.length c, .bool false] 75)
    simpa using this
  scan := ⟨A, c, by
    have := Blk.new ((w.alloc (.cells (sense0.arr none 0) 26)).alloc (.cells (sense0.arr none 0) 26)) #[.slice A l.length c, .bool false] 75
    simpa using this, hlc, hc9, hR.far fun b o hb => by
      rw [World.cell?_alloc_lt _ _ _ (by simp; omega), World.cell?_alloc_lt _ _ _ (by simp; omega), World.cell?_alloc_lt _ _ _ hb], by omega⟩
def decide8 (m : Nat) (x : UInt8) : Bool := (x.toNat / m) % 2 == 1
theorem and_bit (x : UInt8) : (bits .and .u8 (x.toNat : Int) 1 != 0) = (x.toNat % 2 == 1) ∧ (bits .and .u8 (x.toNat : Int) 2 != 0) = (x.toNat / 2 % 2 == 1) ∧ (bits .and .u8 (x.toNat : Int) 4 != 0) = (x.toNat / 4 % 2 == 1) := by
  have h : ∀ n : Fin 256, (bits .and .u8 ((n : Nat) : Int) 1 != 0) = ((n : Nat) % 2 == 1) ∧ (bits .and .u8 ((n : Nat) : Int) 2 != 0) = ((n : Nat) / 2 % 2 == 1) ∧ (bits .and .u8 ((n : Nat) : Int) 4 != 0) = ((n : Nat) / 4 % 2 == 1) := by decide +kernel
  exact h ⟨x.toNat, x.toNat_lt⟩
theorem GOut.keep {B : Nat} {W W' : World} {t : TypeId} {n : Nat} {v : Value} {l : List (Array Value)} (h : GOut B W t n v l) (hk : ∀ k, v.ownBlock = some k → W'.heap[k]? = W.heap[k]?) : GOut B W' t n v l := by
  obtain ⟨hl, h⟩ := h
  refine ⟨hl, ?_⟩
  rcases h with ⟨rfl, h0⟩ | ⟨g, cap, cur, rfl, hg, hbk, hn, hm, hsz, hc⟩
  · exact .inl ⟨rfl, h0⟩
  · exact .inr ⟨g, cap, cur, rfl, hg, (hk g (by simp [Value.ownBlock])).trans hbk, hn, hm, hsz, hc⟩
theorem conv_rd {W : World} {G c : Nat} {A : Option Addr} {l : List UInt8} (h : Rd W G A l) : (convert 30 9 (.slice A l.length c)).run Tryz.prog W = .ok (.string ⟨l.toArray⟩) W := by
  cases A with
  | none =>
    have h0 : l = [] := by
      rcases Nat.eq_zero_or_pos l.length with h0 | h0
      · exact List.eq_nil_of_length_eq_zero h0
      · obtain ⟨b, off, e, _⟩ := h.get h0; cases e
    subst h0
    exact run_convert_bytes_nil W 30 5 Tryz.underlying30 Tryz.underlying5 0 c 9 Tryz.underlying9
  | some a =>
    refine run_convert_bytes_back W 30 9 5 a c l Tryz.underlying30 Tryz.underlying5 Tryz.underlying9 ?_
    intro j hj
    obtain ⟨b, off, e, hb, he⟩ := h.get hj
    obtain rfl : a = ⟨b, off, none⟩ := by simpa using e
    rw [addr_add]
    exact he j hj
/-- While a report is read: its block q with the cells qc, the reports read so far. -/
structure DecR (w W : World) (rb sb g : Nat) (cs : Array Value) (st : Scan) (v : Value) (l : List (Array Value)) (q : Nat) (qc : Array Value) : Prop where
  I : DecI w W rb sb g cs st
  O : GOut (g + 1) W 68 8 v l
  Q : Blk W q qc
  hq : g < q
  ho : v.ownBlock ≠ some q
theorem DecR.call {w W W' : World} {rb sb g q : Nat} {cs qc : Array Value} {st st' : Scan} {v : Value} {l : List (Array Value)} (h1 : rb < sb) (h2 : sb < g) (h : DecR w W rb sb g cs st v l q qc) (hS : Scn w.heap.size W' g st') (hT : Touch [g] W W') : DecR w W' rb sb g cs st' v l q qc where
  I := h.I.call h1 h2 hS hT
  O := h.O.keep fun k hk => by
    have := h.O.own_lt k hk
    exact hT.block k this.1 (by simp; omega)
  Q := hT.blk (by simp; have := h.hq; omega) h.Q
  hq := h.hq
  ho := h.ho
theorem DecR.set {w W : World} {rb sb g q : Nat} {cs qc : Array Value} {st : Scan} {v : Value} {l : List (Array Value)} (h1 : rb < sb) (h2 : sb < g) (h : DecR w W rb sb g cs st v l q qc) (k : Nat) (u : Value) : DecR w (W.setCell ⟨q, k, none⟩ u) rb sb g cs st v l q (qc.setIfInBounds k u) where
  I := by
    have hq := h.hq
    have hlo := h.I.lo
    refine ⟨below_setCell h.I.below (by omega) k u, h.I.lo, h.I.r.setFar (by omega) k u, h.I.s.setFar (by omega) k u, ?_⟩
    obtain ⟨A, c, hbk, q1, q2, hR, hB⟩ := h.I.scan
    exact ⟨A, c, hbk.setFar (by omega) k u, q1, q2, hR.far fun b o hb => far_cell (by omega), hB⟩
  O := h.O.keep fun j hj => Below.heap_setCell _ _ _ _ (by show j ≠ q; rintro rfl; exact h.ho hj)
  Q := h.Q.setCell k u
  hq := h.hq
  ho := h.ho
theorem callSQ {P : Program} {f : FuncId} {args : Array Value} {w W : World} {rb sb g q : Nat} {cs qc : Array Value} {st st' : Scan} {v v1 : Value} {l : List (Array Value)} {K : Ending → World → Prop} (h1 : rb < sb) (h2 : sb < g) (I : DecR w W rb sb g cs st v1 l q qc)
    (h : Scn w.heap.size W g st → Calls P f args W (RetS w.heap.size W g v st')) (k : ∀ W', DecR w W' rb sb g cs st' v1 l q qc → (∀ j, W'.cell? ⟨q, j, none⟩ = qc[j]?) → (∀ j, W'.frozen? ⟨q, j, none⟩ = false) → K (.returned v) W') : Calls P f args W K :=
  (h I.I.scan).mono fun e W' ⟨he, hS, hT⟩ => by
    subst he
    have I' := I.call h1 h2 hS hT
    exact k W' I' I'.Q.cell I'.Q.frozen
theorem DecI.alloc {w W : World} {rb sb g : Nat} {cs : Array Value} {st : Scan} (h : DecI w W rb sb g cs st) (o : Obj) : DecI w (W.alloc o) rb sb g cs st where
  below := h.below.alloc h.below.size o
  lo := h.lo
  r := h.r.alloc o
  s := h.s.alloc o
  scan := by
    obtain ⟨A, c, hbk, q1, q2, hR, hB⟩ := h.scan
    exact ⟨A, c, hbk.alloc o, q1, q2, hR.far fun b o' hb => World.cell?_alloc_lt _ _ _ (by have := h.below.size; show b < _; omega), hB⟩
def Rep.zero : Rep := ⟨0, 0, 0, 0, 0, 0, 0, 0⟩
theorem dec_round {w W : World} {rb sb g : Nat} {cs : Array Value} {st : Scan} {v : Value} {l : List (Array Value)} (h : DecI w W rb sb g cs st) (O : GOut (g + 1) W 68 8 v l) :
    DecR w (W.alloc (.cells Rep.zero.arr 68)) rb sb g cs st v l W.heap.size Rep.zero.arr where
  I := h.alloc _
  O := O.alloc _
  Q := Blk.new W _ _
  hq := by obtain ⟨A, c, hbk, _⟩ := h.scan; exact hbk.lt
  ho := by intro e; have := (O.own_lt _ e).1; omega
theorem DecI.grown {w W W' : World} {rb sb g : Nat} {cs : Array Value} {st : Scan} {v : Value} {l : List (Array Value)} (h1 : rb < sb) (h2 : sb < g) (h : DecI w W rb sb g cs st) (O : GOut (g + 1) W 68 8 v l) (hg : W.grownBy W' v.ownBlock) : DecI w W' rb sb g cs st := by
  have hlo := h.lo
  have hsz := h.below.size
  have hlt : ∀ k, k < g + 1 → k < W.heap.size → W'.heap[k]? = W.heap[k]? := O.grown hg
  have kb : ∀ {k : Nat} {c : Array Value}, k < g + 1 → Blk W k c → Blk W' k c := fun {k c} hk hb => by
    have hl := hb.lt
    obtain ⟨t, hb⟩ := hb
    exact ⟨t, (hlt k hk hl).trans hb⟩
  refine ⟨O.below_grown hg h.below (by omega) hsz, h.lo, kb (by omega) h.r, kb (by omega) h.s, ?_⟩
  obtain ⟨A, c, hbk, q1, q2, hR, hB⟩ := h.scan
  exact ⟨A, c, kb (by omega) hbk, q1, q2, hR.far fun b o hb => World.cell?_of_block (w := W) (hlt b (by omega) (by omega)), hB⟩
def Sense.withReps (S : Sense) (l : List Rep) : Sense := { S with reps := l }
theorem withReps_reps (S : Sense) (l : List Rep) : (S.withReps l).reps = l := rfl
attribute [go_sem] withReps_reps
theorem info_rep_all : (Tryz.prog.info? 68).map (fun i => (i.zero, i.size, i.bytes)) = some (some Rep.zero.val, 8, 64) := by kernel_rfl
theorem sizes_app (rs : List Rep) (y : Rep) : ∀ x ∈ rs.map Rep.arr ++ [y.arr], x.size = 8 := by
  intro x hx
  rcases List.mem_append.1 hx with h | h
  · obtain ⟨z, _, rfl⟩ := List.mem_map.1 h; rfl
  · obtain rfl := List.mem_singleton.1 h; rfl
theorem repsS_step (n m : Nat) (sl : List UInt8) (h : n = m + 1) : repsS n (sl, false) = ((repS (sl, false)).1 :: (repsS m (repS (sl, false)).2).1, (repsS m (repS (sl, false)).2).2) := by
  subst h; rw [repsS]; simp
theorem repsS_bad (n : Nat) (sl : List UInt8) : repsS n (sl, true) = ([], (sl, true)) := by
  cases n <;> simp [repsS]
/-- The call returns the input (the zero one where there is none) and the error. -/
def RetD (w : World) (o : Option Sense) (e : Ending) (w' : World) : Prop := ∃ A c, e = .returned (.tuple #[(o.getD sense0).val A c, .int .i64 (if o.isSome then 0 else 4)]) ∧ (o.getD sense0).ok w' A c ∧ Below w.heap.size w w'
theorem BOut.rd {B : Nat} {W : World} {v : Value} {l : List UInt8} (h : BOut B W v l) : ∃ A c, v = .slice A l.length c ∧ l.length ≤ c ∧ c ≤ maxLen ∧ Rd W W.heap.size A l := by
  have h' := h
  obtain ⟨hl, h⟩ := h
  rcases h with ⟨rfl, h0⟩ | ⟨g, cap, cur, rfl, hg, hb, hn, hm, hsz, hc⟩
  · obtain rfl : l = [] := List.eq_nil_of_length_eq_zero h0
    exact ⟨none, 0, rfl, Nat.le_refl _, by unfold maxLen; omega, Rd.nil _ _ _⟩
  · refine ⟨_, _, rfl, hn, hm, ⟨fun _ => ⟨g, 0, rfl, ?_, fun i hi => ?_⟩⟩⟩
    · exact (h'.own_lt g rfl).1
    · rw [Nat.zero_add]; exact h'.cellAt rfl i hi
theorem DecI.step {w W W' : World} {rb sb g : Nat} {cs : Array Value} {st : Scan} (h : DecI w W rb sb g cs st) (hb : Below W.heap.size W W') : DecI w W' rb sb g cs st where
  below := h.below.trans (hb.mono h.below.size)
  lo := h.lo
  r := h.r.step hb
  s := h.s.step hb
  scan := by
    obtain ⟨A, c, hbk, q1, q2, hR, hB⟩ := h.scan
    exact ⟨A, c, hbk.step hb, q1, q2, hR.far fun b o hbb => hb.cell (p := ⟨b, o, none⟩) (by have := h.below.size; show b < _; omega), hB⟩
theorem Rd.below {w w' : World} {G : Nat} {A : Option Addr} {l : List UInt8} (h : Rd w G A l) (hb : Below G w w') : Rd w' G A l := h.far fun b o hbb => hb.cell (p := ⟨b, o, none⟩) hbb
theorem encE_len (s : Sense) : (encE s).length ≤ 400 := by
  unfold encE
  split
  · rename_i h
    have G := senseGood h
    have := G.len; have := G.cmd
    rw [encB_len]; omega
  · simp
theorem Items.setRow {w : World} {A : Option Addr} {n g : Nat} {l : List (Array Value)} (h : Items w A n l) (cs : Array Value) (hne : ∀ a, A = some a → a.block ≠ g) : Items (w.setRow g cs) A n l where
  at_ hn := by
    obtain ⟨b, off, rfl, hlt, hc⟩ := h.at_ hn
    have hb : b ≠ g := hne _ rfl
    exact ⟨b, off, rfl, by simpa [World.setRow] using hlt, fun i x hx j hj => by rw [World.cell?_of_block (w := w) (setRow_other w g b cs hb)]; exact hc i x hx j hj⟩
theorem sense0_ok (w : World) (A : Option Addr) (c : Nat) : sense0.ok w A c := ⟨by simp [sense0], by simp [sense0], by simp [sense0], Items.nil _ _ _⟩
theorem u8_beq_eq (l m : List UInt8) (b : Bool) (h : decide (l = m) = b) : (l = m) = (b = true) := by subst h; simp
set_option maxHeartbeats 4000000 in
set_option maxRecDepth 100000 in
theorem decode_any (A : Option Addr) (l : List UInt8) (c : Nat) (w : World) (hR : Rd w w.heap.size A l) (hl : l.length ≤ 4000000000) (hlc : l.length ≤ c) (hc9 : c ≤ maxLen) : Calls Tryz.prog 9 #[.slice A l.length c] w (RetD w (decS l)) := by
  have I0 := dec_start w A l c hR hlc hc9
  have h1 : w.heap.size < w.heap.size + 1 := by omega
  have h2 : w.heap.size + 1 < w.heap.size + 1 + 1 := by omega
  go_enter Tryz.func9, Tryz.ntmps9
  go_upto_region 3 with (fail)
  change Code.wp _ _ _ _ (((w.alloc (.cells (sense0.arr none 0) 26)).alloc (.cells (sense0.arr none 0) 26)).alloc (.cells #[.slice A l.length c, .bool false] 75))
  generalize World.alloc (World.alloc (World.alloc _ _) _) _ = W at I0 ⊢
  obtain ⟨rb, hrb⟩ : ∃ rb, rb = w.heap.size := ⟨_, rfl⟩
  have HRB := Lib.hid hrb
  rw [← hrb] at I0 h1 h2 ⊢
  generalize hsb : rb + 1 = sb at I0 h1 h2 ⊢
  generalize hg : sb + 1 = g at I0 h2 ⊢
  clear hrb
  have HSB := Lib.hid hsb; clear hsb
  have HG := Lib.hid hg; clear hg
  go_upto_region 4 with (go_at_call 18; refine callS h1 h2 I0 (one_any _ g _ _) ?_; intro W1 I1 T1 hs hf)
  obtain ⟨f, hf0⟩ : ∃ f, f = oneS (l, false) := ⟨_, rfl⟩
  rw [← hf0] at I1 ⊢
  have HF := Lib.hid hf0; clear hf0 I0
  have hb1 := (and_bit f.1).1
  have hb2 := (and_bit f.1).2.1
  have hb3 := (and_bit f.1).2.2
  obtain ⟨a1, ha1⟩ : ∃ a, a = (f.1.toNat % 2 == 1) := ⟨_, rfl⟩
  obtain ⟨a2, ha2⟩ : ∃ a, a = (f.1.toNat / 2 % 2 == 1) := ⟨_, rfl⟩
  obtain ⟨a3, ha3⟩ : ∃ a, a = (f.1.toNat / 4 % 2 == 1) := ⟨_, rfl⟩
  rw [← ha1] at hb1
  rw [← ha2] at hb2
  rw [← ha3] at hb3
  have HA1 := Lib.hid ha1; have HA2 := Lib.hid ha2; have HA3 := Lib.hid ha3
  clear ha1 ha2 ha3
  have I2 : DecI w (((W1.setCell ⟨sb, 9, none⟩ (.bool a1)).setCell ⟨sb, 10, none⟩ (.bool a2)).setCell ⟨sb, 11, none⟩ (.bool a3)) rb sb g (({ sense0 with ground := a1, thrust := a2, stopped := a3 } : Sense).arr none 0) f.2 :=
    DecI.set h1 h2 (DecI.set h1 h2 (DecI.set h1 h2 I1 9 (.bool a1)) 10 (.bool a2)) 11 (.bool a3)
  go_upto_region 5 with (fail)
  generalize World.setCell (World.setCell (World.setCell _ _ _) _ _) _ _ = W2 at I2 ⊢
  clear hb1 hb2 hb3 I1 T1 hs hf
  have hn9 : ((oneS f.2).1.toNat : Int) ≤ 255 := by have := (oneS f.2).1.toNat_lt; omega
  go_upto_region 6 with (go_at_call 18; refine callS h1 h2 I2 (one_any _ g _ _) ?_; intro W3 I3 T3 hs hf)
  obtain ⟨n, hn0⟩ : ∃ n, n = oneS f.2 := ⟨_, rfl⟩
  rw [← hn0] at I3 hn9 ⊢
  have HN := Lib.hid hn0; clear hn0 I2 T3 hs hf
  go_upto_region 7 with (go_at_call 19; refine callS h1 h2 I3 (sbig_any _ g _ _) ?_; intro W4 I4 T4 hs hf)
  obtain ⟨t, ht0⟩ : ∃ t, t = bigS n.2 := ⟨_, rfl⟩
  rw [← ht0] at I4 ⊢
  have HT := Lib.hid ht0; clear ht0 I3 T4
  have I5 : DecI w (W4.setCell ⟨sb, 0, none⟩ (.int .i64 t.1)) rb sb g (({ sense0 with ground := a1, thrust := a2, stopped := a3, tick := t.1 } : Sense).arr none 0) t.2 :=
    DecI.set h1 h2 I4 0 (.int .i64 t.1)
  generalize World.setCell _ _ _ = W5 at I5 ⊢
  clear I4 hs hf
  go_upto_region 8 with (go_at_call 20; refine callS h1 h2 (by assumption) (small_any _ g _ _) ?_; intro W6 I6 T6 hs hf)
  obtain ⟨ve, hve⟩ : ∃ x, x = smallS t.2 := ⟨_, rfl⟩
  rw [← hve] at I6 ⊢
  obtain ⟨vn, hvn⟩ : ∃ x, x = smallS ve.2 := ⟨_, rfl⟩
  rw [← hvn] at I6 ⊢
  have HVE := Lib.hid hve; have HVN := Lib.hid hvn; clear hve hvn
  have I7 : DecI w ((W6.setCell ⟨sb, 2, none⟩ (.int .i64 ve.1)).setCell ⟨sb, 3, none⟩ (.int .i64 vn.1)) rb sb g (({ sense0 with ground := a1, thrust := a2, stopped := a3, tick := t.1, ve := ve.1, vn := vn.1 } : Sense).arr none 0) vn.2 :=
    DecI.set h1 h2 (DecI.set h1 h2 I6 2 (.int .i64 ve.1)) 3 (.int .i64 vn.1)
  generalize World.setCell (World.setCell _ _ _) _ _ = W7 at I7 ⊢
  clear I6 I5 T6 hs hf
  go_upto_region 9 with (go_at_call 20; refine callS h1 h2 (by assumption) (small_any _ g _ _) ?_; intro W8 I8 T8 hs hf)
  obtain ⟨dr, hdr⟩ : ∃ x, x = smallS vn.2 := ⟨_, rfl⟩
  rw [← hdr] at I8 ⊢
  obtain ⟨al, hal⟩ : ∃ x, x = smallS dr.2 := ⟨_, rfl⟩
  rw [← hal] at I8 ⊢
  obtain ⟨vs, hvs⟩ : ∃ x, x = smallS al.2 := ⟨_, rfl⟩
  rw [← hvs] at I8 ⊢
  obtain ⟨ca, hca⟩ : ∃ x, x = smallS vs.2 := ⟨_, rfl⟩
  rw [← hca] at I8 ⊢
  have HDR := Lib.hid hdr; have HAL := Lib.hid hal; have HVS := Lib.hid hvs; have HCA := Lib.hid hca; clear hdr hal hvs hca
  have I9 : DecI w ((((W8.setCell ⟨sb, 4, none⟩ (.int .i64 dr.1)).setCell ⟨sb, 5, none⟩ (.int .i64 al.1)).setCell ⟨sb, 6, none⟩ (.int .i64 vs.1)).setCell ⟨sb, 7, none⟩ (.int .i64 ca.1)) rb sb g (({ sense0 with ground := a1, thrust := a2, stopped := a3, tick := t.1, ve := ve.1, vn := vn.1, drift := dr.1, alt := al.1, vs := vs.1, cas := ca.1 } : Sense).arr none 0) ca.2 :=
    DecI.set h1 h2 (DecI.set h1 h2 (DecI.set h1 h2 (DecI.set h1 h2 I8 4 (.int .i64 dr.1)) 5 (.int .i64 al.1)) 6 (.int .i64 vs.1)) 7 (.int .i64 ca.1)
  generalize World.setCell (World.setCell (World.setCell (World.setCell _ _ _) _ _) _ _) _ _ = W9 at I9 ⊢
  clear I8 I7 T8 hs hf
  go_wp2_with fail
  refine (take_any 4 (.inr (.inl rfl)) w.heap.size g ca.2 _ I9.scan).mono ?_
  rintro e W10 ⟨A1, c1, rfl, hc1, hR1, hS1, hT1⟩
  have I10 := I9.call h1 h2 hS1 hT1
  have hfl := tk_len 4 ca.2
  obtain ⟨fu, hfu⟩ : ∃ x, x = tk 4 ca.2 := ⟨_, rfl⟩
  rw [← hfu] at I10 hR1 hfl
  have HFU := Lib.hid hfu; clear hfu hS1 hT1 I9
  have HC := unumber_any A1 fu.1 c1 _ W10 hR1 (by omega) (by omega)
  rw [hfl] at HC
  have hq := numB_bound fu.1
  rw [hfl] at hq
  have hq1 := hq.1
  have hq2 : numB fu.1 ≤ 4294967295 := by have := hq.2; omega
  have HC := Lib.hid HC
  clear hq hR1
  have HFL := Lib.hid hfl; clear hfl
  go_wp2_with fail
  refine callP HC.out ?_
  clear HC
  have hs := I10.s.cell
  have hf := I10.s.frozen
  have I11 : DecI w (W10.setCell ⟨sb, 8, none⟩ (.int .i64 (numB fu.1))) rb sb g (({ sense0 with ground := a1, thrust := a2, stopped := a3, tick := t.1, ve := ve.1, vn := vn.1, drift := dr.1, alt := al.1, vs := vs.1, cas := ca.1, fuel := numB fu.1 } : Sense).arr none 0) fu.2 :=
    DecI.set h1 h2 I10 8 (.int .i64 (numB fu.1))
  go_upto_region 10 with (fail)
  generalize World.setCell _ _ _ = W11 at I11 ⊢
  clear I10 hs hf
  obtain ⟨S, hS⟩ : ∃ S : Sense, S = { sense0 with ground := a1, thrust := a2, stopped := a3, tick := t.1, ve := ve.1, vn := vn.1, drift := dr.1, alt := al.1, vs := vs.1, cas := ca.1, fuel := numB fu.1 } := ⟨_, rfl⟩
  rw [← hS] at I11
  have hS0 : S.reps = [] := by rw [hS]; rfl
  have HS := Lib.hid hS; clear hS
  go_wp2
  have hsz : sb < W11.heap.size := I11.s.lt
  have O11 : GOut (g + 1) W11 68 8 (.slice none 0 0) [] := GOut.nil _ _ _ _
  have hn10 : n.1.toNat ≤ 255 := by omega
  go_loopw [8] (fun i wr => ∃ (rs : List Rep) (st : Scan) (A' : Option Addr) (c' : Nat), rs.length ≤ n.1.toNat ∧ i = .int .i64 rs.length ∧ DecI w wr rb sb g ((S.withReps rs).arr A' c') st ∧ GOut (g + 1) wr 68 8 (.slice A' rs.length c') (rs.map Rep.arr) ∧ rs.length ≤ c' ∧ c' ≤ maxLen ∧
      repsS n.1.toNat fu.2 = (rs ++ (repsS (n.1.toNat - rs.length) st).1, (repsS (n.1.toNat - rs.length) st).2)) (fun i _ => n.1.toNat - (intOf i).toNat)
  case atStart => exact ⟨[], fu.2, none, 0, by simp, rfl, by have := I11; rw [show S.withReps [] = S by unfold Sense.withReps; rw [← hS0]]; exact this, O11, by simp, by unfold maxLen; omega, by simp⟩
  case round =>
    obtain ⟨rs, st, A', c', hk, rfl, I, O, hrc, hcm, hq⟩ := hrel
    have HQ := Lib.hid hq
    clear hq I11 O11 hsz HC
    obtain ⟨sl, bad⟩ := st
    obtain ⟨A3, c3, hbk, _, _, _, _⟩ := I.scan
    have cg : wr.cell? ⟨g, 1, none⟩ = some (.bool bad) := hbk.cell 1
    clear hbk
    by_cases hcont : rs.length < n.1.toNat ∧ bad = false
    · obtain ⟨hlt, rfl⟩ := hcont
      · have hrep := Lib.hid (show n.1.toNat - rs.length = (n.1.toNat - (rs.length + 1)) + 1 by omega)
        have D0 := dec_round I O
        have Hform := Lib.hid (O.form (by intro x hx; obtain ⟨y, _, rfl⟩ := List.mem_map.1 hx; rfl))
        have hlr : 0 < wr.heap.size := by have := I.s.lt; omega
        clear I
        go_upto_region 14 with (fail)
        change Code.wp _ _ _ _ (wr.alloc (.cells Rep.zero.arr 68))
        generalize wr.alloc _ = V0 at D0 ⊢
        generalize wr.heap.size = q at D0 ⊢
        have y0 : ((oneS (sl, false)).1.toNat : Int) ≤ 255 := by have := (oneS (sl, false)).1.toNat_lt; omega
        have y2 : ((oneS (oneS (oneS (sl, false)).2).2).1.toNat : Int) ≤ 255 := by have := (oneS (oneS (oneS (sl, false)).2).2).1.toNat_lt; omega
        go_upto_region 15 with (go_at_call 18; refine callSQ h1 h2 (by assumption) (one_any _ g _ _) ?_; intro V1 D1 hqs hqf)
        obtain ⟨x0, hx0⟩ : ∃ x, x = oneS (sl, false) := ⟨_, rfl⟩
        rw [← hx0] at D1 y0 y2 ⊢
        obtain ⟨x1, hx1⟩ : ∃ x, x = oneS x0.2 := ⟨_, rfl⟩
        rw [← hx1] at D1 y2 ⊢
        obtain ⟨x2, hx2⟩ : ∃ x, x = oneS x1.2 := ⟨_, rfl⟩
        rw [← hx2] at D1 y2 ⊢
        have HX0 := Lib.hid hx0; have HX1 := Lib.hid hx1; have HX2 := Lib.hid hx2; clear hx0 hx1 hx2
        have D2 : DecR w (((V1.setCell ⟨q, 0, none⟩ (.int .i64 x0.1.toNat)).setCell ⟨q, 1, none⟩ (.int .u8 x1.1.toNat)).setCell ⟨q, 6, none⟩ (.int .i64 x2.1.toNat)) rb sb g _ x2.2 _ _ q ((⟨x0.1.toNat, x1.1.toNat, 0, 0, 0, 0, x2.1.toNat, 0⟩ : Rep).arr) :=
          DecR.set h1 h2 (DecR.set h1 h2 (DecR.set h1 h2 D1 0 (.int .i64 x0.1.toNat)) 1 (.int .u8 x1.1.toNat)) 6 (.int .i64 x2.1.toNat)
        generalize World.setCell (World.setCell (World.setCell _ _ _) _ _) _ _ = V2 at D2 ⊢
        clear D1 D0 hqs hqf y0 y2
        go_upto_region 16 with (go_at_call 20; refine callSQ h1 h2 (by assumption) (small_any _ g _ _) ?_; intro V3 D3 hqs hqf)
        obtain ⟨x3, hx3⟩ : ∃ x, x = smallS x2.2 := ⟨_, rfl⟩
        rw [← hx3] at D3 ⊢
        obtain ⟨x4, hx4⟩ : ∃ x, x = smallS x3.2 := ⟨_, rfl⟩
        rw [← hx4] at D3 ⊢
        have HX3 := Lib.hid hx3; have HX4 := Lib.hid hx4; clear hx3 hx4
        have D4 : DecR w ((V3.setCell ⟨q, 2, none⟩ (.int .i64 x3.1)).setCell ⟨q, 3, none⟩ (.int .i64 x4.1)) rb sb g _ x4.2 _ _ q ((⟨x0.1.toNat, x1.1.toNat, x3.1, x4.1, 0, 0, x2.1.toNat, 0⟩ : Rep).arr) :=
          DecR.set h1 h2 (DecR.set h1 h2 D3 2 (.int .i64 x3.1)) 3 (.int .i64 x4.1)
        generalize World.setCell (World.setCell _ _ _) _ _ = V4 at D4 ⊢
        clear D3 D2 hqs hqf
        go_upto_region 17 with (go_at_call 19; refine callSQ h1 h2 (by assumption) (sbig_any _ g _ _) ?_; intro V5 D5 hqs hqf)
        obtain ⟨x5, hx5⟩ : ∃ x, x = bigS x4.2 := ⟨_, rfl⟩
        rw [← hx5] at D5 ⊢
        obtain ⟨x6, hx6⟩ : ∃ x, x = bigS x5.2 := ⟨_, rfl⟩
        rw [← hx6] at D5 ⊢
        obtain ⟨x7, hx7⟩ : ∃ x, x = bigS x6.2 := ⟨_, rfl⟩
        rw [← hx7] at D5 ⊢
        have HX5 := Lib.hid hx5; have HX6 := Lib.hid hx6; have HX7 := Lib.hid hx7; clear hx5 hx6 hx7
        have D6 : DecR w (((V5.setCell ⟨q, 4, none⟩ (.int .i64 x5.1)).setCell ⟨q, 5, none⟩ (.int .i64 x6.1)).setCell ⟨q, 7, none⟩ (.int .i64 x7.1)) rb sb g _ x7.2 _ _ q ((⟨x0.1.toNat, x1.1.toNat, x3.1, x4.1, x5.1, x6.1, x2.1.toNat, x7.1⟩ : Rep).arr) :=
          DecR.set h1 h2 (DecR.set h1 h2 (DecR.set h1 h2 D5 4 (.int .i64 x5.1)) 5 (.int .i64 x6.1)) 7 (.int .i64 x7.1)
        generalize World.setCell (World.setCell (World.setCell _ _ _) _ _) _ _ = V6 at D6 ⊢
        clear D5 D4 hqs hqf
        have HRep := Lib.hid (show repS (sl, false) = (⟨x0.1.toNat, x1.1.toNat, x3.1, x4.1, x5.1, x6.1, x2.1.toNat, x7.1⟩, x7.2) by unfold repS; simp only []; rw [← HX0.out, ← HX1.out, ← HX2.out, ← HX3.out, ← HX4.out, ← HX5.out, ← HX6.out, ← HX7.out])
        have hqs := D6.Q.cell
        have hss := D6.I.s.cell
        obtain ⟨y, hy⟩ : ∃ y, y = (⟨x0.1.toNat, x1.1.toNat, x3.1, x4.1, x5.1, x6.1, x2.1.toNat, x7.1⟩ : Rep) := ⟨_, rfl⟩
        have OA := Lib.hid (D6.O.alloc (.cells y.arr 68))
        have IA := Lib.hid (D6.I.alloc (.cells y.arr 68))
        have LA : g + 1 ≤ (V6.alloc (.cells y.arr 68)).heap.size := by have := D6.Q.lt; have := D6.hq; simp; omega
        have CA := Lib.hid (fun j => cell_of_row (V6.alloc (.cells y.arr 68)) V6.heap.size j y.arr 68 (0, 0) (heap_alloc_new V6 _))
        have HY := Lib.hid hy
        subst hy
        have eq8 : ∀ j, j < 8 → V6.cell? ⟨q, 0 + j, none⟩ = (#[.int .i64 (x0.1.toNat : Int), .int .u8 (x1.1.toNat : Int), .int .i64 x3.1, .int .i64 x4.1, .int .i64 x5.1, .int .i64 x6.1, .int .i64 (x2.1.toNat : Int), .int .i64 x7.1] : Array Value)[j]? := fun j _ => by rw [Nat.zero_add]; exact hqs j
        go_wp2_with (first
          | ((with_reducible refine at_load 68 (.tmp 9) rfl ?_); refine wpList_load_arr rfl 68 (.tmp 9) rfl q 0 rfl (#[.int .i64 (x0.1.toNat : Int), .int .u8 (x1.1.toNat : Int), .int .i64 x3.1, .int .i64 x4.1, .int .i64 x5.1, .int .i64 x6.1, .int .i64 (x2.1.toNat : Int), .int .i64 x7.1] : Array Value) _ _ rfl eq8 Tryz.underlying68 rfl info_rep ?_)
          | (at_builtin
             refine wpList_append_item rfl (.tmp 101) (.tmp 103) 22 68 8 64 Rep.zero.val info_rep_all rfl (by decide) Tryz.underlying22 rfl OA.out rfl (⟨x0.1.toNat, x1.1.toNat, x3.1, x4.1, x5.1, x6.1, x2.1.toNat, x7.1⟩ : Rep).arr V6.heap.size 1 rfl (Rep.arr_one _) rfl CA.out (by rw [List.length_map]; unfold maxLen; omega) (by rw [List.length_map]; omega) LA ?_
             intro v' W' O' G'
             obtain ⟨A2, c2, rfl, hc2, hI2, _, hcm2⟩ := O'.form (sizes_app rs _)
             rw [List.length_append, List.length_map, List.length_singleton] at O' hc2 ⊢
             have I' := DecI.grown h1 h2 IA.out OA.out G'
             have hss' := I'.s.cell
             have hsf' := I'.s.frozen
             clear OA IA LA CA eq8 hqs hss hI2 G'))
        go_roundw
        case rel =>
          refine ⟨rs ++ [⟨x0.1.toNat, x1.1.toNat, x3.1, x4.1, x5.1, x6.1, x2.1.toNat, x7.1⟩], x7.2, A2, c2, by simp; omega, by rw [List.length_append, List.length_singleton]; go_num, ?_, ?_, by simp; omega, hcm2, ?_⟩
          · have I2 := DecI.set h1 h2 I' 1 (.slice A2 (rs.length + 1) c2)
            have e : (S.withReps (rs ++ [⟨x0.1.toNat, x1.1.toNat, x3.1, x4.1, x5.1, x6.1, x2.1.toNat, x7.1⟩])).arr A2 c2 = ((S.withReps rs).arr A' c').setIfInBounds 1 (.slice A2 (rs.length + 1) c2) := by
              unfold Sense.arr
              rw [withReps_reps, List.length_append, List.length_singleton]
              rfl
            rw [e]
            exact I2
          · rw [List.length_append, List.length_singleton, List.map_append]
            exact O'.keep fun k hk => Below.heap_setCell _ _ _ _ (by show k ≠ sb; have := (O'.own_lt k hk).2; omega)
          · rw [HQ.out, repsS_step _ _ _ hrep.out, HRep.out, List.length_append, List.length_singleton]
            simp
        case measure => simp [intOf]; omega
    · have HQ2 := Lib.hid (show repsS n.1.toNat fu.2 = (rs, (sl, bad)) by
        rw [HQ.out]
        by_cases hlt : rs.length < n.1.toNat
        · have hb : bad = true := by rcases Bool.eq_false_or_eq_true bad with h | h <;> first | exact h | exact absurd ⟨hlt, h⟩ hcont
          subst hb
          rw [repsS_bad]; simp
        · rw [show n.1.toNat - rs.length = 0 by omega, repsS]; simp)
      go_upto_region 11 with (fail)
      go_cut [69] from 60 to 105 (fun sv wx => sv = .bool false ∧ wx = wr)
      case first =>
        by_cases hlt : rs.length < n.1.toNat
        · have hb : bad = true := by rcases Bool.eq_false_or_eq_true bad with h | h <;> first | exact h | exact absurd ⟨hlt, h⟩ hcont
          subst hb
          go_wp2
          go_meet
          exact ⟨rfl, rfl⟩
        · go_wp2
          go_meet
          exact ⟨rfl, rfl⟩
      case rest =>
        obtain ⟨rfl, rfl⟩ := hcut
        clear cg
        obtain ⟨A3, c3, hbk, q3, _, hR3, _⟩ := I.scan
        have cg : wc.cell? ⟨g, 0, none⟩ = some (.slice A3 sl.length c3) := hbk.cell 0
        have cgb : wc.cell? ⟨g, 1, none⟩ = some (.bool bad) := hbk.cell 1
        have cv := conv_rd hR3 (c := c3)
        have hs := I.s.cell
        have hf := I.s.frozen
        clear hbk q3 hcont
        go_upto_region 19 with (fail)
        obtain ⟨S2, hS2⟩ : ∃ S2 : Sense, S2 = { S.withReps rs with cmd := sl } := ⟨_, rfl⟩
        have I12 : DecI w (wc.setCell ⟨sb, 12, none⟩ (.string ⟨sl.toArray⟩)) rb sb g (S2.arr A' c') (sl, bad) := by
          rw [hS2]; exact DecI.set h1 h2 I 12 (.string ⟨sl.toArray⟩)
        have O12 : GOut (g + 1) (wc.setCell ⟨sb, 12, none⟩ (.string ⟨sl.toArray⟩)) 68 8 (.slice A' rs.length c') (rs.map Rep.arr) :=
          O.keep fun k hk => Below.heap_setCell _ _ _ _ (by show k ≠ sb; have := (O.own_lt k hk).2; omega)
        have HSen := Lib.hid (show senseS l = (S2, bad) by
          unfold senseS
          simp only []
          rw [← HF.out, ← HN.out, ← HT.out, ← HVE.out, ← HVN.out, ← HDR.out, ← HAL.out, ← HVS.out, ← HCA.out, ← HFU.out, HQ2.out, hS2, HS.out, HA1.out, HA2.out, HA3.out]
          rfl)
        have hcl : sl.length ≤ l.length := by have := senseS_le l; rw [HSen.out, hS2] at this; exact this
        have hrl : rs.length ≤ 255 := by omega
        obtain ⟨A4, c4, e4, _, hIt, hge, _⟩ := O12.form (by intro x hx; obtain ⟨y, _, rfl⟩ := List.mem_map.1 hx; rfl)
        have hok : S2.ok (wc.setCell ⟨sb, 12, none⟩ (.string ⟨sl.toArray⟩)) A' c' := by
          injection e4 with e5 e6 e7
          refine ⟨?_, ?_, ?_, ?_⟩
          · rw [hS2]; show rs.length ≤ _; omega
          · rw [hS2]; exact hrc
          · rw [hS2]; show sl.length ≤ _; omega
          · rw [hS2, e5]; exact hIt
        have hge' : ∀ a, A' = some a → a.block ≠ rb := by
          injection e4 with e5 e6 e7
          intro a ha
          have := hge a (by rw [← e5]; exact ha)
          omega
        have HOK := Lib.hid hok
        have HS2 := Lib.hid hS2
        clear hS2 hok hIt e4 hge O12 O HQ2 HQ HF HN HT HVE HVN HDR HAL HVS HCA HFU HS HA1 HA2 HA3 cv cg cgb hs hf I hR3
        generalize World.setCell _ _ _ = W12 at I12 HOK ⊢
        obtain ⟨z, hz⟩ : ∃ z, senseCheck S2 = z := ⟨_, rfl⟩
        have HZ := Lib.hid hz; clear hz
        have hs := I12.s.cell
        have e13 : ∀ j, j < 13 → W12.cell? ⟨sb, 0 + j, none⟩ = (S2.arr A' c')[j]? := fun j _ => by rw [Nat.zero_add]; exact hs j
        go_wp2_with (first
          | ((with_reducible refine at_load 26 (.tmp 4) rfl ?_); refine wpList_load_arr rfl 26 (.tmp 4) rfl sb 0 rfl (S2.arr A' c') _ _ rfl e13 Tryz.underlying26 rfl infoSense ?_)
          | fail)
        refine (encode_any S2 A' c' W12 HOK.out).mono ?_
        rintro e w13 ⟨v13, rfl, O13, B13⟩
        rw [HZ.out]
        have I13 := I12.step B13
        have HOK13 := Lib.hid (HOK.out.below B13)
        obtain ⟨A5, c5, rfl, hc5, hm5, hR5⟩ := O13.rd
        have hR13 := hR.below I13.below
        have hel := encE_len S2
        obtain ⟨b5, hb5⟩ : ∃ b, decide (l = encE S2) = b := ⟨_, rfl⟩
        have HB5 := Lib.hid (u8_beq_eq _ _ _ hb5)
        have HEQ := sleq_any A A5 l (encE S2) c c5 w.heap.size w13.heap.size w13 hR13 hR5 hlc hc5 hl (by omega)
        rw [hb5] at HEQ
        have HEQ := Lib.hid HEQ
        clear hb5
        obtain ⟨A6, c6, hbk, q3, _, hR6, _⟩ := I13.scan
        have cgb : w13.cell? ⟨g, 1, none⟩ = some (.bool bad) := hbk.cell 1
        clear hbk q3 hR6 hR13 hR5 O13 hs e13 I12 B13 hR
        have hno := Lib.hid (show ¬ (bad = false ∧ z = 0 ∧ b5 = true) → decS l = none by
          intro h
          unfold decS
          rw [HSen.out]
          simp only []
          rw [HZ.out, if_neg]
          rintro ⟨q1, q2, q3⟩
          refine h ⟨q1, q2, ?_⟩
          have e : encE S2 = encB S2 := by unfold encE; rw [HZ.out, if_pos q2]
          rw [← HB5.out, e]; exact q3)
        have hyes := Lib.hid (show bad = false ∧ z = 0 ∧ b5 = true → decS l = some S2 by
          rintro ⟨q1, q2, q3⟩
          unfold decS
          rw [HSen.out]
          simp only []
          rw [HZ.out, if_pos]
          refine ⟨q1, q2, ?_⟩
          have e : encE S2 = encB S2 := by unfold encE; rw [HZ.out, if_pos q2]
          rw [← e, HB5.out]; exact q3)
        have fin0 : ∀ (W : World), DecI w W rb sb g (S2.arr A' c') (sl, bad) → decS l = none → RetD w (decS l) (.returned (.tuple #[.agg (sense0.arr none 0), .int .i64 4])) (W.setRow rb (sense0.arr none 0)) := by
          intro W I hd
          rw [hd]
          exact ⟨none, 0, rfl, sense0_ok _ _ _, below_setRow' I.below I.lo _⟩
        have FIN0 := Lib.hid fin0
        clear fin0
        cases bad
        · by_cases hz0 : z = 0
          · subst hz0
            cases b5
            · go_wp2_with (first
                | (go_at_call 23; refine callQ HEQ.out ?_; intro nq; have I14 := I13.step (below_drewN (Below.refl _ _) nq); obtain ⟨tt, hrow⟩ := I14.r)
                | ((with_reducible refine at_store 26 (.tmp 2) (.tmp 131) rfl ?_); refine wpList_store_row rfl 26 (.tmp 2) (.tmp 131) rfl rb (sense0.arr none 0) rfl rfl tt (sense0.arr none 0) hrow infoSense rfl (Sense.arr_one _ _ _) ?_))
              exact bodyPost_ret (results_agg Tryz.results9 _ _ rb (sense0.arr none 0) 13 _ rfl rfl (Blk.set ⟨tt, hrow⟩ _).cell Tryz.underlying26 rfl infoSense) rfl (FIN0.out _ (by assumption) (hno.out (by simp)))
            · go_wp2_with (first
                | (go_at_call 23; refine callQ HEQ.out ?_; intro nq; have I14 := I13.step (below_drewN (Below.refl _ _) nq); obtain ⟨tt, hrow⟩ := I14.r; have hs14 := I14.s.cell; have e14 : ∀ j, j < 13 → (w13.drewN nq).cell? ⟨sb, 0 + j, none⟩ = (S2.arr A' c')[j]? := (fun j _ => by rw [Nat.zero_add]; exact hs14 j))
                | ((with_reducible refine at_load 26 (.tmp 4) rfl ?_); refine wpList_load_arr rfl 26 (.tmp 4) rfl sb 0 rfl (S2.arr A' c') _ _ rfl e14 Tryz.underlying26 rfl infoSense ?_)
                | ((with_reducible refine at_store 26 (.tmp 2) (.tmp 132) rfl ?_); refine wpList_store_row rfl 26 (.tmp 2) (.tmp 132) rfl rb (S2.arr A' c') rfl rfl tt (sense0.arr none 0) hrow infoSense rfl (Sense.arr_one _ _ _) ?_))
              refine bodyPost_ret (results_agg Tryz.results9 _ _ rb (S2.arr A' c') 13 _ rfl rfl (Blk.set ⟨tt, hrow⟩ _).cell Tryz.underlying26 rfl infoSense) rfl ?_
              rw [hyes.out (by simp)]
              have hok := HOK13.out.below (below_drewN (Below.refl _ _) nq)
              exact ⟨A', c', rfl, ⟨hok.len, hok.cap, hok.cmd, hok.reps.setRow _ hge'⟩, below_setRow' I14.below I14.lo _⟩
          · have hz1 : (z != 0) = true := by simpa using hz0
            have HZ0 := Lib.hid hz0
            clear hz0
            obtain ⟨tt, hrow⟩ := I13.r
            go_wp2_with ((with_reducible refine at_store 26 (.tmp 2) (.tmp 131) rfl ?_); refine wpList_store_row rfl 26 (.tmp 2) (.tmp 131) rfl rb (sense0.arr none 0) rfl rfl tt (sense0.arr none 0) hrow infoSense rfl (Sense.arr_one _ _ _) ?_)
            exact bodyPost_ret (results_agg Tryz.results9 _ _ rb (sense0.arr none 0) 13 _ rfl rfl (Blk.set ⟨tt, hrow⟩ _).cell Tryz.underlying26 rfl infoSense) rfl (FIN0.out _ I13 (hno.out (by rintro ⟨_, h, _⟩; exact HZ0.out h)))
        · obtain ⟨tt, hrow⟩ := I13.r
          go_wp2_with ((with_reducible refine at_store 26 (.tmp 2) (.tmp 131) rfl ?_); refine wpList_store_row rfl 26 (.tmp 2) (.tmp 131) rfl rb (sense0.arr none 0) rfl rfl tt (sense0.arr none 0) hrow infoSense rfl (Sense.arr_one _ _ _) ?_)
          exact bodyPost_ret (results_agg Tryz.results9 _ _ rb (sense0.arr none 0) 13 _ rfl rfl (Blk.set ⟨tt, hrow⟩ _).cell Tryz.underlying26 rfl infoSense) rfl (FIN0.out _ I13 (hno.out (by simp)))
end Go.Proofs.YtjcjglbdklmomaaGreatDoor
