/- Slices of bytes of the call's own. A slice that grows beside other blocks: what a step of it leaves as it was. -/
import Derived.Test.YtlleijickhifmaaGreatDoorPk03
import Derived.Laws.OwnMore
import Derived.Lib.AppendStr
import Derived.Maps.AppendAt
namespace Go.Proofs.YtlleijickhifmaaGreatDoor
open Go.RowKit
set_option linter.unusedVariables false
set_option linter.unusedSimpArgs false
set_option maxRecDepth 100000
def bval (c : UInt8) : Value := .int .u8 c.toNat
def bvals (l : List UInt8) : List Value := l.map bval
/-- The slice v, made since B, holds the bytes l. -/
def BOut (B : Nat) (W : World) (v : Value) (l : List UInt8) : Prop := W.ownsRow B 5 1 v l.length (bvals l)
theorem BOut.nil (B : Nat) (W : World) : BOut B W (.slice none 0 0) [] := ⟨rfl, .inl ⟨rfl, rfl⟩⟩
theorem info_u8 : (Tryz.prog.info? 5).map (fun i => (i.zero, i.size, i.bytes)) = some (some (.int .u8 0), 1, 1) := by kernel_rfl
/-- 'b = append(b, c)': the source is a new block of one byte. -/
theorem wpList_append_bout {ops : Array Oper} {rest : List Oper} {op : Oper} {a : Act} {Q : Exit → Act → World → Prop} {B : Nat} {W : World} {v : Value} {l : List UInt8} (hgd : op.guard = none) (s x : Operand)
    (ho : op.op = .call { callee := .builtin .append, args := #[s, x], argTypes := #[71, 71] }) (h : BOut B W v l) (hs : a.eval s = v) (t : UInt8) (g c : Nat)
    (hx : a.eval x = .slice (some ⟨g, 0, none⟩) 1 c) (hg : W.cell? ⟨g, 0, none⟩ = some (bval t)) (hn : l.length + 1 ≤ 10000000) (hb : B ≤ W.heap.size)
    (k : ∀ v' W', BOut B W' v' (l ++ [t]) → W.grownBy W' v.ownBlock → wpList Tryz.prog ops Q rest (a.put op.dst v') W') : wpList Tryz.prog ops Q (op :: rest) a W := by
  obtain ⟨i0, hi, hz0, hz1, hz2⟩ := info_parts info_u8
  refine wpList_append_own W hgd s x 71 ho B 5 i0 _ 1 1 Tryz.underlying71 hi hz0 hz1 hz2 rfl (by omega) v l.length (bvals l) hs h ⟨g, 0, none⟩ 1 c [bval t] hx rfl ?_ (by simp [bval, Value.oneCell']) (by unfold maxLen; omega) (by omega) hb ?_
  · intro j u hu
    match j, hu with
    | 0, hu => rw [addr_add, Nat.zero_add, hg]; simpa using hu
    | j + 1, hu => simp at hu
  · intro v' W' h1 h2 _
    refine k v' W' ?_ h2
    unfold BOut
    rw [List.length_append, bvals, List.map_append]
    exact h1
theorem below_bgrown {B : Nat} {w0 W W' : World} {v : Value} {l : List UInt8} (hB : Below B w0 W) (hle : B ≤ W.heap.size) (hO : BOut B W v l) (hg : W.grownBy W' v.ownBlock) : Below B w0 W' := by
  refine hB.grown hg hle ?_
  intro g he
  rcases hO.2 with ⟨rfl, _⟩ | ⟨g', cap, cur, rfl, hgb, _⟩
  · simp [Value.ownBlock] at he
  · have : g' = g := by simpa [Value.ownBlock] using he
    omega
/-- The call returns a slice of bytes l made since B; what was there below B is as it was. -/
def RetB (B : Nat) (w : World) (l : List UInt8) (e : Ending) (w' : World) : Prop := ∃ v, e = .returned v ∧ BOut B w' v l ∧ Below B w w' ∧ B ≤ w'.heap.size
theorem BOut.form {B : Nat} {W : World} {v : Value} {l : List UInt8} (h : BOut B W v l) : ∃ A c, v = .slice A l.length c := by
  obtain ⟨hl, h⟩ := h
  rcases h with ⟨rfl, h0⟩ | ⟨g, cap, cur, rfl, hg, hb, hn, _, hsz, hc⟩
  · exact ⟨none, 0, by rw [h0]⟩
  · exact ⟨_, _, rfl⟩
theorem set_digit (l : List UInt8) (m : Nat) (d : UInt8) (r : List UInt8) : (bvals (l ++ List.replicate (m + 1) 48 ++ r)).set (l.length + m) (bval d) = bvals (l ++ List.replicate m 48 ++ (d :: r)) := by
  rw [List.replicate_succ']
  unfold bvals
  simp only [List.map_append, List.map_cons, List.map_nil, List.append_assoc]
  rw [List.set_append_right _ _ (by simp), List.set_append_right _ _ (by simp)]
  simp
theorem BOut.some {B : Nat} {W : World} {v : Value} {l : List UInt8} (h : BOut B W v l) (h0 : 0 < l.length) : ∃ g cap, v = .slice (.some ⟨g, 0, none⟩) l.length cap ∧ B ≤ g := by
  obtain ⟨hl, h⟩ := h
  rcases h with ⟨rfl, h1⟩ | ⟨g, cap, cur, rfl, hg, hb, hn, _, hsz, hc⟩
  · omega
  · exact ⟨g, cap, rfl, hg⟩
theorem BOut.cellAt {B g n cap : Nat} {W : World} {l : List UInt8} (h : BOut B W (.slice (.some ⟨g, 0, none⟩) n cap) l) (hn : n = l.length) (j : Nat) (hj : j < l.length) : W.cell? ⟨g, j, none⟩ = .some (bval l[j]) := by
  subst hn
  rw [World.ownsRow.cellAt h j (by omega)]
  simp [bvals, hj]
theorem BOut.stored {B g n cap : Nat} {W : World} {l l' : List UInt8} (h : BOut B W (.slice (.some ⟨g, 0, none⟩) n cap) l) (hn : n = l.length) (hB : B ≤ g) (j : Nat) (d : UInt8) (he : (bvals l).set j (bval d) = bvals l') (hl : l'.length = l.length) : BOut B (W.setCell ⟨g, j, none⟩ (bval d)) (.slice (.some ⟨g, 0, none⟩) n cap) l' := by
  subst hn
  have := (World.ownsRow.stored h j (bval d)).1
  rw [he] at this
  unfold BOut
  rw [hl]
  exact this
theorem conv_bout {B : Nat} {W : World} {v : Value} {l : List UInt8} (h : BOut B W v l) : (convert 71 9 v).run Tryz.prog W = .ok (.string ⟨l.toArray⟩) W := by
  rcases Nat.eq_zero_or_pos l.length with h0 | h0
  · obtain rfl : l = [] := List.eq_nil_of_length_eq_zero h0
    obtain ⟨hl, h⟩ := h
    rcases h with ⟨rfl, h1⟩ | ⟨g, cap, cur, rfl, hg, hb, hn, _, hsz, hc⟩
    · exact run_convert_bytes_nil W 71 5 Tryz.underlying71 Tryz.underlying5 0 0 9 Tryz.underlying9
    · exact run_convert_bytes_arg W 71 5 Tryz.underlying71 Tryz.underlying5 g 0 0 cap [] rfl (by intro i hi; omega) 9 Tryz.underlying9
  · obtain ⟨g, cap, rfl, hB⟩ := h.some h0
    rw [run_convert_bytes_arg W 71 5 Tryz.underlying71 Tryz.underlying5 g 0 l.length cap (l.map fun c => (c.toNat : Int)) (by simp) (by
      intro i hi
      rw [Nat.zero_add, h.cellAt rfl i hi]
      simp [bval, hi]) 9 Tryz.underlying9]
    unfold strOfNums
    rw [List.map_map]
    congr 3
    have : (fun n : Int => UInt8.ofNat n.toNat) ∘ (fun c : UInt8 => (c.toNat : Int)) = id := by
      funext c; simp
    rw [this, List.map_id]
/-- 'b = append(b, c1, .., cn)': the source is a new block of these bytes. -/
theorem wpList_append_bouts {ops : Array Oper} {rest : List Oper} {op : Oper} {a : Act} {Q : Exit → Act → World → Prop} {B : Nat} {W : World} {v : Value} {l : List UInt8} (hgd : op.guard = none) (s x : Operand)
    (ho : op.op = .call { callee := .builtin .append, args := #[s, x], argTypes := #[71, 71] }) (h : BOut B W v l) (hs : a.eval s = v) (t : List UInt8) (g m c : Nat) (hm : t.length = m)
    (hx : a.eval x = .slice (some ⟨g, 0, none⟩) m c) (hg : ∀ j u, (bvals t)[j]? = some u → W.cell? ⟨g, j, none⟩ = some u) (hn : l.length + m ≤ 10000000) (hb : B ≤ W.heap.size)
    (k : ∀ v' W', BOut B W' v' (l ++ t) → W.grownBy W' v.ownBlock → wpList Tryz.prog ops Q rest (a.put op.dst v') W') : wpList Tryz.prog ops Q (op :: rest) a W := by
  obtain ⟨i0, hi, hz0, hz1, hz2⟩ := info_parts info_u8
  subst hm
  refine wpList_append_own W hgd s x 71 ho B 5 i0 _ 1 1 Tryz.underlying71 hi hz0 hz1 hz2 rfl (by omega) v l.length (bvals l) hs h ⟨g, 0, none⟩ t.length c (bvals t) hx (by simp [bvals]) ?_ (by intro u hu; obtain ⟨z, _, rfl⟩ := List.mem_map.1 hu; simp [bval, Value.oneCell']) (by unfold maxLen; omega) (by omega) hb ?_
  · intro j u hu
    rw [addr_add, Nat.zero_add]; exact hg j u hu
  · intro v' W' h1 h2 _
    refine k v' W' ?_ h2
    unfold BOut
    rw [List.length_append, bvals, List.map_append]
    exact h1
theorem strCells_bvals (l : List UInt8) : Lib.strCells ⟨l.toArray⟩ = bvals l := by
  simp [Lib.strCells, bvals, bval]
/-- 'b = append(b, s...)', s a string. -/
theorem wpList_append_bstr {ops : Array Oper} {rest : List Oper} {op : Oper} {a : Act} {Q : Exit → Act → World → Prop} {B : Nat} {W : World} {v : Value} {l : List UInt8} (hgd : op.guard = none) (s x : Operand)
    (ho : op.op = .call { callee := .builtin .append, args := #[s, x], argTypes := #[71, 9] }) (h : BOut B W v l) (hs : a.eval s = v) (t : List UInt8)
    (hx : a.eval x = .string ⟨t.toArray⟩) (hn : l.length + t.length ≤ 10000000) (hb : B ≤ W.heap.size)
    (k : ∀ v' W', BOut B W' v' (l ++ t) → W.grownBy W' v.ownBlock → wpList Tryz.prog ops Q rest (a.put op.dst v') W') : wpList Tryz.prog ops Q (op :: rest) a W := by
  obtain ⟨i0, hi, hz0, hz1, hz2⟩ := info_parts info_u8
  refine Lib.wpList_append_own_string (w := W) hgd s x 71 9 ho B 5 i0 Tryz.underlying71 Tryz.underlying9 hi hz0 hz1 hz2 v l.length (bvals l) hs h ⟨t.toArray⟩ hx (by unfold maxLen; simp [ByteArray.size]; omega) (by simp [ByteArray.size]; omega) hb ?_
  intro v' W' h1 h2 _
  refine k v' W' ?_ h2
  unfold BOut
  rw [List.length_append, bvals, List.map_append]
  rw [strCells_bvals] at h1
  simpa [ByteArray.size, bvals] using h1
/-- A literal of bytes in the block that was made last. -/
theorem BOut.lit (B : Nat) (w : World) (l : List UInt8) (hb : B ≤ w.heap.size) (hm : l.length ≤ 10000000) : BOut B (w.alloc (.cells (bvals l).toArray 5)) (.slice (Option.some ⟨w.heap.size, 0, none⟩) l.length l.length) l := by
  have := World.ownsRow_lit (e := 5) (base := B) (size := 1) w (bvals l).toArray l.length hb (by unfold maxLen; omega) (by simp [bvals])
  unfold BOut
  simpa using this
end Go.Proofs.YtlleijickhifmaaGreatDoor
namespace Go.Proofs.YtlleijickhifmaaGreatDoor
open Go.RowKit
set_option linter.unusedVariables false
set_option linter.unusedSimpArgs false
set_option maxRecDepth 100000
/-- From world w with the slice v to world w' with the slice v': all old blocks but v's own are as they were; v' lies where v lay, or in a new block. -/
structure Gro (w : World) (v : Value) (w' : World) (v' : Value) : Prop where
  grown : w.grownBy w' v.ownBlock
  own : v'.ownBlock = v.ownBlock ∨ ∃ g, v'.ownBlock = some g ∧ w.heap.size ≤ g
theorem Gro.refl (w : World) (v : Value) : Gro w v w v := ⟨⟨rfl, rfl, rfl, Nat.le_refl _, fun _ _ _ => rfl⟩, .inl rfl⟩
theorem Gro.size {w w' : World} {v v' : Value} (h : Gro w v w' v') : w.heap.size ≤ w'.heap.size := h.grown.size
theorem Gro.trans {a b c : World} {u v x : Value} (h : Gro a u b v) (k : Gro b v c x) : Gro a u c x where
  grown := ⟨k.grown.os.trans h.grown.os, k.grown.tape.trans h.grown.tape, k.grown.output.trans h.grown.output, Nat.le_trans h.size k.size, fun i hi hne => by
    refine (k.grown.block i (Nat.lt_of_lt_of_le hi h.size) ?_).trans (h.grown.block i hi hne)
    rcases h.own with e | ⟨g, e, hg⟩
    · rw [e]; exact hne
    · rw [e]; intro q; injection q with q; omega⟩
  own := by
    rcases k.own with e | ⟨g, e, hg⟩
    · rw [e]; exact h.own
    · exact .inr ⟨g, e, Nat.le_trans h.size hg⟩
theorem Gro.alloc (w : World) (v : Value) (o : Obj) : Gro w v (w.alloc o) v := ⟨(World.grownBy_alloc w o none).but _, .inl rfl⟩
theorem Gro.drew (w : World) (v : Value) : Gro w v w.drew v := ⟨⟨rfl, rfl, rfl, Nat.le_refl _, fun _ _ _ => rfl⟩, .inl rfl⟩
theorem Gro.below {w w' : World} {v : Value} (h : Below w.heap.size w w') : Gro w v w' v := ⟨⟨h.os, h.tape, h.output, h.size, fun k hk _ => h.block k hk⟩, .inl rfl⟩
/-- Block g holds the cells cs, and is not the slice's own. -/
structure Fix (w : World) (v : Value) (g : Nat) (cs : Array Value) : Prop where
  lt : g < w.heap.size
  far : some g ≠ v.ownBlock
  cell : ∀ j, w.cell? ⟨g, j, none⟩ = cs[j]?
theorem Fix.step {w w' : World} {v v' : Value} {g : Nat} {cs : Array Value} (h : Fix w v g cs) (k : Gro w v w' v') : Fix w' v' g cs where
  lt := Nat.lt_of_lt_of_le h.lt k.size
  far := by
    rcases k.own with e | ⟨q, e, hq⟩
    · rw [e]; exact h.far
    · rw [e]; intro z; injection z with z; have := h.lt; omega
  cell j := by rw [World.cell?_of_block (k.grown.block g h.lt h.far)]; exact h.cell j
theorem Fix.alloc {w : World} {v : Value} {g : Nat} {cs : Array Value} (h : Fix w v g cs) (o : Obj) : Fix (w.alloc o) v g cs := h.step (Gro.alloc w v o)
theorem BOut.alloc {B : Nat} {W : World} {v : Value} {l : List UInt8} (h : BOut B W v l) (o : Obj) : BOut B (W.alloc o) v l := World.ownsRow.alloc h o
theorem BOut.own_lt {B : Nat} {W : World} {v : Value} {l : List UInt8} (h : BOut B W v l) : ∀ g, v.ownBlock = Option.some g → g < W.heap.size ∧ B ≤ g := by
  intro g he
  obtain ⟨hl, h⟩ := h
  rcases h with ⟨rfl, h1⟩ | ⟨g', cap, cur, rfl, hg, hb, hn, _, hsz, hc⟩
  · simp [Value.ownBlock] at he
  · have : g' = g := by simpa [Value.ownBlock] using he
    subst this
    refine ⟨?_, hg⟩
    rcases Nat.lt_or_ge g' W.heap.size with h | h
    · exact h
    · rw [Array.getElem?_eq_none h] at hb; cases hb
theorem Fix.new {B : Nat} {w : World} {v : Value} {l : List UInt8} (h : BOut B w v l) (cs : Array Value) (t : TypeId) : Fix (w.alloc (.cells cs t)) v w.heap.size cs where
  lt := by simp
  far := by intro e; have := (h.own_lt _ e.symm).1; omega
  cell j := cell_of_row _ _ j cs t (0, 0) (heap_alloc_new w _)
theorem Gro.below_of {B : Nat} {w0 w w' : World} {v v' : Value} {l : List UInt8} (h : Gro w v w' v') (hB : Below B w0 w) (hO : BOut B w v l) (hle : B ≤ w.heap.size) : Below B w0 w' :=
  below_bgrown hB hle hO h.grown
/-- 'b = append(b, c1, .., cn)' beside other blocks. -/
theorem wpList_append_gro {ops : Array Oper} {rest : List Oper} {op : Oper} {a : Act} {Q : Exit → Act → World → Prop} {B : Nat} {W : World} {v : Value} {l : List UInt8} (hgd : op.guard = none) (s x : Operand)
    (ho : op.op = .call { callee := .builtin .append, args := #[s, x], argTypes := #[71, 71] }) (h : BOut B W v l) (hs : a.eval s = v) (t : List UInt8) (g m c : Nat) (hm : t.length = m)
    (hx : a.eval x = .slice (some ⟨g, 0, none⟩) m c) (hg : ∀ j u, (bvals t)[j]? = some u → W.cell? ⟨g, j, none⟩ = some u) (hn : l.length + m ≤ 10000000) (hb : B ≤ W.heap.size)
    (k : ∀ v' W', BOut B W' v' (l ++ t) → Gro W v W' v' → wpList Tryz.prog ops Q rest (a.put op.dst v') W') : wpList Tryz.prog ops Q (op :: rest) a W := by
  obtain ⟨i0, hi, hz0, hz1, hz2⟩ := info_parts info_u8
  subst hm
  refine wpList_append_own_at (w := W) hgd s x 71 ho B 5 i0 _ 1 1 Tryz.underlying71 hi hz0 hz1 hz2 rfl (by omega) v l.length (bvals l) hs h ⟨g, 0, none⟩ t.length c (bvals t) hx (by simp [bvals]) ?_ (by intro u hu; obtain ⟨z, _, rfl⟩ := List.mem_map.1 hu; simp [bval, Value.oneCell']) (by unfold maxLen; omega) (by omega) hb ?_
  · intro j u hu
    rw [addr_add, Nat.zero_add]; exact hg j u hu
  · intro v' W' h1 h2 _ h4
    refine k v' W' ?_ ⟨h2, ?_⟩
    · unfold BOut
      rw [List.length_append, bvals, List.map_append]
      exact h1
    · rcases h4 with e | e
      · exact .inl e
      · exact .inr ⟨_, e, Nat.le_refl _⟩
/-- The call returns a slice of bytes l, grown out of v. -/
def RetG (B : Nat) (w : World) (v : Value) (l : List UInt8) (e : Ending) (w' : World) : Prop := ∃ v', e = .returned v' ∧ BOut B w' v' l ∧ Gro w v w' v'
theorem callG1 {P : Program} {f : FuncId} {args : Array Value} {B : Nat} {W : World} {v : Value} {l : List UInt8} {K : Ending → World → Prop} {g1 : Nat} {c1 : Array Value} (h1 : Fix W v g1 c1) (h : Calls P f args W (RetG B W v l))
    (k : ∀ v' w', BOut B w' v' l → Gro W v w' v' → Fix w' v' g1 c1 → (∀ j, w'.cell? ⟨g1, j, none⟩ = c1[j]?) → K (.returned v') w') : Calls P f args W K :=
  h.mono fun e w' ⟨v', he, hO, hG⟩ => by subst he; exact k v' w' hO hG (h1.step hG) (h1.step hG).cell
theorem callG2 {P : Program} {f : FuncId} {args : Array Value} {B : Nat} {W : World} {v : Value} {l : List UInt8} {K : Ending → World → Prop} {g1 g2 : Nat} {c1 c2 : Array Value} (h1 : Fix W v g1 c1) (h2 : Fix W v g2 c2) (h : Calls P f args W (RetG B W v l))
    (k : ∀ v' w', BOut B w' v' l → Gro W v w' v' → Fix w' v' g1 c1 → Fix w' v' g2 c2 → (∀ j, w'.cell? ⟨g1, j, none⟩ = c1[j]?) → (∀ j, w'.cell? ⟨g2, j, none⟩ = c2[j]?) → K (.returned v') w') : Calls P f args W K :=
  h.mono fun e w' ⟨v', he, hO, hG⟩ => by subst he; exact k v' w' hO hG (h1.step hG) (h2.step hG) (h1.step hG).cell (h2.step hG).cell
end Go.Proofs.YtlleijickhifmaaGreatDoor
