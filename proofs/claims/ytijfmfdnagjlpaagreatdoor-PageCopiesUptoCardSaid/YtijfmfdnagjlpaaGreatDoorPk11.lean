/- Layer 58's example in plain Lean. Slices of bytes of the call's own. A slice that grows beside other blocks: what a step of it leaves as it was. Layer 58: the keys. -/
import Derived.Test.YtijfmfdnagjlpaaGreatDoorPk10
import Derived.Test.YtijfmfdnagjlpaaGreatDoorPk04
import Derived.Laws.OwnMore
import Derived.Lib.AppendStr
import Derived.Maps.AppendAt
import Derived.Test.YtijfmfdnagjlpaaGreatDoorPk08
import Derived.Lib.OthersKept
import Derived.Deep.RegionHeld3
import Derived.Deep.AppendLies
namespace Go.Proofs.YtijfmfdnagjlpaaGreatDoor
open Go.RowKit
set_option linter.unusedVariables false
set_option linter.unusedSimpArgs false
set_option maxRecDepth 100000
def leg58 (ty : Int) (f : List UInt8) : Leg := ⟨ty, f, [], 0, false, 0, 0, 0, 0, -200000, 6000000, 0, 0⟩
def ent58 (ty : Int) (f : List UInt8) : Entry := ⟨false, leg58 ty f, 0, 0, 0, 0, 2, []⟩
def names58 : List (List UInt8) := [[65, 47, 48, 48], [66, 47, 48, 48], [67, 47, 48, 48]]
def es58 : List Entry := [ent58 1 [65, 47, 48, 48], ent58 2 [66, 47, 48, 48], ent58 2 [67, 47, 48, 48]]
def vw58 : Vw := ⟨⟨[], [], es58, 1⟩, ⟨[], [], [], 0⟩, false, 0, 0, 0, 0, false, 0, 0, 0, 0, 0, 0, 0, 0, [], 0⟩
def keys58 : List (List UInt8) := [[65], [47], [48], [48]]
def padN (k : Nat) : List UInt8 := ([65, 47, 48, 48] : List UInt8).take k
theorem p58_0 : pressS ⟨1, 0, []⟩ vw58 [65] = (⟨1, 0, [65]⟩, [], 0) := by kernel_rfl
theorem p58_1 : pressS ⟨1, 0, [65]⟩ vw58 [47] = (⟨1, 0, [65, 47]⟩, [], 0) := by kernel_rfl
theorem p58_2 : pressS ⟨1, 0, [65, 47]⟩ vw58 [48] = (⟨1, 0, [65, 47, 48]⟩, [], 0) := by kernel_rfl
theorem p58_3 : pressS ⟨1, 0, [65, 47, 48]⟩ vw58 [48] = (⟨1, 0, [65, 47, 48, 48]⟩, [], 0) := by kernel_rfl
theorem p58_N (k : Nat) (h : k < 4) : pressS ⟨1, 0, padN k⟩ vw58 (keys58.getD k []) = (⟨1, 0, padN (k + 1)⟩, [], 0) := by
  match k, h with
  | 0, _ => exact p58_0
  | 1, _ => exact p58_1
  | 2, _ => exact p58_2
  | 3, _ => exact p58_3
theorem p58_L2 : pressS ⟨1, 0, [65, 47, 48, 48]⟩ vw58 [76, 50] = (⟨1, 0, []⟩, [69, 68, 73, 84, 32, 73, 78, 83, 69, 82, 84, 32, 49, 32, 65, 47, 48, 48], 0) := by kernel_rfl
theorem p58_R1 : pressS ⟨1, 0, []⟩ vw58 [82, 49] = (⟨1, 0, [45]⟩, [], 0) := by kernel_rfl
theorem p58_R1b : pressS ⟨1, 0, [45]⟩ vw58 [82, 49] = (⟨1, 0, []⟩, [69, 68, 73, 84, 32, 65, 76, 84, 32, 48, 32, 45], 0) := by kernel_rfl
def l58 : List (List UInt8) := renderS ⟨1, 0, [45]⟩ vw58
theorem l58_0 : l58[0]? = some [65, 67, 84, 32, 76, 69, 71, 83, 32, 32, 32, 32, 32, 32, 32, 32, 32, 32, 32, 32, 32, 49, 47, 49] := by kernel_rfl
theorem l58_3 : l58[3]? = some [84, 70, 32, 60, 32, 32, 32, 32, 32, 32, 32, 32, 32, 32, 32, 32, 32, 32, 32, 32, 32, 32, 32, 32] := by kernel_rfl
theorem l58_4 : l58[4]? = some [66, 47, 48, 48, 32, 32, 32, 32, 32, 32, 32, 32, 32, 32, 32, 32, 32, 32, 32, 32, 32, 32, 32, 45] := by kernel_rfl
theorem l58_13 : l58[13]? = some [91, 45, 93, 32, 32, 32, 32, 32, 32, 32, 32, 32, 32, 32, 32, 32, 32, 32, 32, 32, 32, 32, 32, 32] := by kernel_rfl
theorem l58_len : l58.length = 14 := renderS_len _ _
end Go.Proofs.YtijfmfdnagjlpaaGreatDoor
namespace Go.Proofs.YtijfmfdnagjlpaaGreatDoor
open Go.RowKit
set_option linter.unusedVariables false
set_option linter.unusedSimpArgs false
set_option maxRecDepth 100000
def bval (c : UInt8) : Value := .int .u8 c.toNat
def bvals (l : List UInt8) : List Value := l.map bval
/-- The slice v, made since B, holds the bytes l. -/
def BOut (B : Nat) (W : World) (v : Value) (l : List UInt8) : Prop := W.ownsRow B 5 1 v l.length (bvals l)
theorem BOut.nil (B : Nat) (W : World) : BOut B W (.slice none 0 0) [] := ⟨rfl, .inl ⟨rfl, rfl⟩⟩
theorem info_u8 : (Tryz.prog.info? 5).map (fun i => (i.zero, i.size, i.bytes)) = some (some (.int .u8 0), 1, 1) := by kernel_rfl
/-- 'b = append(b, c)': the source is a new block of one byte. -/
theorem wpList_append_bout {ops : Array Oper} {rest : List Oper} {op : Oper} {a : Act} {Q : Exit → Act → World → Prop} {B : Nat} {W : World} {v : Value} {l : List UInt8} (hgd : op.guard = none) (s x : Operand)
    (ho : op.op = .call { callee := .builtin .append, args := #[s, x], argTypes := #[55, 55] }) (h : BOut B W v l) (hs : a.eval s = v) (t : UInt8) (g c : Nat)
    (hx : a.eval x = .slice (some ⟨g, 0, none⟩) 1 c) (hg : W.cell? ⟨g, 0, none⟩ = some (bval t)) (hn : l.length + 1 ≤ 10000000) (hb : B ≤ W.heap.size)
    (k : ∀ v' W', BOut B W' v' (l ++ [t]) → W.grownBy W' v.ownBlock → wpList Tryz.prog ops Q rest (a.put op.dst v') W') : wpList Tryz.prog ops Q (op :: rest) a W := by
  obtain ⟨i0, hi, hz0, hz1, hz2⟩ := info_parts info_u8
  refine wpList_append_own W hgd s x 55 ho B 5 i0 _ 1 1 Tryz.underlying55 hi hz0 hz1 hz2 rfl (by omega) v l.length (bvals l) hs h ⟨g, 0, none⟩ 1 c [bval t] hx rfl ?_ (by simp [bval, Value.oneCell']) (by unfold maxLen; omega) (by omega) hb ?_
  · intro j u hu
    match j, hu with
    | 0, hu => rw [addr_add, Nat.zero_add, hg]; simpa using hu
    | j + 1, hu => simp at hu
  · intro v' W' h1 h2 _
    refine k v' W' ?_ h2
    unfold BOut
    rw [List.length_append, bvals, List.map_append]
    exact h1
theorem below_bgrown {B : Nat} {w0 W W' : World} {v : Value} {l : List UInt8} (hB : Below B w0 W) (hle : B ≤ W.heap.size) (hO : BOut B W v l) (hg : W.grownBy W' v.ownBlock) : Below B w0 W' := by
  refine hB.grown hg hle ?_
  intro g he
  rcases hO.2 with ⟨rfl, _⟩ | ⟨g', cap, cur, rfl, hgb, _⟩
  · simp [Value.ownBlock] at he
  · have : g' = g := by simpa [Value.ownBlock] using he
    omega
/-- The call returns a slice of bytes l made since B; what was there below B is as it was. -/
def RetB (B : Nat) (w : World) (l : List UInt8) (e : Ending) (w' : World) : Prop := ∃ v, e = .returned v ∧ BOut B w' v l ∧ Below B w w' ∧ B ≤ w'.heap.size
theorem BOut.form {B : Nat} {W : World} {v : Value} {l : List UInt8} (h : BOut B W v l) : ∃ A c, v = .slice A l.length c := by
  obtain ⟨hl, h⟩ := h
  rcases h with ⟨rfl, h0⟩ | ⟨g, cap, cur, rfl, hg, hb, hn, _, hsz, hc⟩
  · exact ⟨none, 0, by rw [h0]⟩
  · exact ⟨_, _, rfl⟩
theorem set_digit (l : List UInt8) (m : Nat) (d : UInt8) (r : List UInt8) : (bvals (l ++ List.replicate (m + 1) 48 ++ r)).set (l.length + m) (bval d) = bvals (l ++ List.replicate m 48 ++ (d :: r)) := by
  rw [List.replicate_succ']
  unfold bvals
  simp only [List.map_append, List.map_cons, List.map_nil, List.append_assoc]
  rw [List.set_append_right _ _ (by simp), List.set_append_right _ _ (by simp)]
  simp
theorem BOut.some {B : Nat} {W : World} {v : Value} {l : List UInt8} (h : BOut B W v l) (h0 : 0 < l.length) : ∃ g cap, v = .slice (.some ⟨g, 0, none⟩) l.length cap ∧ B ≤ g := by
  obtain ⟨hl, h⟩ := h
  rcases h with ⟨rfl, h1⟩ | ⟨g, cap, cur, rfl, hg, hb, hn, _, hsz, hc⟩
  · omega
  · exact ⟨g, cap, rfl, hg⟩
theorem BOut.cellAt {B g n cap : Nat} {W : World} {l : List UInt8} (h : BOut B W (.slice (.some ⟨g, 0, none⟩) n cap) l) (hn : n = l.length) (j : Nat) (hj : j < l.length) : W.cell? ⟨g, j, none⟩ = .some (bval l[j]) := by
  subst hn
  rw [World.ownsRow.cellAt h j (by omega)]
  simp [bvals, hj]
theorem BOut.stored {B g n cap : Nat} {W : World} {l l' : List UInt8} (h : BOut B W (.slice (.some ⟨g, 0, none⟩) n cap) l) (hn : n = l.length) (hB : B ≤ g) (j : Nat) (d : UInt8) (he : (bvals l).set j (bval d) = bvals l') (hl : l'.length = l.length) : BOut B (W.setCell ⟨g, j, none⟩ (bval d)) (.slice (.some ⟨g, 0, none⟩) n cap) l' := by
  subst hn
  have := (World.ownsRow.stored h j (bval d)).1
  rw [he] at this
  unfold BOut
  rw [hl]
  exact this
theorem conv_bout {B : Nat} {W : World} {v : Value} {l : List UInt8} (h : BOut B W v l) : (convert 55 9 v).run Tryz.prog W = .ok (.string ⟨l.toArray⟩) W := by
  rcases Nat.eq_zero_or_pos l.length with h0 | h0
  · obtain rfl : l = [] := List.eq_nil_of_length_eq_zero h0
    obtain ⟨hl, h⟩ := h
    rcases h with ⟨rfl, h1⟩ | ⟨g, cap, cur, rfl, hg, hb, hn, _, hsz, hc⟩
    · exact run_convert_bytes_nil W 55 5 Tryz.underlying55 Tryz.underlying5 0 0 9 Tryz.underlying9
    · exact run_convert_bytes_arg W 55 5 Tryz.underlying55 Tryz.underlying5 g 0 0 cap [] rfl (by intro i hi; omega) 9 Tryz.underlying9
  · obtain ⟨g, cap, rfl, hB⟩ := h.some h0
    rw [run_convert_bytes_arg W 55 5 Tryz.underlying55 Tryz.underlying5 g 0 l.length cap (l.map fun c => (c.toNat : Int)) (by simp) (by
      intro i hi
      rw [Nat.zero_add, h.cellAt rfl i hi]
      simp [bval, hi]) 9 Tryz.underlying9]
    unfold strOfNums
    rw [List.map_map]
    congr 3
    have : (fun n : Int => UInt8.ofNat n.toNat) ∘ (fun c : UInt8 => (c.toNat : Int)) = id := by
      funext c; simp
    rw [this, List.map_id]
/-- 'b = append(b, c1, .., cn)': the source is a new block of these bytes. -/
theorem wpList_append_bouts {ops : Array Oper} {rest : List Oper} {op : Oper} {a : Act} {Q : Exit → Act → World → Prop} {B : Nat} {W : World} {v : Value} {l : List UInt8} (hgd : op.guard = none) (s x : Operand)
    (ho : op.op = .call { callee := .builtin .append, args := #[s, x], argTypes := #[55, 55] }) (h : BOut B W v l) (hs : a.eval s = v) (t : List UInt8) (g m c : Nat) (hm : t.length = m)
    (hx : a.eval x = .slice (some ⟨g, 0, none⟩) m c) (hg : ∀ j u, (bvals t)[j]? = some u → W.cell? ⟨g, j, none⟩ = some u) (hn : l.length + m ≤ 10000000) (hb : B ≤ W.heap.size)
    (k : ∀ v' W', BOut B W' v' (l ++ t) → W.grownBy W' v.ownBlock → wpList Tryz.prog ops Q rest (a.put op.dst v') W') : wpList Tryz.prog ops Q (op :: rest) a W := by
  obtain ⟨i0, hi, hz0, hz1, hz2⟩ := info_parts info_u8
  subst hm
  refine wpList_append_own W hgd s x 55 ho B 5 i0 _ 1 1 Tryz.underlying55 hi hz0 hz1 hz2 rfl (by omega) v l.length (bvals l) hs h ⟨g, 0, none⟩ t.length c (bvals t) hx (by simp [bvals]) ?_ (by intro u hu; obtain ⟨z, _, rfl⟩ := List.mem_map.1 hu; simp [bval, Value.oneCell']) (by unfold maxLen; omega) (by omega) hb ?_
  · intro j u hu
    rw [addr_add, Nat.zero_add]; exact hg j u hu
  · intro v' W' h1 h2 _
    refine k v' W' ?_ h2
    unfold BOut
    rw [List.length_append, bvals, List.map_append]
    exact h1
theorem strCells_bvals (l : List UInt8) : Lib.strCells ⟨l.toArray⟩ = bvals l := by
  simp [Lib.strCells, bvals, bval]
/-- 'b = append(b, s...)', s a string. -/
theorem wpList_append_bstr {ops : Array Oper} {rest : List Oper} {op : Oper} {a : Act} {Q : Exit → Act → World → Prop} {B : Nat} {W : World} {v : Value} {l : List UInt8} (hgd : op.guard = none) (s x : Operand)
    (ho : op.op = .call { callee := .builtin .append, args := #[s, x], argTypes := #[55, 9] }) (h : BOut B W v l) (hs : a.eval s = v) (t : List UInt8)
    (hx : a.eval x = .string ⟨t.toArray⟩) (hn : l.length + t.length ≤ 10000000) (hb : B ≤ W.heap.size)
    (k : ∀ v' W', BOut B W' v' (l ++ t) → W.grownBy W' v.ownBlock → wpList Tryz.prog ops Q rest (a.put op.dst v') W') : wpList Tryz.prog ops Q (op :: rest) a W := by
  obtain ⟨i0, hi, hz0, hz1, hz2⟩ := info_parts info_u8
  refine Lib.wpList_append_own_string (w := W) hgd s x 55 9 ho B 5 i0 Tryz.underlying55 Tryz.underlying9 hi hz0 hz1 hz2 v l.length (bvals l) hs h ⟨t.toArray⟩ hx (by unfold maxLen; simp [ByteArray.size]; omega) (by simp [ByteArray.size]; omega) hb ?_
  intro v' W' h1 h2 _
  refine k v' W' ?_ h2
  unfold BOut
  rw [List.length_append, bvals, List.map_append]
  rw [strCells_bvals] at h1
  simpa [ByteArray.size, bvals] using h1
/-- A literal of bytes in the block that was made last. -/
theorem BOut.lit (B : Nat) (w : World) (l : List UInt8) (hb : B ≤ w.heap.size) (hm : l.length ≤ 10000000) : BOut B (w.alloc (.cells (bvals l).toArray 5)) (.slice (Option.some ⟨w.heap.size, 0, none⟩) l.length l.length) l := by
  have := World.ownsRow_lit (e := 5) (base := B) (size := 1) w (bvals l).toArray l.length hb (by unfold maxLen; omega) (by simp [bvals])
  unfold BOut
  simpa using this
end Go.Proofs.YtijfmfdnagjlpaaGreatDoor
namespace Go.Proofs.YtijfmfdnagjlpaaGreatDoor
open Go.RowKit
set_option linter.unusedVariables false
set_option linter.unusedSimpArgs false
set_option maxRecDepth 100000
/-- From world w with the slice v to world w' with the slice v': all old blocks but v's own are as they were; v' lies where v lay, or in a new block. -/
structure Gro (w : World) (v : Value) (w' : World) (v' : Value) : Prop where
  grown : w.grownBy w' v.ownBlock
  own : v'.ownBlock = v.ownBlock ∨ ∃ g, v'.ownBlock = some g ∧ w.heap.size ≤ g
theorem Gro.refl (w : World) (v : Value) : Gro w v w v := ⟨⟨rfl, rfl, rfl, Nat.le_refl _, fun _ _ _ => rfl⟩, .inl rfl⟩
theorem Gro.size {w w' : World} {v v' : Value} (h : Gro w v w' v') : w.heap.size ≤ w'.heap.size := h.grown.size
theorem Gro.trans {a b c : World} {u v x : Value} (h : Gro a u b v) (k : Gro b v c x) : Gro a u c x where
  grown := ⟨k.grown.os.trans h.grown.os, k.grown.tape.trans h.grown.tape, k.grown.output.trans h.grown.output, Nat.le_trans h.size k.size, fun i hi hne => by
    refine (k.grown.block i (Nat.lt_of_lt_of_le hi h.size) ?_).trans (h.grown.block i hi hne)
    rcases h.own with e | ⟨g, e, hg⟩
    · rw [e]; exact hne
    · rw [e]; intro q; injection q with q; omega⟩
  own := by
    rcases k.own with e | ⟨g, e, hg⟩
    · rw [e]; exact h.own
    · exact .inr ⟨g, e, Nat.le_trans h.size hg⟩
theorem Gro.alloc (w : World) (v : Value) (o : Obj) : Gro w v (w.alloc o) v := ⟨(World.grownBy_alloc w o none).but _, .inl rfl⟩
theorem Gro.drew (w : World) (v : Value) : Gro w v w.drew v := ⟨⟨rfl, rfl, rfl, Nat.le_refl _, fun _ _ _ => rfl⟩, .inl rfl⟩
theorem Gro.below {w w' : World} {v : Value} (h : Below w.heap.size w w') : Gro w v w' v := ⟨⟨h.os, h.tape, h.output, h.size, fun k hk _ => h.block k hk⟩, .inl rfl⟩
/-- Block g holds the cells cs, and is not the slice's own. -/
structure Fix (w : World) (v : Value) (g : Nat) (cs : Array Value) : Prop where
  lt : g < w.heap.size
  far : some g ≠ v.ownBlock
  cell : ∀ j, w.cell? ⟨g, j, none⟩ = cs[j]?
theorem Fix.step {w w' : World} {v v' : Value} {g : Nat} {cs : Array Value} (h : Fix w v g cs) (k : Gro w v w' v') : Fix w' v' g cs where
  lt := Nat.lt_of_lt_of_le h.lt k.size
  far := by
    rcases k.own with e | ⟨q, e, hq⟩
    · rw [e]; exact h.far
    · rw [e]; intro z; injection z with z; have := h.lt; omega
  cell j := by rw [World.cell?_of_block (k.grown.block g h.lt h.far)]; exact h.cell j
theorem Fix.alloc {w : World} {v : Value} {g : Nat} {cs : Array Value} (h : Fix w v g cs) (o : Obj) : Fix (w.alloc o) v g cs := h.step (Gro.alloc w v o)
theorem BOut.alloc {B : Nat} {W : World} {v : Value} {l : List UInt8} (h : BOut B W v l) (o : Obj) : BOut B (W.alloc o) v l := World.ownsRow.alloc h o
theorem BOut.own_lt {B : Nat} {W : World} {v : Value} {l : List UInt8} (h : BOut B W v l) : ∀ g, v.ownBlock = Option.some g → g < W.heap.size ∧ B ≤ g := by
  intro g he
  obtain ⟨hl, h⟩ := h
  rcases h with ⟨rfl, h1⟩ | ⟨g', cap, cur, rfl, hg, hb, hn, _, hsz, hc⟩
  · simp [Value.ownBlock] at he
  · have : g' = g := by simpa [Value.ownBlock] using he
    subst this
    refine ⟨?_, hg⟩
    rcases Nat.lt_or_ge g' W.heap.size with h | h
    · exact h
    · rw [Array.getElem?_eq_none h] at hb; cases hb
theorem Fix.new {B : Nat} {w : World} {v : Value} {l : List UInt8} (h : BOut B w v l) (cs : Array Value) (t : TypeId) : Fix (w.alloc (.cells cs t)) v w.heap.size cs where
  lt := by simp
  far := by intro e; have := (h.own_lt _ e.symm).1; omega
  cell j := cell_of_row _ _ j cs t (0, 0) (heap_alloc_new w _)
theorem Gro.below_of {B : Nat} {w0 w w' : World} {v v' : Value} {l : List UInt8} (h : Gro w v w' v') (hB : Below B w0 w) (hO : BOut B w v l) (hle : B ≤ w.heap.size) : Below B w0 w' :=
  below_bgrown hB hle hO h.grown
/-- 'b = append(b, c1, .., cn)' beside other blocks. -/
theorem wpList_append_gro {ops : Array Oper} {rest : List Oper} {op : Oper} {a : Act} {Q : Exit → Act → World → Prop} {B : Nat} {W : World} {v : Value} {l : List UInt8} (hgd : op.guard = none) (s x : Operand)
    (ho : op.op = .call { callee := .builtin .append, args := #[s, x], argTypes := #[55, 55] }) (h : BOut B W v l) (hs : a.eval s = v) (t : List UInt8) (g m c : Nat) (hm : t.length = m)
    (hx : a.eval x = .slice (some ⟨g, 0, none⟩) m c) (hg : ∀ j u, (bvals t)[j]? = some u → W.cell? ⟨g, j, none⟩ = some u) (hn : l.length + m ≤ 10000000) (hb : B ≤ W.heap.size)
    (k : ∀ v' W', BOut B W' v' (l ++ t) → Gro W v W' v' → wpList Tryz.prog ops Q rest (a.put op.dst v') W') : wpList Tryz.prog ops Q (op :: rest) a W := by
  obtain ⟨i0, hi, hz0, hz1, hz2⟩ := info_parts info_u8
  subst hm
  refine wpList_append_own_at (w := W) hgd s x 55 ho B 5 i0 _ 1 1 Tryz.underlying55 hi hz0 hz1 hz2 rfl (by omega) v l.length (bvals l) hs h ⟨g, 0, none⟩ t.length c (bvals t) hx (by simp [bvals]) ?_ (by intro u hu; obtain ⟨z, _, rfl⟩ := List.mem_map.1 hu; simp [bval, Value.oneCell']) (by unfold maxLen; omega) (by omega) hb ?_
  · intro j u hu
    rw [addr_add, Nat.zero_add]; exact hg j u hu
  · intro v' W' h1 h2 _ h4
    refine k v' W' ?_ ⟨h2, ?_⟩
    · unfold BOut
      rw [List.length_append, bvals, List.map_append]
      exact h1
    · rcases h4 with e | e
      · exact .inl e
      · exact .inr ⟨_, e, Nat.le_refl _⟩
/-- The call returns a slice of bytes l, grown out of v. -/
def RetG (B : Nat) (w : World) (v : Value) (l : List UInt8) (e : Ending) (w' : World) : Prop := ∃ v', e = .returned v' ∧ BOut B w' v' l ∧ Gro w v w' v'
theorem callG1 {P : Program} {f : FuncId} {args : Array Value} {B : Nat} {W : World} {v : Value} {l : List UInt8} {K : Ending → World → Prop} {g1 : Nat} {c1 : Array Value} (h1 : Fix W v g1 c1) (h : Calls P f args W (RetG B W v l))
    (k : ∀ v' w', BOut B w' v' l → Gro W v w' v' → Fix w' v' g1 c1 → (∀ j, w'.cell? ⟨g1, j, none⟩ = c1[j]?) → K (.returned v') w') : Calls P f args W K :=
  h.mono fun e w' ⟨v', he, hO, hG⟩ => by subst he; exact k v' w' hO hG (h1.step hG) (h1.step hG).cell
theorem callG2 {P : Program} {f : FuncId} {args : Array Value} {B : Nat} {W : World} {v : Value} {l : List UInt8} {K : Ending → World → Prop} {g1 g2 : Nat} {c1 c2 : Array Value} (h1 : Fix W v g1 c1) (h2 : Fix W v g2 c2) (h : Calls P f args W (RetG B W v l))
    (k : ∀ v' w', BOut B w' v' l → Gro W v w' v' → Fix w' v' g1 c1 → Fix w' v' g2 c2 → (∀ j, w'.cell? ⟨g1, j, none⟩ = c1[j]?) → (∀ j, w'.cell? ⟨g2, j, none⟩ = c2[j]?) → K (.returned v') w') : Calls P f args W K :=
  h.mono fun e w' ⟨v', he, hO, hG⟩ => by subst he; exact k v' w' hO hG (h1.step hG) (h2.step hG) (h1.step hG).cell (h2.step hG).cell
end Go.Proofs.YtijfmfdnagjlpaaGreatDoor
namespace Go.Proofs.YtijfmfdnagjlpaaGreatDoor
open Go.RowKit
set_option linter.unusedVariables false
set_option linter.unusedSimpArgs false
theorem chars_signs : ((Lib.charsB ⟨signsL.toArray⟩).map Value.string) = svals (signsL.map fun c => [c]) := by rfl
def sgL : List (List UInt8) := signsL.map fun c => [c]
theorem callStrs' {P : Program} {f : FuncId} {args : Array Value} {W : World} {ss : List (List UInt8)} {K : Ending → World → Prop} (h : Calls P f args W (RetStrs W ss)) (k : ∀ v w', SOut W w' v ss → Below W.heap.size W w' → K (.returned v) w') : Calls P f args W K :=
  h.mono fun e w' ⟨v, he, hO, hB⟩ => by subst he; exact k v w' hO hB
theorem below_iter (w : World) (s : ByteArray) (n : Nat) : Below w.heap.size w (w.iter s n) := (Below.refl _ _).alloc (Nat.le_refl _) _
theorem splitSigns (w : World) : Calls Tryz.prog 27 #[.string ⟨signsL.toArray⟩, .string ⟨#[]⟩] w (RetStrs w sgL) := by
  refine (Tryz.strings_Split_chars ⟨signsL.toArray⟩ ⟨#[]⟩ w rfl (by decide) (fun j b hb => (by decide : ∀ b ∈ signsL, b.toNat < 128) b (List.mem_of_getElem? hb))).mono ?_
  rintro e w' ⟨rfl, rfl⟩
  refine ⟨_, rfl, ?_, (below_iter w _ _).trans (((Below.refl _ _).alloc (Nat.le_refl _) _).mono (below_iter w _ _).size)⟩
  rw [chars_signs]
  have h := World.ownsRow_lit (e := 9) (base := w.heap.size) (size := 1) (w.iter ⟨signsL.toArray⟩ (ByteArray.mk signsL.toArray).size) (svals sgL).toArray 41 (below_iter w _ _).size (by unfold maxLen; omega) rfl
  exact h
/-- The words of the program's variable. -/
structure WordsAt (w : World) : Prop where
  at_ : ∃ b off c, w.cell? ⟨0, 0, none⟩ = some (.slice (some ⟨b, off, none⟩) 10 c) ∧ 10 ≤ c ∧ b < w.heap.size ∧ 0 < w.heap.size ∧ ∀ i s, wordsL[i]? = some s → w.cell? ⟨b, off + i, none⟩ = some (sval s)
theorem WordsAt.below {w w' : World} (h : WordsAt w) (hb : Below w.heap.size w w') : WordsAt w' := by
  obtain ⟨b, off, c, h1, h2, h3, h4, h5⟩ := h.at_
  exact ⟨b, off, c, by rw [hb.cell (p := ⟨_, 0, none⟩) h4]; exact h1, h2, Nat.lt_of_lt_of_le h3 hb.size, Nat.lt_of_lt_of_le h4 hb.size, fun i s hs => by rw [hb.cell (p := ⟨b, _, none⟩) h3]; exact h5 i s hs⟩
/-- 'out = append(out, more...)': the source is a slice of strings anywhere. -/
theorem wpList_append_souts {ops : Array Oper} {rest : List Oper} {op : Oper} {a : Act} {Q : Exit → Act → World → Prop} {w0 W : World} {v : Value} {ss : List (List UInt8)} (hgd : op.guard = none) (s x : Operand)
    (ho : op.op = .call { callee := .builtin .append, args := #[s, x], argTypes := #[41, 41] }) (h : SOut w0 W v ss) (hs : a.eval s = v) (t : List (List UInt8)) (g o n c : Nat) (hn' : t.length = n)
    (hx : a.eval x = .slice (some ⟨g, o, none⟩) n c) (hg : ∀ i q, t[i]? = some q → W.cell? ⟨g, o + i, none⟩ = some (sval q)) (hn : ss.length + n ≤ 10000000) (hb : w0.heap.size ≤ W.heap.size)
    (k : ∀ v' W', SOut w0 W' v' (ss ++ t) → W.grownBy W' v.ownBlock → wpList Tryz.prog ops Q rest (a.put op.dst v') W') : wpList Tryz.prog ops Q (op :: rest) a W := by
  obtain ⟨i0, hi, hz0, hz1, hz2⟩ := info_parts info_str_all
  subst hn'
  refine wpList_append_own W hgd s x 41 ho w0.heap.size 9 i0 _ 1 16 Tryz.underlying41 hi hz0 hz1 hz2 rfl (by omega) v ss.length (svals ss) hs h ⟨g, o, none⟩ t.length c (svals t) hx (by simp [svals]) ?_ (by intro u hu; obtain ⟨q, _, rfl⟩ := List.mem_map.1 hu; rfl) (by unfold maxLen; omega) (by omega) hb ?_
  · intro j u hu
    rw [addr_add]
    unfold svals at hu
    rw [List.getElem?_map] at hu
    cases hq : t[j]? with
    | none => rw [hq] at hu; cases hu
    | some q => rw [hq] at hu; obtain rfl : sval q = u := by simpa using hu
                exact hg j q hq
  · intro v' W' h1 h2 _
    refine k v' W' ?_ h2
    unfold SOut
    rw [List.length_append, svals, List.map_append]
    exact h1
/-- 'out = append(out, s)' beside other blocks. -/
theorem wpList_append_sgro {ops : Array Oper} {rest : List Oper} {op : Oper} {a : Act} {Q : Exit → Act → World → Prop} {w0 W : World} {v : Value} {ss : List (List UInt8)} (hgd : op.guard = none) (s x : Operand)
    (ho : op.op = .call { callee := .builtin .append, args := #[s, x], argTypes := #[41, 41] }) (h : SOut w0 W v ss) (hs : a.eval s = v) (t : List UInt8) (g c : Nat)
    (hx : a.eval x = .slice (some ⟨g, 0, none⟩) 1 c) (hg : W.cell? ⟨g, 0, none⟩ = some (sval t)) (hn : ss.length + 1 ≤ 10000000) (hb : w0.heap.size ≤ W.heap.size)
    (k : ∀ v' W', SOut w0 W' v' (ss ++ [t]) → Gro W v W' v' → wpList Tryz.prog ops Q rest (a.put op.dst v') W') : wpList Tryz.prog ops Q (op :: rest) a W := by
  obtain ⟨i0, hi, hz0, hz1, hz2⟩ := info_parts info_str_all
  refine wpList_append_own_at (w := W) hgd s x 41 ho w0.heap.size 9 i0 _ 1 16 Tryz.underlying41 hi hz0 hz1 hz2 rfl (by omega) v ss.length (svals ss) hs h ⟨g, 0, none⟩ 1 c [sval t] hx rfl ?_ (by simp [sval, Value.oneCell']) (by unfold maxLen; omega) (by omega) hb ?_
  · intro j u hu
    match j, hu with
    | 0, hu => rw [addr_add, Nat.zero_add, hg]; simpa using hu
    | j + 1, hu => simp at hu
  · intro v' W' h1 h2 _ h4
    refine k v' W' ?_ ⟨h2, ?_⟩
    · unfold SOut
      rw [List.length_append, svals, List.map_append]
      exact h1
    · rcases h4 with e | e
      · exact .inl e
      · exact .inr ⟨_, e, Nat.le_refl _⟩
theorem SOut.own_lt {w0 W : World} {v : Value} {ss : List (List UInt8)} (h : SOut w0 W v ss) : ∀ g, v.ownBlock = some g → g < W.heap.size ∧ w0.heap.size ≤ g := by
  intro g he
  obtain ⟨hl, h⟩ := h
  rcases h with ⟨rfl, h1⟩ | ⟨g', cap, cur, rfl, hg, hb, hn, _, hsz, hc⟩
  · simp [Value.ownBlock] at he
  · have : g' = g := by simpa [Value.ownBlock] using he
    subst this
    refine ⟨?_, hg⟩
    rcases Nat.lt_or_ge g' W.heap.size with h | h
    · exact h
    · rw [Array.getElem?_eq_none h] at hb; cases hb
theorem Fix.snew {w0 w : World} {v : Value} {ss : List (List UInt8)} (h : SOut w0 w v ss) (cs : Array Value) (t : TypeId) : Fix (w.alloc (.cells cs t)) v w.heap.size cs where
  lt := by simp
  far := by intro e; have := (h.own_lt _ e.symm).1; omega
  cell j := cell_of_row _ _ j cs t (0, 0) (heap_alloc_new w _)
theorem take_succ_getD {α : Type} [Inhabited α] (l : List (List α)) (k : Nat) (h : k < l.length) : l.take (k + 1) = l.take k ++ [l.getD k []] := by
  rw [List.take_succ_eq_append_getElem h]; simp [List.getD_eq_getElem?_getD, h]
theorem words_news {w1 : World} {b off : Nat} (h : ∀ i s, wordsL[i]? = some s → w1.cell? ⟨b, off + i, none⟩ = some (sval s)) : ∀ j u, (svals wordsL)[j]? = some u → w1.cell? ((⟨b, off, none⟩ : Addr).add j) = some u := by
  intro j u hu
  rw [addr_add]
  unfold svals at hu
  rw [List.getElem?_map] at hu
  cases hq : wordsL[j]? with
  | none => rw [hq] at hu; cases hu
  | some q =>
    rw [hq] at hu
    obtain rfl : sval q = u := by simpa using hu
    exact h j q hq
theorem svals_one (ss : List (List UInt8)) : ∀ u ∈ svals ss, u.oneCell' = true := by
  intro u hu
  obtain ⟨q, _, rfl⟩ := List.mem_map.1 hu
  rfl
theorem svals_app (a b : List (List UInt8)) : svals a ++ svals b = svals (a ++ b) := by simp [svals]
attribute [local go_sem] ba_append
set_option maxHeartbeats 4000000 in
set_option maxRecDepth 100000 in
theorem keys_any (w : World) (hW : WordsAt w) (hL : Laid w) : Calls Tryz.prog 15 #[] w (RetStrs w keysL) := by
  obtain ⟨b, off, c, k1, k2, k3, k4, k5⟩ := hW.at_
  go_enter Tryz.func15, Tryz.ntmps15
  go_upto_region 1 with (fail)
  go_cut [1] (fun v wx => SOut w wx v (sgL ++ wordsL) ∧ Below w.heap.size w wx)
  case first =>
    obtain ⟨i0, hi, hz0, hz1, hz2⟩ := info_parts info_str_all
    go_region_held3 (fun w' => w'.cell? ⟨0, 0, none⟩ = some (.slice (some ⟨b, off, none⟩) 10 c)) (first | exact k1 | exact q1 | exact q2 | assumption)
      (first
        | (go_at_call 27; refine callStrs' (splitSigns _) ?_; intro v1 w1 O1 B1
           have q1 : w1.cell? ⟨0, 0, none⟩ = some (.slice (some ⟨b, off, none⟩) 10 c) := (by rw [B1.cell (p := ⟨_, 0, none⟩) k4]; exact k1)
           have q5 := words_news (fun i s hs => by rw [B1.cell (p := ⟨b, _, none⟩) k3]; exact k5 i s hs : ∀ i s, wordsL[i]? = some s → w1.cell? ⟨b, off + i, none⟩ = some (sval s))
           have L1 := B1.size
           have O1 := Lib.hid O1)
        | (refine step_append_lies _ (by rfl) (.tmp 5) (.tmp 6) 41 (by rfl) w.heap.size 9 i0 _ 1 16 Tryz.underlying41 hi hz0 hz1 hz2 rfl (by decide) v1 41 (svals sgL) (by rfl) O1.out ⟨b, off, none⟩ 10 c (svals wordsL) (by rfl) (by rfl) q5 (svals_one _) (by decide) (by unfold maxLen; omega) (by omega) L1 _ rfl ?_; intro gg cap w2 O2 G2 _ _; have B2 := below_sgrown B1 O1.out G2; have q2 : w2.cell? ⟨0, 0, none⟩ = some (.slice (some ⟨b, off, none⟩) 10 c) := (by rw [B2.cell (p := ⟨_, 0, none⟩) k4]; exact k1)))
    go_wp2
    go_meet
    refine ⟨?_, ((Below.refl w.heap.size w).drew).trans B2⟩
    rw [svals_app] at O2
    exact O2
  case rest =>
    obtain ⟨O2, B2⟩ := hcut
    have F3 := Fix.snew O2 #[.string ⟨#[76]⟩, .string ⟨#[82]⟩] 9
    have O3 := O2.alloc (.cells #[.string ⟨#[76]⟩, .string ⟨#[82]⟩] 9)
    have B3 := below_step B2 ((Below.refl wc.heap.size wc).alloc (Nat.le_refl _) (.cells #[.string ⟨#[76]⟩, .string ⟨#[82]⟩] 9))
    have L3 := hL.below B3
    go_wp2
    generalize wc.alloc _ = w3 at F3 O3 B3 L3 ⊢
    generalize wc.heap.size = q at F3 ⊢
    clear O2 B2
    go_loopw [1, 10] (fun v i wr => ∃ k : Nat, k ≤ 2 ∧ i = .int .i64 k ∧ SOut w wr v (sgL ++ wordsL ++ linesL.take (5 * k)) ∧ Fix wr v q #[.string ⟨#[76]⟩, .string ⟨#[82]⟩] ∧ Below w.heap.size w wr) (fun _ i _ => 2 - (intOf i).toNat)
    case atStart => exact ⟨0, by omega, rfl, by simpa using O3, F3, B3⟩
    case round =>
      obtain ⟨k, hk, rfl, O, F, B⟩ := hrel
      clear O3 F3 B3
      by_cases hlt : k < 2
      · have fc := F.cell
        have O := Lib.hid O
        obtain ⟨wo, rfl⟩ : ∃ wo : World, wo = wr := ⟨_, rfl⟩
        obtain ⟨sd, hsd⟩ : ∃ sd : UInt8, sd = (if k = 0 then 76 else 82) := ⟨_, rfl⟩
        have e1 : wo.cell? ⟨q, k, none⟩ = some (.string ⟨[sd].toArray⟩) := by rw [fc, hsd]; rcases (show k = 0 ∨ k = 1 by omega) with rfl | rfl <;> simp
        have HSD := Lib.hid hsd
        clear fc hsd
        have hk2 : decide ((k : Int) < 2) = true := by simp; omega
        go_wp2
        go_loopw [1, 4] (fun v i wr => ∃ m : Nat, m ≤ 5 ∧ i = .int .i64 ((m + 1 : Nat) : Int) ∧ SOut w wr v (sgL ++ wordsL ++ linesL.take (5 * k + m)) ∧ Fix wr v q #[.string ⟨#[76]⟩, .string ⟨#[82]⟩] ∧ Below w.heap.size w wr) (fun _ i _ => 6 - (intOf i).toNat)
        case atStart => exact ⟨0, by omega, rfl, O.out, F, B⟩
        case round =>
          obtain ⟨m, hm, rfl, O2, F2, B2⟩ := hrel
          clear O F B
          by_cases hlt2 : m < 5
          · have hn1 : (-9223372036854775808 : Int) ≤ ((m + 1 : Nat) : Int) := by omega
            have hn2 : ((m + 1 : Nat) : Int) ≤ 9223372036854775807 := by omega
            have HIT := Lib.hid (itoa_any ((m + 1 : Nat) : Int) hn1 hn2)
            have HD := Lib.hid (show [sd] ++ Lib.itoa ((m + 1 : Nat) : Int) = linesL.getD (5 * k + m) [] by
              rw [HSD.out]
              obtain rfl | rfl | rfl | rfl | rfl : m = 0 ∨ m = 1 ∨ m = 2 ∨ m = 3 ∨ m = 4 := by omega
              all_goals (rcases (show k = 0 ∨ k = 1 by omega) with rfl | rfl <;> decide +kernel))
            have HT := Lib.hid (take_succ_getD linesL (5 * k + m) (by show _ < 10; omega))
            have H2 := Lib.hid O2
            have G0 := Lib.hid (fun W' (h : Below wr.heap.size wr W') => Gro.below (v := u1) h)
            clear O2 hn1 hn2
            have hil : (Lib.itoa ((m + 1 : Nat) : Int)).length ≤ 21 := itoa_len _ (by omega) (by omega)
            generalize hit : Lib.itoa ((m + 1 : Nat) : Int) = it at HIT HD hil
            clear hit
            have hcat : ¬ 9223372036854775807 < ((1 + it.length : Nat) : Int) := by omega
            go_upto_region 7 with (first
              | (go_at_call 28; refine callR (HIT.out _ (hL.below B2)) ?_; intro w4 B4 y1 y2 y3; clear y1 y2 y3; have O5 := Lib.hid ((H2.out.below B4).alloc (.cells #[sval ([sd] ++ it)] 9)); have F5 := (F2.step (Gro.below B4)).alloc (.cells #[sval ([sd] ++ it)] 9); have B5 := below_step (below_step B2 B4) ((Below.refl w4.heap.size w4).alloc (Nat.le_refl _) (.cells #[sval ([sd] ++ it)] 9)))
              | (at_builtin; refine wpList_append_sgro rfl (.tmp 18) (.tmp 23) rfl O5.out rfl ([sd] ++ it) w4.heap.size 1 rfl (cell_of_row _ _ 0 _ _ _ (heap_alloc_new w4 _)) (by simp only [List.length_append, List.length_take, sgL, List.length_map]; simp [signsL, wordsL]; omega) B5.size ?_; intro v6 w6 O6 G6; have F6 := F5.step G6; have B6 := below_sgrown B5 O5.out G6.grown))
            have O6 := Lib.hid O6
            go_wp2
            go_roundw
            case rel => exact ⟨m + 1, by omega, by go_num, by have h := O6.out; rw [HD.out] at h; rw [show 5 * k + (m + 1) = 5 * k + m + 1 by omega, HT.out, ← List.append_assoc]; exact h, F6, B6⟩
            case measure => simp [intOf]; omega
          · obtain rfl : m = 5 := by omega
            have H2 := Lib.hid O2; clear O2
            go_wp2
            go_roundw
            case rel => exact ⟨k + 1, by omega, by go_num, by rw [show 5 * (k + 1) = 5 * k + 5 by omega]; exact H2.out, F2, B2⟩
            case measure => simp [intOf]; omega
      · obtain rfl : k = 2 := by omega
        have H2 := Lib.hid O; clear O
        go_wp2
        go_ret
        exact ⟨_, rfl, H2.out, B⟩
end Go.Proofs.YtijfmfdnagjlpaaGreatDoor
