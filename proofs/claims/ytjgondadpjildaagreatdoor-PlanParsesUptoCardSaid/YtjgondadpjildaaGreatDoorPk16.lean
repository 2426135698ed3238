/- Slices of bytes of the call's own. -/
import Derived.Test.YtjgondadpjildaaGreatDoorPk05
import Derived.Laws.OwnMore
import Derived.Lib.AppendStr
namespace Go.Proofs.YtjgondadpjildaaGreatDoor
open Go.RowKit
set_option linter.unusedVariables false
set_option linter.unusedSimpArgs false
set_option maxRecDepth 100000
def bval (c : UInt8) : Value := .int .u8 c.toNat
def bvals (l : List UInt8) : List Value := l.map bval
/-- The slice v, made since B, holds the bytes l. -/
def BOut (B : Nat) (W : World) (v : Value) (l : List UInt8) : Prop := W.ownsRow B 5 1 v l.length (bvals l)
theorem BOut.nil (B : Nat) (W : World) : BOut B W (.slice none 0 0) [] := ⟨rfl, .inl ⟨rfl, rfl⟩⟩
theorem info_u8 : (Tryz.prog.info? 5).map (fun i => (i.zero, i.size, i.bytes)) = some (some (.int .u8 0), 1, 1) := by kernel_rfl
/-- 'b = append(b, c)': the source is a new block of one byte. -/
theorem wpList_append_bout {ops : Array Oper} {rest : List Oper} {op : Oper} {a : Act} {Q : Exit → Act → World → Prop} {B : Nat} {W : World} {v : Value} {l : List UInt8} (hgd : op.guard = none) (s x : Operand)
    (ho : op.op = .call { callee := .builtin .append, args := #[s, x], argTypes := #[125, 125] }) (h : BOut B W v l) (hs : a.eval s = v) (t : UInt8) (g c : Nat)
    (hx : a.eval x = .slice (some ⟨g, 0, none⟩) 1 c) (hg : W.cell? ⟨g, 0, none⟩ = some (bval t)) (hn : l.length + 1 ≤ 10000000) (hb : B ≤ W.heap.size)
    (k : ∀ v' W', BOut B W' v' (l ++ [t]) → W.grownBy W' v.ownBlock → wpList Tryz.prog ops Q rest (a.put op.dst v') W') : wpList Tryz.prog ops Q (op :: rest) a W := by
  obtain ⟨i0, hi, hz0, hz1, hz2⟩ := info_parts info_u8
  refine wpList_append_own W hgd s x 125 ho B 5 i0 _ 1 1 Tryz.underlying125 hi hz0 hz1 hz2 rfl (by omega) v l.length (bvals l) hs h ⟨g, 0, none⟩ 1 c [bval t] hx rfl ?_ (by simp [bval, Value.oneCell']) (by unfold maxLen; omega) (by omega) hb ?_
  · intro j u hu
    match j, hu with
    | 0, hu => rw [addr_add, Nat.zero_add, hg]; simpa using hu
    | j + 1, hu => simp at hu
  · intro v' W' h1 h2 _
    refine k v' W' ?_ h2
    unfold BOut
    rw [List.length_append, bvals, List.map_append]
    exact h1
theorem below_bgrown {B : Nat} {w0 W W' : World} {v : Value} {l : List UInt8} (hB : Below B w0 W) (hle : B ≤ W.heap.size) (hO : BOut B W v l) (hg : W.grownBy W' v.ownBlock) : Below B w0 W' := by
  refine hB.grown hg hle ?_
  intro g he
  rcases hO.2 with ⟨rfl, _⟩ | ⟨g', cap, cur, rfl, hgb, _⟩
  · simp [Value.ownBlock] at he
  · have : g' = g := by simpa [Value.ownBlock] using he
    omega
/-- The call returns a slice of bytes l made since B; what was there below B is as it was. -/
def RetB (B : Nat) (w : World) (l : List UInt8) (e : Ending) (w' : World) : Prop := ∃ v, e = .returned v ∧ BOut B w' v l ∧ Below B w w' ∧ B ≤ w'.heap.size
theorem BOut.form {B : Nat} {W : World} {v : Value} {l : List UInt8} (h : BOut B W v l) : ∃ A c, v = .slice A l.length c := by
  obtain ⟨hl, h⟩ := h
  rcases h with ⟨rfl, h0⟩ | ⟨g, cap, cur, rfl, hg, hb, hn, _, hsz, hc⟩
  · exact ⟨none, 0, by rw [h0]⟩
  · exact ⟨_, _, rfl⟩
theorem set_digit (l : List UInt8) (m : Nat) (d : UInt8) (r : List UInt8) : (bvals (l ++ List.replicate (m + 1) 48 ++ r)).set (l.length + m) (bval d) = bvals (l ++ List.replicate m 48 ++ (d :: r)) := by
  rw [List.replicate_succ']
  unfold bvals
  simp only [List.map_append, List.map_cons, List.map_nil, List.append_assoc]
  rw [List.set_append_right _ _ (by simp), List.set_append_right _ _ (by simp)]
  simp
theorem BOut.some {B : Nat} {W : World} {v : Value} {l : List UInt8} (h : BOut B W v l) (h0 : 0 < l.length) : ∃ g cap, v = .slice (.some ⟨g, 0, none⟩) l.length cap ∧ B ≤ g := by
  obtain ⟨hl, h⟩ := h
  rcases h with ⟨rfl, h1⟩ | ⟨g, cap, cur, rfl, hg, hb, hn, _, hsz, hc⟩
  · omega
  · exact ⟨g, cap, rfl, hg⟩
theorem BOut.cellAt {B g n cap : Nat} {W : World} {l : List UInt8} (h : BOut B W (.slice (.some ⟨g, 0, none⟩) n cap) l) (hn : n = l.length) (j : Nat) (hj : j < l.length) : W.cell? ⟨g, j, none⟩ = .some (bval l[j]) := by
  subst hn
  rw [World.ownsRow.cellAt h j (by omega)]
  simp [bvals, hj]
theorem BOut.stored {B g n cap : Nat} {W : World} {l l' : List UInt8} (h : BOut B W (.slice (.some ⟨g, 0, none⟩) n cap) l) (hn : n = l.length) (hB : B ≤ g) (j : Nat) (d : UInt8) (he : (bvals l).set j (bval d) = bvals l') (hl : l'.length = l.length) : BOut B (W.setCell ⟨g, j, none⟩ (bval d)) (.slice (.some ⟨g, 0, none⟩) n cap) l' := by
  subst hn
  have := (World.ownsRow.stored h j (bval d)).1
  rw [he] at this
  unfold BOut
  rw [hl]
  exact this
theorem conv_bout {B : Nat} {W : World} {v : Value} {l : List UInt8} (h : BOut B W v l) : (convert 125 9 v).run Tryz.prog W = .ok (.string ⟨l.toArray⟩) W := by
  rcases Nat.eq_zero_or_pos l.length with h0 | h0
  · obtain rfl : l = [] := List.eq_nil_of_length_eq_zero h0
    obtain ⟨hl, h⟩ := h
    rcases h with ⟨rfl, h1⟩ | ⟨g, cap, cur, rfl, hg, hb, hn, _, hsz, hc⟩
    · exact run_convert_bytes_nil W 125 5 Tryz.underlying125 Tryz.underlying5 0 0 9 Tryz.underlying9
    · exact run_convert_bytes_arg W 125 5 Tryz.underlying125 Tryz.underlying5 g 0 0 cap [] rfl (by intro i hi; omega) 9 Tryz.underlying9
  · obtain ⟨g, cap, rfl, hB⟩ := h.some h0
    rw [run_convert_bytes_arg W 125 5 Tryz.underlying125 Tryz.underlying5 g 0 l.length cap (l.map fun c => (c.toNat : Int)) (by simp) (by
      intro i hi
      rw [Nat.zero_add, h.cellAt rfl i hi]
      simp [bval, hi]) 9 Tryz.underlying9]
    unfold strOfNums
    rw [List.map_map]
    congr 3
    have : (fun n : Int => UInt8.ofNat n.toNat) ∘ (fun c : UInt8 => (c.toNat : Int)) = id := by
      funext c; simp
    rw [this, List.map_id]
/-- 'b = append(b, c1, .., cn)': the source is a new block of these bytes. -/
theorem wpList_append_bouts {ops : Array Oper} {rest : List Oper} {op : Oper} {a : Act} {Q : Exit → Act → World → Prop} {B : Nat} {W : World} {v : Value} {l : List UInt8} (hgd : op.guard = none) (s x : Operand)
    (ho : op.op = .call { callee := .builtin .append, args := #[s, x], argTypes := #[125, 125] }) (h : BOut B W v l) (hs : a.eval s = v) (t : List UInt8) (g m c : Nat) (hm : t.length = m)
    (hx : a.eval x = .slice (some ⟨g, 0, none⟩) m c) (hg : ∀ j u, (bvals t)[j]? = some u → W.cell? ⟨g, j, none⟩ = some u) (hn : l.length + m ≤ 10000000) (hb : B ≤ W.heap.size)
    (k : ∀ v' W', BOut B W' v' (l ++ t) → W.grownBy W' v.ownBlock → wpList Tryz.prog ops Q rest (a.put op.dst v') W') : wpList Tryz.prog ops Q (op :: rest) a W := by
  obtain ⟨i0, hi, hz0, hz1, hz2⟩ := info_parts info_u8
  subst hm
  refine wpList_append_own W hgd s x 125 ho B 5 i0 _ 1 1 Tryz.underlying125 hi hz0 hz1 hz2 rfl (by omega) v l.length (bvals l) hs h ⟨g, 0, none⟩ t.length c (bvals t) hx (by simp [bvals]) ?_ (by intro u hu; obtain ⟨z, _, rfl⟩ := List.mem_map.1 hu; simp [bval, Value.oneCell']) (by unfold maxLen; omega) (by omega) hb ?_
  · intro j u hu
    rw [addr_add, Nat.zero_add]; exact hg j u hu
  · intro v' W' h1 h2 _
    refine k v' W' ?_ h2
    unfold BOut
    rw [List.length_append, bvals, List.map_append]
    exact h1
theorem strCells_bvals (l : List UInt8) : Lib.strCells ⟨l.toArray⟩ = bvals l := by
  simp [Lib.strCells, bvals, bval]
/-- 'b = append(b, s...)', s a string. -/
theorem wpList_append_bstr {ops : Array Oper} {rest : List Oper} {op : Oper} {a : Act} {Q : Exit → Act → World → Prop} {B : Nat} {W : World} {v : Value} {l : List UInt8} (hgd : op.guard = none) (s x : Operand)
    (ho : op.op = .call { callee := .builtin .append, args := #[s, x], argTypes := #[125, 9] }) (h : BOut B W v l) (hs : a.eval s = v) (t : List UInt8)
    (hx : a.eval x = .string ⟨t.toArray⟩) (hn : l.length + t.length ≤ 10000000) (hb : B ≤ W.heap.size)
    (k : ∀ v' W', BOut B W' v' (l ++ t) → W.grownBy W' v.ownBlock → wpList Tryz.prog ops Q rest (a.put op.dst v') W') : wpList Tryz.prog ops Q (op :: rest) a W := by
  obtain ⟨i0, hi, hz0, hz1, hz2⟩ := info_parts info_u8
  refine Lib.wpList_append_own_string (w := W) hgd s x 125 9 ho B 5 i0 Tryz.underlying125 Tryz.underlying9 hi hz0 hz1 hz2 v l.length (bvals l) hs h ⟨t.toArray⟩ hx (by unfold maxLen; simp [ByteArray.size]; omega) (by simp [ByteArray.size]; omega) hb ?_
  intro v' W' h1 h2 _
  refine k v' W' ?_ h2
  unfold BOut
  rw [List.length_append, bvals, List.map_append]
  rw [strCells_bvals] at h1
  simpa [ByteArray.size, bvals] using h1
/-- A literal of bytes in the block that was made last. -/
theorem BOut.lit (B : Nat) (w : World) (l : List UInt8) (hb : B ≤ w.heap.size) (hm : l.length ≤ 10000000) : BOut B (w.alloc (.cells (bvals l).toArray 5)) (.slice (Option.some ⟨w.heap.size, 0, none⟩) l.length l.length) l := by
  have := World.ownsRow_lit (e := 5) (base := B) (size := 1) w (bvals l).toArray l.length hb (by unfold maxLen; omega) (by simp [bvals])
  unfold BOut
  simpa using this
end Go.Proofs.YtjgondadpjildaaGreatDoor
