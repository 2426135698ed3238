/- Slices of structs in memory, whatever the struct: the cells of each element. Arguments opened out of their readings: what is of no particular struct; the bound on what is read. -/
import Derived.Test.YtjgondadpjildaaGreatDoorPk05
import Derived.Laws.OwnMore
import Derived.OpenShut
import Derived.Deep.Slices
import Derived.Deep.Fields
import Derived.ChangeSame
import Derived.Deep.DeepHandedRow
import Derived.Carry
import Derived.LaidSub
namespace Go.Proofs.YtjgondadpjildaaGreatDoor
open Go.RowKit
set_option linter.unusedVariables false
set_option linter.unusedSimpArgs false
/-- The slice (its address A) reads as the elements l, each of n cells. -/
structure Items (w : World) (A : Option Addr) (n : Nat) (l : List (Array Value)) : Prop where
  at_ : l ≠ [] → ∃ b off, A = some ⟨b, off, none⟩ ∧ b < w.heap.size ∧ ∀ i x, l[i]? = some x → ∀ j, j < n → w.cell? ⟨b, off + i * n + j, none⟩ = x[j]?
theorem Items.get {w : World} {A : Option Addr} {n : Nat} {l : List (Array Value)} (h : Items w A n l) {k : Nat} (hk : k < l.length) :
    ∃ b off, A = some ⟨b, off, none⟩ ∧ b < w.heap.size ∧ ∀ j, j < n → w.cell? ⟨b, off + k * n + j, none⟩ = l[k][j]? := by
  obtain ⟨b, off, rfl, hb, hc⟩ := h.at_ (by rintro rfl; simp at hk)
  exact ⟨b, off, rfl, hb, hc k _ (List.getElem?_eq_getElem hk)⟩
theorem Items.below {w w' : World} {A : Option Addr} {n : Nat} {l : List (Array Value)} (h : Items w A n l) (hb : Below w.heap.size w w') : Items w' A n l where
  at_ hne := by
    obtain ⟨b, off, rfl, hlt, hc⟩ := h.at_ hne
    exact ⟨b, off, rfl, Nat.lt_of_lt_of_le hlt hb.size, fun i x hx j hj => by rw [hb.cell (p := ⟨b, _, none⟩) hlt]; exact hc i x hx j hj⟩
/-- The cells of element k in a later world. -/
theorem Items.cells {w W : World} {b off n : Nat} {l : List (Array Value)} (h : Items w (some ⟨b, off, none⟩) n l) (hB : Below w.heap.size w W) {k : Nat} (hk : k < l.length) :
    ∀ j, j < n → W.cell? ⟨b, off + k * n + j, none⟩ = l[k][j]? := by
  obtain ⟨b', off', hA, hb, hc⟩ := h.get hk
  obtain ⟨rfl, rfl⟩ : b = b' ∧ off = off' := by simpa using hA
  exact fun j hj => by rw [hB.cell (p := ⟨b, _, none⟩) hb]; exact hc j hj
theorem Items.nil (w : World) (A : Option Addr) (n : Nat) : Items w A n [] := ⟨fun h => absurd rfl h⟩
/-- The elements' cells, one after the other. -/
def cellsIn (l : List (Array Value)) : List Value := l.flatMap (·.toList)
theorem cellsIn_len (n : Nat) : ∀ (l : List (Array Value)), (∀ x ∈ l, x.size = n) → (cellsIn l).length = l.length * n
  | [], _ => by simp [cellsIn]
  | x :: r, h => by
    have ih := cellsIn_len n r (fun y hy => h y (by simp [hy]))
    have hx := h x (by simp)
    unfold cellsIn at *
    rw [List.flatMap_cons, List.length_append, ih, Array.length_toList, hx, List.length_cons, Nat.add_mul]; omega
theorem cellsIn_at (n : Nat) : ∀ (l : List (Array Value)), (∀ x ∈ l, x.size = n) → ∀ i x, l[i]? = some x → ∀ j, j < n → (cellsIn l)[i * n + j]? = x[j]?
  | [], _, i, x, hx, j, hj => by simp at hx
  | y :: r, h, 0, x, hx, j, hj => by
    have e : y = x := by simpa using hx
    subst e
    have hy := h y (by simp)
    unfold cellsIn
    rw [List.flatMap_cons, Nat.zero_mul, Nat.zero_add, List.getElem?_append_left (by simp [hy]; exact hj)]
    simp
  | y :: r, h, i + 1, x, hx, j, hj => by
    have ih := cellsIn_at n r (fun z hz => h z (by simp [hz])) i x (by simpa using hx) j hj
    have hy := h y (by simp)
    unfold cellsIn at *
    rw [List.flatMap_cons, List.getElem?_append_right (by simp [hy, Nat.add_mul]; omega), ← ih]
    congr 1
    simp [hy, Nat.add_mul]; omega
/-- The slice v of the call's own, made since B, holds the elements l. -/
def GOut (B : Nat) (W : World) (t : TypeId) (n : Nat) (v : Value) (l : List (Array Value)) : Prop := W.ownsRow B t n v l.length (cellsIn l)
theorem GOut.nil (B : Nat) (W : World) (t : TypeId) (n : Nat) : GOut B W t n (.slice none 0 0) [] := ⟨by simp [cellsIn], .inl ⟨rfl, rfl⟩⟩
theorem GOut.below {B : Nat} {W W' : World} {t : TypeId} {n : Nat} {v : Value} {l : List (Array Value)} (h : GOut B W t n v l) (hk : ∀ k, B ≤ k → k < W.heap.size → W'.heap[k]? = W.heap[k]?) : GOut B W' t n v l := by
  obtain ⟨hl, h⟩ := h
  refine ⟨hl, ?_⟩
  rcases h with ⟨rfl, h0⟩ | ⟨g, cap, cur, rfl, hg, hbk, hn, hm, hsz, hc⟩
  · exact .inl ⟨rfl, h0⟩
  · have hlt : g < W.heap.size := by
      rcases Nat.lt_or_ge g W.heap.size with hlt | hge
      · exact hlt
      · rw [Array.getElem?_eq_none hge] at hbk; cases hbk
    exact .inr ⟨g, cap, cur, rfl, hg, (hk g hg hlt).trans hbk, hn, hm, hsz, hc⟩
theorem GOut.step {B : Nat} {W W' : World} {t : TypeId} {n : Nat} {v : Value} {l : List (Array Value)} (h : GOut B W t n v l) (hb : Below W.heap.size W W') : GOut B W' t n v l := h.below fun k _ hk => hb.block k hk
theorem GOut.alloc {B : Nat} {W : World} {t : TypeId} {n : Nat} {v : Value} {l : List (Array Value)} (h : GOut B W t n v l) (o : Obj) : GOut B (W.alloc o) t n v l := h.step ((Below.refl _ _).alloc (Nat.le_refl _) _)
theorem GOut.form {B : Nat} {W : World} {t : TypeId} {n : Nat} {v : Value} {l : List (Array Value)} (h : GOut B W t n v l) (hx : ∀ x ∈ l, x.size = n) :
    ∃ A c, v = .slice A l.length c ∧ l.length ≤ c ∧ Items W A n l ∧ (∀ a, A = some a → B ≤ a.block) ∧ c ≤ maxLen := by
  obtain ⟨hl, h⟩ := h
  rcases h with ⟨rfl, h0⟩ | ⟨g, cap, cur, rfl, hg, hb, hn, hm, hsz, hc⟩
  · refine ⟨none, 0, by rw [h0], by omega, ?_, by simp, by unfold maxLen; omega⟩
    obtain rfl : l = [] := List.eq_nil_of_length_eq_zero h0
    exact Items.nil _ _ _
  · refine ⟨some ⟨g, 0, none⟩, cap, rfl, hn, ⟨fun _ => ⟨g, 0, rfl, ?_, ?_⟩⟩, by rintro a h; injection h with h; subst h; exact hg, hm⟩
    · rcases Nat.lt_or_ge g W.heap.size with hlt | hge
      · exact hlt
      · rw [Array.getElem?_eq_none hge] at hb; cases hb
    · intro i x hi j hj
      have h1 := cellsIn_at n l hx i x hi j hj
      have hil : i < l.length := (List.getElem?_eq_some_iff.1 hi).1
      have hlt : i * n + j < l.length * n := by
        have : (i + 1) * n ≤ l.length * n := Nat.mul_le_mul_right n (by omega)
        rw [Nat.add_mul, Nat.one_mul] at this
        omega
      rw [Nat.zero_add, cell_of_row W g _ cur _ _ hb, ← h1, ← hc, List.getElem?_take, if_pos hlt]
      simp
/-- 'out = append(out, x)' of one struct: the source is a new block of its cells. -/
theorem wpList_append_item {P : Program} {ops : Array Oper} {rest : List Oper} {op : Oper} {a : Act} {Q : Exit → Act → World → Prop} {B : Nat} {W : World} {v : Value} {l : List (Array Value)} (hgd : op.guard = none) (s x : Operand) (ts te : TypeId) (n bytes : Nat) (z : Value)
    (hinfo : (P.info? te).map (fun i => (i.zero, i.size, i.bytes)) = some (some z, n, bytes)) (hzs : z.cells.size = n) (hn0 : 0 < n) (hut : P.underlying ts = some (.slice te))
    (ho : op.op = .call { callee := .builtin .append, args := #[s, x], argTypes := #[ts, ts] }) (h : GOut B W te n v l) (hs : a.eval s = v) (y : Array Value) (g c : Nat) (hy : y.size = n) (hy1 : y.all (·.oneCell') = true)
    (hx : a.eval x = .slice (some ⟨g, 0, none⟩) 1 c) (hg : ∀ j, W.cell? ⟨g, j, none⟩ = y[j]?) (h63 : l.length + 1 ≤ maxLen) (hbytes : (l.length + 1) * bytes ≤ 140737488355328) (hb : B ≤ W.heap.size)
    (k : ∀ v' W', GOut B W' te n v' (l ++ [y]) → W.grownBy W' v.ownBlock → wpList P ops Q rest (a.put op.dst v') W') : wpList P ops Q (op :: rest) a W := by
  obtain ⟨i0, hi, hz0, hz1, hz2⟩ := info_parts hinfo
  refine wpList_append_own W hgd s x ts ho B te i0 _ n bytes hut hi hz0 hz1 hz2 hzs hn0 v l.length (cellsIn l) hs h ⟨g, 0, none⟩ 1 c y.toList hx (by simp [hy]) ?_ (fun u hu => (Array.all_eq_true_iff_forall_mem.1 hy1) u (by simpa using hu)) h63 hbytes hb ?_
  · intro j u hu
    rw [addr_add, Nat.zero_add, hg]
    simpa using hu
  · intro v' W' h1 h2 _
    refine k v' W' ?_ h2
    unfold GOut
    rw [List.length_append]
    have : cellsIn (l ++ [y]) = cellsIn l ++ y.toList := by simp [cellsIn]
    rw [this]
    exact h1
theorem GOut.own_lt {B : Nat} {W : World} {t : TypeId} {n : Nat} {v : Value} {l : List (Array Value)} (h : GOut B W t n v l) : ∀ g, v.ownBlock = some g → g < W.heap.size ∧ B ≤ g := by
  intro g he
  obtain ⟨hl, h⟩ := h
  rcases h with ⟨rfl, h1⟩ | ⟨g', cap, cur, rfl, hg, hb, hn, _, hsz, hc⟩
  · simp [Value.ownBlock] at he
  · have : g' = g := by simpa [Value.ownBlock] using he
    subst this
    refine ⟨?_, hg⟩
    rcases Nat.lt_or_ge g' W.heap.size with h | h
    · exact h
    · rw [Array.getElem?_eq_none h] at hb; cases hb
/-- What lies below B is kept by such an append. -/
theorem GOut.grown {B : Nat} {W W' : World} {t : TypeId} {n : Nat} {v : Value} {l : List (Array Value)} (h : GOut B W t n v l) (hg : W.grownBy W' v.ownBlock) : ∀ k, k < B → k < W.heap.size → W'.heap[k]? = W.heap[k]? := by
  intro k hk hlt
  refine hg.block k hlt fun e => ?_
  have := h.own_lt k e.symm
  omega
theorem GOut.below_grown {B B0 : Nat} {w0 W W' : World} {t : TypeId} {n : Nat} {v : Value} {l : List (Array Value)} (h : GOut B W t n v l) (hg : W.grownBy W' v.ownBlock) (hB : Below B0 w0 W) (hle : B0 ≤ B) (hB0 : B0 ≤ W.heap.size) : Below B0 w0 W' := by
  refine hB.grown hg hB0 ?_
  intro g he
  have := (h.own_lt g he).2
  omega
/-- A struct result that lies in memory, with one more result. -/
theorem results_agg {P : Program} {fn : Func} {p t : Tmp} {ty : TypeId} (h : fn.results = #[.cell p ty, .tmp t]) (tmps : Array Value) (w : World) (g : Nat) (arr : Array Value) (n : Nat) (d : TypeDesc) (hp : tmps.getD p undef = .pointer (some ⟨g, 0, none⟩)) (hn : arr.size = n) (hc : ∀ j, w.cell? ⟨g, j, none⟩ = arr[j]?)
    (hu : P.underlying ty = some d) (hd : (match d with | .struct _ | .array _ _ => true | _ => false) = true) (hi : (P.info? ty).map (·.size) = some n) :
    (results fn tmps).run P w = .ok (.tuple #[.agg arr, tmps.getD t undef]) w := by
  subst hn
  have hp' : tmps[p]?.getD undef = .pointer (some ⟨g, 0, none⟩) := by simpa using hp
  have hl := run_load_agg (P := P) w ⟨g, 0, none⟩ ty arr.toList _ (fun j v hv => by
    rw [addr_add, Nat.zero_add, hc]
    simpa using hv) hu hd (by simpa using hi)
  simp [results, h, hp', asAddr, hl]
/-- The same with no other result. -/
theorem results_agg1 {P : Program} {fn : Func} {p : Tmp} {ty : TypeId} (h : fn.results = #[.cell p ty]) (tmps : Array Value) (w : World) (g : Nat) (arr : Array Value) (n : Nat) (d : TypeDesc) (hp : tmps.getD p undef = .pointer (some ⟨g, 0, none⟩)) (hn : arr.size = n) (hc : ∀ j, w.cell? ⟨g, j, none⟩ = arr[j]?)
    (hu : P.underlying ty = some d) (hd : (match d with | .struct _ | .array _ _ => true | _ => false) = true) (hi : (P.info? ty).map (·.size) = some n) :
    (results fn tmps).run P w = .ok (.agg arr) w := by
  subst hn
  have hp' : tmps[p]?.getD undef = .pointer (some ⟨g, 0, none⟩) := by simpa using hp
  have hl := run_load_agg (P := P) w ⟨g, 0, none⟩ ty arr.toList _ (fun j v hv => by
    rw [addr_add, Nat.zero_add, hc]
    simpa using hv) hu hd (by simpa using hi)
  simp [results, h, hp', asAddr, hl]
end Go.Proofs.YtjgondadpjildaaGreatDoor
namespace Go.Proofs.YtjgondadpjildaaGreatDoor
open Go.RowKit Go.ChangeShapes Go.WideShapes Go.Deep
set_option linter.unusedVariables false
set_option linter.unusedSimpArgs false
theorem bulk_one {H : Type} (d : DataW H) : 1 ≤ Rows.uptoBulk d := by
  cases d with
  | lit l => cases l <;> simp [Rows.uptoBulk]
  | nil => simp [Rows.uptoBulk]
  | ptr d => simp [Rows.uptoBulk]
  | slice elems spare => simp [Rows.uptoBulk]
  | agg parts => simp [Rows.uptoBulk]
  | iface t d => simp [Rows.uptoBulk]
  | map entries => simp [Rows.uptoBulk]
  | held h => simp [Rows.uptoBulk]
theorem bulk_part {H : Type} {d : DataW H} {l : List (DataW H)} (h : d ∈ l) : Rows.uptoBulk d ≤ Rows.uptoBulkAll l := by
  induction l with
  | nil => cases h
  | cons x r ih =>
    simp only [Rows.uptoBulkAll]
    cases List.mem_cons.1 h with
    | inl e => subst e; omega
    | inr e => have := ih e; omega
theorem bulk_len {H : Type} (l : List (DataW H)) : l.length ≤ Rows.uptoBulkAll l := by
  induction l with
  | nil => simp [Rows.uptoBulkAll]
  | cons x r ih => have := bulk_one x; simp only [Rows.uptoBulkAll, List.length_cons]; omega
theorem bulk_str {H : Type} (s : ByteArray) : Rows.uptoBulk (DataW.lit (H := H) (.string s.data.toList)) = s.data.toList.length + 1 := by simp [Rows.uptoBulk]
theorem list2 {α : Type _} {l : List α} (h : l.length = 2) : ∃ x0 x1, l = [x0, x1] := by
  match l, h with
  | [x0, x1], _ => exact ⟨x0, x1, rfl⟩
theorem list4 {α : Type _} {l : List α} (h : l.length = 4) : ∃ x0 x1 x2 x3, l = [x0, x1, x2, x3] := by
  match l, h with
  | [x0, x1, x2, x3], _ => exact ⟨x0, x1, x2, x3, rfl⟩
theorem list6 {α : Type _} {l : List α} (h : l.length = 6) : ∃ x0 x1 x2 x3 x4 x5, l = [x0, x1, x2, x3, x4, x5] := by
  match l, h with
  | [x0, x1, x2, x3, x4, x5], _ => exact ⟨x0, x1, x2, x3, x4, x5, rfl⟩
theorem list12 {α : Type _} {l : List α} (h : l.length = 12) : ∃ x0 x1 x2 x3 x4 x5 x6 x7 x8 x9 x10 x11, l = [x0, x1, x2, x3, x4, x5, x6, x7, x8, x9, x10, x11] := by
  match l, h with
  | [x0, x1, x2, x3, x4, x5, x6, x7, x8, x9, x10, x11], _ => exact ⟨x0, x1, x2, x3, x4, x5, x6, x7, x8, x9, x10, x11, rfl⟩
theorem list13 {α : Type _} {l : List α} (h : l.length = 13) : ∃ x0 x1 x2 x3 x4 x5 x6 x7 x8 x9 x10 x11 x12, l = [x0, x1, x2, x3, x4, x5, x6, x7, x8, x9, x10, x11, x12] := by
  match l, h with
  | [x0, x1, x2, x3, x4, x5, x6, x7, x8, x9, x10, x11, x12], _ => exact ⟨x0, x1, x2, x3, x4, x5, x6, x7, x8, x9, x10, x11, x12, rfl⟩
theorem list20 {α : Type _} {l : List α} (h : l.length = 20) : ∃ x0 x1 x2 x3 x4 x5 x6 x7 x8 x9 x10 x11 x12 x13 x14 x15 x16 x17 x18 x19, l = [x0, x1, x2, x3, x4, x5, x6, x7, x8, x9, x10, x11, x12, x13, x14, x15, x16, x17, x18, x19] := by
  match l, h with
  | [x0, x1, x2, x3, x4, x5, x6, x7, x8, x9, x10, x11, x12, x13, x14, x15, x16, x17, x18, x19], _ => exact ⟨x0, x1, x2, x3, x4, x5, x6, x7, x8, x9, x10, x11, x12, x13, x14, x15, x16, x17, x18, x19, rfl⟩
theorem cells_i64 : Tryz.prog.cellsOf 2 = 1 := by kernel_rfl
theorem cells_int : Tryz.prog.cellsOf 3 = 1 := by kernel_rfl
theorem cells_bool : Tryz.prog.cellsOf 4 = 1 := by kernel_rfl
theorem cells_str : Tryz.prog.cellsOf 9 = 1 := by kernel_rfl
theorem cells_u8 : Tryz.prog.cellsOf 5 = 1 := by kernel_rfl
theorem list_of {α : Type} {P : Nat → α → Prop} : ∀ (n : Nat), (∀ i, i < n → ∃ x, P i x) → ∃ l : List α, l.length = n ∧ ∀ i x, l[i]? = some x → P i x
  | 0, _ => ⟨[], rfl, by simp⟩
  | n + 1, h => by
    obtain ⟨l, hl, hp⟩ := list_of n fun i hi => h i (by omega)
    obtain ⟨x, hx⟩ := h n (by omega)
    refine ⟨l ++ [x], by simp [hl], fun i y hy => ?_⟩
    rcases Nat.lt_or_ge i l.length with hi | hi
    · rw [List.getElem?_append_left hi] at hy; exact hp i y hy
    · rw [List.getElem?_append_right hi] at hy
      have h0 : i - l.length = 0 := by
        rcases Nat.eq_zero_or_pos (i - l.length) with h0 | h0
        · exact h0
        · rw [List.getElem?_eq_none (by simp; omega)] at hy; cases hy
      rw [h0] at hy
      simp at hy
      subst hy
      have : i = n := by omega
      subst this; exact hx
section
variable {H : Type} {enc : TypeId × Value → H} {w : World} {base : Nat} {spare : Nat → Bool} {held : Bool}
theorem fld {n : Nat} {cs : List Value} {fs : Array Field} {xs : List (DataW H × List MemPlace)} (hf : ∀ (i : Nat) (f : Field), fs[i]? = some f → DataW.trod enc Tryz.prog w base spare held n f.type ((cs.drop f.offset).take (Tryz.prog.cellsOf f.type)) = xs[i]?)
    (i ty off k : Nat) (h : (fs[i]?).map (fun f => (f.type, f.offset)) = some (ty, off)) (hk : Tryz.prog.cellsOf ty = k) : DataW.trod enc Tryz.prog w base spare held n ty ((cs.drop off).take k) = xs[i]? := by
  cases hi : fs[i]? with
  | none => simp [hi] at h
  | some f =>
    simp [hi] at h
    have := hf i f hi
    rw [h.1, h.2, hk] at this
    exact this
theorem open_two {t : TypeId} {fuel : Nat} {cs : List Value} {y : DataW H × List MemPlace} {f0 f1 : Field} (hu : Tryz.prog.underlying t = some (.struct #[f0, f1])) (hc : Tryz.prog.cellsOf t = 2)
    (h0 : f0.type = 2 ∧ f0.offset = 0) (h1 : f1.type = 2 ∧ f1.offset = 1) (h : DataW.trod enc Tryz.prog w base spare held fuel t cs = some y) : ∃ a b, cs = [.int .i64 a, .int .i64 b] := by
  obtain ⟨xs, n, _, hx, hlen, hxl, hf⟩ := DataW.trod_struct hu h
  rw [hc] at hlen
  obtain ⟨a, b, rfl⟩ := list2 hlen
  obtain ⟨y0, y1, rfl⟩ := list2 hxl
  have g0 := hf 0 f0 rfl
  have g1 := hf 1 f1 rfl
  rw [h0.1, h0.2, cells_i64] at g0
  rw [h1.1, h1.2, cells_i64] at g1
  obtain ⟨a', e0, _⟩ := DataW.trod_int Tryz.underlying2 g0
  obtain ⟨b', e1, _⟩ := DataW.trod_int Tryz.underlying2 g1
  simp at e0 e1
  exact ⟨a', b', by rw [e0, e1]⟩
theorem open_str {fuel : Nat} {v : Value} {y : DataW H × List MemPlace} (h : DataW.trod enc Tryz.prog w base spare held fuel 9 [v] = some y) : ∃ s : List UInt8, v = .string ⟨s.toArray⟩ ∧ s.length + 1 = Rows.uptoBulk y.1 := by
  obtain ⟨s, e, hx, _⟩ := DataW.trod_string Tryz.underlying9 h
  refine ⟨s.data.toList, by simpa using e, ?_⟩
  rw [hx]; simp [Rows.uptoBulk]
/-- A slice of structs: where it lies, what it holds, how much of the bulk it takes. -/
theorem open_items {α : Type} {ts te : TypeId} {n : Nat} (arrOf : α → Array Value) (bnd : α → Nat → Prop) (hmono : ∀ x a b, a ≤ b → bnd x a → bnd x b) (hut : Tryz.prog.underlying ts = some (.slice te)) (hce : Tryz.prog.cellsOf te = n) (hn : 0 < n) (hsz : ∀ x, (arrOf x).size = n)
    (hopen : ∀ {fuel : Nat} {cs : List Value} {y : DataW H × List MemPlace}, DataW.trod enc Tryz.prog w base spare held fuel te cs = some y → ∃ x, cs = (arrOf x).toList ∧ bnd x (Rows.uptoBulk y.1))
    {fuel : Nat} {v : Value} {y : DataW H × List MemPlace} (h : DataW.trod enc Tryz.prog w base spare held fuel ts [v] = some y) :
    ∃ (l : List α) (A : Option Addr) (c : Nat), v = .slice A l.length c ∧ l.length ≤ c ∧ c ≤ maxLen ∧ Items w A n (l.map arrOf) ∧ l.length ≤ Rows.uptoBulk y.1 ∧ ∀ x ∈ l, bnd x (Rows.uptoBulk y.1) := by
  rcases open_slice hut h with ⟨h0, hx⟩ | ⟨a, len, cap, m, n', D, Pl, hcs, hb, hl, hm, hmm, hx, hi⟩
  · exact ⟨[], none, 0, by simpa using h0, by simp, by unfold maxLen; omega, Items.nil _ _ _, by simp, by simp⟩
  · rw [hce] at hi
    have hlm : len ≤ m := by rw [hmm]; split <;> omega
    obtain ⟨es, hel, hes⟩ := list_of (P := fun i (x : α) => (∀ j, j < n → w.cell? ((a.add (i * n)).add j) = (arrOf x)[j]?) ∧ bnd x (Rows.uptoBulk (D i))) len (fun i hil => by
      obtain ⟨cs', hc, ht⟩ := hi i (by omega)
      obtain ⟨x, e, b1⟩ := hopen ht
      obtain ⟨_, hcl, hat⟩ := World.cells?_some hc
      refine ⟨x, fun j hj => ?_, b1⟩
      rw [hat j hj, e]; simp)
    have hbk : Rows.uptoBulkAll ((List.range len).map D) + 1 ≤ Rows.uptoBulk y.1 := by rw [hx]; simp only [Rows.uptoBulk]; omega
    have hD : ∀ i, i < len → Rows.uptoBulk (D i) ≤ Rows.uptoBulk y.1 := fun i hil => by
      have := bulk_part (show D i ∈ (List.range len).map D from List.mem_map.2 ⟨i, by simpa using hil, rfl⟩)
      omega
    have hln := bulk_len ((List.range len).map D)
    simp only [List.length_map, List.length_range] at hln
    refine ⟨es, some a, cap, by rw [hel]; simpa using hcs, by omega, by omega, ⟨fun hne => ?_⟩, by omega, fun x hx' => ?_⟩
    · obtain ⟨b, off, spot⟩ := a
      have hne' : es ≠ [] := by rintro rfl; exact hne rfl
      have hpos : 0 < es.length := List.length_pos_iff.2 hne'
      have h0 := (hes 0 es[0] (List.getElem?_eq_getElem hpos)).1 0 hn
      have hv : ∃ u, (arrOf es[0])[0]? = some u := ⟨_, Array.getElem?_eq_getElem (by rw [hsz]; exact hn)⟩
      obtain ⟨u, hv⟩ := hv
      have hsp : spot = none := by
        cases spot with
        | none => rfl
        | some q =>
          exfalso
          rw [hv] at h0
          unfold World.cell? Addr.add at h0
          split at h0 <;> simp at h0
      subst hsp
      refine ⟨b, off, rfl, ?_, fun i x hx' j hj => ?_⟩
      · rw [hv, addr_add, addr_add] at h0
        exact block_lt_of_cell h0
      · rw [List.getElem?_map] at hx'
        cases hq : es[i]? with
        | none => rw [hq] at hx'; cases hx'
        | some z =>
          rw [hq] at hx'
          obtain rfl : arrOf z = x := by simpa using hx'
          have := (hes i z hq).1 j hj
          rw [addr_add, addr_add] at this
          exact this
    · obtain ⟨i, hi', hxi⟩ := List.getElem_of_mem hx'
      have hb := (hes i x (by rw [← hxi]; exact List.getElem?_eq_getElem hi')).2
      exact hmono _ _ _ (hD i (by omega)) hb
end
end Go.Proofs.YtjgondadpjildaaGreatDoor
