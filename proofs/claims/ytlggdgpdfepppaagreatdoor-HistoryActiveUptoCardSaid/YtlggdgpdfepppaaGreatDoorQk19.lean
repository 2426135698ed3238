/- Slices of structs in memory, whatever the struct: the cells of each element. append of a slice of structs wherever it lies, as a law of the walk; what a clone of a slice is. -/
import Derived.Test.YtlggdgpdfepppaaGreatDoorQk03
import Derived.Laws.OwnMore
import Derived.Maps.AppendAt
namespace Go.Proofs.YtlggdgpdfepppaaGreatDoor
open Go.RowKit
set_option linter.unusedVariables false
set_option linter.unusedSimpArgs false
structure Items (w : World) (A : Option Addr) (n : Nat) (l : List (Array Value)) : Prop where
  at_ : l ≠ [] → ∃ b off, A = some ⟨b, off, none⟩ ∧ b < w.heap.size ∧ ∀ i x, l[i]? = some x → ∀ j, j < n → w.cell? ⟨b, off + i * n + j, none⟩ = x[j]?
theorem Items.get {w : World} {A : Option Addr} {n : Nat} {l : List (Array Value)} (h : Items w A n l) {k : Nat} (hk : k < l.length) :
    ∃ b off, A = some ⟨b, off, none⟩ ∧ b < w.heap.size ∧ ∀ j, j < n → w.cell? ⟨b, off + k * n + j, none⟩ = l[k][j]? := by
  obtain ⟨b, off, rfl, hb, hc⟩ := h.at_ (by rintro rfl; simp at hk)
  exact ⟨b, off, rfl, hb, hc k _ (List.getElem?_eq_getElem hk)⟩
theorem Items.below {w w' : World} {A : Option Addr} {n : Nat} {l : List (Array Value)} (h : Items w A n l) (hb : Below w.heap.size w w') : Items w' A n l where
  at_ hne := by
    obtain ⟨b, off, rfl, hlt, hc⟩ := h.at_ hne
    exact ⟨b, off, rfl, Nat.lt_of_lt_of_le hlt hb.size, fun i x hx j hj => by rw [hb.cell (p := ⟨b, _, none⟩) hlt]; exact hc i x hx j hj⟩
theorem Items.cells {w W : World} {b off n : Nat} {l : List (Array Value)} (h : Items w (some ⟨b, off, none⟩) n l) (hB : Below w.heap.size w W) {k : Nat} (hk : k < l.length) :
    ∀ j, j < n → W.cell? ⟨b, off + k * n + j, none⟩ = l[k][j]? := by
  obtain ⟨b', off', hA, hb, hc⟩ := h.get hk
  obtain ⟨rfl, rfl⟩ : b = b' ∧ off = off' := by simpa using hA
  exact fun j hj => by rw [hB.cell (p := ⟨b, _, none⟩) hb]; exact hc j hj
theorem Items.nil (w : World) (A : Option Addr) (n : Nat) : Items w A n [] := ⟨fun h => absurd rfl h⟩
def cellsIn (l : List (Array Value)) : List Value := l.flatMap (·.toList)
theorem cellsIn_len (n : Nat) : ∀ (l : List (Array Value)), (∀ x ∈ l, x.size = n) → (cellsIn l).length = l.length * n
  | [], _ => by simp [cellsIn]
  | x :: r, h => by
    have ih := cellsIn_len n r (fun y hy => h y (by simp [hy]))
    have hx := h x (by simp)
    unfold cellsIn at *
    rw [List.flatMap_cons, List.length_append, ih, Array.length_toList, hx, List.length_cons, Nat.add_mul]; omega
theorem cellsIn_at (n : Nat) : ∀ (l : List (Array Value)), (∀ x ∈ l, x.size = n) → ∀ i x, l[i]? = some x → ∀ j, j < n → (cellsIn l)[i * n + j]? = x[j]?
  | [], _, i, x, hx, j, hj => by simp at hx
  | y :: r, h, 0, x, hx, j, hj => by
    have e : y = x := by simpa using hx
    subst e
    have hy := h y (by simp)
    unfold cellsIn
    rw [List.flatMap_cons, Nat.zero_mul, Nat.zero_add, List.getElem?_append_left (by simp [hy]; exact hj)]
    simp
  | y :: r, h, i + 1, x, hx, j, hj => by
    have ih := cellsIn_at n r (fun z hz => h z (by simp [hz])) i x (by simpa using hx) j hj
    have hy := h y (by simp)
    unfold cellsIn at *
    rw [List.flatMap_cons, List.getElem?_append_right (by simp [hy, Nat.add_mul]; omega), ← ih]
    congr 1
    simp [hy, Nat.add_mul]; omega
def GOut (B : Nat) (W : World) (t : TypeId) (n : Nat) (v : Value) (l : List (Array Value)) : Prop := W.ownsRow B t n v l.length (cellsIn l)
theorem GOut.nil (B : Nat) (W : World) (t : TypeId) (n : Nat) : GOut B W t n (.slice none 0 0) [] := ⟨by simp [cellsIn], .inl ⟨rfl, rfl⟩⟩
theorem GOut.below {B : Nat} {W W' : World} {t : TypeId} {n : Nat} {v : Value} {l : List (Array Value)} (h : GOut B W t n v l) (hk : ∀ k, B ≤ k → k < W.heap.size → W'.heap[k]? = W.heap[k]?) : GOut B W' t n v l := by
  obtain ⟨hl, h⟩ := h
  refine ⟨hl, ?_⟩
  rcases h with ⟨rfl, h0⟩ | ⟨g, cap, cur, rfl, hg, hbk, hn, hm, hsz, hc⟩
  · exact .inl ⟨rfl, h0⟩
  · have hlt : g < W.heap.size := by
      rcases Nat.lt_or_ge g W.heap.size with hlt | hge
      · exact hlt
      · rw [Array.getElem?_eq_none hge] at hbk; cases hbk
    exact .inr ⟨g, cap, cur, rfl, hg, (hk g hg hlt).trans hbk, hn, hm, hsz, hc⟩
theorem GOut.step {B : Nat} {W W' : World} {t : TypeId} {n : Nat} {v : Value} {l : List (Array Value)} (h : GOut B W t n v l) (hb : Below W.heap.size W W') : GOut B W' t n v l := h.below fun k _ hk => hb.block k hk
theorem GOut.alloc {B : Nat} {W : World} {t : TypeId} {n : Nat} {v : Value} {l : List (Array Value)} (h : GOut B W t n v l) (o : Obj) : GOut B (W.alloc o) t n v l := h.step ((Below.refl _ _).alloc (Nat.le_refl _) _)
theorem GOut.form {B : Nat} {W : World} {t : TypeId} {n : Nat} {v : Value} {l : List (Array Value)} (h : GOut B W t n v l) (hx : ∀ x ∈ l, x.size = n) :
    ∃ A c, v = .slice A l.length c ∧ l.length ≤ c ∧ Items W A n l ∧ (∀ a, A = some a → B ≤ a.block) ∧ c ≤ maxLen := by
  obtain ⟨hl, h⟩ := h
  rcases h with ⟨rfl, h0⟩ | ⟨g, cap, cur, rfl, hg, hb, hn, hm, hsz, hc⟩
  · refine ⟨none, 0, by rw [h0], by omega, ?_, by simp, by unfold maxLen; omega⟩
    obtain rfl : l = [] := List.eq_nil_of_length_eq_zero h0
    exact Items.nil _ _ _
  · refine ⟨some ⟨g, 0, none⟩, cap, rfl, hn, ⟨fun _ => ⟨g, 0, rfl, ?_, ?_⟩⟩, by rintro a h; injection h with h; subst h; exact hg, hm⟩
    · rcases Nat.lt_or_ge g W.heap.size with hlt | hge
      · exact hlt
      · rw [Array.getElem?_eq_none hge] at hb; cases hb
    · intro i x hi j hj
      have h1 := cellsIn_at n l hx i x hi j hj
      have hil : i < l.length := (List.getElem?_eq_some_iff.1 hi).1
      have hlt : i * n + j < l.length * n := by
        have : (i + 1) * n ≤ l.length * n := Nat.mul_le_mul_right n (by omega)
        rw [Nat.add_mul, Nat.one_mul] at this
        omega
      rw [Nat.zero_add, cell_of_row W g _ cur _ _ hb, ← h1, ← hc, List.getElem?_take, if_pos hlt]
      simp
theorem wpList_append_item {P : Program} {ops : Array Oper} {rest : List Oper} {op : Oper} {a : Act} {Q : Exit → Act → World → Prop} {B : Nat} {W : World} {v : Value} {l : List (Array Value)} (hgd : op.guard = none) (s x : Operand) (ts te : TypeId) (n bytes : Nat) (z : Value)
    (hinfo : (P.info? te).map (fun i => (i.zero, i.size, i.bytes)) = some (some z, n, bytes)) (hzs : z.cells.size = n) (hn0 : 0 < n) (hut : P.underlying ts = some (.slice te))
    (ho : op.op = .call { callee := .builtin .append, args := #[s, x], argTypes := #[ts, ts] }) (h : GOut B W te n v l) (hs : a.eval s = v) (y : Array Value) (g c : Nat) (hy : y.size = n) (hy1 : y.all (·.oneCell') = true)
    (hx : a.eval x = .slice (some ⟨g, 0, none⟩) 1 c) (hg : ∀ j, W.cell? ⟨g, j, none⟩ = y[j]?) (h63 : l.length + 1 ≤ maxLen) (hbytes : (l.length + 1) * bytes ≤ 140737488355328) (hb : B ≤ W.heap.size)
    (k : ∀ v' W', GOut B W' te n v' (l ++ [y]) → W.grownBy W' v.ownBlock → wpList P ops Q rest (a.put op.dst v') W') : wpList P ops Q (op :: rest) a W := by
  obtain ⟨i0, hi, hz0, hz1, hz2⟩ := info_parts hinfo
  refine wpList_append_own W hgd s x ts ho B te i0 _ n bytes hut hi hz0 hz1 hz2 hzs hn0 v l.length (cellsIn l) hs h ⟨g, 0, none⟩ 1 c y.toList hx (by simp [hy]) ?_ (fun u hu => (Array.all_eq_true_iff_forall_mem.1 hy1) u (by simpa using hu)) h63 hbytes hb ?_
  · intro j u hu
    rw [addr_add, Nat.zero_add, hg]
    simpa using hu
  · intro v' W' h1 h2 _
    refine k v' W' ?_ h2
    unfold GOut
    rw [List.length_append]
    have : cellsIn (l ++ [y]) = cellsIn l ++ y.toList := by simp [cellsIn]
    rw [this]
    exact h1
theorem GOut.own_lt {B : Nat} {W : World} {t : TypeId} {n : Nat} {v : Value} {l : List (Array Value)} (h : GOut B W t n v l) : ∀ g, v.ownBlock = some g → g < W.heap.size ∧ B ≤ g := by
  intro g he
  obtain ⟨hl, h⟩ := h
  rcases h with ⟨rfl, h1⟩ | ⟨g', cap, cur, rfl, hg, hb, hn, _, hsz, hc⟩
  · simp [Value.ownBlock] at he
  · have : g' = g := by simpa [Value.ownBlock] using he
    subst this
    refine ⟨?_, hg⟩
    rcases Nat.lt_or_ge g' W.heap.size with h | h
    · exact h
    · rw [Array.getElem?_eq_none h] at hb; cases hb
theorem GOut.below_grown {B B0 : Nat} {w0 W W' : World} {t : TypeId} {n : Nat} {v : Value} {l : List (Array Value)} (h : GOut B W t n v l) (hg : W.grownBy W' v.ownBlock) (hB : Below B0 w0 W) (hle : B0 ≤ B) (hB0 : B0 ≤ W.heap.size) : Below B0 w0 W' := by
  refine hB.grown hg hB0 ?_
  intro g he
  have := (h.own_lt g he).2
  omega
theorem results_agg {P : Program} {fn : Func} {p t : Tmp} {ty : TypeId} (h : fn.results = #[.cell p ty, .tmp t]) (tmps : Array Value) (w : World) (g : Nat) (arr : Array Value) (n : Nat) (d : TypeDesc) (hp : tmps.getD p undef = .pointer (some ⟨g, 0, none⟩)) (hn : arr.size = n) (hc : ∀ j, w.cell? ⟨g, j, none⟩ = arr[j]?)
    (hu : P.underlying ty = some d) (hd : (match d with | .struct _ | .array _ _ => true | _ => false) = true) (hi : (P.info? ty).map (·.size) = some n) :
    (results fn tmps).run P w = .ok (.tuple #[.agg arr, tmps.getD t undef]) w := by
  subst hn
  have hp' : tmps[p]?.getD undef = .pointer (some ⟨g, 0, none⟩) := by simpa using hp
  have hl := run_load_agg (P := P) w ⟨g, 0, none⟩ ty arr.toList _ (fun j v hv => by
    rw [addr_add, Nat.zero_add, hc]
    simpa using hv) hu hd (by simpa using hi)
  simp [results, h, hp', asAddr, hl]
theorem results_agg1 {P : Program} {fn : Func} {p : Tmp} {ty : TypeId} (h : fn.results = #[.cell p ty]) (tmps : Array Value) (w : World) (g : Nat) (arr : Array Value) (n : Nat) (d : TypeDesc) (hp : tmps.getD p undef = .pointer (some ⟨g, 0, none⟩)) (hn : arr.size = n) (hc : ∀ j, w.cell? ⟨g, j, none⟩ = arr[j]?)
    (hu : P.underlying ty = some d) (hd : (match d with | .struct _ | .array _ _ => true | _ => false) = true) (hi : (P.info? ty).map (·.size) = some n) :
    (results fn tmps).run P w = .ok (.agg arr) w := by
  subst hn
  have hp' : tmps[p]?.getD undef = .pointer (some ⟨g, 0, none⟩) := by simpa using hp
  have hl := run_load_agg (P := P) w ⟨g, 0, none⟩ ty arr.toList _ (fun j v hv => by
    rw [addr_add, Nat.zero_add, hc]
    simpa using hv) hu hd (by simpa using hi)
  simp [results, h, hp', asAddr, hl]
end Go.Proofs.YtlggdgpdfepppaaGreatDoor
namespace Go.Proofs.YtlggdgpdfepppaaGreatDoor
open Go.RowKit
set_option linter.unusedVariables false
set_option linter.unusedSimpArgs false
theorem cellsIn_get (n : Nat) (hn : 0 < n) : ∀ (l : List (Array Value)), (∀ x ∈ l, x.size = n) → ∀ j v, (cellsIn l)[j]? = some v → ∃ i x, l[i]? = some x ∧ i * n + j % n = j ∧ x[j % n]? = some v := by
  intro l hx j v hv
  have hlt : j < (cellsIn l).length := (List.getElem?_eq_some_iff.1 hv).1
  rw [cellsIn_len n l hx] at hlt
  have hi : j / n < l.length := (Nat.div_lt_iff_lt_mul hn).2 hlt
  have e : j / n * n + j % n = j := by rw [Nat.mul_comm]; exact Nat.div_add_mod j n
  refine ⟨j / n, l[j / n], List.getElem?_eq_getElem hi, e, ?_⟩
  rw [← cellsIn_at n l hx (j / n) _ (List.getElem?_eq_getElem hi) (j % n) (Nat.mod_lt _ hn), e]
  exact hv
theorem cellsIn_one : ∀ (l : List (Array Value)), (∀ x ∈ l, x.toList.all (·.oneCell') = true) → ∀ u ∈ cellsIn l, u.oneCell' = true := by
  intro l h u hu
  obtain ⟨x, hx, hu⟩ := List.mem_flatMap.1 hu
  exact List.all_eq_true.1 (h x hx) u hu
theorem run_append_nilG {P : Program} (w : World) (base : Nat) (t ty e : TypeId) (i : TypeInfo) (size c : Nat) (ht : P.underlying t = some (.slice e)) (hi : P.info? e = some i) (v : Value) (n : Nat) (xs : List Value) (hown : w.ownsRow base e size v n xs) :
    (Builtin.append_ #[t, t] ty #[v, .slice none 0 c]).run P w = .ok v w := by
  rcases hown.2 with ⟨rfl, rfl⟩ | ⟨g, cap, cur, rfl, _, _, hnc, _⟩
  · simp [Builtin.append_, run_underlying ht, sizeOf, typeInfo, hi, Builtin.lenOf, Builtin.firstCells]
  · simp [Builtin.append_, run_underlying ht, sizeOf, typeInfo, hi, Builtin.lenOf, Builtin.firstCells, hnc, storeCells]
theorem cellsIn_app (a b : List (Array Value)) : cellsIn (a ++ b) = cellsIn a ++ cellsIn b := by simp [cellsIn]
theorem wpList_append_items {P : Program} {ops : Array Oper} {rest : List Oper} {op : Oper} {a : Act} {Q : Exit → Act → World → Prop} {B : Nat} {W : World} {v : Value} {es : List (Array Value)} (hgd : op.guard = none) (s x : Operand) (ts te : TypeId) (n bytes : Nat) (z : Value)
    (hinfo : (P.info? te).map (fun i => (i.zero, i.size, i.bytes)) = some (some z, n, bytes)) (hzs : z.cells.size = n) (hn0 : 0 < n) (hut : P.underlying ts = some (.slice te))
    (ho : op.op = .call { callee := .builtin .append, args := #[s, x], argTypes := #[ts, ts] }) (h : GOut B W te n v es) (hs : a.eval s = v) (l : List (Array Value)) (A : Option Addr) (m c : Nat) (hm : l.length = m)
    (hx : a.eval x = .slice A m c) (hI : Items W A n l) (hl : ∀ y ∈ l, y.size = n) (h1 : ∀ y ∈ l, y.toList.all (·.oneCell') = true) (h63 : es.length + m ≤ maxLen) (hbytes : (es.length + m) * bytes ≤ 140737488355328) (hb : B ≤ W.heap.size)
    (k : ∀ v' W', GOut B W' te n v' (es ++ l) → W.grownBy W' v.ownBlock → (v'.ownBlock = v.ownBlock ∨ v'.ownBlock = some W.heap.size) → wpList P ops Q rest (a.put op.dst v') W') : wpList P ops Q (op :: rest) a W := by
  obtain ⟨i0, hi, hz0, hz1, hz2⟩ := info_parts hinfo
  subst hm
  cases A with
  | none =>
    obtain rfl : l = [] := by
      rcases l with _ | ⟨y, r⟩
      · rfl
      · obtain ⟨b, o, hh, _⟩ := hI.at_ (by simp)
        cases hh
    refine wpList_plain hgd fun K hK => ?_
    have hrun := run_append_nilG (P := P) W B ts op.type te i0 n c hut hi v es.length (cellsIn es) h
    unfold Oper.wp
    simp [execOp, ho, resolve, invoke, builtin, hs, hx, hrun, Result.andThen]
    exact hK _ _ (k v W (by simpa using h) ⟨rfl, rfl, rfl, Nat.le_refl _, fun _ _ _ => rfl⟩ (.inl rfl))
  | some ad =>
    refine wpList_append_own_at (w := W) hgd s x ts ho B te i0 z n bytes hut hi hz0 hz1 hz2 hzs hn0 v es.length (cellsIn es) hs h ad l.length c (cellsIn l) hx (cellsIn_len n l hl) ?_ (cellsIn_one l h1) h63 hbytes hb ?_
    · intro j u hu
      obtain ⟨i, y, hy, e, hu2⟩ := cellsIn_get n hn0 l hl j u hu
      obtain ⟨b, o, hA, hlt, hc⟩ := hI.at_ (by rintro rfl; simp at hy)
      injection hA with hA
      subst hA
      have := hc i y hy (j % n) (Nat.mod_lt _ hn0)
      rw [addr_add, ← hu2, ← this]
      congr 2
      omega
    · intro v' W' h1 h2 _ h4
      refine k v' W' ?_ h2 h4
      unfold GOut
      rw [List.length_append, cellsIn_app]
      exact h1
def RetCl (w : World) (t : TypeId) (n m : Nat) (l : List (Array Value)) (e : Ending) (w' : World) : Prop := ∃ A c, e = .returned (.slice A m c) ∧ GOut w.heap.size w' t n (.slice A m c) l ∧ Below w.heap.size w w'
theorem callCl {P : Program} {f : FuncId} {args : Array Value} {W : World} {t : TypeId} {n m : Nat} {l : List (Array Value)} {K : Ending → World → Prop} (h : Calls P f args W (RetCl W t n m l))
    (k : ∀ A c w', GOut W.heap.size w' t n (.slice A m c) l → Below W.heap.size W w' → K (.returned (.slice A m c)) w') : Calls P f args W K :=
  h.mono fun e w' ⟨A, c, he, h1, h2⟩ => by subst he; exact k A c w' h1 h2
theorem GOut.empty (w : World) (t : TypeId) (n : Nat) : GOut w.heap.size (w.alloc (.cells #[] t)) t n (.slice (some ⟨w.heap.size, 0, none⟩) 0 0) [] :=
  ⟨by simp [cellsIn], .inr ⟨w.heap.size, 0, #[], rfl, Nat.le_refl _, heap_alloc_new w _, Nat.le_refl _, by unfold maxLen; omega, by simp, by simp [cellsIn]⟩⟩
theorem GOut.len {B : Nat} {W : World} {t : TypeId} {n : Nat} {v : Value} {l : List (Array Value)} (h : GOut B W t n v l) : ∃ A c, v = .slice A l.length c := by
  rcases h.2 with ⟨rfl, h0⟩ | ⟨g, cap, cur, rfl, _⟩
  · exact ⟨none, 0, by rw [h0]⟩
  · exact ⟨_, _, rfl⟩
end Go.Proofs.YtlggdgpdfepppaaGreatDoor
