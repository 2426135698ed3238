/- Layer 58: the reference's keys; is a key known? Slices of structs in memory, whatever the struct: the cells of each element. Layer 58: the plan that is shown, the leg at an index. -/
import Derived.Test.YtijfmfdnagjlpaaGreatDoorPk11
import Derived.Test.YtijfmfdnagjlpaaGreatDoorPk04
import Derived.Laws.OwnMore
import Derived.Test.YtijfmfdnagjlpaaGreatDoorPk07
namespace Go.Proofs.YtijfmfdnagjlpaaGreatDoor
open Go.RowKit
set_option linter.unusedVariables false
set_option linter.unusedSimpArgs false
def rwordsL : List (List UInt8) := wordsL ++ linesL
theorem keysL_r : sgL ++ rwordsL = keysL := by rfl
theorem rwords_any (w : World) : Calls Tryz.prog 29 #[] w (RetStrs w rwordsL) := by
  go_enter Tryz.func29, Tryz.ntmps29
  go_wp2
  go_ret
  refine ⟨_, rfl, ?_, (Below.refl _ _).alloc (Nat.le_refl _) _⟩
  have h := World.ownsRow_lit (e := 9) (base := w.heap.size) (size := 1) w (svals rwordsL).toArray 20 (Nat.le_refl _) (by unfold maxLen; omega) rfl
  exact h
theorem sg_take (k : Nat) (h : k < 41) : sgL.take (k + 1) = sgL.take k ++ [(signsL.take (k + 1)).drop k] := by
  rw [List.take_succ_eq_append_getElem (by exact h)]
  congr 2
  simp only [sgL, List.getElem_map]
  rw [List.take_succ_eq_append_getElem (show k < signsL.length from h), List.drop_append]
  have : (signsL.take k).length = k := by rw [List.length_take]; exact Nat.min_eq_left (Nat.le_of_lt h)
  rw [List.drop_of_length_le (by omega), this]
  simp
set_option maxHeartbeats 4000000 in
set_option maxRecDepth 100000 in
theorem rkeys_any (w : World) : Calls Tryz.prog 16 #[] w (RetStrs w keysL) := by
  go_enter Tryz.func16, Tryz.ntmps16
  go_wp2
  go_loopw [1, 2] (fun v i wr => ∃ k : Nat, k ≤ 41 ∧ i = .int .i64 k ∧ SOut w wr v (sgL.take k) ∧ Below w.heap.size w wr) (fun _ i _ => 41 - (intOf i).toNat)
  case atStart => exact ⟨0, by omega, rfl, SOut.nil _ _, Below.refl _ _⟩
  case round =>
    obtain ⟨k, hk, rfl, O, B⟩ := hrel
    by_cases hlt : k < 41
    · have O2 := Lib.hid (O.alloc (.cells #[sval ((signsL.take (k + 1)).drop k)] 9))
      have B2 := below_step B ((Below.refl wr.heap.size wr).alloc (Nat.le_refl _) (.cells #[sval ((signsL.take (k + 1)).drop k)] 9))
      have HT := Lib.hid (sg_take k hlt)
      have HLn : (sgL.take k).length ≤ 41 := by rw [List.length_take]; omega
      clear O
      go_wp2_with (at_builtin; refine wpList_append_sout rfl (.tmp 7) (.tmp 12) rfl O2.out rfl ((signsL.take (k + 1)).drop k) wr.heap.size 1 rfl (cell_of_row _ _ 0 _ _ _ (heap_alloc_new wr _)) (by omega) B2.size ?_; intro v2 W2 O3 G3; have B3 := below_sgrown B2 O2.out G3; have O3 := Lib.hid O3)
      go_roundw
      case rel => exact ⟨k + 1, by omega, by go_num, by rw [HT.out]; exact O3.out, B3⟩
      case measure => simp [intOf]; omega
    · obtain rfl : k = 41 := by omega
      have O2 := Lib.hid O; clear O
      go_wp2_with fail
      refine callStrs' (rwords_any wr) ?_
      intro v3 w3 O3 B3
      have B4 := below_step B B3
      have O4 := Lib.hid (O2.out.below B3)
      obtain ⟨A5, c5, rfl, hc5, S5⟩ := O3.form
      obtain ⟨b6, o6, rfl, hb6, h6⟩ := S5.at_ (by decide)
      clear O3 S5 B3 hb6
      have H6 := Lib.hid h6; clear h6
      go_wp2_with (at_builtin; refine wpList_append_souts rfl (.tmp 14) (.tmp 15) rfl O4.out rfl rwordsL b6 o6 20 _ rfl rfl H6.out (by decide) B4.size ?_; intro v7 w7 O7 G7; have B7 := below_sgrown B4 O4.out G7; have O7 := Lib.hid O7)
      go_ret
      exact ⟨_, rfl, O7.out, B7⟩
theorem beq_str (a b : List UInt8) : ((⟨a.toArray⟩ : ByteArray) = ⟨b.toArray⟩) ↔ a = b := by
  constructor
  · intro h; injection h with h; exact List.toArray_inj h
  · rintro rfl; rfl
theorem contains_any (A : Option Addr) (c : Nat) (ss : List (List UInt8)) (key : List UInt8) (w : World) (hS : Strs w A ss) (hn : ss ≠ []) (hl : ss.length ≤ 4000000000) :
    Calls Tryz.prog 21 #[.slice A ss.length c, .string ⟨key.toArray⟩] w (RetP w (.bool (decide (key ∈ ss)))) := by
  obtain ⟨b, o, rfl, hb, h⟩ := hS.at_ hn
  have hc := Tryz.slices_Contains_string b o ss.length c (ss.map fun s => ⟨s.toArray⟩) ⟨key.toArray⟩ w (by simp) (by omega) (fun j hj => by
    have hj' : j < ss.length := by simpa using hj
    rw [h j ss[j] (List.getElem?_eq_getElem hj')]
    simp [sval, List.getD_eq_getElem?_getD, hj'])
  refine hc.mono fun e w' ⟨h1, h2⟩ => ⟨?_, h2.symm⟩
  rw [h1]
  have : Lib.containsS ((ss.map fun s => (⟨s.toArray⟩ : ByteArray)).take ss.length) ⟨key.toArray⟩ = decide (key ∈ ss) := by
    rw [Bool.eq_iff_iff, Lib.containsS_iff, decide_eq_true_iff, List.take_of_length_le (by simp)]
    constructor
    · intro hm
      obtain ⟨s, hs, he⟩ := List.mem_map.1 hm
      obtain rfl := (beq_str _ _).1 he
      exact hs
    · intro hm; exact List.mem_map.2 ⟨key, hm, rfl⟩
  rw [this]
set_option maxHeartbeats 4000000 in
set_option maxRecDepth 100000 in
theorem rknown58_any (key : List UInt8) (w : World) (hk : key.length ≤ 4000000000) : Calls Tryz.prog 25 #[.string ⟨key.toArray⟩] w (Ret w (.bool (decide (key ∈ keysL)))) := by
  go_enter Tryz.func25, Tryz.ntmps25
  go_wp2_with fail
  refine callStrs' (rkeys_any w) ?_
  intro v1 w1 O1 B1
  obtain ⟨A, c, rfl, hc, S⟩ := O1.form
  obtain ⟨b, o, rfl, hb, h⟩ := S.at_ (by decide)
  have H := Lib.hid h; clear h O1 S
  have hn : keysL.length = 61 := rfl
  rw [hn] at hc ⊢
  clear hn
  go_wp2
  go_loop [7] (fun i => ∃ k : Nat, k ≤ 61 ∧ i = .int .i64 k ∧ decide (key ∈ keysL) = decide (key ∈ keysL.drop k)) (fun i => 61 - (intOf i).toNat)
  case atStart => exact ⟨0, by omega, rfl, rfl⟩
  case round =>
    obtain ⟨k, hk', rfl, hq⟩ := hrel
    have HQ := Lib.hid hq; clear hq
    by_cases hlt : k < 61
    · have hlt' : k < keysL.length := hlt
      have e1 := H.out k keysL[k] (List.getElem?_eq_getElem hlt')
      have hd := Lib.hid (List.drop_eq_getElem_cons hlt')
      unfold sval at e1
      generalize keysL[k] = x at e1 hd
      by_cases hx : x = key
      · subst hx
        go_wp2
        go_ret
        exact Ret.bool (by rw [HQ.out, hd.out]; simp) B1
      · have hne : (key ∈ x :: keysL.drop (k + 1)) = (key ∈ keysL.drop (k + 1)) := by simp [Ne.symm hx]
        have HN := Lib.hid hne; clear hne
        have hb : (x == key) = false := by simp [hx]
        have HX := Lib.hid hx; clear hx
        go_wp2
        go_round
        case rel => exact ⟨k + 1, by omega, by go_num, by rw [HQ.out, hd.out]; simp only [HN.out]⟩
        case measure => simp [intOf]; omega
    · go_wp2
      go_ret
      exact Ret.bool (by rw [HQ.out, List.drop_of_length_le (by show 61 ≤ k; omega)]; rfl) B1
end Go.Proofs.YtijfmfdnagjlpaaGreatDoor
namespace Go.Proofs.YtijfmfdnagjlpaaGreatDoor
open Go.RowKit
set_option linter.unusedVariables false
set_option linter.unusedSimpArgs false
/-- The slice (its address A) reads as the elements l, each of n cells. -/
structure Items (w : World) (A : Option Addr) (n : Nat) (l : List (Array Value)) : Prop where
  at_ : l ≠ [] → ∃ b off, A = some ⟨b, off, none⟩ ∧ b < w.heap.size ∧ ∀ i x, l[i]? = some x → ∀ j, j < n → w.cell? ⟨b, off + i * n + j, none⟩ = x[j]?
theorem Items.get {w : World} {A : Option Addr} {n : Nat} {l : List (Array Value)} (h : Items w A n l) {k : Nat} (hk : k < l.length) :
    ∃ b off, A = some ⟨b, off, none⟩ ∧ b < w.heap.size ∧ ∀ j, j < n → w.cell? ⟨b, off + k * n + j, none⟩ = l[k][j]? := by
  obtain ⟨b, off, rfl, hb, hc⟩ := h.at_ (by rintro rfl; simp at hk)
  exact ⟨b, off, rfl, hb, hc k _ (List.getElem?_eq_getElem hk)⟩
theorem Items.below {w w' : World} {A : Option Addr} {n : Nat} {l : List (Array Value)} (h : Items w A n l) (hb : Below w.heap.size w w') : Items w' A n l where
  at_ hne := by
    obtain ⟨b, off, rfl, hlt, hc⟩ := h.at_ hne
    exact ⟨b, off, rfl, Nat.lt_of_lt_of_le hlt hb.size, fun i x hx j hj => by rw [hb.cell (p := ⟨b, _, none⟩) hlt]; exact hc i x hx j hj⟩
/-- The cells of element k in a later world. -/
theorem Items.cells {w W : World} {b off n : Nat} {l : List (Array Value)} (h : Items w (some ⟨b, off, none⟩) n l) (hB : Below w.heap.size w W) {k : Nat} (hk : k < l.length) :
    ∀ j, j < n → W.cell? ⟨b, off + k * n + j, none⟩ = l[k][j]? := by
  obtain ⟨b', off', hA, hb, hc⟩ := h.get hk
  obtain ⟨rfl, rfl⟩ : b = b' ∧ off = off' := by simpa using hA
  exact fun j hj => by rw [hB.cell (p := ⟨b, _, none⟩) hb]; exact hc j hj
theorem Items.nil (w : World) (A : Option Addr) (n : Nat) : Items w A n [] := ⟨fun h => absurd rfl h⟩
/-- The elements' cells, one after the other. -/
def cellsIn (l : List (Array Value)) : List Value := l.flatMap (·.toList)
theorem cellsIn_len (n : Nat) : ∀ (l : List (Array Value)), (∀ x ∈ l, x.size = n) → (cellsIn l).length = l.length * n
  | [], _ => by simp [cellsIn]
  | x :: r, h => by
    have ih := cellsIn_len n r (fun y hy => h y (by simp [hy]))
    have hx := h x (by simp)
    unfold cellsIn at *
    rw [List.flatMap_cons, List.length_append, ih, Array.length_toList, hx, List.length_cons, Nat.add_mul]; omega
theorem cellsIn_at (n : Nat) : ∀ (l : List (Array Value)), (∀ x ∈ l, x.size = n) → ∀ i x, l[i]? = some x → ∀ j, j < n → (cellsIn l)[i * n + j]? = x[j]?
  | [], _, i, x, hx, j, hj => by simp at hx
  | y :: r, h, 0, x, hx, j, hj => by
    have e : y = x := by simpa using hx
    subst e
    have hy := h y (by simp)
    unfold cellsIn
    rw [List.flatMap_cons, Nat.zero_mul, Nat.zero_add, List.getElem?_append_left (by simp [hy]; exact hj)]
    simp
  | y :: r, h, i + 1, x, hx, j, hj => by
    have ih := cellsIn_at n r (fun z hz => h z (by simp [hz])) i x (by simpa using hx) j hj
    have hy := h y (by simp)
    unfold cellsIn at *
    rw [List.flatMap_cons, List.getElem?_append_right (by simp [hy, Nat.add_mul]; omega), ← ih]
    congr 1
    simp [hy, Nat.add_mul]; omega
/-- The slice v of the call's own, made since B, holds the elements l. -/
def GOut (B : Nat) (W : World) (t : TypeId) (n : Nat) (v : Value) (l : List (Array Value)) : Prop := W.ownsRow B t n v l.length (cellsIn l)
theorem GOut.nil (B : Nat) (W : World) (t : TypeId) (n : Nat) : GOut B W t n (.slice none 0 0) [] := ⟨by simp [cellsIn], .inl ⟨rfl, rfl⟩⟩
theorem GOut.below {B : Nat} {W W' : World} {t : TypeId} {n : Nat} {v : Value} {l : List (Array Value)} (h : GOut B W t n v l) (hk : ∀ k, B ≤ k → k < W.heap.size → W'.heap[k]? = W.heap[k]?) : GOut B W' t n v l := by
  obtain ⟨hl, h⟩ := h
  refine ⟨hl, ?_⟩
  rcases h with ⟨rfl, h0⟩ | ⟨g, cap, cur, rfl, hg, hbk, hn, hm, hsz, hc⟩
  · exact .inl ⟨rfl, h0⟩
  · have hlt : g < W.heap.size := by
      rcases Nat.lt_or_ge g W.heap.size with hlt | hge
      · exact hlt
      · rw [Array.getElem?_eq_none hge] at hbk; cases hbk
    exact .inr ⟨g, cap, cur, rfl, hg, (hk g hg hlt).trans hbk, hn, hm, hsz, hc⟩
theorem GOut.step {B : Nat} {W W' : World} {t : TypeId} {n : Nat} {v : Value} {l : List (Array Value)} (h : GOut B W t n v l) (hb : Below W.heap.size W W') : GOut B W' t n v l := h.below fun k _ hk => hb.block k hk
theorem GOut.alloc {B : Nat} {W : World} {t : TypeId} {n : Nat} {v : Value} {l : List (Array Value)} (h : GOut B W t n v l) (o : Obj) : GOut B (W.alloc o) t n v l := h.step ((Below.refl _ _).alloc (Nat.le_refl _) _)
theorem GOut.form {B : Nat} {W : World} {t : TypeId} {n : Nat} {v : Value} {l : List (Array Value)} (h : GOut B W t n v l) (hx : ∀ x ∈ l, x.size = n) :
    ∃ A c, v = .slice A l.length c ∧ l.length ≤ c ∧ Items W A n l ∧ (∀ a, A = some a → B ≤ a.block) ∧ c ≤ maxLen := by
  obtain ⟨hl, h⟩ := h
  rcases h with ⟨rfl, h0⟩ | ⟨g, cap, cur, rfl, hg, hb, hn, hm, hsz, hc⟩
  · refine ⟨none, 0, by rw [h0], by omega, ?_, by simp, by unfold maxLen; omega⟩
    obtain rfl : l = [] := List.eq_nil_of_length_eq_zero h0
    exact Items.nil _ _ _
  · refine ⟨some ⟨g, 0, none⟩, cap, rfl, hn, ⟨fun _ => ⟨g, 0, rfl, ?_, ?_⟩⟩, by rintro a h; injection h with h; subst h; exact hg, hm⟩
    · rcases Nat.lt_or_ge g W.heap.size with hlt | hge
      · exact hlt
      · rw [Array.getElem?_eq_none hge] at hb; cases hb
    · intro i x hi j hj
      have h1 := cellsIn_at n l hx i x hi j hj
      have hil : i < l.length := (List.getElem?_eq_some_iff.1 hi).1
      have hlt : i * n + j < l.length * n := by
        have : (i + 1) * n ≤ l.length * n := Nat.mul_le_mul_right n (by omega)
        rw [Nat.add_mul, Nat.one_mul] at this
        omega
      rw [Nat.zero_add, cell_of_row W g _ cur _ _ hb, ← h1, ← hc, List.getElem?_take, if_pos hlt]
      simp
/-- 'out = append(out, x)' of one struct: the source is a new block of its cells. -/
theorem wpList_append_item {P : Program} {ops : Array Oper} {rest : List Oper} {op : Oper} {a : Act} {Q : Exit → Act → World → Prop} {B : Nat} {W : World} {v : Value} {l : List (Array Value)} (hgd : op.guard = none) (s x : Operand) (ts te : TypeId) (n bytes : Nat) (z : Value)
    (hinfo : (P.info? te).map (fun i => (i.zero, i.size, i.bytes)) = some (some z, n, bytes)) (hzs : z.cells.size = n) (hn0 : 0 < n) (hut : P.underlying ts = some (.slice te))
    (ho : op.op = .call { callee := .builtin .append, args := #[s, x], argTypes := #[ts, ts] }) (h : GOut B W te n v l) (hs : a.eval s = v) (y : Array Value) (g c : Nat) (hy : y.size = n) (hy1 : y.all (·.oneCell') = true)
    (hx : a.eval x = .slice (some ⟨g, 0, none⟩) 1 c) (hg : ∀ j, W.cell? ⟨g, j, none⟩ = y[j]?) (h63 : l.length + 1 ≤ maxLen) (hbytes : (l.length + 1) * bytes ≤ 140737488355328) (hb : B ≤ W.heap.size)
    (k : ∀ v' W', GOut B W' te n v' (l ++ [y]) → W.grownBy W' v.ownBlock → wpList P ops Q rest (a.put op.dst v') W') : wpList P ops Q (op :: rest) a W := by
  obtain ⟨i0, hi, hz0, hz1, hz2⟩ := info_parts hinfo
  refine wpList_append_own W hgd s x ts ho B te i0 _ n bytes hut hi hz0 hz1 hz2 hzs hn0 v l.length (cellsIn l) hs h ⟨g, 0, none⟩ 1 c y.toList hx (by simp [hy]) ?_ (fun u hu => (Array.all_eq_true_iff_forall_mem.1 hy1) u (by simpa using hu)) h63 hbytes hb ?_
  · intro j u hu
    rw [addr_add, Nat.zero_add, hg]
    simpa using hu
  · intro v' W' h1 h2 _
    refine k v' W' ?_ h2
    unfold GOut
    rw [List.length_append]
    have : cellsIn (l ++ [y]) = cellsIn l ++ y.toList := by simp [cellsIn]
    rw [this]
    exact h1
theorem GOut.own_lt {B : Nat} {W : World} {t : TypeId} {n : Nat} {v : Value} {l : List (Array Value)} (h : GOut B W t n v l) : ∀ g, v.ownBlock = some g → g < W.heap.size ∧ B ≤ g := by
  intro g he
  obtain ⟨hl, h⟩ := h
  rcases h with ⟨rfl, h1⟩ | ⟨g', cap, cur, rfl, hg, hb, hn, _, hsz, hc⟩
  · simp [Value.ownBlock] at he
  · have : g' = g := by simpa [Value.ownBlock] using he
    subst this
    refine ⟨?_, hg⟩
    rcases Nat.lt_or_ge g' W.heap.size with h | h
    · exact h
    · rw [Array.getElem?_eq_none h] at hb; cases hb
/-- What lies below B is kept by such an append. -/
theorem GOut.grown {B : Nat} {W W' : World} {t : TypeId} {n : Nat} {v : Value} {l : List (Array Value)} (h : GOut B W t n v l) (hg : W.grownBy W' v.ownBlock) : ∀ k, k < B → k < W.heap.size → W'.heap[k]? = W.heap[k]? := by
  intro k hk hlt
  refine hg.block k hlt fun e => ?_
  have := h.own_lt k e.symm
  omega
theorem GOut.below_grown {B B0 : Nat} {w0 W W' : World} {t : TypeId} {n : Nat} {v : Value} {l : List (Array Value)} (h : GOut B W t n v l) (hg : W.grownBy W' v.ownBlock) (hB : Below B0 w0 W) (hle : B0 ≤ B) (hB0 : B0 ≤ W.heap.size) : Below B0 w0 W' := by
  refine hB.grown hg hB0 ?_
  intro g he
  have := (h.own_lt g he).2
  omega
/-- A struct result that lies in memory, with one more result. -/
theorem results_agg {P : Program} {fn : Func} {p t : Tmp} {ty : TypeId} (h : fn.results = #[.cell p ty, .tmp t]) (tmps : Array Value) (w : World) (g : Nat) (arr : Array Value) (n : Nat) (d : TypeDesc) (hp : tmps.getD p undef = .pointer (some ⟨g, 0, none⟩)) (hn : arr.size = n) (hc : ∀ j, w.cell? ⟨g, j, none⟩ = arr[j]?)
    (hu : P.underlying ty = some d) (hd : (match d with | .struct _ | .array _ _ => true | _ => false) = true) (hi : (P.info? ty).map (·.size) = some n) :
    (results fn tmps).run P w = .ok (.tuple #[.agg arr, tmps.getD t undef]) w := by
  subst hn
  have hp' : tmps[p]?.getD undef = .pointer (some ⟨g, 0, none⟩) := by simpa using hp
  have hl := run_load_agg (P := P) w ⟨g, 0, none⟩ ty arr.toList _ (fun j v hv => by
    rw [addr_add, Nat.zero_add, hc]
    simpa using hv) hu hd (by simpa using hi)
  simp [results, h, hp', asAddr, hl]
/-- The same with no other result. -/
theorem results_agg1 {P : Program} {fn : Func} {p : Tmp} {ty : TypeId} (h : fn.results = #[.cell p ty]) (tmps : Array Value) (w : World) (g : Nat) (arr : Array Value) (n : Nat) (d : TypeDesc) (hp : tmps.getD p undef = .pointer (some ⟨g, 0, none⟩)) (hn : arr.size = n) (hc : ∀ j, w.cell? ⟨g, j, none⟩ = arr[j]?)
    (hu : P.underlying ty = some d) (hd : (match d with | .struct _ | .array _ _ => true | _ => false) = true) (hi : (P.info? ty).map (·.size) = some n) :
    (results fn tmps).run P w = .ok (.agg arr) w := by
  subst hn
  have hp' : tmps[p]?.getD undef = .pointer (some ⟨g, 0, none⟩) := by simpa using hp
  have hl := run_load_agg (P := P) w ⟨g, 0, none⟩ ty arr.toList _ (fun j v hv => by
    rw [addr_add, Nat.zero_add, hc]
    simpa using hv) hu hd (by simpa using hi)
  simp [results, h, hp', asAddr, hl]
end Go.Proofs.YtijfmfdnagjlpaaGreatDoor
namespace Go.Proofs.YtijfmfdnagjlpaaGreatDoor
open Go.RowKit
set_option linter.unusedVariables false
set_option linter.unusedSimpArgs false
def zeroP : Array Value := #[.string ⟨#[]⟩, .string ⟨#[]⟩, .slice none 0 0, .int .i64 0]
theorem run_storeB_plan (W : World) (g o : Nat) (v : Array Value) (hv : SzIs v 4) (h1 : Ones v) (hp : Plain W g) (hn : Fits o 4 (blkOf W g)) :
    (store_plan (.pointer (some ⟨g, o, none⟩)) (.agg v)).run Tryz.prog W = .ok () (W.setRow g (splice (blkOf W g) o v)) := run_store_blk W g o 4 _ v info_plan hv h1 hp hn
theorem Fits_zeroP (o n : Nat) : Fits o n zeroP = (o + n ≤ 4) := rfl
attribute [local go_sem] run_storeB_plan Fits_zeroP
theorem splice_zeroP (p : Plan) (A : Option Addr) (c : Nat) : splice zeroP 0 (p.arr A c) = p.arr A c := rfl
theorem Vw.At.is_active {v : Vw} {d : VAd} {arr : Array Value} (h : v.At d arr) {W : World} {g : Nat} (hb : Blk W g arr) : Is_plan W g 0 (v.active.arr d.A d.c) := ⟨rfl, fun j hj => by rw [hb.cell]; exact h.active j hj⟩
theorem Vw.At.is_temp {v : Vw} {d : VAd} {arr : Array Value} (h : v.At d arr) {W : World} {g : Nat} (hb : Blk W g arr) : Is_plan W g 4 (v.temp.arr d.A2 d.c2) := ⟨rfl, fun j hj => by rw [hb.cell]; exact h.temp j hj⟩
set_option maxHeartbeats 4000000 in
set_option maxRecDepth 100000 in
theorem shown_any (v : Vw) (d : VAd) (arr : Array Value) (h : v.At d arr) (w : World) : Calls Tryz.prog 30 #[.agg arr] w (Ret w ((shownS v).val (d.sA v) (d.sc v))) := by
  go_enter Tryz.func30, Tryz.ntmps30
  go_upto_region 1 with (fail)
  generalize hW : (w.alloc _).alloc _ = W
  have X0 : Blk W w.heap.size arr := by rw [← hW]; exact (Blk.new w arr _).alloc _
  have R0 : Blk W (w.heap.size + 1) zeroP := by rw [← hW, ← World.size_alloc w (.cells arr 44)]; exact Blk.new _ _ _
  have B0 : Below w.heap.size w W := by rw [← hW]; go_grown
  clear hW
  have c1 := X0.cell
  have e8 := h.hasTemp
  have c4 : Has_plan W w.heap.size 0 := ⟨_, h.is_active X0⟩
  have c5 : of_plan W w.heap.size 0 = v.active.arr d.A d.c := of_plan_eq (h.is_active X0)
  have c6 : Has_plan W w.heap.size 4 := ⟨_, h.is_temp X0⟩
  have c7 : of_plan W w.heap.size 4 = v.temp.arr d.A2 d.c2 := of_plan_eq (h.is_temp X0)
  have d2 := R0.plain
  have d3 := R0.of
  have f1 := splice_zeroP
  cases hT : v.hasTemp
  · rw [hT] at e8
    go_wp2
    exact bodyPost_ret (results_agg1 Tryz.results30 _ _ (w.heap.size + 1) (v.active.arr d.A d.c) 4 _ rfl rfl (R0.set _).cell Tryz.underlying26 rfl info_plan) rfl ⟨by simp [shownS, VAd.sA, VAd.sc, hT], below_setRow' B0 (by omega) _⟩
  · rw [hT] at e8
    go_wp2
    exact bodyPost_ret (results_agg1 Tryz.results30 _ _ (w.heap.size + 1) (v.temp.arr d.A2 d.c2) 4 _ rfl rfl (R0.set _).cell Tryz.underlying26 rfl info_plan) rfl ⟨by simp [shownS, VAd.sA, VAd.sc, hT], below_setRow' B0 (by omega) _⟩
set_option maxHeartbeats 4000000 in
set_option maxRecDepth 100000 in
theorem rshown_any (v : Vw) (d : VAd) (arr : Array Value) (h : v.At d arr) (w : World) : Calls Tryz.prog 19 #[.agg arr] w (Ret w ((shownS v).val (d.sA v) (d.sc v))) := by
  go_enter Tryz.func19, Tryz.ntmps19
  go_upto_region 1 with (fail)
  generalize hW : (w.alloc _).alloc _ = W
  have X0 : Blk W w.heap.size arr := by rw [← hW]; exact (Blk.new w arr _).alloc _
  have R0 : Blk W (w.heap.size + 1) zeroP := by rw [← hW, ← World.size_alloc w (.cells arr 44)]; exact Blk.new _ _ _
  have B0 : Below w.heap.size w W := by rw [← hW]; go_grown
  clear hW
  have c1 := X0.cell
  have e8 := h.hasTemp
  have c4 : Has_plan W w.heap.size 0 := ⟨_, h.is_active X0⟩
  have c5 : of_plan W w.heap.size 0 = v.active.arr d.A d.c := of_plan_eq (h.is_active X0)
  have c6 : Has_plan W w.heap.size 4 := ⟨_, h.is_temp X0⟩
  have c7 : of_plan W w.heap.size 4 = v.temp.arr d.A2 d.c2 := of_plan_eq (h.is_temp X0)
  have d2 := R0.plain
  have d3 := R0.of
  have f1 := splice_zeroP
  cases hT : v.hasTemp
  · rw [hT] at e8
    go_wp2
    exact bodyPost_ret (results_agg1 Tryz.results19 _ _ (w.heap.size + 1) (v.active.arr d.A d.c) 4 _ rfl rfl (R0.set _).cell Tryz.underlying26 rfl info_plan) rfl ⟨by simp [shownS, VAd.sA, VAd.sc, hT], below_setRow' B0 (by omega) _⟩
  · rw [hT] at e8
    go_wp2
    exact bodyPost_ret (results_agg1 Tryz.results19 _ _ (w.heap.size + 1) (v.temp.arr d.A2 d.c2) 4 _ rfl rfl (R0.set _).cell Tryz.underlying26 rfl info_plan) rfl ⟨by simp [shownS, VAd.sA, VAd.sc, hT], below_setRow' B0 (by omega) _⟩
def zeroL : Leg := ⟨0, [], [], 0, false, 0, 0, 0, 0, 0, 0, 0, 0⟩
def legAtV (p : Plan) (k : Int) : Leg × Bool := match legAtS p k with | some l => (l, true) | none => (zeroL, false)
theorem legAtS_none {p : Plan} {k : Nat} (h : ¬ k < p.es.length) : legAtS p k = none := by
  unfold legAtS
  rw [Int.toNat_natCast, List.getElem?_eq_none (by omega)]
theorem legAtS_some {p : Plan} {k : Nat} (h : k < p.es.length) : legAtS p k = if p.es[k].gap then none else some p.es[k].leg := by
  unfold legAtS
  rw [Int.toNat_natCast, List.getElem?_eq_getElem h]
theorem Entry.is_legAt {W : World} {b o k : Nat} {x : Entry} (h : ∀ j, j < 20 → W.cell? ⟨b, o + k * 20 + j, none⟩ = x.arr[j]?) : Is_leg W b (o + k * 20 + 1) x.leg := by
  intro j hj
  rw [Nat.add_assoc, h (1 + j) (by omega)]
  exact x.leg_sub j hj
set_option maxHeartbeats 4000000 in
set_option maxRecDepth 100000 in
theorem legAt_any (p : Plan) (A : Option Addr) (c : Nat) (k : Nat) (w : World) (hE : Ents w A p.es) (hl : p.es.length ≤ 4000000000) (hk : k ≤ 4000000000) :
    Calls Tryz.prog 59 #[.agg (p.arr A c), .int .i64 k] w (Ret w (.tuple #[.agg (legAtV p k).1.arr, .bool (legAtV p k).2])) := by
  go_enter Tryz.func59, Tryz.ntmps59
  go_upto_region 1 with (fail)
  generalize hW : (w.alloc _).alloc _ = W
  have X0 : Blk W w.heap.size (p.arr A c) := by rw [← hW]; exact (Blk.new w (p.arr A c) _).alloc _
  have R0 : Blk W (w.heap.size + 1) zeroL.arr := by rw [← hW, ← World.size_alloc w (.cells (p.arr A c) 26)]; exact Blk.new _ _ _
  have B0 : Below w.heap.size w W := by rw [← hW]; go_grown
  clear hW
  have c1 := X0.cell
  have d2 := R0.plain
  have d3 := R0.of
  have f1 : ∀ l : Leg, splice zeroL.arr 0 l.arr = l.arr := fun l => rfl
  have q0 := R0.set
  by_cases hlt : k < p.es.length
  · obtain ⟨b, o, rfl, hb, hc⟩ := hE.get hlt
    have HS := Lib.hid (legAtS_some hlt)
    have HC : ∀ j, j < 20 → W.cell? ⟨b, o + k * 20 + j, none⟩ = p.es[k].arr[j]? := fun j hj => by rw [B0.cell (p := ⟨b, _, none⟩) hb]; exact hc j hj
    generalize p.es[k] = x at HS HC
    have HG := HC 0 (by omega)
    rw [Nat.add_zero] at HG
    have HG2 : x.arr[0]? = some (.bool x.gap) := rfl
    rw [HG2] at HG
    have c4 : Has_leg W b (o + k * 20 + 1) := ⟨_, Entry.is_legAt HC⟩
    have c5 : of_leg W b (o + k * 20 + 1) = x.leg := of_leg_eq (Entry.is_legAt HC)
    clear HC hc HG2
    cases hg : x.gap
    · rw [hg] at HG HS
      go_wp2
      exact bodyPost_ret (results_agg Tryz.results59 _ _ (w.heap.size + 1) x.leg.arr 13 _ rfl rfl (R0.set _).cell Tryz.underlying84 rfl info_leg) rfl ⟨by simp [legAtV, HS.out], below_setRow' B0 (by omega) _⟩
    · rw [hg] at HG HS
      go_wp2
      exact bodyPost_ret (results_agg Tryz.results59 _ _ (w.heap.size + 1) zeroL.arr 13 _ rfl rfl (R0.set _).cell Tryz.underlying84 rfl info_leg) rfl ⟨by simp [legAtV, HS.out], below_setRow' B0 (by omega) _⟩
  · have HS := Lib.hid (legAtS_none (p := p) hlt)
    go_wp2
    exact bodyPost_ret (results_agg Tryz.results59 _ _ (w.heap.size + 1) zeroL.arr 13 _ rfl rfl (R0.set _).cell Tryz.underlying84 rfl info_leg) rfl ⟨by simp [legAtV, HS.out], below_setRow' B0 (by omega) _⟩
set_option maxHeartbeats 4000000 in
set_option maxRecDepth 100000 in
theorem isLeg_any (p : Plan) (A : Option Addr) (c : Nat) (k : Nat) (w : World) (hE : Ents w A p.es) (hl : p.es.length ≤ 4000000000) (hk : k ≤ 4000000000) :
    Calls Tryz.prog 45 #[.agg (p.arr A c), .int .i64 k] w (Ret w (.bool (legAtS p k).isSome)) := by
  go_enter Tryz.func45, Tryz.ntmps45
  go_upto_region 1 with (fail)
  by_cases hlt : k < p.es.length
  · obtain ⟨b, o, rfl, hb, hc⟩ := hE.get hlt
    have HS := Lib.hid (legAtS_some hlt)
    have HG := hc 0 (by omega)
    generalize p.es[k] = x at HS HG
    rw [Nat.add_zero] at HG
    have HG2 : x.arr[0]? = some (.bool x.gap) := rfl
    rw [HG2] at HG
    have HW := World.cell?_alloc_lt w (.cells (p.arr (some ⟨b, o, none⟩) c) 26) ⟨b, o + k * 20, none⟩ hb
    rw [HG] at HW
    clear hc HG2 HG
    cases hg : x.gap
    · rw [hg] at HW HS
      go_wp2
      go_ret
      exact Ret.bool (by rw [HS.out]; rfl) (by go_grown)
    · rw [hg] at HW HS
      go_wp2
      go_ret
      exact Ret.bool (by rw [HS.out]; rfl) (by go_grown)
  · have HS := Lib.hid (legAtS_none (p := p) hlt)
    go_wp2
    go_ret
    exact Ret.bool (by rw [HS.out]; rfl) (by go_grown)
end Go.Proofs.YtijfmfdnagjlpaaGreatDoor
