/- Small words for the walks of this seat: what a contract says, how a call is met, a struct that is read out of memory. No condition. What the package-level variables hold, and that it is kept wherever memory that was there is kept. Plain facts on lists of bytes: cutting at a byte. No program in sight. Names, references: the contracts of record.Name, fix.SplitRef and of the references' own. -/
import Derived.Test.YtlleijickhifmaaGreatDoorRows
import Derived.Test.YtlleijickhifmaaGreatDoorShelf
import Derived.WalkKit
import Derived.ProofKit
import Derived.WalkLawsBesides
import Derived.WalkSpells
import Derived.Outline
import Derived.Handy
import Derived.Lib.Hide
import Derived.Laws.Rows
import Derived.Deep.QuietTactic
import Derived.BigQuiet
import Derived.Lib.LaidTab
import Derived.Deep.DeepCutAuto
import Derived.Lib.IndexMore
import Derived.Lib.IndexLaws
import Derived.Lib.CutLaws
namespace Go.Proofs.YtlleijickhifmaaGreatDoor
open Go.RowKit
set_option linter.unusedVariables false
set_option linter.unusedSimpArgs false

/-- The call returns v; what was in memory is as it was. -/
def Ret (w : World) (v : Value) (e : Ending) (w' : World) : Prop := e = .returned v ∧ Below w.heap.size w w'
/-- The call returns v and leaves the world alone. -/
def RetP (w : World) (v : Value) (e : Ending) (w' : World) : Prop := e = .returned v ∧ w = w'

theorem RetP.bool {w w' : World} {a b : Bool} (h : a = b) (hw : w = w') : RetP w (.bool b) (.returned (.bool a)) w' := ⟨by rw [h], hw⟩
theorem RetP.int {w w' : World} {k : IntKind} {a b : Int} (h : a = b) (hw : w = w') : RetP w (.int k b) (.returned (.int k a)) w' := ⟨by rw [h], hw⟩
theorem RetP.str {w w' : World} {a b : List UInt8} (h : a = b) (hw : w = w') : RetP w (.string ⟨b.toArray⟩) (.returned (.string ⟨a.toArray⟩)) w' := ⟨by rw [h], hw⟩
theorem Ret.bool {w w' : World} {a b : Bool} (h : a = b) (hw : Below w.heap.size w w') : Ret w (.bool b) (.returned (.bool a)) w' := ⟨by rw [h], hw⟩
theorem Ret.int {w w' : World} {k : IntKind} {a b : Int} (h : a = b) (hw : Below w.heap.size w w') : Ret w (.int k b) (.returned (.int k a)) w' := ⟨by rw [h], hw⟩
theorem Ret.str {w w' : World} {a b : List UInt8} (h : a = b) (hw : Below w.heap.size w w') : Ret w (.string ⟨b.toArray⟩) (.returned (.string ⟨a.toArray⟩)) w' := ⟨by rw [h], hw⟩
/-- The call returns v and only draws. -/
def RetQ (w : World) (v : Value) (e : Ending) (w' : World) : Prop := e = .returned v ∧ ∃ n, w' = w.drewN n
theorem RetQ.bool {w w' : World} {a b : Bool} (h : a = b) (hw : ∃ n, w' = w.drewN n) : RetQ w (.bool b) (.returned (.bool a)) w' := ⟨by rw [h], hw⟩
theorem RetQ.int {w w' : World} {k : IntKind} {a b : Int} (h : a = b) (hw : ∃ n, w' = w.drewN n) : RetQ w (.int k b) (.returned (.int k a)) w' := ⟨by rw [h], hw⟩
theorem RetQ.str {w w' : World} {a b : List UInt8} (h : a = b) (hw : ∃ n, w' = w.drewN n) : RetQ w (.string ⟨b.toArray⟩) (.returned (.string ⟨a.toArray⟩)) w' := ⟨by rw [h], hw⟩
theorem RetP.quiet {w w' : World} {v : Value} {e : Ending} (h : RetP w v e w') : RetQ w v e w' := ⟨h.1, 0, h.2.symm⟩
theorem RetQ.ret {w w' : World} {v : Value} {e : Ending} (h : RetQ w v e w') : Ret w v e w' := ⟨h.1, by obtain ⟨_, n, rfl⟩ := h; exact below_drewN (Below.refl _ _) n⟩
theorem RetP.ret {w w' : World} {v : Value} {e : Ending} (h : RetP w v e w') : Ret w v e w' := ⟨h.1, by obtain ⟨_, rfl⟩ := h; exact Below.refl _ _⟩

theorem ba_get (l : List UInt8) (k : Nat) (h : k < (ByteArray.mk l.toArray).size) : (ByteArray.mk l.toArray)[k]'h = l[k]'(by simpa [ByteArray.size] using h) := by rfl
theorem ba_extract (l : List UInt8) (a b : Nat) : (ByteArray.mk l.toArray).extract a b = ⟨((l.take b).drop a).toArray⟩ := by
  apply ByteArray.ext
  rw [ByteArray.data_extract]
  simp [List.extract_eq_take_drop, List.drop_take]
attribute [go_sem] ba_get ba_extract
theorem u8_ne {c d : UInt8} (h : ¬ c = d) : ((c.toNat : Int) == (d.toNat : Int)) = false := by
  rw [beq_eq_false_iff_ne]
  intro e
  exact h (UInt8.toNat_inj.1 (by omega))
theorem u8_eq {c d : UInt8} (h : c = d) : ((c.toNat : Int) == (d.toNat : Int)) = true := by rw [h]; simp

theorem bcell {W w1 : World} (hb : Below W.heap.size W w1) : (∀ b o, b < W.heap.size → w1.cell? ⟨b, o, none⟩ = W.cell? ⟨b, o, none⟩) ∧ (∀ b o, b < W.heap.size → w1.frozen? ⟨b, o, none⟩ = W.frozen? ⟨b, o, none⟩) :=
  ⟨fun b o h => hb.cell (p := ⟨b, o, none⟩) h, fun b o h => hb.frozen (p := ⟨b, o, none⟩) h⟩

/-- The world is w with one box (its cells cs) and what has been made since; what was there in w is as it was. -/
structure Own1 (w : World) (cs : Array Value) (wx : World) : Prop where
  below : Below w.heap.size w wx
  lt : w.heap.size < wx.heap.size
  cell : ∀ j, wx.cell? ⟨w.heap.size, j, none⟩ = cs[j]?
theorem Own1.mk0 (w : World) (cs : Array Value) (t : TypeId) : Own1 w cs (w.alloc (.cells cs t)) :=
  ⟨(Below.refl _ _).alloc (Nat.le_refl _) _, by simp, fun j => cell_of_row _ _ j cs t (0, 0) (heap_alloc_new w _)⟩
theorem Own1.step {w W w1 : World} {cs : Array Value} (h : Own1 w cs W) (hb : Below W.heap.size W w1) : Own1 w cs w1 :=
  ⟨h.below.trans (hb.mono h.below.size), Nat.lt_of_lt_of_le h.lt hb.size, fun j => by rw [hb.cell (p := ⟨w.heap.size, j, none⟩) h.lt]; exact h.cell j⟩
theorem Own1.drewN {w W : World} {cs : Array Value} (h : Own1 w cs W) (n : Nat) : Own1 w cs (W.drewN n) := h.step (below_drewN (Below.refl _ _) n)
theorem Own1.drew {w W : World} {cs : Array Value} (h : Own1 w cs W) : Own1 w cs W.drew := h.step ((Below.refl _ _).drew)
theorem Own1.alloc {w W : World} {cs : Array Value} (h : Own1 w cs W) (o : Obj) : Own1 w cs (W.alloc o) := h.step ((Below.refl _ _).alloc (Nat.le_refl _) _)

section
variable {P : Program}
/-- A call by a contract that leaves the world alone. -/
theorem callP {f : FuncId} {args : Array Value} {W : World} {v : Value} {K : Ending → World → Prop} (h : Calls P f args W (RetP W v)) (k : K (.returned v) W) : Calls P f args W K :=
  h.mono fun e w' ⟨he, hw⟩ => by subst he; subst hw; exact k
/-- A call by a contract that only draws. -/
theorem callQ {f : FuncId} {args : Array Value} {W : World} {v : Value} {K : Ending → World → Prop} (h : Calls P f args W (RetQ W v)) (k : ∀ n, K (.returned v) (W.drewN n)) : Calls P f args W K :=
  h.mono fun e w' ⟨he, n, hw⟩ => by subst he; subst hw; exact k n
/-- The same inside a region that draws ('go_quiet'). -/
theorem quietP {f : FuncId} {args : Array Value} {w : World} {n : Nat} {v : Value} (h : Calls P f args (w.drewN n) (RetP (w.drewN n) v)) : Calls P f args (w.drewN n) fun e w'' => e = .returned v ∧ ∃ m, w'' = w.drewN m :=
  h.mono fun _ _ ⟨he, hw⟩ => ⟨he, n, hw.symm⟩
theorem quietQ {f : FuncId} {args : Array Value} {w : World} {n : Nat} {v : Value} (h : Calls P f args (w.drewN n) (RetQ (w.drewN n) v)) : Calls P f args (w.drewN n) fun e w'' => e = .returned v ∧ ∃ m, w'' = w.drewN m :=
  h.mono fun _ _ ⟨he, m, hw⟩ => ⟨he, n + m, by rw [hw, World.drewN_drewN]⟩
theorem quietP' {f : FuncId} {args : Array Value} {w : World} {a n : Nat} {v : Value} (h : Calls P f args (w.drewN (a + n)) (RetP (w.drewN (a + n)) v)) : Calls P f args (w.drewN (a + n)) fun e w'' => e = .returned v ∧ ∃ m, w'' = w.drewN (a + m) :=
  h.mono fun _ _ ⟨he, hw⟩ => ⟨he, n, hw.symm⟩
theorem quietQ' {f : FuncId} {args : Array Value} {w : World} {a n : Nat} {v : Value} (h : Calls P f args (w.drewN (a + n)) (RetQ (w.drewN (a + n)) v)) : Calls P f args (w.drewN (a + n)) fun e w'' => e = .returned v ∧ ∃ m, w'' = w.drewN (a + m) :=
  h.mono fun _ _ ⟨he, m, hw⟩ => ⟨he, n + m, by rw [hw, World.drewN_drewN, Nat.add_assoc]⟩
/-- A call by a contract that may make memory. -/
theorem callR {f : FuncId} {args : Array Value} {W : World} {v : Value} {K : Ending → World → Prop} (h : Calls P f args W (Ret W v))
    (k : ∀ w', Below W.heap.size W w' → (∀ b o, b < W.heap.size → w'.cell? ⟨b, o, none⟩ = W.cell? ⟨b, o, none⟩) → (∀ b o, b < W.heap.size → w'.frozen? ⟨b, o, none⟩ = W.frozen? ⟨b, o, none⟩) → W.heap.size ≤ w'.heap.size → K (.returned v) w') : Calls P f args W K :=
  h.mono fun e w' ⟨he, hw⟩ => by subst he; exact k w' hw (bcell hw).1 (bcell hw).2 hw.size

/-- The same, told of the world w0 in which the caller began. -/
theorem callB {f : FuncId} {args : Array Value} {w0 W : World} {v : Value} {K : Ending → World → Prop} (hB : Below w0.heap.size w0 W) (h : Calls P f args W (Ret W v))
    (k : ∀ w', (∀ b o, b < W.heap.size → w'.cell? ⟨b, o, none⟩ = W.cell? ⟨b, o, none⟩) → (∀ b o, b < W.heap.size → w'.frozen? ⟨b, o, none⟩ = W.frozen? ⟨b, o, none⟩) → W.heap.size ≤ w'.heap.size → Below w0.heap.size w0 w' → K (.returned v) w') : Calls P f args W K :=
  h.mono fun e w' ⟨he, hw⟩ => by subst he; exact k w' (bcell hw).1 (bcell hw).2 hw.size (hB.trans (hw.mono hB.size))

theorem run_load_agg (w : World) (ad : Addr) (ty : TypeId) (cs : List Value) (d : TypeDesc) (hc : ∀ j v, cs[j]? = some v → w.cell? (ad.add j) = some v)
    (hu : P.underlying ty = some d) (hd : (match d with | .struct _ | .array _ _ => true | _ => false) = true) (hi : (P.info? ty).map (·.size) = some cs.length) :
    (loadVar ty ad).run P w = .ok (.agg cs.toArray) w := by
  have hl := run_loadCells_list (P := P) w ad cs hc
  cases hq : P.info? ty with
  | none => simp [hq] at hi
  | some i =>
    have hs : i.size = cs.length := by simpa [hq] using hi
    have hagg : (isAgg ty).run P w = .ok true w := by
      unfold isAgg
      rw [Sem.run_bind, run_underlying hu w]
      cases d <;> simp_all
    simp [loadVar, Sem.run_bind, hagg, sizeOf, typeInfo, hq, hs, hl]

theorem wp_load_agg {o : Oper} {a : Act} {w : World} {K : Act → World → Prop} {Q : Exit → Act → World → Prop} (ty : TypeId) (x : Operand) (ho : o.op = .load ty x)
    (ad : Addr) (hx : a.eval x = .pointer (some ad)) (cs : List Value) (d : TypeDesc) (hc : ∀ j v, cs[j]? = some v → w.cell? (ad.add j) = some v)
    (hu : P.underlying ty = some d) (hd : (match d with | .struct _ | .array _ _ => true | _ => false) = true) (hi : (P.info? ty).map (·.size) = some cs.length)
    (h : K (a.put o.dst (.agg cs.toArray)) w) : o.wp P a w K Q := by
  unfold Oper.wp execOp
  simp only [ho, hx, Instr.loadAt, Instr.sureAddr, Sem.run_bind, Sem.run_pure, Result.andThen_ok, run_load_agg w ad ty cs d hc hu hd hi]
  exact h

theorem wpList_load_agg {ops : Array Oper} {rest : List Oper} {o : Oper} {a : Act} {w : World} {Q : Exit → Act → World → Prop} (hgd : o.guard = none) (ty : TypeId) (x : Operand) (ho : o.op = .load ty x)
    (ad : Addr) (hx : a.eval x = .pointer (some ad)) (cs : List Value) (d : TypeDesc) (hc : ∀ j v, cs[j]? = some v → w.cell? (ad.add j) = some v)
    (hu : P.underlying ty = some d) (hd : (match d with | .struct _ | .array _ _ => true | _ => false) = true) (hi : (P.info? ty).map (·.size) = some cs.length)
    (h : wpList P ops Q rest (a.put o.dst (.agg cs.toArray)) w) : wpList P ops Q (o :: rest) a w :=
  wpList_plain hgd fun _ hK => wp_load_agg ty x ho ad hx cs d hc hu hd hi (hK _ _ h)
end
end Go.Proofs.YtlleijickhifmaaGreatDoor
namespace Go.Proofs.YtlleijickhifmaaGreatDoor
open Go.RowKit
set_option linter.unusedVariables false
set_option linter.unusedSimpArgs false

def usesTab : List Int := [0, 1, 9, 25, 9, 71, 71, 16, 50, 16, 146, 17, 49, 17, 53, 53, 53, 53]
def namesTab : List (List UInt8) := [[], [73, 70], [84, 70], [67, 70], [68, 70], [82, 70], [65, 70], [67, 65], [67, 68], [67, 73], [67, 82], [70, 65], [70, 67], [70, 77], [72, 65], [72, 70], [72, 77], [80, 73]]

structure Laid (w : World) : Prop where
  names : ∀ k, k < 18 → w.cell? ⟨2, k, none⟩ = some (.string ⟨(namesTab.getD k []).toArray⟩)
  maxLen : ∃ m, w.cell? ⟨3, 0, none⟩ = some (.int .i64 m)
  pow10 : Lib.TabIs Tryz.prog w "internal/strconv.uint64pow10" .u64 Lib.pow10Tab

theorem gPow10 : Tryz.prog.globalNamed "internal/strconv.uint64pow10" = some 6 := by kernel_rfl
theorem Laid.lt_names {w : World} (h : Laid w) : 2 < w.heap.size := block_lt_of_cell (h.names 0 (by omega))
theorem Laid.lt_maxLen {w : World} (h : Laid w) : 3 < w.heap.size := by obtain ⟨m, hm⟩ := h.maxLen; exact block_lt_of_cell hm
theorem Laid.lt_pow10 {w : World} (h : Laid w) : 6 < w.heap.size := block_lt_of_cell (h.pow10.cell gPow10 0 (by decide))

theorem Laid.below {w w' : World} (h : Laid w) (hb : Below w.heap.size w w') : Laid w' where
  names k hk := by rw [hb.cell (p := ⟨_, k, none⟩) h.lt_names]; exact h.names k hk
  maxLen := by obtain ⟨m, hm⟩ := h.maxLen; exact ⟨m, by rw [hb.cell (p := ⟨_, 0, none⟩) h.lt_maxLen]; exact hm⟩
  pow10 := by
    have h0 := h.pow10
    unfold Lib.TabIs World.var? at h0 ⊢
    rw [gPow10] at h0 ⊢
    simp only [Option.bind_some] at h0 ⊢
    rw [hb.block _ h.lt_pow10]
    exact h0
theorem Laid.alloc {w : World} (h : Laid w) (o : Obj) : Laid (w.alloc o) := h.below ((Below.refl _ _).alloc (Nat.le_refl _) _)
theorem Laid.drewN {w : World} (h : Laid w) (n : Nat) : Laid (w.drewN n) := h.below ⟨rfl, rfl, rfl, Nat.le_refl _, fun _ _ => rfl⟩
theorem Laid.drew {w : World} (h : Laid w) : Laid w.drew := h.below ⟨rfl, rfl, rfl, Nat.le_refl _, fun _ _ => rfl⟩
end Go.Proofs.YtlleijickhifmaaGreatDoor
namespace Go.Proofs.YtlleijickhifmaaGreatDoor
set_option linter.unusedVariables false
set_option linter.unusedSimpArgs false

/-- The text ahead of the first byte c, the text behind it, whether there is one. -/
def cutAt (c : UInt8) : List UInt8 → List UInt8 × List UInt8 × Bool
  | [] => ([], [], false)
  | x :: r => if x = c then ([], r, true) else (x :: (cutAt c r).1, (cutAt c r).2.1, (cutAt c r).2.2)

theorem cutAt_at (c : UInt8) : ∀ (l : List UInt8) (k : Nat) (h : k < l.length), (l.take k).all (· != c) = true → l[k] = c → cutAt c l = (l.take k, l.drop (k + 1), true)
  | [], k, h, _, _ => by simp at h
  | x :: r, 0, h, _, hc => by simp at hc; simp [cutAt, hc]
  | x :: r, k + 1, h, ha, hc => by
    simp at ha
    have hx : ¬ x = c := ha.1
    have ih := cutAt_at c r k (by simpa using h) (by simpa using ha.2) (by simpa using hc)
    simp [cutAt, hx, ih]
theorem cutAt_none (c : UInt8) : ∀ (l : List UInt8), l.all (· != c) = true → cutAt c l = (l, [], false)
  | [], _ => rfl
  | x :: r, ha => by
    simp at ha
    have ih := cutAt_none c r (by simpa using ha.2)
    simp [cutAt, ha.1, ih]
theorem take_all_succ (p : UInt8 → Bool) (l : List UInt8) (k : Nat) (h : k < l.length) (ha : (l.take k).all p = true) (hk : p l[k] = true) : (l.take (k + 1)).all p = true := by
  rw [List.take_succ_eq_append_getElem h, List.all_append, ha]; simp [hk]
theorem cutAt_len (c : UInt8) : ∀ l : List UInt8, (cutAt c l).1.length ≤ l.length ∧ (cutAt c l).2.1.length ≤ l.length
  | [] => by simp [cutAt]
  | x :: r => by have ih := cutAt_len c r; unfold cutAt; split <;> simp <;> omega
theorem index_cutAt (c : UInt8) : ∀ l : List UInt8, Lib.index l [c] = if (cutAt c l).2.2 then ((cutAt c l).1.length : Int) else -1
  | [] => by simp [Lib.index, cutAt]
  | x :: r => by
    have ih := index_cutAt c r
    by_cases hx : x = c
    · simp [Lib.index, cutAt, hx]
    · have hx' : ¬ c = x := fun e => hx e.symm
      cases hf : (cutAt c r).2.2
      · simp [hf] at ih
        simp [Lib.index, cutAt, hx, hx', hf, ih]
      · simp [hf] at ih
        simp [Lib.index, cutAt, hx, hx', hf, ih]
theorem cutAt_parts (c : UInt8) : ∀ l : List UInt8, (cutAt c l).2.2 = true → l = (cutAt c l).1 ++ c :: (cutAt c l).2.1
  | [], h => by simp [cutAt] at h
  | x :: r, h => by
    by_cases hx : x = c
    · simp [cutAt, hx]
    · simp [cutAt, hx] at h ⊢
      exact cutAt_parts c r h
theorem cutAt_miss (c : UInt8) : ∀ l : List UInt8, (cutAt c l).2.2 = false → (cutAt c l).1 = l ∧ (cutAt c l).2.1 = []
  | [], h => by simp [cutAt]
  | x :: r, h => by
    by_cases hx : x = c
    · simp [cutAt, hx] at h
    · simp [cutAt, hx] at h ⊢
      exact cutAt_miss c r h
theorem cut_cutAt (c : UInt8) (l : List UInt8) : Lib.cut l [c] = cutAt c l := by
  unfold Lib.cut
  rw [index_cutAt c l]
  cases hf : (cutAt c l).2.2
  · obtain ⟨h1, h2⟩ := cutAt_miss c l hf
    simp
    exact Prod.ext h1.symm (Prod.ext h2.symm hf.symm)
  · have hp := cutAt_parts c l hf
    generalize hA : (cutAt c l).1 = A at hp ⊢
    generalize hB : (cutAt c l).2.1 = B at hp ⊢
    simp only [if_true]
    rw [if_pos (by omega)]
    subst hp
    refine Prod.ext ?_ (Prod.ext ?_ ?_)
    · simp [hA]
    · simp [hB]
    · simp [hf]
end Go.Proofs.YtlleijickhifmaaGreatDoor
namespace Go.Proofs.YtlleijickhifmaaGreatDoor
open Go.RowKit
set_option linter.unusedVariables false
set_option linter.unusedSimpArgs false

def up (c : UInt8) : Bool := decide (65 ≤ c.toNat) && decide (c.toNat ≤ 90)
def alnum (c : UInt8) : Bool := up c || (decide (48 ≤ c.toNat) && decide (c.toNat ≤ 57))
def nameB (l : List UInt8) (most : Int) : Bool :=
  match l with
  | [] => false
  | c :: _ => decide ((l.length : Int) ≤ most) && up c && l.all alnum
theorem nameB_pos (l : List UInt8) (most : Int) (h : 0 < l.length) : nameB l most = (decide ((l.length : Int) ≤ most) && up l[0] && l.all alnum) := by
  cases l with
  | nil => simp at h
  | cons a r => simp [nameB]
theorem all_drop (p : UInt8 → Bool) (l : List UInt8) (k : Nat) (h : k < l.length) : (l.drop k).all p = (p l[k] && (l.drop (k+1)).all p) := by
  rw [List.drop_eq_getElem_cons h, List.all_cons]
set_option maxHeartbeats 400000 in
theorem name_any (l : List UInt8) (most : Int) (w : World) (hl : l.length ≤ 4611686018427387904) : Calls Tryz.prog 78 #[.string ⟨l.toArray⟩, .int .i64 most] w (RetP w (.bool (nameB l most))) := by
  by_cases h0 : 0 < l.length
  · have hs := Lib.hid (nameB_pos l most h0)
    have hne : ¬ l = [] := by rintro rfl; simp at h0
    have h1 : ((l.length : Int) == 0) = false := by simp [hne]
    go_enter Tryz.func78, Tryz.ntmps78
    go_wp2
    all_goals try (go_ret; exact RetP.bool (by rw [hs.out]; grind [up]) rfl)
    go_loop [27] (fun i => ∃ k : Nat, k ≤ l.length ∧ i = .int .i64 k ∧ nameB l most = (l.drop k).all alnum) (fun i => l.length - (intOf i).toNat)
    case atStart => exact ⟨0, by omega, rfl, by rw [hs.out]; grind [up]⟩
    case round =>
      obtain ⟨k, hk, rfl, hq⟩ := hrel
      have HQ := Lib.hid hq; clear hq
      by_cases hlt : k < l.length
      · have hd := Lib.hid (all_drop alnum l k hlt)
        go_wp2
        all_goals first
          | (go_ret; exact RetP.bool (by rw [HQ.out, hd.out]; grind [up, alnum]) rfl)
          | (go_round
             case rel => exact ⟨k + 1, by omega, by go_num, by rw [HQ.out, hd.out]; grind [up, alnum]⟩
             case measure => simp [intOf]; omega)
      · go_wp2
        go_ret
        exact RetP.bool (by rw [HQ.out, List.drop_of_length_le (by omega)]; rfl) rfl
  · obtain rfl : l = [] := by cases l <;> simp_all
    go_enter Tryz.func78, Tryz.ntmps78
    go_wp2
    go_ret
    exact RetP.bool (by simp [nameB]) rfl

def shortB (l : List UInt8) : Bool := l.length == 2 && l.all alnum
end Go.Proofs.YtlleijickhifmaaGreatDoor
