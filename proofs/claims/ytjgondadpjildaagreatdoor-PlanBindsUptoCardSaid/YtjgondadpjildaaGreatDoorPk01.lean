/- Small words for the walks of this seat: what a contract says, how a call is met, a struct that is read out of memory. No condition. The sine, the sphere and the plane in plain Lean: whole numbers, no wraps; how large they are. No program in sight. The small functions of trig, angle, sphere and their references: products, quotients, roundings; walks of both sides. angle.Norm and its reference: walks. angle.Turn, the sine's series, and their references: walks. The series of sine and cosine, the quarter, the sine and the cosine of every angle; the program's and the reference's; walks. Printed by wip/mktrigd.py. What the package-level variables hold, and that it is kept wherever memory that was there is kept. -/
import Derived.Test.YtjgondadpjildaaGreatDoorRows
import Derived.Test.YtjgondadpjildaaGreatDoorShelf
import Derived.WalkKit
import Derived.ProofKit
import Derived.WalkLawsBesides
import Derived.WalkSpells
import Derived.Outline
import Derived.Handy
import Derived.Lib.Hide
import Derived.Laws.Rows
import Derived.Deep.QuietTactic
import Derived.BigQuiet
import Derived.Lib.LaidTab
import Derived.Deep.DeepCutAuto
namespace Go.Proofs.YtjgondadpjildaaGreatDoor
open Go.RowKit
set_option linter.unusedVariables false
set_option linter.unusedSimpArgs false

/-- The call returns v; what was in memory is as it was. -/
def Ret (w : World) (v : Value) (e : Ending) (w' : World) : Prop := e = .returned v ∧ Below w.heap.size w w'
/-- The call returns v and leaves the world alone. -/
def RetP (w : World) (v : Value) (e : Ending) (w' : World) : Prop := e = .returned v ∧ w = w'

theorem RetP.bool {w w' : World} {a b : Bool} (h : a = b) (hw : w = w') : RetP w (.bool b) (.returned (.bool a)) w' := ⟨by rw [h], hw⟩
theorem RetP.int {w w' : World} {k : IntKind} {a b : Int} (h : a = b) (hw : w = w') : RetP w (.int k b) (.returned (.int k a)) w' := ⟨by rw [h], hw⟩
theorem RetP.str {w w' : World} {a b : List UInt8} (h : a = b) (hw : w = w') : RetP w (.string ⟨b.toArray⟩) (.returned (.string ⟨a.toArray⟩)) w' := ⟨by rw [h], hw⟩
theorem Ret.bool {w w' : World} {a b : Bool} (h : a = b) (hw : Below w.heap.size w w') : Ret w (.bool b) (.returned (.bool a)) w' := ⟨by rw [h], hw⟩
theorem Ret.int {w w' : World} {k : IntKind} {a b : Int} (h : a = b) (hw : Below w.heap.size w w') : Ret w (.int k b) (.returned (.int k a)) w' := ⟨by rw [h], hw⟩
theorem Ret.str {w w' : World} {a b : List UInt8} (h : a = b) (hw : Below w.heap.size w w') : Ret w (.string ⟨b.toArray⟩) (.returned (.string ⟨a.toArray⟩)) w' := ⟨by rw [h], hw⟩
/-- The call returns v and only draws. -/
def RetQ (w : World) (v : Value) (e : Ending) (w' : World) : Prop := e = .returned v ∧ ∃ n, w' = w.drewN n
theorem RetQ.bool {w w' : World} {a b : Bool} (h : a = b) (hw : ∃ n, w' = w.drewN n) : RetQ w (.bool b) (.returned (.bool a)) w' := ⟨by rw [h], hw⟩
theorem RetQ.int {w w' : World} {k : IntKind} {a b : Int} (h : a = b) (hw : ∃ n, w' = w.drewN n) : RetQ w (.int k b) (.returned (.int k a)) w' := ⟨by rw [h], hw⟩
theorem RetQ.str {w w' : World} {a b : List UInt8} (h : a = b) (hw : ∃ n, w' = w.drewN n) : RetQ w (.string ⟨b.toArray⟩) (.returned (.string ⟨a.toArray⟩)) w' := ⟨by rw [h], hw⟩
theorem RetP.quiet {w w' : World} {v : Value} {e : Ending} (h : RetP w v e w') : RetQ w v e w' := ⟨h.1, 0, h.2.symm⟩
theorem RetQ.ret {w w' : World} {v : Value} {e : Ending} (h : RetQ w v e w') : Ret w v e w' := ⟨h.1, by obtain ⟨_, n, rfl⟩ := h; exact below_drewN (Below.refl _ _) n⟩
theorem RetP.ret {w w' : World} {v : Value} {e : Ending} (h : RetP w v e w') : Ret w v e w' := ⟨h.1, by obtain ⟨_, rfl⟩ := h; exact Below.refl _ _⟩

theorem ba_get (l : List UInt8) (k : Nat) (h : k < (ByteArray.mk l.toArray).size) : (ByteArray.mk l.toArray)[k]'h = l[k]'(by simpa [ByteArray.size] using h) := by rfl
theorem ba_extract (l : List UInt8) (a b : Nat) : (ByteArray.mk l.toArray).extract a b = ⟨((l.take b).drop a).toArray⟩ := by
  apply ByteArray.ext
  rw [ByteArray.data_extract]
  simp [List.extract_eq_take_drop, List.drop_take]
attribute [go_sem] ba_get ba_extract
theorem u8_ne {c d : UInt8} (h : ¬ c = d) : ((c.toNat : Int) == (d.toNat : Int)) = false := by
  rw [beq_eq_false_iff_ne]
  intro e
  exact h (UInt8.toNat_inj.1 (by omega))
theorem u8_eq {c d : UInt8} (h : c = d) : ((c.toNat : Int) == (d.toNat : Int)) = true := by rw [h]; simp

theorem bcell {W w1 : World} (hb : Below W.heap.size W w1) : (∀ b o, b < W.heap.size → w1.cell? ⟨b, o, none⟩ = W.cell? ⟨b, o, none⟩) ∧ (∀ b o, b < W.heap.size → w1.frozen? ⟨b, o, none⟩ = W.frozen? ⟨b, o, none⟩) :=
  ⟨fun b o h => hb.cell (p := ⟨b, o, none⟩) h, fun b o h => hb.frozen (p := ⟨b, o, none⟩) h⟩

/-- The world is w with one box (its cells cs) and what has been made since; what was there in w is as it was. -/
structure Own1 (w : World) (cs : Array Value) (wx : World) : Prop where
  below : Below w.heap.size w wx
  lt : w.heap.size < wx.heap.size
  cell : ∀ j, wx.cell? ⟨w.heap.size, j, none⟩ = cs[j]?
theorem Own1.mk0 (w : World) (cs : Array Value) (t : TypeId) : Own1 w cs (w.alloc (.cells cs t)) :=
  ⟨(Below.refl _ _).alloc (Nat.le_refl _) _, by simp, fun j => cell_of_row _ _ j cs t (0, 0) (heap_alloc_new w _)⟩
theorem Own1.step {w W w1 : World} {cs : Array Value} (h : Own1 w cs W) (hb : Below W.heap.size W w1) : Own1 w cs w1 :=
  ⟨h.below.trans (hb.mono h.below.size), Nat.lt_of_lt_of_le h.lt hb.size, fun j => by rw [hb.cell (p := ⟨w.heap.size, j, none⟩) h.lt]; exact h.cell j⟩
theorem Own1.drewN {w W : World} {cs : Array Value} (h : Own1 w cs W) (n : Nat) : Own1 w cs (W.drewN n) := h.step (below_drewN (Below.refl _ _) n)
theorem Own1.drew {w W : World} {cs : Array Value} (h : Own1 w cs W) : Own1 w cs W.drew := h.step ((Below.refl _ _).drew)
theorem Own1.alloc {w W : World} {cs : Array Value} (h : Own1 w cs W) (o : Obj) : Own1 w cs (W.alloc o) := h.step ((Below.refl _ _).alloc (Nat.le_refl _) _)

section
variable {P : Program}
/-- A call by a contract that leaves the world alone. -/
theorem callP {f : FuncId} {args : Array Value} {W : World} {v : Value} {K : Ending → World → Prop} (h : Calls P f args W (RetP W v)) (k : K (.returned v) W) : Calls P f args W K :=
  h.mono fun e w' ⟨he, hw⟩ => by subst he; subst hw; exact k
/-- A call by a contract that only draws. -/
theorem callQ {f : FuncId} {args : Array Value} {W : World} {v : Value} {K : Ending → World → Prop} (h : Calls P f args W (RetQ W v)) (k : ∀ n, K (.returned v) (W.drewN n)) : Calls P f args W K :=
  h.mono fun e w' ⟨he, n, hw⟩ => by subst he; subst hw; exact k n
/-- The same inside a region that draws ('go_quiet'). -/
theorem quietP {f : FuncId} {args : Array Value} {w : World} {n : Nat} {v : Value} (h : Calls P f args (w.drewN n) (RetP (w.drewN n) v)) : Calls P f args (w.drewN n) fun e w'' => e = .returned v ∧ ∃ m, w'' = w.drewN m :=
  h.mono fun _ _ ⟨he, hw⟩ => ⟨he, n, hw.symm⟩
theorem quietQ {f : FuncId} {args : Array Value} {w : World} {n : Nat} {v : Value} (h : Calls P f args (w.drewN n) (RetQ (w.drewN n) v)) : Calls P f args (w.drewN n) fun e w'' => e = .returned v ∧ ∃ m, w'' = w.drewN m :=
  h.mono fun _ _ ⟨he, m, hw⟩ => ⟨he, n + m, by rw [hw, World.drewN_drewN]⟩
theorem quietP' {f : FuncId} {args : Array Value} {w : World} {a n : Nat} {v : Value} (h : Calls P f args (w.drewN (a + n)) (RetP (w.drewN (a + n)) v)) : Calls P f args (w.drewN (a + n)) fun e w'' => e = .returned v ∧ ∃ m, w'' = w.drewN (a + m) :=
  h.mono fun _ _ ⟨he, hw⟩ => ⟨he, n, hw.symm⟩
theorem quietQ' {f : FuncId} {args : Array Value} {w : World} {a n : Nat} {v : Value} (h : Calls P f args (w.drewN (a + n)) (RetQ (w.drewN (a + n)) v)) : Calls P f args (w.drewN (a + n)) fun e w'' => e = .returned v ∧ ∃ m, w'' = w.drewN (a + m) :=
  h.mono fun _ _ ⟨he, m, hw⟩ => ⟨he, n + m, by rw [hw, World.drewN_drewN, Nat.add_assoc]⟩
/-- A call by a contract that may make memory. -/
theorem callR {f : FuncId} {args : Array Value} {W : World} {v : Value} {K : Ending → World → Prop} (h : Calls P f args W (Ret W v))
    (k : ∀ w', Below W.heap.size W w' → (∀ b o, b < W.heap.size → w'.cell? ⟨b, o, none⟩ = W.cell? ⟨b, o, none⟩) → (∀ b o, b < W.heap.size → w'.frozen? ⟨b, o, none⟩ = W.frozen? ⟨b, o, none⟩) → W.heap.size ≤ w'.heap.size → K (.returned v) w') : Calls P f args W K :=
  h.mono fun e w' ⟨he, hw⟩ => by subst he; exact k w' hw (bcell hw).1 (bcell hw).2 hw.size

/-- The same, told of the world w0 in which the caller began. -/
theorem callB {f : FuncId} {args : Array Value} {w0 W : World} {v : Value} {K : Ending → World → Prop} (hB : Below w0.heap.size w0 W) (h : Calls P f args W (Ret W v))
    (k : ∀ w', (∀ b o, b < W.heap.size → w'.cell? ⟨b, o, none⟩ = W.cell? ⟨b, o, none⟩) → (∀ b o, b < W.heap.size → w'.frozen? ⟨b, o, none⟩ = W.frozen? ⟨b, o, none⟩) → W.heap.size ≤ w'.heap.size → Below w0.heap.size w0 w' → K (.returned v) w') : Calls P f args W K :=
  h.mono fun e w' ⟨he, hw⟩ => by subst he; exact k w' (bcell hw).1 (bcell hw).2 hw.size (hB.trans (hw.mono hB.size))

theorem run_load_agg (w : World) (ad : Addr) (ty : TypeId) (cs : List Value) (d : TypeDesc) (hc : ∀ j v, cs[j]? = some v → w.cell? (ad.add j) = some v)
    (hu : P.underlying ty = some d) (hd : (match d with | .struct _ | .array _ _ => true | _ => false) = true) (hi : (P.info? ty).map (·.size) = some cs.length) :
    (loadVar ty ad).run P w = .ok (.agg cs.toArray) w := by
  have hl := run_loadCells_list (P := P) w ad cs hc
  cases hq : P.info? ty with
  | none => simp [hq] at hi
  | some i =>
    have hs : i.size = cs.length := by simpa [hq] using hi
    have hagg : (isAgg ty).run P w = .ok true w := by
      unfold isAgg
      rw [Sem.run_bind, run_underlying hu w]
      cases d <;> simp_all
    simp [loadVar, Sem.run_bind, hagg, sizeOf, typeInfo, hq, hs, hl]

theorem wp_load_agg {o : Oper} {a : Act} {w : World} {K : Act → World → Prop} {Q : Exit → Act → World → Prop} (ty : TypeId) (x : Operand) (ho : o.op = .load ty x)
    (ad : Addr) (hx : a.eval x = .pointer (some ad)) (cs : List Value) (d : TypeDesc) (hc : ∀ j v, cs[j]? = some v → w.cell? (ad.add j) = some v)
    (hu : P.underlying ty = some d) (hd : (match d with | .struct _ | .array _ _ => true | _ => false) = true) (hi : (P.info? ty).map (·.size) = some cs.length)
    (h : K (a.put o.dst (.agg cs.toArray)) w) : o.wp P a w K Q := by
  unfold Oper.wp execOp
  simp only [ho, hx, Instr.loadAt, Instr.sureAddr, Sem.run_bind, Sem.run_pure, Result.andThen_ok, run_load_agg w ad ty cs d hc hu hd hi]
  exact h

theorem wpList_load_agg {ops : Array Oper} {rest : List Oper} {o : Oper} {a : Act} {w : World} {Q : Exit → Act → World → Prop} (hgd : o.guard = none) (ty : TypeId) (x : Operand) (ho : o.op = .load ty x)
    (ad : Addr) (hx : a.eval x = .pointer (some ad)) (cs : List Value) (d : TypeDesc) (hc : ∀ j v, cs[j]? = some v → w.cell? (ad.add j) = some v)
    (hu : P.underlying ty = some d) (hd : (match d with | .struct _ | .array _ _ => true | _ => false) = true) (hi : (P.info? ty).map (·.size) = some cs.length)
    (h : wpList P ops Q rest (a.put o.dst (.agg cs.toArray)) w) : wpList P ops Q (o :: rest) a w :=
  wpList_plain hgd fun _ hK => wp_load_agg ty x ho ad hx cs d hc hu hd hi (hK _ _ h)
end
end Go.Proofs.YtjgondadpjildaaGreatDoor
namespace Go.Proofs.YtjgondadpjildaaGreatDoor
open Go.RowKit
set_option linter.unusedVariables false
set_option linter.unusedSimpArgs false
def normS (a : Int) : Int := a % 129600000
def turnS (a b : Int) : Int := normS (normS a + normS b)
def mulS (x y : Int) : Int := (x * y + 1073741824) / 2147483648
def divS (x n : Int) : Int := (x + n / 2) / n
def argS (a : Int) : Int := (a * 6746518852 + 32400000) / 64800000
def stepS (u r n : Int) : Int := 2147483648 - divS (mulS u r) n
def sineR (u : Int) : Int := stepS u (stepS u (stepS u (stepS u (2147483648 - divS u 110) 72) 42) 20) 6
def cosineR (u : Int) : Int := stepS u (stepS u (stepS u (stepS u (2147483648 - divS u 90) 56) 30) 12) 2
def sineS (a : Int) : Int := (mulS (argS a) (sineR (mulS (argS a) (argS a))) + 1) / 2
def cosineS (a : Int) : Int := (cosineR (mulS (argS a) (argS a)) + 1) / 2
def quarterS (a : Int) : Int := if a ≤ 16200000 then sineS a else cosineS (32400000 - a)
def sinN (b : Int) : Int := if b ≤ 32400000 then quarterS b else if b ≤ 64800000 then quarterS (64800000 - b) else if b ≤ 97200000 then -quarterS (b - 64800000) else -quarterS (129600000 - b)
def sinS (a : Int) : Int := sinN (normS a)
def cosS (a : Int) : Int := sinS (turnS a 32400000)
def roundS (x : Int) : Int := (x + 536870912) / 1073741824
theorem normS_in (a : Int) : 0 ≤ normS a ∧ normS a < 129600000 := by unfold normS; omega
theorem normS_id {a : Int} (h : 0 ≤ a ∧ a < 129600000) : normS a = a := by unfold normS; omega
theorem mul_in {x y X Y : Int} (hx : 0 ≤ x) (hX : x ≤ X) (hy : 0 ≤ y) (hY : y ≤ Y) : 0 ≤ x * y ∧ x * y ≤ X * Y :=
  ⟨Int.mul_nonneg hx hy, Int.mul_le_mul hX hY hy (by omega)⟩
theorem argS_in {a : Int} (h0 : 0 ≤ a) (h1 : a ≤ 16200000) : 0 ≤ argS a ∧ argS a ≤ 1686629713 := by unfold argS; omega
theorem argS_sq {a : Int} (h0 : 0 ≤ a) (h1 : a ≤ 16200000) : 0 ≤ mulS (argS a) (argS a) ∧ mulS (argS a) (argS a) ≤ 1324675879 := by
  obtain ⟨a0, a1⟩ := argS_in h0 h1
  obtain ⟨m0, m1⟩ := mul_in a0 a1 a0 a1
  unfold mulS
  omega
theorem mulS_in {u r : Int} (u0 : 0 ≤ u) (u1 : u ≤ 1686629713) (r0 : 0 ≤ r) (r1 : r ≤ 2147483648) : 0 ≤ u * r ∧ u * r ≤ 3622009745386307584 ∧ 0 ≤ mulS u r ∧ mulS u r ≤ 1686629713 := by
  obtain ⟨m0, m1⟩ := mul_in u0 u1 r0 r1
  unfold mulS
  omega
theorem divS_in {x n : Int} (x0 : 0 ≤ x) (x1 : x ≤ 1686629713) (n2 : 2 ≤ n) (n110 : n ≤ 110) : 0 ≤ divS x n ∧ divS x n ≤ 1686629770 := by
  unfold divS
  constructor
  · exact Int.ediv_nonneg (by omega) (by omega)
  · have h : (x + n / 2) / n ≤ x + n / 2 := Int.ediv_le_self _ (by omega)
    omega
theorem step_in {u r n : Int} (u0 : 0 ≤ u) (u1 : u ≤ 1686629713) (r0 : 0 ≤ r) (r1 : r ≤ 2147483648) (n2 : 2 ≤ n) (n110 : n ≤ 110) : 0 ≤ stepS u r n ∧ stepS u r n ≤ 2147483648 := by
  obtain ⟨_, _, m0, m1⟩ := mulS_in u0 u1 r0 r1
  obtain ⟨d0, d1⟩ := divS_in m0 m1 n2 n110
  unfold stepS
  omega
theorem first_in {u n : Int} (u0 : 0 ≤ u) (u1 : u ≤ 1686629713) (n2 : 2 ≤ n) (n110 : n ≤ 110) : 0 ≤ 2147483648 - divS u n ∧ 2147483648 - divS u n ≤ 2147483648 := by
  obtain ⟨d0, d1⟩ := divS_in u0 u1 n2 n110
  omega
theorem sineR_in {u : Int} (u0 : 0 ≤ u) (u1 : u ≤ 1686629713) : 0 ≤ sineR u ∧ sineR u ≤ 2147483648 := by
  have a := first_in u0 u1 (n := 110) (by decide) (by decide)
  have b := step_in u0 u1 a.1 a.2 (n := 72) (by decide) (by decide)
  have c := step_in u0 u1 b.1 b.2 (n := 42) (by decide) (by decide)
  have d := step_in u0 u1 c.1 c.2 (n := 20) (by decide) (by decide)
  exact step_in u0 u1 d.1 d.2 (n := 6) (by decide) (by decide)
theorem cosineR_in {u : Int} (u0 : 0 ≤ u) (u1 : u ≤ 1686629713) : 0 ≤ cosineR u ∧ cosineR u ≤ 2147483648 := by
  have a := first_in u0 u1 (n := 90) (by decide) (by decide)
  have b := step_in u0 u1 a.1 a.2 (n := 56) (by decide) (by decide)
  have c := step_in u0 u1 b.1 b.2 (n := 30) (by decide) (by decide)
  have d := step_in u0 u1 c.1 c.2 (n := 12) (by decide) (by decide)
  exact step_in u0 u1 d.1 d.2 (n := 2) (by decide) (by decide)
theorem sineS_in {a : Int} (h0 : 0 ≤ a) (h1 : a ≤ 16200000) : 0 ≤ sineS a ∧ sineS a ≤ 1073741824 := by
  obtain ⟨a0, a1⟩ := argS_in h0 h1
  obtain ⟨u0, u1⟩ := argS_sq h0 h1
  obtain ⟨r0, r1⟩ := sineR_in u0 (by omega)
  obtain ⟨_, _, m0, m1⟩ := mulS_in a0 a1 r0 r1
  unfold sineS
  omega
theorem cosineS_in {a : Int} (h0 : 0 ≤ a) (h1 : a ≤ 16200000) : 0 ≤ cosineS a ∧ cosineS a ≤ 1073741824 := by
  obtain ⟨u0, u1⟩ := argS_sq h0 h1
  obtain ⟨r0, r1⟩ := cosineR_in u0 (by omega)
  unfold cosineS
  omega
theorem quarterS_in {a : Int} (h0 : 0 ≤ a) (h1 : a ≤ 32400000) : 0 ≤ quarterS a ∧ quarterS a ≤ 1073741824 := by
  unfold quarterS
  split
  · exact sineS_in h0 (by omega)
  · exact cosineS_in (by omega) (by omega)
theorem sinN_in {b : Int} (h0 : 0 ≤ b) (h1 : b < 129600000) : -1073741824 ≤ sinN b ∧ sinN b ≤ 1073741824 := by
  unfold sinN
  split
  · have := quarterS_in (a := b) h0 (by omega); omega
  · split
    · have := quarterS_in (a := 64800000 - b) (by omega) (by omega); omega
    · split
      · have := quarterS_in (a := b - 64800000) (by omega) (by omega); omega
      · have := quarterS_in (a := 129600000 - b) (by omega) (by omega); omega
theorem sinS_in (a : Int) : -1073741824 ≤ sinS a ∧ sinS a ≤ 1073741824 := sinN_in (normS_in a).1 (normS_in a).2
theorem cosS_in (a : Int) : -1073741824 ≤ cosS a ∧ cosS a ≤ 1073741824 := sinS_in _
theorem mul_abs {x y A : Int} (hA : 0 ≤ A) (hx : -A ≤ x ∧ x ≤ A) (hy : -A ≤ y ∧ y ≤ A) : -(A * A) ≤ x * y ∧ x * y ≤ A * A := by
  have h1 : x.natAbs ≤ A.natAbs := by omega
  have h2 : y.natAbs ≤ A.natAbs := by omega
  have h3 := Nat.mul_le_mul h1 h2
  have e1 : (x * y).natAbs = x.natAbs * y.natAbs := Int.natAbs_mul x y
  have e2 : (A * A).natAbs = A.natAbs * A.natAbs := Int.natAbs_mul A A
  have h0 : 0 ≤ A * A := Int.mul_nonneg hA hA
  omega
theorem prod_in {x y : Int} (hx : -1073741824 ≤ x ∧ x ≤ 1073741824) (hy : -1073741824 ≤ y ∧ y ≤ 1073741824) : -1152921504606846976 ≤ x * y ∧ x * y ≤ 1152921504606846976 := mul_abs (A := 1073741824) (by decide) hx hy
theorem roundS_in {x : Int} (hx : -1152921504606846976 ≤ x ∧ x ≤ 1152921504606846976) : -1073741824 ≤ roundS x ∧ roundS x ≤ 1073741824 := by unfold roundS; omega
abbrev V3 := Int × Int × Int
def ofS (lat lon : Int) : V3 := (roundS (cosS lat * cosS lon), roundS (cosS lat * sinS lon), sinS lat)
def eastS (lon : Int) (v : V3) : Int := roundS (-sinS lon * v.1 + cosS lon * v.2.1 + 0 * v.2.2)
def northS (lat lon : Int) (v : V3) : Int := roundS (-roundS (sinS lat * cosS lon) * v.1 + -roundS (sinS lat * sinS lon) * v.2.1 + cosS lat * v.2.2)
def upS (lat lon : Int) (v : V3) : Int := roundS ((ofS lat lon).1 * v.1 + (ofS lat lon).2.1 * v.2.1 + (ofS lat lon).2.2 * v.2.2)
def localS (plat plon qlat qlon : Int) : V3 := (eastS plon (ofS qlat qlon), northS plat plon (ofS qlat qlon), upS plat plon (ofS qlat qlon))
def U3 (v : V3) : Prop := (-1073741824 ≤ v.1 ∧ v.1 ≤ 1073741824) ∧ (-1073741824 ≤ v.2.1 ∧ v.2.1 ≤ 1073741824) ∧ (-1073741824 ≤ v.2.2 ∧ v.2.2 ≤ 1073741824)
theorem ofS_in (lat lon : Int) : U3 (ofS lat lon) :=
  ⟨roundS_in (prod_in (cosS_in _) (cosS_in _)), roundS_in (prod_in (cosS_in _) (sinS_in _)), sinS_in _⟩
theorem dot_in {a b c : Int} {v : V3} (ha : -1073741824 ≤ a ∧ a ≤ 1073741824) (hb : -1073741824 ≤ b ∧ b ≤ 1073741824) (hc : -1073741824 ≤ c ∧ c ≤ 1073741824) (hv : U3 v) :
    (-1152921504606846976 ≤ a * v.1 ∧ a * v.1 ≤ 1152921504606846976) ∧ (-1152921504606846976 ≤ b * v.2.1 ∧ b * v.2.1 ≤ 1152921504606846976) ∧ (-1152921504606846976 ≤ c * v.2.2 ∧ c * v.2.2 ≤ 1152921504606846976) ∧
    -3221225472 ≤ roundS (a * v.1 + b * v.2.1 + c * v.2.2) ∧ roundS (a * v.1 + b * v.2.1 + c * v.2.2) ≤ 3221225472 := by
  have h1 := prod_in ha hv.1
  have h2 := prod_in hb hv.2.1
  have h3 := prod_in hc hv.2.2
  refine ⟨h1, h2, h3, ?_⟩
  unfold roundS
  omega
theorem neg_in {x : Int} (h : -1073741824 ≤ x ∧ x ≤ 1073741824) : -1073741824 ≤ -x ∧ -x ≤ 1073741824 := by omega
theorem localS_in (a b c d : Int) : (-3221225472 ≤ (localS a b c d).1 ∧ (localS a b c d).1 ≤ 3221225472) ∧ (-3221225472 ≤ (localS a b c d).2.1 ∧ (localS a b c d).2.1 ≤ 3221225472) ∧ (-3221225472 ≤ (localS a b c d).2.2 ∧ (localS a b c d).2.2 ≤ 3221225472) := by
  have hv := ofS_in c d
  have h1 := dot_in (neg_in (sinS_in b)) (cosS_in b) (c := 0) (by decide) hv
  have h2 := dot_in (neg_in (roundS_in (prod_in (sinS_in a) (cosS_in b)))) (neg_in (roundS_in (prod_in (sinS_in a) (sinS_in b)))) (cosS_in a) hv
  have hp := ofS_in a b
  have h3 := dot_in hp.1 hp.2.1 hp.2.2 hv
  exact ⟨h1.2.2.2, h2.2.2.2, h3.2.2.2⟩
/-- a / c to the nearest whole number; half goes up. c is positive. -/
def nearS (a c : Int) : Int :=
  if a < 0 then -(((a.natAbs / c.natAbs + if c.natAbs - a.natAbs % c.natAbs < a.natAbs % c.natAbs then 1 else 0 : Nat)) : Int)
  else ((a.natAbs / c.natAbs + if c.natAbs - a.natAbs % c.natAbs ≤ a.natAbs % c.natAbs then 1 else 0 : Nat) : Int)
def posB (lat lon : Int) : Bool := decide (-32400000 ≤ lat) && decide (lat ≤ 32400000) && decide (-64800000 < lon) && decide (lon ≤ 64800000)
def originB (lat lon : Int) : Bool := posB lat lon && (decide (-25200000 ≤ lat) && decide (lat ≤ 25200000))
def pointOkB (x y : Int) : Bool := decide (-2000000 ≤ x) && decide (x ≤ 2000000) && decide (-2000000 ≤ y) && decide (y ≤ 2000000)
/-- plane.To: the point and the error. -/
def toS3 (v : V3) : (Int × Int) × Int :=
  if v.2.2 ≤ 0 then ((0, 0), 2) else if pointOkB (nearS (20626481 * v.1) v.2.2) (nearS (20626481 * v.2.1) v.2.2) then ((nearS (20626481 * v.1) v.2.2, nearS (20626481 * v.2.1) v.2.2), 0) else ((0, 0), 2)
def toPlane (olat olon qlat qlon : Int) : (Int × Int) × Int :=
  if originB olat olon && posB qlat qlon then toS3 (localS olat olon qlat qlon) else ((0, 0), 1)
/-- The reference's order of the same products. -/
theorem east_ref (lon : Int) (v : V3) : eastS lon v = roundS (cosS lon * v.2.1 - sinS lon * v.1) := by
  unfold eastS
  congr 1
  rw [Int.zero_mul, Int.neg_mul]; omega
theorem north_ref (lat lon : Int) (v : V3) : northS lat lon v = roundS (cosS lat * v.2.2 - roundS (sinS lat * cosS lon) * v.1 - roundS (sinS lat * sinS lon) * v.2.1) := by
  unfold northS
  congr 1
  rw [Int.neg_mul, Int.neg_mul]; omega
end Go.Proofs.YtjgondadpjildaaGreatDoor
namespace Go.Proofs.YtjgondadpjildaaGreatDoor
open Go.RowKit
set_option linter.unusedVariables false
set_option linter.unusedSimpArgs false
theorem tmul_any {x y : Int} (h0 : 0 ≤ x * y) (h1 : x * y ≤ 9000000000000000000) (w : World) : Calls Tryz.prog 262 #[.int .i64 x, .int .i64 y] w (RetP w (.int .i64 (mulS x y))) := by
  go_enter Tryz.func262, Tryz.ntmps262
  go_wp2
  all_goals (go_ret; exact RetP.int rfl rfl)
theorem rtmul_any {x y : Int} (h0 : 0 ≤ x * y) (h1 : x * y ≤ 9000000000000000000) (w : World) : Calls Tryz.prog 256 #[.int .i64 x, .int .i64 y] w (RetP w (.int .i64 (mulS x y))) := by
  go_enter Tryz.func256, Tryz.ntmps256
  go_wp2
  all_goals (go_ret; exact RetP.int rfl rfl)
theorem sround_any {x : Int} (h0 : -9000000000000000000 ≤ x) (h1 : x ≤ 9000000000000000000) (w : World) : Calls Tryz.prog 218 #[.int .i64 x] w (RetP w (.int .i64 (roundS x))) := by
  go_enter Tryz.func218, Tryz.ntmps218
  go_wp2
  all_goals (go_ret; exact RetP.int rfl rfl)
theorem rsround_any {x : Int} (h0 : -9000000000000000000 ≤ x) (h1 : x ≤ 9000000000000000000) (w : World) : Calls Tryz.prog 160 #[.int .i64 x] w (RetP w (.int .i64 (roundS x))) := by
  go_enter Tryz.func160, Tryz.ntmps160
  go_wp2
  all_goals (go_ret; exact RetP.int rfl rfl)
theorem divS_w {x n : Int} (h0 : 0 ≤ x) (h1 : x ≤ 9000000000000000000) (n2 : 2 ≤ n) (n110 : n ≤ 110) : wrap64 ((x + n / 2) / n) = (x + n / 2) / n := by
  have a1 : (x + n / 2) / n ≤ x + n / 2 := Int.ediv_le_self _ (by omega)
  have a2 : 0 ≤ (x + n / 2) / n := Int.ediv_nonneg (by omega) (by omega)
  generalize (x + n / 2) / n = q at *
  unfold wrap64; omega
theorem tdiv_any {x n : Int} (h0 : 0 ≤ x) (h1 : x ≤ 9000000000000000000) (n2 : 2 ≤ n) (n110 : n ≤ 110) (w : World) : Calls Tryz.prog 263 #[.int .i64 x, .int .i64 n] w (RetP w (.int .i64 (divS x n))) := by
  have e1 : Int.tdiv n 2 = n / 2 := Int.tdiv_eq_ediv_of_nonneg (by omega)
  have e2 : Int.tdiv (x + n / 2) n = (x + n / 2) / n := Int.tdiv_eq_ediv_of_nonneg (by omega)
  go_enter Tryz.func263, Tryz.ntmps263
  go_wp2
  all_goals (go_ret; exact RetP.int (divS_w h0 h1 n2 n110) rfl)
theorem rtdiv_any {x n : Int} (h0 : 0 ≤ x) (h1 : x ≤ 9000000000000000000) (n2 : 2 ≤ n) (n110 : n ≤ 110) (w : World) : Calls Tryz.prog 255 #[.int .i64 x, .int .i64 n] w (RetP w (.int .i64 (divS x n))) := by
  have e1 : Int.tdiv n 2 = n / 2 := Int.tdiv_eq_ediv_of_nonneg (by omega)
  have e2 : Int.tdiv (x + n / 2) n = (x + n / 2) / n := Int.tdiv_eq_ediv_of_nonneg (by omega)
  go_enter Tryz.func255, Tryz.ntmps255
  go_wp2
  all_goals (go_ret; exact RetP.int (divS_w h0 h1 n2 n110) rfl)
end Go.Proofs.YtjgondadpjildaaGreatDoor
namespace Go.Proofs.YtjgondadpjildaaGreatDoor
open Go.RowKit
set_option linter.unusedVariables false
set_option linter.unusedSimpArgs false
theorem norm_neg {a : Int} (h : a.tmod 129600000 < 0) : wrap64 (a.tmod 129600000 + 129600000) = normS a := by
  have := Int.tmod_eq_emod (a := a) (b := 129600000)
  unfold wrap64 normS
  split at this <;> omega
theorem norm_pos {a : Int} (h : 0 ≤ a.tmod 129600000) : a.tmod 129600000 = normS a := by
  have := Int.tmod_eq_emod (a := a) (b := 129600000)
  unfold normS
  split at this <;> omega
theorem rgnorm_any (a : Int) (h0 : -9223372036854775808 ≤ a) (h1 : a ≤ 9223372036854775807) (w : World) : Calls Tryz.prog 208 #[.int .i64 a] w (RetP w (.int .i64 (normS a))) := by
  go_enter Tryz.func208, Tryz.ntmps208
  go_wp2
  all_goals (go_ret; first | exact RetP.int (norm_neg (by assumption)) rfl | exact RetP.int (norm_pos (by assumption)) rfl)
theorem gnorm_any (a : Int) (h0 : -9223372036854775808 ≤ a) (h1 : a ≤ 9223372036854775807) (w : World) : Calls Tryz.prog 142 #[.int .i64 a] w (RetP w (.int .i64 (normS a))) := by
  go_enter Tryz.func142, Tryz.ntmps142
  go_wp2
  all_goals (go_ret; first | exact RetP.int (norm_neg (by assumption)) rfl | exact RetP.int (norm_pos (by assumption)) rfl)
end Go.Proofs.YtjgondadpjildaaGreatDoor
namespace Go.Proofs.YtjgondadpjildaaGreatDoor
open Go.RowKit
set_option linter.unusedVariables false
set_option linter.unusedSimpArgs false
set_option maxRecDepth 100000
theorem turn_any (a b : Int) (h0 : -9223372036854775808 ≤ a) (h1 : a ≤ 9223372036854775807) (h2 : -9223372036854775808 ≤ b) (h3 : b ≤ 9223372036854775807) (w : World) : Calls Tryz.prog 245 #[.int .i64 a, .int .i64 b] w (RetP w (.int .i64 (turnS a b))) := by
  have e1 := normS_in a
  have e2 := normS_in b
  have ca := Lib.hid (gnorm_any a h0 h1)
  have cb := Lib.hid (gnorm_any b h2 h3)
  have cc := Lib.hid (gnorm_any (normS a + normS b) (by omega) (by omega))
  have ce := Lib.hid (show turnS a b = normS (normS a + normS b) from rfl)
  generalize turnS a b = tab at *
  generalize normS (normS a + normS b) = nab at *
  generalize normS a = na at *
  generalize normS b = nb at *
  clear h0 h1 h2 h3
  go_enter Tryz.func245, Tryz.ntmps245
  go_wp2_with (go_at_call 142; first | (with_reducible refine callP (ca.out _) ?_) | (with_reducible refine callP (cb.out _) ?_) | (with_reducible refine callP (cc.out _) ?_))
  go_ret
  exact RetP.int ce.out.symm rfl
theorem rturn_any (a b : Int) (h0 : -9223372036854775808 ≤ a) (h1 : a ≤ 9223372036854775807) (h2 : -9223372036854775808 ≤ b) (h3 : b ≤ 9223372036854775807) (w : World) : Calls Tryz.prog 211 #[.int .i64 a, .int .i64 b] w (RetP w (.int .i64 (turnS a b))) := by
  have e1 := normS_in a
  have e2 := normS_in b
  have ca := Lib.hid (rgnorm_any a h0 h1)
  have cb := Lib.hid (rgnorm_any b h2 h3)
  have cc := Lib.hid (rgnorm_any (normS a + normS b) (by omega) (by omega))
  have ce := Lib.hid (show turnS a b = normS (normS a + normS b) from rfl)
  generalize turnS a b = tab at *
  generalize normS (normS a + normS b) = nab at *
  generalize normS a = na at *
  generalize normS b = nb at *
  clear h0 h1 h2 h3
  go_enter Tryz.func211, Tryz.ntmps211
  go_wp2_with (go_at_call 208; first | (with_reducible refine callP (ca.out _) ?_) | (with_reducible refine callP (cb.out _) ?_) | (with_reducible refine callP (cc.out _) ?_))
  go_ret
  exact RetP.int ce.out.symm rfl
end Go.Proofs.YtjgondadpjildaaGreatDoor
namespace Go.Proofs.YtjgondadpjildaaGreatDoor
open Go.RowKit
set_option linter.unusedVariables false
set_option linter.unusedSimpArgs false
set_option maxRecDepth 100000
def ix5 (x i : Value) : Sem Value := Instr.index 242 x i
theorem ix5_fold (x i : Value) : Instr.index 242 x i = ix5 x i := rfl
theorem run_ix5_0 (w : World) (a b c d e : Value) : (ix5 (.agg #[a, b, c, d, e]) (.int .i64 0)).run Tryz.prog w = .ok a w := by kernel_rfl
theorem run_ix5_1 (w : World) (a b c d e : Value) : (ix5 (.agg #[a, b, c, d, e]) (.int .i64 1)).run Tryz.prog w = .ok b w := by kernel_rfl
theorem run_ix5_2 (w : World) (a b c d e : Value) : (ix5 (.agg #[a, b, c, d, e]) (.int .i64 2)).run Tryz.prog w = .ok c w := by kernel_rfl
theorem run_ix5_3 (w : World) (a b c d e : Value) : (ix5 (.agg #[a, b, c, d, e]) (.int .i64 3)).run Tryz.prog w = .ok d w := by kernel_rfl
theorem run_ix5_4 (w : World) (a b c d e : Value) : (ix5 (.agg #[a, b, c, d, e]) (.int .i64 4)).run Tryz.prog w = .ok e w := by kernel_rfl
attribute [local go_sem ↓] ix5_fold
attribute [local go_sem] run_ix5_0 run_ix5_1 run_ix5_2 run_ix5_3 run_ix5_4
/-- One step of a series: what is multiplied, divided, and how large it is. -/
structure Step (u r n v d : Int) : Prop where
  hv : v = mulS u r
  hd : d = divS v n
  p0 : 0 ≤ u * r
  p1 : u * r ≤ 9000000000000000000
  v0 : 0 ≤ v
  v1 : v ≤ 1686629713
  d0 : 0 ≤ d
  d1 : d ≤ 1686629770
theorem step_of {u r n : Int} (u0 : 0 ≤ u) (u1 : u ≤ 1686629713) (r0 : 0 ≤ r) (r1 : r ≤ 2147483648) (n2 : 2 ≤ n) (n110 : n ≤ 110) : Step u r n (mulS u r) (divS (mulS u r) n) := by
  obtain ⟨p0, p1, m0, m1⟩ := mulS_in u0 u1 r0 r1
  obtain ⟨d0, d1⟩ := divS_in m0 m1 n2 n110
  exact ⟨rfl, rfl, p0, by omega, m0, m1, d0, d1⟩
/-- The numbers of a series. -/
structure Chain (n0 n1 n2 n3 n4 u d0 v1 d1 v2 d2 v3 d3 v4 d4 : Int) : Prop where
  h0 : d0 = divS u n0
  a0 : 0 ≤ d0
  b0 : d0 ≤ 1686629770
  s1 : Step u (2147483648 - d0) n1 v1 d1
  s2 : Step u (2147483648 - d1) n2 v2 d2
  s3 : Step u (2147483648 - d2) n3 v3 d3
  s4 : Step u (2147483648 - d3) n4 v4 d4
theorem chain_of {u n0 n1 n2 n3 n4 : Int} (u0 : 0 ≤ u) (u1 : u ≤ 1686629713) (h0 : 2 ≤ n0 ∧ n0 ≤ 110) (h1 : 2 ≤ n1 ∧ n1 ≤ 110) (h2 : 2 ≤ n2 ∧ n2 ≤ 110) (h3 : 2 ≤ n3 ∧ n3 ≤ 110) (h4 : 2 ≤ n4 ∧ n4 ≤ 110) :
    ∃ d0 v1 d1 v2 d2 v3 d3 v4 d4, Chain n0 n1 n2 n3 n4 u d0 v1 d1 v2 d2 v3 d3 v4 d4 ∧ stepS u (stepS u (stepS u (stepS u (2147483648 - divS u n0) n1) n2) n3) n4 = 2147483648 - d4 := by
  obtain ⟨a0, b0⟩ := divS_in u0 u1 h0.1 h0.2
  have s1 := step_of u0 u1 (r := 2147483648 - divS u n0) (by omega) (by omega) h1.1 h1.2
  have s2 := step_of u0 u1 (r := 2147483648 - divS (mulS u (2147483648 - divS u n0)) n1) (by have := s1.d0; have := s1.d1; omega) (by have := s1.d0; omega) h2.1 h2.2
  have s3 := step_of u0 u1 (r := 2147483648 - divS (mulS u (2147483648 - divS (mulS u (2147483648 - divS u n0)) n1)) n2) (by have := s2.d0; have := s2.d1; omega) (by have := s2.d0; omega) h3.1 h3.2
  have s4 := step_of u0 u1 (r := 2147483648 - divS (mulS u (2147483648 - divS (mulS u (2147483648 - divS (mulS u (2147483648 - divS u n0)) n1)) n2)) n3) (by have := s3.d0; have := s3.d1; omega) (by have := s3.d0; omega) h4.1 h4.2
  exact ⟨_, _, _, _, _, _, _, _, _, ⟨rfl, a0, b0, s1, s2, s3, s4⟩, rfl⟩
theorem rargument_any (a : Int) (h0 : 0 ≤ a) (h1 : a ≤ 16200000) (w : World) : Calls Tryz.prog 254 #[.int .i64 a] w (RetP w (.tuple #[.int .i64 (argS a), .int .i64 (mulS (argS a) (argS a))])) := by
  obtain ⟨t0, t1⟩ := argS_in h0 h1
  have tt : 0 ≤ argS a * argS a ∧ argS a * argS a ≤ 9000000000000000000 := by have := mul_in t0 t1 t0 t1; omega
  have ku := Lib.hid (rtmul_any (x := argS a) (y := argS a) tt.1 tt.2)
  have e2 : (a * 6746518852 + 32400000) / 64800000 = argS a := rfl
  clear tt
  generalize mulS (argS a) (argS a) = u at *
  generalize argS a = t at *
  go_enter Tryz.func254, Tryz.ntmps254
  go_wp2_with (go_at_call 256; (with_reducible refine callP (ku.out _) ?_))
  go_ret2
  exact ⟨rfl, rfl⟩
set_option maxHeartbeats 2000000 in
theorem rsine_any (a : Int) (h0 : 0 ≤ a) (h1 : a ≤ 16200000) (w : World) : Calls Tryz.prog 242 #[.int .i64 a] w (RetP w (.int .i64 (sineS a))) := by
  obtain ⟨t0, t1⟩ := argS_in h0 h1
  obtain ⟨u0, u1⟩ := argS_sq h0 h1
  obtain ⟨d0, v1, d1, v2, d2, v3, d3, v4, d4, C, hC⟩ := chain_of (n0 := 110) (n1 := 72) (n2 := 42) (n3 := 20) (n4 := 6) u0 (by omega) (by decide) (by decide) (by decide) (by decide) (by decide)
  have tt : 0 ≤ argS a * argS a ∧ argS a * argS a ≤ 9000000000000000000 := by have := mul_in t0 t1 t0 t1; omega
  have HA := Lib.hid (show (a * 6746518852 + 32400000) / 64800000 = argS a from rfl)
  have HS := Lib.hid (show sineS a = (mulS (argS a) (2147483648 - d4) + 1) / 2 by unfold sineS sineR; rw [hC])
  have hm := mulS_in t0 t1 (r := 2147483648 - d4) (by have := C.s4.d1; omega) (by have := C.s4.d0; omega)
  have km := Lib.hid (rtmul_any (x := argS a) (y := 2147483648 - d4) hm.1 (by have := hm.2.1; omega))
  have ku := Lib.hid (rtmul_any (x := argS a) (y := argS a) tt.1 tt.2)
  have kd0 := Lib.hid (rtdiv_any (x := mulS (argS a) (argS a)) (n := 110) u0 (by omega) (by decide) (by decide))
  rw [← C.h0] at kd0
  have k1 := Lib.hid (rtmul_any (x := mulS (argS a) (argS a)) (y := 2147483648 - d0) C.s1.p0 C.s1.p1)
  rw [← C.s1.hv] at k1
  have kd1 := Lib.hid (rtdiv_any (x := v1) (n := 72) C.s1.v0 (by have := C.s1.v1; omega) (by decide) (by decide))
  rw [← C.s1.hd] at kd1
  have k2 := Lib.hid (rtmul_any (x := mulS (argS a) (argS a)) (y := 2147483648 - d1) C.s2.p0 C.s2.p1)
  rw [← C.s2.hv] at k2
  have kd2 := Lib.hid (rtdiv_any (x := v2) (n := 42) C.s2.v0 (by have := C.s2.v1; omega) (by decide) (by decide))
  rw [← C.s2.hd] at kd2
  have k3 := Lib.hid (rtmul_any (x := mulS (argS a) (argS a)) (y := 2147483648 - d2) C.s3.p0 C.s3.p1)
  rw [← C.s3.hv] at k3
  have kd3 := Lib.hid (rtdiv_any (x := v3) (n := 20) C.s3.v0 (by have := C.s3.v1; omega) (by decide) (by decide))
  rw [← C.s3.hd] at kd3
  have k4 := Lib.hid (rtmul_any (x := mulS (argS a) (argS a)) (y := 2147483648 - d3) C.s4.p0 C.s4.p1)
  rw [← C.s4.hv] at k4
  have kd4 := Lib.hid (rtdiv_any (x := v4) (n := 6) C.s4.v0 (by have := C.s4.v1; omega) (by decide) (by decide))
  rw [← C.s4.hd] at kd4
  have b0 := C.a0
  have b0' := C.b0
  have b1 := C.s1.d0
  have b1' := C.s1.d1
  have b2 := C.s2.d0
  have b2' := C.s2.d1
  have b3 := C.s3.d0
  have b3' := C.s3.d1
  have b4 := C.s4.d0
  have b4' := C.s4.d1
  have ka := Lib.hid (rargument_any a h0 h1)
  clear C hC tt
  obtain ⟨_, _, m0, m1⟩ := hm
  generalize mulS (argS a) (2147483648 - d4) = m at *
  generalize mulS (argS a) (argS a) = u at *
  generalize sineS a = out at HS ⊢
  go_enter Tryz.func242, Tryz.ntmps242
  go_wp2_with (first
      | (go_at_call 254; (with_reducible refine callP (ka.out _) ?_))
      | (go_at_call 256; first | (with_reducible refine callP (ku.out _) ?_) | (with_reducible refine callP (km.out _) ?_) | (with_reducible refine callP (k1.out _) ?_) | (with_reducible refine callP (k2.out _) ?_) | (with_reducible refine callP (k3.out _) ?_) | (with_reducible refine callP (k4.out _) ?_))
      | (go_at_call 255; first | (with_reducible refine callP (kd0.out _) ?_) | (with_reducible refine callP (kd1.out _) ?_) | (with_reducible refine callP (kd2.out _) ?_) | (with_reducible refine callP (kd3.out _) ?_) | (with_reducible refine callP (kd4.out _) ?_)))
  go_ret
  exact RetP.int HS.out.symm rfl
set_option maxHeartbeats 2000000 in
theorem rcosine_any (a : Int) (h0 : 0 ≤ a) (h1 : a ≤ 16200000) (w : World) : Calls Tryz.prog 243 #[.int .i64 a] w (RetP w (.int .i64 (cosineS a))) := by
  obtain ⟨t0, t1⟩ := argS_in h0 h1
  obtain ⟨u0, u1⟩ := argS_sq h0 h1
  obtain ⟨d0, v1, d1, v2, d2, v3, d3, v4, d4, C, hC⟩ := chain_of (n0 := 90) (n1 := 56) (n2 := 30) (n3 := 12) (n4 := 2) u0 (by omega) (by decide) (by decide) (by decide) (by decide) (by decide)
  have tt : 0 ≤ argS a * argS a ∧ argS a * argS a ≤ 9000000000000000000 := by have := mul_in t0 t1 t0 t1; omega
  have HA := Lib.hid (show (a * 6746518852 + 32400000) / 64800000 = argS a from rfl)
  have HS := Lib.hid (show cosineS a = (2147483648 - d4 + 1) / 2 by unfold cosineS cosineR; rw [hC])
  have ku := Lib.hid (rtmul_any (x := argS a) (y := argS a) tt.1 tt.2)
  have kd0 := Lib.hid (rtdiv_any (x := mulS (argS a) (argS a)) (n := 90) u0 (by omega) (by decide) (by decide))
  rw [← C.h0] at kd0
  have k1 := Lib.hid (rtmul_any (x := mulS (argS a) (argS a)) (y := 2147483648 - d0) C.s1.p0 C.s1.p1)
  rw [← C.s1.hv] at k1
  have kd1 := Lib.hid (rtdiv_any (x := v1) (n := 56) C.s1.v0 (by have := C.s1.v1; omega) (by decide) (by decide))
  rw [← C.s1.hd] at kd1
  have k2 := Lib.hid (rtmul_any (x := mulS (argS a) (argS a)) (y := 2147483648 - d1) C.s2.p0 C.s2.p1)
  rw [← C.s2.hv] at k2
  have kd2 := Lib.hid (rtdiv_any (x := v2) (n := 30) C.s2.v0 (by have := C.s2.v1; omega) (by decide) (by decide))
  rw [← C.s2.hd] at kd2
  have k3 := Lib.hid (rtmul_any (x := mulS (argS a) (argS a)) (y := 2147483648 - d2) C.s3.p0 C.s3.p1)
  rw [← C.s3.hv] at k3
  have kd3 := Lib.hid (rtdiv_any (x := v3) (n := 12) C.s3.v0 (by have := C.s3.v1; omega) (by decide) (by decide))
  rw [← C.s3.hd] at kd3
  have k4 := Lib.hid (rtmul_any (x := mulS (argS a) (argS a)) (y := 2147483648 - d3) C.s4.p0 C.s4.p1)
  rw [← C.s4.hv] at k4
  have kd4 := Lib.hid (rtdiv_any (x := v4) (n := 2) C.s4.v0 (by have := C.s4.v1; omega) (by decide) (by decide))
  rw [← C.s4.hd] at kd4
  have b0 := C.a0
  have b0' := C.b0
  have b1 := C.s1.d0
  have b1' := C.s1.d1
  have b2 := C.s2.d0
  have b2' := C.s2.d1
  have b3 := C.s3.d0
  have b3' := C.s3.d1
  have b4 := C.s4.d0
  have b4' := C.s4.d1
  have ka := Lib.hid (rargument_any a h0 h1)
  clear C hC tt
  generalize mulS (argS a) (argS a) = u at *
  generalize cosineS a = out at HS ⊢
  go_enter Tryz.func243, Tryz.ntmps243
  go_wp2_with (first
      | (go_at_call 254; (with_reducible refine callP (ka.out _) ?_))
      | (go_at_call 256; first | (with_reducible refine callP (ku.out _) ?_) | (with_reducible refine callP (k1.out _) ?_) | (with_reducible refine callP (k2.out _) ?_) | (with_reducible refine callP (k3.out _) ?_) | (with_reducible refine callP (k4.out _) ?_))
      | (go_at_call 255; first | (with_reducible refine callP (kd0.out _) ?_) | (with_reducible refine callP (kd1.out _) ?_) | (with_reducible refine callP (kd2.out _) ?_) | (with_reducible refine callP (kd3.out _) ?_) | (with_reducible refine callP (kd4.out _) ?_)))
  go_ret
  exact RetP.int HS.out.symm rfl
set_option maxHeartbeats 2000000 in
theorem sine_any (a : Int) (h0 : 0 ≤ a) (h1 : a ≤ 16200000) (w : World) : Calls Tryz.prog 257 #[.int .i64 a] w (RetP w (.int .i64 (sineS a))) := by
  obtain ⟨t0, t1⟩ := argS_in h0 h1
  obtain ⟨u0, u1⟩ := argS_sq h0 h1
  obtain ⟨d0, v1, d1, v2, d2, v3, d3, v4, d4, C, hC⟩ := chain_of (n0 := 110) (n1 := 72) (n2 := 42) (n3 := 20) (n4 := 6) u0 (by omega) (by decide) (by decide) (by decide) (by decide) (by decide)
  have tt : 0 ≤ argS a * argS a ∧ argS a * argS a ≤ 9000000000000000000 := by have := mul_in t0 t1 t0 t1; omega
  have HA := Lib.hid (show (a * 6746518852 + 32400000) / 64800000 = argS a from rfl)
  have HS := Lib.hid (show sineS a = (mulS (argS a) (2147483648 - d4) + 1) / 2 by unfold sineS sineR; rw [hC])
  have hm := mulS_in t0 t1 (r := 2147483648 - d4) (by have := C.s4.d1; omega) (by have := C.s4.d0; omega)
  have km := Lib.hid (tmul_any (x := argS a) (y := 2147483648 - d4) hm.1 (by have := hm.2.1; omega))
  have ku := Lib.hid (tmul_any (x := argS a) (y := argS a) tt.1 tt.2)
  have kd0 := Lib.hid (tdiv_any (x := mulS (argS a) (argS a)) (n := 110) u0 (by omega) (by decide) (by decide))
  rw [← C.h0] at kd0
  have k1 := Lib.hid (tmul_any (x := mulS (argS a) (argS a)) (y := 2147483648 - d0) C.s1.p0 C.s1.p1)
  rw [← C.s1.hv] at k1
  have kd1 := Lib.hid (tdiv_any (x := v1) (n := 72) C.s1.v0 (by have := C.s1.v1; omega) (by decide) (by decide))
  rw [← C.s1.hd] at kd1
  have k2 := Lib.hid (tmul_any (x := mulS (argS a) (argS a)) (y := 2147483648 - d1) C.s2.p0 C.s2.p1)
  rw [← C.s2.hv] at k2
  have kd2 := Lib.hid (tdiv_any (x := v2) (n := 42) C.s2.v0 (by have := C.s2.v1; omega) (by decide) (by decide))
  rw [← C.s2.hd] at kd2
  have k3 := Lib.hid (tmul_any (x := mulS (argS a) (argS a)) (y := 2147483648 - d2) C.s3.p0 C.s3.p1)
  rw [← C.s3.hv] at k3
  have kd3 := Lib.hid (tdiv_any (x := v3) (n := 20) C.s3.v0 (by have := C.s3.v1; omega) (by decide) (by decide))
  rw [← C.s3.hd] at kd3
  have k4 := Lib.hid (tmul_any (x := mulS (argS a) (argS a)) (y := 2147483648 - d3) C.s4.p0 C.s4.p1)
  rw [← C.s4.hv] at k4
  have kd4 := Lib.hid (tdiv_any (x := v4) (n := 6) C.s4.v0 (by have := C.s4.v1; omega) (by decide) (by decide))
  rw [← C.s4.hd] at kd4
  have b0 := C.a0
  have b0' := C.b0
  have b1 := C.s1.d0
  have b1' := C.s1.d1
  have b2 := C.s2.d0
  have b2' := C.s2.d1
  have b3 := C.s3.d0
  have b3' := C.s3.d1
  have b4 := C.s4.d0
  have b4' := C.s4.d1
  clear C hC tt
  obtain ⟨_, _, m0, m1⟩ := hm
  generalize mulS (argS a) (2147483648 - d4) = m at *
  generalize mulS (argS a) (argS a) = u at *
  generalize sineS a = out at HS ⊢
  have e1 : Int.tdiv (a * 6746518852 + 32400000) 64800000 = argS a := by rw [Int.tdiv_eq_ediv_of_nonneg (by omega)]; exact HA.out
  have e2 : (a * 6746518852 + 32400000) / 64800000 = argS a := HA.out
  go_enter Tryz.func257, Tryz.ntmps257
  go_upto_region 3 with (first
      | (go_at_call 262; first | (with_reducible refine callP (ku.out _) ?_) | (with_reducible refine callP (km.out _) ?_) | (with_reducible refine callP (k1.out _) ?_) | (with_reducible refine callP (k2.out _) ?_) | (with_reducible refine callP (k3.out _) ?_) | (with_reducible refine callP (k4.out _) ?_))
      | (go_at_call 263; first | (with_reducible refine callP (kd0.out _) ?_) | (with_reducible refine callP (kd1.out _) ?_) | (with_reducible refine callP (kd2.out _) ?_) | (with_reducible refine callP (kd3.out _) ?_) | (with_reducible refine callP (kd4.out _) ?_)))
  generalize argS a = t at *
  clear e1 e2
  obtain ⟨rk, r0, r1, r2, r3, r4, r5⟩ : ∃ rk : Nat → Int, rk 0 = 2147483648 ∧ rk 1 = 2147483648 - d0 ∧ rk 2 = 2147483648 - d1 ∧ rk 3 = 2147483648 - d2 ∧ rk 4 = 2147483648 - d3 ∧ rk 5 = 2147483648 - d4 :=
    ⟨fun k => match k with | 0 => 2147483648 | 1 => 2147483648 - d0 | 2 => 2147483648 - d1 | 3 => 2147483648 - d2 | 4 => 2147483648 - d3 | _ => 2147483648 - d4, rfl, rfl, rfl, rfl, rfl, rfl⟩
  have R0 := Lib.hid r0; have R1 := Lib.hid r1; have R2 := Lib.hid r2; have R3 := Lib.hid r3; have R4 := Lib.hid r4; have R5 := Lib.hid r5
  clear r0 r1 r2 r3 r4 r5
  go_wp2
  go_loop [5, 17] (fun r i => ∃ k : Nat, k ≤ 5 ∧ i = .int .i64 k ∧ r = .int .i64 (rk k)) (fun _ i => 5 - (intOf i).toNat)
  case atStart => exact ⟨0, by omega, rfl, by rw [R0.out]⟩
  case round =>
    obtain ⟨k, hk, rfl, rfl⟩ := hrel
    obtain rfl | rfl | rfl | rfl | rfl | rfl : k = 0 ∨ k = 1 ∨ k = 2 ∨ k = 3 ∨ k = 4 ∨ k = 5 := by omega
    · rw [R0.out]
      go_wp2_with (first | (go_at_call 262; first | (with_reducible refine callP (ku.out _) ?_) | (with_reducible refine callP (km.out _) ?_) | (with_reducible refine callP (k1.out _) ?_) | (with_reducible refine callP (k2.out _) ?_) | (with_reducible refine callP (k3.out _) ?_) | (with_reducible refine callP (k4.out _) ?_)) | (go_at_call 263; first | (with_reducible refine callP (kd0.out _) ?_) | (with_reducible refine callP (kd1.out _) ?_) | (with_reducible refine callP (kd2.out _) ?_) | (with_reducible refine callP (kd3.out _) ?_) | (with_reducible refine callP (kd4.out _) ?_)))
      go_round
      case rel => exact ⟨1, by omega, rfl, by rw [R1.out]⟩
      case measure => simp [intOf]
    · rw [R1.out]
      go_wp2_with (first | (go_at_call 262; first | (with_reducible refine callP (ku.out _) ?_) | (with_reducible refine callP (km.out _) ?_) | (with_reducible refine callP (k1.out _) ?_) | (with_reducible refine callP (k2.out _) ?_) | (with_reducible refine callP (k3.out _) ?_) | (with_reducible refine callP (k4.out _) ?_)) | (go_at_call 263; first | (with_reducible refine callP (kd0.out _) ?_) | (with_reducible refine callP (kd1.out _) ?_) | (with_reducible refine callP (kd2.out _) ?_) | (with_reducible refine callP (kd3.out _) ?_) | (with_reducible refine callP (kd4.out _) ?_)))
      go_round
      case rel => exact ⟨2, by omega, rfl, by rw [R2.out]⟩
      case measure => simp [intOf]
    · rw [R2.out]
      go_wp2_with (first | (go_at_call 262; first | (with_reducible refine callP (ku.out _) ?_) | (with_reducible refine callP (km.out _) ?_) | (with_reducible refine callP (k1.out _) ?_) | (with_reducible refine callP (k2.out _) ?_) | (with_reducible refine callP (k3.out _) ?_) | (with_reducible refine callP (k4.out _) ?_)) | (go_at_call 263; first | (with_reducible refine callP (kd0.out _) ?_) | (with_reducible refine callP (kd1.out _) ?_) | (with_reducible refine callP (kd2.out _) ?_) | (with_reducible refine callP (kd3.out _) ?_) | (with_reducible refine callP (kd4.out _) ?_)))
      go_round
      case rel => exact ⟨3, by omega, rfl, by rw [R3.out]⟩
      case measure => simp [intOf]
    · rw [R3.out]
      go_wp2_with (first | (go_at_call 262; first | (with_reducible refine callP (ku.out _) ?_) | (with_reducible refine callP (km.out _) ?_) | (with_reducible refine callP (k1.out _) ?_) | (with_reducible refine callP (k2.out _) ?_) | (with_reducible refine callP (k3.out _) ?_) | (with_reducible refine callP (k4.out _) ?_)) | (go_at_call 263; first | (with_reducible refine callP (kd0.out _) ?_) | (with_reducible refine callP (kd1.out _) ?_) | (with_reducible refine callP (kd2.out _) ?_) | (with_reducible refine callP (kd3.out _) ?_) | (with_reducible refine callP (kd4.out _) ?_)))
      go_round
      case rel => exact ⟨4, by omega, rfl, by rw [R4.out]⟩
      case measure => simp [intOf]
    · rw [R4.out]
      go_wp2_with (first | (go_at_call 262; first | (with_reducible refine callP (ku.out _) ?_) | (with_reducible refine callP (km.out _) ?_) | (with_reducible refine callP (k1.out _) ?_) | (with_reducible refine callP (k2.out _) ?_) | (with_reducible refine callP (k3.out _) ?_) | (with_reducible refine callP (k4.out _) ?_)) | (go_at_call 263; first | (with_reducible refine callP (kd0.out _) ?_) | (with_reducible refine callP (kd1.out _) ?_) | (with_reducible refine callP (kd2.out _) ?_) | (with_reducible refine callP (kd3.out _) ?_) | (with_reducible refine callP (kd4.out _) ?_)))
      go_round
      case rel => exact ⟨5, by omega, rfl, by rw [R5.out]⟩
      case measure => simp [intOf]
    · rw [R5.out]
      go_wp2_with (first | (go_at_call 262; first | (with_reducible refine callP (ku.out _) ?_) | (with_reducible refine callP (km.out _) ?_) | (with_reducible refine callP (k1.out _) ?_) | (with_reducible refine callP (k2.out _) ?_) | (with_reducible refine callP (k3.out _) ?_) | (with_reducible refine callP (k4.out _) ?_)) | (go_at_call 263; first | (with_reducible refine callP (kd0.out _) ?_) | (with_reducible refine callP (kd1.out _) ?_) | (with_reducible refine callP (kd2.out _) ?_) | (with_reducible refine callP (kd3.out _) ?_) | (with_reducible refine callP (kd4.out _) ?_)))
      go_ret
      exact RetP.int HS.out.symm rfl
set_option maxHeartbeats 2000000 in
theorem cosine_any (a : Int) (h0 : 0 ≤ a) (h1 : a ≤ 16200000) (w : World) : Calls Tryz.prog 258 #[.int .i64 a] w (RetP w (.int .i64 (cosineS a))) := by
  obtain ⟨t0, t1⟩ := argS_in h0 h1
  obtain ⟨u0, u1⟩ := argS_sq h0 h1
  obtain ⟨d0, v1, d1, v2, d2, v3, d3, v4, d4, C, hC⟩ := chain_of (n0 := 90) (n1 := 56) (n2 := 30) (n3 := 12) (n4 := 2) u0 (by omega) (by decide) (by decide) (by decide) (by decide) (by decide)
  have tt : 0 ≤ argS a * argS a ∧ argS a * argS a ≤ 9000000000000000000 := by have := mul_in t0 t1 t0 t1; omega
  have HA := Lib.hid (show (a * 6746518852 + 32400000) / 64800000 = argS a from rfl)
  have HS := Lib.hid (show cosineS a = (2147483648 - d4 + 1) / 2 by unfold cosineS cosineR; rw [hC])
  have ku := Lib.hid (tmul_any (x := argS a) (y := argS a) tt.1 tt.2)
  have kd0 := Lib.hid (tdiv_any (x := mulS (argS a) (argS a)) (n := 90) u0 (by omega) (by decide) (by decide))
  rw [← C.h0] at kd0
  have k1 := Lib.hid (tmul_any (x := mulS (argS a) (argS a)) (y := 2147483648 - d0) C.s1.p0 C.s1.p1)
  rw [← C.s1.hv] at k1
  have kd1 := Lib.hid (tdiv_any (x := v1) (n := 56) C.s1.v0 (by have := C.s1.v1; omega) (by decide) (by decide))
  rw [← C.s1.hd] at kd1
  have k2 := Lib.hid (tmul_any (x := mulS (argS a) (argS a)) (y := 2147483648 - d1) C.s2.p0 C.s2.p1)
  rw [← C.s2.hv] at k2
  have kd2 := Lib.hid (tdiv_any (x := v2) (n := 30) C.s2.v0 (by have := C.s2.v1; omega) (by decide) (by decide))
  rw [← C.s2.hd] at kd2
  have k3 := Lib.hid (tmul_any (x := mulS (argS a) (argS a)) (y := 2147483648 - d2) C.s3.p0 C.s3.p1)
  rw [← C.s3.hv] at k3
  have kd3 := Lib.hid (tdiv_any (x := v3) (n := 12) C.s3.v0 (by have := C.s3.v1; omega) (by decide) (by decide))
  rw [← C.s3.hd] at kd3
  have k4 := Lib.hid (tmul_any (x := mulS (argS a) (argS a)) (y := 2147483648 - d3) C.s4.p0 C.s4.p1)
  rw [← C.s4.hv] at k4
  have kd4 := Lib.hid (tdiv_any (x := v4) (n := 2) C.s4.v0 (by have := C.s4.v1; omega) (by decide) (by decide))
  rw [← C.s4.hd] at kd4
  have b0 := C.a0
  have b0' := C.b0
  have b1 := C.s1.d0
  have b1' := C.s1.d1
  have b2 := C.s2.d0
  have b2' := C.s2.d1
  have b3 := C.s3.d0
  have b3' := C.s3.d1
  have b4 := C.s4.d0
  have b4' := C.s4.d1
  clear C hC tt
  generalize mulS (argS a) (argS a) = u at *
  generalize cosineS a = out at HS ⊢
  have e1 : Int.tdiv (a * 6746518852 + 32400000) 64800000 = argS a := by rw [Int.tdiv_eq_ediv_of_nonneg (by omega)]; exact HA.out
  have e2 : (a * 6746518852 + 32400000) / 64800000 = argS a := HA.out
  go_enter Tryz.func258, Tryz.ntmps258
  go_upto_region 3 with (first
      | (go_at_call 262; first | (with_reducible refine callP (ku.out _) ?_) | (with_reducible refine callP (k1.out _) ?_) | (with_reducible refine callP (k2.out _) ?_) | (with_reducible refine callP (k3.out _) ?_) | (with_reducible refine callP (k4.out _) ?_))
      | (go_at_call 263; first | (with_reducible refine callP (kd0.out _) ?_) | (with_reducible refine callP (kd1.out _) ?_) | (with_reducible refine callP (kd2.out _) ?_) | (with_reducible refine callP (kd3.out _) ?_) | (with_reducible refine callP (kd4.out _) ?_)))
  generalize argS a = t at *
  clear e1 e2
  obtain ⟨rk, r0, r1, r2, r3, r4, r5⟩ : ∃ rk : Nat → Int, rk 0 = 2147483648 ∧ rk 1 = 2147483648 - d0 ∧ rk 2 = 2147483648 - d1 ∧ rk 3 = 2147483648 - d2 ∧ rk 4 = 2147483648 - d3 ∧ rk 5 = 2147483648 - d4 :=
    ⟨fun k => match k with | 0 => 2147483648 | 1 => 2147483648 - d0 | 2 => 2147483648 - d1 | 3 => 2147483648 - d2 | 4 => 2147483648 - d3 | _ => 2147483648 - d4, rfl, rfl, rfl, rfl, rfl, rfl⟩
  have R0 := Lib.hid r0; have R1 := Lib.hid r1; have R2 := Lib.hid r2; have R3 := Lib.hid r3; have R4 := Lib.hid r4; have R5 := Lib.hid r5
  clear r0 r1 r2 r3 r4 r5
  go_wp2
  go_loop [5, 17] (fun r i => ∃ k : Nat, k ≤ 5 ∧ i = .int .i64 k ∧ r = .int .i64 (rk k)) (fun _ i => 5 - (intOf i).toNat)
  case atStart => exact ⟨0, by omega, rfl, by rw [R0.out]⟩
  case round =>
    obtain ⟨k, hk, rfl, rfl⟩ := hrel
    obtain rfl | rfl | rfl | rfl | rfl | rfl : k = 0 ∨ k = 1 ∨ k = 2 ∨ k = 3 ∨ k = 4 ∨ k = 5 := by omega
    · rw [R0.out]
      go_wp2_with (first | (go_at_call 262; first | (with_reducible refine callP (ku.out _) ?_) | (with_reducible refine callP (k1.out _) ?_) | (with_reducible refine callP (k2.out _) ?_) | (with_reducible refine callP (k3.out _) ?_) | (with_reducible refine callP (k4.out _) ?_)) | (go_at_call 263; first | (with_reducible refine callP (kd0.out _) ?_) | (with_reducible refine callP (kd1.out _) ?_) | (with_reducible refine callP (kd2.out _) ?_) | (with_reducible refine callP (kd3.out _) ?_) | (with_reducible refine callP (kd4.out _) ?_)))
      go_round
      case rel => exact ⟨1, by omega, rfl, by rw [R1.out]⟩
      case measure => simp [intOf]
    · rw [R1.out]
      go_wp2_with (first | (go_at_call 262; first | (with_reducible refine callP (ku.out _) ?_) | (with_reducible refine callP (k1.out _) ?_) | (with_reducible refine callP (k2.out _) ?_) | (with_reducible refine callP (k3.out _) ?_) | (with_reducible refine callP (k4.out _) ?_)) | (go_at_call 263; first | (with_reducible refine callP (kd0.out _) ?_) | (with_reducible refine callP (kd1.out _) ?_) | (with_reducible refine callP (kd2.out _) ?_) | (with_reducible refine callP (kd3.out _) ?_) | (with_reducible refine callP (kd4.out _) ?_)))
      go_round
      case rel => exact ⟨2, by omega, rfl, by rw [R2.out]⟩
      case measure => simp [intOf]
    · rw [R2.out]
      go_wp2_with (first | (go_at_call 262; first | (with_reducible refine callP (ku.out _) ?_) | (with_reducible refine callP (k1.out _) ?_) | (with_reducible refine callP (k2.out _) ?_) | (with_reducible refine callP (k3.out _) ?_) | (with_reducible refine callP (k4.out _) ?_)) | (go_at_call 263; first | (with_reducible refine callP (kd0.out _) ?_) | (with_reducible refine callP (kd1.out _) ?_) | (with_reducible refine callP (kd2.out _) ?_) | (with_reducible refine callP (kd3.out _) ?_) | (with_reducible refine callP (kd4.out _) ?_)))
      go_round
      case rel => exact ⟨3, by omega, rfl, by rw [R3.out]⟩
      case measure => simp [intOf]
    · rw [R3.out]
      go_wp2_with (first | (go_at_call 262; first | (with_reducible refine callP (ku.out _) ?_) | (with_reducible refine callP (k1.out _) ?_) | (with_reducible refine callP (k2.out _) ?_) | (with_reducible refine callP (k3.out _) ?_) | (with_reducible refine callP (k4.out _) ?_)) | (go_at_call 263; first | (with_reducible refine callP (kd0.out _) ?_) | (with_reducible refine callP (kd1.out _) ?_) | (with_reducible refine callP (kd2.out _) ?_) | (with_reducible refine callP (kd3.out _) ?_) | (with_reducible refine callP (kd4.out _) ?_)))
      go_round
      case rel => exact ⟨4, by omega, rfl, by rw [R4.out]⟩
      case measure => simp [intOf]
    · rw [R4.out]
      go_wp2_with (first | (go_at_call 262; first | (with_reducible refine callP (ku.out _) ?_) | (with_reducible refine callP (k1.out _) ?_) | (with_reducible refine callP (k2.out _) ?_) | (with_reducible refine callP (k3.out _) ?_) | (with_reducible refine callP (k4.out _) ?_)) | (go_at_call 263; first | (with_reducible refine callP (kd0.out _) ?_) | (with_reducible refine callP (kd1.out _) ?_) | (with_reducible refine callP (kd2.out _) ?_) | (with_reducible refine callP (kd3.out _) ?_) | (with_reducible refine callP (kd4.out _) ?_)))
      go_round
      case rel => exact ⟨5, by omega, rfl, by rw [R5.out]⟩
      case measure => simp [intOf]
    · rw [R5.out]
      go_wp2_with (first | (go_at_call 262; first | (with_reducible refine callP (ku.out _) ?_) | (with_reducible refine callP (k1.out _) ?_) | (with_reducible refine callP (k2.out _) ?_) | (with_reducible refine callP (k3.out _) ?_) | (with_reducible refine callP (k4.out _) ?_)) | (go_at_call 263; first | (with_reducible refine callP (kd0.out _) ?_) | (with_reducible refine callP (kd1.out _) ?_) | (with_reducible refine callP (kd2.out _) ?_) | (with_reducible refine callP (kd3.out _) ?_) | (with_reducible refine callP (kd4.out _) ?_)))
      go_ret
      exact RetP.int HS.out.symm rfl
end Go.Proofs.YtjgondadpjildaaGreatDoor
namespace Go.Proofs.YtjgondadpjildaaGreatDoor
open Go.RowKit
set_option linter.unusedVariables false
set_option linter.unusedSimpArgs false

def usesTab : List Int := [0, 1, 9, 25, 9, 71, 71, 16, 50, 16, 146, 17, 49, 17, 53, 53, 53, 53]
def namesTab : List (List UInt8) := [[], [73, 70], [84, 70], [67, 70], [68, 70], [82, 70], [65, 70], [67, 65], [67, 68], [67, 73], [67, 82], [70, 65], [70, 67], [70, 77], [72, 65], [72, 70], [72, 77], [80, 73]]

structure Laid (w : World) : Prop where
  uses : ∀ k, k < 18 → w.cell? ⟨0, k, none⟩ = some (.int .u16 (usesTab.getD k 0))
  names : ∀ k, k < 18 → w.cell? ⟨1, k, none⟩ = some (.string ⟨(namesTab.getD k []).toArray⟩)
  maxLen : ∃ m, w.cell? ⟨2, 0, none⟩ = some (.int .i64 m)
  pow10 : Lib.TabIs Tryz.prog w "internal/strconv.uint64pow10" .u64 Lib.pow10Tab

theorem gPow10 : Tryz.prog.globalNamed "internal/strconv.uint64pow10" = some 7 := by kernel_rfl
theorem Laid.lt_uses {w : World} (h : Laid w) : 0 < w.heap.size := block_lt_of_cell (h.uses 0 (by omega))
theorem Laid.lt_names {w : World} (h : Laid w) : 1 < w.heap.size := block_lt_of_cell (h.names 0 (by omega))
theorem Laid.lt_maxLen {w : World} (h : Laid w) : 2 < w.heap.size := by obtain ⟨m, hm⟩ := h.maxLen; exact block_lt_of_cell hm
theorem Laid.lt_pow10 {w : World} (h : Laid w) : 7 < w.heap.size := block_lt_of_cell (h.pow10.cell gPow10 0 (by decide))

theorem Laid.below {w w' : World} (h : Laid w) (hb : Below w.heap.size w w') : Laid w' where
  uses k hk := by rw [hb.cell (p := ⟨_, k, none⟩) h.lt_uses]; exact h.uses k hk
  names k hk := by rw [hb.cell (p := ⟨_, k, none⟩) h.lt_names]; exact h.names k hk
  maxLen := by obtain ⟨m, hm⟩ := h.maxLen; exact ⟨m, by rw [hb.cell (p := ⟨_, 0, none⟩) h.lt_maxLen]; exact hm⟩
  pow10 := by
    have h0 := h.pow10
    unfold Lib.TabIs World.var? at h0 ⊢
    rw [gPow10] at h0 ⊢
    simp only [Option.bind_some] at h0 ⊢
    rw [hb.block _ h.lt_pow10]
    exact h0
theorem Laid.alloc {w : World} (h : Laid w) (o : Obj) : Laid (w.alloc o) := h.below ((Below.refl _ _).alloc (Nat.le_refl _) _)
theorem Laid.drewN {w : World} (h : Laid w) (n : Nat) : Laid (w.drewN n) := h.below ⟨rfl, rfl, rfl, Nat.le_refl _, fun _ _ => rfl⟩
theorem Laid.drew {w : World} (h : Laid w) : Laid w.drew := h.below ⟨rfl, rfl, rfl, Nat.le_refl _, fun _ _ => rfl⟩
end Go.Proofs.YtjgondadpjildaaGreatDoor
