/- leg's reader: peek, drop, need, may. -/
import Derived.Test.YtjijpkimlgbepaaGreatDoorPk33
import Derived.RegionTactic
namespace Go.Proofs.YtjijpkimlgbepaaGreatDoor
open Go.RowKit Go.Sort
set_option linter.unusedVariables false
set_option linter.unusedSimpArgs false
set_option maxRecDepth 100000
def rdArr (A : Option Addr) (x : PS) (n : Nat) : Array Value := #[.slice A x.ws.length x.ws.length, .int .i64 x.col, .int .i64 n, .int .i64 x.bad]
/-- The reader in block rb, its words in block sb. -/
def Rd (W : World) (rb sb n : Nat) (x : PS) : Prop :=
  ∃ A o, Blk W rb (rdArr A x n) ∧ (x.ws ≠ [] → A = some ⟨sb, o, none⟩) ∧ ∀ j (h : j < x.ws.length), W.cell? ⟨sb, o + j, none⟩ = some (.string ⟨(x.ws[j]).toArray⟩)
theorem Rd.touch {S : List Nat} {W W' : World} {rb sb n : Nat} {x : PS} (h : Rd W rb sb n x) (t : Touch S W W') (h1 : rb ∉ S) (h2 : sb ∉ S) : Rd W' rb sb n x := by
  obtain ⟨A, o, hb, hA, hc⟩ := h
  refine ⟨A, o, t.blk h1 hb, hA, fun j hj => ?_⟩
  have hlt : sb < W.heap.size := block_lt_of_cell (hc j hj)
  rw [t.cell h2 hlt]; exact hc j hj
/-- The leg does not matter to the reader. -/
theorem Rd.leg {W : World} {rb sb n : Nat} {x : PS} (h : Rd W rb sb n x) (l : Leg) : Rd W rb sb n { x with l := l } := h
abbrev wordVal (ws : List (List UInt8)) : Value := .tuple #[.string ⟨(ws.headD []).toArray⟩, .bool (!ws.isEmpty)]
theorem peek_any (W : World) (rb sb n : Nat) (x : PS) (h : Rd W rb sb n x) : Calls Tryz.prog 61 #[.pointer (some ⟨rb, 0, none⟩)] W (RetP W (wordVal x.ws)) := by
  obtain ⟨A, o, hb, hA, hc⟩ := h
  obtain ⟨ws, col, bad, l⟩ := x
  have c0 := hb.cell 0
  simp only [rdArr] at c0
  cases ws with
  | nil =>
    have c0' : W.cell? ⟨rb, 0, none⟩ = some (.slice A 0 0) := c0
    clear c0
    go_enter Tryz.func61, Tryz.ntmps61
    go_wp2
    go_ret2
    exact ⟨rfl, rfl⟩
  | cons s r =>
    obtain rfl := hA (by simp)
    have c0' : W.cell? ⟨rb, 0, none⟩ = some (.slice (some ⟨sb, o, none⟩) (r.length + 1) (r.length + 1)) := c0
    have c1 : W.cell? ⟨sb, o, none⟩ = some (.string ⟨s.toArray⟩) := hc 0 (by simp)
    have hr : ((r.length : Int) + 1 == 0) = false := by rw [beq_eq_false_iff_ne]; omega
    clear c0 hc
    go_enter Tryz.func61, Tryz.ntmps61
    go_wp2
    go_ret2
    exact ⟨rfl, rfl⟩
/-- The call returns nothing; it touches the blocks of S alone, and leaves the reader x. -/
def RetD (S : List Nat) (W : World) (rb sb n : Nat) (x : PS) (e : Ending) (W' : World) : Prop := e = .returned (.tuple #[]) ∧ Touch S W W' ∧ Rd W' rb sb n x
def PS.next (x : PS) (s : List UInt8) (r : List (List UInt8)) : PS := ⟨r, x.col + (s.length + 1), x.bad, x.l⟩
set_option maxHeartbeats 4000000 in
theorem drop_any (W : World) (rb sb n : Nat) (x : PS) (s : List UInt8) (r : List (List UInt8)) (hx : x.ws = s :: r) (h : Rd W rb sb n x) (hne : rb ≠ sb) (hok : x.Ok n) (hn : n ≤ 4000000000) :
    Calls Tryz.prog 79 #[.pointer (some ⟨rb, 0, none⟩)] W (RetD [rb] W rb sb n (x.next s r)) := by
  obtain ⟨A, o, hb, hA, hc⟩ := h
  obtain ⟨ws, col, bad, l⟩ := x
  simp only at hx
  subst hx
  obtain rfl := hA (by simp)
  have hcol := hok.col
  have hone := hok.one
  simp only [spanW_cons] at hcol hone
  have hsl : s.length ≤ 4000000000 := by omega
  have hc1 : col ≤ 5000000000 := by omega
  have hrl : r.length ≤ 4000000000 := by
    have : ∀ q : List (List UInt8), q.length ≤ spanW q := by
      intro q
      induction q with
      | nil => simp
      | cons a q ih => rw [spanW_cons]; simp; omega
    have := this r
    omega
  have k0 : W.cell? ⟨rb, 0, none⟩ = some (.slice (some ⟨sb, o, none⟩) (r.length + 1) (r.length + 1)) := hb.cell 0
  have k1 : W.cell? ⟨rb, 1, none⟩ = some (.int .i64 col) := hb.cell 1
  have f0 := hb.frozen 0
  have f1 := hb.frozen 1
  have cs : W.cell? ⟨sb, o, none⟩ = some (.string ⟨s.toArray⟩) := hc 0 (by simp)
  have HC := Lib.hid hc
  have HB := Lib.hid hb
  have HOK := Lib.hid hok
  clear hc hb hok hcol
  go_enter Tryz.func79, Tryz.ntmps79
  go_wp2
  go_region
  have T1 : Touch [rb] W (W.setCell ⟨rb, 1, none⟩ (.int .i64 (col + ((s.length : Int) + 1)))).drew := (Touch.setCell [rb] W (by simp) 1 _).drew
  have B1 : Blk (W.setCell ⟨rb, 1, none⟩ (.int .i64 (col + ((s.length : Int) + 1)))).drew rb #[.slice (some ⟨sb, o, none⟩) (r.length + 1) (r.length + 1), .int .i64 (col + ((s.length : Int) + 1)), .int .i64 n, .int .i64 bad] := HB.out.setCell 1 (.int .i64 (col + ((s.length : Int) + 1)))
  generalize (W.setCell ⟨rb, 1, none⟩ (.int .i64 (col + ((s.length : Int) + 1)))).drew = W1 at T1 B1 ⊢
  clear k0 k1 f0 f1
  have k0 : W1.cell? ⟨rb, 0, none⟩ = some (.slice (some ⟨sb, o, none⟩) (r.length + 1) (r.length + 1)) := B1.cell 0
  have f0 := B1.frozen 0
  have HNE := Lib.hid hne
  have HC2 := Lib.hid (fun j h => (T1.cell (g := sb) (by simpa using Ne.symm hne) (block_lt_of_cell cs) (o + j)).trans (HC.out j h))
  clear hne cs HC hA
  cases r with
  | nil =>
    go_wp2
    go_end0
    refine ⟨rfl, T1.trans (Touch.setCell [rb] W1 (by simp) 0 _), some ⟨sb, o, none⟩, 0, B1.setCell 0 (.slice (some ⟨sb, o, none⟩) 0 0), fun h => absurd rfl h, fun j h => by simp [PS.next] at h⟩
  | cons s2 r =>
    have hr : (r.length + 1 == 0) = false := by simp
    go_wp2
    go_end0
    refine ⟨rfl, T1.trans (Touch.setCell [rb] W1 (by simp) 0 _), some ⟨sb, o + 1, none⟩, o + 1, B1.setCell 0 (.slice (some ⟨sb, o + 1, none⟩) (r.length + 1) (r.length + 1)), fun _ => rfl, fun j h => ?_⟩
    rw [World.cell?_of_block (w := W1) (Below.heap_setCell W1 ⟨rb, 0, none⟩ _ sb (Ne.symm HNE.out))]
    have := HC2.out (j + 1) (by simpa [PS.next] using h)
    rw [show o + 1 + j = o + (j + 1) by omega]
    exact this
end Go.Proofs.YtjijpkimlgbepaaGreatDoor
