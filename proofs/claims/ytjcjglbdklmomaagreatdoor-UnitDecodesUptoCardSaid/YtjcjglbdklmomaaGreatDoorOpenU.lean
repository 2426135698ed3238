/- An input, a slice of bytes among the arguments. -/
import Derived.Test.YtjcjglbdklmomaaGreatDoorOpenG
import Derived.Test.YtjcjglbdklmomaaGreatDoorSense3
import Derived.Test.YtjcjglbdklmomaaGreatDoorSense9
namespace Go.Proofs.YtjcjglbdklmomaaGreatDoor
open Go.RowKit Go.ChangeShapes Go.WideShapes Go.Deep
set_option linter.unusedVariables false
set_option linter.unusedSimpArgs false
theorem cells_rep_1 : Tryz.prog.cellsOf 66 = 1 := by kernel_rfl
theorem cells_rep_2 : Tryz.prog.cellsOf 55 = 2 := by kernel_rfl
theorem cells_rep : Tryz.prog.cellsOf 68 = 8 := by kernel_rfl
def Rep.bnd (x : Rep) (N : Nat) : Prop := True
section
variable {H : Type} {enc : TypeId × Value → H} {w : World} {base : Nat} {spare : Nat → Bool} {held : Bool}
theorem list_n_rep {α : Type _} {l : List α} (h : l.length = 8) : ∃ x0 x1 x2 x3 x4 x5 x6 x7, l = [x0, x1, x2, x3, x4, x5, x6, x7] := by
  match l, h with
  | [x0, x1, x2, x3, x4, x5, x6, x7], _ => exact ⟨x0, x1, x2, x3, x4, x5, x6, x7, rfl⟩
theorem list_f_rep {α : Type _} {l : List α} (h : l.length = 7) : ∃ x0 x1 x2 x3 x4 x5 x6, l = [x0, x1, x2, x3, x4, x5, x6] := by
  match l, h with
  | [x0, x1, x2, x3, x4, x5, x6], _ => exact ⟨x0, x1, x2, x3, x4, x5, x6, rfl⟩
theorem open_rep {fuel : Nat} {cs : List Value} {y : DataW H × List MemPlace} (h : DataW.trod enc Tryz.prog w base spare held fuel 68 cs = some y) : ∃ x : Rep, cs = x.arr.toList ∧ x.bnd (Rows.uptoBulk y.1) := by
  obtain ⟨xs, n, _, hx, hlen, hxl, hf⟩ := DataW.trod_struct Tryz.underlying68 h
  rw [cells_rep] at hlen
  obtain ⟨c0, c1, c2, c3, c4, c5, c6, c7, rfl⟩ := list_n_rep hlen
  obtain ⟨y0, y1, y2, y3, y4, y5, y6, rfl⟩ := list_f_rep hxl
  have g0 := fld hf 0 3 0 1 rfl cells_int
  have g1 := fld hf 1 66 1 1 rfl cells_rep_1
  have g2 := fld hf 2 55 2 2 rfl cells_rep_2
  have g3 := fld hf 3 2 4 1 rfl cells_i64
  have g4 := fld hf 4 2 5 1 rfl cells_i64
  have g5 := fld hf 5 2 6 1 rfl cells_i64
  have g6 := fld hf 6 2 7 1 rfl cells_i64
  simp only [List.drop_succ_cons, List.drop_zero, List.take_succ_cons, List.take_zero, List.getElem?_cons_succ, List.getElem?_cons_zero] at g0 g1 g2 g3 g4 g5 g6
  obtain ⟨v0, e0, _⟩ := DataW.trod_int Tryz.underlying3 g0
  obtain ⟨v1, e1, _⟩ := DataW.trod_int Tryz.underlying66 g1
  obtain ⟨v2, v2', e2⟩ := open_two Tryz.underlying55 cells_rep_2 ⟨rfl, rfl⟩ ⟨rfl, rfl⟩ g2
  obtain ⟨v3, e3, _⟩ := DataW.trod_int Tryz.underlying2 g3
  obtain ⟨v4, e4, _⟩ := DataW.trod_int Tryz.underlying2 g4
  obtain ⟨v5, e5, _⟩ := DataW.trod_int Tryz.underlying2 g5
  obtain ⟨v6, e6, _⟩ := DataW.trod_int Tryz.underlying2 g6
  simp only [List.cons.injEq, and_true] at e0 e1 e3 e4 e5 e6
  have hy : Rows.uptoBulk y.1 = Rows.uptoBulkAll [y0.1, y1.1, y2.1, y3.1, y4.1, y5.1, y6.1] + 1 := by rw [hx]; simp [Rows.uptoBulk]
  refine ⟨⟨v0, v1, v2, v2', v3, v4, v5, v6⟩, ?_, ?_⟩
  · have e : [c0, c1, c2, c3, c4, c5, c6, c7] = [c0] ++ [c1] ++ [c2, c3] ++ [c4] ++ [c5] ++ [c6] ++ [c7] := rfl
    rw [e, e0, e1, e2, e3, e4, e5, e6]
    rfl
  · trivial
end
theorem Rep.bnd.mono {x : Rep} {a b : Nat} (h : x.bnd a) (hab : a ≤ b) : x.bnd b := trivial
theorem cells_reps : Tryz.prog.cellsOf 22 = 1 := by kernel_rfl
theorem cells_vel : Tryz.prog.cellsOf 24 = 2 := by kernel_rfl
theorem cells_sense : Tryz.prog.cellsOf 26 = 13 := by kernel_rfl
theorem list_n_sense {α : Type _} {l : List α} (h : l.length = 13) : ∃ x0 x1 x2 x3 x4 x5 x6 x7 x8 x9 x10 x11 x12, l = [x0, x1, x2, x3, x4, x5, x6, x7, x8, x9, x10, x11, x12] := by
  match l, h with
  | [x0, x1, x2, x3, x4, x5, x6, x7, x8, x9, x10, x11, x12], _ => exact ⟨x0, x1, x2, x3, x4, x5, x6, x7, x8, x9, x10, x11, x12, rfl⟩
theorem list_f_sense {α : Type _} {l : List α} (h : l.length = 12) : ∃ x0 x1 x2 x3 x4 x5 x6 x7 x8 x9 x10 x11, l = [x0, x1, x2, x3, x4, x5, x6, x7, x8, x9, x10, x11] := by
  match l, h with
  | [x0, x1, x2, x3, x4, x5, x6, x7, x8, x9, x10, x11], _ => exact ⟨x0, x1, x2, x3, x4, x5, x6, x7, x8, x9, x10, x11, rfl⟩
section
variable {H : Type} {enc : TypeId × Value → H} {w : World} {base : Nat} {spare : Nat → Bool} {held : Bool}
set_option maxRecDepth 100000 in
theorem open_senseT {r : Reach} {b0 : Nat} {v : Value} {d : DataW H} {ps : List MemPlace} (hv : Value.okWide Tryz.prog w r b0 26 v) (h : DataW.Trod enc Tryz.prog w base spare held 26 v d ps) :
    ∃ (s : Sense) (A : Option Addr) (c : Nat), v = s.val A c ∧ (Rows.uptoBulk d ≤ 4000000000 → s.ok w A c) := by
  obtain ⟨cs, rfl, hsz⟩ := okWide_struct Tryz.underlying26 hv
  obtain ⟨fuel, hf⟩ := h
  obtain ⟨xs, n, _, hx, hlen, hxl, hf⟩ := DataW.trod_struct Tryz.underlying26 hf
  rw [cells_sense] at hsz
  have hl13 : cs.toList.length = 13 := by simpa using hsz
  obtain ⟨c0, c1, c2, c3, c4, c5, c6, c7, c8, c9, c10, c11, c12, hcs⟩ := list_n_sense hl13
  obtain ⟨y0, y1, y2, y3, y4, y5, y6, y7, y8, y9, y10, y11, rfl⟩ := list_f_sense hxl
  have g0 := fld hf 0 2 0 1 rfl cells_i64
  have g1 := fld hf 1 22 1 1 rfl cells_reps
  have g2 := fld hf 2 24 2 2 rfl cells_vel
  have g3 := fld hf 3 2 4 1 rfl cells_i64
  have g4 := fld hf 4 2 5 1 rfl cells_i64
  have g5 := fld hf 5 2 6 1 rfl cells_i64
  have g6 := fld hf 6 2 7 1 rfl cells_i64
  have g7 := fld hf 7 2 8 1 rfl cells_i64
  have g8 := fld hf 8 4 9 1 rfl cells_bool
  have g9 := fld hf 9 4 10 1 rfl cells_bool
  have g10 := fld hf 10 4 11 1 rfl cells_bool
  have g11 := fld hf 11 9 12 1 rfl cells_str
  have hvc : (Value.agg cs).cells.toList = [c0, c1, c2, c3, c4, c5, c6, c7, c8, c9, c10, c11, c12] := hcs
  rw [hvc] at g0 g1 g2 g3 g4 g5 g6 g7 g8 g9 g10 g11
  simp only [List.drop_succ_cons, List.drop_zero, List.take_succ_cons, List.take_zero, List.getElem?_cons_succ, List.getElem?_cons_zero] at g0 g1 g2 g3 g4 g5 g6 g7 g8 g9 g10 g11
  obtain ⟨v0, e0, _⟩ := DataW.trod_int Tryz.underlying2 g0
  obtain ⟨es, A, c, e1, hc, _, hI, b1, _⟩ := open_items Rep.arr Rep.bnd (fun x a b hab hb => hb.mono hab) Tryz.underlying22 cells_rep (by decide) (fun x => x.arr_size) (fun h => open_rep h) g1
  obtain ⟨v2, v3, e2⟩ := open_two Tryz.underlying24 cells_vel ⟨rfl, rfl⟩ ⟨rfl, rfl⟩ g2
  obtain ⟨v4, e3, _⟩ := DataW.trod_int Tryz.underlying2 g3
  obtain ⟨v5, e4, _⟩ := DataW.trod_int Tryz.underlying2 g4
  obtain ⟨v6, e5, _⟩ := DataW.trod_int Tryz.underlying2 g5
  obtain ⟨v7, e6, _⟩ := DataW.trod_int Tryz.underlying2 g6
  obtain ⟨v8, e7, _⟩ := DataW.trod_int Tryz.underlying2 g7
  obtain ⟨v9, e8, _⟩ := DataW.trod_bool Tryz.underlying4 g8
  obtain ⟨v10, e9, _⟩ := DataW.trod_bool Tryz.underlying4 g9
  obtain ⟨v11, e10, _⟩ := DataW.trod_bool Tryz.underlying4 g10
  obtain ⟨v12, e11, b11⟩ := open_str g11
  simp only [List.cons.injEq, and_true] at e0 e2 e3 e4 e5 e6 e7 e8 e9 e10
  simp only [Prod.mk.injEq] at hx
  have hy : Rows.uptoBulk d = Rows.uptoBulkAll [y0.1, y1.1, y2.1, y3.1, y4.1, y5.1, y6.1, y7.1, y8.1, y9.1, y10.1, y11.1] + 1 := by rw [hx.1]; simp [Rows.uptoBulk]
  have p1 : Rows.uptoBulk y1.1 ≤ Rows.uptoBulkAll [y0.1, y1.1, y2.1, y3.1, y4.1, y5.1, y6.1, y7.1, y8.1, y9.1, y10.1, y11.1] := bulk_part (by simp)
  have p11 : Rows.uptoBulk y11.1 ≤ Rows.uptoBulkAll [y0.1, y1.1, y2.1, y3.1, y4.1, y5.1, y6.1, y7.1, y8.1, y9.1, y10.1, y11.1] := bulk_part (by simp)
  refine ⟨⟨v0, es, v2, v3, v4, v5, v6, v7, v8, v9, v10, v11, v12⟩, A, c, ?_, fun hN => ⟨?_, hc, ?_, hI⟩⟩
  · have : cs = #[c0, c1, c2, c3, c4, c5, c6, c7, c8, c9, c10, c11, c12] := by apply Array.toList_inj.1; rw [hcs]
    rw [this, e0, e1, e2.1, e2.2, e3, e4, e5, e6, e7, e8, e9, e10, e11]; rfl
  · show es.length ≤ _; omega
  · show v12.length ≤ _; omega
theorem u8_of {n : Int} (h0 : 0 ≤ n) (h1 : n ≤ 255) : Value.int .u8 n = bval (UInt8.ofNat n.toNat) := by
  unfold bval
  congr 1
  rw [UInt8.toNat_ofNat']
  omega
set_option maxRecDepth 100000 in
theorem open_byte {fuel : Nat} {cs : List Value} {y : DataW H × List MemPlace} (h : DataW.trod enc Tryz.prog w base spare held fuel 5 cs = some y) : ∃ c : UInt8, cs = (#[bval c] : Array Value).toList ∧ True := by
  obtain ⟨n, e, _, wf⟩ := DataW.trod_int Tryz.underlying5 h
  have hb := Go.bounds_u8 wf
  exact ⟨UInt8.ofNat n.toNat, by rw [e, u8_of hb.1 hb.2], trivial⟩
set_option maxRecDepth 100000 in
theorem open_bytesT {r : Reach} {b0 : Nat} {v : Value} {d : DataW H} {ps : List MemPlace} (hv : Value.okWide Tryz.prog w r b0 30 v) (h : DataW.Trod enc Tryz.prog w base spare held 30 v d ps) :
    ∃ (l : List UInt8) (A : Option Addr) (c : Nat), v = .slice A l.length c ∧ l.length ≤ c ∧ c ≤ maxLen ∧ Rd w w.heap.size A l ∧ l.length ≤ Rows.uptoBulk d := by
  obtain ⟨fuel, hf⟩ := h
  obtain ⟨a0, l0, c0, rfl⟩ := okWide_slice Tryz.underlying30 hv
  have hc1 : (Value.slice a0 l0 c0).cells.toList = [.slice a0 l0 c0] := rfl
  rw [hc1] at hf
  obtain ⟨l, A, c, e, h1, h2, hI, h3, _⟩ := open_items (fun c : UInt8 => (#[bval c] : Array Value)) (fun _ _ => True) (fun _ _ _ _ _ => trivial) Tryz.underlying30 cells_u8 (by decide) (fun _ => rfl) (fun h => open_byte h) hf
  refine ⟨l, A, c, e, h1, h2, ⟨fun hne => ?_⟩, h3⟩
  obtain ⟨b, off, e, hb, hc⟩ := hI.at_ (by intro q; exact hne (List.map_eq_nil_iff.1 q))
  refine ⟨b, off, e, hb, fun i hi => ?_⟩
  have := hc i #[bval l[i]] (by rw [List.getElem?_map, List.getElem?_eq_getElem hi]; rfl) 0 (by decide)
  simpa using this
end
end Go.Proofs.YtjcjglbdklmomaaGreatDoor
