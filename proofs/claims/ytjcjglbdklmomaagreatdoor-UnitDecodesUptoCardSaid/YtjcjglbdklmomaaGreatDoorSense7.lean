/- Layer 57: numbers out of bytes; the scanner's methods. -/
import Derived.Test.YtjcjglbdklmomaaGreatDoorSense1
import Derived.Test.YtjcjglbdklmomaaGreatDoorByte
import Derived.Test.YtjcjglbdklmomaaGreatDoorTch
namespace Go.Proofs.YtjcjglbdklmomaaGreatDoor
open Go.RowKit
set_option linter.unusedVariables false
set_option linter.unusedSimpArgs false
/-- The slice at A reads as the bytes l; it lies in a block below G. -/
structure Rd (w : World) (G : Nat) (A : Option Addr) (l : List UInt8) : Prop where
  at_ : l ≠ [] → ∃ b off, A = some ⟨b, off, none⟩ ∧ b < G ∧ ∀ i (h : i < l.length), w.cell? ⟨b, off + i, none⟩ = some (bval l[i])
theorem Rd.get {w : World} {G : Nat} {A : Option Addr} {l : List UInt8} (h : Rd w G A l) {k : Nat} (hk : k < l.length) : ∃ b off, A = some ⟨b, off, none⟩ ∧ b < G ∧ ∀ i (h : i < l.length), w.cell? ⟨b, off + i, none⟩ = some (bval l[i]) :=
  h.at_ (by rintro rfl; simp at hk)
theorem or_nat (n x : Nat) (hx : x < 256) : (n * 256) ||| x = n * 256 + x := by
  have := Nat.shiftLeft_add_eq_or_of_lt (i := 8) (b := x) hx n
  rw [Nat.shiftLeft_eq] at this
  exact this.symm
theorem wrap_u64i {m : Int} (h0 : 0 ≤ m) (h1 : m < 18446744073709551616) : IntKind.u64.wrap m = m := by
  have : IntKind.u64.wrap m = m % 18446744073709551616 := by simp [IntKind.wrap, IntKind.bits, IntKind.signed]
  rw [this]; omega
theorem or_byte (N : Int) (x : Nat) (h0 : 0 ≤ N) (h1 : N < 72057594037927936) (hx : x < 256) : bits .or .u64 (IntKind.u64.wrap (N * 256)) (IntKind.u64.wrap (x : Int)) = N * 256 + x := by
  rw [wrap_u64i (by omega) (by omega), wrap_u64i (by omega) (by omega)]
  obtain ⟨n, rfl⟩ := Int.eq_ofNat_of_zero_le h0
  unfold bits
  have e1 : (BitVec.ofInt IntKind.u64.bits ((n : Int) * 256)).toNat = n * 256 := by
    rw [show ((n : Int) * 256) = ((n * 256 : Nat) : Int) by omega]
    rw [BitVec.ofInt_natCast, BitVec.toNat_ofNat]
    exact Nat.mod_eq_of_lt (by simp [IntKind.bits]; omega)
  have e2 : (BitVec.ofInt IntKind.u64.bits ((x : Int))).toNat = x := by
    rw [BitVec.ofInt_natCast, BitVec.toNat_ofNat]
    exact Nat.mod_eq_of_lt (by simp [IntKind.bits]; omega)
  simp only [BitVec.toNat_or, e1, e2, or_nat n x hx]
  rw [wrap_u64i (by omega) (by omega)]
  omega
theorem numB_snoc (l : List UInt8) (x : UInt8) : numB (l ++ [x]) = numB l * 256 + x.toNat := by simp [numB]
theorem numB_bound (l : List UInt8) : 0 ≤ numB l ∧ numB l < 256 ^ l.length := by
  induction l with
  | nil => simp [numB]
  | cons x r ih =>
    rw [numB_cons, List.length_cons, Int.pow_succ]
    have := x.toNat_lt
    have h1 : (x.toNat : Int) * 256 ^ r.length ≤ 255 * 256 ^ r.length := Int.mul_le_mul_of_nonneg_right (by omega) (by omega)
    have h2 : 0 ≤ (x.toNat : Int) * 256 ^ r.length := Int.mul_nonneg (by omega) (by omega)
    omega
theorem pow256_le {m : Nat} (h : m ≤ 7) : (256 : Int) ^ m ≤ 72057594037927936 := by
  match m, h with
  | 0, _ | 1, _ | 2, _ | 3, _ | 4, _ | 5, _ | 6, _ | 7, _ => decide
set_option maxHeartbeats 2000000 in
set_option maxRecDepth 100000 in
theorem unumber_any (A : Option Addr) (l : List UInt8) (c G : Nat) (w : World) (hR : Rd w G A l) (hl : l.length ≤ 8) (hc : l.length ≤ c) : Calls Tryz.prog 21 #[.slice A l.length c] w (RetP w (.int .u64 (numB l))) := by
  go_enter Tryz.func21, Tryz.ntmps21
  go_wp2
  go_loop [3, 8] (fun n i => ∃ k : Nat, k ≤ l.length ∧ i = .int .i64 k ∧ n = .int .u64 (numB (l.take k))) (fun _ i => l.length - (intOf i).toNat)
  case atStart => exact ⟨0, by omega, rfl, by simp [numB]⟩
  case round =>
    obtain ⟨k, hk, rfl, rfl⟩ := hrel
    by_cases hlt : k < l.length
    · obtain ⟨b, off, hA, hb, he⟩ := hR.get hlt
      subst hA
      have e1 := he k hlt
      unfold bval at e1
      obtain ⟨N, hN⟩ : ∃ N, N = numB (l.take k) := ⟨_, rfl⟩
      have HN := Lib.hid hN
      have HT := Lib.hid (show numB (l.take (k + 1)) = N * 256 + (l[k].toNat : Int) by rw [List.take_succ_eq_append_getElem hlt, numB_snoc, hN])
      have HB := Lib.hid (show 0 ≤ N ∧ N < 72057594037927936 by
        have := numB_bound (l.take k)
        rw [← hN, List.length_take, Nat.min_eq_left (by omega)] at this
        exact ⟨this.1, Int.lt_of_lt_of_le this.2 (pow256_le (by omega))⟩)
      rw [← hN]; clear hN he hR
      generalize l[k] = x at e1 HT
      go_wp2
      go_round
      case rel => exact ⟨k + 1, by omega, by go_num, by rw [HT.out, or_byte N x.toNat HB.out.1 HB.out.2 x.toNat_lt]⟩
      case measure => simp [intOf]; omega
    · go_wp2
      go_ret
      exact RetP.int (by rw [List.take_of_length_le (by omega)]) rfl
/-- The scanner in block g: what is left to read, and whether too little was there. -/
def Scn (B : Nat) (w : World) (g : Nat) (st : Scan) : Prop := ∃ A c, Blk w g #[.slice A st.1.length c, .bool st.2] ∧ st.1.length ≤ c ∧ c ≤ maxLen ∧ Rd w B A st.1 ∧ B ≤ g
def RetT (B : Nat) (w : World) (g : Nat) (n : Nat) (st : Scan) (e : Ending) (w' : World) : Prop := ∃ A' c', e = .returned (.slice A' n c') ∧ n ≤ c' ∧ Rd w' w'.heap.size A' (tk n st).1 ∧ Scn B w' g (tk n st).2 ∧ Touch [g] w w'
theorem Rd.far {w w' : World} {G : Nat} {A : Option Addr} {l : List UInt8} (h : Rd w G A l) (hc : ∀ b o, b < G → w'.cell? ⟨b, o, none⟩ = w.cell? ⟨b, o, none⟩) : Rd w' G A l where
  at_ hne := by
    obtain ⟨b, off, e, hb, he⟩ := h.at_ hne
    exact ⟨b, off, e, hb, fun i hi => by rw [hc _ _ hb]; exact he i hi⟩
theorem Rd.mono {w : World} {G G' : Nat} {A : Option Addr} {l : List UInt8} (h : Rd w G A l) (hg : G ≤ G') : Rd w G' A l where
  at_ hne := by
    obtain ⟨b, off, e, hb, he⟩ := h.at_ hne
    exact ⟨b, off, e, by omega, he⟩
theorem Rd.take {w : World} {G : Nat} {A : Option Addr} {l : List UInt8} (h : Rd w G A l) (n : Nat) : Rd w G A (l.take n) where
  at_ hne := by
    obtain ⟨b, off, e, hb, he⟩ := h.at_ (by rintro rfl; simp at hne)
    exact ⟨b, off, e, hb, fun i hi => by rw [he i (by simp at hi; omega)]; simp⟩
theorem Rd.drop {w : World} {G b off : Nat} {l : List UInt8} (h : Rd w G (some ⟨b, off, none⟩) l) (n : Nat) : Rd w G (some ⟨b, off + n, none⟩) (l.drop n) where
  at_ hne := by
    obtain ⟨b', off', e, hb, he⟩ := h.at_ (by rintro rfl; simp at hne)
    obtain ⟨rfl, rfl⟩ : b = b' ∧ off = off' := by simpa using e
    exact ⟨b, off + n, rfl, hb, fun i hi => by rw [Nat.add_assoc, he (n + i) (by simp at hi; omega)]; simp⟩
theorem Rd.nil (w : World) (G : Nat) (A : Option Addr) : Rd w G A [] := ⟨fun h => absurd rfl h⟩
theorem far_cell {w : World} {g b o k : Nat} {v : Value} (h : b < g) : (w.setCell ⟨g, k, none⟩ v).cell? ⟨b, o, none⟩ = w.cell? ⟨b, o, none⟩ :=
  World.cell?_of_block (w := w) (Below.heap_setCell w ⟨g, k, none⟩ v b (by show b ≠ g; omega))
theorem take_short {w : World} {B g n c : Nat} {A : Option Addr} {l : List UInt8} {bad : Bool} (hb : Blk w g #[.slice A l.length c, .bool bad]) (hlc : l.length ≤ c) (hc9 : c ≤ maxLen) (hR : Rd w B A l) (hBg : B ≤ g) (h : l.length < n) :
    RetT B w g n (l, bad) (.returned (.slice (some ⟨w.heap.size, 0, none⟩) n n)) ((w.setCell ⟨g, 1, none⟩ (.bool true)).alloc (.cells (bvals (List.replicate n 0)).toArray 5)) := by
  have e : tk n (l, bad) = (List.replicate n 0, (l, true)) := by unfold tk; rw [if_pos h]
  have hsz : (w.setCell ⟨g, 1, none⟩ (.bool true)).heap.size = w.heap.size := by simp [World.setCell]
  have hlt := hb.lt
  unfold RetT
  rw [e]
  refine ⟨_, _, rfl, Nat.le_refl _, ⟨fun _ => ⟨w.heap.size, 0, rfl, by simp [hsz], fun i hi => ?_⟩⟩, ⟨A, c, ((hb.setCell 1 (.bool true)).alloc _), hlc, hc9, hR.far fun b o hbg => ?_, hBg⟩, ?_⟩
  · rw [← hsz, cell_of_row _ _ _ _ _ (0, 0) (heap_alloc_new _ _)]
    simp at hi
    simp [bvals, hi]
  · rw [World.cell?_alloc_lt _ _ _ (by show b < _; rw [hsz]; omega)]
    exact far_cell (by omega)
  · exact (Touch.setCell [g] w (by simp) 1 _).trans (Touch.of ((Below.refl _ _).alloc (Nat.le_refl _) _))
theorem take_long {w : World} {B g n c : Nat} {A A2 : Option Addr} {l : List UInt8} {bad : Bool} (hb : Blk w g #[.slice A l.length c, .bool bad]) (hlc : l.length ≤ c) (hc9 : c ≤ maxLen) (hR : Rd w B A l) (hBg : B ≤ g) (h : ¬ l.length < n)
    (hA : ∀ b off, A = some ⟨b, off, none⟩ → n < c → A2 = some ⟨b, off + n, none⟩) :
    RetT B w g n (l, bad) (.returned (.slice A n c)) (w.setCell ⟨g, 0, none⟩ (.slice A2 (l.length - n) (c - n))) := by
  have e : tk n (l, bad) = (l.take n, (l.drop n, bad)) := by unfold tk; rw [if_neg h]
  have hsz : (w.setCell ⟨g, 0, none⟩ (.slice A2 (l.length - n) (c - n))).heap.size = w.heap.size := by simp [World.setCell]
  have hlt := hb.lt
  have hR' : Rd (w.setCell ⟨g, 0, none⟩ (.slice A2 (l.length - n) (c - n))) B A l := hR.far fun b o hbg => far_cell (by omega)
  unfold RetT
  rw [e]
  refine ⟨A, c, rfl, by omega, (hR'.take n).mono (by omega), ⟨A2, c - n, ?_, ?_, by omega, ?_, hBg⟩, Touch.setCell [g] w (by simp) 0 _⟩
  · simp only [List.length_drop]; exact hb.setCell 0 _
  · simp only [List.length_drop]; omega
  · show Rd _ B A2 (l.drop n)
    refine ⟨fun hne => ?_⟩
    have hn : n < l.length := by
      rcases Nat.lt_or_ge n l.length with q | q
      · exact q
      · rw [List.drop_of_length_le q] at hne; exact absurd rfl hne
    obtain ⟨b, off, rfl, hbg, hc⟩ := hR'.get hn
    have hA2 := hA b off rfl (by omega)
    subst hA2
    exact (hR'.drop n).at_ hne
set_option maxHeartbeats 2000000 in
set_option maxRecDepth 100000 in
theorem take_any (n : Nat) (hn : n = 1 ∨ n = 4 ∨ n = 8) (B g : Nat) (st : Scan) (w : World) (h : Scn B w g st) : Calls Tryz.prog 22 #[.pointer (some ⟨g, 0, none⟩), .int .i64 n] w (RetT B w g n st) := by
  obtain ⟨A, c, hb, hlc, hc9, hR, hBg⟩ := h
  obtain ⟨l, bad⟩ := st
  simp only at hb hlc hR
  have c0 : w.cell? ⟨g, 0, none⟩ = some (.slice A l.length c) := hb.cell 0
  have c1 : w.cell? ⟨g, 1, none⟩ = some (.bool bad) := hb.cell 1
  have f0 := hb.frozen 0
  have f1 := hb.frozen 1
  by_cases hlt : l.length < n
  · have m1 : ∀ w : World, (Instr.makeSlice 30 (.int .i64 1) (.int .i64 1)).run Tryz.prog w = .ok (.slice (some ⟨w.heap.size, 0, none⟩) 1 1) (w.alloc (.cells (bvals (List.replicate 1 0)).toArray 5)) := fun _ => by kernel_rfl
    have m4 : ∀ w : World, (Instr.makeSlice 30 (.int .i64 4) (.int .i64 4)).run Tryz.prog w = .ok (.slice (some ⟨w.heap.size, 0, none⟩) 4 4) (w.alloc (.cells (bvals (List.replicate 4 0)).toArray 5)) := fun _ => by kernel_rfl
    have m8 : ∀ w : World, (Instr.makeSlice 30 (.int .i64 8) (.int .i64 8)).run Tryz.prog w = .ok (.slice (some ⟨w.heap.size, 0, none⟩) 8 8) (w.alloc (.cells (bvals (List.replicate 8 0)).toArray 5)) := fun _ => by kernel_rfl
    rcases hn with rfl | rfl | rfl
    all_goals
      go_enter Tryz.func22, Tryz.ntmps22
      go_wp2
      go_ret
      exact take_short hb hlc hc9 hR hBg hlt
  · have hn1 : n ≤ l.length := by omega
    by_cases hnc : n = c
    · have hln : l.length = c := by omega
      rcases hn with rfl | rfl | rfl
      all_goals
        subst hnc
        go_enter Tryz.func22, Tryz.ntmps22
        go_wp2
        go_ret
        have q := take_long (A2 := A) hb hlc hc9 hR hBg hlt (fun _ _ _ h => absurd h (by omega))
        rw [hln] at q
        exact q
    · have hnc' : n < c := by omega
      obtain ⟨b, off, rfl, hbg, _⟩ := hR.get (k := 0) (by omega)
      rcases hn with rfl | rfl | rfl
      all_goals
        go_enter Tryz.func22, Tryz.ntmps22
        go_wp2
        go_ret
        exact take_long hb hlc hc9 hR hBg hlt (fun b' off' e _ => by simp at e; obtain ⟨rfl, rfl⟩ := e; rfl)
end Go.Proofs.YtjcjglbdklmomaaGreatDoor
