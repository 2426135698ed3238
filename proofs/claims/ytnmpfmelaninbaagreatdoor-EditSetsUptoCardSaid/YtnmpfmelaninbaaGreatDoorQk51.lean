/- Lemmas and walks. -/
import Derived.Test.YtnmpfmelaninbaaGreatDoorQk39
import Derived.Test.YtnmpfmelaninbaaGreatDoorQk44
set_option linter.unusedSimpArgs false
set_option linter.unusedVariables false
namespace Go.Proofs.YtnmpfmelaninbaaGreatDoor
open Go.RowKit Go.Sort
set_option maxRecDepth 100000
def RetBoo (w : World) (e : Ending) (w' : World) : Prop := ∃ b : Bool, e = .returned (.bool b) ∧ Below w.heap.size w w'
theorem callBoo {P : Program} {f : FuncId} {args : Array Value} {W : World} {K : Ending → World → Prop} (h : Calls P f args W (RetBoo W)) (k : ∀ b w', Below W.heap.size W w' → K (.returned (.bool b)) w') : Calls P f args W K :=
  h.mono fun e w' ⟨b, he, hb⟩ => by subst he; exact k b w' hb
attribute [local go_sem] awyArr_ones awyArr_sz awyArr_fits awyArr_splice
set_option maxHeartbeats 4000000 in
theorem few23_any (d : DBs) (G : GDB) (w : World) (hD : GdAt w d G) : Calls Tryz.prog 19 #[.agg d.cells] w (RetBoo w) := by
  obtain ⟨A, c, h7, hlc, hA⟩ := hD.air
  obtain ⟨A8, c8, h8, hl8, _⟩ := hD.prc
  have h6 := hD.db.ok.c6
  have hn := hD.airN
  have hn6 : d.fn ≤ 9000000000 := by rw [hD.db.fn]; exact hD.db.len
  have hn8 := hD.prcN
  clear hD
  generalize d.cells = cs at *
  generalize G.airways = l at *
  generalize G.procs.length = n8 at *
  generalize d.fa = A6 at *
  generalize d.fc = c6 at *
  generalize d.fn = n6 at *
  go_enter Tryz.func19, Tryz.ntmps19
  go_upto_region 1 with (fail)
  have X0 : Blk (w.alloc (.cells cs 43)) w.heap.size cs := Blk.new w _ _
  have B0 := alloc_below3 w (.cells cs 43)
  generalize w.alloc _ = W at X0 B0 ⊢
  generalize w.heap.size = g0 at X0 ⊢
  have k6 : W.cell? ⟨g0, 6, none⟩ = some (.slice A6 n6 c6) := (X0.cell 6).trans h6
  have k7 : W.cell? ⟨g0, 7, none⟩ = some (.slice A l.length c) := (X0.cell 7).trans h7
  have k8 : W.cell? ⟨g0, 8, none⟩ = some (.slice A8 n8 c8) := (X0.cell 8).trans h8
  have HA := Lib.hid (fun (W' : World) (B : Below W.heap.size W W') => hA.below (below_step B0 B))
  have HLC := Lib.hid hlc
  clear h6 h7 h8 hA X0
  by_cases a1 : (400 : Int) < (n6 : Int)
  · go_wp2
    go_ret
    exact ⟨_, rfl, B0⟩
  by_cases a2 : (60 : Int) < (l.length : Int)
  · go_wp2
    go_ret
    exact ⟨_, rfl, B0⟩
  by_cases a3 : (60 : Int) < (n8 : Int)
  · go_wp2
    go_ret
    exact ⟨_, rfl, B0⟩
  have HB0 := Lib.hid B0
  clear B0
  go_wp2
  go_loopw [24] (fun iv wr => ∃ k : Nat, k ≤ l.length ∧ iv = .int .i64 k ∧ Below W.heap.size W wr) (fun iv _ => l.length - (intOf iv).toNat)
  case atStart => exact ⟨0, Nat.zero_le _, rfl, Below.refl _ _⟩
  case round =>
    obtain ⟨k, hk, rfl, BW⟩ := hrel
    by_cases hlt : k < l.length
    · obtain ⟨b, off, cs', hAe, hb, hIs, hAt⟩ := (HA.out wr BW).get (Below.refl _ _) hlt
      obtain ⟨A2, c2, rfl, hl2, hI2⟩ := hAt.ex
      clear hAt
      generalize l[k] = a at *
      subst hAe
      have i1 : Has_awy wr b (off + k * 2) := ⟨_, hIs⟩
      have i2 : of_awy wr b (off + k * 2) = awyArr a A2 c2 := of_awy_eq hIs
      have hlt' : (k : Int) < (l.length : Int) := by omega
      have hkc : k < c := by have := HLC.out; omega
      clear hI2 hl2 hIs hb k6 k7 k8
      go_upto_region 6 with (fail)
      have Z := Blk.new wr (awyArr a A2 c2) 118
      have D := below_step BW (alloc_below3 wr (.cells (awyArr a A2 c2) 118))
      clear i1 i2
      generalize wr.alloc _ = W2 at Z D ⊢
      generalize wr.heap.size = g7 at Z ⊢
      have z1 : W2.cell? ⟨g7, 1, none⟩ = some (.slice A2 a.pts.length c2) := Z.cell 1
      by_cases h40 : (40 : Int) < (a.pts.length : Int)
      · go_wp2
        go_ret
        exact ⟨_, rfl, below_step HB0.out D⟩
      · go_wp2
        go_roundw
        case rel => exact ⟨k + 1, by omega, by go_num, D⟩
        case measure => simp [intOf]; omega
    · have hlt' : ¬ (k : Int) < (l.length : Int) := by omega
      go_wp2
      go_ret
      exact ⟨_, rfl, below_step HB0.out BW⟩
end Go.Proofs.YtnmpfmelaninbaaGreatDoor
