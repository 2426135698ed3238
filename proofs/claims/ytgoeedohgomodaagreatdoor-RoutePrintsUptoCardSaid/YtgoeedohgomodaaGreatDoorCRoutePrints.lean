/- PROVED: Print has the text of the reference: items with spaces between, and each argument reads behind the call as before: the card of the second form (what is read is of bulk at most 1048576). Its conditions: none of mine. -/
import Derived.Test.YtgoeedohgomodaaGreatDoorPk18
import Derived.Test.YtgoeedohgomodaaGreatDoorPk16
import Derived.OpenShut
import Derived.Deep.Slices
import Derived.Deep.Fields
import Derived.ChangeSame
import Derived.Deep.DeepHandedRow
import Derived.Carry
import Derived.LaidSub
import Derived.Test.YtgoeedohgomodaaGreatDoorPk06
import Derived.Test.YtgoeedohgomodaaGreatDoorPk01
import Derived.Test.YtgoeedohgomodaaGreatDoorPm01
import Derived.Test.YtgoeedohgomodaaGreatDoorPk07
import Derived.Test.YtgoeedohgomodaaGreatDoorPk49
import Derived.Test.YtgoeedohgomodaaGreatDoorCards
import Derived.Test.YtgoeedohgomodaaGreatDoorTie
import Derived.Deep.DeepWitnessRowRef
import Derived.Lay
import Derived.WalkKit
import Derived.ProofKit
namespace Go.Proofs.YtgoeedohgomodaaGreatDoor
open Go.RowKit Go.ChangeShapes Go.WideShapes Go.Deep
set_option linter.unusedVariables false
set_option linter.unusedSimpArgs false
theorem list4 {α : Type _} {l : List α} (h : l.length = 4) : ∃ x0 x1 x2 x3, l = [x0, x1, x2, x3] := by
  match l, h with
  | [x0, x1, x2, x3], _ => exact ⟨x0, x1, x2, x3, rfl⟩
theorem list6 {α : Type _} {l : List α} (h : l.length = 6) : ∃ x0 x1 x2 x3 x4 x5, l = [x0, x1, x2, x3, x4, x5] := by
  match l, h with
  | [x0, x1, x2, x3, x4, x5], _ => exact ⟨x0, x1, x2, x3, x4, x5, rfl⟩
theorem list20 {α : Type _} {l : List α} (h : l.length = 20) : ∃ x0 x1 x2 x3 x4 x5 x6 x7 x8 x9 x10 x11 x12 x13 x14 x15 x16 x17 x18 x19, l = [x0, x1, x2, x3, x4, x5, x6, x7, x8, x9, x10, x11, x12, x13, x14, x15, x16, x17, x18, x19] := by
  match l, h with
  | [x0, x1, x2, x3, x4, x5, x6, x7, x8, x9, x10, x11, x12, x13, x14, x15, x16, x17, x18, x19], _ => exact ⟨x0, x1, x2, x3, x4, x5, x6, x7, x8, x9, x10, x11, x12, x13, x14, x15, x16, x17, x18, x19, rfl⟩
theorem cells_int : Tryz.prog.cellsOf 3 = 1 := by kernel_rfl
section
variable {H : Type} {enc : TypeId × Value → H} {w : World} {base : Nat} {spare : Nat → Bool} {held : Bool}
end
end Go.Proofs.YtgoeedohgomodaaGreatDoor
namespace Go.Proofs.YtgoeedohgomodaaGreatDoor
open Go.RowKit Go.ChangeShapes Go.WideShapes Go.Deep
set_option linter.unusedVariables false
set_option linter.unusedSimpArgs false
theorem cells_sec : Tryz.prog.cellsOf 67 = 1 := by kernel_rfl
theorem cells_pt : Tryz.prog.cellsOf 66 = 2 := by kernel_rfl
theorem cells_ent : Tryz.prog.cellsOf 69 = 20 := by kernel_rfl
theorem cells_es : Tryz.prog.cellsOf 41 = 1 := by kernel_rfl
theorem cells_plan : Tryz.prog.cellsOf 43 = 4 := by kernel_rfl
section
variable {H : Type} {enc : TypeId × Value → H} {w : World} {base : Nat} {spare : Nat → Bool} {held : Bool}
theorem open_ent {fuel : Nat} {cs : List Value} {y : DataW H × List MemPlace} (h : DataW.trod enc Tryz.prog w base spare held fuel 69 cs = some y) :
    ∃ x : Entry, cs = x.arr.toList ∧ x.leg.fix.length ≤ Rows.uptoBulk y.1 ∧ x.leg.center.length ≤ Rows.uptoBulk y.1 ∧ x.via.length ≤ Rows.uptoBulk y.1 := by
  obtain ⟨xs, n, _, hx, hlen, hxl, hf⟩ := DataW.trod_struct Tryz.underlying69 h
  rw [cells_ent] at hlen
  obtain ⟨c0, c1, c2, c3, c4, c5, c6, c7, c8, c9, c10, c11, c12, c13, c14, c15, c16, c17, c18, c19, rfl⟩ := list20 hlen
  obtain ⟨y0, y1, y2, y3, y4, y5, rfl⟩ := list6 hxl
  have g0 := fld hf 0 4 0 1 rfl cells_bool
  have g1 := fld hf 1 64 1 13 rfl cells_leg
  have g2 := fld hf 2 66 14 2 rfl cells_pt
  have g3 := fld hf 3 66 16 2 rfl cells_pt
  have g4 := fld hf 4 67 18 1 rfl cells_sec
  have g5 := fld hf 5 9 19 1 rfl cells_str
  simp only [List.drop_succ_cons, List.drop_zero, List.take_succ_cons, List.take_zero, List.getElem?_cons_succ, List.getElem?_cons_zero] at g0 g1 g2 g3 g4 g5
  obtain ⟨v0, e0, _⟩ := DataW.trod_bool Tryz.underlying4 g0
  obtain ⟨l, e1, b1, b2⟩ := open_leg g1
  obtain ⟨v2, v3, e2⟩ := open_two Tryz.underlying66 cells_pt ⟨rfl, rfl⟩ ⟨rfl, rfl⟩ g2
  obtain ⟨v4, v5, e3⟩ := open_two Tryz.underlying66 cells_pt ⟨rfl, rfl⟩ ⟨rfl, rfl⟩ g3
  obtain ⟨v6, e4, _⟩ := DataW.trod_int Tryz.underlying67 g4
  obtain ⟨v7, e5, b5⟩ := open_str g5
  have hy : Rows.uptoBulk y.1 = Rows.uptoBulkAll [y0.1, y1.1, y2.1, y3.1, y4.1, y5.1] + 1 := by rw [hx]; simp [Rows.uptoBulk]
  have p1 : Rows.uptoBulk y1.1 ≤ Rows.uptoBulkAll [y0.1, y1.1, y2.1, y3.1, y4.1, y5.1] := bulk_part (by simp)
  have p5 : Rows.uptoBulk y5.1 ≤ Rows.uptoBulkAll [y0.1, y1.1, y2.1, y3.1, y4.1, y5.1] := bulk_part (by simp)
  refine ⟨⟨v0, l, v2, v3, v4, v5, v6, v7⟩, ?_, ?_, ?_, ?_⟩
  · simp only [List.cons.injEq, and_true] at e0 e2 e3 e4
    have e1' : [c1, c2, c3, c4, c5, c6, c7, c8, c9, c10, c11, c12, c13] = l.arr.toList := e1
    have : [c0, c1, c2, c3, c4, c5, c6, c7, c8, c9, c10, c11, c12, c13, c14, c15, c16, c17, c18, c19] = [c0] ++ [c1, c2, c3, c4, c5, c6, c7, c8, c9, c10, c11, c12, c13] ++ [c14, c15, c16, c17, c18, c19] := rfl
    rw [this, e1', e0, e2.1, e2.2, e3.1, e3.2, e4, e5]; rfl
  · show l.fix.length ≤ _; omega
  · show l.center.length ≤ _; omega
  · show v7.length ≤ _; omega
end
section
variable {H : Type} {enc : TypeId × Value → H} {w : World} {base : Nat} {spare : Nat → Bool} {held : Bool}
theorem open_ents {fuel : Nat} {v : Value} {y : DataW H × List MemPlace} (h : DataW.trod enc Tryz.prog w base spare held fuel 41 [v] = some y) :
    ∃ (es : List Entry) (A : Option Addr) (c : Nat), v = .slice A es.length c ∧ es.length ≤ c ∧ Ents w A es ∧ es.length ≤ Rows.uptoBulk y.1 ∧ ∀ x ∈ es, x.leg.fix.length ≤ Rows.uptoBulk y.1 ∧ x.leg.center.length ≤ Rows.uptoBulk y.1 ∧ x.via.length ≤ Rows.uptoBulk y.1 := by
  rcases open_slice Tryz.underlying41 h with ⟨h0, hx⟩ | ⟨a, len, cap, m, n, D, Pl, hcs, hb, hl, hm, hmm, hx, hi⟩
  · exact ⟨[], none, 0, by simpa using h0, by simp, Ents.nil _ _, by simp, by simp⟩
  · rw [cells_ent] at hi
    have hlm : len ≤ m := by rw [hmm]; split <;> omega
    obtain ⟨es, hel, hes⟩ := list_of (P := fun i (x : Entry) => (∀ j, j < 20 → w.cell? ((a.add (i * 20)).add j) = x.arr[j]?) ∧ x.leg.fix.length ≤ Rows.uptoBulk (D i) ∧ x.leg.center.length ≤ Rows.uptoBulk (D i) ∧ x.via.length ≤ Rows.uptoBulk (D i)) len (fun i hil => by
      obtain ⟨cs', hc, ht⟩ := hi i (by omega)
      obtain ⟨x, e, b1, b2, b3⟩ := open_ent ht
      obtain ⟨_, hcl, hat⟩ := World.cells?_some hc
      refine ⟨x, fun j hj => ?_, b1, b2, b3⟩
      rw [hat j hj, e]; simp)
    have hbk : Rows.uptoBulkAll ((List.range len).map D) + 1 ≤ Rows.uptoBulk y.1 := by rw [hx]; simp only [Rows.uptoBulk]; omega
    have hD : ∀ i, i < len → Rows.uptoBulk (D i) ≤ Rows.uptoBulk y.1 := fun i hil => by
      have := bulk_part (show D i ∈ (List.range len).map D from List.mem_map.2 ⟨i, by simpa using hil, rfl⟩)
      omega
    have hln := bulk_len ((List.range len).map D)
    simp only [List.length_map, List.length_range] at hln
    refine ⟨es, some a, cap, by rw [hel]; simpa using hcs, by omega, ⟨fun hne => ?_⟩, by omega, fun x hx' => ?_⟩
    · obtain ⟨b, off, spot⟩ := a
      have hpos : 0 < es.length := List.length_pos_iff.2 hne
      have h0 := (hes 0 es[0] (List.getElem?_eq_getElem hpos)).1 0 (by omega)
      have hsp : spot = none := by
        cases spot with
        | none => rfl
        | some q =>
          exfalso
          rw [Entry.arr0] at h0
          unfold World.cell? Addr.add at h0
          split at h0 <;> simp at h0
      subst hsp
      refine ⟨b, off, rfl, ?_, fun i x hx' j hj => ?_⟩
      · rw [Entry.arr0, addr_add, addr_add] at h0
        exact block_lt_of_cell h0
      · have := (hes i x hx').1 j hj
        rw [addr_add, addr_add] at this
        exact this
    · obtain ⟨i, hi', hxi⟩ := List.getElem_of_mem hx'
      have hb := (hes i x (by rw [← hxi]; exact List.getElem?_eq_getElem hi')).2
      have := hD i (by omega)
      omega
end
end Go.Proofs.YtgoeedohgomodaaGreatDoor
namespace Go.Proofs.YtgoeedohgomodaaGreatDoor
open Go.RowKit Go.ChangeShapes Go.WideShapes Go.Deep
set_option linter.unusedVariables false
set_option linter.unusedSimpArgs false
section
variable {H : Type} {enc : TypeId × Value → H} {w : World} {base : Nat} {spare : Nat → Bool} {held : Bool}
set_option maxRecDepth 100000 in
theorem open_planT {r : Reach} {b0 : Nat} {v : Value} {d : DataW H} {ps : List MemPlace} (hv : Value.okWide Tryz.prog w r b0 43 v) (h : DataW.Trod enc Tryz.prog w base spare held 43 v d ps) :
    ∃ (p : Plan) (A : Option Addr) (c : Nat), v = p.val A c ∧ p.es.length ≤ c ∧ Ents w A p.es ∧ p.es.length ≤ Rows.uptoBulk d ∧ (Rows.uptoBulk d ≤ 4000000000 → p.small) := by
  obtain ⟨cs, rfl, hsz⟩ := okWide_struct Tryz.underlying43 hv
  obtain ⟨fuel, hf⟩ := h
  obtain ⟨xs, n, _, hx, hlen, hxl, hf⟩ := DataW.trod_struct Tryz.underlying43 hf
  rw [cells_plan] at hsz
  have hl4 : cs.toList.length = 4 := by simpa using hsz
  obtain ⟨c0, c1, c2, c3, hcs⟩ := list4 hl4
  obtain ⟨y0, y1, y2, y3, rfl⟩ := list4 hxl
  have g0 := fld hf 0 9 0 1 rfl cells_str
  have g1 := fld hf 1 9 1 1 rfl cells_str
  have g2 := fld hf 2 41 2 1 rfl cells_es
  have g3 := fld hf 3 3 3 1 rfl cells_int
  have hvc : (Value.agg cs).cells.toList = [c0, c1, c2, c3] := hcs
  rw [hvc] at g0 g1 g2 g3
  simp only [List.drop_succ_cons, List.drop_zero, List.take_succ_cons, List.take_zero, List.getElem?_cons_succ, List.getElem?_cons_zero] at g0 g1 g2 g3
  obtain ⟨s0, e0, b0⟩ := open_str g0
  obtain ⟨s1, e1, b1⟩ := open_str g1
  obtain ⟨es, A, c, e2, hc, hE, b2, b3⟩ := open_ents g2
  obtain ⟨k, e3, _⟩ := DataW.trod_int Tryz.underlying3 g3
  simp only [List.cons.injEq, and_true] at e3
  simp only [Prod.mk.injEq] at hx
  have hy : Rows.uptoBulk d = Rows.uptoBulkAll [y0.1, y1.1, y2.1, y3.1] + 1 := by rw [hx.1]; simp [Rows.uptoBulk]
  have p0 : Rows.uptoBulk y0.1 ≤ Rows.uptoBulkAll [y0.1, y1.1, y2.1, y3.1] := bulk_part (by simp)
  have p1 : Rows.uptoBulk y1.1 ≤ Rows.uptoBulkAll [y0.1, y1.1, y2.1, y3.1] := bulk_part (by simp)
  have p2 : Rows.uptoBulk y2.1 ≤ Rows.uptoBulkAll [y0.1, y1.1, y2.1, y3.1] := bulk_part (by simp)
  refine ⟨⟨s0, s1, es, k⟩, A, c, ?_, hc, hE, ?_, fun hN => ⟨?_, ?_, ?_, fun x hx' => ?_⟩⟩
  · have : cs = #[c0, c1, c2, c3] := by apply Array.toList_inj.1; rw [hcs]
    rw [this, e0, e1, e2, e3]; rfl
  · show es.length ≤ _; omega
  · show s0.length ≤ _; omega
  · show s1.length ≤ _; omega
  · show es.length ≤ _; omega
  · obtain ⟨q1, q2, q3⟩ := b3 x hx'
    exact ⟨⟨by omega, by omega⟩, by omega⟩
end
end Go.Proofs.YtgoeedohgomodaaGreatDoor
namespace Go.Proofs.YtgoeedohgomodaaGreatDoor
open Go.RowKit
set_option linter.unusedVariables false
set_option linter.unusedSimpArgs false
set_option maxHeartbeats 4000000 in
set_option maxRecDepth 100000 in
theorem rplanCheck_any (p : Plan) (A : Option Addr) (c : Nat) (w : World) (hs : p.small) (hc : p.es.length ≤ c) (hE : Ents w A p.es) :
   Calls Tryz.prog 44 #[p.val A c] w (Ret w (.int .i64 (planCheck p))) := by
  have hn := hs.len
  have hf := hs.from_
  have ht := hs.to_
  have hO0 := Own1.mk0 w (p.arr A c) 43
  go_enter Tryz.func44, Tryz.ntmps44
  go_upto_region 1 with (fail)
  generalize w.alloc _ = W at hO0 ⊢
  have hc0 := hO0.cell
  have hlt0 := hO0.lt
  go_upto_region 6 with (go_at_call 88; refine callP (rplace_any _ _ (by assumption)) ?_)
  all_goals try (go_ret; refine Ret.int ?_ (Own1.below (by assumption)); go_light; first | (simp [planCheck, *]; done) | grind [planCheck])
  rename placeB p.from_ = true => ha
  rename (!placeB p.to_) = false => hb0
  rename (p.es.length : Int) ≤ 60 => hlen
  have hp0 := Lib.hid (show planCheck p = orE (checkGo none 0 p.es) (activeE p) by go_light; grind [planCheck])
  clear ha hb0 hlen
  go_wp2
  go_loopw [3, 25] (fun t i wr => ∃ (k : Nat) (s : Int), k ≤ p.es.length ∧ i = .int .i64 k ∧ t = .int .u8 s ∧ planCheck p = orE (checkGo (prevOf p.es k) s (p.es.drop k)) (activeE p) ∧ Own1 w (p.arr A c) wr) (fun _ i _ => p.es.length - (intOf i).toNat)
  case atStart => exact ⟨0, 0, by omega, rfl, rfl, hp0.out, hO0⟩
  case round =>
    obtain ⟨k, s, hk, rfl, rfl, hq, hO⟩ := hrel
    have HQ := Lib.hid hq; clear hq hp0 hO0 hc0 hlt0
    by_cases hlt : k < p.es.length
    · obtain ⟨b, off, hA, hb, he⟩ := hE.get hlt
      subst hA
      have hd := Lib.hid (List.drop_eq_getElem_cons hlt)
      have hx := hs.each p.es[k] (List.getElem_mem _)
      generalize p.es[k] = x at he hd hx
      have e1 : ∀ j, j < 20 → wr.cell? ⟨b, off + k * 20 + j, none⟩ = x.arr[j]? := fun j hj => by rw [hO.below.cell (p := ⟨b, _, none⟩) hb]; exact he j hj
      have P0 := hO.boxed.alloc (.cells x.arr 69)
      have X0 := Boxed.new wr x.arr 69
      have B0 := (hO.alloc (.cells x.arr 69)).below
      clear he
      go_upto_region 9 with (first
        | ((with_reducible refine at_load 69 (.tmp 28) rfl ?_); refine wpList_load_arr rfl 69 (.tmp 28) rfl b (off + k * 20) rfl x.arr _ _ rfl e1 Tryz.underlying69 rfl infoEntry ?_)
        | ((with_reducible refine at_store 69 (.tmp 5) (.tmp 29) rfl ?_); refine wpList_store_new rfl 69 (.tmp 5) (.tmp 29) rfl _ x.arr rfl rfl 20 infoEntry (x).arr_size rfl (x).arr_one ?_))
      go_frame
      generalize wr.alloc _ = W0 at P0 X0 B0 ⊢
      generalize wr.heap.size = g at X0 ⊢
      clear e1
      have hcp := P0.cell
      have hcx := X0.cell
      have hne := run_gap x
      have hxs : ∀ j, j < 20 → W0.cell? ⟨g, 0 + j, none⟩ = x.arr[j]? := fun j _ => by rw [Nat.zero_add]; exact hcx j
      have hlast := Lib.hid (drop_last p.es k hlt)
      have hxk := Lib.hid (show p.es[k]? = some x from by rw [← List.head?_drop, hd.out]; rfl)
      obtain ⟨r, hr⟩ : ∃ r, r = p.es.drop (k + 1) := ⟨_, rfl⟩
      rw [← hr] at hlast hd
      have HR := Lib.hid hr; clear hr
      have hlt0 := P0.lt
      rcases k with _ | m
      · have HQ2 := Lib.hid (show planCheck p = orE (orE (stepE none s r.isEmpty x) (checkGo (some x) (if x.gap then s else x.sec) r)) (activeE p) by rw [HQ.out, hd.out]; rfl)
        clear HQ
        by_cases hg : x.gap = true
        · go_wp2_with ((with_reducible refine at_load 69 (.tmp 5) rfl ?_); refine wpList_load_arr rfl 69 (.tmp 5) rfl g 0 rfl x.arr _ _ rfl hxs Tryz.underlying69 rfl infoEntry ?_)
          · go_ret; refine Ret.int ?_ B0; rw [HQ2.out]; exact st_gap1 hg (by assumption)
          · go_ret; refine Ret.int ?_ B0; rw [HQ2.out]; exact st_gap9 hg (by assumption) rfl
        · have hg : x.gap = false := by simpa using hg
          go_wp2_with ((with_reducible refine at_load 69 (.tmp 5) rfl ?_); refine wpList_load_arr rfl 69 (.tmp 5) rfl g 0 rfl x.arr _ _ rfl hxs Tryz.underlying69 rfl infoEntry ?_)
          refine call2 P0 X0 B0 (single_any x _ hx) ?_
          intro w1 P1 X1 B1 hcp1 hcx1
          go_wp2_with (go_at_call 90; refine callP (rstarts_any _ _) ?_)
          · go_ret; refine Ret.int ?_ B1; rw [HQ2.out]; exact st_one hg (by assumption)
          · go_ret; refine Ret.int ?_ B1; rw [HQ2.out]; exact st_ord hg (by assumption) (ord_none (by assumption)) (by decide)
          · go_ret; refine Ret.int ?_ B1; rw [HQ2.out]; exact st_sec hg (by assumption) (ord_none0 (by assumption)) (by assumption)
          · go_roundw
            case rel => first | exact ⟨1, x.sec, by omega, rfl, rfl, by rw [HQ2.out, st_ok hg (by assumption) (ord_none0 (by assumption)) (by omega), hg, HR.out]; show _ = orE (checkGo (p.es[0]?) _ _) _; rw [hxk.out]; rfl, P1.own B1⟩ | ((repeat apply Exists.intro); exact ⟨⟨1, x.sec, by omega, rfl, rfl, by rw [HQ2.out, st_ok hg (by assumption) (ord_none0 (by assumption)) (by omega), hg, HR.out]; show _ = orE (checkGo (p.es[0]?) _ _) _; rw [hxk.out]; rfl, P1.own B1⟩, rfl⟩)
            case measure => simp [intOf]; omega
      · have hm : m < p.es.length := by omega
        have hym := List.getElem?_eq_getElem hm
        have hcy : ∀ W, Below w.heap.size w W → ∀ j, j < 20 → W.cell? ⟨b, off + m * 20 + j, none⟩ = p.es[m].arr[j]? := fun W hW => hE.cells hW hm
        generalize p.es[m] = y at hym hcy
        have hc0 := hcy W0 B0
        have HCY := Lib.hid hcy; clear hcy
        have f0 : W0.cell? ⟨b, off + m * 20, none⟩ = some (.bool y.gap) := hc0 0 (by omega)
        have HQ2 := Lib.hid (show planCheck p = orE (orE (stepE (some y) s r.isEmpty x) (checkGo (some x) (if x.gap then s else x.sec) r)) (activeE p) by rw [HQ.out, hd.out]; simp only [prevOf, hym]; rfl)
        clear HQ hym
        by_cases hg : x.gap = true
        · go_wp2_with ((with_reducible refine at_load 69 (.tmp 5) rfl ?_); refine wpList_load_arr rfl 69 (.tmp 5) rfl g 0 rfl x.arr _ _ rfl hxs Tryz.underlying69 rfl infoEntry ?_)
          · go_ret; refine Ret.int ?_ B0; rw [HQ2.out]; exact st_gap1 hg (by assumption)
          · go_ret; refine Ret.int ?_ B0; rw [HQ2.out]; exact st_gap9 hg (by assumption) (by rw [hlast.out]; simp [gapOrdE]; omega)
          · go_ret; refine Ret.int ?_ B0; rw [HQ2.out]; exact st_gap9 hg (by assumption) (by rename_i h; rcases h with (h | h) | h <;> first | (simp [gapOrdE, h]; done) | (simp at h; omega))
          · go_roundw
            case rel => first | exact ⟨m + 1 + 1, s, by omega, by go_num, rfl, by rw [HQ2.out, st_gap0 hg (by assumption) (by rw [hlast.out]; rename_i h; obtain ⟨⟨_, h1⟩, h2⟩ := h; simp [gapOrdE, h2]; simp at h1; omega), hg, HR.out]; show _ = orE (checkGo (p.es[m + 1]?) _ _) _; rw [hxk.out]; rfl, P0.own B0⟩ | ((repeat apply Exists.intro); exact ⟨⟨m + 1 + 1, s, by omega, by go_num, rfl, by rw [HQ2.out, st_gap0 hg (by assumption) (by rw [hlast.out]; rename_i h; obtain ⟨⟨_, h1⟩, h2⟩ := h; simp [gapOrdE, h2]; simp at h1; omega), hg, HR.out]; show _ = orE (checkGo (p.es[m + 1]?) _ _) _; rw [hxk.out]; rfl, P0.own B0⟩, rfl⟩)
            case measure => simp [intOf]; omega
        · have hg : x.gap = false := by simpa using hg
          go_wp2_with ((with_reducible refine at_load 69 (.tmp 5) rfl ?_); refine wpList_load_arr rfl 69 (.tmp 5) rfl g 0 rfl x.arr _ _ rfl hxs Tryz.underlying69 rfl infoEntry ?_)
          refine call2 P0 X0 B0 (single_any x _ hx) ?_
          intro w1 P1 X1 B1 hcp1 hcx1
          have hc1 := HCY.out w1 B1
          have f1 : w1.cell? ⟨b, off + m * 20, none⟩ = some (.bool y.gap) := hc1 0 (by omega)
          have hy1 : ∀ j, j < 13 → w1.cell? ⟨b, off + m * 20 + 1 + j, none⟩ = y.leg.arr[j]? := fun j hj => by rw [Nat.add_assoc, hc1 _ (by omega)]; exact y.leg_sub j hj
          clear hc1 hc0 f0
          by_cases hyg : y.gap = true
          · go_wp2_with (go_at_call 90; refine callP (rstarts_any _ _) ?_)
            · go_ret; refine Ret.int ?_ B1; rw [HQ2.out]; exact st_one hg (by assumption)
            · go_ret; refine Ret.int ?_ B1; rw [HQ2.out]; exact st_ord hg (by assumption) (ord_start hyg (by assumption)) (by decide)
            · go_ret; refine Ret.int ?_ B1; rw [HQ2.out]; exact st_sec hg (by assumption) (ord_start0 hyg (by assumption)) (by assumption)
            · go_roundw
              case rel => first | exact ⟨m + 1 + 1, x.sec, by omega, by go_num, rfl, by rw [HQ2.out, st_ok hg (by assumption) (ord_start0 hyg (by assumption)) (by omega), hg, HR.out]; show _ = orE (checkGo (p.es[m + 1]?) _ _) _; rw [hxk.out]; rfl, P1.own B1⟩ | ((repeat apply Exists.intro); exact ⟨⟨m + 1 + 1, x.sec, by omega, by go_num, rfl, by rw [HQ2.out, st_ok hg (by assumption) (ord_start0 hyg (by assumption)) (by omega), hg, HR.out]; show _ = orE (checkGo (p.es[m + 1]?) _ _) _; rw [hxk.out]; rfl, P1.own B1⟩, rfl⟩)
              case measure => simp [intOf]; omega
          · have hyg : y.gap = false := by simpa using hyg
            have P2 := P1.alloc (.cells y.leg.arr 64)
            have X2 := X1.alloc (.cells y.leg.arr 64)
            have Y2 := Boxed.new w1 y.leg.arr 64
            have B2 := below_step B1 ((Below.refl w1.heap.size w1).alloc (Nat.le_refl _) (.cells y.leg.arr 64))
            go_upto_region 21 with (first
              | ((with_reducible refine at_load 64 (.tmp 80) rfl ?_); refine wpList_load_arr rfl 64 (.tmp 80) rfl b (off + m * 20 + 1) rfl y.leg.arr _ _ rfl hy1 Tryz.underlying64 rfl infoLeg ?_)
              | ((with_reducible refine at_store 64 (.tmp 7) (.tmp 81) rfl ?_); refine wpList_store_new rfl 64 (.tmp 7) (.tmp 81) rfl _ y.leg.arr rfl rfl 13 infoLeg (y.leg).arr_size rfl (y.leg).arr_one ?_))
            · go_ret; refine Ret.int ?_ B1; rw [HQ2.out]; exact st_one hg (by assumption)
            go_frame
            generalize w1.alloc _ = W2 at P2 X2 Y2 B2 ⊢
            generalize w1.heap.size = g2 at Y2 ⊢
            have hxl : ∀ j, j < 13 → W2.cell? ⟨g, 1 + j, none⟩ = x.leg.arr[j]? := X2.at 1 x.leg.arr 13 x.leg_sub
            have hyl : ∀ j, j < 13 → W2.cell? ⟨g2, 0 + j, none⟩ = y.leg.arr[j]? := fun j _ => by rw [Nat.zero_add]; exact Y2.cell j
            have hcp2 := P2.cell
            have hcx2 := X2.cell
            have hcy2 := Y2.cell
            clear hcp1 hcx1 f1 hy1
            go_wp2_with (first
              | ((with_reducible refine at_load 64 (.tmp 7) rfl ?_); refine wpList_load_arr rfl 64 (.tmp 7) rfl g2 0 rfl y.leg.arr _ _ rfl hyl Tryz.underlying64 rfl infoLeg ?_)
              | ((with_reducible refine at_load 64 (.tmp 83) rfl ?_); refine wpList_load_arr rfl 64 (.tmp 83) rfl g 1 rfl x.leg.arr _ _ rfl hxl Tryz.underlying64 rfl infoLeg ?_))
            refine call3 P2 X2 Y2 B2 (rjoins_any y.leg x.leg _) ?_
            intro w3 P3 X3 Y3 B3 hcp3 hcx3 hcy3
            have hxl3 : ∀ j, j < 13 → w3.cell? ⟨g, 1 + j, none⟩ = x.leg.arr[j]? := X3.at 1 x.leg.arr 13 x.leg_sub
            have hyl3 : ∀ j, j < 13 → w3.cell? ⟨g2, 0 + j, none⟩ = y.leg.arr[j]? := fun j _ => by rw [Nat.zero_add]; exact Y3.cell j
            go_upto_region 23 with (fail)
            · go_ret; refine Ret.int ?_ B3; rw [HQ2.out]; exact st_ord hg (by assumption) (ord_join hyg (by assumption)) (by decide)
            go_cut [109] (fun sv wx => sv = .bool (y.leg.dupB x.leg) ∧ Boxed wx w.heap.size (p.arr (some ⟨b, off, none⟩) c) ∧ Boxed wx g x.arr ∧ Below w.heap.size w wx)
            case first =>
              have h24 : ∃ a b, (x.leg.ty == 2) = a ∧ (x.leg.ty == 4) = b := ⟨_, _, rfl, rfl⟩
              obtain ⟨a2, a4, h2, h4⟩ := h24
              have htd := Lib.hid (show tdB x.leg.ty = (a2 || a4) by rw [tdB, h2, h4])
              clear hcp2 hcx2 hcy2 hxl hyl hne hxs hcp hcx hcp3
              cases a2 <;> cases a4
              all_goals
                go_wp2_with (go_at_call 92; refine callP (rends_any _ _) ?_)
                all_goals (go_meet; exact ⟨by rw [Leg.dupB, htd.out]; go_light; simp [Leg.arrivedB, *], P3, X3, B3⟩)
            case rest =>
              obtain ⟨rfl, P5, X5, B5⟩ := hcut
              have hcx5 := X5.cell
              clear hcp2 hcx2 hcy2 hcp3 hcx3 hcy3 hxl hyl hxl3 hyl3 hne hxs hcp hcx
              go_wp2
              · go_ret; refine Ret.int ?_ B5; rw [HQ2.out]; exact st_ord hg (by assumption) (ord_arr hyg (by assumption) (by assumption)) (by decide)
              · go_ret; refine Ret.int ?_ B5; rw [HQ2.out]; exact st_sec hg (by assumption) (ord_ok hyg (by assumption) (by assumption)) (by assumption)
              · go_roundw
                case rel => first | exact ⟨m + 1 + 1, x.sec, by omega, by go_num, rfl, by rw [HQ2.out, st_ok hg (by assumption) (ord_ok hyg (by assumption) (by assumption)) (by omega), hg, HR.out]; show _ = orE (checkGo (p.es[m + 1]?) _ _) _; rw [hxk.out]; rfl, P5.own B5⟩ | ((repeat apply Exists.intro); exact ⟨⟨m + 1 + 1, x.sec, by omega, by go_num, rfl, by rw [HQ2.out, st_ok hg (by assumption) (ord_ok hyg (by assumption) (by assumption)) (by omega), hg, HR.out]; show _ = orE (checkGo (p.es[m + 1]?) _ _) _; rw [hxk.out]; rfl, P5.own B5⟩, rfl⟩)
                case measure => simp [intOf]; omega
    · have HQ2 := Lib.hid (show planCheck p = activeE p by rw [HQ.out, List.drop_of_length_le (by omega)]; rfl)
      have hc1 := hO.cell
      by_cases ha : p.active = -1
      · have h1 : (p.active != -1) = false := by simp [ha]
        have HA := Lib.hid ha; clear ha
        go_wp2
        go_ret; refine Ret.int ?_ hO.below; rw [HQ2.out]; simp [activeE, HA.out]
      · have h1 : (p.active != -1) = true := by simp [ha]
        have HA := Lib.hid ha; clear ha
        by_cases hr : p.active < 0 ∨ (p.es.length : Int) ≤ p.active
        · go_wp2
          all_goals (go_ret; refine Ret.int ?_ hO.below; rw [HQ2.out]; simp [activeE, HA.out, hr])
        · obtain ⟨n, hpn⟩ : ∃ n : Nat, p.active = n := ⟨p.active.toNat, by omega⟩
          have hnl : n < p.es.length := by omega
          have HR := Lib.hid hr; clear hr
          obtain ⟨b, off, hA, hb, he⟩ := hE.get hnl
          subst hA
          have e0 : wr.cell? ⟨b, off + n * 20, none⟩ = some (.bool p.es[n].gap) := by rw [hO.below.cell (p := ⟨b, _, none⟩) hb]; exact he 0 (by omega)
          clear he
          have hb1 : ¬ ((n : Int) < 0) := by omega
          have hb2 : ¬ ((p.es.length : Int) ≤ (n : Int)) := by omega
          have hv := Lib.hid (show activeE p = if p.es[n].gap then 2 else 0 by unfold activeE; rw [if_neg HA.out, if_neg HR.out, hpn]; simp [hnl])
          go_wp2
          all_goals (go_ret; refine Ret.int ?_ hO.below; rw [HQ2.out, hv.out]; go_light; simp_all)
end Go.Proofs.YtgoeedohgomodaaGreatDoor
namespace Go.Proofs.YtgoeedohgomodaaGreatDoor
open Go.RowKit Go.Sort
set_option linter.unusedVariables false
set_option linter.unusedSimpArgs false
set_option maxRecDepth 100000
theorem r22ends_any (x : Leg) (w : World) : Calls Tryz.prog 50 #[.agg x.arr] w (Ret w (.bool (endsB x.ty))) := by
  obtain ⟨t, ht⟩ : ∃ t, x.ty = t := ⟨_, rfl⟩
  have HT := Lib.hid ht
  rw [ht]
  clear ht
  go_enter Tryz.func50, Tryz.ntmps50
  go_upto_region 1 with (fail)
  have X0 := Blk.new w x.arr 64
  have B0 := alloc_belowR w (.cells x.arr 64)
  generalize w.alloc _ = W at X0 B0 ⊢
  generalize w.heap.size = g0 at X0 ⊢
  have c0 : W.cell? ⟨g0, 0, none⟩ = some (.int .u8 t) := by rw [X0.cell 0, ← HT.out]; rfl
  clear X0
  go_wp2
  all_goals
    go_ret
    refine Ret.bool ?_ B0
    grind [endsB]
set_option maxHeartbeats 4000000 in
theorem rfirst_any (ks : List Int) (lo hi : Int) (hks : ∀ s, s ∈ ks ↔ lo ≤ s ∧ s ≤ hi) (p : Plan) (A : Option Addr) (c : Nat) (w : World) (hE : Ents w A p.es) (hc : p.es.length ≤ c) (hl : p.es.length ≤ 1000000) :
    Calls Tryz.prog 49 #[.agg (p.arr A c), .int .u8 lo, .int .u8 hi] w (Ret w (.string ⟨(viaS ks p.es).toArray⟩)) := by
  have HEn := Lib.hid (fun W' (b : Below w.heap.size w W') => hE.below (B := 0) b)
  have HV := Lib.hid (fun k (h : k < p.es.length) => viaS_step (ks := ks) h)
  have HKS := Lib.hid hks
  clear hE hks
  go_enter Tryz.func49, Tryz.ntmps49
  go_upto_region 1 with (fail)
  have X0 := Blk.new w (p.arr A c) 43
  have B0 := alloc_belowR w (.cells (p.arr A c) 43)
  generalize w.alloc _ = W at X0 B0 ⊢
  obtain ⟨g0, hg0⟩ : ∃ g, g = w.heap.size := ⟨_, rfl⟩
  rw [← hg0] at X0 ⊢
  clear hg0
  have c2 : W.cell? ⟨g0, 2, none⟩ = some (.slice A p.es.length c) := X0.cell 2
  have HB := Lib.hid B0
  go_upto_region 2 with (fail)
  clear X0 B0 c2
  generalize p.es = l at *
  go_loopw [12] (fun iv wr => ∃ k : Nat, k ≤ l.length ∧ iv = .int .i64 k ∧ viaS ks l = viaS ks (l.drop k) ∧ Below W.heap.size W wr) (fun iv _ => l.length - (intOf iv).toNat)
  case atStart => exact ⟨0, Nat.zero_le _, rfl, rfl, Below.refl _ _⟩
  case round =>
    obtain ⟨k, hk, rfl, hf, BW⟩ := hrel
    have HF := Lib.hid hf
    clear hf
    have BB := Lib.hid (below_step HB.out BW)
    by_cases hlt : k < l.length
    · obtain ⟨b, off, hA, hb, hcl⟩ := (HEn.out wr BB.out).get (k := k) hlt
      have HD := Lib.hid (HF.out.trans (HV.out k hlt))
      have HI : Is_ent wr b (off + k * 20) l[k] := fun j hj => hcl j hj
      generalize l[k] = y at *
      subst hA
      have i1 : Has_ent wr b (off + k * 20) := ⟨_, HI⟩
      have i2 : of_ent wr b (off + k * 20) = y := of_ent_eq HI
      have hlt' : (k : Int) < (l.length : Int) := by omega
      have hkc : k < c := by omega
      clear hcl HI HF
      go_upto_region 4 with (fail)
      have Y := Blk.new wr y.arr 69
      have B1 := below_step BW (alloc_belowR wr (.cells y.arr 69))
      clear i1 i2 hb BW
      generalize wr.alloc _ = w1 at Y B1 ⊢
      generalize wr.heap.size = g6 at Y ⊢
      have z0 : w1.cell? ⟨g6, 0, none⟩ = some (.bool y.gap) := Y.cell 0
      have z18 : w1.cell? ⟨g6, 18, none⟩ = some (.int .u8 y.sec) := Y.cell 18
      have z19 : w1.cell? ⟨g6, 19, none⟩ = some (.string ⟨y.via.toArray⟩) := Y.cell 19
      cases hg : y.gap with
      | true =>
        have HN := Lib.hid (HD.out.trans (if_neg (by rw [hg]; simp)))
        rw [hg] at z0
        clear hg HD
        go_wp2
        go_roundw
        case rel => exact ⟨k + 1, by omega, by go_num, HN.out, B1⟩
        case measure => simp [intOf]; omega
      | false =>
        rw [hg] at z0
        by_cases h1 : lo ≤ y.sec
        rotate_left
        · have HN := Lib.hid (HD.out.trans (if_neg (fun q => h1 ((HKS.out _).1 q.2.2).1)))
          have e1 : decide (lo ≤ y.sec) = false := decide_eq_false h1
          clear hg HD
          go_wp2
          go_roundw
          case rel => exact ⟨k + 1, by omega, by go_num, HN.out, B1⟩
          case measure => simp [intOf]; omega
        by_cases h2 : y.sec ≤ hi
        rotate_left
        · have HN := Lib.hid (HD.out.trans (if_neg (fun q => h2 ((HKS.out _).1 q.2.2).2)))
          have e2 : decide (y.sec ≤ hi) = false := decide_eq_false h2
          clear hg HD
          go_wp2
          go_roundw
          case rel => exact ⟨k + 1, by omega, by go_num, HN.out, B1⟩
          case measure => simp [intOf]; omega
        have hs := (HKS.out _).2 ⟨h1, h2⟩
        have e1 : decide (lo ≤ y.sec) = true := decide_eq_true h1
        have e2 : decide (y.sec ≤ hi) = true := decide_eq_true h2
        by_cases hv : y.via = []
        · have ev : (y.via == []) = true := by simpa using hv
          have HN := Lib.hid (HD.out.trans (if_neg (by rw [hv]; simp)))
          clear hg HD hv hs
          go_wp2
          go_roundw
          case rel => exact ⟨k + 1, by omega, by go_num, HN.out, B1⟩
          case measure => simp [intOf]; omega
        · have ev : (y.via == []) = false := by simpa using hv
          have HY := Lib.hid (HD.out.trans (if_pos ⟨hg, hv, hs⟩))
          clear hg HD hv hs
          go_wp2
          go_ret
          exact Ret.str (by rw [HY.out]) (below_step HB.out B1)
    · have hlt' : ¬ (k : Int) < (l.length : Int) := by omega
      have HE := Lib.hid (show viaS ks l = [] by rw [HF.out, List.drop_of_length_le (by omega)]; rfl)
      go_wp2
      go_ret
      exact Ret.str (by rw [HE.out]) BB.out
end Go.Proofs.YtgoeedohgomodaaGreatDoor
namespace Go.Proofs.YtgoeedohgomodaaGreatDoor
open Go.RowKit Go.Sort
set_option linter.unusedVariables false
set_option linter.unusedSimpArgs false
set_option maxRecDepth 100000
theorem joinTail_app (sep : List UInt8) : ∀ a b : List (List UInt8), Lib.joinTail sep (a ++ b) = Lib.joinTail sep a ++ Lib.joinTail sep b
  | [], b => by simp [Lib.joinTail]
  | x :: a, b => by
    have ih := joinTail_app sep a b
    simp [Lib.joinTail] at ih ⊢
theorem optR_tail (k : UInt8) {v : List UInt8} {n : Nat} (h : v.length ≤ n) : (Lib.joinTail [32] (optR k v)).length ≤ n + 3 := by
  unfold optR
  split
  · simp [Lib.joinTail]
  · simp [Lib.joinTail]; omega
theorem midOf_tail {i : Nat} {x : Entry} (h : x.small) : (Lib.joinTail [32] (midOf i x)).length ≤ 8000000002 := by
  have h1 := h.via
  have h2 := h.leg.fix
  unfold midOf
  split
  · simp [Lib.joinTail]
  · split
    · simp [Lib.joinTail]; omega
    · simp [Lib.joinTail]; omega
theorem acc_up {a k : Nat} (h : a ≤ 9000000000 + k * 8000000002) : a ≤ 9000000000 + (k + 1) * 8000000002 := Nat.le_trans h (Nat.add_le_add_left (Nat.mul_le_mul_right _ (Nat.le_succ k)) _)
attribute [local go_sem] ba_append
set_option maxHeartbeats 16000000 in
theorem r22print_any (p : Plan) (A : Option Addr) (c : Nat) (w : World) (hp : p.small) (hc : p.es.length ≤ c) (hE : Ents w A p.es) :
    Calls Tryz.prog 21 #[.agg (p.arr A c)] w (Ret w (.string ⟨(printS p).toArray⟩)) := by
  have KC := Lib.hid (fun W' (b : Below w.heap.size w W') => show Calls Tryz.prog 44 #[.agg (p.arr A c)] W' (Ret W' (.int .i64 (planCheck p))) from rplanCheck_any p A c W' hp hc (hE.below (B := 0) b))
  have HEn := Lib.hid (fun W' (b : Below w.heap.size w W') => hE.below (B := 0) b)
  have HN := Lib.hid (fun h => @print_no p h)
  have HY := Lib.hid (fun h1 h2 h3 => @print_yes p h1 h2 h3)
  have H60 := Lib.hid (fun h => (@planChk_ok p h).2.1)
  generalize printS p = out at *
  clear hE
  go_enter Tryz.func21, Tryz.ntmps21
  go_upto_region 1 with (fail)
  have X0 := Blk.new w (p.arr A c) 43
  have B0 := alloc_belowR w (.cells (p.arr A c) 43)
  generalize w.alloc _ = W at X0 B0 ⊢
  obtain ⟨g0, hg0⟩ : ∃ g, g = w.heap.size := ⟨_, rfl⟩
  rw [← hg0] at X0 ⊢
  clear hg0
  have kc := Lib.hid (KC.out W B0)
  have i1 : Has_plan W g0 0 := ⟨_, X0.is_plan rfl⟩
  have i2 : of_plan W g0 0 = p.arr A c := of_plan_eq (X0.is_plan rfl)
  have HX0 := Lib.hid X0
  have HB0 := Lib.hid B0
  clear X0 B0 KC
  by_cases h1 : planCheck p = 0
  rotate_left
  · have h1' : (planCheck p != 0) = true := by simpa using h1
    have HO := Lib.hid (HN.out (.inl h1))
    clear HN HY H60 h1
    generalize planCheck p = z at *
    go_wp2_with (go_at_call 44; (with_reducible refine callR kc.out ?_); intro w1 b1 _ _ _)
    go_ret
    exact Ret.str (by rw [HO.out]) (below_step HB0.out b1)
  have HL60 := Lib.hid (H60.out h1)
  have HY1 := Lib.hid (HY.out h1)
  rw [h1] at kc
  clear h1 H60 HY
  obtain ⟨fr, to_, es, act⟩ := p
  dsimp only at HY1 HN HL60
  have hsm := hp.each
  have hfr : fr.length ≤ 4000000000 := hp.from_
  have hto : to_.length ≤ 4000000000 := hp.to_
  dsimp only at hsm hc HEn
  by_cases hf : fr = []
  · have ef : (fr == []) = true := by simpa using hf
    have HO := Lib.hid (HN.out (.inr (.inl hf)))
    clear HN HY1 hf
    go_wp2_with (go_at_call 44; (with_reducible refine callR kc.out ?_); intro w1 b1 _ _ _; have z0 : w1.cell? ⟨g0, 0, none⟩ = some (.string ⟨fr.toArray⟩) := (HX0.out.step b1).cell 0)
    go_ret
    exact Ret.str (by rw [HO.out]) (below_step HB0.out b1)
  have ef : (fr == []) = false := by simpa using hf
  by_cases ht : to_ = []
  · have et : (to_ == []) = true := by simpa using ht
    have HO := Lib.hid (HN.out (.inr (.inr ht)))
    clear HN HY1 hf ht
    go_wp2_with (go_at_call 44; (with_reducible refine callR kc.out ?_); intro w1 b1 _ _ _; have z0 : w1.cell? ⟨g0, 0, none⟩ = some (.string ⟨fr.toArray⟩) := (HX0.out.step b1).cell 0; have z1 : w1.cell? ⟨g0, 1, none⟩ = some (.string ⟨to_.toArray⟩) := (HX0.out.step b1).cell 1)
    go_ret
    exact Ret.str (by rw [HO.out]) (below_step HB0.out b1)
  have et : (to_ == []) = false := by simpa using ht
  have HO := Lib.hid (HY1.out hf ht)
  clear HN HY1 hf ht
  have hv1 := viaS_len (ks := [1]) hsm
  have hv3 := viaS_len (ks := [3]) hsm
  have hv4 := viaS_len (ks := [4, 5]) hsm
  have HMS := Lib.hid (fun s hs => printMid_small (l := es) (i := 0) hsm s hs)
  have HML := Lib.hid (printMid_len es 0)
  have HSM := Lib.hid hsm
  clear hsm
  have HXB := Lib.hid (fun W' (B : Below W.heap.size W W') => HX0.out.step B)
  clear HX0
  go_upto_region 4 with (go_at_call 44; (with_reducible refine callR kc.out ?_); intro w1 b1 _ _ _; have z0 : w1.cell? ⟨g0, 0, none⟩ = some (.string ⟨fr.toArray⟩) := (HXB.out _ b1).cell 0; have z1 : w1.cell? ⟨g0, 1, none⟩ = some (.string ⟨to_.toArray⟩) := (HXB.out _ b1).cell 1)
  clear i1 i2 kc z0 z1
  have i1 : Has_plan w1 g0 0 := ⟨_, (HXB.out w1 b1).is_plan rfl⟩
  have i2 : of_plan w1 g0 0 = (⟨fr, to_, es, act⟩ : Plan).arr A c := of_plan_eq ((HXB.out w1 b1).is_plan rfl)
  have kv := Lib.hid (rfirst_any [1] 1 1 (fun s => by simp; omega) ⟨fr, to_, es, act⟩ A c w1 (HEn.out w1 (below_step HB0.out b1)) hc (by have := HL60.out; show es.length ≤ _; omega))
  obtain ⟨vv, hvv⟩ : ∃ v, viaS [1] es = v := ⟨_, rfl⟩
  have hvl : vv.length ≤ 4000000000 := by rw [← hvv]; exact hv1
  have kv := Lib.hid (show Calls Tryz.prog 49 #[.agg ((⟨fr, to_, es, act⟩ : Plan).arr A c), .int .u8 1, .int .u8 1] w1 (Ret w1 (.string ⟨vv.toArray⟩)) from hvv ▸ kv.out)
  have HVV := Lib.hid hvv
  clear hvv
  go_upto_if 27 with (go_at_call 49; (with_reducible refine callR kv.out ?_); intro wx b4 _ _ _)
  have B4 := below_step b1 b4
  clear i1 i2 kv b4 b1
  go_cut [3] (fun v wy => v = .string ⟨(fr ++ Lib.joinTail [32] (optR 68 vv)).toArray⟩ ∧ Below W.heap.size W wy)
  case first =>
    by_cases hv : vv = []
    · have ev : vv.isEmpty = true := by simpa using hv
      rw [ev]
      have HR := Lib.hid (show fr ++ Lib.joinTail [32] (optR 68 vv) = fr by rw [hv]; simp [optR, Lib.joinTail])
      clear hv ev
      go_wp2
      go_meet
      rw [HR.out]
      exact ⟨rfl, B4⟩
    · have ev : vv.isEmpty = false := by simpa using hv
      rw [ev]
      have HR := Lib.hid (show fr ++ Lib.joinTail [32] (optR 68 vv) = fr ++ (32 :: 68 :: 61 :: vv) by unfold optR; rw [if_neg hv]; simp [Lib.joinTail])
      have q1 : ¬ 9223372036854775807 < 3 + vv.length := by omega
      have q2 : ¬ 9223372036854775807 < vv.length + 3 := by omega
      have q3 : ¬ 9223372036854775807 < fr.length + (3 + vv.length) := by omega
      have q4 : ¬ 9223372036854775807 < fr.length + (vv.length + 3) := by omega
      have q5 : ¬ 9223372036854775807 < fr.length + (vv.length + 1 + 1 + 1) := by omega
      clear hv ev
      go_wp2
      go_meet
      rw [HR.out]
      exact ⟨rfl, B4⟩
  case rest =>
  obtain ⟨rfl, B6⟩ := hcut
  generalize wc = w6 at *
  clear B4
  have HV1 := Lib.hid HVV.out
  clear HVV
  obtain ⟨a1, ha1⟩ : ∃ a, fr ++ Lib.joinTail [32] (optR 68 vv) = a := ⟨_, rfl⟩
  have hal : a1.length ≤ 9000000000 := by rw [← ha1, List.length_append]; have := optR_tail 68 hvl; omega
  rw [ha1]
  have HA1 := Lib.hid ha1
  have c2 : w6.cell? ⟨g0, 2, none⟩ = some (.slice A es.length c) := (HXB.out w6 B6).cell 2
  go_upto_region 8 with (fail)
  have HC := Lib.hid hc
  clear c2 ha1 hvl
  go_loopw [3, 35] (fun v iv wr => ∃ (k : Nat) (acc : List UInt8), k ≤ es.length ∧ iv = .int .i64 k ∧ v = .string ⟨acc.toArray⟩ ∧ a1 ++ Lib.joinTail [32] (printMid 0 es) = acc ++ Lib.joinTail [32] (printMid k (es.drop k)) ∧ acc.length ≤ 9000000000 + k * 8000000002 ∧ Below W.heap.size W wr) (fun _ iv _ => es.length - (intOf iv).toNat)
  case atStart => exact ⟨0, a1, Nat.zero_le _, rfl, rfl, rfl, by omega, B6⟩
  case round =>
    obtain ⟨k, acc, hk, rfl, rfl, hss, hsl, BW⟩ := hrel
    have HSS := Lib.hid hss
    clear hss
    have h60 : es.length ≤ 60 := HL60.out
    by_cases hlt : k < es.length
    · obtain ⟨b, off, hA, hb, hcl⟩ := (HEn.out wr (below_step HB0.out BW)).get (k := k) hlt
      have HD := Lib.hid (HSS.out.trans (show acc ++ Lib.joinTail [32] (printMid k (es.drop k)) = acc ++ (Lib.joinTail [32] (midOf k es[k]) ++ Lib.joinTail [32] (printMid (k + 1) (es.drop (k + 1)))) by rw [printMid_step hlt, joinTail_app]))
      have HI : Is_ent wr b (off + k * 20) es[k] := fun j hj => hcl j hj
      have hys := HSM.out _ (List.getElem_mem hlt)
      generalize es[k] = y at *
      subst hA
      have i1 : Has_ent wr b (off + k * 20) := ⟨_, HI⟩
      have i2 : of_ent wr b (off + k * 20) = y := of_ent_eq HI
      have hlt' : (k : Int) < (es.length : Int) := by omega
      have hkc : k < c := by have := HC.out; omega
      clear hcl HI HSS
      go_upto_region 10 with (fail)
      have Y := Blk.new wr y.arr 69
      have B1 := below_step BW (alloc_belowR wr (.cells y.arr 69))
      clear i1 i2 hb BW
      generalize wr.alloc _ = w7 at Y B1 ⊢
      generalize wr.heap.size = g6 at Y ⊢
      have z0 : w7.cell? ⟨g6, 0, none⟩ = some (.bool y.gap) := Y.cell 0
      have z18 : w7.cell? ⟨g6, 18, none⟩ = some (.int .u8 y.sec) := Y.cell 18
      have HM0 := Lib.hid (fun h => @midOf_no k y h)
      have HM1 := Lib.hid (fun h1 h2 h3 h4 => @midOf_yes k y h1 h2 h3 h4)
      by_cases hk0 : k = 0
      · have e0 : ((k : Int) == 0) = true := by simp; omega
        have HN2 := Lib.hid (HD.out.trans (show acc ++ (Lib.joinTail [32] (midOf k y) ++ Lib.joinTail [32] (printMid (k + 1) (es.drop (k + 1)))) = acc ++ Lib.joinTail [32] (printMid (k + 1) (es.drop (k + 1))) by rw [HM0.out (.inl hk0)]; simp [Lib.joinTail]))
        clear HD HM0 HM1 hk0
        go_wp2
        go_roundw
        case rel => exact ⟨k + 1, acc, by omega, by go_num, rfl, HN2.out, acc_up hsl, B1⟩
        case measure => simp [intOf]; omega
      have e0 : ((k : Int) == 0) = false := by simp; omega
      cases hg : y.gap with
      | true =>
        have HN2 := Lib.hid (HD.out.trans (show acc ++ (Lib.joinTail [32] (midOf k y) ++ Lib.joinTail [32] (printMid (k + 1) (es.drop (k + 1)))) = acc ++ Lib.joinTail [32] (printMid (k + 1) (es.drop (k + 1))) by rw [HM0.out (.inr (.inl hg))]; simp [Lib.joinTail]))
        rw [hg] at z0
        clear HD HM0 HM1 hk0 hg
        go_wp2
        go_roundw
        case rel => exact ⟨k + 1, acc, by omega, by go_num, rfl, HN2.out, acc_up hsl, B1⟩
        case measure => simp [intOf]; omega
      | false =>
      rw [hg] at z0
      by_cases hs2 : y.sec = 2
      rotate_left
      · have e2 : (y.sec != 2) = true := by simpa using hs2
        have HN2 := Lib.hid (HD.out.trans (show acc ++ (Lib.joinTail [32] (midOf k y) ++ Lib.joinTail [32] (printMid (k + 1) (es.drop (k + 1)))) = acc ++ Lib.joinTail [32] (printMid (k + 1) (es.drop (k + 1))) by rw [HM0.out (.inr (.inr (.inl hs2)))]; simp [Lib.joinTail]))
        clear HD HM0 HM1 hk0 hg hs2
        go_wp2
        go_roundw
        case rel => exact ⟨k + 1, acc, by omega, by go_num, rfl, HN2.out, acc_up hsl, B1⟩
        case measure => simp [intOf]; omega
      have e2 : (y.sec != 2) = false := by simpa using hs2
      have ke := Lib.hid (r22ends_any y.leg w7)
      have j1 : Has_leg w7 g6 1 := ⟨_, fun j hj => by rw [Y.cell]; exact y.leg_sub j hj⟩
      have j2 : of_leg w7 g6 1 = y.leg := of_leg_eq (fun j hj => by rw [Y.cell]; exact y.leg_sub j hj)
      have HYB := Lib.hid Y
      have HB1 := Lib.hid B1
      cases hen : endsB y.leg.ty with
      | false =>
        rw [hen] at ke
        have HN2 := Lib.hid (HD.out.trans (show acc ++ (Lib.joinTail [32] (midOf k y) ++ Lib.joinTail [32] (printMid (k + 1) (es.drop (k + 1)))) = acc ++ Lib.joinTail [32] (printMid (k + 1) (es.drop (k + 1))) by rw [HM0.out (.inr (.inr (.inr hen)))]; simp [Lib.joinTail]))
        clear HD HM0 HM1 hk0 hg hs2 hen
        go_wp2_with (go_at_call 50; (with_reducible refine callR ke.out ?_); intro w8 b8 _ _ _)
        go_roundw
        case rel => exact ⟨k + 1, acc, by omega, by go_num, rfl, HN2.out, acc_up hsl, below_step HB1.out b8⟩
        case measure => simp [intOf]; omega
      | true =>
      rw [hen] at ke
      have HMY := Lib.hid (HM1.out hk0 hg hs2 hen)
      have hmt := midOf_tail (i := k) hys
      clear HM0 HM1 hk0 hg hs2 hen
      have hfl : y.leg.fix.length ≤ 4000000000 := hys.leg.fix
      have hvl2 : y.via.length ≤ 4000000000 := hys.via
      go_upto_region 11 with (go_at_call 50; (with_reducible refine callR ke.out ?_); intro w8 b8 _ _ _)
      have Y8 := HYB.out.step b8
      have B8 := Lib.hid (below_step HB1.out b8)
      have z2 : w8.cell? ⟨g6, 2, none⟩ = some (.string ⟨y.leg.fix.toArray⟩) := Y8.cell 2
      have z19 : w8.cell? ⟨g6, 19, none⟩ = some (.string ⟨y.via.toArray⟩) := Y8.cell 19
      clear z0 z18 j1 j2 HYB HB1 ke Y8 Y B1 b8
      generalize y.leg.fix = fx at *
      have p1 : ¬ 9223372036854775807 < 1 + fx.length := by omega
      have p2 : ¬ 9223372036854775807 < fx.length + 1 := by omega
      by_cases hv : y.via = []
      · have ev : (y.via == []) = true := by simpa using hv
        have HE2 := Lib.hid (show Lib.joinTail [32] (midOf k y) = 32 :: fx by rw [HMY.out, if_pos hv]; simp [Lib.joinTail])
        have HN2 := Lib.hid (HD.out.trans (show acc ++ (Lib.joinTail [32] (midOf k y) ++ Lib.joinTail [32] (printMid (k + 1) (es.drop (k + 1)))) = (acc ++ (32 :: fx)) ++ Lib.joinTail [32] (printMid (k + 1) (es.drop (k + 1))) by rw [HE2.out]; simp))
        have q3 : ¬ 9223372036854775807 < acc.length + (1 + fx.length) := by omega
        have q4 : ¬ 9223372036854775807 < acc.length + (fx.length + 1) := by omega
        clear HD HMY hv HE2
        go_wp2
        go_roundw
        case rel => exact ⟨k + 1, acc ++ (32 :: fx), by omega, by go_num, rfl, HN2.out, by rw [List.length_append, List.length_cons]; omega, B8.out⟩
        case measure => simp [intOf]; omega
      · have ev : (y.via == []) = false := by simpa using hv
        have HE2 := Lib.hid (show Lib.joinTail [32] (midOf k y) = (32 :: y.via) ++ (32 :: fx) by rw [HMY.out, if_neg hv]; simp [Lib.joinTail])
        have HN2 := Lib.hid (HD.out.trans (show acc ++ (Lib.joinTail [32] (midOf k y) ++ Lib.joinTail [32] (printMid (k + 1) (es.drop (k + 1)))) = (acc ++ ((32 :: y.via) ++ (32 :: fx))) ++ Lib.joinTail [32] (printMid (k + 1) (es.drop (k + 1))) by rw [HE2.out]; simp))
        generalize y.via = vi at *
        have q1 : ¬ 9223372036854775807 < 1 + vi.length := by omega
        have q2 : ¬ 9223372036854775807 < vi.length + 1 := by omega
        have q3 : ¬ 9223372036854775807 < acc.length + (1 + vi.length) := by omega
        have q4 : ¬ 9223372036854775807 < acc.length + (vi.length + 1) := by omega
        have q5 : ¬ 9223372036854775807 < acc.length + (vi.length + 1) + (1 + fx.length) := by omega
        have q6 : ¬ 9223372036854775807 < acc.length + (vi.length + 1) + (fx.length + 1) := by omega
        have q7 : ¬ 9223372036854775807 < acc.length + (1 + vi.length) + (1 + fx.length) := by omega
        have q8 : ¬ 9223372036854775807 < acc.length + (vi.length + 1 + (fx.length + 1)) := by omega
        clear HD HMY hv HE2
        go_wp2
        go_roundw
        case rel => exact ⟨k + 1, acc ++ ((32 :: vi) ++ (32 :: fx)), by omega, by go_num, by simp, HN2.out, by simp only [List.length_append, List.length_cons]; omega, B8.out⟩
        case measure => simp [intOf]; omega
    · obtain rfl : k = es.length := by omega
      have hlt' : ¬ (es.length : Int) < (es.length : Int) := by omega
      have HSE := Lib.hid (show a1 ++ Lib.joinTail [32] (printMid 0 es) = acc by rw [HSS.out, List.drop_length]; simp [printMid, Lib.joinTail])
      have hal3 : acc.length ≤ 500000000000 := by omega
      clear HSS hlt
      go_upto_region 15 with (fail)
      have i1 : Has_plan wr g0 0 := ⟨_, (HXB.out wr BW).is_plan rfl⟩
      have i2 : of_plan wr g0 0 = (⟨fr, to_, es, act⟩ : Plan).arr A c := of_plan_eq ((HXB.out wr BW).is_plan rfl)
      have kv := Lib.hid (rfirst_any [3] 3 3 (fun s => by simp; omega) ⟨fr, to_, es, act⟩ A c wr (HEn.out wr (below_step HB0.out BW)) hc (by have := HL60.out; show es.length ≤ _; omega))
      obtain ⟨vb, hvb⟩ : ∃ v, viaS [3] es = v := ⟨_, rfl⟩
      have hvl : vb.length ≤ 4000000000 := by rw [← hvb]; exact hv3
      have kv := Lib.hid (show Calls Tryz.prog 49 #[.agg ((⟨fr, to_, es, act⟩ : Plan).arr A c), .int .u8 3, .int .u8 3] wr (Ret wr (.string ⟨vb.toArray⟩)) from hvb ▸ kv.out)
      have HVV := Lib.hid hvb
      clear hvb
      go_upto_if 75 with (go_at_call 49; (with_reducible refine callR kv.out ?_); intro wx b4 _ _ _)
      have B4 := below_step BW b4
      clear i1 i2 kv b4 BW
      go_cut [3] (fun v wy => v = .string ⟨(acc ++ Lib.joinTail [32] (optR 65 vb)).toArray⟩ ∧ Below W.heap.size W wy)
      case first =>
        by_cases hv : vb = []
        · have ev : vb.isEmpty = true := by simpa using hv
          rw [ev]
          have HR := Lib.hid (show acc ++ Lib.joinTail [32] (optR 65 vb) = acc by rw [hv]; simp [optR, Lib.joinTail])
          clear hv ev
          go_wp2
          go_meet
          rw [HR.out]
          exact ⟨rfl, B4⟩
        · have ev : vb.isEmpty = false := by simpa using hv
          rw [ev]
          have HR := Lib.hid (show acc ++ Lib.joinTail [32] (optR 65 vb) = acc ++ (32 :: 65 :: 61 :: vb) by unfold optR; rw [if_neg hv]; simp [Lib.joinTail])
          have q1 : ¬ 9223372036854775807 < 3 + vb.length := by omega
          have q2 : ¬ 9223372036854775807 < vb.length + 3 := by omega
          have q3 : ¬ 9223372036854775807 < acc.length + (3 + vb.length) := by omega
          have q4 : ¬ 9223372036854775807 < acc.length + (vb.length + 3) := by omega
          have q5 : ¬ 9223372036854775807 < acc.length + (vb.length + 1 + 1 + 1) := by omega
          clear hv ev
          go_wp2
          go_meet
          rw [HR.out]
          exact ⟨rfl, B4⟩
      case rest =>
      obtain ⟨rfl, B10⟩ := hcut
      generalize wc = w10 at *
      clear B4
      have HV3 := Lib.hid HVV.out
      clear HVV
      obtain ⟨a3, ha3⟩ : ∃ a, acc ++ Lib.joinTail [32] (optR 65 vb) = a := ⟨_, rfl⟩
      have hal4 : a3.length ≤ 510000000000 := by rw [← ha3, List.length_append]; have := optR_tail 65 hvl; omega
      rw [ha3]
      have HA3 := Lib.hid ha3
      clear ha3 hvl
      have i1 : Has_plan w10 g0 0 := ⟨_, (HXB.out w10 B10).is_plan rfl⟩
      have i2 : of_plan w10 g0 0 = (⟨fr, to_, es, act⟩ : Plan).arr A c := of_plan_eq ((HXB.out w10 B10).is_plan rfl)
      have kv := Lib.hid (rfirst_any [4, 5] 4 5 (fun s => by simp; omega) ⟨fr, to_, es, act⟩ A c w10 (HEn.out w10 (below_step HB0.out B10)) hc (by have := HL60.out; show es.length ≤ _; omega))
      obtain ⟨vd, hvd⟩ : ∃ v, viaS [4, 5] es = v := ⟨_, rfl⟩
      have hvl : vd.length ≤ 4000000000 := by rw [← hvd]; exact hv4
      have kv := Lib.hid (show Calls Tryz.prog 49 #[.agg ((⟨fr, to_, es, act⟩ : Plan).arr A c), .int .u8 4, .int .u8 5] w10 (Ret w10 (.string ⟨vd.toArray⟩)) from hvd ▸ kv.out)
      have HVV := Lib.hid hvd
      clear hvd
      go_upto_if 83 with (go_at_call 49; (with_reducible refine callR kv.out ?_); intro wx b4 _ _ _)
      have B4 := below_step B10 b4
      clear i1 i2 kv b4 B10
      go_cut [3] (fun v wy => v = .string ⟨(a3 ++ Lib.joinTail [32] (optR 80 vd)).toArray⟩ ∧ Below W.heap.size W wy)
      case first =>
        by_cases hv : vd = []
        · have ev : vd.isEmpty = true := by simpa using hv
          rw [ev]
          have HR := Lib.hid (show a3 ++ Lib.joinTail [32] (optR 80 vd) = a3 by rw [hv]; simp [optR, Lib.joinTail])
          clear hv ev
          go_wp2
          go_meet
          rw [HR.out]
          exact ⟨rfl, B4⟩
        · have ev : vd.isEmpty = false := by simpa using hv
          rw [ev]
          have HR := Lib.hid (show a3 ++ Lib.joinTail [32] (optR 80 vd) = a3 ++ (32 :: 80 :: 61 :: vd) by unfold optR; rw [if_neg hv]; simp [Lib.joinTail])
          have q1 : ¬ 9223372036854775807 < 3 + vd.length := by omega
          have q2 : ¬ 9223372036854775807 < vd.length + 3 := by omega
          have q3 : ¬ 9223372036854775807 < a3.length + (3 + vd.length) := by omega
          have q4 : ¬ 9223372036854775807 < a3.length + (vd.length + 3) := by omega
          have q5 : ¬ 9223372036854775807 < a3.length + (vd.length + 1 + 1 + 1) := by omega
          clear hv ev
          go_wp2
          go_meet
          rw [HR.out]
          exact ⟨rfl, B4⟩
      case rest =>
      obtain ⟨rfl, B11⟩ := hcut
      generalize wc = w11 at *
      clear B4
      have HE := Lib.hid (show out = (a3 ++ Lib.joinTail [32] (optR 80 vd)) ++ (32 :: to_) by
        rw [HO.out, HV1.out, HV3.out, HVV.out, ← HA3.out, ← HSE.out, ← HA1.out]
        simp only [List.append_assoc, List.cons_append, List.nil_append]
        rw [Lib.join_cons]
        simp only [joinTail_app]
        simp [Lib.joinTail])
      have z1 : w11.cell? ⟨g0, 1, none⟩ = some (.string ⟨to_.toArray⟩) := (HXB.out w11 B11).cell 1
      obtain ⟨a4, ha4⟩ : ∃ a, a3 ++ Lib.joinTail [32] (optR 80 vd) = a := ⟨_, rfl⟩
      have hal5 : a4.length ≤ 520000000000 := by rw [← ha4, List.length_append]; have := optR_tail 80 hvl; omega
      rw [ha4] at HE ⊢
      have q1 : ¬ 9223372036854775807 < a4.length + 1 := by omega
      have q2 : ¬ 9223372036854775807 < a4.length + 1 + to_.length := by omega
      have q3 : ¬ 9223372036854775807 < a4.length + (1 + to_.length) := by omega
      have q4 : ¬ 9223372036854775807 < a4.length + (to_.length + 1) := by omega
      clear ha4
      go_wp2
      go_ret
      exact Ret.str (by rw [HE.out]) (below_step HB0.out B11)
end Go.Proofs.YtgoeedohgomodaaGreatDoor
namespace Go.Proofs.YtgoeedohgomodaaGreatDoor
open Go.RowKit Go.Sort
set_option linter.unusedVariables false
set_option linter.unusedSimpArgs false
set_option maxRecDepth 100000
set_option maxHeartbeats 4000000 in
theorem lawRtPrints_any (p : Plan) (A : Option Addr) (c : Nat) (w : World) (hL : Laid w) (hp : p.small) (hc : p.es.length ≤ c) (hE : Ents w A p.es) :
    Calls Tryz.prog 6 #[.agg (p.arr A c)] w (Ret w (.bool true)) := by
  have KA := Lib.hid (fun W (b : Below w.heap.size w W) => awake22_any W (hL.below b))
  have KP := Lib.hid (fun W (b : Below w.heap.size w W) => rprint_any p A c W (hL.below b) hp hc (hE.below (B := 0) b))
  have KR := Lib.hid (fun W (b : Below w.heap.size w W) => r22print_any p A c W hp hc (hE.below (B := 0) b))
  generalize printS p = ps at *
  clear hL hE
  go_enter Tryz.func6, Tryz.ntmps6
  go_upto_region 1 with (fail)
  have P0 := Blk.new w (p.arr A c) 43
  have B0 := alloc_belowR w (.cells (p.arr A c) 43)
  generalize w.alloc _ = W at P0 B0 ⊢
  obtain ⟨gp, hgp⟩ : ∃ g, g = w.heap.size := ⟨_, rfl⟩
  rw [← hgp] at P0 ⊢
  clear hgp
  go_upto_region 3 with (go_at_call 10; (with_reducible refine callR (KA.out _ B0) ?_); intro w1 b1 _ _ _)
  have P1 := P0.step b1
  have B1 := below_step B0 b1
  clear P0 B0 b1 KA
  have D1 : Below w1.heap.size w1 w1.drew := (Below.refl _ _).drew
  have P1d := P1.step D1
  have HB := Lib.hid (below_step B1 D1)
  have i1 : Has_plan w1.drew gp 0 := ⟨_, P1d.is_plan rfl⟩
  have i2 : of_plan w1.drew gp 0 = p.arr A c := of_plan_eq (P1d.is_plan rfl)
  go_region_held3 (fun w' => Has_plan w' gp 0 ∧ of_plan w' gp 0 = p.arr A c) (first | exact ⟨i1, i2⟩ | exact ⟨i3, i4⟩ | exact ⟨i5, i6⟩) (first
    | (go_at_call 20; (with_reducible refine callR (KP.out _ HB.out) ?_); intro v2 B2 _ _ _
       have i3 : Has_plan v2 gp 0 := ⟨_, (P1d.step B2).is_plan rfl⟩
       have i4 : of_plan v2 gp 0 = p.arr A c := of_plan_eq ((P1d.step B2).is_plan rfl))
    | (go_at_call 21; (with_reducible refine callR (KR.out _ (below_step HB.out B2)) ?_); intro v3 B3 _ _ _
       have i5 : Has_plan v3 gp 0 := ⟨_, ((P1d.step B2).step B3).is_plan rfl⟩
       have i6 : of_plan v3 gp 0 = p.arr A c := of_plan_eq (((P1d.step B2).step B3).is_plan rfl)))
  all_goals
    go_wp2
    go_ret
    exact Ret.bool (by simp) (below_step (below_step HB.out B2) B3)
end Go.Proofs.YtgoeedohgomodaaGreatDoor
namespace Go.Proofs.YtgoeedohgomodaaGreatDoor
open Go.RowKit Go.ChangeShapes Go.WideShapes Go.Deep
set_option linter.unusedVariables false
set_option linter.unusedSimpArgs false
theorem laid22_of {W : World} {l : List (String × DataW Unit)} (h : laidMet Tryz.prog l W) (hsh : W.ShapedOpen Tryz.prog) (h1 : ("flightdeck/leg.uses", Lib.tabData .u16 usesTab) ∈ l) : Laid W := by
  obtain ⟨ps, hv, _, _⟩ := h
  have t1 := tab_of hv gUses (t := 194) (by kernel_rfl) Tryz.underlying194 Tryz.underlying193 (by kernel_rfl) (by kernel_rfl) h1
  exact ⟨fun k hk => t1.cell gUses k hk, Go.Proofs.cell_of_shapedOpen_int (zero := #[.int .i64 0]) (t := 3) hsh (of_decide_eq_true (by kernel_rfl)) (by kernel_rfl) rfl (by kernel_rfl) (by kernel_rfl) Tryz.underlying3⟩
end Go.Proofs.YtgoeedohgomodaaGreatDoor
namespace Go.Proofs.YtgoeedohgomodaaGreatDoor.routePrints
open Go.ChangeShapes Go.WideShapes Go.ChangeAt Go.RowKit
set_option linter.unusedVariables false
set_option linter.unusedSimpArgs false
theorem own : ownKnob Tryz.prog.godebug = none := by kernel_rfl
theorem laidOut : laidOutB Tryz.prog = true := by kernel_rfl
theorem opens {W : World} (h : laidMetH Tryz.prog Rows.routePrintsUptoRow.laid W) (hsh : W.ShapedOpen Tryz.prog) : Laid W :=
  laid22_of (l := Rows.routePrintsUptoRow.laid) h hsh (by first | exact List.mem_of_getElem? (i := 0) rfl | exact List.mem_of_getElem? (i := 1) rfl | exact List.mem_of_getElem? (i := 2) rfl | exact List.mem_of_getElem? (i := 3) rfl | exact List.mem_of_getElem? (i := 4) rfl | exact List.mem_of_getElem? (i := 5) rfl | exact List.mem_of_getElem? (i := 6) rfl | exact List.mem_of_getElem? (i := 7) rfl | exact List.mem_of_getElem? (i := 8) rfl | exact List.mem_of_getElem? (i := 9) rfl | exact List.mem_of_getElem? (i := 10) rfl | exact List.mem_of_getElem? (i := 11) rfl | exact List.mem_of_getElem? (i := 12) rfl | exact List.mem_of_getElem? (i := 13) rfl)
set_option maxRecDepth 100000 in
theorem contract (H : Type) (enc : TypeId × Value → H) (W : World) (base : Nat) (args : Array Value) (ds gs : List (DataW H)) (before : List MemPlace)
    (hval : ∀ (j : Nat) t v, Tryz.f6.params[j]? = some t → args[j]? = some v → Value.okWide Tryz.prog W .any base t v)
    (hW : DataW.Whole enc Tryz.prog Tryz.f6.params.toList Rows.routePrintsSpec.vars false W args.toList ds gs before) (hL : laidMetH Tryz.prog Rows.routePrintsUptoRow.laid W) (hsh : W.ShapedOpen Tryz.prog) (hk : Rows.uptoSmall H (ds ++ gs) = true) :
    Calls Tryz.prog 6 args W fun e W' => ∃ v, e = .returned v ∧ Rows.routePrintsSpec.post enc Tryz.prog Tryz.f6 false true false false W args v W' := by
  have OP := opens hL hsh
  have hW' := hW
  obtain ⟨p, q, hA0, hV, rfl, hfz, hnd⟩ := hW
  have hA : DataW.TrodAll enc Tryz.prog W 0 (fun _ => true) true Tryz.f6.params.toList args.toList ds p := hA0
  rw [Tryz.params6] at hA hval
  obtain ⟨v0, vs0, d0, ds0, pl0, ql0, hargs, rfl, rfl, h0, r0⟩ := trodAll_cons hA
  obtain ⟨rfl, rfl, rfl⟩ := trodAll_nil r0
  obtain rfl : args = #[v0] := by cases args; simp_all
  obtain ⟨rfl, rfl⟩ := trodVars_none hV
  have hb := of_decide_eq_true hk
  simp only [List.append_nil, Rows.uptoBulkAll] at hb
  have hk0 := h0
  obtain ⟨p0, A0, c0, rfl, q0, E0, b0, s0⟩ := open_planT (hval 0 43 v0 rfl rfl) h0
  have walk := lawRtPrints_any p0 A0 c0 W OP (s0 (by omega)) q0 E0
  refine walk.mono fun e W' ⟨he, hg⟩ => ?_
  subst he
  have hl0 : ∀ x ∈ pl0, x.block < W.heap.size := fun x hx => by simpa using hW'.lt x (by simp [hx])
  refine ⟨_, rfl, _, _, _, [], (pl0 ++ []), [], hW', ?_, ?_, rfl, ?_, fun h => by cases h⟩
  · exact trodAll_cons_mk (shut_bool Tryz.underlying4 _) trodAll_mk0
  · exact (trodAll_cons_mk (Below.trod laidOut (by kernel_rfl) (of_decide_eq_true (by kernel_rfl)) hk0 hg hl0) trodAll_mk0)
  · exact hg.frame _
theorem reads (os : Os) {H : Type} (enc : TypeId × Value → H) : ∃ places, DataW.whole enc Tryz.prog ((World.laidAll Tryz.prog os Rows.routePrintsUptoRow.laid).forCall (fun _ _ => 0) ⟨#[], #[.agg #[.string ⟨#[]⟩, .string ⟨#[]⟩, .slice none 0 0, .int .i64 0]], []⟩).memory Tryz.f6.params.toList Rows.routePrintsSpec.vars false (#[.agg #[.string ⟨#[]⟩, .string ⟨#[]⟩, .slice none 0 0, .int .i64 0]] : Array Value).toList 8 = some ([.agg [.lit (.string []), .lit (.string []), .nil, .lit (.int .i64 0)]], [], places) :=
  ⟨[], by kernel_rfl⟩
set_option maxRecDepth 100000 in
theorem liftedUpto (os : Os) (started : os.Started) (H : Type) (enc : TypeId × Value → H) (F : Stop.Interp) :
    ReturnsInHanded {} Tryz.checked os 6 .any ((Rows.OpenSpec.upto Rows.routePrintsSpec).preRow enc Tryz.prog Tryz.f6 Rows.routePrintsUptoRow.domain false Rows.routePrintsUptoRow.laid) (((Rows.OpenSpec.upto Rows.routePrintsSpec).at F).post enc Tryz.prog Tryz.f6 false true false false) := by
  obtain ⟨places, hx⟩ := reads os enc
  refine returnsInHanded_of_row (C := Tryz.checked) (s := Rows.OpenSpec.upto Rows.routePrintsSpec) own started (by kernel_rfl) Tryz.func6
    (witness_row_atRef (enc := enc) (C := Tryz.checked) false (World.laidAll Tryz.prog os Rows.routePrintsUptoRow.laid) #[.agg #[.string ⟨#[]⟩, .string ⟨#[]⟩, .slice none 0 0, .int .i64 0]] (World.laidAll_os _ _ _) (by kernel_rfl) (by kernel_rfl) (by kernel_rfl)
      (OpenSpec.preRow_of_cond 8 hx (by kernel_rfl) (fun k hk => by cases hk; kernel_rfl) (by kernel_rfl) (laidMet_laidAll _ (by kernel_rfl) (by kernel_rfl)))) ?_
  intro W base args ds gs before hval hW _ hcond _ hL hsh _
  exact contract H enc W base args ds gs before hval hW hL hsh (hcond _ rfl)
set_option maxHeartbeats 40000000 in
theorem saidUpto : Rows.RoutePrintsUptoSaid :=
  OpenClaim.holds_of_cond 6 Tryz.f6 rfl rfl rfl rfl rfl rfl rfl ⟨rfl, rfl, rfl, rfl, rfl⟩ rfl rfl rfl rfl rfl (by as_aux_lemma => kernel_rfl) Tryz.func6 (by
      unfold joinedFacts
      simp only [Bool.and_eq_true]
      repeat' apply And.intro
      all_goals (as_aux_lemma => kernel_rfl))
    (of_decide_eq_true (by as_aux_lemma => kernel_rfl)) (by unfold Func.isWrapper; first | (rw [if_pos (by decide +kernel)]; kernel_rfl) | (rw [if_neg (by decide +kernel)]; exact ⟨rfl, rfl⟩))
    (fun os started H enc _ F => by rw [OpenClaim.pre_eq_preRow]; exact liftedUpto os started H enc F)
theorem plain (f : FuncId) (fn : Func) (hf : Tryz.pinned.checked.prog.funcNamed "flightdeck/flightdecklaw22.RoutePrints" = some f) (hfn : Tryz.pinned.checked.prog.funcs[f]? = some fn) :
    false = Tryz.pinned.checked.prog.looks [] ∧ ∀ (j : Nat) t, fn.params[j]? = some t → Tryz.pinned.checked.prog.wantsStandIn t = false := by
  obtain rfl : f = 6 := Option.some.inj ((show Tryz.prog.funcNamed "flightdeck/flightdecklaw22.RoutePrints" = some 6 by kernel_rfl).symm.trans hf) |>.symm
  obtain rfl : fn = Tryz.f6 := (Option.some.inj (Tryz.func6.symm.trans hfn)).symm
  refine ⟨by kernel_rfl, fun j t ht => ?_⟩
  rw [Tryz.params6] at ht
  have hm := Array.mem_of_getElem? ht
  obtain rfl : t = 43 := by simpa using hm
  exact (show Tryz.prog.wantsStandIn 43 = false by kernel_rfl)
end Go.Proofs.YtgoeedohgomodaaGreatDoor.routePrints
namespace Go.Proofs.YtgoeedohgomodaaGreatDoor
set_option maxHeartbeats 40000000 in
/-- The card of the second form. -/
theorem routePrints_card : Rows.RoutePrintsUptoCardSaid :=
  Claim7.holds_tied_plain_at .later [] _ _ _ _ routePrints.saidUpto (fun _ h => by cases h) (by as_aux_lemma => kernel_rfl) (fun _ h => by cases h) routePrintsUpto_row_tie rfl ⟨rfl, rfl⟩ (by as_aux_lemma => kernel_rfl) rfl routePrints.plain (by as_aux_lemma => kernel_rfl)
end Go.Proofs.YtgoeedohgomodaaGreatDoor
