/- Layer 58: the reference's Press: the line select keys Layer 58: the reference's Press at every key. Layer 58: what all its statements call: small, Start, the reference's Start. Layer 58: the ranges of the numbers that a view holds, out of its reading; strings opened. A slice of bytes that came in: opened. -/
import Derived.Test.YtijfmfdnagjlpaaGreatDoorPk42
import Derived.Test.YtijfmfdnagjlpaaGreatDoorPk38
import Derived.Test.YtijfmfdnagjlpaaGreatDoorPk13
import Derived.Test.YtijfmfdnagjlpaaGreatDoorPk44
import Derived.Test.YtijfmfdnagjlpaaGreatDoorPk45
import Derived.Test.YtijfmfdnagjlpaaGreatDoorPk43
import Derived.Test.YtijfmfdnagjlpaaGreatDoorPk30
import Derived.Test.YtijfmfdnagjlpaaGreatDoorPk20
namespace Go.Proofs.YtijfmfdnagjlpaaGreatDoor
open Go.RowKit
set_option linter.unusedVariables false
set_option linter.unusedSimpArgs false
attribute [local go_sem] run_storeB_term SzIs_term Fits_term Ones_term splice_term ba_append run_field_es
set_option maxHeartbeats 4000000 in
set_option maxRecDepth 100000 in
theorem rp_line (t : Term) (v : Vw) (d : VAd) (arr : Array Value) (hv : v.At d arr) (side b : UInt8) (hs : side = 76 ∨ side = 82) (hmem : [side, b] ∈ keysL) (q : Pressed) (HX : ∀ W, v.ok W d → Calls Tryz.prog 26 #[.agg t.arr, .agg arr, .string ⟨[side, b].toArray⟩] W (RetR W q)) (w : World) (hok : v.ok w d) (h1 : 1 ≤ t.page) (h2 : t.page ≤ 4) (h3 : 0 ≤ t.first) (h4 : t.first ≤ 1000000) (h5 : t.pad.length ≤ 24) :
    Calls Tryz.prog 12 #[.agg t.arr, .agg arr, .string ⟨[side, b].toArray⟩] w (RetR w (q)) := by
  have HX := Lib.hid HX
  have hs3 : (side == 85) = false := by rcases hs with rfl | rfl <;> rfl
  have hs2 : ([side, b] == [85, 80]) = false := by rcases hs with rfl | rfl <;> rfl
  clear hs
  have hmem : [side, b] ∈ keysL := hmem
  obtain ⟨hsm, hcap, hE⟩ := hok.shown
  have hn := hsm.len
  go_enter Tryz.func12, Tryz.ntmps12
  go_upto_region 1 with (fail)
  generalize hW : ((w.alloc _).alloc _).alloc _ = W
  have X0 : Blk W w.heap.size t.arr := by rw [← hW]; exact ((Blk.new w t.arr _).alloc _).alloc _
  have V0 : Blk W (w.heap.size + 1) arr := by rw [← hW, ← World.size_alloc w (.cells t.arr 23)]; exact (Blk.new _ _ _).alloc _
  have R0 : Blk W (w.heap.size + 2) zeroT.arr := by
    rw [← hW]
    have := Blk.new ((w.alloc (.cells t.arr 23)).alloc (.cells arr 44)) zeroT.arr 23
    simp only [World.size_alloc] at this
    exact this
  have B0 : Below w.heap.size w W := by rw [← hW]; go_grown
  have hle : w.heap.size ≤ w.heap.size + 2 := Nat.le_add_right _ _
  have hxl : w.heap.size ≤ w.heap.size := Nat.le_refl _
  have hne : w.heap.size + 2 ≠ w.heap.size := by omega
  clear hW
  have HC := rknown58_any [side, b] W (by simp)
  rw [decide_eq_true hmem] at HC
  have HC := Lib.hid HC
  clear hmem hE hsm hcap
  go_upto_region 3 with (go_at_call 25; refine callRB HC.out ?_; intro w1 B1; have q1 := (X0.step B1).cell)
  have X1 := X0.step B1
  have V1 := V0.step B1
  have R1 := R0.step B1
  have B2 := below_step B0 B1
  clear X0 V0 R0 B0 B1 HC
  have x1 := X1.cell
  have x2 := X1.frozen
  have x3 := X1.lt
  have x4 := X1.has_term
  have x5 := X1.of_term
  have r2 := R1.plain
  have r3 := R1.of
  have z : arr.size = 42 := hv.size
  have j1 : Has_view w1 (w.heap.size + 1) 0 := ⟨_, V1.is_view z⟩
  have j2 : of_view w1 (w.heap.size + 1) 0 = arr := of_view_eq (V1.is_view z)
  clear z
  have HX := Lib.hid (HX.out w1 (hok.below B2))
  clear h1 h2 h3 h4 hn
  go_wp2_with (go_at_call 26; refine callTR HX.out ?_; intro w4 B4; have s2 := (R1.step B4).plain; have s3 := (R1.step B4).of; have s4 := Lib.hid (R1.step B4); have B5 := below_step B2 B4)
  exact bodyPost_ret (results_agg3 Tryz.results12 _ _ (w.heap.size + 2) q.1.arr 3 _ rfl rfl (s4.out.set _).cell Tryz.underlying23 rfl info_term) rfl (RetR.of rfl (below_setRow' B5 hle _))
end Go.Proofs.YtijfmfdnagjlpaaGreatDoor
namespace Go.Proofs.YtijfmfdnagjlpaaGreatDoor
open Go.RowKit
set_option linter.unusedVariables false
set_option linter.unusedSimpArgs false
theorem rpress58_any (t : Term) (v : Vw) (d : VAd) (arr : Array Value) (hv : v.At d arr) (key : List UInt8) (w : World) (hok : v.ok w d) (hk : key.length ≤ 4000000000) (hp : t.pad.length ≤ 4000000000) :
    Calls Tryz.prog 12 #[.agg t.arr, .agg arr, .string ⟨key.toArray⟩] w (RetR w (pressS t v key)) := by
  rw [pressS_eq]
  by_cases hb : pressBad t key
  · rw [if_pos hb]
    exact rpress58_bad t arr key w hk hp hb
  · rw [if_neg hb]
    unfold pressBad at hb
    have hmem : key ∈ keysL := by
      by_cases a : key ∈ keysL
      · exact a
      · exact absurd (.inl a) hb
    have hb2 : ¬ (t.page < 1 ∨ 4 < t.page ∨ t.first < 0 ∨ 1000000 < t.first ∨ 24 < t.pad.length) := fun h => hb (.inr h)
    have h1 : 1 ≤ t.page := by omega
    have h2 : t.page ≤ 4 := by omega
    have h3 : 0 ≤ t.first := by omega
    have h4 : t.first ≤ 1000000 := by omega
    have h5 : t.pad.length ≤ 24 := by omega
    rcases keys_cases hmem with ⟨ch, hch, rfl⟩ | hword | ⟨side, row, hsd, hrow, rfl⟩
    · rw [pressK_put]
      exact rp_sign t v d arr hv ch hch w hok h1 h2 h3 h4 h5
    · rw [pressK_word _ _ hword]
      simp only [wordsL, List.mem_cons, List.not_mem_nil, or_false] at hword
      rcases hword with h | h | h | h | h | h | h | h | h | h <;> subst h
      · exact rp_CLR t v d arr hv w hok h1 h2 h3 h4 h5
      · exact rp_UP t v d arr hv w hok h1 h2 h3 h4 h5
      · exact rp_DOWN t v d arr hv w hok h1 h2 h3 h4 h5
      · exact rp_LEGS t v d arr hv w hok h1 h2 h3 h4 h5
      · exact rp_DIR t v d arr hv w hok h1 h2 h3 h4 h5
      · exact rp_PROG t v d arr hv w hok h1 h2 h3 h4 h5
      · exact rp_MSG t v d arr hv w hok h1 h2 h3 h4 h5
      · exact rp_EXEC t v d arr hv w hok h1 h2 h3 h4 h5
      · exact rp_ERASE t v d arr hv w hok h1 h2 h3 h4 h5
      · exact rp_UNDO t v d arr hv w hok h1 h2 h3 h4 h5
    · rw [pressK_line _ _ hsd hrow]
      exact rp_line t v d arr hv side (UInt8.ofNat (49 + row)) hsd hmem _ (fun W h => rselects58_any t v d arr hv side row hrow W h h5 h3 h4 hsd hok.shown.1.len) w hok h1 h2 h3 h4 h5
end Go.Proofs.YtijfmfdnagjlpaaGreatDoor
namespace Go.Proofs.YtijfmfdnagjlpaaGreatDoor
open Go.RowKit
set_option linter.unusedVariables false
set_option linter.unusedSimpArgs false
set_option maxRecDepth 100000
def smallB (v : Vw) : Bool := decide (v.active.es.length ≤ 120) && (decide (v.temp.es.length ≤ 120) && decide (v.alerts.length ≤ 40))
set_option maxHeartbeats 4000000 in
theorem small58_any (v : Vw) (d : VAd) (arr : Array Value) (hv : v.At d arr) (w : World) : Calls Tryz.prog 10 #[.agg arr] w (Ret w (.bool (smallB v))) := by
  go_enter Tryz.func10, Tryz.ntmps10
  go_upto_region 1 with (fail)
  have X0 := Blk.new w arr 44
  have B0 := (Below.refl w.heap.size w).alloc (Nat.le_refl _) (.cells arr 44)
  generalize w.alloc _ = W at X0 B0 ⊢
  generalize hg : w.heap.size = g at X0 ⊢
  have x1 := X0.cell
  have e2 := hv.active 2 (by omega)
  rw [Plan.arr2, Nat.zero_add] at e2
  have e6 := hv.temp 2 (by omega)
  rw [Plan.arr2] at e6
  have e32 := hv.alerts
  clear hv
  by_cases h1 : v.active.es.length ≤ 120
  · have h1' : (v.active.es.length : Int) ≤ 120 := by omega
    by_cases h2 : v.temp.es.length ≤ 120
    · have h2' : (v.temp.es.length : Int) ≤ 120 := by omega
      by_cases h3 : v.alerts.length ≤ 40
      · have h3' : (v.alerts.length : Int) ≤ 40 := by omega
        have HS := Lib.hid (show smallB v = true by simp [smallB, h1, h2, h3])
        clear h1 h2 h3
        go_wp2
        go_ret
        exact Ret.bool (by rw [HS.out]) B0
      · have h3' : ¬ (v.alerts.length : Int) ≤ 40 := by omega
        have HS := Lib.hid (show smallB v = false by simp [smallB, h3])
        clear h1 h2 h3
        go_wp2
        go_ret
        exact Ret.bool (by rw [HS.out]) B0
    · have h2' : ¬ (v.temp.es.length : Int) ≤ 120 := by omega
      have HS := Lib.hid (show smallB v = false by simp [smallB, h2])
      clear h1 h2
      go_wp2
      go_ret
      exact Ret.bool (by rw [HS.out]) B0
  · have h1' : ¬ (v.active.es.length : Int) ≤ 120 := by omega
    have HS := Lib.hid (show smallB v = false by simp [smallB, h1])
    clear h1
    go_wp2
    go_ret
    exact Ret.bool (by rw [HS.out]) B0
theorem rstart58_any (w : World) : Calls Tryz.prog 14 #[] w (Ret w (.agg (Term.arr ⟨1, 0, []⟩))) := by
  go_enter Tryz.func14, Tryz.ntmps14
  go_wp2
  exact bodyPost_ret (results_agg1 Tryz.results14 _ _ w.heap.size (Term.arr ⟨1, 0, []⟩) 3 _ rfl rfl (Blk.new w (Term.arr ⟨1, 0, []⟩) _).cell Tryz.underlying23 rfl info_term) rfl ⟨rfl, (Below.refl _ _).alloc (Nat.le_refl _) _⟩
theorem Term.eqB_self (t : Term) : t.eqB t = true := (Term.eqB_iff t t).2 rfl
theorem i64_of {a : Int} (h : i64 a) : -9223372036854775808 ≤ a ∧ a ≤ 9223372036854775807 := h
end Go.Proofs.YtijfmfdnagjlpaaGreatDoor
namespace Go.Proofs.YtijfmfdnagjlpaaGreatDoor
open Go.RowKit Go.ChangeShapes Go.WideShapes Go.Deep
set_option linter.unusedVariables false
set_option linter.unusedSimpArgs false
theorem sub_cells {arr b : Array Value} {o n : Nat} (h : ∀ j, j < n → arr[o + j]? = b[j]?) (hb : b.size = n) : (arr.toList.drop o).take n = b.toList := by
  apply List.ext_getElem?
  intro j
  rw [List.getElem?_take]
  split
  · rename_i hj
    rw [List.getElem?_drop, Array.getElem?_toList, h j hj, Array.getElem?_toList]
  · rw [List.getElem?_eq_none (by simp [hb]; omega)]
theorem sub_cell {arr : Array Value} {o : Nat} {v : Value} (h : arr[o]? = some v) : (arr.toList.drop o).take 1 = [v] :=
  sub_cells (b := #[v]) (fun j hj => by obtain rfl : j = 0 := by omega
                                        simpa using h) rfl
section
variable {H : Type} {enc : TypeId × Value → H} {w : World} {base : Nat} {spare : Nat → Bool} {held : Bool}
theorem int_wf {k : IntKind} {t : TypeId} {fuel : Nat} {n : Int} {y : DataW H × List MemPlace} (ht : Tryz.prog.underlying t = some (.int k)) (h : DataW.trod enc Tryz.prog w base spare held fuel t [.int k n] = some y) : (Lit.int k n).wf = true := by
  obtain ⟨m, e, _, hw⟩ := DataW.trod_int ht h
  simp only [List.cons.injEq, Value.int.injEq, and_true, true_and] at e
  rw [e]; exact hw
theorem ent_rng {fuel : Nat} {x : Entry} {y : DataW H × List MemPlace} (h : DataW.trod enc Tryz.prog w base spare held fuel 87 x.arr.toList = some y) : i64 x.leg.speed := by
  obtain ⟨xs, n, _, hx, hlen, hxl, hf⟩ := DataW.trod_struct Tryz.underlying87 h
  obtain ⟨y0, y1, y2, y3, y4, y5, rfl⟩ := list6 hxl
  have g1 := fld hf 1 84 1 13 rfl cells_leg
  have e : ((x.arr.toList.drop 1).take 13) = x.leg.arr.toList := rfl
  rw [e] at g1
  simp only [List.getElem?_cons_succ, List.getElem?_cons_zero] at g1
  obtain ⟨xs', n', _, hx', hlen', hxl', hf'⟩ := DataW.trod_struct Tryz.underlying84 g1
  obtain ⟨z0, z1, z2, z3, z4, z5, z6, z7, z8, z9, z10, z11, rfl⟩ := list12 hxl'
  have g := fld hf' 10 2 11 1 rfl cells_i64
  have e' : ((x.leg.arr.toList.drop 11).take 1) = [.int .i64 x.leg.speed] := rfl
  rw [e'] at g
  simp only [List.getElem?_cons_succ, List.getElem?_cons_zero] at g
  exact bounds_i64 (int_wf Tryz.underlying2 g)
theorem ents_rng {fuel : Nat} {es : List Entry} {A : Option Addr} {c : Nat} {y : DataW H × List MemPlace} (h : DataW.trod enc Tryz.prog w base spare held fuel 24 [.slice A es.length c] = some y) (hE : Ents w A es) : ∀ x ∈ es, i64 x.leg.speed := by
  intro x hx
  obtain ⟨i, hi, hxi⟩ := List.getElem_of_mem hx
  rcases open_slice Tryz.underlying24 h with ⟨h0, _⟩ | ⟨a, len, cap, m, n, D, Pl, hcs, hb, hl, hm, hmm, hx2, hget⟩
  · simp only [List.cons.injEq, Value.slice.injEq, and_true] at h0
    omega
  · simp only [List.cons.injEq, Value.slice.injEq, and_true] at hcs
    obtain ⟨hA, hlen, _⟩ := hcs
    obtain ⟨b, o, hA2, hlt, hc⟩ := hE.get hi
    rw [hA] at hA2
    obtain rfl : a = ⟨b, o, none⟩ := by simpa using hA2
    obtain ⟨cs', h1, h2⟩ := hget i (by rw [hmm]; split <;> omega)
    rw [cells_ent] at h1
    obtain ⟨_, hcl, hat⟩ := World.cells?_some h1
    have : cs' = es[i].arr.toList := by
      apply List.ext_getElem?
      intro j
      rcases Nat.lt_or_ge j 20 with hj | hj
      · rw [← hat j hj, addr_add, addr_add, hc j hj, Array.getElem?_toList]
      · rw [List.getElem?_eq_none (by omega), List.getElem?_eq_none (by simp [Entry.arr]; omega)]
    rw [this] at h2
    rw [← hxi]
    exact ent_rng h2
theorem plan_rng {fuel : Nat} {p : Plan} {A : Option Addr} {c : Nat} {y : DataW H × List MemPlace} (h : DataW.trod enc Tryz.prog w base spare held fuel 26 (p.arr A c).toList = some y) (hE : Ents w A p.es) : p.rng := by
  obtain ⟨xs, n, _, hx, hlen, hxl, hf⟩ := DataW.trod_struct Tryz.underlying26 h
  obtain ⟨y0, y1, y2, y3, rfl⟩ := list4 hxl
  have g2 := fld hf 2 24 2 1 rfl cells_es
  have e : (((p.arr A c).toList.drop 2).take 1) = [.slice A p.es.length c] := rfl
  rw [e] at g2
  simp only [List.getElem?_cons_succ, List.getElem?_cons_zero] at g2
  exact ⟨ents_rng g2 hE⟩
theorem view_rng {v : Vw} {d' : VAd} {arr : Array Value} {d : DataW H} {ps : List MemPlace} (h : DataW.Trod enc Tryz.prog w base spare held 44 (.agg arr) d ps) (hv : v.At d' arr) (h1 : Ents w d'.A v.active.es) (h2 : Ents w d'.A2 v.temp.es) : v.rng := by
  obtain ⟨fuel, hf⟩ := h
  obtain ⟨xs, n, _, hx, hlen, hxl, hf⟩ := DataW.trod_struct Tryz.underlying44 hf
  obtain ⟨y0, y1, y2, y3, y4, y5, y6, y7, y8, y9, y10, y11, y12, y13, y14, y15, y16, y17, y18, y19, rfl⟩ := list20y hxl
  have hvc : (Value.agg arr).cells.toList = arr.toList := rfl
  rw [hvc] at hf
  have g0 := fld hf 0 26 0 4 rfl cells_plan
  have g1 := fld hf 1 26 4 4 rfl cells_plan
  have g3 := fld hf 3 30 9 6 rfl cells_est
  have g4 := fld hf 4 2 15 1 rfl cells_i64
  have g9 := fld hf 9 40 25 7 rfl cells_tgt
  have g16 := fld hf 16 42 38 1 rfl cells_errno
  rw [sub_cells (arr := arr) (o := 0) (n := 4) (b := v.active.arr d'.A d'.c) hv.active rfl] at g0
  rw [sub_cells (arr := arr) (o := 4) (n := 4) (b := v.temp.arr d'.A2 d'.c2) hv.temp rfl] at g1
  rw [sub_cells (arr := arr) (o := 9) (n := 6) (b := Est.arr ⟨v.px, v.py, v.lx, v.ly, v.usable, v.excluded⟩) (fun j hj => by
    match j, hj with
    | 0, _ => exact hv.px
    | 1, _ => exact hv.py
    | 2, _ => exact hv.lx
    | 3, _ => exact hv.ly
    | 4, _ => exact hv.usable
    | 5, _ => exact hv.excluded) rfl] at g3
  rw [sub_cell hv.required] at g4
  rw [sub_cell hv.last] at g16
  simp only [List.getElem?_cons_succ, List.getElem?_cons_zero] at g0 g1 g3 g4 g9 g16
  obtain ⟨xs3, n3, _, hx3, hlen3, hxl3, hf3⟩ := DataW.trod_struct Tryz.underlying30 g3
  obtain ⟨t0, t1, t2, t3, t4, rfl⟩ := list_f_est hxl3
  have k0 := fld hf3 0 28 0 2 rfl cells_est_1
  have k1 := fld hf3 1 2 2 1 rfl cells_i64
  have k2 := fld hf3 2 2 3 1 rfl cells_i64
  have k4 := fld hf3 4 3 5 1 rfl cells_int
  rw [show ((Est.arr ⟨v.px, v.py, v.lx, v.ly, v.usable, v.excluded⟩).toList.drop 0).take 2 = [.int .i64 v.px, .int .i64 v.py] from rfl] at k0
  rw [show ((Est.arr ⟨v.px, v.py, v.lx, v.ly, v.usable, v.excluded⟩).toList.drop 2).take 1 = [.int .i64 v.lx] from rfl] at k1
  rw [show ((Est.arr ⟨v.px, v.py, v.lx, v.ly, v.usable, v.excluded⟩).toList.drop 3).take 1 = [.int .i64 v.ly] from rfl] at k2
  rw [show ((Est.arr ⟨v.px, v.py, v.lx, v.ly, v.usable, v.excluded⟩).toList.drop 5).take 1 = [.int .i64 v.excluded] from rfl] at k4
  simp only [List.getElem?_cons_succ, List.getElem?_cons_zero] at k0 k1 k2 k4
  obtain ⟨xp, np, _, hxp, hlp, hxlp, hfp⟩ := DataW.trod_struct Tryz.underlying28 k0
  obtain ⟨q0, q1, rfl⟩ := list2 hxlp
  have m0 := fld hfp 0 2 0 1 rfl cells_i64
  have m1 := fld hfp 1 2 1 1 rfl cells_i64
  simp only [List.drop_succ_cons, List.drop_zero, List.take_succ_cons, List.take_zero, List.getElem?_cons_succ, List.getElem?_cons_zero] at m0 m1
  have hl42 : arr.toList.length = 42 := by simpa using hv.size
  have hlb : (arr.toList.drop 28).take 1 = [.int .i64 v.bank] := sub_cell hv.bank
  obtain ⟨xs9, n9, _, hx9, hlen9, hxl9, hf9⟩ := DataW.trod_struct Tryz.underlying40 g9
  obtain ⟨r0, r1, r2, r3, r4, r5, r6, rfl⟩ := list_n_tgt hxl9
  have l0 := fld hf9 0 5 0 1 rfl cells_u8
  have l1 := fld hf9 1 5 1 1 rfl cells_u8
  have l2 := fld hf9 2 5 2 1 rfl cells_u8
  have l3 := fld hf9 3 2 3 1 rfl cells_i64
  have sub7 : ∀ o, o < 7 → ((List.take 7 (List.drop 25 arr.toList)).drop o).take 1 = (arr.toList.drop (25 + o)).take 1 := by
    intro o ho
    rw [List.drop_take, List.drop_drop, List.take_take, show min 1 (7 - o) = 1 by omega]
  rw [sub7 0 (by omega), sub_cell hv.lat] at l0
  rw [sub7 1 (by omega), sub_cell hv.vert] at l1
  rw [sub7 2 (by omega), sub_cell hv.phase] at l2
  rw [sub7 3 (by omega), sub_cell hv.bank] at l3
  simp only [List.getElem?_cons_succ, List.getElem?_cons_zero] at l0 l1 l2 l3
  exact ⟨plan_rng g0 h1, plan_rng g1 h2, bounds_i64 (int_wf Tryz.underlying2 m0), bounds_i64 (int_wf Tryz.underlying2 m1), bounds_i64 (int_wf Tryz.underlying2 k1), bounds_i64 (int_wf Tryz.underlying2 k2), bounds_i64 (int_wf Tryz.underlying3 k4), bounds_i64 (int_wf Tryz.underlying2 g4),
    bounds_i64 (int_wf Tryz.underlying2 l3), bounds_i64 (int_wf Tryz.underlying42 g16), Go.bounds_u8 (int_wf Tryz.underlying5 l0), Go.bounds_u8 (int_wf Tryz.underlying5 l1), Go.bounds_u8 (int_wf Tryz.underlying5 l2)⟩
set_option maxRecDepth 100000 in
theorem open_viewR {r : Reach} {b0 : Nat} {v : Value} {d : DataW H} {ps : List MemPlace} (hv : Value.okWide Tryz.prog w r b0 44 v) (h : DataW.Trod enc Tryz.prog w base spare held 44 v d ps) :
    ∃ (vw : Vw) (d' : VAd) (arr : Array Value), v = .agg arr ∧ vw.At d' arr ∧ (Rows.uptoBulk d ≤ 4000000000 → vw.ok w d') ∧ (Rows.uptoBulk d ≤ 4000000000 → vw.rng) := by
  obtain ⟨vw, d', arr, rfl, hA, hok⟩ := open_viewT hv h
  exact ⟨vw, d', arr, rfl, hA, hok, fun hb => view_rng h hA (hok hb).ents (hok hb).ents2⟩
set_option maxRecDepth 100000 in
theorem open_strT {r : Reach} {b0 : Nat} {v : Value} {d : DataW H} {ps : List MemPlace} (hv : Value.okWide Tryz.prog w r b0 9 v) (h : DataW.Trod enc Tryz.prog w base spare held 9 v d ps) : ∃ s : List UInt8, v = .string ⟨s.toArray⟩ ∧ s.length ≤ Rows.uptoBulk d := by
  obtain ⟨s, rfl, rfl, rfl, _⟩ := Go.ChangeMaps.open_string Tryz.underlying9 hv h
  exact ⟨s.data.toList, by simp, by simp [Rows.uptoBulk]⟩
set_option maxRecDepth 100000 in
theorem open_u8T {r : Reach} {b0 : Nat} {t : TypeId} {v : Value} {d : DataW H} {ps : List MemPlace} (ht : Tryz.prog.underlying t = some (.int .u8)) (hv : Value.okWide Tryz.prog w r b0 t v) (h : DataW.Trod enc Tryz.prog w base spare held t v d ps) : ∃ n : Int, v = .int .u8 n ∧ 0 ≤ n ∧ n ≤ 255 := by
  obtain ⟨n, rfl, _, _, wf⟩ := Go.ChangeShapes.open_int ht hv h
  exact ⟨n, rfl, Go.bounds_u8 wf⟩
set_option maxRecDepth 100000 in
theorem open_termR {r : Reach} {b0 : Nat} {v : Value} {d : DataW H} {ps : List MemPlace} (hv : Value.okWide Tryz.prog w r b0 23 v) (h : DataW.Trod enc Tryz.prog w base spare held 23 v d ps) :
    ∃ t : Term, v = t.val ∧ t.pad.length ≤ Rows.uptoBulk d ∧ i64 t.first := by
  obtain ⟨t, rfl, hb⟩ := open_termT hv h
  refine ⟨t, rfl, hb, ?_⟩
  obtain ⟨fuel, hf⟩ := h
  obtain ⟨xs, n, _, hx, hlen, hxl, hf⟩ := DataW.trod_struct Tryz.underlying23 hf
  obtain ⟨y0, y1, y2, rfl⟩ := list3 hxl
  have g := fld hf 1 3 1 1 rfl cells_int
  have hvc : (Value.agg t.arr).cells.toList = t.arr.toList := rfl
  rw [hvc, show ((t.arr.toList.drop 1).take 1) = [.int .i64 t.first] from rfl] at g
  simp only [List.getElem?_cons_succ, List.getElem?_cons_zero] at g
  exact bounds_i64 (int_wf Tryz.underlying3 g)
end
end Go.Proofs.YtijfmfdnagjlpaaGreatDoor
namespace Go.Proofs.YtijfmfdnagjlpaaGreatDoor
open Go.RowKit Go.ChangeShapes Go.WideShapes Go.Deep
set_option linter.unusedVariables false
set_option linter.unusedSimpArgs false
set_option maxRecDepth 100000
/-- The slice at A holds the bytes l. -/
structure Rb (w : World) (A : Option Addr) (l : List UInt8) : Prop where
  at_ : l ≠ [] → ∃ b o, A = some ⟨b, o, none⟩ ∧ b < w.heap.size ∧ ∀ i c, l[i]? = some c → w.cell? ⟨b, o + i, none⟩ = some (.int .u8 c.toNat)
theorem Rb.stays {w w' : World} {A : Option Addr} {l : List UInt8} (h : Rb w A l) (hb : Below w.heap.size w w') : Rb w' A l where
  at_ hne := by
    obtain ⟨b, o, rfl, hlt, hc⟩ := h.at_ hne
    exact ⟨b, o, rfl, Nat.lt_of_lt_of_le hlt hb.size, fun i s hs => by rw [hb.cell (p := ⟨b, _, none⟩) hlt]; exact hc i s hs⟩
section
variable {H : Type} {enc : TypeId × Value → H} {w : World} {base : Nat} {spare : Nat → Bool} {held : Bool}
theorem open_byteC {fuel : Nat} {cs : List Value} {y : DataW H × List MemPlace} (h : DataW.trod enc Tryz.prog w base spare held fuel 5 cs = some y) : ∃ c : UInt8, cs = (#[.int .u8 c.toNat] : Array Value).toList ∧ True := by
  obtain ⟨n, e, _, hw⟩ := DataW.trod_int Tryz.underlying5 h
  obtain ⟨h0, h1⟩ := Go.bounds_u8 hw
  refine ⟨UInt8.ofNat n.toNat, ?_, trivial⟩
  have : ((UInt8.ofNat n.toNat).toNat : Int) = n := by
    rw [UInt8.toNat_ofNat', Nat.mod_eq_of_lt (by omega)]; omega
  rw [e, this]
theorem open_bytesR {r : Reach} {b0 : Nat} {v : Value} {d : DataW H} {ps : List MemPlace} (hv : Value.okWide Tryz.prog w r b0 55 v) (h : DataW.Trod enc Tryz.prog w base spare held 55 v d ps) :
    ∃ (l : List UInt8) (A : Option Addr) (c : Nat), v = .slice A l.length c ∧ l.length ≤ c ∧ c ≤ maxLen ∧ Rb w A l ∧ l.length ≤ Rows.uptoBulk d := by
  obtain ⟨fuel, hf⟩ := h
  obtain ⟨a0, l0, c0, rfl⟩ := okWide_slice Tryz.underlying55 hv
  have hc1 : (Value.slice a0 l0 c0).cells.toList = [.slice a0 l0 c0] := rfl
  rw [hc1] at hf
  obtain ⟨l, A, c, h1, h2, h3, h4, h5, h6⟩ := open_items (fun c : UInt8 => (#[.int .u8 c.toNat] : Array Value)) (fun _ _ => True) (fun _ _ _ _ _ => trivial) Tryz.underlying55 cells_u8 (by decide) (fun x => rfl) (fun h => open_byteC h) hf
  refine ⟨l, A, c, h1, h2, h3, ⟨fun hne => ?_⟩, h5⟩
  obtain ⟨b, o, hA, hb, hc⟩ := h4.at_ (by simpa using hne)
  refine ⟨b, o, hA, hb, fun i s hs => ?_⟩
  have := hc i #[.int .u8 s.toNat] (by rw [List.getElem?_map, hs]; rfl) 0 (by omega)
  rw [Nat.mul_one, Nat.add_zero] at this
  exact this
end
end Go.Proofs.YtijfmfdnagjlpaaGreatDoor
