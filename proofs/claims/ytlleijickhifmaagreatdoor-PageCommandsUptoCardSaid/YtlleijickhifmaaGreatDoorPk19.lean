/- Layer 58: the lines of the progress page. -/
import Derived.Test.YtlleijickhifmaaGreatDoorPk18
import Derived.Test.YtlleijickhifmaaGreatDoorPk17
import Derived.Test.YtlleijickhifmaaGreatDoorPk07
namespace Go.Proofs.YtlleijickhifmaaGreatDoor
open Go.RowKit Go.Sort
set_option linter.unusedVariables false
set_option linter.unusedSimpArgs false
structure Esm where
  px : Int
  py : Int
  lx : Int
  ly : Int
  usable : Bool
  excluded : Int

def Esm.arr (x : Esm) : Array Value := #[.int .i64 x.px, .int .i64 x.py, .int .i64 x.lx, .int .i64 x.ly, .bool x.usable, .int .i64 x.excluded]
abbrev Esm.val (x : Esm) : Value := .agg x.arr
theorem Esm.arr_size (x : Esm) : x.arr.size = 6 := rfl
theorem Esm.arr_sz (x : Esm) : x.arr.size = 6 := by simp [Esm.arr]
theorem Esm.arr_one (x : Esm) : x.arr.all (·.oneCell') = true := by simp [Esm.arr, Value.oneCell']
theorem Esm.arr0 (x : Esm) : x.arr[0]? = some (.int .i64 x.px) := rfl
theorem Esm.arr1 (x : Esm) : x.arr[1]? = some (.int .i64 x.py) := rfl
theorem Esm.arr2 (x : Esm) : x.arr[2]? = some (.int .i64 x.lx) := rfl
theorem Esm.arr3 (x : Esm) : x.arr[3]? = some (.int .i64 x.ly) := rfl
theorem Esm.arr4 (x : Esm) : x.arr[4]? = some (.bool x.usable) := rfl
theorem Esm.arr5 (x : Esm) : x.arr[5]? = some (.int .i64 x.excluded) := rfl
attribute [go_sem] Esm.arr0 Esm.arr1 Esm.arr2 Esm.arr3 Esm.arr4 Esm.arr5
def Esm.eqB (a b : Esm) : Bool := decide (a.px = b.px) && (decide (a.py = b.py) && (decide (a.lx = b.lx) && (decide (a.ly = b.ly) && (decide (a.usable = b.usable) && (decide (a.excluded = b.excluded))))))
theorem Esm.eqB_iff (a b : Esm) : a.eqB b = true ↔ a = b := by
  obtain ⟨_, _, _, _, _, _⟩ := a
  obtain ⟨_, _, _, _, _, _⟩ := b
  simp [Esm.eqB]
set_option maxHeartbeats 1000000 in
set_option maxRecDepth 100000 in
theorem run_eq_esm (d : Nat) (a b : Esm) (w : World) : (Op.equalIn (d + 3) 30 (.agg a.arr) (.agg b.arr)).run Tryz.prog w = .ok (a.eqB b) w := by
  unfold Esm.arr
  simp [go_sem]
  simp only [ite_ok, Bool.and_true]
  rfl
theorem run_neq_esm (a b : Esm) (w : World) : (binOp .neq 30 (.agg a.arr) (.agg b.arr)).run Tryz.prog w = .ok (.bool (!a.eqB b)) w := by
  simp only [binOp]
  simp [Op.equal, Op.maxDepth, run_eq_esm 9997]
theorem run_eql_esm (a b : Esm) (w : World) : (binOp .eql 30 (.agg a.arr) (.agg b.arr)).run Tryz.prog w = .ok (.bool (a.eqB b)) w := by
  simp only [binOp]
  simp [Op.equal, Op.maxDepth, run_eq_esm 9997]
theorem info_esm : (Tryz.prog.info? 30).map (·.size) = some 6 := by kernel_rfl
def Is_esm (w : World) (b o : Nat) (x : Esm) : Prop := ∀ j, j < 6 → w.cell? ⟨b, o + j, none⟩ = x.arr[j]?
def Has_esm (w : World) (b o : Nat) : Prop := ∃ x, Is_esm w b o x
theorem Esm.arr_inj {x y : Esm} (h : ∀ j, j < 6 → x.arr[j]? = y.arr[j]?) : x = y := by
  refine (Esm.eqB_iff x y).1 ?_
  have hh : ∀ j, j < 6 → x.arr[j]? = y.arr[j]? := h
  have e0 := h 0 (by omega)
  have e1 := h 1 (by omega)
  have e2 := h 2 (by omega)
  have e3 := h 3 (by omega)
  have e4 := h 4 (by omega)
  have e5 := h 5 (by omega)
  simp [Esm.arr0, Esm.arr1, Esm.arr2, Esm.arr3, Esm.arr4, Esm.arr5] at e0 e1 e2 e3 e4 e5
  simp [Esm.eqB, *]
open Classical in
noncomputable def of_esm (w : World) (b o : Nat) : Esm := if h : Has_esm w b o then h.choose else ⟨0, 0, 0, 0, false, 0⟩
theorem of_esm_spec {w : World} {b o : Nat} (h : Has_esm w b o) : Is_esm w b o (of_esm w b o) := by
  unfold of_esm
  rw [dif_pos h]
  exact h.choose_spec
theorem of_esm_eq {w : World} {b o : Nat} {x : Esm} (h : Is_esm w b o x) : of_esm w b o = x :=
  Esm.arr_inj fun j hj => (of_esm_spec ⟨x, h⟩ j hj).symm.trans (h j hj)
theorem Has_esm_drewN (w : World) (b o n : Nat) : Has_esm (w.drewN n) b o = Has_esm w b o := propext ⟨fun h => h, fun h => h⟩
theorem of_esm_drewN (w : World) (b o n : Nat) : of_esm (w.drewN n) b o = of_esm w b o := rfl
theorem Is_esm.below {w w' : World} {B b o : Nat} {x : Esm} (h : Is_esm w b o x) (hb : Below B w w') (hlt : b < B) : Is_esm w' b o x := fun j hj => by rw [hb.cell (p := ⟨b, _, none⟩) hlt]; exact h j hj
theorem Is_esm_new (w : World) (x : Esm) (t : TypeId) : Is_esm (w.alloc (.cells x.arr t)) w.heap.size 0 x := fun j _ => by rw [Nat.zero_add]; exact cell_of_row _ _ j x.arr t (0, 0) (heap_alloc_new w _)
theorem Has_esm_new (w : World) (x : Esm) (t : TypeId) : Has_esm (w.alloc (.cells x.arr t)) w.heap.size 0 = True := eq_true ⟨x, Is_esm_new w x t⟩
theorem of_esm_new (w : World) (x : Esm) (t : TypeId) : of_esm (w.alloc (.cells x.arr t)) w.heap.size 0 = x := of_esm_eq (Is_esm_new w x t)
theorem Has_esm_alloc (w : World) (b o : Nat) (ob : Obj) (h : b < w.heap.size) : Has_esm (w.alloc ob) b o = Has_esm w b o := by
  have e : ∀ j, (w.alloc ob).cell? ⟨b, o + j, none⟩ = w.cell? ⟨b, o + j, none⟩ := fun j => World.cell?_alloc_lt w ob ⟨b, o + j, none⟩ h
  simp only [Has_esm, Is_esm, e]
theorem of_esm_alloc (w : World) (b o : Nat) (ob : Obj) (h : b < w.heap.size) (hh : Has_esm w b o) : of_esm (w.alloc ob) b o = of_esm w b o :=
  of_esm_eq fun j hj => by rw [World.cell?_alloc_lt w ob ⟨b, o + j, none⟩ h]; exact of_esm_spec hh j hj
def load_esm (v : Value) : Sem Value := Instr.loadAt 30 v
theorem load_esm_fold (v : Value) : Instr.loadAt 30 v = load_esm v := rfl
theorem run_load_esm (w : World) (b o : Nat) (h : Has_esm w b o) : (load_esm (.pointer (some ⟨b, o, none⟩))).run Tryz.prog w = .ok (.agg (of_esm w b o).arr) w := by
  have hs := of_esm_spec h
  generalize of_esm w b o = x at hs
  have := run_load_agg (P := Tryz.prog) w ⟨b, o, none⟩ 30 x.arr.toList _ (fun j v hv => by
    rw [addr_add, hs j (by have := (List.getElem?_eq_some_iff.1 hv).1; simpa [Esm.arr_size] using this)]
    simpa using hv) Tryz.underlying30 rfl info_esm
  simp only [load_esm, Instr.loadAt, Instr.sureAddr, Sem.run_bind, Sem.run_pure, Result.andThen_ok]
  simpa using this
def store_esm (p v : Value) : Sem Unit := Instr.storeAt 30 p v
theorem store_esm_fold (p v : Value) : Instr.storeAt 30 p v = store_esm p v := rfl
theorem run_store_esm (w : World) (c c' : Array Value) (hc : c.size = 6) (hc' : c'.size = 6) (h1 : c'.all (·.oneCell') = true) :
    (store_esm (.pointer (some ⟨w.heap.size, 0, none⟩)) (.agg c')).run Tryz.prog (w.alloc (.cells c 30)) = .ok () (w.alloc (.cells c' 30)) :=
  run_storeAt_new (P := Tryz.prog) w 30 c c' (by rw [hc']; exact info_esm) (by rw [hc, hc']) h1
attribute [go_sem ↓] load_esm_fold store_esm_fold
attribute [go_sem] run_load_esm run_store_esm Has_esm_drewN of_esm_drewN Has_esm_new of_esm_new Has_esm_alloc of_esm_alloc
theorem run_storeN_esm (w : World) (c c' : Array Value) (hc : SzIs c 6) (hc' : SzIs c' 6) (h1 : Ones c') :
    (store_esm (.pointer (some ⟨w.heap.size, 0, none⟩)) (.agg c')).run Tryz.prog (w.alloc (.cells c 30)) = .ok () (w.alloc (.cells c' 30)) :=
  run_storeAt_new (P := Tryz.prog) w 30 c c' (by rw [show c'.size = 6 from hc']; exact info_esm) (by rw [show c'.size = 6 from hc', show c.size = 6 from hc]) (Array.all_eq_true_iff_forall_mem.2 fun v hv => (List.all_eq_true.1 (show c'.toList.all (·.oneCell') = true from h1)) v (by simpa using hv))
theorem SzIs_esm (t : Esm) (n : Nat) : SzIs t.arr n = (6 = n) := propext ⟨fun h => h, fun h => h⟩
theorem Ones_esm (t : Esm) : Ones t.arr = True := eq_true (by simp [Ones, Esm.arr, Value.oneCell'])
attribute [local go_sem] run_storeN_esm SzIs_esm Ones_esm ba_append
/-- The numbers that the pages print are of 64 bits; the modes are bytes. -/
structure Vw.rng (v : Vw) : Prop where
  act : v.active.rng
  tmp : v.temp.rng
  px : i64 v.px
  py : i64 v.py
  lx : i64 v.lx
  ly : i64 v.ly
  excluded : i64 v.excluded
  required : i64 v.required
  bank : i64 v.bank
  last : i64 v.last
  lat : 0 ≤ v.lat ∧ v.lat ≤ 255
  vert : 0 ≤ v.vert ∧ v.vert ≤ 255
  phase : 0 ≤ v.phase ∧ v.phase ≤ 255
def toE (p : Plan) : List UInt8 := if 0 ≤ p.active then (match p.es[p.active.toNat]? with | some x => x.leg.fix | none => []) else []
def exS (v : Vw) : List UInt8 := if v.excluded = 0 then [78, 79, 78, 69] else Lib.itoa v.excluded
def usS (v : Vw) : List UInt8 := if v.usable then [89, 69, 83] else [78, 79]
theorem toS_eq (v : Vw) : toS v = toE v.active := rfl
theorem toE_in {p : Plan} {k : Nat} (h : p.active = k) (hk : k < p.es.length) : toE p = p.es[k].leg.fix := by
  unfold toE; rw [if_pos (by omega), h, Int.toNat_natCast, List.getElem?_eq_getElem hk]
theorem toE_neg {p : Plan} (h : ¬ 0 ≤ p.active) : toE p = [] := by unfold toE; rw [if_neg h]
theorem toE_out {p : Plan} (h : 0 ≤ p.active) (hk : ¬ p.active < p.es.length) : toE p = [] := by
  unfold toE; rw [if_pos h, List.getElem?_eq_none (by omega)]
theorem distT_len (d : Int) : (distT d).1.length ≤ 100 := by
  by_cases h : 0 ≤ d ∧ d ≤ 8000000
  · rw [distT_in h]
    have := distS_len (d := d.toNat) (by omega)
    simp only; omega
  · rw [distT_out h]; simp
theorem altT_len (a : Int) : (altT a).1.length ≤ 100 := by
  by_cases h : -200000 ≤ a ∧ a ≤ 6000000
  · rw [altT_in h]
    have := altS_len h.1 h.2
    simp only; omega
  · rw [altT_out h]; simp
theorem Vw.At.is_esm {v : Vw} {d : VAd} {arr : Array Value} (h : v.At d arr) {W : World} {g : Nat} (hb : Blk W g arr) : Is_esm W g 9 ⟨v.px, v.py, v.lx, v.ly, v.usable, v.excluded⟩ := by
  intro j hj
  rw [hb.cell]
  match j, hj with
  | 0, _ => exact h.px
  | 1, _ => exact h.py
  | 2, _ => exact h.lx
  | 3, _ => exact h.ly
  | 4, _ => exact h.usable
  | 5, _ => exact h.excluded
set_option maxHeartbeats 4000000 in
set_option maxRecDepth 100000 in
theorem progress_any (v : Vw) (d : VAd) (arr : Array Value) (hv : v.At d arr) (hr : v.rng) (w : World) (hL : Laid w) (hok : v.ok w d) : Calls Tryz.prog 21 #[.agg arr] w (RetStrs w (progressS v)) := by
  obtain ⟨tw, hto⟩ : ∃ tw, toS v = tw := ⟨_, rfl⟩
  obtain ⟨le, hle⟩ : ∃ le, distT v.left = le := ⟨_, rfl⟩
  obtain ⟨al, hal⟩ : ∃ al, altT v.talt = al := ⟨_, rfl⟩
  obtain ⟨us, hus⟩ : ∃ us, usS v = us := ⟨_, rfl⟩
  obtain ⟨ex, hex⟩ : ∃ ex, exS v = ex := ⟨_, rfl⟩
  have hfin : progressS v = [lineS [84, 79] tw, lineS [76, 69, 70, 84] le.1, lineS [88] (Lib.itoa v.px), lineS [89] (Lib.itoa v.py), lineS [76, 69, 86, 69, 76, 83] (Lib.itoa v.lx ++ [32] ++ Lib.itoa v.ly), lineS [82, 69, 81, 85, 73, 82, 69, 68] (Lib.itoa v.required),
      lineS [85, 83, 65, 66, 76, 69] us, lineS [69, 88, 67, 76, 85, 68, 69, 68] ex, lineS [66, 65, 78, 75] (Lib.itoa v.bank), lineS [65, 76, 84] al.1] := by
    rw [← hto, ← hle, ← hal, ← hus, ← hex]; rfl
  have l2 : le.1.length ≤ 100 := hle ▸ distT_len v.left
  have l3 : al.1.length ≤ 100 := hal ▸ altT_len v.talt
  have HD := Lib.hid (fun w h => distText_any v.left w h)
  have HA := Lib.hid (fun w h => altText_any v.talt w h)
  rw [hle] at HD
  rw [hal] at HA
  obtain ⟨le, le2⟩ := le
  obtain ⟨al, al2⟩ := al
  have Hfin := Lib.hid hfin
  have Hto := Lib.hid hto
  have Hus := Lib.hid hus
  have Hex := Lib.hid hex
  clear hle hal hfin hto hus hex
  have hsm := hok.active
  have hE := hok.ents
  have hcap := hok.cap
  go_enter Tryz.func21, Tryz.ntmps21
  go_upto_region 1 with (fail)
  generalize hW : w.alloc _ = W
  have X0 : Blk W w.heap.size arr := by rw [← hW]; exact Blk.new w arr _
  have B0 : Below w.heap.size w W := by rw [← hW]; go_grown
  clear hW
  generalize w.heap.size = g at X0
  have x0 := X0.cell
  have e2 := hv.active 2 (by omega)
  have e3 := hv.active 3 (by omega)
  rw [Plan.arr2] at e2
  rw [Plan.arr3] at e3
  rw [Nat.zero_add] at e2 e3
  have hL1 := hL.below B0
  go_upto_region 3 with (fail)
  obtain ⟨tb, htb⟩ : ∃ tb, (decide (0 ≤ v.active.active) && decide (v.active.active < v.active.es.length)) = tb := ⟨_, rfl⟩
  have Htb := Lib.hid htb
  clear htb
  go_cut [24] (fun s wx => s = .bool tb ∧ wx = W)
  case first =>
    by_cases h0 : 0 ≤ v.active.active
    · by_cases h1 : v.active.active < (v.active.es.length : Int)
      · go_wp2
        go_meet
        exact ⟨by rw [← Htb.out]; simp [h0, h1], rfl⟩
      · go_wp2
        go_meet
        exact ⟨by rw [← Htb.out]; simp [h0, h1], rfl⟩
    · go_wp2
      go_meet
      exact ⟨by rw [← Htb.out]; simp; omega, rfl⟩
  case rest =>
    obtain ⟨rfl, rfl⟩ := hcut
    go_upto_if 24 with (fail)
    go_cut [3, 4] (fun s _ wx => s = .string ⟨tw.toArray⟩ ∧ wx = wc ∧ tw.length ≤ 4000000000)
    case first =>
      have ht := Hto.out
      rw [toS_eq] at ht
      have hb := Htb.out
      cases tb
      · have HT := Lib.hid (show ([] : List UInt8) = tw by
          rw [← ht]
          by_cases h0 : 0 ≤ v.active.active
          · rw [toE_out h0 (by intro h1; simp [h0, h1] at hb)]
          · rw [toE_neg h0])
        clear ht hb
        go_wp2
        go_meet
        exact ⟨by rw [← HT.out], rfl, by rw [← HT.out]; simp⟩
      · simp only [Bool.and_eq_true, decide_eq_true_iff] at hb
        obtain ⟨h0, h1⟩ := hb
        obtain ⟨k, hk⟩ : ∃ k : Nat, v.active.active = k := ⟨v.active.active.toNat, by omega⟩
        have hkl : k < v.active.es.length := by omega
        obtain ⟨b, o, hA, hb, hc⟩ := hE.get hkl
        rw [hA] at e2
        have hsx := (hsm.each _ (List.getElem_mem hkl)).leg.fix
        have HT := Lib.hid (show v.active.es[k].leg.fix = tw by rw [← ht, toE_in hk hkl])
        have c1 := hc 2 (by omega)
        rw [Entry.arr2] at c1
        generalize v.active.es[k] = x at *
        have c2 : wc.cell? ⟨b, o + k * 20 + 2, none⟩ = some (.string ⟨x.leg.fix.toArray⟩) := by rw [B0.cell (p := ⟨b, _, none⟩) hb]; exact c1
        rw [hk] at e3
        clear c1 hc ht
        go_wp2
        go_meet
        exact ⟨by rw [← HT.out], rfl, by rw [← HT.out]; exact hsx⟩
    case rest =>
      obtain ⟨rfl, rfl, ltw⟩ := hcut
      have hus0 := Hus.out
      have hex0 := Hex.out
      unfold usS at hus0
      unfold exS at hex0
      have e13 := hv.usable
      have e14 := hv.excluded
      have e19 := hv.left
      have e30 := hv.talt
      clear Hto hsm hE hcap e2 e3 Htb
      go_upto_if 41 with (go_at_call 41; (with_reducible refine callRB (HD.out _ hL1) ?_); intro w1 B1; have x1 := (X0.step B1).cell)
      have X1 := X0.step B1
      have C1 := below_step B0 B1
      have L1 := hL1.below B1
      clear X0 B0 hL1 B1 x0 HD
      go_cut [7] (fun s wx => s = .string ⟨us.toArray⟩ ∧ wx = w1 ∧ us.length ≤ 3)
      case first =>
        cases hu : v.usable
        · rw [hu] at hus0 e13
          simp only [Bool.false_eq_true, if_false] at hus0
          have HH := Lib.hid hus0
          clear hus0
          go_wp2
          go_meet
          exact ⟨by rw [← HH.out], rfl, by rw [← HH.out]; decide⟩
        · rw [hu] at hus0 e13
          simp only [if_true] at hus0
          have HH := Lib.hid hus0
          clear hus0
          go_wp2
          go_meet
          exact ⟨by rw [← HH.out], rfl, by rw [← HH.out]; decide⟩
      case rest =>
        obtain ⟨rfl, rfl, lus⟩ := hcut
        clear hus0
        go_upto_if 45 with (fail)
        go_cut [8] (fun s wx => s = .string ⟨ex.toArray⟩ ∧ Below wc.heap.size wc wx ∧ ex.length ≤ 100)
        case first =>
          by_cases ha : v.excluded = 0
          · rw [if_pos ha] at hex0
            have HH := Lib.hid hex0
            rw [ha] at e14
            clear hex0
            go_wp2
            go_meet
            exact ⟨by rw [← HH.out], Below.refl _ _, by rw [← HH.out]; decide⟩
          · rw [if_neg ha] at hex0
            have HI := Lib.hid (itoa_any v.excluded hr.excluded.1 hr.excluded.2 wc L1)
            have hil := itoa_len v.excluded hr.excluded.1 hr.excluded.2
            have HH := Lib.hid hex0
            have hab : (v.excluded != 0) = true := by simpa using ha
            generalize Lib.itoa v.excluded = it at *
            clear hex0 ha
            go_wp2_with (go_at_call 23; (with_reducible refine callRB HI.out ?_); intro w6 B6)
            go_meet
            exact ⟨by rw [← HH.out], B6, by rw [← HH.out]; omega⟩
        case rest =>
          obtain ⟨rfl, B6, lex⟩ := hcut
          have X2 := X1.step B6
          have C2 := below_step C1 B6
          have L2 := L1.below B6
          have x2 := X2.cell
          clear X1 C1 L1 B6 x1 hex0
          go_upto_region 13 with (go_at_call 42; (with_reducible refine callRB (HA.out _ L2) ?_); intro w7 B7; have x3 := (X2.step B7).cell; have ce3 : Has_esm w7 g 9 := ⟨_, hv.is_esm (X2.step B7)⟩; have ce4 : of_esm w7 g 9 = ⟨v.px, v.py, v.lx, v.ly, v.usable, v.excluded⟩ := of_esm_eq (hv.is_esm (X2.step B7)))
          have Z3 : Blk (w7.alloc (.cells (Esm.arr ⟨v.px, v.py, v.lx, v.ly, v.usable, v.excluded⟩) 30)) w7.heap.size (Esm.arr ⟨v.px, v.py, v.lx, v.ly, v.usable, v.excluded⟩) := Blk.new _ _ _
          have Z4 := (X2.step B7).alloc (.cells (Esm.arr ⟨v.px, v.py, v.lx, v.ly, v.usable, v.excluded⟩) 30)
          have Z5 := below_step (below_step C2 B7) ((Below.refl _ _).alloc (Nat.le_refl _) (.cells (Esm.arr ⟨v.px, v.py, v.lx, v.ly, v.usable, v.excluded⟩) 30))
          have Z6 := (L2.below B7).below ((Below.refl _ _).alloc (Nat.le_refl _) (.cells (Esm.arr ⟨v.px, v.py, v.lx, v.ly, v.usable, v.excluded⟩) 30))
          clear x3 ce3 ce4 X2 C2 L2 B7 x2 HA
          generalize w7.alloc _ = W3 at Z3 Z4 Z5 Z6 ⊢
          generalize w7.heap.size = ge at Z3 ⊢
          have N_px := fun w h => pnumber_any v.px hr.px.1 hr.px.2 w h
          have len_px := itoa_len v.px hr.px.1 hr.px.2
          have N_py := fun w h => pnumber_any v.py hr.py.1 hr.py.2 w h
          have len_py := itoa_len v.py hr.py.1 hr.py.2
          have N_lx := fun w h => pnumber_any v.lx hr.lx.1 hr.lx.2 w h
          have len_lx := itoa_len v.lx hr.lx.1 hr.lx.2
          have N_ly := fun w h => pnumber_any v.ly hr.ly.1 hr.ly.2 w h
          have len_ly := itoa_len v.ly hr.ly.1 hr.ly.2
          have N_req := fun w h => pnumber_any v.required hr.required.1 hr.required.2 w h
          have len_req := itoa_len v.required hr.required.1 hr.required.2
          have N_bk := fun w h => pnumber_any v.bank hr.bank.1 hr.bank.2 w h
          have len_bk := itoa_len v.bank hr.bank.1 hr.bank.2
          have Hf := Hfin.out
          clear Hfin
          generalize hi_px : Lib.itoa v.px = i_px at N_px len_px Hf
          generalize hi_py : Lib.itoa v.py = i_py at N_py len_py Hf
          generalize hi_lx : Lib.itoa v.lx = i_lx at N_lx len_lx Hf
          generalize hi_ly : Lib.itoa v.ly = i_ly at N_ly len_ly Hf
          generalize hi_req : Lib.itoa v.required = i_req at N_req len_req Hf
          generalize hi_bk : Lib.itoa v.bank = i_bk at N_bk len_bk Hf
          have M0 := fun w => line_any [84, 79] tw w (by decide) (by omega)
          have M1 := fun w => line_any [76, 69, 70, 84] le w (by decide) (by omega)
          have M2 := fun w => line_any [88] i_px w (by decide) (by omega)
          have M3 := fun w => line_any [89] i_py w (by decide) (by omega)
          have M4 := fun w => line_any [76, 69, 86, 69, 76, 83] (i_lx ++ [32] ++ i_ly) w (by decide) (by simp; omega)
          have M5 := fun w => line_any [82, 69, 81, 85, 73, 82, 69, 68] i_req w (by decide) (by omega)
          have M6 := fun w => line_any [85, 83, 65, 66, 76, 69] us w (by decide) (by omega)
          have M7 := fun w => line_any [69, 88, 67, 76, 85, 68, 69, 68] ex w (by decide) (by omega)
          have M8 := fun w => line_any [66, 65, 78, 75] i_bk w (by decide) (by omega)
          have M9 := fun w => line_any [65, 76, 84] al w (by decide) (by omega)
          generalize lineS [84, 79] tw = m0 at M0 Hf
          generalize lineS [76, 69, 70, 84] le = m1 at M1 Hf
          generalize lineS [88] i_px = m2 at M2 Hf
          generalize lineS [89] i_py = m3 at M3 Hf
          generalize lineS [76, 69, 86, 69, 76, 83] (i_lx ++ [32] ++ i_ly) = m4 at M4 Hf
          generalize lineS [82, 69, 81, 85, 73, 82, 69, 68] i_req = m5 at M5 Hf
          generalize lineS [85, 83, 65, 66, 76, 69] us = m6 at M6 Hf
          generalize lineS [69, 88, 67, 76, 85, 68, 69, 68] ex = m7 at M7 Hf
          generalize lineS [66, 65, 78, 75] i_bk = m8 at M8 Hf
          generalize lineS [65, 76, 84] al = m9 at M9 Hf
          have Hfin := Lib.hid Hf
          clear Hf hi_px hi_py hi_lx hi_ly hi_req hi_bk
          have bg := fun d' os => below_regrown W3 d' os
          have k0 : ∀ d' os, (grow (redrawn W3 d') os).cell? ⟨ge, 0, none⟩ = some (.int .i64 v.px) := fun d' os => (Z3.step (bg d' os)).cell 0
          have k1 : ∀ d' os, (grow (redrawn W3 d') os).cell? ⟨ge, 1, none⟩ = some (.int .i64 v.py) := fun d' os => (Z3.step (bg d' os)).cell 1
          have k2 : ∀ d' os, (grow (redrawn W3 d') os).cell? ⟨ge, 2, none⟩ = some (.int .i64 v.lx) := fun d' os => (Z3.step (bg d' os)).cell 2
          have k3 : ∀ d' os, (grow (redrawn W3 d') os).cell? ⟨ge, 3, none⟩ = some (.int .i64 v.ly) := fun d' os => (Z3.step (bg d' os)).cell 3
          have k15 : ∀ d' os, (grow (redrawn W3 d') os).cell? ⟨g, 15, none⟩ = some (.int .i64 v.required) := fun d' os => ((Z4.step (bg d' os)).cell 15).trans hv.required
          have k28 : ∀ d' os, (grow (redrawn W3 d') os).cell? ⟨g, 28, none⟩ = some (.int .i64 v.bank) := fun d' os => ((Z4.step (bg d' os)).cell 28).trans hv.bank
          have c_px := fun d' os => Calls.regrown_ret (N_px (grow (redrawn W3 d') os) (Z6.below (bg d' os)))
          have c_py := fun d' os => Calls.regrown_ret (N_py (grow (redrawn W3 d') os) (Z6.below (bg d' os)))
          have c_lx := fun d' os => Calls.regrown_ret (N_lx (grow (redrawn W3 d') os) (Z6.below (bg d' os)))
          have c_ly := fun d' os => Calls.regrown_ret (N_ly (grow (redrawn W3 d') os) (Z6.below (bg d' os)))
          have c_req := fun d' os => Calls.regrown_ret (N_req (grow (redrawn W3 d') os) (Z6.below (bg d' os)))
          have c_bk := fun d' os => Calls.regrown_ret (N_bk (grow (redrawn W3 d') os) (Z6.below (bg d' os)))
          have d0 := fun d' os => Calls.regrown_ret (M0 (grow (redrawn W3 d') os))
          have d1 := fun d' os => Calls.regrown_ret (M1 (grow (redrawn W3 d') os))
          have d2 := fun d' os => Calls.regrown_ret (M2 (grow (redrawn W3 d') os))
          have d3 := fun d' os => Calls.regrown_ret (M3 (grow (redrawn W3 d') os))
          have d4 := fun d' os => Calls.regrown_ret (M4 (grow (redrawn W3 d') os))
          have d5 := fun d' os => Calls.regrown_ret (M5 (grow (redrawn W3 d') os))
          have d6 := fun d' os => Calls.regrown_ret (M6 (grow (redrawn W3 d') os))
          have d7 := fun d' os => Calls.regrown_ret (M7 (grow (redrawn W3 d') os))
          have d8 := fun d' os => Calls.regrown_ret (M8 (grow (redrawn W3 d') os))
          have d9 := fun d' os => Calls.regrown_ret (M9 (grow (redrawn W3 d') os))
          have f1 : i_lx ++ [32] ++ i_ly = i_lx ++ 32 :: i_ly := by simp
          have f2 : i_lx ++ [32] ++ i_ly = i_lx ++ ([32] ++ i_ly) := by simp
          have d4b := d4
          rw [f1] at d4b
          have d4c := d4
          rw [f2] at d4c
          clear f1 f2
          have b1 : ¬ 9223372036854775807 < ((i_lx.length + 1 : Nat) : Int) := by omega
          have b4 : ¬ 9223372036854775807 < (i_lx.length : Int) + 1 := by omega
          have b5 : ¬ 9223372036854775807 < (i_lx.length : Int) + 1 + (i_ly.length : Int) := by omega
          have b2 : ¬ 9223372036854775807 < ((i_lx.length + 1 + i_ly.length : Nat) : Int) := by omega
          have b3 : ¬ 9223372036854775807 < ((i_lx.length + (1 + i_ly.length) : Nat) : Int) := by omega
          clear N_px len_px N_py len_py N_lx len_lx N_ly len_ly N_req len_req N_bk len_bk M0 M1 M2 M3 M4 M5 M6 M7 M8 M9 hL hok hr e13 e14 e19 e30
          refine wp_region_tail_below 38 (by kernel_rfl) (by kernel_rfl) ?_
          simp only [List.take_succ_cons, List.take_zero, List.drop_succ_cons, List.drop_zero]
          repeat (first | go_big_quiet_step (with_reducible first | exact c_px _ _ | exact c_py _ _ | exact c_lx _ _ | exact c_ly _ _ | exact c_req _ _ | exact c_bk _ _ | exact d0 _ _ | exact d1 _ _ | exact d2 _ _ | exact d3 _ _ | exact d4 _ _ | exact d4b _ _ | exact d4c _ _ | exact d5 _ _ | exact d6 _ _ | exact d7 _ _ | exact d8 _ _ | exact d9 _ _) | quiet_step (with_reducible first | exact c_px _ _ | exact c_py _ _ | exact c_lx _ _ | exact c_ly _ _ | exact c_req _ _ | exact c_bk _ _ | exact d0 _ _ | exact d1 _ _ | exact d2 _ _ | exact d3 _ _ | exact d4 _ _ | exact d4b _ _ | exact d4c _ _ | exact d5 _ _ | exact d6 _ _ | exact d7 _ _ | exact d8 _ _ | exact d9 _ _))
          refine wpQuiet_nil ?_
          intro _ hw'
          obtain ⟨⟨dq, osq⟩, hw''⟩ := hw'
          subst hw''
          have B2 := below_step Z5 (bg dq osq)
          clear k0 k1 k2 k3 k15 k28 bg c_px c_py c_lx c_ly c_req c_bk d0 d1 d2 d3 d4 d4b d4c d5 d6 d7 d8 d9
          generalize grow (redrawn W3 dq) osq = w8 at B2 ⊢
          go_wp2
          go_ret
          refine ⟨_, rfl, ?_, below_step B2 ((Below.refl w8.heap.size w8).alloc (Nat.le_refl _) _)⟩
          rw [Hfin.out]
          exact World.ownsRow_lit (e := 9) (base := w.heap.size) (size := 1) w8 (svals [m0, m1, m2, m3, m4, m5, m6, m7, m8, m9]).toArray 10 B2.size (by unfold maxLen; omega) rfl
end Go.Proofs.YtlleijickhifmaaGreatDoor
