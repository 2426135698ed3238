/- Layer 58: a line of a page. The names of the modes; a number in decimal. -/
import Derived.Test.YtlleijickhifmaaGreatDoorPk12
import Derived.Test.YtlleijickhifmaaGreatDoorPk13
import Derived.Lib.ConvBytes
import Derived.Laws.BytesArg
import Derived.Test.YtlleijickhifmaaGreatDoorPk08
namespace Go.Proofs.YtlleijickhifmaaGreatDoor
open Go.RowKit
set_option linter.unusedVariables false
set_option linter.unusedSimpArgs false
/-- The block g holds the bytes l, and they may be written. -/
structure Buf (W : World) (g : Nat) (l : List UInt8) : Prop where
  lt : g < W.heap.size
  cell : ∀ j (h : j < l.length), W.cell? ⟨g, j, none⟩ = some (.int .u8 l[j].toNat)
  free : ∀ j, j < l.length → W.frozen? ⟨g, j, none⟩ = false
theorem Buf.new (w : World) (l : List UInt8) : Buf (Lib.bytesWorld w 5 ⟨l.toArray⟩) w.heap.size l where
  lt := by rw [Lib.bytesWorld_size]; omega
  cell j h := by
    rw [Lib.bytesWorld_cell w 5 ⟨l.toArray⟩ j (by simpa [ByteArray.size] using h)]
    simp [List.getD, h]
  free j h := by
    have hs : (Lib.bytesCells w 5 ⟨l.toArray⟩).size ≠ j := by
      unfold Lib.bytesCells
      simp; omega
    simp [World.frozen?, Lib.bytesWorld_at_new]
    omega
theorem Buf.set {W : World} {g : Nat} {l : List UInt8} (h : Buf W g l) (k : Nat) (c : UInt8) (hk : k < l.length) : Buf (W.setCell ⟨g, k, none⟩ (.int .u8 c.toNat)) g (l.set k c) where
  lt := by simpa [World.setCell] using h.lt
  cell j hj := by
    have hj' : j < l.length := by simpa using hj
    by_cases e : k = j
    · subst e
      rw [World.cell?_setCell_same _ _ _ (h.cell k hj')]
      simp
    · rw [World.cell?_setCell_other _ _ _ _ (by intro q; injection q with _ q; exact e q), h.cell j hj']
      simp [List.getElem_set, e]
  free j hj := by rw [World.frozen?_setCell]; exact h.free j (by simpa using hj)
theorem conv_buf {W : World} {g c : Nat} {l : List UInt8} (h : Buf W g l) (n : Nat) (hn : n = l.length) : (convert 71 9 (.slice (some ⟨g, 0, none⟩) n c)).run Tryz.prog W = .ok (.string ⟨l.toArray⟩) W := by
  subst hn
  rw [run_convert_bytes_arg W 71 5 Tryz.underlying71 Tryz.underlying5 g 0 l.length c (l.map fun c => (c.toNat : Int)) (by simp) (by
    intro i hi
    rw [Nat.zero_add, h.cell i hi]
    simp [hi]) 9 Tryz.underlying9]
  unfold strOfNums
  rw [List.map_map]
  congr 3
  have : (fun n : Int => UInt8.ofNat n.toNat) ∘ (fun c : UInt8 => (c.toNat : Int)) = id := by
    funext c; simp
  rw [this, List.map_id]
theorem conv_new (w : World) (l : List UInt8) : ∃ w' c, (convert 9 71 (.string ⟨l.toArray⟩)).run Tryz.prog w = .ok (.slice (some ⟨w.heap.size, 0, none⟩) l.length c) w' ∧ Below w.heap.size w w' ∧ Buf w' w.heap.size l :=
  ⟨_, _, Lib.run_convert_string_bytes (P := Tryz.prog) w 9 71 5 ⟨l.toArray⟩ Tryz.underlying9 Tryz.underlying71 Tryz.underlying5, Lib.bytesWorld_below _ _ _, Buf.new w l⟩
theorem repeat_any (k : Nat) (w : World) (hk : k ≤ 1000) : Calls Tryz.prog 43 #[.string ⟨#[32]⟩, .int .i64 k] w (Ret w (.string ⟨(List.replicate k 32).toArray⟩)) := by
  refine (Tryz.strings_Repeat ⟨#[32]⟩ k w (by omega) (by show 1 * k ≤ _; omega)).mono fun e w' ⟨h1, h2⟩ => ⟨?_, h2⟩
  rw [h1]
  have : ∀ n, Lib.repeatL ([32] : List UInt8) n = List.replicate n 32 := by
    intro n
    induction n with
    | zero => rfl
    | succ n ih => simp only [Lib.repeatL, List.replicate_succ] at *; simp [ih]
  rw [show (⟨#[32]⟩ : ByteArray).data.toList = [32] from rfl, this]
def cleanC (c : UInt8) : UInt8 := if c.toNat < 32 ∨ 126 < c.toNat then 63 else c
/-- The left text of a line, cut. -/
def cutL (l r : List UInt8) : List UInt8 := if 23 < l.length + r.length then l.take (min l.length (23 - r.length)) else l
def lineT (l r : List UInt8) : List UInt8 := (l ++ List.replicate (24 - l.length - r.length) 32 ++ r).map cleanC
theorem lineS_long {l r : List UInt8} (h : 24 < r.length) : lineS l r = lineT (cutL [] (r.take 24)) (r.take 24) := by
  unfold lineS lineT cutL cleanC
  simp only [if_pos h]
theorem lineS_short {l r : List UInt8} (h : ¬ 24 < r.length) : lineS l r = lineT (cutL l r) r := by
  unfold lineS lineT cutL cleanC
  simp only [if_neg h]
theorem take_map_set (f : UInt8 → UInt8) (l : List UInt8) (k : Nat) (h : k < l.length) : ((l.take k).map f ++ l.drop k).set k (f l[k]) = (l.take (k + 1)).map f ++ l.drop (k + 1) := by
  rw [List.set_append_right _ _ (by simp; omega), List.drop_eq_getElem_cons h]
  simp only [List.length_map, List.length_take, Nat.min_eq_left (Nat.le_of_lt h), Nat.sub_self, List.set_cons_zero]
  rw [List.take_succ_eq_append_getElem h, List.map_append]
  simp
theorem take_map_same (f : UInt8 → UInt8) (l : List UInt8) (k : Nat) (h : k < l.length) (hf : f l[k] = l[k]) : (l.take k).map f ++ l.drop k = (l.take (k + 1)).map f ++ l.drop (k + 1) := by
  rw [List.drop_eq_getElem_cons h, List.take_succ_eq_append_getElem h, List.map_append]
  simp [hf]
attribute [local go_sem] ba_append
set_option maxHeartbeats 4000000 in
set_option maxRecDepth 100000 in
theorem line_any (l r : List UInt8) (w : World) (hl : l.length ≤ 4000000000) (hr : r.length ≤ 4000000000) : Calls Tryz.prog 22 #[.string ⟨l.toArray⟩, .string ⟨r.toArray⟩] w (Ret w (.string ⟨(lineS l r).toArray⟩)) := by
  obtain ⟨out, hout⟩ : ∃ out, lineS l r = out := ⟨_, rfl⟩
  rw [hout]
  go_enter Tryz.func22, Tryz.ntmps22
  go_upto_if 10 with (fail)
  go_cut [0, 1] (fun a b wx => ∃ l1 r1 : List UInt8, a = .string ⟨l1.toArray⟩ ∧ b = .string ⟨r1.toArray⟩ ∧ Below w.heap.size w wx ∧ r1.length ≤ 24 ∧ l1.length ≤ 4000000000 ∧ Hid (lineT (cutL l1 r1) r1 = out))
  case first =>
    by_cases h24 : 24 < r.length
    · have HO := Lib.hid ((lineS_long (l := l) h24).symm.trans hout)
      go_wp2_with fail
      go_quiet (fail)
      go_wp2
      go_meet
      exact ⟨[], r.take 24, rfl, rfl, below_drewN (Below.refl _ _) _, by simp; omega, by simp, HO⟩
    · have HO := Lib.hid ((lineS_short (l := l) h24).symm.trans hout)
      go_wp2
      go_meet
      exact ⟨l, r, rfl, rfl, Below.refl _ _, by omega, hl, HO⟩
  case rest =>
    obtain ⟨l1, r1, rfl, rfl, B1, hr1, hl1, HO⟩ := hcut
    clear hout hl hr
    go_upto_if 18 with (fail)
    go_cut [0] (fun a wy => ∃ l2 : List UInt8, a = .string ⟨l2.toArray⟩ ∧ wy = wc ∧ l2.length + r1.length ≤ 24 ∧ Hid (lineT l2 r1 = out))
    case first =>
      by_cases h23 : 23 < l1.length + r1.length
      · have HC := Lib.hid (show cutL l1 r1 = l1.take (min l1.length (23 - r1.length)) by unfold cutL; rw [if_pos h23])
        have e1 : IntKind.i64.wrap (23 - (r1.length : Int)) = 23 - (r1.length : Int) := IntWalk.i64_in _ (by omega)
        go_wp2
        go_meet
        have e2 : (min (l1.length : Int) (max (23 - (r1.length : Int)) 0)).toNat = min l1.length (23 - r1.length) := by omega
        refine ⟨_, rfl, rfl, ?_, ?_⟩
        · rw [e2, List.length_take]; omega
        · rw [e2]; exact Lib.hid (by rw [← HC.out]; exact HO.out)
      · have HC := Lib.hid (show cutL l1 r1 = l1 by unfold cutL; rw [if_neg h23])
        have h23' : ¬ (23 : Int) < (l1.length : Int) + (r1.length : Int) := by omega
        go_wp2
        go_meet
        exact ⟨l1, rfl, rfl, by omega, Lib.hid (by rw [← HC.out]; exact HO.out)⟩
    case rest =>
      obtain ⟨l2, rfl, rfl, h24, HO2⟩ := hcut
      clear HO hl1
      have e1 : (24 : Int) - (l2.length : Int) = ((24 - l2.length : Nat) : Int) := by omega
      have e2 : ((24 - l2.length : Nat) : Int) - (r1.length : Int) = ((24 - l2.length - r1.length : Nat) : Int) := by omega
      obtain ⟨sp, hsp⟩ : ∃ sp : List UInt8, List.replicate (24 - l2.length - r1.length) 32 = sp := ⟨_, rfl⟩
      have hspl : sp.length = 24 - l2.length - r1.length := by rw [← hsp]; simp
      obtain ⟨pre, hpre⟩ : ∃ pre, l2 ++ (sp ++ r1) = pre := ⟨_, rfl⟩
      have hlen : pre.length = 24 := by rw [← hpre]; simp; omega
      have HT := Lib.hid (show pre.map cleanC = out by rw [← HO2.out, ← hpre, ← hsp, ← List.append_assoc]; rfl)
      have b1 : ¬ 9223372036854775807 < ((l2.length + sp.length : Nat) : Int) := by omega
      have b2 : ¬ 9223372036854775807 < ((l2.length + sp.length + r1.length : Nat) : Int) := by omega
      have HRp := Lib.hid (fun w => repeat_any (24 - l2.length - r1.length) w (by omega))
      rw [hsp] at HRp
      clear hsp hspl
      have HP := Lib.hid hpre
      clear HO2 hpre
      have hgw : w.heap.size ≤ wc.heap.size := B1.size
      go_upto_region 6 with (go_at_call 43; refine callRB (HRp.out _) ?_; intro w2 B2; obtain ⟨w3, c3, cv, B3, F3⟩ := conv_new w2 pre; rw [hlen, ← HP.out] at cv)
      have B4 := below_step (below_step B1 B2) B3
      have hg : w.heap.size ≤ w2.heap.size := Nat.le_trans hgw B2.size
      clear cv e1 e2 b1 b2 h24 hr1 B1 B2 B3 hgw
      generalize w2.heap.size = g at F3 hg ⊢
      go_wp2_with fail
      go_loopw [42] (fun i wr => ∃ k : Nat, k ≤ 24 ∧ i = .int .i64 k ∧ Buf wr g ((pre.take k).map cleanC ++ pre.drop k) ∧ Below w.heap.size w wr) (fun i _ => 24 - (intOf i).toNat)
      case atStart => exact ⟨0, by omega, rfl, by simpa using F3, B4⟩
      case round =>
        obtain ⟨k, hk, rfl, F, B⟩ := hrel
        clear F3 B4
        by_cases hlt : k < 24
        · have hk2 : k < pre.length := by omega
          have hl : ((pre.take k).map cleanC ++ pre.drop k).length = 24 := by simp; omega
          have e1 : ((pre.take k).map cleanC ++ pre.drop k)[k]'(by omega) = pre[k] := by
            rw [List.getElem_append_right (by simp; omega)]
            simp [Nat.min_eq_left (Nat.le_of_lt hk2)]
          have c1 := F.cell k (by omega)
          rw [e1] at c1
          have c2 := F.free k (by omega)
          have c3 := F.lt
          have HS := Lib.hid (take_map_set cleanC pre k hk2)
          have HE := Lib.hid (take_map_same cleanC pre k hk2)
          have HF := Lib.hid (fun c => F.set k c (by omega))
          have HF0 := Lib.hid F
          clear e1 F
          generalize hc : pre[k] = c at c1 HS HE
          clear hc
          by_cases h1 : c.toNat < 32
          · have HC := Lib.hid (show cleanC c = 63 by unfold cleanC; rw [if_pos (.inl h1)])
            go_wp2
            go_roundw
            case rel => exact ⟨k + 1, by omega, by go_num, by rw [← HS.out, HC.out]; exact HF.out 63, below_setCell B hg _ _⟩
            case measure => simp [intOf]; omega
          · by_cases h2 : 126 < c.toNat
            · have HC := Lib.hid (show cleanC c = 63 by unfold cleanC; rw [if_pos (.inr h2)])
              go_wp2
              go_roundw
              case rel => exact ⟨k + 1, by omega, by go_num, by rw [← HS.out, HC.out]; exact HF.out 63, below_setCell B hg _ _⟩
              case measure => simp [intOf]; omega
            · have HC := Lib.hid (show cleanC c = c by unfold cleanC; rw [if_neg (by omega)])
              go_wp2
              go_roundw
              case rel => exact ⟨k + 1, by omega, by go_num, by rw [← HE.out HC.out]; exact HF0.out, B⟩
              case measure => simp [intOf]; omega
        · obtain rfl : k = 24 := by omega
          rw [List.take_of_length_le (by omega), List.drop_of_length_le (by omega), List.append_nil] at F
          rw [HT.out] at F
          have hlo : 24 = out.length := by rw [← HT.out]; simp [hlen]
          have cv := fun c => conv_buf F (c := c) 24 hlo
          clear hlen hlo
          go_wp2
          go_ret
          exact Ret.str rfl B
end Go.Proofs.YtlleijickhifmaaGreatDoor
namespace Go.Proofs.YtlleijickhifmaaGreatDoor
open Go.RowKit Go.Sort
set_option linter.unusedVariables false
set_option linter.unusedSimpArgs false
structure Mst where
  a : Int
  b : Int
  c : Int

def Mst.arr (x : Mst) : Array Value := #[.int .u8 x.a, .int .u8 x.b, .int .u8 x.c]
abbrev Mst.val (x : Mst) : Value := .agg x.arr
theorem Mst.arr_size (x : Mst) : x.arr.size = 3 := rfl
theorem Mst.arr_sz (x : Mst) : x.arr.size = 3 := by simp [Mst.arr]
theorem Mst.arr_one (x : Mst) : x.arr.all (·.oneCell') = true := by simp [Mst.arr, Value.oneCell']
theorem Mst.arr0 (x : Mst) : x.arr[0]? = some (.int .u8 x.a) := rfl
theorem Mst.arr1 (x : Mst) : x.arr[1]? = some (.int .u8 x.b) := rfl
theorem Mst.arr2 (x : Mst) : x.arr[2]? = some (.int .u8 x.c) := rfl
attribute [go_sem] Mst.arr0 Mst.arr1 Mst.arr2
def Mst.eqB (a b : Mst) : Bool := decide (a.a = b.a) && (decide (a.b = b.b) && (decide (a.c = b.c)))
theorem Mst.eqB_iff (a b : Mst) : a.eqB b = true ↔ a = b := by
  obtain ⟨_, _, _⟩ := a
  obtain ⟨_, _, _⟩ := b
  simp [Mst.eqB]
set_option maxHeartbeats 1000000 in
set_option maxRecDepth 100000 in
theorem run_eq_mst (d : Nat) (a b : Mst) (w : World) : (Op.equalIn (d + 3) 88 (.agg a.arr) (.agg b.arr)).run Tryz.prog w = .ok (a.eqB b) w := by
  unfold Mst.arr
  simp [go_sem]
  simp only [ite_ok, Bool.and_true]
  rfl
theorem run_neq_mst (a b : Mst) (w : World) : (binOp .neq 88 (.agg a.arr) (.agg b.arr)).run Tryz.prog w = .ok (.bool (!a.eqB b)) w := by
  simp only [binOp]
  simp [Op.equal, Op.maxDepth, run_eq_mst 9997]
theorem run_eql_mst (a b : Mst) (w : World) : (binOp .eql 88 (.agg a.arr) (.agg b.arr)).run Tryz.prog w = .ok (.bool (a.eqB b)) w := by
  simp only [binOp]
  simp [Op.equal, Op.maxDepth, run_eq_mst 9997]
theorem info_mst : (Tryz.prog.info? 88).map (·.size) = some 3 := by kernel_rfl
def Is_mst (w : World) (b o : Nat) (x : Mst) : Prop := ∀ j, j < 3 → w.cell? ⟨b, o + j, none⟩ = x.arr[j]?
def Has_mst (w : World) (b o : Nat) : Prop := ∃ x, Is_mst w b o x
theorem Mst.arr_inj {x y : Mst} (h : ∀ j, j < 3 → x.arr[j]? = y.arr[j]?) : x = y := by
  refine (Mst.eqB_iff x y).1 ?_
  have hh : ∀ j, j < 3 → x.arr[j]? = y.arr[j]? := h
  have e0 := h 0 (by omega)
  have e1 := h 1 (by omega)
  have e2 := h 2 (by omega)
  simp [Mst.arr0, Mst.arr1, Mst.arr2] at e0 e1 e2
  simp [Mst.eqB, *]
open Classical in
noncomputable def of_mst (w : World) (b o : Nat) : Mst := if h : Has_mst w b o then h.choose else ⟨0, 0, 0⟩
theorem of_mst_spec {w : World} {b o : Nat} (h : Has_mst w b o) : Is_mst w b o (of_mst w b o) := by
  unfold of_mst
  rw [dif_pos h]
  exact h.choose_spec
theorem of_mst_eq {w : World} {b o : Nat} {x : Mst} (h : Is_mst w b o x) : of_mst w b o = x :=
  Mst.arr_inj fun j hj => (of_mst_spec ⟨x, h⟩ j hj).symm.trans (h j hj)
theorem Has_mst_drewN (w : World) (b o n : Nat) : Has_mst (w.drewN n) b o = Has_mst w b o := propext ⟨fun h => h, fun h => h⟩
theorem of_mst_drewN (w : World) (b o n : Nat) : of_mst (w.drewN n) b o = of_mst w b o := rfl
theorem Is_mst.below {w w' : World} {B b o : Nat} {x : Mst} (h : Is_mst w b o x) (hb : Below B w w') (hlt : b < B) : Is_mst w' b o x := fun j hj => by rw [hb.cell (p := ⟨b, _, none⟩) hlt]; exact h j hj
theorem Is_mst_new (w : World) (x : Mst) (t : TypeId) : Is_mst (w.alloc (.cells x.arr t)) w.heap.size 0 x := fun j _ => by rw [Nat.zero_add]; exact cell_of_row _ _ j x.arr t (0, 0) (heap_alloc_new w _)
theorem Has_mst_new (w : World) (x : Mst) (t : TypeId) : Has_mst (w.alloc (.cells x.arr t)) w.heap.size 0 = True := eq_true ⟨x, Is_mst_new w x t⟩
theorem of_mst_new (w : World) (x : Mst) (t : TypeId) : of_mst (w.alloc (.cells x.arr t)) w.heap.size 0 = x := of_mst_eq (Is_mst_new w x t)
theorem Has_mst_alloc (w : World) (b o : Nat) (ob : Obj) (h : b < w.heap.size) : Has_mst (w.alloc ob) b o = Has_mst w b o := by
  have e : ∀ j, (w.alloc ob).cell? ⟨b, o + j, none⟩ = w.cell? ⟨b, o + j, none⟩ := fun j => World.cell?_alloc_lt w ob ⟨b, o + j, none⟩ h
  simp only [Has_mst, Is_mst, e]
theorem of_mst_alloc (w : World) (b o : Nat) (ob : Obj) (h : b < w.heap.size) (hh : Has_mst w b o) : of_mst (w.alloc ob) b o = of_mst w b o :=
  of_mst_eq fun j hj => by rw [World.cell?_alloc_lt w ob ⟨b, o + j, none⟩ h]; exact of_mst_spec hh j hj
def load_mst (v : Value) : Sem Value := Instr.loadAt 88 v
theorem load_mst_fold (v : Value) : Instr.loadAt 88 v = load_mst v := rfl
theorem run_load_mst (w : World) (b o : Nat) (h : Has_mst w b o) : (load_mst (.pointer (some ⟨b, o, none⟩))).run Tryz.prog w = .ok (.agg (of_mst w b o).arr) w := by
  have hs := of_mst_spec h
  generalize of_mst w b o = x at hs
  have := run_load_agg (P := Tryz.prog) w ⟨b, o, none⟩ 88 x.arr.toList _ (fun j v hv => by
    rw [addr_add, hs j (by have := (List.getElem?_eq_some_iff.1 hv).1; simpa [Mst.arr_size] using this)]
    simpa using hv) Tryz.underlying88 rfl info_mst
  simp only [load_mst, Instr.loadAt, Instr.sureAddr, Sem.run_bind, Sem.run_pure, Result.andThen_ok]
  simpa using this
def store_mst (p v : Value) : Sem Unit := Instr.storeAt 88 p v
theorem store_mst_fold (p v : Value) : Instr.storeAt 88 p v = store_mst p v := rfl
theorem run_store_mst (w : World) (c c' : Array Value) (hc : c.size = 3) (hc' : c'.size = 3) (h1 : c'.all (·.oneCell') = true) :
    (store_mst (.pointer (some ⟨w.heap.size, 0, none⟩)) (.agg c')).run Tryz.prog (w.alloc (.cells c 88)) = .ok () (w.alloc (.cells c' 88)) :=
  run_storeAt_new (P := Tryz.prog) w 88 c c' (by rw [hc']; exact info_mst) (by rw [hc, hc']) h1
attribute [go_sem ↓] load_mst_fold store_mst_fold
attribute [go_sem] run_load_mst run_store_mst Has_mst_drewN of_mst_drewN Has_mst_new of_mst_new Has_mst_alloc of_mst_alloc
theorem pnumber_any (n : Int) (h0 : -9223372036854775808 ≤ n) (h1 : n ≤ 9223372036854775807) (w : World) (hL : Laid w) : Calls Tryz.prog 40 #[.int .i64 n] w (Ret w (.string ⟨(Lib.itoa n).toArray⟩)) := by
  have HC : Calls Tryz.prog 67 #[.int .i64 n, .int .i64 10] w (Ret w (.string ⟨(Lib.itoa n).toArray⟩)) := callG (Tryz.strconv_FormatInt_10 n h0 h1 w hL.pow10)
  have HC := Lib.hid HC
  go_enter Tryz.func40, Tryz.ntmps40
  go_wp2_with (go_at_call 67; refine callRB HC.out ?_; intro w1 B1)
  go_ret
  exact Ret.str rfl B1
theorem modes1_any (w : World) : Calls Tryz.prog 77 #[.int .i64 1] w (RetStrs w latL) := by
  go_enter Tryz.func77, Tryz.ntmps77
  go_wp2
  go_ret
  refine ⟨_, rfl, ?_, (Below.refl _ _).alloc (Nat.le_refl _) _⟩
  have h := World.ownsRow_lit (e := 9) (base := w.heap.size) (size := 1) w (svals latL).toArray 7 (Nat.le_refl _) (by unfold maxLen; omega) rfl
  exact h
theorem modeName1_any (m : Int) (h0 : 0 ≤ m) (h1 : m ≤ 255) (w : World) : Calls Tryz.prog 46 #[.int .i64 1, .int .u8 m] w (Ret w (.string ⟨(modeN latL m).toArray⟩)) := by
  obtain ⟨n, rfl⟩ : ∃ n : Nat, m = n := ⟨m.toNat, by omega⟩
  have q1 : IntKind.i64.wrap (n : Int) = n := IntWalk.i64_in _ (by omega)
  obtain ⟨o, ho⟩ : ∃ o, modeN latL n = o := ⟨_, rfl⟩
  have HO := Lib.hid ho
  rw [ho]; clear ho
  go_enter Tryz.func46, Tryz.ntmps46
  go_upto_region 2 with (go_at_call 77; refine callStrs' (modes1_any _) ?_; intro v1 w1 O1 B1)
  obtain ⟨A, c, rfl, hc, S⟩ := O1.form
  obtain ⟨b, q, rfl, hb, h⟩ := S.at_ (by decide)
  have hl : latL.length = 7 := rfl
  rw [hl] at hc ⊢
  by_cases hlt : n < 7
  · have hlt' : n < latL.length := hlt
    have e := h n latL[n] (List.getElem?_eq_getElem hlt')
    have HE := Lib.hid (show o = latL[n] by rw [← HO.out]; simp [modeN, hlt'])
    unfold sval at e
    clear h hl S O1
    generalize latL[n] = x at e HE
    go_wp2
    go_ret
    exact Ret.str HE.out.symm B1
  · have HE := Lib.hid (show o = [] by rw [← HO.out]; simp [modeN, List.getElem?_eq_none (show latL.length ≤ n by rw [hl]; omega)])
    clear h hl S O1
    go_wp2
    go_ret
    exact Ret.str HE.out.symm B1
theorem modes2_any (w : World) : Calls Tryz.prog 77 #[.int .i64 2] w (RetStrs w vertL) := by
  go_enter Tryz.func77, Tryz.ntmps77
  go_wp2
  go_ret
  refine ⟨_, rfl, ?_, (Below.refl _ _).alloc (Nat.le_refl _) _⟩
  have h := World.ownsRow_lit (e := 9) (base := w.heap.size) (size := 1) w (svals vertL).toArray 9 (Nat.le_refl _) (by unfold maxLen; omega) rfl
  exact h
theorem modeName2_any (m : Int) (h0 : 0 ≤ m) (h1 : m ≤ 255) (w : World) : Calls Tryz.prog 46 #[.int .i64 2, .int .u8 m] w (Ret w (.string ⟨(modeN vertL m).toArray⟩)) := by
  obtain ⟨n, rfl⟩ : ∃ n : Nat, m = n := ⟨m.toNat, by omega⟩
  have q1 : IntKind.i64.wrap (n : Int) = n := IntWalk.i64_in _ (by omega)
  obtain ⟨o, ho⟩ : ∃ o, modeN vertL n = o := ⟨_, rfl⟩
  have HO := Lib.hid ho
  rw [ho]; clear ho
  go_enter Tryz.func46, Tryz.ntmps46
  go_upto_region 2 with (go_at_call 77; refine callStrs' (modes2_any _) ?_; intro v1 w1 O1 B1)
  obtain ⟨A, c, rfl, hc, S⟩ := O1.form
  obtain ⟨b, q, rfl, hb, h⟩ := S.at_ (by decide)
  have hl : vertL.length = 9 := rfl
  rw [hl] at hc ⊢
  by_cases hlt : n < 9
  · have hlt' : n < vertL.length := hlt
    have e := h n vertL[n] (List.getElem?_eq_getElem hlt')
    have HE := Lib.hid (show o = vertL[n] by rw [← HO.out]; simp [modeN, hlt'])
    unfold sval at e
    clear h hl S O1
    generalize vertL[n] = x at e HE
    go_wp2
    go_ret
    exact Ret.str HE.out.symm B1
  · have HE := Lib.hid (show o = [] by rw [← HO.out]; simp [modeN, List.getElem?_eq_none (show vertL.length ≤ n by rw [hl]; omega)])
    clear h hl S O1
    go_wp2
    go_ret
    exact Ret.str HE.out.symm B1
theorem modes3_any (w : World) : Calls Tryz.prog 77 #[.int .i64 3] w (RetStrs w phaseL) := by
  go_enter Tryz.func77, Tryz.ntmps77
  go_wp2
  go_ret
  refine ⟨_, rfl, ?_, (Below.refl _ _).alloc (Nat.le_refl _) _⟩
  have h := World.ownsRow_lit (e := 9) (base := w.heap.size) (size := 1) w (svals phaseL).toArray 9 (Nat.le_refl _) (by unfold maxLen; omega) rfl
  exact h
theorem modeName3_any (m : Int) (h0 : 0 ≤ m) (h1 : m ≤ 255) (w : World) : Calls Tryz.prog 46 #[.int .i64 3, .int .u8 m] w (Ret w (.string ⟨(modeN phaseL m).toArray⟩)) := by
  obtain ⟨n, rfl⟩ : ∃ n : Nat, m = n := ⟨m.toNat, by omega⟩
  have q1 : IntKind.i64.wrap (n : Int) = n := IntWalk.i64_in _ (by omega)
  obtain ⟨o, ho⟩ : ∃ o, modeN phaseL n = o := ⟨_, rfl⟩
  have HO := Lib.hid ho
  rw [ho]; clear ho
  go_enter Tryz.func46, Tryz.ntmps46
  go_upto_region 2 with (go_at_call 77; refine callStrs' (modes3_any _) ?_; intro v1 w1 O1 B1)
  obtain ⟨A, c, rfl, hc, S⟩ := O1.form
  obtain ⟨b, q, rfl, hb, h⟩ := S.at_ (by decide)
  have hl : phaseL.length = 9 := rfl
  rw [hl] at hc ⊢
  by_cases hlt : n < 9
  · have hlt' : n < phaseL.length := hlt
    have e := h n phaseL[n] (List.getElem?_eq_getElem hlt')
    have HE := Lib.hid (show o = phaseL[n] by rw [← HO.out]; simp [modeN, hlt'])
    unfold sval at e
    clear h hl S O1
    generalize phaseL[n] = x at e HE
    go_wp2
    go_ret
    exact Ret.str HE.out.symm B1
  · have HE := Lib.hid (show o = [] by rw [← HO.out]; simp [modeN, List.getElem?_eq_none (show phaseL.length ≤ n by rw [hl]; omega)])
    clear h hl S O1
    go_wp2
    go_ret
    exact Ret.str HE.out.symm B1
def modesOk (a b c : Int) : Bool := !(modeN latL a).isEmpty && (!(modeN vertL b).isEmpty && !(modeN phaseL c).isEmpty)
set_option maxHeartbeats 4000000 in
set_option maxRecDepth 100000 in
theorem modesValid_any (s : Mst) (ha : 0 ≤ s.a ∧ s.a ≤ 255) (hb : 0 ≤ s.b ∧ s.b ≤ 255) (hc : 0 ≤ s.c ∧ s.c ≤ 255) (w : World) : Calls Tryz.prog 45 #[.agg s.arr] w (Ret w (.bool (modesOk s.a s.b s.c))) := by
  have H1 := Lib.hid (fun w => modeName1_any s.a ha.1 ha.2 w)
  have H2 := Lib.hid (fun w => modeName2_any s.b hb.1 hb.2 w)
  have H3 := Lib.hid (fun w => modeName3_any s.c hc.1 hc.2 w)
  obtain ⟨r, hr⟩ : ∃ r, modesOk s.a s.b s.c = r := ⟨_, rfl⟩
  have HR := hr
  unfold modesOk at HR
  rw [hr]; clear hr
  generalize modeN latL s.a = na at *
  generalize modeN vertL s.b = nb at *
  generalize modeN phaseL s.c = nc at *
  go_enter Tryz.func45, Tryz.ntmps45
  go_upto_region 1 with (fail)
  generalize hW : w.alloc _ = W
  have X0 : Blk W w.heap.size s.arr := by rw [← hW]; exact Blk.new w s.arr _
  have B0 : Below w.heap.size w W := by rw [← hW]; go_grown
  clear hW ha hb hc
  have x1 := X0.cell
  cases ea : na.isEmpty
  · cases eb : nb.isEmpty
    · cases ec : nc.isEmpty
      all_goals
        rw [ea, eb, ec] at HR
        have HR := Lib.hid HR
        go_wp2_with (first
          | (go_at_call 46; (with_reducible refine callRB (H1.out _) ?_); intro w1 B1; have y1 := (X0.step B1).cell)
          | (go_at_call 46; (with_reducible refine callRB (H2.out _) ?_); intro w2 B2; have y2 := ((X0.step B1).step B2).cell)
          | (go_at_call 46; (with_reducible refine callRB (H3.out _) ?_); intro w3 B3))
        go_ret
        exact Ret.bool HR.out (below_step (below_step (below_step B0 B1) B2) B3)
    · rw [ea, eb] at HR
      have HR := Lib.hid HR
      go_wp2_with (first
        | (go_at_call 46; (with_reducible refine callRB (H1.out _) ?_); intro w1 B1; have y1 := (X0.step B1).cell)
        | (go_at_call 46; (with_reducible refine callRB (H2.out _) ?_); intro w2 B2))
      go_ret
      exact Ret.bool HR.out (below_step (below_step B0 B1) B2)
  · rw [ea] at HR
    have HR := Lib.hid HR
    go_wp2_with (first
      | (go_at_call 46; (with_reducible refine callRB (H1.out _) ?_); intro w1 B1))
    go_ret
    exact Ret.bool HR.out (below_step B0 B1)
theorem modesT_eq (a b c : Int) : modesT a b c = if modesOk a b c then modeN latL a ++ [32] ++ modeN vertL b ++ [32] ++ modeN phaseL c else [] := by
  unfold modesT modesOk
  cases modeN latL a <;> cases modeN vertL b <;> cases modeN phaseL c <;> simp
theorem modeN_len (a b c : Int) : (modeN latL a).length ≤ 10 ∧ (modeN vertL b).length ≤ 10 ∧ (modeN phaseL c).length ≤ 10 := by
  have key : ∀ (l : List (List UInt8)) (m : Int), (∀ s ∈ l, s.length ≤ 10) → (modeN l m).length ≤ 10 := by
    intro l m h
    unfold modeN
    rw [List.getD_eq_getElem?_getD]
    cases hq : l[m.toNat]? with
    | none => simp
    | some s => exact h s (List.mem_of_getElem? hq)
  exact ⟨key _ _ (by decide), key _ _ (by decide), key _ _ (by decide)⟩
attribute [local go_sem] ba_append
set_option maxHeartbeats 4000000 in
set_option maxRecDepth 100000 in
theorem modesText_any (s : Mst) (ha : 0 ≤ s.a ∧ s.a ≤ 255) (hb : 0 ≤ s.b ∧ s.b ≤ 255) (hc : 0 ≤ s.c ∧ s.c ≤ 255) (w : World) : Calls Tryz.prog 24 #[.agg s.arr] w (Ret w (.string ⟨(modesT s.a s.b s.c).toArray⟩)) := by
  have H1 := Lib.hid (fun w => modeName1_any s.a ha.1 ha.2 w)
  have H2 := Lib.hid (fun w => modeName2_any s.b hb.1 hb.2 w)
  have H3 := Lib.hid (fun w => modeName3_any s.c hc.1 hc.2 w)
  have HV := Lib.hid (fun w => modesValid_any s ha hb hc w)
  have HL := modeN_len s.a s.b s.c
  obtain ⟨r, hr⟩ : ∃ r, modesT s.a s.b s.c = r := ⟨_, rfl⟩
  have HR := hr
  rw [modesT_eq] at HR
  rw [hr]; clear hr
  generalize modesOk s.a s.b s.c = ok at *
  generalize modeN latL s.a = na at *
  generalize modeN vertL s.b = nb at *
  generalize modeN phaseL s.c = nc at *
  go_enter Tryz.func24, Tryz.ntmps24
  go_upto_region 1 with (fail)
  generalize hW : w.alloc _ = W
  have X0 : Blk W w.heap.size s.arr := by rw [← hW]; exact Blk.new w s.arr _
  have B0 : Below w.heap.size w W := by rw [← hW]; go_grown
  clear hW ha hb hc
  have h0 : Has_mst W w.heap.size 0 := ⟨s, fun j _ => by rw [Nat.zero_add]; exact X0.cell j⟩
  have h1 : of_mst W w.heap.size 0 = s := of_mst_eq (fun j _ => by rw [Nat.zero_add]; exact X0.cell j)
  cases ok
  · simp only [Bool.false_eq_true, if_false] at HR
    have HR := Lib.hid HR
    go_wp2_with (go_at_call 45; refine callRB (HV.out _) ?_; intro w1 B1)
    go_ret
    exact Ret.str HR.out (below_step B0 B1)
  · simp only [if_true] at HR
    have HR := Lib.hid HR
    go_upto_region 3 with (go_at_call 45; refine callRB (HV.out _) ?_; intro w1 B1)
    obtain ⟨l1, l2, l3⟩ := HL
    have X1 := X0.step B1
    have k1 : ∀ d os, (grow (redrawn w1 d) os).cell? ⟨w.heap.size, 0, none⟩ = some (.int .u8 s.a) := fun d os => (X1.step (below_regrown w1 d os)).cell 0
    have k2 : ∀ d os, (grow (redrawn w1 d) os).cell? ⟨w.heap.size, 1, none⟩ = some (.int .u8 s.b) := fun d os => (X1.step (below_regrown w1 d os)).cell 1
    have k3 : ∀ d os, (grow (redrawn w1 d) os).cell? ⟨w.heap.size, 2, none⟩ = some (.int .u8 s.c) := fun d os => (X1.step (below_regrown w1 d os)).cell 2
    have c1 := fun d os => Calls.regrown_ret (H1.out (grow (redrawn w1 d) os))
    have c2 := fun d os => Calls.regrown_ret (H2.out (grow (redrawn w1 d) os))
    have c3 := fun d os => Calls.regrown_ret (H3.out (grow (redrawn w1 d) os))
    have b1 : ¬ 9223372036854775807 < ((na.length + 1 : Nat) : Int) := by omega
    have b2 : ¬ 9223372036854775807 < ((na.length + (1 + nb.length) : Nat) : Int) := by omega
    have b3 : ¬ 9223372036854775807 < ((na.length + (1 + (nb.length + 1)) : Nat) : Int) := by omega
    have b4 : ¬ 9223372036854775807 < ((na.length + (1 + (nb.length + (1 + nc.length))) : Nat) : Int) := by omega
    have b5 : ¬ 9223372036854775807 < ((na.length + 1 + nb.length : Nat) : Int) := by omega
    have b6 : ¬ 9223372036854775807 < ((na.length + 1 + nb.length + 1 : Nat) : Int) := by omega
    have b7 : ¬ 9223372036854775807 < ((na.length + 1 + nb.length + 1 + nc.length : Nat) : Int) := by omega
    refine wp_region_quiet_below (by kernel_rfl) (by kernel_rfl) ?_
    repeat (first | go_big_quiet_step (with_reducible first | exact c1 _ _ | exact c2 _ _ | exact c3 _ _) | quiet_step (with_reducible first | exact c1 _ _ | exact c2 _ _ | exact c3 _ _))
    refine wpQuiet_nil ?_
    intro _ hw'
    obtain ⟨⟨dq, osq⟩, hw''⟩ := hw'
    subst hw''
    have B2 := below_regrown w1 dq osq
    clear k1 k2 k3 c1 c2 c3
    generalize grow (redrawn w1 dq) osq = w3 at B2 ⊢
    go_wp2
    go_ret
    exact Ret.str (by rw [← HR.out]; simp) (below_step (below_step B0 B1) B2)
end Go.Proofs.YtlleijickhifmaaGreatDoor
