/- edit.ends, edit.direct, edit.search; walks. Arguments opened out of their readings: what is of no particular struct; the bound on what is read. The arguments of the statements opened: entries, slices of entries, plans out of their readings; the bound on what is read. From the rows' premises to the walks': what the listed variables hold; a plan among the arguments. edit.Check and what it calls; walks. edit.Check; walk. From the rows' premises to the walks' of layer 23: the forms, the discontinuity, no restriction. -/
import Derived.Test.YtlggdgpdfepppaaGreatDoorQk18
import Derived.Test.YtlggdgpdfepppaaGreatDoorQk31
import Derived.Test.YtlggdgpdfepppaaGreatDoorQk19
import Derived.OpenShut
import Derived.Deep.Slices
import Derived.Deep.Fields
import Derived.ChangeSame
import Derived.Deep.DeepHandedRow
import Derived.Carry
import Derived.LaidSub
import Derived.Test.YtlggdgpdfepppaaGreatDoorQk06
import Derived.Test.YtlggdgpdfepppaaGreatDoorQk01
import Derived.Test.YtlggdgpdfepppaaGreatDoorQk02
import Derived.Lib.IndexAny
import Derived.Lib.SlBytesConst
import Derived.Test.YtlggdgpdfepppaaGreatDoorQk12
import Derived.Test.YtlggdgpdfepppaaGreatDoorQk07
import Derived.Lib.ParseIntBCases
import Derived.Lib.ConvBytes
namespace Go.Proofs.YtlggdgpdfepppaaGreatDoor
open Go.RowKit Go.Sort
set_option linter.unusedVariables false
set_option linter.unusedSimpArgs false
set_option maxRecDepth 100000
theorem ent_box (w : World) (x : Entry) : Blk (w.alloc (.cells x.arr 82)) w.heap.size x.arr ∧ Below w.heap.size w (w.alloc (.cells x.arr 82)) := ⟨Blk.new _ _ _, (Below.refl _ _).alloc (Nat.le_refl _) _⟩
theorem eends_any (x : Entry) (w : World) : Calls Tryz.prog 121 #[.agg x.arr] w (Ret w (.bool (endsE x))) := by
  obtain ⟨X0, B0⟩ := ent_box w x
  have HE := Lib.hid (show endsE x = (!x.gap && endsB x.leg.ty) from rfl)
  generalize endsE x = out at HE ⊢
  go_enter Tryz.func121, Tryz.ntmps121
  go_upto_region 1 with (fail)
  generalize w.alloc _ = W at X0 B0 ⊢
  generalize w.heap.size = g at X0 ⊢
  have c0 := X0.cell
  cases hg : x.gap with
  | true =>
    rw [hg] at HE
    go_wp2
    go_ret
    exact Ret.bool HE.out.symm B0
  | false =>
    rw [hg] at HE
    go_wp2_with (go_at_call 59; (with_reducible refine callP (ends_any _ _) ?_))
    go_ret
    exact Ret.bool HE.out.symm B0
def bleg (parts : Array (Nat × Value)) : Sem Value := Instr.build 77 parts
theorem bleg_fold (parts : Array (Nat × Value)) : Instr.build 77 parts = bleg parts := rfl
theorem run_blegD (w : World) (f : List UInt8) (o : Bool) (a b s r : Int) : (bleg #[(0, .int .u8 4), (1, .string ⟨f.toArray⟩), (4, .bool o), (9, .agg (Win.arr ⟨a, b⟩)), (10, .int .i64 s), (11, .int .i64 r)]).run Tryz.prog w = .ok (.agg (⟨4, f, [], 0, o, 0, 0, 0, 0, a, b, s, r⟩ : Leg).arr) w := run_build w _ _ _ (by kernel_rfl)
def bptE (parts : Array (Nat × Value)) : Sem Value := Instr.build 79 parts
theorem bptE_fold (parts : Array (Nat × Value)) : Instr.build 79 parts = bptE parts := rfl
theorem run_bptE0 (w : World) : (bptE #[]).run Tryz.prog w = .ok (.agg (Pt.arr ⟨0, 0⟩)) w := run_build w _ _ _ (by kernel_rfl)
attribute [local go_sem ↓] bleg_fold bptE_fold
attribute [local go_sem] run_blegD run_bptE0
theorem is_winL {W : World} {g : Nat} {l : Leg} (h : Blk W g l.arr) : Is_win W g 9 ⟨l.lo, l.hi⟩ := fun j hj => by
  rw [h.cell]
  match j, hj with
  | 0, _ | 1, _ => rfl
def dirLeg (l : Leg) : Leg := ⟨4, l.fix, [], 0, l.over, 0, 0, 0, 0, l.lo, l.hi, l.speed, l.rnp⟩
theorem edirect_any (x : Entry) (w : World) : Calls Tryz.prog 119 #[.agg x.arr] w (Ret w (.agg (directE x).arr)) := by
  go_enter Tryz.func119, Tryz.ntmps119
  go_upto_region 1 with (fail)
  have X0 : Blk ((w.alloc (.cells x.arr 82)).alloc (.cells zeroE.arr 82)) w.heap.size x.arr := (Blk.new w x.arr _).alloc _
  have R0 : Blk ((w.alloc (.cells x.arr 82)).alloc (.cells zeroE.arr 82)) (w.heap.size + 1) zeroE.arr := by rw [← World.size_alloc w (.cells x.arr 82)]; exact Blk.new _ _ _
  have B0 : Below w.heap.size w ((w.alloc (.cells x.arr 82)).alloc (.cells zeroE.arr 82)) := by go_grown
  have hz : zeroE.arr = #[.bool false, .int .u8 0, .string ⟨#[]⟩, .string ⟨#[]⟩, .int .u8 0, .bool false, .int .i64 0, .int .i64 0, .int .i64 0, .int .i64 0, .int .i64 0, .int .i64 0, .int .i64 0, .int .i64 0, .int .i64 0, .int .i64 0, .int .i64 0, .int .i64 0, .int .u8 0, .string ⟨#[]⟩] := rfl
  rw [hz] at X0 R0 B0
  generalize (w.alloc _).alloc _ = W at X0 R0 B0 ⊢
  rw [← hz] at R0
  clear hz
  obtain ⟨g, hg⟩ : ∃ g, g = w.heap.size := ⟨_, rfl⟩
  have hgg : w.heap.size ≤ g := by omega
  rw [← hg] at X0 R0 ⊢
  obtain ⟨r, hr⟩ : ∃ r, r = g + 1 := ⟨_, rfl⟩
  rw [← hr] at R0 ⊢
  have hgr : w.heap.size ≤ r := by omega
  have hne : g ≠ r := by omega
  clear hg hr
  have i1 : Has_leg W g 1 := ⟨_, X0.leg_at⟩
  have i2 : of_leg W g 1 = x.leg := of_leg_eq X0.leg_at
  go_upto_region 2 with (fail)
  clear i1 i2
  have L1 := Blk.new W x.leg.arr 77
  have X1 := X0.alloc (.cells x.leg.arr 77)
  have R1 := R0.alloc (.cells x.leg.arr 77)
  have B1 := below_step B0 ((Below.refl W.heap.size W).alloc (Nat.le_refl _) (.cells x.leg.arr 77))
  have hlt := X0.lt
  have hlr := R0.lt
  generalize W.alloc _ = W1 at L1 X1 R1 B1 ⊢
  generalize W.heap.size = gl at L1 hlt hlr ⊢
  clear X0 R0 B0
  have hgl : g ≠ gl := by omega
  have hrl : r ≠ gl := by omega
  have c1 := L1.cell
  have i1 : Has_win W1 gl 9 := ⟨_, is_winL L1⟩
  have i2 : of_win W1 gl 9 = ⟨x.leg.lo, x.leg.hi⟩ := of_win_eq (is_winL L1)
  have d2 := X1.plain
  have d3 := X1.of
  have e2 := R1.plain
  have e3 := R1.of
  have f1 : splice x.arr 1 (dirLeg x.leg).arr = ({ x with leg := dirLeg x.leg } : Entry).arr := rfl
  have f2 : splice ({ x with leg := dirLeg x.leg } : Entry).arr 16 (Pt.arr ⟨0, 0⟩) = (directE x).arr := rfl
  have f3 : splice zeroE.arr 0 (directE x).arr = (directE x).arr := rfl
  unfold dirLeg at f1 f2
  have hne2 := Ne.symm hne
  go_wp2
  exact bodyPost_ret (results_agg1 Tryz.results119 _ _ r (directE x).arr 20 _ rfl rfl (((R1.far (Ne.symm hne) _).set _).cell) Tryz.underlying82 rfl info_ent) rfl ⟨rfl, below_setRow' (below_setRow' B1 hgg _) hgr _⟩
theorem findGo_skip (from_ : Int) (ref : List UInt8) : ∀ (m : Nat) (l : List Entry) (i : Nat), ((i + m : Nat) : Int) ≤ from_ → findGo from_ ref l i = findGo from_ ref (l.drop m) (i + m)
  | 0, l, i, _ => rfl
  | m + 1, [], i, _ => by simp [findGo]
  | m + 1, x :: r, i, h => by
    have ih := findGo_skip from_ ref m r (i + 1) (by omega)
    have h1 : decide (from_ ≤ (i : Int)) = false := by simp; omega
    rw [findGo, h1]
    simp only [Bool.false_and, Bool.false_eq_true, if_false, List.drop_succ_cons]
    rw [ih]
    congr 1
    omega
theorem findGo_start (from_ : Int) (ref : List UInt8) (l : List Entry) : findGo from_ ref l 0 = findGo from_ ref (l.drop from_.toNat) from_.toNat := by
  rcases Int.lt_or_le from_ 0 with h | h
  · rw [show from_.toNat = 0 by omega]; rfl
  · have := findGo_skip from_ ref from_.toNat l 0 (by omega)
    rw [this, Nat.zero_add]
set_option maxHeartbeats 2000000 in
theorem search_any (l : List Entry) (A : Option Addr) (n c : Nat) (from_ : Int) (ref : List UInt8) (w : World) (hE : Ents w A l) (hn : l.length = n) (hl : n ≤ 4000000000) (hf : from_ ≤ 4000000000) :
    Calls Tryz.prog 117 #[.slice A n c, .int .i64 from_, .string ⟨ref.toArray⟩] w (Ret w (.int .i64 (searchE l from_ ref))) := by
  subst hn
  have HS := Lib.hid (show searchE l from_ ref = findGo from_ ref (l.drop from_.toNat) from_.toNat from findGo_start from_ ref l)
  generalize searchE l from_ ref = out at HS ⊢
  obtain ⟨f, hff⟩ : ∃ f, f = from_.toNat := ⟨_, rfl⟩
  rw [← hff] at HS
  rcases Int.lt_or_le from_ 0 with hneg | hpos
  all_goals
   go_enter Tryz.func117, Tryz.ntmps117
   go_wp2
   have hm : max from_ 0 = (f : Int) := by omega
   rw [hm]
   have hle0 : from_ ≤ (f : Int) := by omega
   have hf9 : f ≤ 4000000000 := by omega
   clear hm hff
   first | clear hneg | clear hpos
   go_loopw [7] (fun i wr => ∃ k : Nat, f ≤ k ∧ k ≤ 8000000000 ∧ i = .int .i64 k ∧ out = findGo from_ ref (l.drop k) k ∧ Below w.heap.size w wr) (fun i _ => l.length - (intOf i).toNat)
   case atStart => exact ⟨f, by omega, by omega, rfl, HS.out, Below.refl _ _⟩
   case round =>
     obtain ⟨k, hk, hk9, rfl, hq, BW⟩ := hrel
     have HQ := Lib.hid hq
     clear hq
     by_cases hlt : k < l.length
     · obtain ⟨b, off, hA, hb, he⟩ := hE.get hlt
       subst hA
       have hd := List.drop_eq_getElem_cons hlt
       have hle : decide (from_ ≤ (k : Int)) = true := by simp; omega
       have HX := Lib.hid (show out = if endsE l[k] && l[k].leg.fix == ref then (k : Int) else findGo from_ ref (l.drop (k + 1)) (k + 1) by rw [HQ.out, hd, findGo, hle]; simp [endsE])
       clear hd hle
       generalize l[k] = x at he HX
       have e1 : Is_ent wr b (off + k * 20) x := fun j hj => by rw [BW.cell (p := ⟨b, _, none⟩) hb]; exact he j hj
       have i1 : Has_ent wr b (off + k * 20) := ⟨x, e1⟩
       have i2 : of_ent wr b (off + k * 20) = x := of_ent_eq e1
       have HE1 := Lib.hid (fun w' (h : Below wr.heap.size wr w') => show w'.cell? ⟨b, off + k * 20 + 1 + 1, none⟩ = some (.string ⟨x.leg.fix.toArray⟩) from by
         rw [h.cell (p := ⟨b, _, none⟩) (Nat.lt_of_lt_of_le hb BW.size), Nat.add_assoc]; exact e1 2 (by omega))
       have hcall := Lib.hid (eends_any x wr)
       clear e1 he
       cases hen : endsE x with
       | false =>
         rw [hen] at hcall HX
         have HR := Lib.hid (show out = findGo from_ ref (l.drop (k + 1)) (k + 1) from HX.out)
         clear HX
         go_wp2_with (go_at_call 121; (with_reducible refine callR hcall.out ?_); intro w1 b1 _ _ _)
         go_roundw
         case rel => exact ⟨k + 1, by omega, by omega, by go_num, HR.out, below_step BW b1⟩
         case measure => simp [intOf]; omega
       | true =>
         rw [hen] at hcall HX
         by_cases hfx : x.leg.fix = ref
         · have HR := Lib.hid (show out = (k : Int) by rw [HX.out, if_pos (by simp [hfx])])
           have h1 : (x.leg.fix == ref) = true := by simpa using hfx
           clear HX hfx
           go_wp2_with (go_at_call 121; (with_reducible refine callR hcall.out ?_); intro w1 b1 _ _ _; have q := HE1.out w1 b1)
           go_ret
           exact Ret.int HR.out.symm (below_step BW b1)
         · have HR := Lib.hid (show out = findGo from_ ref (l.drop (k + 1)) (k + 1) by rw [HX.out, if_neg (by simp [hfx])])
           have h1 : (x.leg.fix == ref) = false := by simpa using hfx
           clear HX hfx
           go_wp2_with (go_at_call 121; (with_reducible refine callR hcall.out ?_); intro w1 b1 _ _ _; have q := HE1.out w1 b1)
           go_roundw
           case rel => exact ⟨k + 1, by omega, by omega, by go_num, HR.out, below_step BW b1⟩
           case measure => simp [intOf]; omega
     · have HR := Lib.hid (show out = -1 by rw [HQ.out, List.drop_of_length_le (by omega)]; rfl)
       go_wp2
       go_ret
       exact Ret.int HR.out.symm BW
end Go.Proofs.YtlggdgpdfepppaaGreatDoor
namespace Go.Proofs.YtlggdgpdfepppaaGreatDoor
open Go.RowKit Go.ChangeShapes Go.WideShapes Go.Deep
set_option linter.unusedVariables false
set_option linter.unusedSimpArgs false
theorem bulk_one {H : Type} (d : DataW H) : 1 ≤ Rows.uptoBulk d := by
  cases d with
  | lit l => cases l <;> simp [Rows.uptoBulk]
  | nil => simp [Rows.uptoBulk]
  | ptr d => simp [Rows.uptoBulk]
  | slice elems spare => simp [Rows.uptoBulk]
  | agg parts => simp [Rows.uptoBulk]
  | iface t d => simp [Rows.uptoBulk]
  | map entries => simp [Rows.uptoBulk]
  | held h => simp [Rows.uptoBulk]
theorem bulk_part {H : Type} {d : DataW H} {l : List (DataW H)} (h : d ∈ l) : Rows.uptoBulk d ≤ Rows.uptoBulkAll l := by
  induction l with
  | nil => cases h
  | cons x r ih =>
    simp only [Rows.uptoBulkAll]
    cases List.mem_cons.1 h with
    | inl e => subst e; omega
    | inr e => have := ih e; omega
theorem bulk_len {H : Type} (l : List (DataW H)) : l.length ≤ Rows.uptoBulkAll l := by
  induction l with
  | nil => simp [Rows.uptoBulkAll]
  | cons x r ih => have := bulk_one x; simp only [Rows.uptoBulkAll, List.length_cons]; omega
theorem list2 {α : Type _} {l : List α} (h : l.length = 2) : ∃ x0 x1, l = [x0, x1] := by
  match l, h with
  | [x0, x1], _ => exact ⟨x0, x1, rfl⟩
theorem list4 {α : Type _} {l : List α} (h : l.length = 4) : ∃ x0 x1 x2 x3, l = [x0, x1, x2, x3] := by
  match l, h with
  | [x0, x1, x2, x3], _ => exact ⟨x0, x1, x2, x3, rfl⟩
theorem list6 {α : Type _} {l : List α} (h : l.length = 6) : ∃ x0 x1 x2 x3 x4 x5, l = [x0, x1, x2, x3, x4, x5] := by
  match l, h with
  | [x0, x1, x2, x3, x4, x5], _ => exact ⟨x0, x1, x2, x3, x4, x5, rfl⟩
theorem list12 {α : Type _} {l : List α} (h : l.length = 12) : ∃ x0 x1 x2 x3 x4 x5 x6 x7 x8 x9 x10 x11, l = [x0, x1, x2, x3, x4, x5, x6, x7, x8, x9, x10, x11] := by
  match l, h with
  | [x0, x1, x2, x3, x4, x5, x6, x7, x8, x9, x10, x11], _ => exact ⟨x0, x1, x2, x3, x4, x5, x6, x7, x8, x9, x10, x11, rfl⟩
theorem list13 {α : Type _} {l : List α} (h : l.length = 13) : ∃ x0 x1 x2 x3 x4 x5 x6 x7 x8 x9 x10 x11 x12, l = [x0, x1, x2, x3, x4, x5, x6, x7, x8, x9, x10, x11, x12] := by
  match l, h with
  | [x0, x1, x2, x3, x4, x5, x6, x7, x8, x9, x10, x11, x12], _ => exact ⟨x0, x1, x2, x3, x4, x5, x6, x7, x8, x9, x10, x11, x12, rfl⟩
theorem list20 {α : Type _} {l : List α} (h : l.length = 20) : ∃ x0 x1 x2 x3 x4 x5 x6 x7 x8 x9 x10 x11 x12 x13 x14 x15 x16 x17 x18 x19, l = [x0, x1, x2, x3, x4, x5, x6, x7, x8, x9, x10, x11, x12, x13, x14, x15, x16, x17, x18, x19] := by
  match l, h with
  | [x0, x1, x2, x3, x4, x5, x6, x7, x8, x9, x10, x11, x12, x13, x14, x15, x16, x17, x18, x19], _ => exact ⟨x0, x1, x2, x3, x4, x5, x6, x7, x8, x9, x10, x11, x12, x13, x14, x15, x16, x17, x18, x19, rfl⟩
theorem cells_i64 : Tryz.prog.cellsOf 2 = 1 := by kernel_rfl
theorem cells_int : Tryz.prog.cellsOf 3 = 1 := by kernel_rfl
theorem cells_bool : Tryz.prog.cellsOf 4 = 1 := by kernel_rfl
theorem cells_str : Tryz.prog.cellsOf 9 = 1 := by kernel_rfl
theorem cells_u8 : Tryz.prog.cellsOf 5 = 1 := by kernel_rfl
theorem list_of {α : Type} {P : Nat → α → Prop} : ∀ (n : Nat), (∀ i, i < n → ∃ x, P i x) → ∃ l : List α, l.length = n ∧ ∀ i x, l[i]? = some x → P i x
  | 0, _ => ⟨[], rfl, by simp⟩
  | n + 1, h => by
    obtain ⟨l, hl, hp⟩ := list_of n fun i hi => h i (by omega)
    obtain ⟨x, hx⟩ := h n (by omega)
    refine ⟨l ++ [x], by simp [hl], fun i y hy => ?_⟩
    rcases Nat.lt_or_ge i l.length with hi | hi
    · rw [List.getElem?_append_left hi] at hy; exact hp i y hy
    · rw [List.getElem?_append_right hi] at hy
      have h0 : i - l.length = 0 := by
        rcases Nat.eq_zero_or_pos (i - l.length) with h0 | h0
        · exact h0
        · rw [List.getElem?_eq_none (by simp; omega)] at hy; cases hy
      rw [h0] at hy
      simp at hy
      subst hy
      have : i = n := by omega
      subst this; exact hx
section
variable {H : Type} {enc : TypeId × Value → H} {w : World} {base : Nat} {spare : Nat → Bool} {held : Bool}
theorem fld {n : Nat} {cs : List Value} {fs : Array Field} {xs : List (DataW H × List MemPlace)} (hf : ∀ (i : Nat) (f : Field), fs[i]? = some f → DataW.trod enc Tryz.prog w base spare held n f.type ((cs.drop f.offset).take (Tryz.prog.cellsOf f.type)) = xs[i]?)
    (i ty off k : Nat) (h : (fs[i]?).map (fun f => (f.type, f.offset)) = some (ty, off)) (hk : Tryz.prog.cellsOf ty = k) : DataW.trod enc Tryz.prog w base spare held n ty ((cs.drop off).take k) = xs[i]? := by
  cases hi : fs[i]? with
  | none => simp [hi] at h
  | some f =>
    simp [hi] at h
    have := hf i f hi
    rw [h.1, h.2, hk] at this
    exact this
theorem open_two {t : TypeId} {fuel : Nat} {cs : List Value} {y : DataW H × List MemPlace} {f0 f1 : Field} (hu : Tryz.prog.underlying t = some (.struct #[f0, f1])) (hc : Tryz.prog.cellsOf t = 2)
    (h0 : f0.type = 2 ∧ f0.offset = 0) (h1 : f1.type = 2 ∧ f1.offset = 1) (h : DataW.trod enc Tryz.prog w base spare held fuel t cs = some y) : ∃ a b, cs = [.int .i64 a, .int .i64 b] := by
  obtain ⟨xs, n, _, hx, hlen, hxl, hf⟩ := DataW.trod_struct hu h
  rw [hc] at hlen
  obtain ⟨a, b, rfl⟩ := list2 hlen
  obtain ⟨y0, y1, rfl⟩ := list2 hxl
  have g0 := hf 0 f0 rfl
  have g1 := hf 1 f1 rfl
  rw [h0.1, h0.2, cells_i64] at g0
  rw [h1.1, h1.2, cells_i64] at g1
  obtain ⟨a', e0, _⟩ := DataW.trod_int Tryz.underlying2 g0
  obtain ⟨b', e1, _⟩ := DataW.trod_int Tryz.underlying2 g1
  simp at e0 e1
  exact ⟨a', b', by rw [e0, e1]⟩
theorem open_str {fuel : Nat} {v : Value} {y : DataW H × List MemPlace} (h : DataW.trod enc Tryz.prog w base spare held fuel 9 [v] = some y) : ∃ s : List UInt8, v = .string ⟨s.toArray⟩ ∧ s.length + 1 = Rows.uptoBulk y.1 := by
  obtain ⟨s, e, hx, _⟩ := DataW.trod_string Tryz.underlying9 h
  refine ⟨s.data.toList, by simpa using e, ?_⟩
  rw [hx]; simp [Rows.uptoBulk]
theorem open_items {α : Type} {ts te : TypeId} {n : Nat} (arrOf : α → Array Value) (bnd : α → Nat → Prop) (hmono : ∀ x a b, a ≤ b → bnd x a → bnd x b) (hut : Tryz.prog.underlying ts = some (.slice te)) (hce : Tryz.prog.cellsOf te = n) (hn : 0 < n) (hsz : ∀ x, (arrOf x).size = n)
    (hopen : ∀ {fuel : Nat} {cs : List Value} {y : DataW H × List MemPlace}, DataW.trod enc Tryz.prog w base spare held fuel te cs = some y → ∃ x, cs = (arrOf x).toList ∧ bnd x (Rows.uptoBulk y.1))
    {fuel : Nat} {v : Value} {y : DataW H × List MemPlace} (h : DataW.trod enc Tryz.prog w base spare held fuel ts [v] = some y) :
    ∃ (l : List α) (A : Option Addr) (c : Nat), v = .slice A l.length c ∧ l.length ≤ c ∧ c ≤ maxLen ∧ Items w A n (l.map arrOf) ∧ l.length ≤ Rows.uptoBulk y.1 ∧ ∀ x ∈ l, bnd x (Rows.uptoBulk y.1) := by
  rcases open_slice hut h with ⟨h0, hx⟩ | ⟨a, len, cap, m, n', D, Pl, hcs, hb, hl, hm, hmm, hx, hi⟩
  · exact ⟨[], none, 0, by simpa using h0, by simp, by unfold maxLen; omega, Items.nil _ _ _, by simp, by simp⟩
  · rw [hce] at hi
    have hlm : len ≤ m := by rw [hmm]; split <;> omega
    obtain ⟨es, hel, hes⟩ := list_of (P := fun i (x : α) => (∀ j, j < n → w.cell? ((a.add (i * n)).add j) = (arrOf x)[j]?) ∧ bnd x (Rows.uptoBulk (D i))) len (fun i hil => by
      obtain ⟨cs', hc, ht⟩ := hi i (by omega)
      obtain ⟨x, e, b1⟩ := hopen ht
      obtain ⟨_, hcl, hat⟩ := World.cells?_some hc
      refine ⟨x, fun j hj => ?_, b1⟩
      rw [hat j hj, e]; simp)
    have hbk : Rows.uptoBulkAll ((List.range len).map D) + 1 ≤ Rows.uptoBulk y.1 := by rw [hx]; simp only [Rows.uptoBulk]; omega
    have hD : ∀ i, i < len → Rows.uptoBulk (D i) ≤ Rows.uptoBulk y.1 := fun i hil => by
      have := bulk_part (show D i ∈ (List.range len).map D from List.mem_map.2 ⟨i, by simpa using hil, rfl⟩)
      omega
    have hln := bulk_len ((List.range len).map D)
    simp only [List.length_map, List.length_range] at hln
    refine ⟨es, some a, cap, by rw [hel]; simpa using hcs, by omega, by omega, ⟨fun hne => ?_⟩, by omega, fun x hx' => ?_⟩
    · obtain ⟨b, off, spot⟩ := a
      have hne' : es ≠ [] := by rintro rfl; exact hne rfl
      have hpos : 0 < es.length := List.length_pos_iff.2 hne'
      have h0 := (hes 0 es[0] (List.getElem?_eq_getElem hpos)).1 0 hn
      have hv : ∃ u, (arrOf es[0])[0]? = some u := ⟨_, Array.getElem?_eq_getElem (by rw [hsz]; exact hn)⟩
      obtain ⟨u, hv⟩ := hv
      have hsp : spot = none := by
        cases spot with
        | none => rfl
        | some q =>
          exfalso
          rw [hv] at h0
          unfold World.cell? Addr.add at h0
          split at h0 <;> simp at h0
      subst hsp
      refine ⟨b, off, rfl, ?_, fun i x hx' j hj => ?_⟩
      · rw [hv, addr_add, addr_add] at h0
        exact block_lt_of_cell h0
      · rw [List.getElem?_map] at hx'
        cases hq : es[i]? with
        | none => rw [hq] at hx'; cases hx'
        | some z =>
          rw [hq] at hx'
          obtain rfl : arrOf z = x := by simpa using hx'
          have := (hes i z hq).1 j hj
          rw [addr_add, addr_add] at this
          exact this
    · obtain ⟨i, hi', hxi⟩ := List.getElem_of_mem hx'
      have hb := (hes i x (by rw [← hxi]; exact List.getElem?_eq_getElem hi')).2
      exact hmono _ _ _ (hD i (by omega)) hb
end
end Go.Proofs.YtlggdgpdfepppaaGreatDoor
namespace Go.Proofs.YtlggdgpdfepppaaGreatDoor
open Go.RowKit Go.ChangeShapes Go.WideShapes Go.Deep
set_option linter.unusedVariables false
set_option linter.unusedSimpArgs false
theorem cells_lt : Tryz.prog.cellsOf 75 = 1 := by kernel_rfl
theorem cells_sec : Tryz.prog.cellsOf 80 = 1 := by kernel_rfl
theorem cells_win : Tryz.prog.cellsOf 56 = 2 := by kernel_rfl
theorem cells_pt : Tryz.prog.cellsOf 79 = 2 := by kernel_rfl
theorem cells_leg : Tryz.prog.cellsOf 77 = 13 := by kernel_rfl
theorem cells_ent : Tryz.prog.cellsOf 82 = 20 := by kernel_rfl
theorem cells_es : Tryz.prog.cellsOf 22 = 1 := by kernel_rfl
theorem cells_plan : Tryz.prog.cellsOf 24 = 4 := by kernel_rfl
section
variable {H : Type} {enc : TypeId × Value → H} {w : World} {base : Nat} {spare : Nat → Bool} {held : Bool}
theorem open_leg {fuel : Nat} {cs : List Value} {y : DataW H × List MemPlace} (h : DataW.trod enc Tryz.prog w base spare held fuel 77 cs = some y) : ∃ l : Leg, cs = l.arr.toList ∧ l.fix.length ≤ Rows.uptoBulk y.1 ∧ l.center.length ≤ Rows.uptoBulk y.1 := by
  obtain ⟨xs, n, _, hx, hlen, hxl, hf⟩ := DataW.trod_struct Tryz.underlying77 h
  rw [cells_leg] at hlen
  obtain ⟨c0, c1, c2, c3, c4, c5, c6, c7, c8, c9, c10, c11, c12, rfl⟩ := list13 hlen
  obtain ⟨y0, y1, y2, y3, y4, y5, y6, y7, y8, y9, y10, y11, rfl⟩ := list12 hxl
  have g0 := fld hf 0 75 0 1 rfl cells_lt
  have g1 := fld hf 1 9 1 1 rfl cells_str
  have g2 := fld hf 2 9 2 1 rfl cells_str
  have g3 := fld hf 3 5 3 1 rfl cells_u8
  have g4 := fld hf 4 4 4 1 rfl cells_bool
  have g5 := fld hf 5 2 5 1 rfl cells_i64
  have g6 := fld hf 6 2 6 1 rfl cells_i64
  have g7 := fld hf 7 2 7 1 rfl cells_i64
  have g8 := fld hf 8 2 8 1 rfl cells_i64
  have g9 := fld hf 9 56 9 2 rfl cells_win
  have g10 := fld hf 10 2 11 1 rfl cells_i64
  have g11 := fld hf 11 2 12 1 rfl cells_i64
  simp only [List.drop_succ_cons, List.drop_zero, List.take_succ_cons, List.take_zero, List.getElem?_cons_succ, List.getElem?_cons_zero] at g0 g1 g2 g3 g4 g5 g6 g7 g8 g9 g10 g11
  obtain ⟨v0, e0, _⟩ := DataW.trod_int Tryz.underlying75 g0
  obtain ⟨v1, e1, b1⟩ := open_str g1
  obtain ⟨v2, e2, b2⟩ := open_str g2
  obtain ⟨v3, e3, _⟩ := DataW.trod_int Tryz.underlying5 g3
  obtain ⟨v4, e4, _⟩ := DataW.trod_bool Tryz.underlying4 g4
  obtain ⟨v5, e5, _⟩ := DataW.trod_int Tryz.underlying2 g5
  obtain ⟨v6, e6, _⟩ := DataW.trod_int Tryz.underlying2 g6
  obtain ⟨v7, e7, _⟩ := DataW.trod_int Tryz.underlying2 g7
  obtain ⟨v8, e8, _⟩ := DataW.trod_int Tryz.underlying2 g8
  obtain ⟨v9, v10, e9⟩ := open_two Tryz.underlying56 cells_win ⟨rfl, rfl⟩ ⟨rfl, rfl⟩ g9
  obtain ⟨v11, e11, _⟩ := DataW.trod_int Tryz.underlying2 g10
  obtain ⟨v12, e12, _⟩ := DataW.trod_int Tryz.underlying2 g11
  simp only [List.cons.injEq, and_true] at e0 e3 e4 e5 e6 e7 e8 e9 e11 e12
  obtain ⟨e9, e10⟩ := e9
  have hy : Rows.uptoBulk y.1 = Rows.uptoBulkAll [y0.1, y1.1, y2.1, y3.1, y4.1, y5.1, y6.1, y7.1, y8.1, y9.1, y10.1, y11.1] + 1 := by rw [hx]; simp [Rows.uptoBulk]
  have p1 : Rows.uptoBulk y1.1 ≤ Rows.uptoBulkAll [y0.1, y1.1, y2.1, y3.1, y4.1, y5.1, y6.1, y7.1, y8.1, y9.1, y10.1, y11.1] := bulk_part (by simp)
  have p2 : Rows.uptoBulk y2.1 ≤ Rows.uptoBulkAll [y0.1, y1.1, y2.1, y3.1, y4.1, y5.1, y6.1, y7.1, y8.1, y9.1, y10.1, y11.1] := bulk_part (by simp)
  refine ⟨⟨v0, v1, v2, v3, v4, v5, v6, v7, v8, v9, v10, v11, v12⟩, ?_, ?_, ?_⟩
  · rw [e0, e1, e2, e3, e4, e5, e6, e7, e8, e9, e10, e11, e12]; rfl
  · show v1.length ≤ _; omega
  · show v2.length ≤ _; omega
theorem open_ent {fuel : Nat} {cs : List Value} {y : DataW H × List MemPlace} (h : DataW.trod enc Tryz.prog w base spare held fuel 82 cs = some y) :
    ∃ x : Entry, cs = x.arr.toList ∧ x.leg.fix.length ≤ Rows.uptoBulk y.1 ∧ x.leg.center.length ≤ Rows.uptoBulk y.1 ∧ x.via.length ≤ Rows.uptoBulk y.1 := by
  obtain ⟨xs, n, _, hx, hlen, hxl, hf⟩ := DataW.trod_struct Tryz.underlying82 h
  rw [cells_ent] at hlen
  obtain ⟨c0, c1, c2, c3, c4, c5, c6, c7, c8, c9, c10, c11, c12, c13, c14, c15, c16, c17, c18, c19, rfl⟩ := list20 hlen
  obtain ⟨y0, y1, y2, y3, y4, y5, rfl⟩ := list6 hxl
  have g0 := fld hf 0 4 0 1 rfl cells_bool
  have g1 := fld hf 1 77 1 13 rfl cells_leg
  have g2 := fld hf 2 79 14 2 rfl cells_pt
  have g3 := fld hf 3 79 16 2 rfl cells_pt
  have g4 := fld hf 4 80 18 1 rfl cells_sec
  have g5 := fld hf 5 9 19 1 rfl cells_str
  simp only [List.drop_succ_cons, List.drop_zero, List.take_succ_cons, List.take_zero, List.getElem?_cons_succ, List.getElem?_cons_zero] at g0 g1 g2 g3 g4 g5
  obtain ⟨v0, e0, _⟩ := DataW.trod_bool Tryz.underlying4 g0
  obtain ⟨l, e1, b1, b2⟩ := open_leg g1
  obtain ⟨v2, v3, e2⟩ := open_two Tryz.underlying79 cells_pt ⟨rfl, rfl⟩ ⟨rfl, rfl⟩ g2
  obtain ⟨v4, v5, e3⟩ := open_two Tryz.underlying79 cells_pt ⟨rfl, rfl⟩ ⟨rfl, rfl⟩ g3
  obtain ⟨v6, e4, _⟩ := DataW.trod_int Tryz.underlying80 g4
  obtain ⟨v7, e5, b5⟩ := open_str g5
  have hy : Rows.uptoBulk y.1 = Rows.uptoBulkAll [y0.1, y1.1, y2.1, y3.1, y4.1, y5.1] + 1 := by rw [hx]; simp [Rows.uptoBulk]
  have p1 : Rows.uptoBulk y1.1 ≤ Rows.uptoBulkAll [y0.1, y1.1, y2.1, y3.1, y4.1, y5.1] := bulk_part (by simp)
  have p5 : Rows.uptoBulk y5.1 ≤ Rows.uptoBulkAll [y0.1, y1.1, y2.1, y3.1, y4.1, y5.1] := bulk_part (by simp)
  refine ⟨⟨v0, l, v2, v3, v4, v5, v6, v7⟩, ?_, ?_, ?_, ?_⟩
  · simp only [List.cons.injEq, and_true] at e0 e2 e3 e4
    have e1' : [c1, c2, c3, c4, c5, c6, c7, c8, c9, c10, c11, c12, c13] = l.arr.toList := e1
    have : [c0, c1, c2, c3, c4, c5, c6, c7, c8, c9, c10, c11, c12, c13, c14, c15, c16, c17, c18, c19] = [c0] ++ [c1, c2, c3, c4, c5, c6, c7, c8, c9, c10, c11, c12, c13] ++ [c14, c15, c16, c17, c18, c19] := rfl
    rw [this, e1', e0, e2.1, e2.2, e3.1, e3.2, e4, e5]; rfl
  · show l.fix.length ≤ _; omega
  · show l.center.length ≤ _; omega
  · show v7.length ≤ _; omega
end
section
variable {H : Type} {enc : TypeId × Value → H} {w : World} {base : Nat} {spare : Nat → Bool} {held : Bool}
theorem open_ents {fuel : Nat} {v : Value} {y : DataW H × List MemPlace} (h : DataW.trod enc Tryz.prog w base spare held fuel 22 [v] = some y) :
    ∃ (es : List Entry) (A : Option Addr) (c : Nat), v = .slice A es.length c ∧ es.length ≤ c ∧ Ents w A es ∧ es.length ≤ Rows.uptoBulk y.1 ∧ ∀ x ∈ es, x.leg.fix.length ≤ Rows.uptoBulk y.1 ∧ x.leg.center.length ≤ Rows.uptoBulk y.1 ∧ x.via.length ≤ Rows.uptoBulk y.1 := by
  rcases open_slice Tryz.underlying22 h with ⟨h0, hx⟩ | ⟨a, len, cap, m, n, D, Pl, hcs, hb, hl, hm, hmm, hx, hi⟩
  · exact ⟨[], none, 0, by simpa using h0, by simp, Ents.nil _ _, by simp, by simp⟩
  · rw [cells_ent] at hi
    have hlm : len ≤ m := by rw [hmm]; split <;> omega
    obtain ⟨es, hel, hes⟩ := list_of (P := fun i (x : Entry) => (∀ j, j < 20 → w.cell? ((a.add (i * 20)).add j) = x.arr[j]?) ∧ x.leg.fix.length ≤ Rows.uptoBulk (D i) ∧ x.leg.center.length ≤ Rows.uptoBulk (D i) ∧ x.via.length ≤ Rows.uptoBulk (D i)) len (fun i hil => by
      obtain ⟨cs', hc, ht⟩ := hi i (by omega)
      obtain ⟨x, e, b1, b2, b3⟩ := open_ent ht
      obtain ⟨_, hcl, hat⟩ := World.cells?_some hc
      refine ⟨x, fun j hj => ?_, b1, b2, b3⟩
      rw [hat j hj, e]; simp)
    have hbk : Rows.uptoBulkAll ((List.range len).map D) + 1 ≤ Rows.uptoBulk y.1 := by rw [hx]; simp only [Rows.uptoBulk]; omega
    have hD : ∀ i, i < len → Rows.uptoBulk (D i) ≤ Rows.uptoBulk y.1 := fun i hil => by
      have := bulk_part (show D i ∈ (List.range len).map D from List.mem_map.2 ⟨i, by simpa using hil, rfl⟩)
      omega
    have hln := bulk_len ((List.range len).map D)
    simp only [List.length_map, List.length_range] at hln
    refine ⟨es, some a, cap, by rw [hel]; simpa using hcs, by omega, ⟨fun hne => ?_⟩, by omega, fun x hx' => ?_⟩
    · obtain ⟨b, off, spot⟩ := a
      have hpos : 0 < es.length := List.length_pos_iff.2 hne
      have h0 := (hes 0 es[0] (List.getElem?_eq_getElem hpos)).1 0 (by omega)
      have hsp : spot = none := by
        cases spot with
        | none => rfl
        | some q =>
          exfalso
          rw [Entry.arr0] at h0
          unfold World.cell? Addr.add at h0
          split at h0 <;> simp at h0
      subst hsp
      refine ⟨b, off, rfl, ?_, fun i x hx' j hj => ?_⟩
      · rw [Entry.arr0, addr_add, addr_add] at h0
        exact block_lt_of_cell h0
      · have := (hes i x hx').1 j hj
        rw [addr_add, addr_add] at this
        exact this
    · obtain ⟨i, hi', hxi⟩ := List.getElem_of_mem hx'
      have hb := (hes i x (by rw [← hxi]; exact List.getElem?_eq_getElem hi')).2
      have := hD i (by omega)
      omega
end
end Go.Proofs.YtlggdgpdfepppaaGreatDoor
namespace Go.Proofs.YtlggdgpdfepppaaGreatDoor
open Go.RowKit Go.ChangeShapes Go.WideShapes Go.Deep
set_option linter.unusedVariables false
set_option linter.unusedSimpArgs false
theorem laidVars_mem {w : World} : ∀ {l : List (String × DataW Unit)} {ps : List MemPlace}, DataW.LaidVars Tryz.prog w l ps → ∀ n d, (n, d) ∈ l →
    ∃ g t cs fuel p, Tryz.prog.globalNamed n = some g ∧ (Tryz.prog.globals[g]?).map (·.type) = some t ∧ w.var? Tryz.prog n = some cs ∧ DataW.trod (fun _ => ()) Tryz.prog w 0 (fun _ => true) false fuel t cs.toList = some (d, p)
  | [], _, _, n, d, hm => by cases hm
  | (n', d') :: r, ps, h, n, d, hm => by
    obtain ⟨g, t, cs, fuel, p, q, h1, h2, h3, h4, h5, _⟩ := h
    rcases List.mem_cons.1 hm with e | hm
    · injection e with e1 e2
      subst e1; subst e2
      exact ⟨g, t, cs, fuel, p, h1, h2, h3, h4⟩
    · exact laidVars_mem h5 n d hm
theorem tab_of {w : World} {l : List (String × DataW Unit)} {ps : List MemPlace} (h : DataW.LaidVars Tryz.prog w l ps) {n : String} {k : IntKind} {zs : List Int} {g : Nat} {t e : TypeId} {m : Nat}
    (hg : Tryz.prog.globalNamed n = some g) (hty : (Tryz.prog.globals[g]?).map (·.type) = some t) (ht : Tryz.prog.underlying t = some (.array m e)) (he : Tryz.prog.underlying e = some (.int k)) (hce : Tryz.prog.cellsOf e = 1) (hct : Tryz.prog.cellsOf t = m)
    (hm : (n, Lib.tabData k zs) ∈ l) : Lib.TabIs Tryz.prog w n k zs := by
  obtain ⟨g', t', cs, fuel, p, hg', ht', hvar, hd⟩ := laidVars_mem h n _ hm
  obtain rfl := Option.some.inj (hg.symm.trans hg')
  obtain rfl := Option.some.inj (hty.symm.trans ht')
  unfold Lib.TabIs
  rw [hvar, ← Lib.cells_of_tab ht he hce hct hd]
theorem gUses : Tryz.prog.globalNamed "flightdeck/leg.uses" = some 0 := by kernel_rfl
section
variable {H : Type} {enc : TypeId × Value → H} {w : World} {base : Nat} {spare : Nat → Bool} {held : Bool}
end
end Go.Proofs.YtlggdgpdfepppaaGreatDoor
namespace Go.Proofs.YtlggdgpdfepppaaGreatDoor
open Go.RowKit Go.Sort
set_option linter.unusedVariables false
set_option linter.unusedSimpArgs false
set_option maxRecDepth 100000
theorem alloc_belowE (w : World) (o : Obj) : Below w.heap.size w (w.alloc o) := (Below.refl _ _).alloc (Nat.le_refl _) _
theorem between_any (n lo hi : Int) (w : World) : Calls Tryz.prog 114 #[.int .i64 n, .int .i64 lo, .int .i64 hi] w (RetP w (.int .i64 (betweenS n lo hi))) := by
  go_enter Tryz.func114, Tryz.ntmps114
  go_wp2
  all_goals (go_ret; exact RetP.int (by grind [betweenS]) rfl)
theorem named_any (b : Bool) (w : World) : Calls Tryz.prog 115 #[.bool b] w (RetP w (.int .i64 (namedS b))) := by
  cases b
  all_goals
    go_enter Tryz.func115, Tryz.ntmps115
    go_wp2
    go_ret
    exact RetP.int rfl rfl
theorem eplace_any (l : List UInt8) (w : World) (hL : Laid w) (hl : l.length ≤ 4000000000) : Calls Tryz.prog 116 #[.string ⟨l.toArray⟩] w (RetQ w (.bool (pairB l 47 6))) := by
  have hc := cutAt_len 47 l
  generalize hq : cutAt 47 l = q at hc
  obtain ⟨a, b, f⟩ := q
  have hs := Lib.hid (show pairB l 47 6 = pair3 (a, b, f) 6 by rw [pairB, hq])
  have HQ := Lib.hid hq; clear hq
  simp only at hc
  obtain ⟨ha, hb⟩ := hc
  go_enter Tryz.func116, Tryz.ntmps116
  go_wp2_with fail
  refine (cut_any l 47 w hL hl).mono ?_
  rintro e w' ⟨rfl, n, rfl⟩
  rw [HQ.out]
  cases f
  all_goals
    go_wp2_with (go_at_call 81; refine callP (name_any _ _ _ (by omega)) ?_)
    all_goals (go_ret; exact RetQ.bool (by rw [hs.out]; grind [pair3]) ⟨_, rfl⟩)
def bwin (parts : Array (Nat × Value)) : Sem Value := Instr.build 56 parts
theorem bwin_fold (parts : Array (Nat × Value)) : Instr.build 56 parts = bwin parts := rfl
theorem run_bwin0 (w : World) : (bwin #[]).run Tryz.prog w = .ok (.agg (Win.arr ⟨0, 0⟩)) w := run_build w _ _ _ (by kernel_rfl)
attribute [local go_sem ↓] bwin_fold
attribute [local go_sem] run_bwin0 run_neq_win
theorem edt_box (w : World) (e : EditV) : Blk (w.alloc (.cells e.arr 58)) w.heap.size e.arr ∧ Below w.heap.size w (w.alloc (.cells e.arr 58)) := ⟨Blk.new _ _ _, alloc_belowE _ _⟩
theorem zero_any (e : EditV) (c : UInt8) (hc : c ∈ edOrder) (w : World) : Calls Tryz.prog 86 #[.agg e.arr, .int .u8 (c.toNat : Int)] w (Ret w (.bool (zeroF e c))) := by
  obtain ⟨X0, B0⟩ := edt_box w e
  simp only [edOrder, List.mem_cons, List.not_mem_nil, or_false] at hc
  rcases hc with rfl | rfl | rfl | rfl | rfl | rfl | rfl | rfl | rfl | rfl
  all_goals
    go_enter Tryz.func86, Tryz.ntmps86
    go_upto_region 1 with (fail)
    generalize w.alloc _ = W at X0 B0 ⊢
    generalize w.heap.size = g at X0 ⊢
    have k := X0.cell
    have i1 : Has_win W g 6 := ⟨_, X0.edt_win⟩
    have i2 : of_win W g 6 = ⟨e.lo, e.hi⟩ := of_win_eq X0.edt_win
    have HE := Lib.hid (show zeroF e 104 = (e.lo == 0 && e.hi == 0) from rfl)
    go_wp2
    all_goals (go_ret; refine Ret.bool ?_ B0)
    all_goals first
      | rfl
      | (rw [HE.out]; grind)
theorem echeck_name (e : EditV) (hs : e.small) (w : World) (hL : Laid w) : Calls Tryz.prog 87 #[.agg e.arr, .int .u8 110] w (Ret w (.int .i64 (checkF e 110))) := by
  obtain ⟨X0, B0⟩ := edt_box w e
  obtain ⟨s1, s2, s3, s4⟩ := hs
  have L0 := hL.below B0
  have kpl := Lib.hid (eplace_any e.name (w.alloc (.cells e.arr 58)) L0 s2)
  have kn8 := Lib.hid (fun w => name_any e.name 8 w (by omega))
  have kd := Lib.hid named_any
  have HE := Lib.hid (show checkF e 110 = if e.op = 12 then namedS (pairB e.name 47 6) else namedS (nameB e.name 8) from rfl)
  generalize checkF e 110 = out at HE ⊢
  generalize pairB e.name 47 6 = b1 at kpl HE
  generalize nameB e.name 8 = b2 at kn8 HE
  go_enter Tryz.func87, Tryz.ntmps87
  go_upto_region 1 with (fail)
  generalize w.alloc _ = W at X0 B0 kpl ⊢
  generalize w.heap.size = g at X0 ⊢
  have k := X0.cell
  clear X0
  by_cases h12 : e.op = 12
  · have HO := Lib.hid (HE.out.trans (if_pos h12))
    clear HE
    go_wp2_with (first
      | (go_at_call 115; (with_reducible refine callP (kd.out _ _) ?_))
      | (go_at_call 116; (with_reducible refine callQ kpl.out ?_); intro m))
    go_ret
    exact Ret.int HO.out.symm (below_drewN B0 _)
  · have HO := Lib.hid (HE.out.trans (if_neg h12))
    clear HE
    go_wp2_with (first
      | (go_at_call 115; (with_reducible refine callP (kd.out _ _) ?_))
      | (go_at_call 81; (with_reducible refine callP (kn8.out _) ?_)))
    go_ret
    exact Ret.int HO.out.symm B0
theorem echeck_dist (e : EditV) (w : World) : Calls Tryz.prog 87 #[.agg e.arr, .int .u8 100] w (Ret w (.int .i64 (checkF e 100))) := by
  obtain ⟨X0, B0⟩ := edt_box w e
  have kb := Lib.hid between_any
  have HE := Lib.hid (show checkF e 100 = if e.op = 6 then betweenS e.dist 0 120000 else betweenS e.dist 1 2000000 from rfl)
  generalize checkF e 100 = out at HE ⊢
  go_enter Tryz.func87, Tryz.ntmps87
  go_upto_region 1 with (fail)
  generalize w.alloc _ = W at X0 B0 ⊢
  generalize w.heap.size = g at X0 ⊢
  have k := X0.cell
  clear X0
  by_cases h6 : e.op = 6
  · have HO := Lib.hid (HE.out.trans (if_pos h6))
    clear HE
    go_wp2_with (go_at_call 114; (with_reducible refine callP (kb.out _ _ _ _) ?_))
    go_ret
    exact Ret.int HO.out.symm B0
  · have HO := Lib.hid (HE.out.trans (if_neg h6))
    clear HE
    go_wp2_with (go_at_call 114; (with_reducible refine callP (kb.out _ _ _ _) ?_))
    go_ret
    exact Ret.int HO.out.symm B0
set_option maxHeartbeats 4000000 in
theorem echeck_any (e : EditV) (c : UInt8) (hc : c ∈ edOrder) (hs : e.small) (w : World) (hL : Laid w) : Calls Tryz.prog 87 #[.agg e.arr, .int .u8 (c.toNat : Int)] w (Ret w (.int .i64 (checkF e c))) := by
  obtain ⟨X0, B0⟩ := edt_box w e
  obtain ⟨s1, s2, s3, s4⟩ := hs
  have L0 := hL.below B0
  have k114 := Lib.hid (splitRef_any e.ref (w.alloc (.cells e.arr 58)) L0 s1)
  have kpl := Lib.hid (eplace_any e.name (w.alloc (.cells e.arr 58)) L0 s2)
  have kn8 := Lib.hid (name_any e.name 8 (hl := by omega))
  have kr6 := Lib.hid (name_any e.rway 6 (hl := by omega))
  have kt8 := Lib.hid (name_any e.trans 8 (hl := by omega))
  have kb := Lib.hid between_any
  have kd := Lib.hid named_any
  simp only [edOrder, List.mem_cons, List.not_mem_nil, or_false] at hc
  rcases hc with rfl | rfl | rfl | rfl | rfl | rfl | rfl | rfl | rfl | rfl
  case inr.inr.inl => exact echeck_name e ⟨s1, s2, s3, s4⟩ w hL
  case inr.inr.inr.inr.inr.inr.inr.inr.inl => exact echeck_dist e w
  case inr.inl =>
    have HE := Lib.hid (show checkF e 114 = namedS ((splitRef e.ref).2.2 == 0) from rfl)
    generalize checkF e 114 = out at HE ⊢
    generalize splitRef e.ref = x at k114 HE
    obtain ⟨a, b, n⟩ := x
    go_enter Tryz.func87, Tryz.ntmps87
    go_upto_region 1 with (fail)
    generalize w.alloc _ = W at X0 B0 k114 ⊢
    generalize w.heap.size = g at X0 ⊢
    have k := X0.cell
    clear X0
    go_wp2_with (first
      | (go_at_call 115; (with_reducible refine callP (kd.out _ _) ?_))
      | (go_at_call 112; (with_reducible refine callQ k114.out ?_); intro m))
    go_ret
    exact Ret.int HE.out.symm (below_drewN B0 _)
  case inr.inr.inr.inl =>
    have HE := Lib.hid (show checkF e 119 = namedS (e.rway.isEmpty || nameB e.rway 6) from rfl)
    generalize checkF e 119 = out at HE ⊢
    generalize nameB e.rway 6 = b at kr6 HE
    go_enter Tryz.func87, Tryz.ntmps87
    go_upto_region 1 with (fail)
    generalize w.alloc _ = W at X0 B0 ⊢
    generalize w.heap.size = g at X0 ⊢
    have k := X0.cell
    cases hq : e.rway.isEmpty with
    | true =>
      rw [hq] at HE
      go_wp2_with (first | (go_at_call 115; (with_reducible refine callP (kd.out _ _) ?_)) | (go_at_call 81; (with_reducible refine callP (kr6.out _) ?_)))
      go_ret
      exact Ret.int HE.out.symm B0
    | false =>
      rw [hq] at HE
      go_wp2_with (first | (go_at_call 115; (with_reducible refine callP (kd.out _ _) ?_)) | (go_at_call 81; (with_reducible refine callP (kr6.out _) ?_)))
      go_ret
      exact Ret.int HE.out.symm B0
  case inr.inr.inr.inr.inl =>
    have HE := Lib.hid (show checkF e 116 = namedS (e.trans.isEmpty || nameB e.trans 8) from rfl)
    generalize checkF e 116 = out at HE ⊢
    generalize nameB e.trans 8 = b at kt8 HE
    go_enter Tryz.func87, Tryz.ntmps87
    go_upto_region 1 with (fail)
    generalize w.alloc _ = W at X0 B0 ⊢
    generalize w.heap.size = g at X0 ⊢
    have k := X0.cell
    cases hq : e.trans.isEmpty with
    | true =>
      rw [hq] at HE
      go_wp2_with (first | (go_at_call 115; (with_reducible refine callP (kd.out _ _) ?_)) | (go_at_call 81; (with_reducible refine callP (kt8.out _) ?_)))
      go_ret
      exact Ret.int HE.out.symm B0
    | false =>
      rw [hq] at HE
      go_wp2_with (first | (go_at_call 115; (with_reducible refine callP (kd.out _ _) ?_)) | (go_at_call 81; (with_reducible refine callP (kt8.out _) ?_)))
      go_ret
      exact Ret.int HE.out.symm B0
  all_goals
    go_enter Tryz.func87, Tryz.ntmps87
    go_upto_region 1 with (fail)
    generalize w.alloc _ = W at X0 B0 ⊢
    generalize w.heap.size = g at X0 ⊢
    have k := X0.cell
    go_wp2_with (go_at_call 114; (with_reducible refine callP (kb.out _ _ _ _) ?_))
    all_goals (go_ret; refine Ret.int ?_ B0)
    all_goals first
      | rfl
      | (have HE : checkF e 104 = (if e.lo < -200000 ∨ e.hi < e.lo ∨ 6000000 < e.hi then 2 else 0) := rfl; rw [HE]; grind)
      | (have HE : checkF e 117 = (if e.turn = 1 ∨ e.turn = 2 then 0 else 1) := rfl; rw [HE]; grind)
end Go.Proofs.YtlggdgpdfepppaaGreatDoor
namespace Go.Proofs.YtlggdgpdfepppaaGreatDoor
open Go.RowKit Go.Sort
set_option linter.unusedVariables false
set_option linter.unusedSimpArgs false
set_option maxRecDepth 100000
structure FormsAt (w : World) : Prop where
  word : ∀ k : Nat, k ≤ 12 → w.cell? ⟨1, k * 2, none⟩ = some (.string ⟨(formW (k : Int)).toArray⟩)
  flds : ∀ k : Nat, k ≤ 12 → w.cell? ⟨1, k * 2 + 1, none⟩ = some (.string ⟨(formF (k : Int)).toArray⟩)
theorem FormsAt.below {w w' : World} (h : FormsAt w) (hb : Below w.heap.size w w') : FormsAt w' :=
  ⟨fun k hk => by rw [hb.cell (p := ⟨_, k * 2, none⟩) (block_lt_of_cell (h.word k hk))]; exact h.word k hk,
   fun k hk => by rw [hb.cell (p := ⟨_, k * 2 + 1, none⟩) (block_lt_of_cell (h.flds k hk))]; exact h.flds k hk⟩
theorem eindex_any (l : List UInt8) (c : UInt8) (w : World) : Calls Tryz.prog 85 #[.string ⟨l.toArray⟩, .int .u8 (c.toNat : Int)] w (RetP w (.int .i64 (Lib.indexByte l c))) := by
  refine (Tryz.strings_IndexByte ⟨l.toArray⟩ (c.toNat : Int) w).mono fun e w' ⟨h1, h2⟩ => ⟨?_, h2.symm⟩
  rw [h1]
  simp
theorem index_yes {l : List UInt8} {c : UInt8} (h : l.contains c = true) : ¬ Lib.indexByte l c < 0 := by
  have := Lib.contains_iff_indexByte l c
  rw [h] at this
  have := of_decide_eq_true this.symm
  omega
theorem index_no {l : List UInt8} {c : UInt8} (h : l.contains c = false) : Lib.indexByte l c < 0 := by
  have := Lib.contains_iff_indexByte l c
  rw [h] at this
  have := of_decide_eq_false this.symm
  omega
def edCells : Array Value := #[.int .u8 97, .int .u8 114, .int .u8 110, .int .u8 119, .int .u8 116, .int .u8 104, .int .u8 115, .int .u8 99, .int .u8 100, .int .u8 117]
theorem edCells_at : ∀ k : Nat, (h : k < 10) → edCells[k]? = some (.int .u8 ((edOrder[k]'h).toNat : Int)) := by
  intro k h
  match k, h with
  | 0, _ | 1, _ | 2, _ | 3, _ | 4, _ | 5, _ | 6, _ | 7, _ | 8, _ | 9, _ => rfl
set_option maxHeartbeats 4000000 in
theorem editCheck_any (e : EditV) (hs : e.small) (w : World) (hL : Laid w) (hF : FormsAt w) : Calls Tryz.prog 60 #[.agg e.arr] w (Ret w (.int .i64 (editCheck e))) := by
  obtain ⟨X0, B0⟩ := edt_box w e
  by_cases hop : e.op < 1 ∨ 12 < e.op
  · have HO := Lib.hid (show editCheck e = 17 from if_pos hop)
    by_cases h1 : e.op < 1
    · clear hop
      go_enter Tryz.func60, Tryz.ntmps60
      go_upto_region 1 with (fail)
      generalize w.alloc _ = W at X0 B0 ⊢
      generalize w.heap.size = g at X0 ⊢
      have k := X0.cell
      go_wp2
      go_ret
      exact Ret.int HO.out.symm B0
    · have h2 : 12 < e.op := by omega
      clear hop
      go_enter Tryz.func60, Tryz.ntmps60
      go_upto_region 1 with (fail)
      generalize w.alloc _ = W at X0 B0 ⊢
      generalize w.heap.size = g at X0 ⊢
      have k := X0.cell
      go_wp2
      go_ret
      exact Ret.int HO.out.symm B0
  · have HO := Lib.hid (show editCheck e = chkGo e edOrder from if_neg hop)
    obtain ⟨n, hn⟩ : ∃ n : Nat, e.op = n := ⟨e.op.toNat, by omega⟩
    have hn12 : n ≤ 12 := by omega
    have h1 : ¬ e.op < 1 := by omega
    have h2 : ¬ 12 < e.op := by omega
    have f1 := (hF.below B0).flds n hn12
    have hLB := Lib.hid (fun w' (h : Below w.heap.size w w') => hL.below h)
    clear hop
    go_enter Tryz.func60, Tryz.ntmps60
    go_upto_region 3 with (fail)
    generalize w.alloc _ = W at X0 B0 f1 ⊢
    obtain ⟨g, hg⟩ : ∃ g, g = w.heap.size := ⟨_, rfl⟩
    rw [← hg] at X0 ⊢
    clear hg
    have k0 := X0.cell
    have kc := Lib.run_convert_bytes_const (P := Tryz.prog) W 125 5 edCells 10 10 Tryz.underlying125 Tryz.underlying5
    have B1 := below_step B0 (alloc_belowE W (.cells edCells 5 (edCells.size, edCells.size + 1)))
    have X1 := X0.alloc (.cells edCells 5 (edCells.size, edCells.size + 1))
    have hb : ∀ k, (h : k < 10) → (W.alloc (.cells edCells 5 (edCells.size, edCells.size + 1))).cell? ⟨W.heap.size, k, none⟩ = some (.int .u8 ((edOrder[k]'h).toNat : Int)) := fun k h => by
      rw [cell_of_row _ _ k edCells 5 _ (heap_alloc_new W _)]; exact edCells_at k h
    have hsz : W.heap.size < (W.alloc (.cells edCells 5 (edCells.size, edCells.size + 1))).heap.size := by simp
    have HBY := Lib.hid hb
    clear hb
    rw [show edCells.size = 10 from rfl] at kc B1 X1 HBY hsz
    unfold edCells at kc B1 X1 HBY hsz
    go_wp2
    clear kc k0
    generalize W.alloc _ = W1 at B1 X1 HBY hsz ⊢
    generalize W.heap.size = gb at HBY hsz ⊢
    go_loopw [23] (fun i wr => ∃ k : Nat, k ≤ 10 ∧ i = .int .i64 k ∧ chkGo e edOrder = chkGo e (edOrder.drop k) ∧ Below W1.heap.size W1 wr) (fun i _ => 10 - (intOf i).toNat)
    case atStart => exact ⟨0, by omega, rfl, rfl, Below.refl _ _⟩
    case round =>
      obtain ⟨k, hk, rfl, hq, BW⟩ := hrel
      have HQ := Lib.hid hq
      clear hq
      have HXr := Lib.hid (X1.step BW)
      have HBr := Lib.hid (below_step B1 BW)
      by_cases hlt : k < 10
      · have hcb := HBY.out k hlt
        rw [← BW.cell (p := ⟨gb, k, none⟩) hsz] at hcb
        have hlt2 : k < edOrder.length := hlt
        have hcm := List.getElem_mem hlt2
        have HS := Lib.hid (show chkGo e edOrder = orE (stE e (edOrder[k]'hlt)) (chkGo e (edOrder.drop (k + 1))) by rw [HQ.out, List.drop_eq_getElem_cons hlt2]; rfl)
        clear HQ
        generalize edOrder[k]'hlt = c at hcb hcm HS
        obtain ⟨rest, hrest⟩ : ∃ rest, chkGo e (edOrder.drop (k + 1)) = rest := ⟨_, rfl⟩
        rw [hrest] at HS
        have HRS := Lib.hid hrest
        clear hrest
        have kix := Lib.hid (eindex_any (formF (n : Int)) c)
        have hst : stE e c = if (formF (n : Int)).contains c then checkF e c else if zeroF e c then 0 else 1 := by unfold stE; rw [hn]
        have kz := Lib.hid (zero_any e c hcm wr)
        have kk := Lib.hid (echeck_any e c hcm hs wr (hLB.out _ HBr.out))
        have i1 : Has_edt wr g 0 := ⟨_, HXr.out.is_edt⟩
        have i2 : of_edt wr g 0 = e := of_edt_eq HXr.out.is_edt
        have hiy := @index_yes (formF (n : Int)) c
        have hin := @index_no (formF (n : Int)) c
        generalize (formF (n : Int)).contains c = u at hst hiy hin
        generalize Lib.indexByte (formF (n : Int)) c = ix at kix hiy hin
        generalize stE e c = z at HS hst
        generalize checkF e c = zc at kk hst
        generalize zeroF e c = zb at kz hst
        have HIY := Lib.hid hiy
        have HIN := Lib.hid hin
        have HST := Lib.hid hst
        clear hiy hin hst hcm
        cases u with
        | true =>
          have hi := HIY.out rfl
          have HZ := Lib.hid (show z = zc from HST.out)
          clear HST kz HIY HIN
          by_cases hz : zc = 0
          · have HR := Lib.hid (show chkGo e edOrder = rest by rw [HS.out, HZ.out, hz]; rfl)
            subst hz
            clear HS HZ
            go_wp2_with (first | (go_at_call 85; (with_reducible refine callP (kix.out _) ?_)) | (go_at_call 87; (with_reducible refine callR kk.out ?_); intro w2 b2 _ _ _))
            go_roundw
            case rel => exact ⟨k + 1, by omega, by go_num, by rw [HR.out, HRS.out], BW.trans (b2.mono BW.size)⟩
            case measure => simp [intOf]; omega
          · have HR := Lib.hid (show editCheck e = zc by rw [HO.out, HS.out, HZ.out]; simp [orE, hz])
            clear HS HZ
            go_wp2_with (first | (go_at_call 85; (with_reducible refine callP (kix.out _) ?_)) | (go_at_call 87; (with_reducible refine callR kk.out ?_); intro w2 b2 _ _ _))
            go_ret
            exact Ret.int HR.out.symm (below_step HBr.out b2)
        | false =>
          have hi := HIN.out rfl
          cases zb with
          | true =>
            have HR := Lib.hid (show chkGo e edOrder = rest by rw [HS.out, HST.out]; rfl)
            clear HST kk HIY HIN HS
            go_wp2_with (first | (go_at_call 85; (with_reducible refine callP (kix.out _) ?_)) | (go_at_call 86; (with_reducible refine callR kz.out ?_); intro w2 b2 _ _ _))
            go_roundw
            case rel => exact ⟨k + 1, by omega, by go_num, by rw [HR.out, HRS.out], BW.trans (b2.mono BW.size)⟩
            case measure => simp [intOf]; omega
          | false =>
            have HR := Lib.hid (show editCheck e = 1 by rw [HO.out, HS.out, HST.out]; rfl)
            clear HST kk HIY HIN HS
            go_wp2_with (first | (go_at_call 85; (with_reducible refine callP (kix.out _) ?_)) | (go_at_call 86; (with_reducible refine callR kz.out ?_); intro w2 b2 _ _ _))
            go_ret
            exact Ret.int HR.out.symm (below_step HBr.out b2)
      · have HR := Lib.hid (show editCheck e = 0 by rw [HO.out, HQ.out, List.drop_of_length_le (show edOrder.length ≤ k by show 10 ≤ k; omega)]; rfl)
        clear HQ
        go_wp2
        go_ret
        exact Ret.int HR.out.symm HBr.out
end Go.Proofs.YtlggdgpdfepppaaGreatDoor
namespace Go.Proofs.YtlggdgpdfepppaaGreatDoor
open Go.RowKit Go.ChangeShapes Go.WideShapes Go.Deep
set_option linter.unusedVariables false
set_option linter.unusedSimpArgs false
theorem gForms23 : Tryz.prog.globalNamed "flightdeck/edit.forms" = some 1 := by kernel_rfl
theorem gGap23 : Tryz.prog.globalNamed "flightdeck/edit.gap" = some 3 := by kernel_rfl
theorem gFree23 : Tryz.prog.globalNamed "flightdeck/edit.free" = some 4 := by kernel_rfl
structure GapAt (w : World) : Prop where
  gap : ∀ j, j < 20 → w.cell? ⟨3, j, none⟩ = gapE.arr[j]?
  lo : w.cell? ⟨4, 0, none⟩ = some (.int .i64 (-200000))
  hi : w.cell? ⟨4, 1, none⟩ = some (.int .i64 6000000)
theorem GapAt.lt {w : World} (h : GapAt w) : 3 < w.heap.size := block_lt_of_cell ((h.gap 0 (by omega)).trans rfl)
theorem GapAt.below {w w' : World} (h : GapAt w) (hb : Below w.heap.size w w') : GapAt w' :=
  ⟨fun j hj => by rw [hb.cell (p := ⟨_, j, none⟩) h.lt]; exact h.gap j hj,
   by rw [hb.cell (p := ⟨_, 0, none⟩) (block_lt_of_cell h.lo)]; exact h.lo,
   by rw [hb.cell (p := ⟨_, 1, none⟩) (block_lt_of_cell h.hi)]; exact h.hi⟩
def winData (lo hi : Int) : DataW Unit := .agg [.lit (.int .i64 lo), .lit (.int .i64 hi)]
def zeroData : DataW Unit := .agg [.lit (.int .u8 0), .lit (.string []), .lit (.string []), .lit (.int .u8 0), .lit (.bool false), .lit (.int .i64 0), .lit (.int .i64 0), .lit (.int .i64 0), .lit (.int .i64 0), winData 0 0, .lit (.int .i64 0), .lit (.int .i64 0)]
def gapData : DataW Unit := .agg [.lit (.bool true), zeroData, winData 0 0, winData 0 0, .lit (.int .u8 0), .lit (.string [])]
def formsData : DataW Unit := .agg ((List.range 13).map fun (k : Nat) => .agg [.lit (.string (formW (k : Int))), .lit (.string (formF (k : Int)))])
section
variable {w : World}
theorem two_data {t : TypeId} {fuel : Nat} {cs : List Value} {y : DataW Unit × List MemPlace} {f0 f1 : Field} (hu : Tryz.prog.underlying t = some (.struct #[f0, f1])) (hc : Tryz.prog.cellsOf t = 2)
    (h0 : f0.type = 2 ∧ f0.offset = 0) (h1 : f1.type = 2 ∧ f1.offset = 1) (h : DataW.trod (fun _ => ()) Tryz.prog w 0 (fun _ => true) false fuel t cs = some y) {a b : Int} (hy : y.1 = winData a b) : cs = [.int .i64 a, .int .i64 b] := by
  obtain ⟨xs, n, _, hx, hlen, hxl, hf⟩ := DataW.trod_struct hu h
  rw [hc] at hlen
  obtain ⟨a', b', rfl⟩ := list2 hlen
  obtain ⟨y0, y1, rfl⟩ := list2 hxl
  have g0 := hf 0 f0 rfl
  have g1 := hf 1 f1 rfl
  rw [h0.1, h0.2, cells_i64] at g0
  rw [h1.1, h1.2, cells_i64] at g1
  obtain ⟨v0, e0, q0, _⟩ := DataW.trod_int Tryz.underlying2 g0
  obtain ⟨v1, e1, q1, _⟩ := DataW.trod_int Tryz.underlying2 g1
  rw [hx, q0, q1] at hy
  simp only [winData, List.map_cons, List.map_nil, DataW.agg.injEq, List.cons.injEq, DataW.lit.injEq, Lit.int.injEq, and_true, true_and] at hy
  simp at e0 e1
  rw [e0, e1, hy.1, hy.2]
theorem leg_zero {fuel : Nat} {cs : List Value} {y : DataW Unit × List MemPlace} (h : DataW.trod (fun _ => ()) Tryz.prog w 0 (fun _ => true) false fuel 77 cs = some y) (hy : y.1 = zeroData) : cs = (⟨0, [], [], 0, false, 0, 0, 0, 0, 0, 0, 0, 0⟩ : Leg).arr.toList := by
  obtain ⟨xs, n, _, hx, hlen, hxl, hf⟩ := DataW.trod_struct Tryz.underlying77 h
  rw [cells_leg] at hlen
  obtain ⟨c0, c1, c2, c3, c4, c5, c6, c7, c8, c9, c10, c11, c12, rfl⟩ := list13 hlen
  obtain ⟨y0, y1, y2, y3, y4, y5, y6, y7, y8, y9, y10, y11, rfl⟩ := list12 hxl
  have g0 := fld hf 0 75 0 1 rfl cells_lt
  have g1 := fld hf 1 9 1 1 rfl cells_str
  have g2 := fld hf 2 9 2 1 rfl cells_str
  have g3 := fld hf 3 5 3 1 rfl cells_u8
  have g4 := fld hf 4 4 4 1 rfl cells_bool
  have g5 := fld hf 5 2 5 1 rfl cells_i64
  have g6 := fld hf 6 2 6 1 rfl cells_i64
  have g7 := fld hf 7 2 7 1 rfl cells_i64
  have g8 := fld hf 8 2 8 1 rfl cells_i64
  have g9 := fld hf 9 56 9 2 rfl cells_win
  have g10 := fld hf 10 2 11 1 rfl cells_i64
  have g11 := fld hf 11 2 12 1 rfl cells_i64
  simp only [List.drop_succ_cons, List.drop_zero, List.take_succ_cons, List.take_zero, List.getElem?_cons_succ, List.getElem?_cons_zero] at g0 g1 g2 g3 g4 g5 g6 g7 g8 g9 g10 g11
  rw [hx] at hy
  simp only [zeroData, List.map_cons, List.map_nil, DataW.agg.injEq, List.cons.injEq, and_true] at hy
  obtain ⟨k0, k1, k2, k3, k4, k5, k6, k7, k8, k9, k10, k11⟩ := hy
  obtain ⟨v0, e0, q0, _⟩ := DataW.trod_int Tryz.underlying75 g0
  obtain ⟨v1, e1, q1, _⟩ := DataW.trod_string Tryz.underlying9 g1
  obtain ⟨v2, e2, q2, _⟩ := DataW.trod_string Tryz.underlying9 g2
  obtain ⟨v3, e3, q3, _⟩ := DataW.trod_int Tryz.underlying5 g3
  obtain ⟨v4, e4, q4⟩ := DataW.trod_bool Tryz.underlying4 g4
  obtain ⟨v5, e5, q5, _⟩ := DataW.trod_int Tryz.underlying2 g5
  obtain ⟨v6, e6, q6, _⟩ := DataW.trod_int Tryz.underlying2 g6
  obtain ⟨v7, e7, q7, _⟩ := DataW.trod_int Tryz.underlying2 g7
  obtain ⟨v8, e8, q8, _⟩ := DataW.trod_int Tryz.underlying2 g8
  have e9 := two_data Tryz.underlying56 cells_win ⟨rfl, rfl⟩ ⟨rfl, rfl⟩ g9 k9
  obtain ⟨v10, e10, q10, _⟩ := DataW.trod_int Tryz.underlying2 g10
  obtain ⟨v11, e11, q11, _⟩ := DataW.trod_int Tryz.underlying2 g11
  rw [q0] at k0; rw [q1] at k1; rw [q2] at k2; rw [q3] at k3; rw [q4] at k4; rw [q5] at k5; rw [q6] at k6; rw [q7] at k7; rw [q8] at k8; rw [q10] at k10; rw [q11] at k11
  simp only [DataW.lit.injEq, Lit.int.injEq, Lit.string.injEq, Lit.bool.injEq, true_and] at k0 k1 k2 k3 k4 k5 k6 k7 k8 k10 k11
  simp only [List.cons.injEq, and_true] at e0 e1 e2 e3 e4 e5 e6 e7 e8 e9 e10 e11
  have s1 : v1 = ⟨#[]⟩ := by obtain ⟨⟨d⟩⟩ := v1; simp at k1; rw [k1]
  have s2 : v2 = ⟨#[]⟩ := by obtain ⟨⟨d⟩⟩ := v2; simp at k2; rw [k2]
  rw [e0, e1, e2, e3, e4, e5, e6, e7, e8, e9.1, e9.2, e10, e11, k0, s1, s2, k3, k4, k5, k6, k7, k8, k10, k11]
  rfl
theorem ent_gap {fuel : Nat} {cs : List Value} {y : DataW Unit × List MemPlace} (h : DataW.trod (fun _ => ()) Tryz.prog w 0 (fun _ => true) false fuel 82 cs = some y) (hy : y.1 = gapData) : cs = gapE.arr.toList := by
  obtain ⟨xs, n, _, hx, hlen, hxl, hf⟩ := DataW.trod_struct Tryz.underlying82 h
  rw [cells_ent] at hlen
  obtain ⟨c0, c1, c2, c3, c4, c5, c6, c7, c8, c9, c10, c11, c12, c13, c14, c15, c16, c17, c18, c19, rfl⟩ := list20 hlen
  obtain ⟨y0, y1, y2, y3, y4, y5, rfl⟩ := list6 hxl
  have g0 := fld hf 0 4 0 1 rfl cells_bool
  have g1 := fld hf 1 77 1 13 rfl cells_leg
  have g2 := fld hf 2 79 14 2 rfl cells_pt
  have g3 := fld hf 3 79 16 2 rfl cells_pt
  have g4 := fld hf 4 80 18 1 rfl cells_sec
  have g5 := fld hf 5 9 19 1 rfl cells_str
  simp only [List.drop_succ_cons, List.drop_zero, List.take_succ_cons, List.take_zero, List.getElem?_cons_succ, List.getElem?_cons_zero] at g0 g1 g2 g3 g4 g5
  rw [hx] at hy
  simp only [gapData, List.map_cons, List.map_nil, DataW.agg.injEq, List.cons.injEq, and_true] at hy
  obtain ⟨k0, k1, k2, k3, k4, k5⟩ := hy
  obtain ⟨v0, e0, q0⟩ := DataW.trod_bool Tryz.underlying4 g0
  have e1 := leg_zero g1 k1
  have e2 := two_data Tryz.underlying79 cells_pt ⟨rfl, rfl⟩ ⟨rfl, rfl⟩ g2 k2
  have e3 := two_data Tryz.underlying79 cells_pt ⟨rfl, rfl⟩ ⟨rfl, rfl⟩ g3 k3
  obtain ⟨v4, e4, q4, _⟩ := DataW.trod_int Tryz.underlying80 g4
  obtain ⟨v5, e5, q5, _⟩ := DataW.trod_string Tryz.underlying9 g5
  rw [q0] at k0; rw [q4] at k4; rw [q5] at k5
  simp only [DataW.lit.injEq, Lit.int.injEq, Lit.string.injEq, Lit.bool.injEq, true_and] at k0 k4 k5
  have s5 : v5 = ⟨#[]⟩ := by obtain ⟨⟨d⟩⟩ := v5; simp at k5; rw [k5]
  have : [c0, c1, c2, c3, c4, c5, c6, c7, c8, c9, c10, c11, c12, c13, c14, c15, c16, c17, c18, c19] = [c0] ++ [c1, c2, c3, c4, c5, c6, c7, c8, c9, c10, c11, c12, c13] ++ [c14, c15] ++ [c16, c17] ++ [c18] ++ [c19] := rfl
  rw [this, e0, e1, e2, e3, e4, e5, k0, k4, s5]
  rfl
end
set_option maxRecDepth 100000 in
theorem gap_of {w : World} {l : List (String × DataW Unit)} (h : laidMet Tryz.prog l w) (h1 : ("flightdeck/edit.gap", gapData) ∈ l) (h2 : ("flightdeck/edit.free", winData (-200000) 6000000) ∈ l) : GapAt w := by
  obtain ⟨ps, hv, _, _⟩ := h
  obtain ⟨g', t', cs, fuel, p, hg', ht', hvar, hd⟩ := laidVars_mem hv _ _ h1
  obtain rfl := Option.some.inj (gGap23.symm.trans hg')
  obtain rfl : 82 = t' := Option.some.inj ((show (Tryz.prog.globals[3]?).map (·.type) = some 82 by kernel_rfl).symm.trans ht')
  have hcs := ent_gap hd rfl
  obtain ⟨g2, t2, cs2, fuel2, p2, hg2, ht2, hvar2, hd2⟩ := laidVars_mem hv _ _ h2
  obtain rfl := Option.some.inj (gFree23.symm.trans hg2)
  obtain rfl : 56 = t2 := Option.some.inj ((show (Tryz.prog.globals[4]?).map (·.type) = some 56 by kernel_rfl).symm.trans ht2)
  have hcs2 := two_data Tryz.underlying56 cells_win ⟨rfl, rfl⟩ ⟨rfl, rfl⟩ hd2 rfl
  have e1 : cs = gapE.arr := Array.toList_inj.1 hcs
  have e2 : cs2 = #[.int .i64 (-200000), .int .i64 6000000] := Array.toList_inj.1 (by rw [hcs2])
  exact ⟨fun j _ => by rw [World.var?_cell gGap23 hvar j, e1], by rw [World.var?_cell gFree23 hvar2 0, e2]; rfl, by rw [World.var?_cell gFree23 hvar2 1, e2]; rfl⟩
theorem cells_form : Tryz.prog.cellsOf 142 = 2 := by kernel_rfl
set_option maxRecDepth 100000 in
theorem forms_of {w : World} {l : List (String × DataW Unit)} (h : laidMet Tryz.prog l w) (hm : ("flightdeck/edit.forms", formsData) ∈ l) : FormsAt w := by
  obtain ⟨ps, hv, _, _⟩ := h
  obtain ⟨g', t', cs, fuel, p, hg', ht', hvar, hd⟩ := laidVars_mem hv _ _ hm
  obtain rfl := Option.some.inj (gForms23.symm.trans hg')
  obtain rfl : 143 = t' := Option.some.inj ((show (Tryz.prog.globals[1]?).map (·.type) = some 143 by kernel_rfl).symm.trans ht')
  obtain ⟨xs, m', _, hx, hlen, hxl, hf⟩ := DataW.trod_array Tryz.underlying143 hd
  have key : ∀ k : Nat, k ≤ 12 → cs.toList[k * 2]? = some (.string ⟨(formW (k : Int)).toArray⟩) ∧ cs.toList[k * 2 + 1]? = some (.string ⟨(formF (k : Int)).toArray⟩) := by
    intro k hk
    have h1 := hf k (by omega)
    rw [cells_form] at h1
    cases hq : xs[k]? with
    | none => rw [List.getElem?_eq_none_iff] at hq; omega
    | some y =>
      rw [hq] at h1
      have hy : y.1 = .agg [.lit (.string (formW (k : Int))), .lit (.string (formF (k : Int)))] := by
        simp only [formsData, Prod.mk.injEq, DataW.agg.injEq] at hx
        have h3 := congrArg (fun l => l[k]?) hx.1
        simp only [List.getElem?_map, hq, List.getElem?_range (show k < 13 by omega), Option.map_some, Option.some.injEq] at h3
        exact h3.symm
      obtain ⟨zs, n, _, hz, hzl, hzn, hzf⟩ := DataW.trod_struct Tryz.underlying142 h1
      rw [cells_form] at hzl
      obtain ⟨a, b, hab⟩ := list2 hzl
      obtain ⟨y0, y1, rfl⟩ := list2 hzn
      rw [hab] at hzf
      have g0 := fld hzf 0 9 0 1 rfl cells_str
      have g1 := fld hzf 1 9 1 1 rfl cells_str
      simp only [List.drop_succ_cons, List.drop_zero, List.take_succ_cons, List.take_zero, List.getElem?_cons_succ, List.getElem?_cons_zero] at g0 g1
      obtain ⟨v0, e0, q0, _⟩ := DataW.trod_string Tryz.underlying9 g0
      obtain ⟨v1, e1, q1, _⟩ := DataW.trod_string Tryz.underlying9 g1
      rw [hz, q0, q1] at hy
      simp only [List.map_cons, List.map_nil, DataW.agg.injEq, List.cons.injEq, DataW.lit.injEq, Lit.string.injEq, and_true] at hy
      simp only [List.cons.injEq, and_true] at e0 e1
      have k0 : cs.toList[k * 2]? = some a := by
        have := congrArg (fun l => l[0]?) hab
        simpa [List.getElem?_take, List.getElem?_drop] using this
      have k1 : cs.toList[k * 2 + 1]? = some b := by
        have := congrArg (fun l => l[1]?) hab
        simpa [List.getElem?_take, List.getElem?_drop] using this
      rw [k0, k1, e0, e1, ← hy.1, ← hy.2]
      simp
  refine ⟨fun k hk => ?_, fun k hk => ?_⟩
  · rw [World.var?_cell gForms23 hvar]; simpa using (key k hk).1
  · rw [World.var?_cell gForms23 hvar]; simpa using (key k hk).2
set_option maxRecDepth 100000 in
theorem laid24_of {W : World} {l : List (String × DataW Unit)} (h : laidMet Tryz.prog l W) (hsh : W.ShapedOpen Tryz.prog) (h1 : ("flightdeck/leg.uses", Lib.tabData .u16 usesTab) ∈ l) : Laid W := by
  obtain ⟨ps, hv, _, _⟩ := h
  have t1 := tab_of hv gUses (t := 138) (by kernel_rfl) Tryz.underlying138 Tryz.underlying137 (by kernel_rfl) (by kernel_rfl) h1
  exact ⟨fun k hk => t1.cell gUses k hk, Go.Proofs.cell_of_shapedOpen_int (zero := #[.int .i64 0]) (t := 3) hsh (of_decide_eq_true (by kernel_rfl)) (by kernel_rfl) rfl (by kernel_rfl) (by kernel_rfl) Tryz.underlying3⟩
end Go.Proofs.YtlggdgpdfepppaaGreatDoor
