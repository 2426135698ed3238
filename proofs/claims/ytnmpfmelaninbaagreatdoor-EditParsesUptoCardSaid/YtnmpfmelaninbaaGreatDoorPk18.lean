/- edit.ends, edit.direct, edit.search; walks. -/
import Derived.Test.YtnmpfmelaninbaaGreatDoorPk16
import Derived.Test.YtnmpfmelaninbaaGreatDoorPk17
namespace Go.Proofs.YtnmpfmelaninbaaGreatDoor
open Go.RowKit Go.Sort
set_option linter.unusedVariables false
set_option linter.unusedSimpArgs false
set_option maxRecDepth 100000
theorem ent_box (w : World) (x : Entry) : Blk (w.alloc (.cells x.arr 57)) w.heap.size x.arr ∧ Below w.heap.size w (w.alloc (.cells x.arr 57)) := ⟨Blk.new _ _ _, (Below.refl _ _).alloc (Nat.le_refl _) _⟩
theorem eends_any (x : Entry) (w : World) : Calls Tryz.prog 184 #[.agg x.arr] w (Ret w (.bool (endsE x))) := by
  obtain ⟨X0, B0⟩ := ent_box w x
  have HE := Lib.hid (show endsE x = (!x.gap && endsB x.leg.ty) from rfl)
  generalize endsE x = out at HE ⊢
  go_enter Tryz.func184, Tryz.ntmps184
  go_upto_region 1 with (fail)
  generalize w.alloc _ = W at X0 B0 ⊢
  generalize w.heap.size = g at X0 ⊢
  have c0 := X0.cell
  cases hg : x.gap with
  | true =>
    rw [hg] at HE
    go_wp2
    go_ret
    exact Ret.bool HE.out.symm B0
  | false =>
    rw [hg] at HE
    go_wp2_with (go_at_call 149; (with_reducible refine callP (ends_any _ _) ?_))
    go_ret
    exact Ret.bool HE.out.symm B0
def bleg (parts : Array (Nat × Value)) : Sem Value := Instr.build 52 parts
theorem bleg_fold (parts : Array (Nat × Value)) : Instr.build 52 parts = bleg parts := rfl
theorem run_blegD (w : World) (f : List UInt8) (o : Bool) (a b s r : Int) : (bleg #[(0, .int .u8 4), (1, .string ⟨f.toArray⟩), (4, .bool o), (9, .agg (Win.arr ⟨a, b⟩)), (10, .int .i64 s), (11, .int .i64 r)]).run Tryz.prog w = .ok (.agg (⟨4, f, [], 0, o, 0, 0, 0, 0, a, b, s, r⟩ : Leg).arr) w := run_build w _ _ _ (by kernel_rfl)
def bptE (parts : Array (Nat × Value)) : Sem Value := Instr.build 54 parts
theorem bptE_fold (parts : Array (Nat × Value)) : Instr.build 54 parts = bptE parts := rfl
theorem run_bptE0 (w : World) : (bptE #[]).run Tryz.prog w = .ok (.agg (Pt.arr ⟨0, 0⟩)) w := run_build w _ _ _ (by kernel_rfl)
attribute [local go_sem ↓] bleg_fold bptE_fold
attribute [local go_sem] run_blegD run_bptE0
theorem is_winL {W : World} {g : Nat} {l : Leg} (h : Blk W g l.arr) : Is_win W g 9 ⟨l.lo, l.hi⟩ := fun j hj => by
  rw [h.cell]
  match j, hj with
  | 0, _ | 1, _ => rfl
def dirLeg (l : Leg) : Leg := ⟨4, l.fix, [], 0, l.over, 0, 0, 0, 0, l.lo, l.hi, l.speed, l.rnp⟩
theorem edirect_any (x : Entry) (w : World) : Calls Tryz.prog 182 #[.agg x.arr] w (Ret w (.agg (directE x).arr)) := by
  go_enter Tryz.func182, Tryz.ntmps182
  go_upto_region 1 with (fail)
  have X0 : Blk ((w.alloc (.cells x.arr 57)).alloc (.cells zeroE.arr 57)) w.heap.size x.arr := (Blk.new w x.arr _).alloc _
  have R0 : Blk ((w.alloc (.cells x.arr 57)).alloc (.cells zeroE.arr 57)) (w.heap.size + 1) zeroE.arr := by rw [← World.size_alloc w (.cells x.arr 57)]; exact Blk.new _ _ _
  have B0 : Below w.heap.size w ((w.alloc (.cells x.arr 57)).alloc (.cells zeroE.arr 57)) := by go_grown
  have hz : zeroE.arr = #[.bool false, .int .u8 0, .string ⟨#[]⟩, .string ⟨#[]⟩, .int .u8 0, .bool false, .int .i64 0, .int .i64 0, .int .i64 0, .int .i64 0, .int .i64 0, .int .i64 0, .int .i64 0, .int .i64 0, .int .i64 0, .int .i64 0, .int .i64 0, .int .i64 0, .int .u8 0, .string ⟨#[]⟩] := rfl
  rw [hz] at X0 R0 B0
  generalize (w.alloc _).alloc _ = W at X0 R0 B0 ⊢
  rw [← hz] at R0
  clear hz
  obtain ⟨g, hg⟩ : ∃ g, g = w.heap.size := ⟨_, rfl⟩
  have hgg : w.heap.size ≤ g := by omega
  rw [← hg] at X0 R0 ⊢
  obtain ⟨r, hr⟩ : ∃ r, r = g + 1 := ⟨_, rfl⟩
  rw [← hr] at R0 ⊢
  have hgr : w.heap.size ≤ r := by omega
  have hne : g ≠ r := by omega
  clear hg hr
  have i1 : Has_leg W g 1 := ⟨_, X0.leg_at⟩
  have i2 : of_leg W g 1 = x.leg := of_leg_eq X0.leg_at
  go_upto_region 2 with (fail)
  clear i1 i2
  have L1 := Blk.new W x.leg.arr 52
  have X1 := X0.alloc (.cells x.leg.arr 52)
  have R1 := R0.alloc (.cells x.leg.arr 52)
  have B1 := below_step B0 ((Below.refl W.heap.size W).alloc (Nat.le_refl _) (.cells x.leg.arr 52))
  have hlt := X0.lt
  have hlr := R0.lt
  generalize W.alloc _ = W1 at L1 X1 R1 B1 ⊢
  generalize W.heap.size = gl at L1 hlt hlr ⊢
  clear X0 R0 B0
  have hgl : g ≠ gl := by omega
  have hrl : r ≠ gl := by omega
  have c1 := L1.cell
  have i1 : Has_win W1 gl 9 := ⟨_, is_winL L1⟩
  have i2 : of_win W1 gl 9 = ⟨x.leg.lo, x.leg.hi⟩ := of_win_eq (is_winL L1)
  have d2 := X1.plain
  have d3 := X1.of
  have e2 := R1.plain
  have e3 := R1.of
  have f1 : splice x.arr 1 (dirLeg x.leg).arr = ({ x with leg := dirLeg x.leg } : Entry).arr := rfl
  have f2 : splice ({ x with leg := dirLeg x.leg } : Entry).arr 16 (Pt.arr ⟨0, 0⟩) = (directE x).arr := rfl
  have f3 : splice zeroE.arr 0 (directE x).arr = (directE x).arr := rfl
  unfold dirLeg at f1 f2
  have hne2 := Ne.symm hne
  go_wp2
  exact bodyPost_ret (results_agg1 Tryz.results182 _ _ r (directE x).arr 20 _ rfl rfl (((R1.far (Ne.symm hne) _).set _).cell) Tryz.underlying57 rfl info_ent) rfl ⟨rfl, below_setRow' (below_setRow' B1 hgg _) hgr _⟩
theorem findGo_skip (from_ : Int) (ref : List UInt8) : ∀ (m : Nat) (l : List Entry) (i : Nat), ((i + m : Nat) : Int) ≤ from_ → findGo from_ ref l i = findGo from_ ref (l.drop m) (i + m)
  | 0, l, i, _ => rfl
  | m + 1, [], i, _ => by simp [findGo]
  | m + 1, x :: r, i, h => by
    have ih := findGo_skip from_ ref m r (i + 1) (by omega)
    have h1 : decide (from_ ≤ (i : Int)) = false := by simp; omega
    rw [findGo, h1]
    simp only [Bool.false_and, Bool.false_eq_true, if_false, List.drop_succ_cons]
    rw [ih]
    congr 1
    omega
theorem findGo_start (from_ : Int) (ref : List UInt8) (l : List Entry) : findGo from_ ref l 0 = findGo from_ ref (l.drop from_.toNat) from_.toNat := by
  rcases Int.lt_or_le from_ 0 with h | h
  · rw [show from_.toNat = 0 by omega]; rfl
  · have := findGo_skip from_ ref from_.toNat l 0 (by omega)
    rw [this, Nat.zero_add]
set_option maxHeartbeats 2000000 in
theorem search_any (l : List Entry) (A : Option Addr) (n c : Nat) (from_ : Int) (ref : List UInt8) (w : World) (hE : Ents w A l) (hn : l.length = n) (hl : n ≤ 4000000000) (hf : from_ ≤ 4000000000) :
    Calls Tryz.prog 180 #[.slice A n c, .int .i64 from_, .string ⟨ref.toArray⟩] w (Ret w (.int .i64 (searchE l from_ ref))) := by
  subst hn
  have HS := Lib.hid (show searchE l from_ ref = findGo from_ ref (l.drop from_.toNat) from_.toNat from findGo_start from_ ref l)
  generalize searchE l from_ ref = out at HS ⊢
  obtain ⟨f, hff⟩ : ∃ f, f = from_.toNat := ⟨_, rfl⟩
  rw [← hff] at HS
  rcases Int.lt_or_le from_ 0 with hneg | hpos
  all_goals
   go_enter Tryz.func180, Tryz.ntmps180
   go_wp2
   have hm : max from_ 0 = (f : Int) := by omega
   rw [hm]
   have hle0 : from_ ≤ (f : Int) := by omega
   have hf9 : f ≤ 4000000000 := by omega
   clear hm hff
   first | clear hneg | clear hpos
   go_loopw [7] (fun i wr => ∃ k : Nat, f ≤ k ∧ k ≤ 8000000000 ∧ i = .int .i64 k ∧ out = findGo from_ ref (l.drop k) k ∧ Below w.heap.size w wr) (fun i _ => l.length - (intOf i).toNat)
   case atStart => exact ⟨f, by omega, by omega, rfl, HS.out, Below.refl _ _⟩
   case round =>
     obtain ⟨k, hk, hk9, rfl, hq, BW⟩ := hrel
     have HQ := Lib.hid hq
     clear hq
     by_cases hlt : k < l.length
     · obtain ⟨b, off, hA, hb, he⟩ := hE.get hlt
       subst hA
       have hd := List.drop_eq_getElem_cons hlt
       have hle : decide (from_ ≤ (k : Int)) = true := by simp; omega
       have HX := Lib.hid (show out = if endsE l[k] && l[k].leg.fix == ref then (k : Int) else findGo from_ ref (l.drop (k + 1)) (k + 1) by rw [HQ.out, hd, findGo, hle]; simp [endsE])
       clear hd hle
       generalize l[k] = x at he HX
       have e1 : Is_ent wr b (off + k * 20) x := fun j hj => by rw [BW.cell (p := ⟨b, _, none⟩) hb]; exact he j hj
       have i1 : Has_ent wr b (off + k * 20) := ⟨x, e1⟩
       have i2 : of_ent wr b (off + k * 20) = x := of_ent_eq e1
       have HE1 := Lib.hid (fun w' (h : Below wr.heap.size wr w') => show w'.cell? ⟨b, off + k * 20 + 1 + 1, none⟩ = some (.string ⟨x.leg.fix.toArray⟩) from by
         rw [h.cell (p := ⟨b, _, none⟩) (Nat.lt_of_lt_of_le hb BW.size), Nat.add_assoc]; exact e1 2 (by omega))
       have hcall := Lib.hid (eends_any x wr)
       clear e1 he
       cases hen : endsE x with
       | false =>
         rw [hen] at hcall HX
         have HR := Lib.hid (show out = findGo from_ ref (l.drop (k + 1)) (k + 1) from HX.out)
         clear HX
         go_wp2_with (go_at_call 184; (with_reducible refine callR hcall.out ?_); intro w1 b1 _ _ _)
         go_roundw
         case rel => exact ⟨k + 1, by omega, by omega, by go_num, HR.out, below_step BW b1⟩
         case measure => simp [intOf]; omega
       | true =>
         rw [hen] at hcall HX
         by_cases hfx : x.leg.fix = ref
         · have HR := Lib.hid (show out = (k : Int) by rw [HX.out, if_pos (by simp [hfx])])
           have h1 : (x.leg.fix == ref) = true := by simpa using hfx
           clear HX hfx
           go_wp2_with (go_at_call 184; (with_reducible refine callR hcall.out ?_); intro w1 b1 _ _ _; have q := HE1.out w1 b1)
           go_ret
           exact Ret.int HR.out.symm (below_step BW b1)
         · have HR := Lib.hid (show out = findGo from_ ref (l.drop (k + 1)) (k + 1) by rw [HX.out, if_neg (by simp [hfx])])
           have h1 : (x.leg.fix == ref) = false := by simpa using hfx
           clear HX hfx
           go_wp2_with (go_at_call 184; (with_reducible refine callR hcall.out ?_); intro w1 b1 _ _ _; have q := HE1.out w1 b1)
           go_roundw
           case rel => exact ⟨k + 1, by omega, by omega, by go_num, HR.out, below_step BW b1⟩
           case measure => simp [intOf]; omega
     · have HR := Lib.hid (show out = -1 by rw [HQ.out, List.drop_of_length_le (by omega)]; rfl)
       go_wp2
       go_ret
       exact Ret.int HR.out.symm BW
end Go.Proofs.YtnmpfmelaninbaaGreatDoor
