/- Layer 58: the fix at an index; the edits. A block of the caller's own that is written cell by cell; what a call that writes such blocks leaves alone. Layer 58: a line of a page. -/
import Derived.Test.YtijfmfdnagjlpaaGreatDoorPk12
import Derived.Test.YtijfmfdnagjlpaaGreatDoorPk04
import Derived.Lib.ConvBytes
import Derived.Laws.BytesArg
namespace Go.Proofs.YtijfmfdnagjlpaaGreatDoor
open Go.RowKit
set_option linter.unusedVariables false
set_option linter.unusedSimpArgs false
theorem callRB {P : Program} {f : FuncId} {args : Array Value} {W : World} {v : Value} {K : Ending → World → Prop} (h : Calls P f args W (Ret W v)) (k : ∀ w', Below W.heap.size W w' → K (.returned v) w') : Calls P f args W K :=
  h.mono fun e w' ⟨he, hw⟩ => by subst he; exact k w' hw
def fixAtV (p : Plan) (k : Int) : List UInt8 × Bool := ((legAtV p k).1.fix, (legAtV p k).2 && endsB (legAtV p k).1.ty)
theorem fixAtV_snd (p : Plan) (k : Int) : (fixAtV p k).2 = (fixAtS p k).isSome := by
  unfold fixAtV legAtV fixAtS
  cases legAtS p k with
  | none => rfl
  | some l => cases h : endsB l.ty <;> simp [h]
theorem fixAtV_fst {p : Plan} {k : Int} {f : List UInt8} (h : fixAtS p k = some f) : fixAtV p k = (f, true) := by
  unfold fixAtS at h
  unfold fixAtV legAtV
  cases hl : legAtS p k with
  | none => rw [hl] at h; cases h
  | some l =>
    rw [hl] at h
    cases hb : endsB l.ty with
    | false => simp [hb] at h
    | true => simp [hb] at h; simp [h, hb]
set_option maxHeartbeats 4000000 in
set_option maxRecDepth 100000 in
theorem fixAt_any (p : Plan) (A : Option Addr) (c : Nat) (k : Nat) (w : World) (hE : Ents w A p.es) (hl : p.es.length ≤ 4000000000) (hk : k ≤ 4000000000) :
    Calls Tryz.prog 41 #[.agg (p.arr A c), .int .i64 k] w (Ret w (.tuple #[.string ⟨(fixAtV p k).1.toArray⟩, .bool (fixAtV p k).2])) := by
  go_enter Tryz.func41, Tryz.ntmps41
  go_upto_region 1 with (fail)
  generalize hW : w.alloc _ = W
  have X0 : Blk W w.heap.size (p.arr A c) := by rw [← hW]; exact Blk.new w (p.arr A c) _
  have B0 : Below w.heap.size w W := by rw [← hW]; go_grown
  clear hW
  have c4 : Has_plan W w.heap.size 0 := ⟨_, X0.is_plan rfl⟩
  have c5 : of_plan W w.heap.size 0 = p.arr A c := of_plan_eq (X0.is_plan rfl)
  have hF := Lib.hid (show fixAtV p k = ((legAtV p k).1.fix, (legAtV p k).2 && endsB (legAtV p k).1.ty) from rfl)
  go_wp2_with (first
    | (go_at_call 59; refine callRB (legAt_any _ _ _ _ _ (hE.below (B := 0) B0) hl hk) ?_; intro w1 B1; have B2 := below_step B0 B1; generalize legAtV p k = q at hF ⊢; obtain ⟨l, b⟩ := q; cases b))
  all_goals
    go_quiet ((go_at_call 63; exact quietP (ends_any _ _)))
    go_wp2
    go_ret2
    exact ⟨by rw [hF.out]; rfl, below_drewN (below_step B2 ((Below.refl _ _).alloc (Nat.le_refl _) _)) _⟩
end Go.Proofs.YtijfmfdnagjlpaaGreatDoor
namespace Go.Proofs.YtijfmfdnagjlpaaGreatDoor
open Go.RowKit
set_option linter.unusedVariables false
set_option linter.unusedSimpArgs false
theorem Blk.setCell {W : World} {g : Nat} {cs : Array Value} (h : Blk W g cs) (k : Nat) (v : Value) : Blk (W.setCell ⟨g, k, none⟩ v) g (cs.setIfInBounds k v) := by
  obtain ⟨t, h⟩ := h
  have hlt : g < W.heap.size := by
    rcases Nat.lt_or_ge g W.heap.size with hlt | hge
    · exact hlt
    · rw [Array.getElem?_eq_none hge] at h; cases h
  refine ⟨t, ?_⟩
  simp only [World.setCell, Array.getElem?_modify, if_true, h]
  rfl
theorem Blk.setFar {W : World} {g g' : Nat} {cs : Array Value} (h : Blk W g cs) (hne : g ≠ g') (k : Nat) (v : Value) : Blk (W.setCell ⟨g', k, none⟩ v) g cs := by
  obtain ⟨t, h⟩ := h
  exact ⟨t, (Below.heap_setCell W ⟨g', k, none⟩ v g hne).trans h⟩
/-- All blocks but those of S are as they were. -/
structure Touch (S : List Nat) (w w' : World) : Prop where
  os : w'.os = w.os
  tape : w'.tape = w.tape
  output : w'.output = w.output
  size : w.heap.size ≤ w'.heap.size
  block : ∀ k, k < w.heap.size → k ∉ S → w'.heap[k]? = w.heap[k]?
theorem Touch.refl (S : List Nat) (w : World) : Touch S w w := ⟨rfl, rfl, rfl, Nat.le_refl _, fun _ _ _ => rfl⟩
theorem Touch.trans {S : List Nat} {a b c : World} (h : Touch S a b) (k : Touch S b c) : Touch S a c :=
  ⟨k.os.trans h.os, k.tape.trans h.tape, k.output.trans h.output, Nat.le_trans h.size k.size, fun i hi hn => (k.block i (Nat.lt_of_lt_of_le hi h.size) hn).trans (h.block i hi hn)⟩
theorem Touch.of {S : List Nat} {w w' : World} (h : Below w.heap.size w w') : Touch S w w' := ⟨h.os, h.tape, h.output, h.size, fun k hk _ => h.block k hk⟩
theorem Touch.mono {S T : List Nat} {w w' : World} (h : Touch S w w') (hs : ∀ x ∈ S, x ∈ T) : Touch T w w' := ⟨h.os, h.tape, h.output, h.size, fun k hk hn => h.block k hk (fun e => hn (hs k e))⟩
theorem Touch.setCell (S : List Nat) (w : World) {g : Nat} (hg : g ∈ S) (k : Nat) (v : Value) : Touch S w (w.setCell ⟨g, k, none⟩ v) :=
  ⟨rfl, rfl, rfl, by simp [World.setCell], fun i hi hn => Below.heap_setCell _ _ _ _ (fun e => hn (by rw [show i = g from e]; exact hg))⟩
theorem Touch.below {S : List Nat} {w0 w w' : World} (h : Touch S w w') (hb : Below w0.heap.size w0 w) (hs : ∀ x ∈ S, w0.heap.size ≤ x) : Below w0.heap.size w0 w' :=
  hb.trans ⟨h.os, h.tape, h.output, h.size, fun k hk => h.block k (Nat.lt_of_lt_of_le hk hb.size) (fun e => by have := hs k e; omega)⟩
theorem Touch.blk {S : List Nat} {w w' : World} {g : Nat} {cs : Array Value} (h : Touch S w w') (hg : g ∉ S) (hb : Blk w g cs) : Blk w' g cs := by
  have hlt := hb.lt
  obtain ⟨t, hb⟩ := hb
  exact ⟨t, (h.block g hlt hg).trans hb⟩
theorem Touch.cell {S : List Nat} {w w' : World} {g : Nat} (h : Touch S w w') (hg : g ∉ S) (hlt : g < w.heap.size) (j : Nat) : w'.cell? ⟨g, j, none⟩ = w.cell? ⟨g, j, none⟩ := World.cell?_of_block (w := w) (h.block g hlt hg)
theorem Touch.drewN {S : List Nat} {w w' : World} (h : Touch S w w') (n : Nat) : Touch S w (w'.drewN n) := ⟨h.os, h.tape, h.output, h.size, h.block⟩
theorem Touch.drew {S : List Nat} {w w' : World} (h : Touch S w w') : Touch S w w'.drew := ⟨h.os, h.tape, h.output, h.size, h.block⟩
theorem below_setCell {B g : Nat} {w0 w : World} (hb : Below B w0 w) (hBg : B ≤ g) (k : Nat) (v : Value) : Below B w0 (w.setCell ⟨g, k, none⟩ v) := hb.setCell (by simpa using hBg) v
end Go.Proofs.YtijfmfdnagjlpaaGreatDoor
namespace Go.Proofs.YtijfmfdnagjlpaaGreatDoor
open Go.RowKit
set_option linter.unusedVariables false
set_option linter.unusedSimpArgs false
/-- The block g holds the bytes l, and they may be written. -/
structure Buf (W : World) (g : Nat) (l : List UInt8) : Prop where
  lt : g < W.heap.size
  cell : ∀ j (h : j < l.length), W.cell? ⟨g, j, none⟩ = some (.int .u8 l[j].toNat)
  free : ∀ j, j < l.length → W.frozen? ⟨g, j, none⟩ = false
theorem Buf.new (w : World) (l : List UInt8) : Buf (Lib.bytesWorld w 5 ⟨l.toArray⟩) w.heap.size l where
  lt := by rw [Lib.bytesWorld_size]; omega
  cell j h := by
    rw [Lib.bytesWorld_cell w 5 ⟨l.toArray⟩ j (by simpa [ByteArray.size] using h)]
    simp [List.getD, h]
  free j h := by
    have hs : (Lib.bytesCells w 5 ⟨l.toArray⟩).size ≠ j := by
      unfold Lib.bytesCells
      simp; omega
    simp [World.frozen?, Lib.bytesWorld_at_new]
    omega
theorem Buf.set {W : World} {g : Nat} {l : List UInt8} (h : Buf W g l) (k : Nat) (c : UInt8) (hk : k < l.length) : Buf (W.setCell ⟨g, k, none⟩ (.int .u8 c.toNat)) g (l.set k c) where
  lt := by simpa [World.setCell] using h.lt
  cell j hj := by
    have hj' : j < l.length := by simpa using hj
    by_cases e : k = j
    · subst e
      rw [World.cell?_setCell_same _ _ _ (h.cell k hj')]
      simp
    · rw [World.cell?_setCell_other _ _ _ _ (by intro q; injection q with _ q; exact e q), h.cell j hj']
      simp [List.getElem_set, e]
  free j hj := by rw [World.frozen?_setCell]; exact h.free j (by simpa using hj)
theorem conv_buf {W : World} {g c : Nat} {l : List UInt8} (h : Buf W g l) (n : Nat) (hn : n = l.length) : (convert 55 9 (.slice (some ⟨g, 0, none⟩) n c)).run Tryz.prog W = .ok (.string ⟨l.toArray⟩) W := by
  subst hn
  rw [run_convert_bytes_arg W 55 5 Tryz.underlying55 Tryz.underlying5 g 0 l.length c (l.map fun c => (c.toNat : Int)) (by simp) (by
    intro i hi
    rw [Nat.zero_add, h.cell i hi]
    simp [hi]) 9 Tryz.underlying9]
  unfold strOfNums
  rw [List.map_map]
  congr 3
  have : (fun n : Int => UInt8.ofNat n.toNat) ∘ (fun c : UInt8 => (c.toNat : Int)) = id := by
    funext c; simp
  rw [this, List.map_id]
theorem conv_new (w : World) (l : List UInt8) : ∃ w' c, (convert 9 55 (.string ⟨l.toArray⟩)).run Tryz.prog w = .ok (.slice (some ⟨w.heap.size, 0, none⟩) l.length c) w' ∧ Below w.heap.size w w' ∧ Buf w' w.heap.size l :=
  ⟨_, _, Lib.run_convert_string_bytes (P := Tryz.prog) w 9 55 5 ⟨l.toArray⟩ Tryz.underlying9 Tryz.underlying55 Tryz.underlying5, Lib.bytesWorld_below _ _ _, Buf.new w l⟩
theorem repeat_any (k : Nat) (w : World) (hk : k ≤ 1000) : Calls Tryz.prog 55 #[.string ⟨#[32]⟩, .int .i64 k] w (Ret w (.string ⟨(List.replicate k 32).toArray⟩)) := by
  refine (Tryz.strings_Repeat ⟨#[32]⟩ k w (by omega) (by show 1 * k ≤ _; omega)).mono fun e w' ⟨h1, h2⟩ => ⟨?_, h2⟩
  rw [h1]
  have : ∀ n, Lib.repeatL ([32] : List UInt8) n = List.replicate n 32 := by
    intro n
    induction n with
    | zero => rfl
    | succ n ih => simp only [Lib.repeatL, List.replicate_succ] at *; simp [ih]
  rw [show (⟨#[32]⟩ : ByteArray).data.toList = [32] from rfl, this]
def cleanC (c : UInt8) : UInt8 := if c.toNat < 32 ∨ 126 < c.toNat then 63 else c
/-- The left text of a line, cut. -/
def cutL (l r : List UInt8) : List UInt8 := if 23 < l.length + r.length then l.take (min l.length (23 - r.length)) else l
def lineT (l r : List UInt8) : List UInt8 := (l ++ List.replicate (24 - l.length - r.length) 32 ++ r).map cleanC
theorem lineS_long {l r : List UInt8} (h : 24 < r.length) : lineS l r = lineT (cutL [] (r.take 24)) (r.take 24) := by
  unfold lineS lineT cutL cleanC
  simp only [if_pos h]
theorem lineS_short {l r : List UInt8} (h : ¬ 24 < r.length) : lineS l r = lineT (cutL l r) r := by
  unfold lineS lineT cutL cleanC
  simp only [if_neg h]
theorem take_map_set (f : UInt8 → UInt8) (l : List UInt8) (k : Nat) (h : k < l.length) : ((l.take k).map f ++ l.drop k).set k (f l[k]) = (l.take (k + 1)).map f ++ l.drop (k + 1) := by
  rw [List.set_append_right _ _ (by simp; omega), List.drop_eq_getElem_cons h]
  simp only [List.length_map, List.length_take, Nat.min_eq_left (Nat.le_of_lt h), Nat.sub_self, List.set_cons_zero]
  rw [List.take_succ_eq_append_getElem h, List.map_append]
  simp
theorem take_map_same (f : UInt8 → UInt8) (l : List UInt8) (k : Nat) (h : k < l.length) (hf : f l[k] = l[k]) : (l.take k).map f ++ l.drop k = (l.take (k + 1)).map f ++ l.drop (k + 1) := by
  rw [List.drop_eq_getElem_cons h, List.take_succ_eq_append_getElem h, List.map_append]
  simp [hf]
attribute [local go_sem] ba_append
set_option maxHeartbeats 4000000 in
set_option maxRecDepth 100000 in
theorem line_any (l r : List UInt8) (w : World) (hl : l.length ≤ 4000000000) (hr : r.length ≤ 4000000000) : Calls Tryz.prog 33 #[.string ⟨l.toArray⟩, .string ⟨r.toArray⟩] w (Ret w (.string ⟨(lineS l r).toArray⟩)) := by
  obtain ⟨out, hout⟩ : ∃ out, lineS l r = out := ⟨_, rfl⟩
  rw [hout]
  go_enter Tryz.func33, Tryz.ntmps33
  go_upto_if 10 with (fail)
  go_cut [0, 1] (fun a b wx => ∃ l1 r1 : List UInt8, a = .string ⟨l1.toArray⟩ ∧ b = .string ⟨r1.toArray⟩ ∧ Below w.heap.size w wx ∧ r1.length ≤ 24 ∧ l1.length ≤ 4000000000 ∧ Hid (lineT (cutL l1 r1) r1 = out))
  case first =>
    by_cases h24 : 24 < r.length
    · have HO := Lib.hid ((lineS_long (l := l) h24).symm.trans hout)
      go_wp2_with fail
      go_quiet (fail)
      go_wp2
      go_meet
      exact ⟨[], r.take 24, rfl, rfl, below_drewN (Below.refl _ _) _, by simp; omega, by simp, HO⟩
    · have HO := Lib.hid ((lineS_short (l := l) h24).symm.trans hout)
      go_wp2
      go_meet
      exact ⟨l, r, rfl, rfl, Below.refl _ _, by omega, hl, HO⟩
  case rest =>
    obtain ⟨l1, r1, rfl, rfl, B1, hr1, hl1, HO⟩ := hcut
    clear hout hl hr
    go_upto_if 18 with (fail)
    go_cut [0] (fun a wy => ∃ l2 : List UInt8, a = .string ⟨l2.toArray⟩ ∧ wy = wc ∧ l2.length + r1.length ≤ 24 ∧ Hid (lineT l2 r1 = out))
    case first =>
      by_cases h23 : 23 < l1.length + r1.length
      · have HC := Lib.hid (show cutL l1 r1 = l1.take (min l1.length (23 - r1.length)) by unfold cutL; rw [if_pos h23])
        have e1 : IntKind.i64.wrap (23 - (r1.length : Int)) = 23 - (r1.length : Int) := IntWalk.i64_in _ (by omega)
        go_wp2
        go_meet
        have e2 : (min (l1.length : Int) (max (23 - (r1.length : Int)) 0)).toNat = min l1.length (23 - r1.length) := by omega
        refine ⟨_, rfl, rfl, ?_, ?_⟩
        · rw [e2, List.length_take]; omega
        · rw [e2]; exact Lib.hid (by rw [← HC.out]; exact HO.out)
      · have HC := Lib.hid (show cutL l1 r1 = l1 by unfold cutL; rw [if_neg h23])
        have h23' : ¬ (23 : Int) < (l1.length : Int) + (r1.length : Int) := by omega
        go_wp2
        go_meet
        exact ⟨l1, rfl, rfl, by omega, Lib.hid (by rw [← HC.out]; exact HO.out)⟩
    case rest =>
      obtain ⟨l2, rfl, rfl, h24, HO2⟩ := hcut
      clear HO hl1
      have e1 : (24 : Int) - (l2.length : Int) = ((24 - l2.length : Nat) : Int) := by omega
      have e2 : ((24 - l2.length : Nat) : Int) - (r1.length : Int) = ((24 - l2.length - r1.length : Nat) : Int) := by omega
      obtain ⟨sp, hsp⟩ : ∃ sp : List UInt8, List.replicate (24 - l2.length - r1.length) 32 = sp := ⟨_, rfl⟩
      have hspl : sp.length = 24 - l2.length - r1.length := by rw [← hsp]; simp
      obtain ⟨pre, hpre⟩ : ∃ pre, l2 ++ (sp ++ r1) = pre := ⟨_, rfl⟩
      have hlen : pre.length = 24 := by rw [← hpre]; simp; omega
      have HT := Lib.hid (show pre.map cleanC = out by rw [← HO2.out, ← hpre, ← hsp, ← List.append_assoc]; rfl)
      have b1 : ¬ 9223372036854775807 < ((l2.length + sp.length : Nat) : Int) := by omega
      have b2 : ¬ 9223372036854775807 < ((l2.length + sp.length + r1.length : Nat) : Int) := by omega
      have HRp := Lib.hid (fun w => repeat_any (24 - l2.length - r1.length) w (by omega))
      rw [hsp] at HRp
      clear hsp hspl
      have HP := Lib.hid hpre
      clear HO2 hpre
      have hgw : w.heap.size ≤ wc.heap.size := B1.size
      go_upto_region 6 with (go_at_call 55; refine callRB (HRp.out _) ?_; intro w2 B2; obtain ⟨w3, c3, cv, B3, F3⟩ := conv_new w2 pre; rw [hlen, ← HP.out] at cv)
      have B4 := below_step (below_step B1 B2) B3
      have hg : w.heap.size ≤ w2.heap.size := Nat.le_trans hgw B2.size
      clear cv e1 e2 b1 b2 h24 hr1 B1 B2 B3 hgw
      generalize w2.heap.size = g at F3 hg ⊢
      go_wp2_with fail
      go_loopw [42] (fun i wr => ∃ k : Nat, k ≤ 24 ∧ i = .int .i64 k ∧ Buf wr g ((pre.take k).map cleanC ++ pre.drop k) ∧ Below w.heap.size w wr) (fun i _ => 24 - (intOf i).toNat)
      case atStart => exact ⟨0, by omega, rfl, by simpa using F3, B4⟩
      case round =>
        obtain ⟨k, hk, rfl, F, B⟩ := hrel
        clear F3 B4
        by_cases hlt : k < 24
        · have hk2 : k < pre.length := by omega
          have hl : ((pre.take k).map cleanC ++ pre.drop k).length = 24 := by simp; omega
          have e1 : ((pre.take k).map cleanC ++ pre.drop k)[k]'(by omega) = pre[k] := by
            rw [List.getElem_append_right (by simp; omega)]
            simp [Nat.min_eq_left (Nat.le_of_lt hk2)]
          have c1 := F.cell k (by omega)
          rw [e1] at c1
          have c2 := F.free k (by omega)
          have c3 := F.lt
          have HS := Lib.hid (take_map_set cleanC pre k hk2)
          have HE := Lib.hid (take_map_same cleanC pre k hk2)
          have HF := Lib.hid (fun c => F.set k c (by omega))
          have HF0 := Lib.hid F
          clear e1 F
          generalize hc : pre[k] = c at c1 HS HE
          clear hc
          by_cases h1 : c.toNat < 32
          · have HC := Lib.hid (show cleanC c = 63 by unfold cleanC; rw [if_pos (.inl h1)])
            go_wp2
            go_roundw
            case rel => exact ⟨k + 1, by omega, by go_num, by rw [← HS.out, HC.out]; exact HF.out 63, below_setCell B hg _ _⟩
            case measure => simp [intOf]; omega
          · by_cases h2 : 126 < c.toNat
            · have HC := Lib.hid (show cleanC c = 63 by unfold cleanC; rw [if_pos (.inr h2)])
              go_wp2
              go_roundw
              case rel => exact ⟨k + 1, by omega, by go_num, by rw [← HS.out, HC.out]; exact HF.out 63, below_setCell B hg _ _⟩
              case measure => simp [intOf]; omega
            · have HC := Lib.hid (show cleanC c = c by unfold cleanC; rw [if_neg (by omega)])
              go_wp2
              go_roundw
              case rel => exact ⟨k + 1, by omega, by go_num, by rw [← HE.out HC.out]; exact HF0.out, B⟩
              case measure => simp [intOf]; omega
        · obtain rfl : k = 24 := by omega
          rw [List.take_of_length_le (by omega), List.drop_of_length_le (by omega), List.append_nil] at F
          rw [HT.out] at F
          have hlo : 24 = out.length := by rw [← HT.out]; simp [hlen]
          have cv := fun c => conv_buf F (c := c) 24 hlo
          clear hlen hlo
          go_wp2
          go_ret
          exact Ret.str rfl B
end Go.Proofs.YtijfmfdnagjlpaaGreatDoor
