/- Layer 58: the reference's edits. Distances read: record.ParseDist, leg.dist, leg.speed. leg.dist, leg.speed. What is laid stays where only blocks of the caller's own are written. -/
import Derived.Test.YtijfmfdnagjlpaaGreatDoorPk23
import Derived.Test.YtijfmfdnagjlpaaGreatDoorPk21
import Derived.Lib.ConvBytes
import Derived.Test.YtijfmfdnagjlpaaGreatDoorPk07
import Derived.Test.YtijfmfdnagjlpaaGreatDoorPk13
namespace Go.Proofs.YtijfmfdnagjlpaaGreatDoor
open Go.RowKit
set_option linter.unusedVariables false
set_option linter.unusedSimpArgs false
/-- A struct result that lies in memory, with two more. -/
theorem results_agg3 {P : Program} {fn : Func} {p t u : Tmp} {ty : TypeId} (h : fn.results = #[.cell p ty, .tmp t, .tmp u]) (tmps : Array Value) (w : World) (g : Nat) (arr : Array Value) (n : Nat) (d : TypeDesc) (hp : tmps.getD p undef = .pointer (some ⟨g, 0, none⟩)) (hn : arr.size = n) (hc : ∀ j, w.cell? ⟨g, j, none⟩ = arr[j]?)
    (hu : P.underlying ty = some d) (hd : (match d with | .struct _ | .array _ _ => true | _ => false) = true) (hi : (P.info? ty).map (·.size) = some n) :
    (results fn tmps).run P w = .ok (.tuple #[.agg arr, tmps.getD t undef, tmps.getD u undef]) w := by
  subst hn
  have hp' : tmps[p]?.getD undef = .pointer (some ⟨g, 0, none⟩) := by simpa using hp
  have hl := run_load_agg (P := P) w ⟨g, 0, none⟩ ty arr.toList _ (fun j v hv => by
    rw [addr_add, Nat.zero_add, hc]
    simpa using hv) hu hd (by simpa using hi)
  simp [results, h, hp', asAddr, hl]
def RetR (W : World) (r : Pressed) : Ending → World → Prop := fun e w' => e = .returned (.tuple #[.agg r.1.arr, .string ⟨r.2.1.toArray⟩, .int .i64 r.2.2]) ∧ Below W.heap.size W w'
theorem run_storeB_term (W : World) (g o : Nat) (v : Array Value) (hv : SzIs v 3) (h1 : Ones v) (hp : Plain W g) (hn : Fits o 3 (blkOf W g)) :
    (store_term (.pointer (some ⟨g, o, none⟩)) (.agg v)).run Tryz.prog W = .ok () (W.setRow g (splice (blkOf W g) o v)) := run_store_blk W g o 3 _ v info_term hv h1 hp hn
theorem SzIs_term (t : Term) (n : Nat) : SzIs t.arr n = (3 = n) := propext ⟨fun h => h, fun h => h⟩
theorem Fits_term (t : Term) (o n : Nat) : Fits o n t.arr = (o + n ≤ 3) := propext ⟨fun h => h, fun h => h⟩
theorem Ones_term (t : Term) : Ones t.arr = True := eq_true (by simp [Ones, Term.arr, Value.oneCell'])
theorem splice_term (a b : Term) : splice a.arr 0 b.arr = b.arr := rfl
theorem RetR.mk {w w' : World} {r : Pressed} {t : Term} {c : List UInt8} {e : Int} (h : r = (t, c, e)) (hb : Below w.heap.size w w') : RetR w r (.returned (.tuple #[.agg t.arr, .string ⟨c.toArray⟩, .int .i64 e])) w' := by subst h; exact ⟨rfl, hb⟩
theorem RetR.mk' {w w' : World} {r : Pressed} {t : Term} {c : List UInt8} {e : Int} {s : ByteArray} (h : r = (t, c, e)) (hs : s = ⟨c.toArray⟩) (hb : Below w.heap.size w w') : RetR w r (.returned (.tuple #[.agg t.arr, .string s, .int .i64 e])) w' := by subst h; subst hs; exact ⟨rfl, hb⟩
def zeroT : Term := ⟨0, 0, []⟩
theorem Blk.is_term {W : World} {g : Nat} {t : Term} (h : Blk W g t.arr) : Is_term W g 0 t := fun j _ => by rw [Nat.zero_add]; exact h.cell j
attribute [local go_sem] run_storeB_term SzIs_term Fits_term Ones_term splice_term
set_option maxHeartbeats 4000000 in
set_option maxRecDepth 100000 in
theorem redit58_any (t : Term) (word rest : List UInt8) (k : Nat) (w : World) (hw : word.length ≤ 100) (hr : rest.length ≤ 100) (hk : k ≤ 4000000000) :
    Calls Tryz.prog 47 #[.agg t.arr, .string ⟨word.toArray⟩, .int .i64 k, .string ⟨rest.toArray⟩] w (RetR w (editS t word k (if rest = [] then [] else 32 :: rest))) := by
  have hi : (Lib.itoa (k : Int)).length ≤ 21 := itoa_len k (by omega) (by omega)
  have HI := Lib.hid (fun w => rnum21_any k w (by omega))
  generalize hO : editS t word k (if rest = [] then [] else 32 :: rest) = out
  go_enter Tryz.func47, Tryz.ntmps47
  go_upto_region 1 with (fail)
  generalize hW : (w.alloc _).alloc _ = W
  have X0 : Blk W w.heap.size t.arr := by rw [← hW]; exact (Blk.new w t.arr _).alloc _
  have R0 : Blk W (w.heap.size + 1) zeroT.arr := by rw [← hW, ← World.size_alloc w (.cells t.arr 23)]; exact Blk.new _ _ _
  have B0 : Below w.heap.size w W := by rw [← hW]; go_grown
  clear hW
  by_cases h60 : 60 < k
  · have HS := Lib.hid (show out = (t, [], 3) by rw [← hO]; unfold editS; rw [if_pos (by omega)])
    clear hO
    have c4 : Has_term W w.heap.size 0 := ⟨t, X0.is_term⟩
    have c5 : of_term W w.heap.size 0 = t := of_term_eq X0.is_term
    have d2 := R0.plain
    have d3 := R0.of
    go_wp2
    exact bodyPost_ret (results_agg3 Tryz.results47 _ _ (w.heap.size + 1) t.arr 3 _ rfl rfl (R0.set _).cell Tryz.underlying23 rfl info_term) rfl (RetR.mk HS.out (below_setRow' B0 (Nat.le_succ _) _))
  · have HS : Hid (out = ({ t with pad := [] }, [69, 68, 73, 84, 32] ++ word ++ [32] ++ Lib.itoa k ++ (if rest = [] then [] else 32 :: rest), 0)) := Lib.hid (by rw [← hO]; unfold editS; rw [if_neg (by omega)])
    clear hO
    generalize Lib.itoa (k : Int) = ik at *
    by_cases hrest : rest = []
    · subst hrest
      replace HS : Hid (out = ({ t with pad := [] }, [69, 68, 73, 84, 32] ++ word ++ [32] ++ ik, 0)) := Lib.hid (by rw [HS.out]; simp)
      go_upto_region 6 with (go_at_call 68; refine callRB (HI.out _) ?_; intro w1 B1)
      have X1 := X0.step B1
      have R1 := R0.step B1
      have B2 := below_step B0 B1
      have c1 := X1.cell
      have c2 := X1.frozen
      have c3 := X1.lt
      go_upto_region 7 with (fail)
      generalize hW2 : w1.setCell _ _ = W2
      have X2 : Blk W2 w.heap.size ({ t with pad := [] } : Term).arr := by rw [← hW2]; exact X1.setCell 2 _
      have R2 : Blk W2 (w.heap.size + 1) zeroT.arr := by rw [← hW2]; exact R1.setFar (by omega) 2 _
      have B3 : Below w.heap.size w W2 := by rw [← hW2]; exact below_setCell B2 (by omega) _ _
      clear hW2 X1 R1 c1 c2 c3
      have c4 : Has_term W2 w.heap.size 0 := ⟨_, X2.is_term⟩
      have c5 : of_term W2 w.heap.size 0 = { t with pad := [] } := of_term_eq X2.is_term
      have d2 := R2.plain
      have d3 := R2.of
      go_wp2
      exact bodyPost_ret (results_agg3 Tryz.results47 _ _ (w.heap.size + 1) ({ t with pad := [] } : Term).arr 3 _ rfl rfl (R2.set _).cell Tryz.underlying23 rfl info_term) rfl (RetR.mk' HS.out (by first | rfl | (simp [ba_append]; done)) (below_setRow' B3 (Nat.le_succ _) _))
    · have hne : (rest == []) = false := by simp [hrest]
      replace HS : Hid (out = ({ t with pad := [] }, [69, 68, 73, 84, 32] ++ word ++ [32] ++ ik ++ 32 :: rest, 0)) := Lib.hid (by rw [HS.out, if_neg hrest])
      go_upto_region 6 with (go_at_call 68; refine callRB (HI.out _) ?_; intro w1 B1)
      have X1 := X0.step B1
      have R1 := R0.step B1
      have B2 := below_step B0 B1
      have c1 := X1.cell
      have c2 := X1.frozen
      have c3 := X1.lt
      go_upto_region 7 with (fail)
      generalize hW2 : w1.setCell _ _ = W2
      have X2 : Blk W2 w.heap.size ({ t with pad := [] } : Term).arr := by rw [← hW2]; exact X1.setCell 2 _
      have R2 : Blk W2 (w.heap.size + 1) zeroT.arr := by rw [← hW2]; exact R1.setFar (by omega) 2 _
      have B3 : Below w.heap.size w W2 := by rw [← hW2]; exact below_setCell B2 (by omega) _ _
      clear hW2 X1 R1 c1 c2 c3
      have c4 : Has_term W2 w.heap.size 0 := ⟨_, X2.is_term⟩
      have c5 : of_term W2 w.heap.size 0 = { t with pad := [] } := of_term_eq X2.is_term
      have d2 := R2.plain
      have d3 := R2.of
      go_wp2
      exact bodyPost_ret (results_agg3 Tryz.results47 _ _ (w.heap.size + 1) ({ t with pad := [] } : Term).arr 3 _ rfl rfl (R2.set _).cell Tryz.underlying23 rfl info_term) rfl (RetR.mk' HS.out (by first | rfl | (simp [ba_append]; done)) (below_setRow' B3 (Nat.le_succ _) _))
end Go.Proofs.YtijfmfdnagjlpaaGreatDoor
namespace Go.Proofs.YtijfmfdnagjlpaaGreatDoor
open Go.RowKit Go.Sort
set_option linter.unusedVariables false
set_option linter.unusedSimpArgs false
set_option maxRecDepth 100000
theorem distP3_bad1 {a r : List UInt8} {b : Bool} (hp : plainB a = false) : distP3 a r b = (0, 4) := by unfold distP3; rw [if_neg (by simp [hp])]
theorem distP3_bad2 {a r : List UInt8} (hr : restOk r = false) : distP3 a r true = (0, 4) := by unfold distP3; rw [if_neg (by simp [hr])]
theorem distP3_one {a r : List UInt8} (hp : plainB a = true) : distP3 a r false = if 9 < a.length then (0, 2) else if 8000000 < val a * 6000 then (0, 2) else (((val a * 6000 : Nat) : Int), 0) := by
  unfold distP3; rw [if_pos ⟨hp, .inl rfl⟩]; simp
theorem distP3_two {a r : List UInt8} (hp : plainB a = true) (hr : restOk r = true) : distP3 a r true = if 6000 ≤ val r then (0, 4) else if 9 < a.length then (0, 2) else if 8000000 < val a * 6000 + val r then (0, 2) else (((val a * 6000 + val r : Nat) : Int), 0) := by
  unfold distP3; rw [if_pos ⟨hp, .inr hr⟩]; simp
theorem val_nine {a : List UInt8} (hp : plainB a = true) (h : a.length ≤ 9) : val a < 1000000000 := by
  have hv := val_lt a (plainB_all hp)
  have h2 : 10 ^ a.length ≤ 10 ^ 9 := Nat.pow_le_pow_right (by decide) h
  have h3 : (10 : Nat) ^ 9 = 1000000000 := by decide
  omega
end Go.Proofs.YtijfmfdnagjlpaaGreatDoor
namespace Go.Proofs.YtijfmfdnagjlpaaGreatDoor
open Go.RowKit Go.Sort
set_option linter.unusedVariables false
set_option linter.unusedSimpArgs false
set_option maxRecDepth 100000
theorem legDist_nil (c : UInt8) : legDistS c [] = (0, false) := rfl
theorem legDist_no {c x : UInt8} {r : List UInt8} (h : ¬ x = c) : legDistS c (x :: r) = (0, false) := by unfold legDistS; dsimp only; rw [if_neg (fun e => h e.1)]
theorem legDist_bad {c : UInt8} {r : List UInt8} (h : ¬ ((distP r).2 = 0 ∧ (distP r).1 ≠ 0)) : legDistS c (c :: r) = (0, false) := by unfold legDistS; dsimp only; rw [if_neg (fun e => h e.2)]
theorem legDist_ok {c : UInt8} {r : List UInt8} (h : (distP r).2 = 0 ∧ (distP r).1 ≠ 0) : legDistS c (c :: r) = ((distP r).1, distS (distP r).1.toNat == r) := by unfold legDistS; dsimp only; rw [if_pos ⟨rfl, h⟩]
/-- The number so far: ten times what stood ahead, and a digit. -/
theorem speedS_no {l : List UInt8} (h : speedB l = false) : speedS l = (0, false) := by unfold speedS; rw [h]; rfl
theorem speedS_ok {l : List UInt8} (h : speedB l = true) : speedS l = ((val l.tail : Int), true) := by unfold speedS; rw [h]; rfl
theorem speedB_two (x y : UInt8) (r : List UInt8) : speedB (x :: y :: r) = (x == 115 && y != 48 && decide (r.length ≤ 3) && (y :: r).all isD) := rfl
end Go.Proofs.YtijfmfdnagjlpaaGreatDoor
namespace Go.Proofs.YtijfmfdnagjlpaaGreatDoor
open Go.RowKit
set_option linter.unusedVariables false
set_option linter.unusedSimpArgs false
theorem Laid.touch {S : List Nat} {w0 w w' : World} (h : Laid w0) (hb : Below w0.heap.size w0 w) (t : Touch S w w') (hs : ∀ x ∈ S, w0.heap.size ≤ x) : Laid w' := h.below (t.below hb hs)
end Go.Proofs.YtijfmfdnagjlpaaGreatDoor
