/- strings.Join over strings as lists of bytes; plan.dash, plan.point. -/
import Derived.Test.YtjgondadpjildaaGreatDoorPk25
import Derived.Test.YtjgondadpjildaaGreatDoorPk28
import Derived.Lib.Join
import Derived.Lib.ItoaLen
namespace Go.Proofs.YtjgondadpjildaaGreatDoor
open Go.RowKit Go.Sort
set_option linter.unusedVariables false
set_option linter.unusedSimpArgs false
theorem ba_append (a b : List UInt8) : (ByteArray.mk a.toArray) ++ (ByteArray.mk b.toArray) = ⟨(a ++ b).toArray⟩ := by
  apply ByteArray.ext
  simp [ByteArray.data_append]
theorem ba_maps (ws : List (List UInt8)) : (ws.map fun s => ByteArray.mk s.toArray).map (·.data.toList) = ws := by
  induction ws with
  | nil => rfl
  | cons x r ih => simp [ih]
theorem lens_le : ∀ (ws : List (List UInt8)) (m : Nat), (∀ s ∈ ws, s.length ≤ m) → Lib.lens ws ≤ m * ws.length
  | [], m, _ => by simp [Lib.lens]
  | x :: r, m, h => by
    have h1 := lens_le r m fun s hs => h s (by simp [hs])
    have h2 := h x (by simp)
    have e : Lib.lens (x :: r) = x.length + Lib.lens r := rfl
    rw [e, List.length_cons, Nat.mul_add]; omega
theorem join_len_le (ws : List (List UInt8)) (sep : List UInt8) (m : Nat) (h : ∀ s ∈ ws, s.length ≤ m) : (Lib.join ws sep).length ≤ (m + sep.length) * ws.length := by
  cases ws with
  | nil => simp [Lib.join, List.intercalate]
  | cons x r =>
    rw [Lib.join_length, Nat.add_mul]
    have := lens_le (x :: r) m h
    have h2 : sep.length * r.length ≤ sep.length * (x :: r).length := Nat.mul_le_mul_left _ (by simp)
    omega
theorem sjoin_any (ws : List (List UInt8)) (A : Option Addr) (c : Nat) (sep : List UInt8) (w : World) (hne : ws ≠ []) (hS : Strs w A ws) (hc : ws.length ≤ c) (hN : ws.length ≤ 1000) (m : Nat) (hm : ∀ s ∈ ws, s.length ≤ m) (hlen : m + sep.length ≤ 100000000000) :
    Calls Tryz.prog 49 #[.slice A ws.length c, .string ⟨sep.toArray⟩] w (Ret w (.string ⟨(Lib.join ws sep).toArray⟩)) := by
  obtain ⟨b, o, rfl, hb, hcell⟩ := hS.at_ hne
  have hl := join_len_le ws sep m hm
  have hl2 : (m + sep.length) * ws.length ≤ 100000000000 * 1000 := Nat.mul_le_mul hlen hN
  have h := Tryz.strings_Join b o c (ws.map fun s => ByteArray.mk s.toArray) ⟨sep.toArray⟩ w (by
    intro j x hx
    rw [List.getElem?_map] at hx
    cases hj : ws[j]? with
    | none => simp [hj] at hx
    | some s =>
      rw [hcell j s hj]
      simp [hj] at hx
      rw [← hx]; rfl) hb (by simp; omega) (by simpa using hc) (by rw [ba_maps]; simp; omega)
  rw [List.length_map, ba_maps] at h
  exact h
def dashB (s : List UInt8) : List UInt8 := if s.isEmpty then [45] else s
theorem dash_any (s : List UInt8) (w : World) (hs : s.length ≤ 4611686018427387904) : Calls Tryz.prog 45 #[.string ⟨s.toArray⟩] w (RetP w (.string ⟨(dashB s).toArray⟩)) := by
  go_enter Tryz.func45, Tryz.ntmps45
  cases s with
  | nil => go_wp2; go_ret; exact ⟨rfl, rfl⟩
  | cons x r =>
    have h0 : ¬ ((x :: r) = ([] : List UInt8)) := by simp
    go_wp2; go_ret; exact ⟨rfl, rfl⟩
def cat (a b : List UInt8) : List UInt8 := a ++ b
theorem cat_len (a b : List UInt8) : (cat a b).length = a.length + b.length := by simp [cat]
theorem ba_cat (a b : List UInt8) : (ByteArray.mk a.toArray) ++ (ByteArray.mk b.toArray) = ⟨(cat a b).toArray⟩ := ba_append a b
attribute [local go_sem] ba_append
def pointText (ref : List UInt8) (x y : Int) : List UInt8 := if ref.isEmpty then [45] else Lib.itoa x ++ [44] ++ Lib.itoa y
theorem callG {P : Program} {f : FuncId} {args : Array Value} {W : World} {v : Value} (h : Calls P f args W fun e w' => e = .returned v ∧ ∃ k os, w' = grow (W.drewN k) os) : Calls P f args W (Ret W v) :=
  h.mono fun e w' ⟨he, k, os, hw⟩ => ⟨he, by rw [hw]; exact below_regrown W (W.drawn + k) os⟩
theorem itoa_len (n : Int) (h0 : -9223372036854775808 ≤ n) (h1 : n ≤ 9223372036854775807) : (Lib.itoa n).length ≤ 21 := Lib.itoa_length_le n h0 h1
theorem fmt_any (n : Int) (h0 : -9223372036854775808 ≤ n) (h1 : n ≤ 9223372036854775807) (w : World) (hL : Laid w) : Calls Tryz.prog 85 #[.int .i64 n, .int .i64 10] w (Ret w (.string ⟨(Lib.itoa n).toArray⟩)) :=
  callG (Tryz.strconv_FormatInt_10 n h0 h1 w hL.pow10)
theorem itoa_any (n : Int) (h0 : -9223372036854775808 ≤ n) (h1 : n ≤ 9223372036854775807) (w : World) (hL : Laid w) : Calls Tryz.prog 46 #[.int .i64 n] w (Ret w (.string ⟨(Lib.itoa n).toArray⟩)) :=
  callG (Tryz.strconv_Itoa n h0 h1 w hL.pow10)
/-- The numbers of a point are numbers of 64 bits. -/
def i64 (n : Int) : Prop := -9223372036854775808 ≤ n ∧ n ≤ 9223372036854775807
set_option maxHeartbeats 2000000 in
set_option maxRecDepth 100000 in
theorem point_any (ref : List UInt8) (x y : Int) (w : World) (hL : Laid w) (hs : ref.length ≤ 4611686018427387904) (hx : i64 x) (hy : i64 y) :
    Calls Tryz.prog 47 #[.string ⟨ref.toArray⟩, .agg #[.int .i64 x, .int .i64 y]] w (Ret w (.string ⟨(pointText ref x y).toArray⟩)) := by
  have hO0 := Own1.mk0 w #[.int .i64 x, .int .i64 y] 38
  go_enter Tryz.func47, Tryz.ntmps47
  go_upto_region 1 with (fail)
  generalize w.alloc _ = W at hO0 ⊢
  have hc := hO0.cell
  have hlt := hO0.lt
  have hB := hO0.below
  have hLW := hL.below hB
  cases ref with
  | nil => go_wp2; go_ret; exact Ret.str rfl hB
  | cons b r =>
    have h0 : ¬ ((b :: r) = ([] : List UInt8)) := by simp
    have n1 := itoa_len x hx.1 hx.2
    have n2 := itoa_len y hy.1 hy.2
    have k0 := cell_regrown (show W.cell? ⟨w.heap.size, 0, none⟩ = some (.int .i64 x) from hc 0)
    have k1 := cell_regrown (show W.cell? ⟨w.heap.size, 1, none⟩ = some (.int .i64 y) from hc 1)
    have l1 : ¬ 9223372036854775807 < (Lib.itoa x).length + 1 := by omega
    have l2 : ¬ 9223372036854775807 < (Lib.itoa x).length + 1 + (Lib.itoa y).length := by omega
    have cx : ∀ d os, Calls Tryz.prog 85 #[.int .i64 x, .int .i64 10] (grow (redrawn W d) os) fun e w'' => e = .returned (.string ⟨(Lib.itoa x).toArray⟩) ∧ ∃ p : Regrown, w'' = grow (redrawn W p.d) p.os := fun d os => Calls.regrown_ret (fmt_any x hx.1 hx.2 _ (hLW.below (below_regrown W d os)))
    have cy : ∀ d os, Calls Tryz.prog 85 #[.int .i64 y, .int .i64 10] (grow (redrawn W d) os) fun e w'' => e = .returned (.string ⟨(Lib.itoa y).toArray⟩) ∧ ∃ p : Regrown, w'' = grow (redrawn W p.d) p.os := fun d os => Calls.regrown_ret (fmt_any y hy.1 hy.2 _ (hLW.below (below_regrown W d os)))
    go_upto_region 3 with (fail)
    refine wp_region_quiet_below (by kernel_rfl) (by kernel_rfl) ?_
    repeat (quiet_step (first | exact cx _ _ | exact cy _ _))
    refine wpQuiet_nil ?_
    intro _ hw'
    obtain ⟨⟨dq, osq⟩, hw''⟩ := hw'
    subst hw''
    go_wp2
    go_ret
    exact Ret.str (by simp [pointText]) (below_step hB (below_regrown W dq osq))
end Go.Proofs.YtjgondadpjildaaGreatDoor
