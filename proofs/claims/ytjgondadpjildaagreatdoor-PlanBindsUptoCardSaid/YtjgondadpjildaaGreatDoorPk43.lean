/- The reference's Join: the same entries. plan.Fixes, plan.Same and the reference's. -/
import Derived.Test.YtjgondadpjildaaGreatDoorPk42
import Derived.Test.YtjgondadpjildaaGreatDoorPk40
import Derived.Test.YtjgondadpjildaaGreatDoorPk25
import Derived.Test.YtjgondadpjildaaGreatDoorPk39
namespace Go.Proofs.YtjgondadpjildaaGreatDoor
open Go.RowKit
set_option linter.unusedVariables false
set_option linter.unusedSimpArgs false
attribute [local go_sem] run_bs2
theorem rstep0 {out : List Entry} {pb : Bool} {x s : Entry} {ok : Bool} (hg : x.gap = false) (ho : out = []) (hs : rstartOf x = (s, ok)) : joinStep out pb x = if ok then (out ++ [s], false) else (out, pb) := by
  subst ho; rw [← rjoinStep_eq]; simp only [rjoinStep, hg, hs]; rfl
theorem rstep1 {out : List Entry} {pb : Bool} {x y s : Entry} {ok : Bool} (hg : x.gap = false) (hl : out.getLast? = some y) (hs : rstartOf x = (s, ok)) : joinStep out pb x =
    if !pb && (y.leg.arrivedB x.leg && skipB x.leg.ty) then (out, pb) else if !pb && y.leg.joinsB x.leg then (out ++ [x], pb) else if ok then (out ++ [gapE, s], false) else (out, true) := by
  rw [← rjoinStep_eq]; simp only [rjoinStep, hg, hl, hs]; rfl
end Go.Proofs.YtjgondadpjildaaGreatDoor
namespace Go.Proofs.YtjgondadpjildaaGreatDoor
open Go.RowKit
set_option linter.unusedVariables false
set_option linter.unusedSimpArgs false
def FRel (es : List Entry) (w : World) (g : Nat) (cs : Array Value) (t i : Value) (wr : World) : Prop :=
  ∃ (k : Nat) (out : List (List UInt8)), k ≤ es.length ∧ i = .int .i64 k ∧ fixesGo es = out ++ fixesGo (es.drop k) ∧ out.length ≤ k ∧ SOut w wr t out ∧ Below w.heap.size w wr
theorem fixes_end {es : List Entry} {out : List (List UInt8)} {k : Nat} (h : fixesGo es = out ++ fixesGo (es.drop k)) (hk : ¬ k < es.length) : fixesGo es = out := by
  rw [h, List.drop_of_length_le (by omega)]; simp [fixesGo]
set_option maxHeartbeats 2000000 in
set_option maxRecDepth 100000 in
theorem fixes_any (p : Plan) (A : Option Addr) (c : Nat) (w : World) (hs : p.es.length ≤ 9000000) (hc : p.es.length ≤ c) (hE : Ents w A p.es) :
   Calls Tryz.prog 21 #[p.val A c] w (RetStrs w (fixesGo p.es)) := by
  have hO0 := Own1.mk0 w (p.arr A c) 52
  go_enter Tryz.func21, Tryz.ntmps21
  go_upto_region 1 with (fail)
  generalize w.alloc _ = W at hO0 ⊢
  have hc0 := hO0.cell
  have hlt0 := hO0.lt
  have hB0 := hO0.below
  go_wp2
  go_loopw [3, 9] (fun t i wr => FRel p.es w 0 #[] t i wr) (fun _ i _ => p.es.length - (intOf i).toNat)
  case atStart => exact ⟨0, [], by omega, rfl, rfl, by simp, SOut.nil _ _, hB0⟩
  case round =>
    obtain ⟨k, out, hk, rfl, hq, ho, hO, hB⟩ := hrel
    have HQ := Lib.hid hq; clear hq hc0 hlt0 hO0 hB0
    by_cases hlt : k < p.es.length
    · obtain ⟨b, off, hA, hb, he⟩ := hE.get hlt
      subst hA
      have hd := Lib.hid (List.drop_eq_getElem_cons hlt)
      generalize p.es[k] = x at he hd
      have e1 : Is_ent wr b (off + k * 20) x := fun j hj => by rw [hB.cell (p := ⟨b, _, none⟩) hb]; exact he j hj
      have i1 : Has_ent wr b (off + k * 20) := ⟨x, e1⟩
      have i2 : of_ent wr b (off + k * 20) = x := of_ent_eq e1
      clear he e1
      go_upto_region 5 with (fail)
      have X0 := Blk.new wr x.arr 41
      have O0 := hO.alloc (.cells x.arr 41)
      have B0 := below_step hB ((Below.refl wr.heap.size wr).alloc (Nat.le_refl _) (.cells x.arr 41))
      generalize wr.alloc _ = W0 at X0 O0 B0 ⊢
      generalize wr.heap.size = g at X0 ⊢
      have c1 := X0.cell
      have c2 := X0.lt
      have hsz : w.heap.size ≤ W0.heap.size := B0.size
      clear i1 i2 hO hB
      cases hg : x.gap
      · cases hen : endsB x.leg.ty
        · go_wp2_with (go_at_call 56; refine callP (ends_any _ _) ?_)
          go_roundw
          case rel => exact ⟨k + 1, out, by omega, by go_num, by rw [HQ.out, hd.out, fixes_skip (by simp [hg, hen])], by omega, O0, B0⟩
          case measure => simp [intOf]; omega
        · have O4 := O0.alloc (.cells #[sval x.leg.fix] 9)
          have B4 := below_step B0 ((Below.refl W0.heap.size W0).alloc (Nat.le_refl _) (.cells #[sval x.leg.fix] 9))
          go_wp2_with (first
            | (go_at_call 56; refine callP (ends_any _ _) ?_)
            | (at_builtin; refine wpList_append_sout rfl (.tmp 22) (.tmp 26) rfl O4 rfl x.leg.fix W0.heap.size 1 rfl (cell_of_row _ _ 0 _ _ _ (heap_alloc_new W0 _)) (by omega) (by simp; omega) ?_; intro v5 W5 O5 hg5))
          go_roundw
          case rel => exact ⟨k + 1, out ++ [x.leg.fix], by omega, by go_num, by rw [HQ.out, hd.out, fixes_take hg hen]; simp, by simp; omega, O5, below_sgrown B4 O4 hg5⟩
          case measure => simp [intOf]; omega
      · go_wp2
        go_roundw
        case rel => exact ⟨k + 1, out, by omega, by go_num, by rw [HQ.out, hd.out, fixes_skip (by simp [hg])], by omega, O0, B0⟩
        case measure => simp [intOf]; omega
    · go_wp2
      go_ret
      exact ⟨_, rfl, by rw [fixes_end HQ.out hlt]; exact hO, hB⟩
def sameB (p q : Plan) : Bool := p.from_ == q.from_ && p.to_ == q.to_ && p.active == q.active && eqGo p.es q.es
set_option maxHeartbeats 2000000 in
set_option maxRecDepth 100000 in
theorem same_any (p q : Plan) (A B : Option Addr) (c d : Nat) (w : World) (hp : p.es.length ≤ 4000000000) (hq : q.es.length ≤ 4000000000) (hc : p.es.length ≤ c) (hd : q.es.length ≤ d) (hE : Ents w A p.es) (hF : Ents w B q.es) :
   Calls Tryz.prog 18 #[p.val A c, q.val B d] w (Ret w (.bool (sameB p q))) := by
  go_enter Tryz.func18, Tryz.ntmps18
  go_upto_region 1 with (fail)
  generalize hW : (w.alloc _).alloc _ = W
  have X0 : Blk W w.heap.size (p.arr A c) := by rw [← hW]; exact (Blk.new w _ _).alloc _
  have R0 : Blk W (w.heap.size + 1) (q.arr B d) := by rw [← hW, ← World.size_alloc w (.cells (p.arr A c) 52)]; exact Blk.new _ _ _
  have B0 : Below w.heap.size w W := by rw [← hW]; go_grown
  clear hW
  have c1 := X0.cell
  have c2 := X0.lt
  have d1 := R0.cell
  have d2 := R0.lt
  have hcall := Lib.hid (sequal_any p.es q.es A B c d W hp hq hc hd (hE.below (B := 0) B0) (hF.below (B := 0) B0))
  obtain ⟨a1, h1⟩ : ∃ a, (p.from_ == q.from_) = a := ⟨_, rfl⟩
  obtain ⟨a2, h2⟩ : ∃ a, (p.to_ == q.to_) = a := ⟨_, rfl⟩
  obtain ⟨a3, h3⟩ : ∃ a, (p.active == q.active) = a := ⟨_, rfl⟩
  have HS := Lib.hid (show sameB p q = (a1 && a2 && a3 && eqGo p.es q.es) by rw [sameB, h1, h2, h3])
  cases a1 <;> cases a2 <;> cases a3
  all_goals
    go_wp2_with (go_at_call 54; refine callQ hcall.out ?_; intro n)
    all_goals (go_ret; exact Ret.bool (by rw [HS.out]; simp) (by first | exact B0 | exact below_drewN B0 _))
set_option maxHeartbeats 2000000 in
set_option maxRecDepth 100000 in
theorem rsame_any (p q : Plan) (A B : Option Addr) (c d : Nat) (w : World) (hp : p.es.length ≤ 4000000000) (hq : q.es.length ≤ 4000000000) (hc : p.es.length ≤ c) (hd : q.es.length ≤ d) (hE : Ents w A p.es) (hF : Ents w B q.es) :
   Calls Tryz.prog 14 #[p.val A c, q.val B d] w (Ret w (.bool (sameB p q))) := by
  go_enter Tryz.func14, Tryz.ntmps14
  go_upto_region 1 with (fail)
  generalize hW : (w.alloc _).alloc _ = W
  have X0 : Blk W w.heap.size (p.arr A c) := by rw [← hW]; exact (Blk.new w _ _).alloc _
  have R0 : Blk W (w.heap.size + 1) (q.arr B d) := by rw [← hW, ← World.size_alloc w (.cells (p.arr A c) 52)]; exact Blk.new _ _ _
  have B0 : Below w.heap.size w W := by rw [← hW]; go_grown
  clear hW
  have c1 := X0.cell
  have c2 := X0.lt
  have d1 := R0.cell
  have d2 := R0.lt
  have hcall := Lib.hid (equal_any p.es q.es A B c d W hp hq hc hd (hE.below (B := 0) B0) (hF.below (B := 0) B0))
  obtain ⟨a1, h1⟩ : ∃ a, (p.from_ == q.from_) = a := ⟨_, rfl⟩
  obtain ⟨a2, h2⟩ : ∃ a, (p.to_ == q.to_) = a := ⟨_, rfl⟩
  obtain ⟨a3, h3⟩ : ∃ a, (p.active == q.active) = a := ⟨_, rfl⟩
  have HS := Lib.hid (show sameB p q = (a1 && a2 && a3 && eqGo p.es q.es) by rw [sameB, h1, h2, h3])
  cases a1 <;> cases a2 <;> cases a3
  all_goals
    go_wp2_with (go_at_call 10; refine callQ hcall.out ?_; intro n)
    all_goals (go_ret; exact Ret.bool (by rw [HS.out]; simp) (by first | exact B0 | exact below_drewN B0 _))
end Go.Proofs.YtjgondadpjildaaGreatDoor
