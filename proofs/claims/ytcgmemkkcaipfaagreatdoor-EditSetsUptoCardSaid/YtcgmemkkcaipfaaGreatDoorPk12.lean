/- The reference's start. One or two entries laid into a new row (what append takes). Join in plain Lean; a slice of entries that the call itself grows. What a grown slice of entries is good for. A slice of strings that the call itself grows. -/
import Derived.Test.YtcgmemkkcaipfaaGreatDoorPk11
import Derived.Great.BuildSlice
import Derived.Laws.OwnMore
namespace Go.Proofs.YtcgmemkkcaipfaaGreatDoor
open Go.RowKit
set_option linter.unusedVariables false
set_option linter.unusedSimpArgs false
def stL (x : Entry) : Leg := ⟨1, x.leg.fix, [], 0, false, 0, 0, 0, 0, x.leg.lo, x.leg.hi, x.leg.speed, x.leg.rnp⟩
def rstartForm (x : Entry) : Entry := ⟨false, stL x, x.ex, x.ey, 0, 0, x.sec, x.via⟩
def rstartOf (x : Entry) : Entry × Bool := if startsB x.leg.ty then (x, true) else if startAble x.leg.ty then (rstartForm x, true) else (x, false)
attribute [local go_sem] Win.arr_mk Pt.arr_mk
theorem Entry.is_pt {W : World} {g : Nat} {x : Entry} (h : Blk W g x.arr) : Is_pt W g 14 ⟨x.ex, x.ey⟩ := by
  intro j hj
  rw [h.cell]
  match j, hj with
  | 0, _ | 1, _ => rfl
set_option maxHeartbeats 4000000 in
set_option maxRecDepth 100000 in
theorem rstart_any (x : Entry) (w : World) : Calls Tryz.prog 84 #[x.val] w (Ret w (.tuple #[(rstartOf x).1.val, .bool (rstartOf x).2])) := by
  obtain ⟨a1, h1⟩ : ∃ a, startsB x.leg.ty = a := ⟨_, rfl⟩
  obtain ⟨a2, h2⟩ : ∃ a, (x.leg.ty != 2) = a := ⟨_, rfl⟩
  obtain ⟨a5, h5⟩ : ∃ a, (x.leg.ty != 5) = a := ⟨_, rfl⟩
  obtain ⟨a6, h6⟩ : ∃ a, (x.leg.ty != 6) = a := ⟨_, rfl⟩
  have hs := Lib.hid (show rstartOf x = if a1 then (x, true) else if !(a2 && a5 && a6) then (rstartForm x, true) else (x, false) by
    rw [rstartOf, startAble, ← h1, ← h2, ← h5, ← h6]; simp [bne, Bool.or_assoc])
  go_enter Tryz.func84, Tryz.ntmps84
  go_upto_region 1 with (fail)
  generalize hW : (w.alloc _).alloc _ = W
  have X0 : Blk W w.heap.size x.arr := by rw [← hW]; exact (Blk.new w x.arr _).alloc _
  have R0 : Blk W (w.heap.size + 1) zeroE.arr := by rw [← hW, ← World.size_alloc w (.cells x.arr 51)]; exact Blk.new _ _ _
  have B0 : Below w.heap.size w W := by rw [← hW]; go_grown
  clear hW
  have c0 := X0.lt
  have c1 := X0.cell
  have c2 := X0.plain
  have c3 := X0.of
  have c4 : Has_ent W w.heap.size 0 := ⟨x, X0.is_ent⟩
  have c5 : of_ent W w.heap.size 0 = x := of_ent_eq X0.is_ent
  have c6 : Has_win W w.heap.size 10 := ⟨_, Entry.is_win X0⟩
  have c7 : of_win W w.heap.size 10 = ⟨x.leg.lo, x.leg.hi⟩ := of_win_eq (Entry.is_win X0)
  have c8 : Has_pt W w.heap.size 14 := ⟨_, Entry.is_pt X0⟩
  have c9 : of_pt W w.heap.size 14 = ⟨x.ex, x.ey⟩ := of_pt_eq (Entry.is_pt X0)
  have d0 := R0.lt
  have d1 := R0.cell
  have d2 := R0.plain
  have d3 := R0.of
  have g1 : Has_leg (W.alloc (.cells #[.int .u8 1, .string ⟨x.leg.fix.toArray⟩, .string ⟨#[]⟩, .int .u8 0, .bool false, .int .i64 0, .int .i64 0, .int .i64 0, .int .i64 0, .int .i64 x.leg.lo, .int .i64 x.leg.hi, .int .i64 x.leg.speed, .int .i64 x.leg.rnp] 46)) W.heap.size 0 := ⟨stL x, Is_leg_new W (stL x) _⟩
  have g2 : of_leg (W.alloc (.cells #[.int .u8 1, .string ⟨x.leg.fix.toArray⟩, .string ⟨#[]⟩, .int .u8 0, .bool false, .int .i64 0, .int .i64 0, .int .i64 0, .int .i64 0, .int .i64 x.leg.lo, .int .i64 x.leg.hi, .int .i64 x.leg.speed, .int .i64 x.leg.rnp] 46)) W.heap.size 0 = stL x := of_leg_eq (Is_leg_new W (stL x) _)
  have g3 : (stL x).arr = #[.int .u8 1, .string ⟨x.leg.fix.toArray⟩, .string ⟨#[]⟩, .int .u8 0, .bool false, .int .i64 0, .int .i64 0, .int .i64 0, .int .i64 0, .int .i64 x.leg.lo, .int .i64 x.leg.hi, .int .i64 x.leg.speed, .int .i64 x.leg.rnp] := rfl
  have f4 : splice zeroE.arr 0 x.arr = x.arr := rfl
  cases a1
  · cases a2
    · go_wp2_with (go_at_call 59; refine callP (rstarts_any _ _) ?_)
      exact bodyPost_ret (results_ent Tryz.results84 _ _ (w.heap.size + 1) (rstartForm x) rfl (((R0.alloc _).set (rstartForm x).arr).is_ent)) rfl (Ret.start (by rw [hs.out]; rfl) (below_setRow' (below_step B0 ((Below.refl _ _).alloc (Nat.le_refl _) _)) (by omega) _))
    · cases a5
      · go_wp2_with (go_at_call 59; refine callP (rstarts_any _ _) ?_)
        exact bodyPost_ret (results_ent Tryz.results84 _ _ (w.heap.size + 1) (rstartForm x) rfl (((R0.alloc _).set (rstartForm x).arr).is_ent)) rfl (Ret.start (by rw [hs.out]; rfl) (below_setRow' (below_step B0 ((Below.refl _ _).alloc (Nat.le_refl _) _)) (by omega) _))
      · cases a6
        · go_wp2_with (go_at_call 59; refine callP (rstarts_any _ _) ?_)
          exact bodyPost_ret (results_ent Tryz.results84 _ _ (w.heap.size + 1) (rstartForm x) rfl (((R0.alloc _).set (rstartForm x).arr).is_ent)) rfl (Ret.start (by rw [hs.out]; rfl) (below_setRow' (below_step B0 ((Below.refl _ _).alloc (Nat.le_refl _) _)) (by omega) _))
        · go_wp2_with (go_at_call 59; refine callP (rstarts_any _ _) ?_)
          exact bodyPost_ret (results_ent Tryz.results84 _ _ (w.heap.size + 1) x rfl ((R0.set x.arr).is_ent)) rfl (Ret.start (by rw [hs.out]; rfl) (below_setRow' B0 (by omega) _))
  · go_wp2_with (go_at_call 59; refine callP (rstarts_any _ _) ?_)
    exact bodyPost_ret (results_ent Tryz.results84 _ _ (w.heap.size + 1) x rfl ((R0.set x.arr).is_ent)) rfl (Ret.start (by rw [hs.out]; rfl) (below_setRow' B0 (by omega) _))
end Go.Proofs.YtcgmemkkcaipfaaGreatDoor
namespace Go.Proofs.YtcgmemkkcaipfaaGreatDoor
open Go.RowKit
set_option linter.unusedVariables false
set_option linter.unusedSimpArgs false
theorem info_ent_all : (Tryz.prog.info? 51).map (fun i => (i.zero, i.size, i.bytes)) = some (some zeroE.val, 20, 176) := by kernel_rfl
def bs1 (parts : Array (Nat × Value)) : Sem Value := Instr.buildSlice 31 1 parts
theorem bs1_fold (parts : Array (Nat × Value)) : Instr.buildSlice 31 1 parts = bs1 parts := rfl
def bs2 (parts : Array (Nat × Value)) : Sem Value := Instr.buildSlice 31 2 parts
theorem bs2_fold (parts : Array (Nat × Value)) : Instr.buildSlice 31 2 parts = bs2 parts := rfl
theorem run_bs1 (w : World) (x : Entry) : (bs1 #[(0, .agg x.arr)]).run Tryz.prog w = .ok (.slice (some ⟨w.heap.size, 0, none⟩) 1 1) (w.alloc (.cells x.arr 51)) := by
  obtain ⟨i0, hi, hz0, hz1, hz2⟩ := info_parts info_ent_all
  refine run_buildSlice w 31 51 1 #[(0, .agg x.arr)] x.arr i0 _ Tryz.underlying31 hi hz0 (by rw [hz1]; decide) (by rw [hz1]; decide) ?_
  rw [hz1]
  kernel_rfl
theorem run_bs2 (w : World) (x y : Entry) : (bs2 #[(0, .agg x.arr), (1, .agg y.arr)]).run Tryz.prog w = .ok (.slice (some ⟨w.heap.size, 0, none⟩) 2 2) (w.alloc (.cells (x.arr ++ y.arr) 51)) := by
  obtain ⟨i0, hi, hz0, hz1, hz2⟩ := info_parts info_ent_all
  refine run_buildSlice w 31 51 2 #[(0, .agg x.arr), (1, .agg y.arr)] (x.arr ++ y.arr) i0 _ Tryz.underlying31 hi hz0 (by rw [hz1]; decide) (by rw [hz1]; decide) ?_
  rw [hz1]
  kernel_rfl
attribute [go_sem ↓] bs1_fold bs2_fold
attribute [go_sem] run_bs1
end Go.Proofs.YtcgmemkkcaipfaaGreatDoor
namespace Go.Proofs.YtcgmemkkcaipfaaGreatDoor
open Go.RowKit
set_option linter.unusedVariables false
set_option linter.unusedSimpArgs false
def skipB (t : Int) : Bool := t == 1 || t == 2 || t == 4
/-- What an entry that cannot follow does: it begins anew, if it may. -/
def joinNew (out : List Entry) (pend : Bool) (x : Entry) : List Entry × Bool :=
  if (startOf x).2 then ((if out.isEmpty then out else out ++ [gapE]) ++ [(startOf x).1], false) else (out, pend || !out.isEmpty)
def joinStep (out : List Entry) (pend : Bool) (x : Entry) : List Entry × Bool :=
  if x.gap then (out, true) else
  match out.getLast? with
  | none => joinNew out pend x
  | some y => if pend then joinNew out pend x else
      if y.leg.arrivedB x.leg && skipB x.leg.ty then (out, pend) else if y.leg.joinsB x.leg then (out ++ [x], pend) else joinNew out pend x
def joinGo : List Entry → Bool → List Entry → List Entry
  | out, _, [] => out
  | out, pend, x :: r => joinGo (joinStep out pend x).1 (joinStep out pend x).2 r
def joinE (l : List Entry) : List Entry := joinGo [] false l

def cellsOf (es : List Entry) : List Value := es.flatMap fun x => x.arr.toList
theorem cellsOf_len (es : List Entry) : (cellsOf es).length = es.length * 20 := by
  induction es with
  | nil => rfl
  | cons x r ih => simp only [cellsOf, List.flatMap_cons, List.length_append, List.length_cons] at *; rw [ih]; simp [Entry.arr]; omega
theorem cellsOf_app (a b : List Entry) : cellsOf (a ++ b) = cellsOf a ++ cellsOf b := by simp [cellsOf]
theorem cellsOf_one (es : List Entry) : ∀ u ∈ cellsOf es, u.oneCell' = true := by
  intro u hu
  obtain ⟨x, _, hx⟩ := List.mem_flatMap.1 hu
  exact (List.all_eq_true.1 (Entry.arr_oneL x)) u hx
/-- The slice v, made since w0, holds es. -/
def Out (w0 W : World) (v : Value) (es : List Entry) : Prop := W.ownsRow w0.heap.size 51 20 v es.length (cellsOf es)
theorem cellsOf_at : ∀ (es : List Entry) (i : Nat) (x : Entry), es[i]? = some x → ∀ j, j < 20 → (cellsOf es)[i * 20 + j]? = x.arr[j]?
  | [], i, x, h, _, _ => by simp at h
  | y :: r, 0, x, h, j, hj => by
    obtain rfl : y = x := by simpa using h
    simp only [cellsOf, List.flatMap_cons, Nat.zero_mul, Nat.zero_add]
    rw [List.getElem?_append_left (by simp [Entry.arr]; omega)]
    simp
  | y :: r, i + 1, x, h, j, hj => by
    have ih := cellsOf_at r i x (by simpa using h) j hj
    simp only [cellsOf, List.flatMap_cons] at ih ⊢
    rw [List.getElem?_append_right (by simp [Entry.arr]; omega), ← ih]
    congr 1
    simp [Entry.arr]
    omega
end Go.Proofs.YtcgmemkkcaipfaaGreatDoor
namespace Go.Proofs.YtcgmemkkcaipfaaGreatDoor
open Go.RowKit
set_option linter.unusedVariables false
set_option linter.unusedSimpArgs false
theorem Out.nil (w0 W : World) : Out w0 W (.slice none 0 0) [] := ⟨rfl, .inl ⟨rfl, rfl⟩⟩
theorem Out.form {w0 W : World} {v : Value} {es : List Entry} (h : Out w0 W v es) : ∃ A c, v = .slice A es.length c ∧ es.length ≤ c ∧ Ents W A es ∧ (∀ a, A = some a → w0.heap.size ≤ a.block) := by
  obtain ⟨hl, h⟩ := h
  rcases h with ⟨rfl, h0⟩ | ⟨g, cap, cur, rfl, hg, hb, hn, _, hsz, hc⟩
  · refine ⟨none, 0, by rw [h0], by omega, ?_, by simp⟩
    obtain rfl : es = [] := List.eq_nil_of_length_eq_zero h0
    exact Ents.nil _ _
  · refine ⟨some ⟨g, 0, none⟩, cap, rfl, hn, ⟨fun _ => ⟨g, 0, rfl, ?_, ?_⟩⟩, by rintro a h; injection h with h; subst h; exact hg⟩
    · rcases Nat.lt_or_ge g W.heap.size with hlt | hge
      · exact hlt
      · rw [Array.getElem?_eq_none hge] at hb; cases hb
    · intro i x hx j hj
      have h1 := cellsOf_at es i x hx j hj
      have hi : i < es.length := (List.getElem?_eq_some_iff.1 hx).1
      rw [Nat.zero_add, cell_of_row W g _ cur _ _ hb, ← h1, ← hc, List.getElem?_take]
      rw [if_pos (by omega)]
      simp
theorem Out.below {w0 W W' : World} {v : Value} {es : List Entry} (h : Out w0 W v es) (hb : Below W.heap.size W W') : Out w0 W' v es := by
  obtain ⟨hl, h⟩ := h
  refine ⟨hl, ?_⟩
  rcases h with ⟨rfl, h0⟩ | ⟨g, cap, cur, rfl, hg, hbk, hn, hm, hsz, hc⟩
  · exact .inl ⟨rfl, h0⟩
  · have hlt : g < W.heap.size := by
      rcases Nat.lt_or_ge g W.heap.size with hlt | hge
      · exact hlt
      · rw [Array.getElem?_eq_none hge] at hbk; cases hbk
    exact .inr ⟨g, cap, cur, rfl, hg, (hb.block g hlt).trans hbk, hn, hm, hsz, hc⟩
theorem Out.alloc {w0 W : World} {v : Value} {es : List Entry} (h : Out w0 W v es) (o : Obj) : Out w0 (W.alloc o) v es := h.below ((Below.refl _ _).alloc (Nat.le_refl _) _)
/-- 'out = append(out, ..)': the source is a block of the entries news. -/
theorem wpList_append_out {ops : Array Oper} {rest : List Oper} {op : Oper} {a : Act} {Q : Exit → Act → World → Prop} {w0 W : World} {v : Value} {es : List Entry} (hgd : op.guard = none) (s x : Operand)
    (ho : op.op = .call { callee := .builtin .append, args := #[s, x], argTypes := #[31, 31] }) (h : Out w0 W v es) (hs : a.eval s = v) (news : List Entry) (g c n : Nat) (hnn : news.length = n)
    (hx : a.eval x = .slice (some ⟨g, 0, none⟩) n c) (hg : Blk W g (cellsOf news).toArray) (hn : es.length + news.length ≤ 1000000) (hb : w0.heap.size ≤ W.heap.size)
    (k : ∀ v' W', Out w0 W' v' (es ++ news) → W.grownBy W' v.ownBlock → wpList Tryz.prog ops Q rest (a.put op.dst v') W') : wpList Tryz.prog ops Q (op :: rest) a W := by
  obtain ⟨i0, hi, hz0, hz1, hz2⟩ := info_parts info_ent_all
  subst hnn
  refine wpList_append_own W hgd s x 31 ho w0.heap.size 51 i0 _ 20 176 Tryz.underlying31 hi hz0 hz1 hz2 rfl (by omega) v es.length (cellsOf es) hs h ⟨g, 0, none⟩ news.length c (cellsOf news) hx (cellsOf_len news) ?_ (cellsOf_one news) (by unfold maxLen; omega) (by omega) hb ?_
  · intro j u hu
    rw [addr_add, Nat.zero_add, hg.cell]
    simpa using hu
  · intro v' W' h1 h2 _
    refine k v' W' ?_ h2
    unfold Out
    rw [List.length_append, cellsOf_app]
    exact h1
theorem Blk.one (w : World) (x : Entry) (t : TypeId) : Blk (w.alloc (.cells x.arr t)) w.heap.size (cellsOf [x]).toArray := by
  have : (cellsOf [x]).toArray = x.arr := by simp [cellsOf]
  rw [this]; exact Blk.new w x.arr t
theorem Blk.two (w : World) (x y : Entry) (t : TypeId) : Blk (w.alloc (.cells (x.arr ++ y.arr) t)) w.heap.size (cellsOf [x, y]).toArray := by
  have : (cellsOf [x, y]).toArray = x.arr ++ y.arr := by simp [cellsOf]
  rw [this]; exact Blk.new w _ t
theorem Out.own_lt {w0 W : World} {v : Value} {es : List Entry} (hO : Out w0 W v es) {g : Nat} (h : v.ownBlock = some g) : g < W.heap.size := by
  rcases hO.2 with ⟨rfl, _⟩ | ⟨g', cap, cur, rfl, _, hb, _⟩
  · simp [Value.ownBlock] at h
  · have : g' = g := by simpa [Value.ownBlock] using h
    subst this
    rcases Nat.lt_or_ge g' W.heap.size with hlt | hge
    · exact hlt
    · rw [Array.getElem?_eq_none hge] at hb; cases hb
/-- A block made behind the slice's own is kept by the append. -/
theorem Blk.grown {W W' : World} {row : Option Nat} {g : Nat} {cs : Array Value} (h : Blk W g cs) (hg : W.grownBy W' row) (hne : row ≠ some g) : Blk W' g cs := by
  have hlt := h.lt
  obtain ⟨t, h⟩ := h
  exact ⟨t, (hg.block g hlt (fun e => hne e.symm)).trans h⟩
/-- What the append may have written lies behind w0. -/
theorem below_grown {w0 W W' : World} {v : Value} {es : List Entry} (hB : Below w0.heap.size w0 W) (hO : Out w0 W v es) (hg : W.grownBy W' v.ownBlock) : Below w0.heap.size w0 W' := by
  refine hB.grown hg hB.size ?_
  intro g he
  rcases hO.2 with ⟨rfl, _⟩ | ⟨g', cap, cur, rfl, hgb, _⟩
  · simp [Value.ownBlock] at he
  · have : g' = g := by simpa [Value.ownBlock] using he
    omega
end Go.Proofs.YtcgmemkkcaipfaaGreatDoor
namespace Go.Proofs.YtcgmemkkcaipfaaGreatDoor
open Go.RowKit
set_option linter.unusedVariables false
set_option linter.unusedSimpArgs false
def sval (s : List UInt8) : Value := .string ⟨s.toArray⟩
def svals (ss : List (List UInt8)) : List Value := ss.map sval
/-- The slice v, made since w0, holds the strings ss. -/
def SOut (w0 W : World) (v : Value) (ss : List (List UInt8)) : Prop := W.ownsRow w0.heap.size 9 1 v ss.length (svals ss)
/-- The slice at A holds the strings ss. -/
structure Strs (W : World) (A : Option Addr) (ss : List (List UInt8)) : Prop where
  at_ : ss ≠ [] → ∃ b o, A = some ⟨b, o, none⟩ ∧ b < W.heap.size ∧ ∀ i s, ss[i]? = some s → W.cell? ⟨b, o + i, none⟩ = some (sval s)
theorem SOut.nil (w0 W : World) : SOut w0 W (.slice none 0 0) [] := ⟨rfl, .inl ⟨rfl, rfl⟩⟩
theorem SOut.form {w0 W : World} {v : Value} {ss : List (List UInt8)} (h : SOut w0 W v ss) : ∃ A c, v = .slice A ss.length c ∧ ss.length ≤ c ∧ Strs W A ss := by
  obtain ⟨hl, h⟩ := h
  rcases h with ⟨rfl, h0⟩ | ⟨g, cap, cur, rfl, hg, hb, hn, _, hsz, hc⟩
  · refine ⟨none, 0, by rw [h0], by omega, ⟨?_⟩⟩
    obtain rfl : ss = [] := List.eq_nil_of_length_eq_zero h0
    intro h; exact absurd rfl h
  · refine ⟨some ⟨g, 0, none⟩, cap, rfl, hn, ⟨fun _ => ⟨g, 0, rfl, ?_, ?_⟩⟩⟩
    · rcases Nat.lt_or_ge g W.heap.size with hlt | hge
      · exact hlt
      · rw [Array.getElem?_eq_none hge] at hb; cases hb
    · intro i s hs
      have hi : i < ss.length := (List.getElem?_eq_some_iff.1 hs).1
      have h1 : (svals ss)[i]? = some (sval s) := by simp [svals, hs]
      rw [Nat.zero_add, cell_of_row W g _ cur _ _ hb, ← h1, ← hc, List.getElem?_take, if_pos (by omega)]
      simp
theorem SOut.below {w0 W W' : World} {v : Value} {ss : List (List UInt8)} (h : SOut w0 W v ss) (hb : Below W.heap.size W W') : SOut w0 W' v ss := by
  obtain ⟨hl, h⟩ := h
  refine ⟨hl, ?_⟩
  rcases h with ⟨rfl, h0⟩ | ⟨g, cap, cur, rfl, hg, hbk, hn, hm, hsz, hc⟩
  · exact .inl ⟨rfl, h0⟩
  · have hlt : g < W.heap.size := by
      rcases Nat.lt_or_ge g W.heap.size with hlt | hge
      · exact hlt
      · rw [Array.getElem?_eq_none hge] at hbk; cases hbk
    exact .inr ⟨g, cap, cur, rfl, hg, (hb.block g hlt).trans hbk, hn, hm, hsz, hc⟩
theorem SOut.alloc {w0 W : World} {v : Value} {ss : List (List UInt8)} (h : SOut w0 W v ss) (o : Obj) : SOut w0 (W.alloc o) v ss := h.below ((Below.refl _ _).alloc (Nat.le_refl _) _)
theorem SOut.drewN {w0 W : World} {v : Value} {ss : List (List UInt8)} (h : SOut w0 W v ss) (n : Nat) : SOut w0 (W.drewN n) v ss := h.below (below_drewN (Below.refl _ _) n)
theorem info_str_all : (Tryz.prog.info? 9).map (fun i => (i.zero, i.size, i.bytes)) = some (some (.string ⟨#[]⟩), 1, 16) := by kernel_rfl
/-- 'out = append(out, s)': the source is a new block of one string. -/
theorem wpList_append_sout {ops : Array Oper} {rest : List Oper} {op : Oper} {a : Act} {Q : Exit → Act → World → Prop} {w0 W : World} {v : Value} {ss : List (List UInt8)} (hgd : op.guard = none) (s x : Operand)
    (ho : op.op = .call { callee := .builtin .append, args := #[s, x], argTypes := #[92, 92] }) (h : SOut w0 W v ss) (hs : a.eval s = v) (t : List UInt8) (g c : Nat)
    (hx : a.eval x = .slice (some ⟨g, 0, none⟩) 1 c) (hg : W.cell? ⟨g, 0, none⟩ = some (sval t)) (hn : ss.length + 1 ≤ 10000000) (hb : w0.heap.size ≤ W.heap.size)
    (k : ∀ v' W', SOut w0 W' v' (ss ++ [t]) → W.grownBy W' v.ownBlock → wpList Tryz.prog ops Q rest (a.put op.dst v') W') : wpList Tryz.prog ops Q (op :: rest) a W := by
  obtain ⟨i0, hi, hz0, hz1, hz2⟩ := info_parts info_str_all
  refine wpList_append_own W hgd s x 92 ho w0.heap.size 9 i0 _ 1 16 Tryz.underlying92 hi hz0 hz1 hz2 rfl (by omega) v ss.length (svals ss) hs h ⟨g, 0, none⟩ 1 c [sval t] hx rfl ?_ (by simp [sval, Value.oneCell']) (by unfold maxLen; omega) (by omega) hb ?_
  · intro j u hu
    match j, hu with
    | 0, hu => rw [addr_add, Nat.zero_add, hg]; simpa using hu
    | j + 1, hu => simp at hu
  · intro v' W' h1 h2 _
    refine k v' W' ?_ h2
    unfold SOut
    rw [List.length_append, svals, List.map_append]
    exact h1
theorem below_sgrown {w0 W W' : World} {v : Value} {ss : List (List UInt8)} (hB : Below w0.heap.size w0 W) (hO : SOut w0 W v ss) (hg : W.grownBy W' v.ownBlock) : Below w0.heap.size w0 W' := by
  refine hB.grown hg hB.size ?_
  intro g he
  rcases hO.2 with ⟨rfl, _⟩ | ⟨g', cap, cur, rfl, hgb, _⟩
  · simp [Value.ownBlock] at he
  · have : g' = g := by simpa [Value.ownBlock] using he
    omega
/-- The call returns a slice of its own that holds the strings ss. -/
def RetStrs (w : World) (ss : List (List UInt8)) (e : Ending) (w' : World) : Prop := ∃ v, e = .returned v ∧ SOut w w' v ss ∧ Below w.heap.size w w'
def fixesGo : List Entry → List (List UInt8)
  | [] => []
  | x :: r => if !x.gap && endsB x.leg.ty then x.leg.fix :: fixesGo r else fixesGo r
theorem fixes_take {x : Entry} {r : List Entry} (h : x.gap = false) (he : endsB x.leg.ty = true) : fixesGo (x :: r) = x.leg.fix :: fixesGo r := by simp [fixesGo, h, he]
theorem fixes_skip {x : Entry} {r : List Entry} (h : (!x.gap && endsB x.leg.ty) = false) : fixesGo (x :: r) = fixesGo r := by rw [fixesGo, h]; rfl
end Go.Proofs.YtcgmemkkcaipfaaGreatDoor
