/- plan.Join: the entries with gaps where legs do not join. -/
import Derived.Test.YtlggdgpdfepppaaGreatDoorQk10
import Derived.Test.YtlggdgpdfepppaaGreatDoorQk11
namespace Go.Proofs.YtlggdgpdfepppaaGreatDoor
open Go.RowKit
set_option linter.unusedVariables false
set_option linter.unusedSimpArgs false
def RetOut (w : World) (es : List Entry) (e : Ending) (w' : World) : Prop := ∃ v, e = .returned v ∧ Out w w' v es ∧ Below w.heap.size w w'
def nextB (out : List Entry) (pb : Bool) : Bool := !out.isEmpty && !pb
def JRel (l : List Entry) (w : World) (t p i : Value) (wr : World) : Prop :=
  ∃ (k : Nat) (out : List Entry) (pb : Bool), k ≤ l.length ∧ i = .int .i64 k ∧ p = .bool pb ∧ joinE l = joinGo out pb (l.drop k) ∧ out.length ≤ 2 * k ∧ Out w wr t out ∧ Below w.heap.size w wr
theorem Blk.leg_at {W : World} {g : Nat} {x : Entry} (h : Blk W g x.arr) : Is_leg W g 1 x.leg := fun j hj => by rw [h.cell]; exact x.leg_sub j hj
theorem step_fall {out : List Entry} {x y : Entry} (hg : x.gap = false) (hl : out.getLast? = some y) (hs : (y.leg.arrivedB x.leg && skipB x.leg.ty) = false) (hj : y.leg.joinsB x.leg = false) : joinStep out false x = joinNew out false x := by
  simp only [joinStep, hg, hl, hs, hj]; rfl
theorem step_skip {out : List Entry} {x y : Entry} (hg : x.gap = false) (hl : out.getLast? = some y) (hs : (y.leg.arrivedB x.leg && skipB x.leg.ty) = true) : joinStep out false x = (out, false) := by
  simp only [joinStep, hg, hl, hs]; rfl
theorem step_join {out : List Entry} {x y : Entry} (hg : x.gap = false) (hl : out.getLast? = some y) (hs : (y.leg.arrivedB x.leg && skipB x.leg.ty) = false) (hj : y.leg.joinsB x.leg = true) : joinStep out false x = (out ++ [x], false) := by
  simp only [joinStep, hg, hl, hs, hj]; rfl
theorem step_new {out : List Entry} {pb : Bool} {x : Entry} (hg : x.gap = false) (hn : nextB out pb = false) : joinStep out pb x = joinNew out pb x := by
  cases h : out.getLast? with
  | none => simp [joinStep, hg, h]
  | some y =>
    have hne : out ≠ [] := by rintro rfl; simp at h
    have hp : pb = true := by simpa [nextB, hne] using hn
    simp [joinStep, hg, h, hp]
theorem ne_len (out : List Entry) : (!out.isEmpty) = decide (0 < out.length) := by cases out <;> simp
set_option maxHeartbeats 4000000 in
set_option maxRecDepth 100000 in
theorem join_any (l : List Entry) (A : Option Addr) (c : Nat) (w : World) (hl : l.length ≤ 400000) (hc : l.length ≤ c) (hE : Ents w A l) :
    Calls Tryz.prog 62 #[.slice A l.length c] w (RetOut w (joinE l)) := by
  go_enter Tryz.func62, Tryz.ntmps62
  go_wp2
  go_loopw [3, 4, 13] (fun t p i wr => JRel l w t p i wr) (fun _ _ i _ => l.length - (intOf i).toNat)
  case atStart => exact ⟨0, [], false, by omega, rfl, rfl, rfl, by simp, Out.nil _ _, Below.refl _ _⟩
  case round =>
    obtain ⟨k, out, pb, hk, rfl, rfl, hq, ho, hO, hB⟩ := hrel
    have HQ := Lib.hid hq; clear hq
    by_cases hlt : k < l.length
    · obtain ⟨b, off, hA, hb, he⟩ := hE.get hlt
      subst hA
      have hd := Lib.hid (List.drop_eq_getElem_cons hlt)
      generalize l[k] = x at he hd
      have e1 : Is_ent wr b (off + k * 20) x := fun j hj => by rw [hB.cell (p := ⟨b, _, none⟩) hb]; exact he j hj
      have i1 : Has_ent wr b (off + k * 20) := ⟨x, e1⟩
      have i2 : of_ent wr b (off + k * 20) = x := of_ent_eq e1
      clear he e1
      obtain ⟨A1, c1', hv, hc1, hE1, hA1⟩ := hO.form
      subst hv
      go_upto_region 6 with (fail)
      have X0 := Blk.new wr x.arr 82
      have O0 := hO.alloc (.cells x.arr 82)
      have B0 := below_step hB ((Below.refl wr.heap.size wr).alloc (Nat.le_refl _) (.cells x.arr 82))
      generalize wr.alloc _ = W0 at X0 O0 B0 ⊢
      generalize wr.heap.size = g at X0 ⊢
      have HJ := Lib.hid (show joinE l = joinGo (joinStep out pb x).1 (joinStep out pb x).2 (l.drop (k + 1)) by rw [HQ.out, hd.out]; rfl)
      clear HQ hd i1 i2 hE1 hO hB
      have hE0 : Ents W0 A1 out := by
        obtain ⟨_, _, hv, _, h, _⟩ := O0.form
        injection hv with h1
        rw [h1]; exact h
      have c1 := X0.cell
      have c2 := X0.lt
      cases hg : x.gap
      · go_upto_region 8 with (fail)
        go_cut [25] (fun sv wx => sv = .bool (nextB out pb) ∧ W0 = wx)
        case first =>
          by_cases hout : out = []
          · have h0 : ¬ ((0 : Int) < ((out.length : Nat) : Int)) := by simp [hout]
            have HO := Lib.hid hout; clear hout
            go_wp2
            all_goals (go_meet; exact ⟨by simp [nextB, HO.out], rfl⟩)
          · have h0 : (0 : Int) < ((out.length : Nat) : Int) := by have := List.length_pos_iff.2 hout; omega
            have HO := Lib.hid hout; clear hout
            go_wp2
            all_goals (go_meet; exact ⟨by simp [nextB, HO.out], rfl⟩)
        case rest =>
          obtain ⟨rfl, rfl⟩ := hcut
          go_upto_if 25 with (fail)
          go_cut [3, 25] (fun o _ wx => o = .slice A1 out.length c1' ∧ joinStep out pb x = joinNew out pb x ∧ Blk wx g x.arr ∧ Out w wx (.slice A1 out.length c1') out ∧ Below w.heap.size w wx)
          case first =>
            cases hnb : nextB out pb
            · go_wp2
              go_meet
              exact ⟨rfl, step_new hg hnb, X0, O0, B0⟩
            · obtain ⟨hne, hpb⟩ : out ≠ [] ∧ pb = false := by simpa [nextB] using hnb
              subst hpb
              have hpos := List.length_pos_iff.2 hne
              obtain ⟨m, hm⟩ : ∃ m, m = out.length - 1 := ⟨_, rfl⟩
              have hml : m < out.length := by omega
              obtain ⟨b2, o2, hA2, hb2, he2⟩ := hE0.get hml
              subst hA2
              have hlast := Lib.hid (show out.getLast? = some out[m] by rw [List.getLast?_eq_getElem?, ← hm]; exact List.getElem?_eq_getElem hml)
              generalize out[m] = y at he2 hlast
              have hm1 : ((out.length : Int) - 1).toNat = m := by omega
              have hm2 : (0 : Int) ≤ (out.length : Int) - 1 := by omega
              have hm3 : (out.length : Int) - 1 < (out.length : Int) := by omega
              have ey : Is_leg W0 b2 (o2 + m * 20 + 1) y.leg := fun j hj => by rw [Nat.add_assoc, he2 _ (by omega)]; exact y.leg_sub j hj
              have i1 : Has_leg W0 b2 (o2 + m * 20 + 1) := ⟨_, ey⟩
              have i2 : of_leg W0 b2 (o2 + m * 20 + 1) = y.leg := of_leg_eq ey
              have HM := Lib.hid hm; clear hm he2 ey
              go_upto_region 11 with (fail)
              have X1 := X0.alloc (.cells y.leg.arr 77)
              have Y1 := Blk.new W0 y.leg.arr 77
              have O1 := O0.alloc (.cells y.leg.arr 77)
              have B1 := below_step B0 ((Below.refl W0.heap.size W0).alloc (Nat.le_refl _) (.cells y.leg.arr 77))
              generalize W0.alloc _ = W1 at X1 Y1 O1 B1 ⊢
              generalize W0.heap.size = g2 at Y1 ⊢
              clear i1 i2 c1 c2 hm1 hm2 hm3
              have j1 : Has_leg W1 g2 0 := ⟨_, Y1.is_leg⟩
              have j2 : of_leg W1 g2 0 = y.leg := of_leg_eq Y1.is_leg
              have j3 : Has_leg W1 g 1 := ⟨_, X1.leg_at⟩
              have j4 : of_leg W1 g 1 = x.leg := of_leg_eq X1.leg_at
              go_cut [51] (fun sv wx => sv = .bool (y.leg.arrivedB x.leg && skipB x.leg.ty) ∧ Blk wx g x.arr ∧ Blk wx g2 y.leg.arr ∧ Out w wx (.slice (some ⟨b2, o2, none⟩) out.length c1') out ∧ Below w.heap.size w wx)
              case first =>
                obtain ⟨a1, h1⟩ : ∃ a, (x.leg.ty == 1) = a := ⟨_, rfl⟩
                obtain ⟨a2, h2⟩ : ∃ a, (x.leg.ty == 2) = a := ⟨_, rfl⟩
                obtain ⟨a4, h4⟩ : ∃ a, (x.leg.ty == 4) = a := ⟨_, rfl⟩
                have HS := Lib.hid (show skipB x.leg.ty = (a1 || a2 || a4) by rw [skipB, h1, h2, h4])
                obtain ⟨aa, ha⟩ : ∃ a, y.leg.arrivedB x.leg = a := ⟨_, rfl⟩
                have hcall : Calls Tryz.prog 32 #[y.leg.val, x.leg.val] W1 (Ret W1 (.bool aa)) := by rw [← ha]; exact arrived_any y.leg x.leg W1
                have HA := Lib.hid ha; clear ha
                cases a1 <;> cases a2 <;> cases a4 <;> cases aa
                all_goals
                  go_wp2_with (go_at_call 32; refine callR hcall ?_; intro w2 hb2 hc2 hf2 hz2)
                  all_goals (go_meet; exact ⟨by rw [HS.out, HA.out]; rfl, X1.step hb2, Y1.step hb2, O1.below hb2, below_step B1 hb2⟩)
              case rest =>
                obtain ⟨rfl, X2, Y2, O2, B2⟩ := hcut
                clear j1 j2 j3 j4
                have j1 : Has_leg wc g2 0 := ⟨_, Y2.is_leg⟩
                have j2 : of_leg wc g2 0 = y.leg := of_leg_eq Y2.is_leg
                have j3 : Has_leg wc g 1 := ⟨_, X2.leg_at⟩
                have j4 : of_leg wc g 1 = x.leg := of_leg_eq X2.leg_at
                cases hsk : (y.leg.arrivedB x.leg && skipB x.leg.ty)
                · have hjn := joins_any y.leg x.leg wc
                  cases hj : y.leg.joinsB x.leg
                  · rw [hj] at hjn
                    have HN := Lib.hid hjn; clear hjn
                    go_wp2_with (go_at_call 31; refine callR HN.out ?_; intro w3 hb3 hc3 hf3 hz3)
                    go_meet
                    exact ⟨rfl, step_fall hg hlast.out hsk hj, X2.step hb3, O2.below hb3, below_step B2 hb3⟩
                  · rw [hj] at hjn
                    have HN := Lib.hid hjn; clear hjn
                    go_upto_region 13 with (go_at_call 31; refine callR HN.out ?_; intro w3 hb3 hc3 hf3 hz3)
                    have X3 := X2.step hb3
                    have O3 := O2.below hb3
                    have B3 := below_step B2 hb3
                    clear hc3 hf3 j1 j2 j3 j4
                    have k1 : Has_ent w3 g 0 := ⟨_, X3.is_ent⟩
                    have k2 : of_ent w3 g 0 = x := of_ent_eq X3.is_ent
                    have hsz : w.heap.size ≤ w3.heap.size := B3.size
                    have O4 := O3.alloc (.cells x.arr 82)
                    have B4 := below_step B3 ((Below.refl w3.heap.size w3).alloc (Nat.le_refl _) (.cells x.arr 82))
                    go_wp2_with (at_builtin; refine wpList_append_out rfl (.tmp 56) (.tmp 58) rfl O4 rfl [x] w3.heap.size 1 1 rfl rfl (Blk.one w3 x _) (by simp; omega) (by simp; omega) ?_; intro v5 W5 O5 hg5)
                    go_roundw
                    case rel => exact ⟨k + 1, out ++ [x], false, by omega, by go_num, rfl, by rw [HJ.out, step_join hg hlast.out hsk hj], by simp; omega, O5, below_grown B4 O4 hg5⟩
                    case measure => simp [intOf]; omega
                · go_wp2
                  go_roundw
                  case rel => exact ⟨k + 1, out, false, by omega, by go_num, rfl, by rw [HJ.out, step_skip hg hlast.out hsk], by omega, O2, B2⟩
                  case measure => simp [intOf]; omega
          case rest =>
            obtain ⟨rfl, hst, X1, O1, B1⟩ := hcut
            have HST := Lib.hid hst
            clear hst X0 O0 B0 c1 c2 hE0
            have k1 : Has_ent wc g 0 := ⟨_, X1.is_ent⟩
            have k2 : of_ent wc g 0 = x := of_ent_eq X1.is_ent
            have hcall := starting_any x wc
            obtain ⟨s, hs⟩ : ∃ s, (startOf x).1 = s := ⟨_, rfl⟩
            obtain ⟨okb, hok⟩ : ∃ o, (startOf x).2 = o := ⟨_, rfl⟩
            rw [hs, hok] at hcall
            have HN := Lib.hid (show joinNew out pb x = if okb then ((if out.isEmpty then out else out ++ [gapE]) ++ [s], false) else (out, pb || !out.isEmpty) by rw [joinNew, hs, hok])
            have HC := Lib.hid hcall
            clear hs hok hcall
            go_upto_region 15 with (go_at_call 97; refine callR HC.out ?_; intro w2 hb2 hc2 hf2 hz2)
            have S2 := Blk.new w2 s.arr 82
            have O2 := (O1.below hb2).alloc (.cells s.arr 82)
            have B2 := below_step (below_step B1 hb2) ((Below.refl w2.heap.size w2).alloc (Nat.le_refl _) (.cells s.arr 82))
            have N2 : (Value.slice A1 out.length c1').ownBlock ≠ some w2.heap.size := fun e => Nat.lt_irrefl _ ((O1.below hb2).own_lt e)
            generalize w2.alloc _ = W2 at S2 O2 B2 ⊢
            generalize w2.heap.size = g9 at S2 N2 ⊢
            clear k1 k2 hb2 hc2 hf2 hz2 X1 O1 B1 HC
            cases okb
            · have HP := Lib.hid (show joinNew out pb x = (out, pb || !out.isEmpty) from HN.out)
              by_cases hout : out = []
              · have h0 : ¬ ((0 : Int) < ((out.length : Nat) : Int)) := by simp [hout]
                have HO := Lib.hid hout; clear hout
                cases pb
                all_goals
                  go_wp2
                  go_roundw
                  case rel => exact ⟨k + 1, out, _, by omega, by go_num, rfl, by rw [HJ.out, HST.out, HP.out]; first | (simp [HO.out]; done) | (simp [HO.out]; rw [ne_len]), by omega, O2, B2⟩
                  case measure => simp [intOf]; omega
              · have h0 : (0 : Int) < ((out.length : Nat) : Int) := by have := List.length_pos_iff.2 hout; omega
                have HO := Lib.hid hout; clear hout
                cases pb
                all_goals
                  go_wp2
                  go_roundw
                  case rel => exact ⟨k + 1, out, _, by omega, by go_num, rfl, by rw [HJ.out, HST.out, HP.out]; first | (simp [HO.out]; done) | (simp [HO.out]; rw [ne_len]), by omega, O2, B2⟩
                  case measure => simp [intOf]; omega
            · have hlit : (#[.bool true, .int .u8 0, .string ⟨#[]⟩, .string ⟨#[]⟩, .int .u8 0, .bool false, .int .i64 0, .int .i64 0, .int .i64 0, .int .i64 0, .int .i64 0, .int .i64 0, .int .i64 0, .int .i64 0, .int .i64 0, .int .i64 0, .int .i64 0, .int .i64 0, .int .u8 0, .string ⟨#[]⟩] : Array Value) = gapE.arr := rfl
              by_cases hout : out = []
              · have h0 : ¬ ((0 : Int) < ((out.length : Nat) : Int)) := by simp [hout]
                have HP := Lib.hid (show joinNew out pb x = (out ++ [s], false) by rw [HN.out, hout]; rfl)
                have HO := Lib.hid hout; clear hout
                have k1 : Has_ent W2 g9 0 := ⟨_, S2.is_ent⟩
                have k2 : of_ent W2 g9 0 = s := of_ent_eq S2.is_ent
                have hsz : w.heap.size ≤ W2.heap.size := B2.size
                have O4 := O2.alloc (.cells s.arr 82)
                have B4 := below_step B2 ((Below.refl W2.heap.size W2).alloc (Nat.le_refl _) (.cells s.arr 82))
                go_wp2_with (at_builtin; refine wpList_append_out rfl (.tmp 80) (.tmp 82) rfl O4 rfl [s] W2.heap.size 1 1 rfl rfl (Blk.one W2 s _) (by simp; omega) (by simp; omega) ?_; intro v5 W5 O5 hg5)
                go_roundw
                case rel => exact ⟨k + 1, out ++ [s], false, by omega, by go_num, rfl, by rw [HJ.out, HST.out, HP.out], by simp; omega, O5, below_grown B4 O4 hg5⟩
                case measure => simp [intOf]; omega
              · have h0 : (0 : Int) < ((out.length : Nat) : Int) := by have := List.length_pos_iff.2 hout; omega
                have HP := Lib.hid (show joinNew out pb x = ((out ++ [gapE]) ++ [s], false) by rw [HN.out]; simp [hout])
                have HO := Lib.hid hout; clear hout
                have hsz : w.heap.size ≤ W2.heap.size := B2.size
                have O4 := O2.alloc (.cells gapE.arr 82)
                have S4 := S2.alloc (.cells gapE.arr 82)
                have B4 := below_step B2 ((Below.refl W2.heap.size W2).alloc (Nat.le_refl _) (.cells gapE.arr 82))
                go_upto_region 19 with (at_builtin; refine wpList_append_out rfl (.tmp 76) (.tmp 78) rfl O4 rfl [gapE] W2.heap.size 1 1 rfl rfl (Blk.one W2 gapE _) (by simp; omega) (by simp; omega) ?_; intro v5 W5 O5 hg5)
                have S5 := S4.grown hg5 N2
                have B5 := below_grown B4 O4 hg5
                clear hg5 O4 S4 B4 hsz
                have k1 : Has_ent W5 g9 0 := ⟨_, S5.is_ent⟩
                have k2 : of_ent W5 g9 0 = s := of_ent_eq S5.is_ent
                have hsz : w.heap.size ≤ W5.heap.size := B5.size
                have O6 := O5.alloc (.cells s.arr 82)
                have B6 := below_step B5 ((Below.refl W5.heap.size W5).alloc (Nat.le_refl _) (.cells s.arr 82))
                go_wp2_with (at_builtin; refine wpList_append_out rfl (.tmp 80) (.tmp 82) rfl O6 rfl [s] W5.heap.size 1 1 rfl rfl (Blk.one W5 s _) (by simp; omega) (by simp; omega) ?_; intro v7 W7 O7 hg7)
                go_roundw
                case rel => exact ⟨k + 1, (out ++ [gapE]) ++ [s], false, by omega, by go_num, rfl, by rw [HJ.out, HST.out, HP.out], by simp; omega, O7, below_grown B6 O6 hg7⟩
                case measure => simp [intOf]; omega
      · go_wp2
        go_roundw
        case rel => exact ⟨k + 1, out, true, by omega, by go_num, rfl, by rw [HJ.out]; simp [joinStep, hg], by omega, O0, B0⟩
        case measure => simp [intOf]; omega
    · go_wp2
      go_ret
      exact ⟨_, rfl, by rw [HQ.out, List.drop_of_length_le (by omega)]; exact hO, hB⟩
end Go.Proofs.YtlggdgpdfepppaaGreatDoor
