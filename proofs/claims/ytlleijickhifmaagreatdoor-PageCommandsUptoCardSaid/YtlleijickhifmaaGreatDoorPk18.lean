/- Layer 58: the lines of the entries. -/
import Derived.Test.YtlleijickhifmaaGreatDoorPk14
import Derived.Test.YtlleijickhifmaaGreatDoorPk17
namespace Go.Proofs.YtlleijickhifmaaGreatDoor
open Go.RowKit
set_option linter.unusedVariables false
set_option linter.unusedSimpArgs false
def headS (p : Plan) (k : Nat) (x : Entry) : List UInt8 := nameOf x.leg.ty ++ (if (k : Int) = p.active then [32, 60] else [])
def bodyT (x : Entry) : List UInt8 := if x.leg.fix = [] then [40] ++ nameOf x.leg.ty ++ [41] else x.leg.fix
def limS (x : Entry) : List UInt8 := if (winT x.leg.lo x.leg.hi).2 = 0 then (winT x.leg.lo x.leg.hi).1 else [45]
def limT (x : Entry) : List UInt8 := limS x ++ (if x.leg.speed = 0 then [] else [47] ++ Lib.itoa x.leg.speed)
theorem headS_len (p : Plan) (k : Nat) (x : Entry) : (headS p k x).length ≤ 4 := by
  have := nameOf_len x.leg.ty
  unfold headS
  split <;> simp <;> omega
theorem bodyT_len (x : Entry) (h : x.leg.fix.length ≤ 4000000000) : (bodyT x).length ≤ 4000000000 := by
  have := nameOf_len x.leg.ty
  unfold bodyT
  split
  · simp; omega
  · exact h
theorem winT_len (lo hi : Int) : (winT lo hi).1.length ≤ 27 := by
  by_cases h : winOk lo hi
  · rw [winT_in h]; exact winS_len h
  · rw [winT_out h]; simp
theorem limS_len (x : Entry) : (limS x).length ≤ 27 := by
  have := winT_len x.leg.lo x.leg.hi
  unfold limS
  split
  · exact this
  · simp
theorem rowS_out {t : Term} {p : Plan} {k : Nat} (h : ¬ k < p.es.length) : rowS t p k = [lineS [] [], lineS [] []] := by
  unfold rowS; rw [List.getElem?_eq_none (by omega)]
theorem rowS_gap {t : Term} {p : Plan} {k : Nat} (h : k < p.es.length) (hg : p.es[k].gap = true) : rowS t p k = [lineS [] [], lineS [45, 32, 45, 32, 45, 32, 45] [71, 65, 80]] := by
  unfold rowS; rw [List.getElem?_eq_getElem h]; simp only [hg, if_true]
theorem rowS_leg {t : Term} {p : Plan} {k : Nat} (h : k < p.es.length) (hg : p.es[k].gap = false) : rowS t p k = [lineS (headS p k p.es[k]) p.es[k].via, lineS (bodyT p.es[k]) (limT p.es[k])] := by
  unfold rowS; rw [List.getElem?_eq_getElem h]; simp only [hg, Bool.false_eq_true, if_false]; rfl
/-- The first k rows. -/
def rowsN (t : Term) (p : Plan) (k : Nat) : List (List UInt8) := (List.range k).flatMap fun i => rowS t p ((min (max t.first 0) p.es.length).toNat + i)
theorem rowsN_succ (t : Term) (p : Plan) (k : Nat) : rowsN t p (k + 1) = rowsN t p k ++ rowS t p ((min (max t.first 0) p.es.length).toNat + k) := by
  unfold rowsN; rw [List.range_succ, List.flatMap_append]; simp
theorem rowsN_len (t : Term) (p : Plan) (k : Nat) : (rowsN t p k).length = 2 * k := by
  induction k with
  | zero => rfl
  | succ k ih => rw [rowsN_succ, List.length_append, ih, rowS_len]; omega
theorem rowsS_N (t : Term) (p : Plan) : rowsS t p = rowsN t p 5 := rfl
/-- Two lines stand in the block that was made last. -/
theorem two_lines (w : World) (a b : List UInt8) : ∀ i q, [a, b][i]? = some q → (w.alloc (.cells #[.string ⟨a.toArray⟩, .string ⟨b.toArray⟩] 9)).cell? ⟨w.heap.size, 0 + i, none⟩ = some (sval q) := by
  intro i q hq
  rw [Nat.zero_add, cell_of_row _ _ i _ _ _ (heap_alloc_new w _)]
  match i, hq with
  | 0, hq => obtain rfl : a = q := by simpa using hq
             rfl
  | 1, hq => obtain rfl : b = q := by simpa using hq
             rfl
  | n + 2, hq => simp at hq
structure Plan.rng (p : Plan) : Prop where
  speed : ∀ x ∈ p.es, -9223372036854775808 ≤ x.leg.speed ∧ x.leg.speed ≤ 9223372036854775807
theorem Entry.is_winB {W : World} {g : Nat} {x : Entry} (h : Blk W g x.arr) : Is_win W g 10 ⟨x.leg.lo, x.leg.hi⟩ := by
  intro j hj
  rw [h.cell]
  match j, hj with
  | 0, _ | 1, _ => rfl
attribute [local go_sem] ba_append
theorem SOut.base {w0 W0 W : World} {v : Value} {ss : List (List UInt8)} (h : SOut W0 W v ss) (hb : w0.heap.size ≤ W0.heap.size) : SOut w0 W v ss := by
  obtain ⟨hl, h⟩ := h
  refine ⟨hl, ?_⟩
  rcases h with h | ⟨g, cap, cur, rfl, hg, h⟩
  · exact .inl h
  · exact .inr ⟨g, cap, cur, rfl, Nat.le_trans hb hg, h⟩
set_option maxHeartbeats 4000000 in
set_option maxRecDepth 100000 in
theorem rows_any (t : Term) (p : Plan) (A : Option Addr) (c : Nat) (w : World) (hL : Laid w) (hs : p.small) (hr : p.rng) (hcap : p.es.length ≤ c) (hE : Ents w A p.es) (ht : -9223372036854775808 ≤ t.first ∧ t.first ≤ 9223372036854775807) :
    Calls Tryz.prog 20 #[.agg t.arr, .agg (p.arr A c)] w (RetStrs w (rowsS t p)) := by
  have hlen := hs.len
  go_enter Tryz.func20, Tryz.ntmps20
  go_upto_region 2 with (fail)
  generalize hW : (w.alloc _).alloc _ = W
  have X0 : Blk W w.heap.size t.arr := by rw [← hW]; exact (Blk.new w t.arr _).alloc _
  have P0 : Blk W (w.heap.size + 1) (p.arr A c) := by rw [← hW, ← World.size_alloc w (.cells t.arr 23)]; exact Blk.new _ _ _
  have B0 : Below w.heap.size w W := by rw [← hW]; go_grown
  clear hW
  have hxl := X0.lt
  have hpl := P0.lt
  generalize w.heap.size + 1 = gp at *
  obtain ⟨f, hf⟩ : ∃ f : Nat, (min (max t.first 0) p.es.length).toNat = f := ⟨_, rfl⟩
  have hf2 : min (max t.first 0) (p.es.length : Int) = (f : Int) := by omega
  have hf3 : f ≤ p.es.length := by omega
  go_wp2_with fail
  go_loopw [5, 14] (fun v i wr => ∃ k : Nat, k ≤ 5 ∧ i = .int .i64 k ∧ SOut W wr v (rowsN t p k) ∧ Below W.heap.size W wr) (fun _ i _ => 5 - (intOf i).toNat)
  case atStart => exact ⟨0, by omega, rfl, SOut.nil _ _, Below.refl _ _⟩
  case round =>
    obtain ⟨k, hk, rfl, O, B⟩ := hrel
    by_cases hlt : k < 5
    · have HN := Lib.hid (rowsN_succ t p k)
      have HL := Lib.hid (rowsN_len t p k)
      rw [hf] at HN
      have x1 := (X0.below B hxl).cell
      have p1 := (P0.below B hpl).cell
      obtain ⟨n, hn⟩ : ∃ n : Nat, f + k = n := ⟨_, rfl⟩
      rw [hn] at HN
      have q2 : (f : Int) + k = (n : Int) := by omega
      have q1 : IntKind.i64.wrap (n : Int) = n := IntWalk.i64_in _ (by omega)
      clear hn
      by_cases hin : n < p.es.length
      · obtain ⟨b, off, rfl, hb, he⟩ := hE.get hin
        have Bw := B0.trans (B.mono B0.size)
        have hin' : (n : Int) < (p.es.length : Int) := by omega
        have hsx := hs.each _ (List.getElem_mem hin)
        have hrx := hr.speed _ (List.getElem_mem hin)
        have HRg := Lib.hid (fun hg => rowS_gap (t := t) hin hg)
        have HRl := Lib.hid (fun hg => rowS_leg (t := t) hin hg)
        generalize p.es[n] = x at he hsx hrx HRg HRl
        have e1 : Is_ent wr b (off + n * 20) x := fun j hj => by rw [Bw.cell (p := ⟨b, _, none⟩) hb]; exact he j hj
        have i1 : Has_ent wr b (off + n * 20) := ⟨x, e1⟩
        have i2 : of_ent wr b (off + n * 20) = x := of_ent_eq e1
        clear he e1 hf
        go_upto_region 9 with (fail)
        generalize hW2 : wr.alloc _ = W2
        have X2 : Blk W2 wr.heap.size x.arr := by rw [← hW2]; exact Blk.new wr x.arr _
        have O2 := O.alloc (.cells x.arr 80)
        rw [hW2] at O2
        have B2 : Below W.heap.size W W2 := by rw [← hW2]; exact below_step B ((Below.refl _ _).alloc (Nat.le_refl _) _)
        have Bw2 : Below w.heap.size w W2 := by rw [← hW2]; exact below_step Bw ((Below.refl _ _).alloc (Nat.le_refl _) _)
        clear hW2 i1 i2 x1 p1 O B Bw hb
        generalize wr.heap.size = gx at X2 ⊢
        have xx := X2.cell
        have O := Lib.hid O2
        have B := B2
        cases hg : x.gap
        · have HR := Lib.hid (HRl.out hg)
          have hL2 := hL.below Bw2
          have HNm := Lib.hid (fun W (h : Laid W) => name16_any x.leg.ty W h)
          have hnl := nameOf_len x.leg.ty
          obtain ⟨hd, hhd⟩ : ∃ hd, headS p n x = hd := ⟨_, rfl⟩
          obtain ⟨bd, hbd⟩ : ∃ bd, bodyT x = bd := ⟨_, rfl⟩
          obtain ⟨ls, hls⟩ : ∃ ls, limS x = ls := ⟨_, rfl⟩
          obtain ⟨lm, hlm⟩ : ∃ lm, limT x = lm := ⟨_, rfl⟩
          have hsl := hsx.leg.fix
          have lhd : hd.length ≤ 4 := hhd ▸ headS_len p n x
          have lbd : bd.length ≤ 4000000000 := hbd ▸ bodyT_len x hsl
          rw [hhd, hbd, hlm] at HR
          unfold headS at hhd
          unfold bodyT at hbd
          unfold limT at hlm
          rw [hls] at hlm
          unfold limS at hls
          generalize hnm : nameOf x.leg.ty = nm at *
          go_upto_region 12 with (go_at_call 38; (with_reducible refine callP (HNm.out _ hL2) ?_))
          go_quiet (fail)
          have dn := fun m => below_drewN (Below.refl W2.heap.size W2) m
          have X3 := X2.step (dn nq)
          have O3 := Lib.hid (O.out.below (dn nq))
          have B3 := below_step B (dn nq)
          have L3 := hL2.below (dn nq)
          clear xx O B hL2 dn O2 B2 Bw2 X2 HNm
          generalize W2.drewN nq = W3 at X3 O3 B3 L3 ⊢
          have xx := X3.cell
          have pp := (P0.below B3 hpl).cell
          go_upto_if 59 with (fail)
          go_cut [10] (fun s wx => s = .string ⟨hd.toArray⟩ ∧ wx = W3)
          case first =>
            have b1 : ¬ 9223372036854775807 < ((nm.length + 2 : Nat) : Int) := by omega
            by_cases ha : (n : Int) = p.active
            · rw [if_pos ha] at hhd
              have HH := Lib.hid hhd
              have hab : ((n : Int) == p.active) = true := by simpa using ha
              clear hhd ha
              go_wp2
              go_meet
              exact ⟨by rw [← HH.out], rfl⟩
            · rw [if_neg ha, List.append_nil] at hhd
              have HH := Lib.hid hhd
              have hab : ((n : Int) == p.active) = false := by simpa using ha
              clear hhd ha
              go_wp2
              go_meet
              exact ⟨by rw [← HH.out], rfl⟩
          case rest =>
            obtain ⟨rfl, rfl⟩ := hcut
            clear hhd
            go_upto_if 63 with (fail)
            go_cut [11] (fun s wy => s = .string ⟨bd.toArray⟩ ∧ wy = wc)
            case first =>
              have b1 : ¬ 9223372036854775807 < ((1 + nm.length : Nat) : Int) := by omega
              have b2 : ¬ 9223372036854775807 < ((1 + nm.length + 1 : Nat) : Int) := by omega
              have b3 : ¬ 9223372036854775807 < ((1 + (nm.length + 1) : Nat) : Int) := by omega
              have HB := Lib.hid hbd
              clear hbd
              cases hab : x.leg.fix.isEmpty
              · have HH := Lib.hid (show x.leg.fix = bd by rw [← HB.out, if_neg (by intro e; rw [e] at hab; cases hab)])
                go_wp2
                go_meet
                exact ⟨by rw [← HH.out], rfl⟩
              · have HH := Lib.hid (show 40 :: (nm ++ [41]) = bd by rw [← HB.out, if_pos (by simpa using hab)]; rfl)
                go_wp2
                go_meet
                exact ⟨by rw [← HH.out], rfl⟩
            case rest =>
              obtain ⟨rfl, rfl⟩ := hcut
              clear hbd
              have cw : Has_win wc gx 10 := ⟨⟨x.leg.lo, x.leg.hi⟩, Entry.is_winB X3⟩
              have cw2 : of_win wc gx 10 = ⟨x.leg.lo, x.leg.hi⟩ := of_win_eq (Entry.is_winB X3)
              have HW := Lib.hid (winText_any x.leg.lo x.leg.hi wc L3)
              have lls : ls.length ≤ 27 := hls ▸ limS_len x
              generalize winT x.leg.lo x.leg.hi = wt at *
              obtain ⟨wt1, wt2⟩ := wt
              go_upto_if 75 with (go_at_call 39; (with_reducible refine callRB HW.out ?_); intro w4 B4)
              have X4 := X3.step B4
              have O4 := Lib.hid (O3.out.below B4)
              have B5 := below_step B3 B4
              have L4 := L3.below B4
              clear cw cw2 HW X3 O3 B3 L3 xx pp B4
              have xx := X4.cell
              go_cut [12] (fun s wy => s = .string ⟨ls.toArray⟩ ∧ wy = w4)
              case first =>
                by_cases ha : wt2 = 0
                · rw [if_pos ha] at hls
                  have HH := Lib.hid hls
                  subst ha
                  clear hls
                  go_wp2
                  go_meet
                  exact ⟨by rw [← HH.out], rfl⟩
                · rw [if_neg ha] at hls
                  have HH := Lib.hid hls
                  have hab : (wt2 != 0) = true := by simpa using ha
                  clear hls ha
                  go_wp2
                  go_meet
                  exact ⟨by rw [← HH.out], rfl⟩
              case rest =>
                obtain ⟨rfl, rfl⟩ := hcut
                clear hls
                go_upto_if 79 with (fail)
                go_cut [12] (fun s wy => s = .string ⟨lm.toArray⟩ ∧ Below wc.heap.size wc wy ∧ lm.length ≤ 100)
                case first =>
                  by_cases ha : x.leg.speed = 0
                  · rw [if_pos ha, List.append_nil] at hlm
                    have HH := Lib.hid hlm
                    clear hlm
                    go_wp2
                    go_meet
                    exact ⟨by rw [← HH.out], Below.refl _ _, by rw [← HH.out]; omega⟩
                  · rw [if_neg ha] at hlm
                    have HN := Lib.hid (pnumber_any x.leg.speed hrx.1 hrx.2 wc L4)
                    have hil : (Lib.itoa x.leg.speed).length ≤ 21 := itoa_len _ hrx.1 hrx.2
                    generalize Lib.itoa x.leg.speed = it at *
                    have HH := Lib.hid hlm
                    have hab : (x.leg.speed != 0) = true := by simpa using ha
                    have b1 : ¬ 9223372036854775807 < ((1 + it.length : Nat) : Int) := by omega
                    have b2 : ¬ 9223372036854775807 < ((ls.length + (1 + it.length) : Nat) : Int) := by omega
                    clear hlm ha
                    go_wp2_with (go_at_call 40; (with_reducible refine callRB HN.out ?_); intro w6 B6)
                    go_meet
                    exact ⟨by rw [← HH.out]; simp, B6, by rw [← HH.out]; simp; omega⟩
                case rest =>
                  obtain ⟨rfl, B6, hll⟩ := hcut
                  have X5 := X4.step B6
                  have O := Lib.hid (O4.out.below B6)
                  have B := below_step B5 B6
                  clear X4 O4 B5 L4 B6 hlm xx
                  have xx := X5.cell
                  have hvl := hsx.via
                  have L1 := fun w => line_any hd x.via w (by omega) hvl
                  have L2 := fun w => line_any bd lm w lbd (by omega)
                  generalize lineS hd x.via = le at L1 HR
                  generalize lineS bd lm = lg at L2 HR
                  have L1 := Lib.hid L1
                  have L2 := Lib.hid L2
                  go_wp2_with (first
                    | (go_at_call 22; (with_reducible refine callRB (L1.out _) ?_); intro w4 B4; have B := below_step B B4; have O := Lib.hid (O.out.below B4))
                    | (go_at_call 22; (with_reducible refine callRB (L2.out _) ?_); intro w4 B4; have B := below_step B B4; have O := Lib.hid (O.out.below B4))
                    | (at_builtin; refine wpList_append_souts rfl (.tmp 87) (.tmp 95) rfl (O.out.alloc _) rfl [le, lg] _ 0 2 _ rfl rfl (two_lines _ le lg) (by rw [HL.out]; omega) (below_step B ((Below.refl _ _).alloc (Nat.le_refl _) _)).size ?_; intro v7 w7 O7 G7; have B7 := below_sgrown (below_step B ((Below.refl _ _).alloc (Nat.le_refl _) _)) (O.out.alloc _) G7; have O7 := Lib.hid O7))
                  go_roundw
                  case rel => exact ⟨k + 1, by omega, by go_num, by rw [HN.out, HR.out]; exact O7.out, B7⟩
                  case measure => simp [intOf]; omega
        · have HR := Lib.hid (HRg.out hg)
          have L1 := fun w => line_any [] [] w (by simp) (by simp)
          have L2 := fun w => line_any [45, 32, 45, 32, 45, 32, 45] [71, 65, 80] w (by simp) (by simp)
          generalize lineS [] [] = le at L1 HR
          generalize lineS [45, 32, 45, 32, 45, 32, 45] [71, 65, 80] = lg at L2 HR
          have L1 := Lib.hid L1
          have L2 := Lib.hid L2
          go_wp2_with (first
            | (go_at_call 22; (with_reducible refine callRB (L1.out _) ?_); intro w4 B4; have B := below_step B B4; have O := Lib.hid (O.out.below B4))
            | (go_at_call 22; (with_reducible refine callRB (L2.out _) ?_); intro w4 B4; have B := below_step B B4; have O := Lib.hid (O.out.below B4))
            | (at_builtin; refine wpList_append_souts rfl (.tmp 43) (.tmp 46) rfl (O.out.alloc _) rfl [le, lg] _ 0 2 _ rfl rfl (two_lines _ le lg) (by rw [HL.out]; omega) (below_step B ((Below.refl _ _).alloc (Nat.le_refl _) _)).size ?_; intro v7 w7 O7 G7; have B7 := below_sgrown (below_step B ((Below.refl _ _).alloc (Nat.le_refl _) _)) (O.out.alloc _) G7; have O7 := Lib.hid O7))
          go_roundw
          case rel => exact ⟨k + 1, by omega, by go_num, by rw [HN.out, HR.out]; exact O7.out, B7⟩
          case measure => simp [intOf]; omega
      · have HR := Lib.hid (rowS_out (t := t) hin)
        have hin' : ¬ (n : Int) < (p.es.length : Int) := by omega
        have L1 := fun w => line_any [] [] w (by simp) (by simp)
        generalize lineS [] [] = le at L1 HR
        have L1 := Lib.hid L1
        have O := Lib.hid O
        clear hf
        go_wp2_with (first
          | (go_at_call 22; (with_reducible refine callRB (L1.out _) ?_); intro w4 B4; have B := below_step B B4; have O := Lib.hid (O.out.below B4))
          | (at_builtin; refine wpList_append_souts rfl (.tmp 31) (.tmp 34) rfl (O.out.alloc _) rfl [le, le] _ 0 2 _ rfl rfl (two_lines _ le le) (by rw [HL.out]; omega) (below_step B ((Below.refl _ _).alloc (Nat.le_refl _) _)).size ?_; intro v7 w7 O7 G7; have B7 := below_sgrown (below_step B ((Below.refl _ _).alloc (Nat.le_refl _) _)) (O.out.alloc _) G7; have O7 := Lib.hid O7))
        go_roundw
        case rel => exact ⟨k + 1, by omega, by go_num, by rw [HN.out, HR.out]; exact O7.out, B7⟩
        case measure => simp [intOf]; omega
    · obtain rfl : k = 5 := by omega
      have O := Lib.hid O
      go_wp2
      go_ret
      exact ⟨_, rfl, by rw [rowsS_N]; exact O.out.base B0.size, B0.trans (B.mono B0.size)⟩
end Go.Proofs.YtlleijickhifmaaGreatDoor
