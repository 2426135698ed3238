/- The reference's Join: the same entries. plan.Fixes, plan.Same and the reference's. -/
import Derived.Test.YtcgmemkkcaipfaaGreatDoorPk20
import Derived.Test.YtcgmemkkcaipfaaGreatDoorPk24
import Derived.Test.YtcgmemkkcaipfaaGreatDoorPk12
import Derived.Test.YtcgmemkkcaipfaaGreatDoorPk23
namespace Go.Proofs.YtcgmemkkcaipfaaGreatDoor
open Go.RowKit
set_option linter.unusedVariables false
set_option linter.unusedSimpArgs false
attribute [local go_sem] run_bs2
theorem rstep0 {out : List Entry} {pb : Bool} {x s : Entry} {ok : Bool} (hg : x.gap = false) (ho : out = []) (hs : rstartOf x = (s, ok)) : joinStep out pb x = if ok then (out ++ [s], false) else (out, pb) := by
  subst ho; rw [← rjoinStep_eq]; simp only [rjoinStep, hg, hs]; rfl
theorem rstep1 {out : List Entry} {pb : Bool} {x y s : Entry} {ok : Bool} (hg : x.gap = false) (hl : out.getLast? = some y) (hs : rstartOf x = (s, ok)) : joinStep out pb x =
    if !pb && (y.leg.arrivedB x.leg && skipB x.leg.ty) then (out, pb) else if !pb && y.leg.joinsB x.leg then (out ++ [x], pb) else if ok then (out ++ [gapE, s], false) else (out, true) := by
  rw [← rjoinStep_eq]; simp only [rjoinStep, hg, hl, hs]; rfl
set_option maxHeartbeats 4000000 in
set_option maxRecDepth 100000 in
theorem rjoin_any (l : List Entry) (A : Option Addr) (c : Nat) (w : World) (hl : l.length ≤ 400000) (hc : l.length ≤ c) (hE : Ents w A l) :
    Calls Tryz.prog 34 #[.slice A l.length c] w (RetOut w (joinE l)) := by
  have hlit : (#[.bool true, .int .u8 0, .string ⟨#[]⟩, .string ⟨#[]⟩, .int .u8 0, .bool false, .int .i64 0, .int .i64 0, .int .i64 0, .int .i64 0, .int .i64 0, .int .i64 0, .int .i64 0, .int .i64 0, .int .i64 0, .int .i64 0, .int .i64 0, .int .i64 0, .int .u8 0, .string ⟨#[]⟩] : Array Value) = gapE.arr := rfl
  go_enter Tryz.func34, Tryz.ntmps34
  go_wp2
  go_loopw [3, 4, 13] (fun t p i wr => JRel l w t p i wr) (fun _ _ i _ => l.length - (intOf i).toNat)
  case atStart => exact ⟨0, [], false, by omega, rfl, rfl, rfl, by simp, Out.nil _ _, Below.refl _ _⟩
  case round =>
    obtain ⟨k, out, pb, hk, rfl, rfl, hq, ho, hO, hB⟩ := hrel
    have HQ := Lib.hid hq; clear hq
    by_cases hlt : k < l.length
    · obtain ⟨b, off, hA, hb, he⟩ := hE.get hlt
      subst hA
      have hd := Lib.hid (List.drop_eq_getElem_cons hlt)
      generalize l[k] = x at he hd
      have e1 : Is_ent wr b (off + k * 20) x := fun j hj => by rw [hB.cell (p := ⟨b, _, none⟩) hb]; exact he j hj
      have i1 : Has_ent wr b (off + k * 20) := ⟨x, e1⟩
      have i2 : of_ent wr b (off + k * 20) = x := of_ent_eq e1
      clear he e1
      obtain ⟨A1, c1', hv, hc1, hE1, hA1⟩ := hO.form
      subst hv
      go_upto_region 6 with (fail)
      have X0 := Blk.new wr x.arr 51
      have O0 := hO.alloc (.cells x.arr 51)
      have B0 := below_step hB ((Below.refl wr.heap.size wr).alloc (Nat.le_refl _) (.cells x.arr 51))
      generalize wr.alloc _ = W0 at X0 O0 B0 ⊢
      generalize wr.heap.size = g at X0 ⊢
      have HJ := Lib.hid (show joinE l = joinGo (joinStep out pb x).1 (joinStep out pb x).2 (l.drop (k + 1)) by rw [HQ.out, hd.out]; rfl)
      clear HQ hd i1 i2 hE1 hO hB
      have c1 := X0.cell
      have c2 := X0.lt
      cases hg : x.gap
      · have k1 : Has_ent W0 g 0 := ⟨_, X0.is_ent⟩
        have k2 : of_ent W0 g 0 = x := of_ent_eq X0.is_ent
        have hcall := rstart_any x W0
        obtain ⟨s, hs⟩ : ∃ s, (rstartOf x).1 = s := ⟨_, rfl⟩
        obtain ⟨okb, hok⟩ : ∃ o, (rstartOf x).2 = o := ⟨_, rfl⟩
        rw [hs, hok] at hcall
        have HR := Lib.hid (show rstartOf x = (s, okb) by rw [← hs, ← hok])
        have HC := Lib.hid hcall
        clear hs hok hcall
        go_upto_region 9 with (go_at_call 84; refine callR HC.out ?_; intro w2 hb2 hc2 hf2 hz2)
        have S2 := Blk.new w2 s.arr 51
        have X2 := (X0.step hb2).alloc (.cells s.arr 51)
        have O2 := (O0.below hb2).alloc (.cells s.arr 51)
        have B2 := below_step (below_step B0 hb2) ((Below.refl w2.heap.size w2).alloc (Nat.le_refl _) (.cells s.arr 51))
        generalize w2.alloc _ = W2 at S2 X2 O2 B2 ⊢
        generalize w2.heap.size = g9 at S2 ⊢
        clear k1 k2 hb2 hc2 hf2 hz2 X0 O0 B0 HC c1 c2
        have c1 := X2.cell
        have c2 := X2.lt
        have k1 : Has_ent W2 g9 0 := ⟨_, S2.is_ent⟩
        have k2 : of_ent W2 g9 0 = s := of_ent_eq S2.is_ent
        have hsz : w.heap.size ≤ W2.heap.size := B2.size
        by_cases hout : out = []
        · have h0 : ((out.length : Nat) : Int) = 0 := by simp [hout]
          have HS := Lib.hid (rstep0 (pb := pb) hg hout HR.out)
          clear hout
          cases okb
          · go_wp2
            go_roundw
            case rel => exact ⟨k + 1, out, pb, by omega, by go_num, rfl, by rw [HJ.out, HS.out]; rfl, by omega, O2, B2⟩
            case measure => simp [intOf]; omega
          · have O4 := O2.alloc (.cells s.arr 51)
            have B4 := below_step B2 ((Below.refl W2.heap.size W2).alloc (Nat.le_refl _) (.cells s.arr 51))
            go_wp2_with (at_builtin; refine wpList_append_out rfl (.tmp 28) (.tmp 30) rfl O4 rfl [s] W2.heap.size 1 1 rfl rfl (Blk.one W2 s _) (by simp; omega) (by simp; omega) ?_; intro v5 W5 O5 hg5)
            go_roundw
            case rel => exact ⟨k + 1, out ++ [s], false, by omega, by go_num, rfl, by rw [HJ.out, HS.out]; rfl, by simp; omega, O5, below_grown B4 O4 hg5⟩
            case measure => simp [intOf]; omega
        · have h0 : ¬ ((out.length : Nat) : Int) = 0 := by have := List.length_pos_iff.2 hout; omega
          have hpos := List.length_pos_iff.2 hout
          have hE0 : Ents W2 A1 out := by
            obtain ⟨_, _, hv, _, h, _⟩ := O2.form
            injection hv with h1
            rw [h1]; exact h
          obtain ⟨m, hm⟩ : ∃ m, m = out.length - 1 := ⟨_, rfl⟩
          have hml : m < out.length := by omega
          obtain ⟨b2, o2, hA2, hb2, he2⟩ := hE0.get hml
          subst hA2
          have hlast : out.getLast? = some out[m] := by rw [List.getLast?_eq_getElem?, ← hm]; exact List.getElem?_eq_getElem hml
          generalize out[m] = y at he2 hlast
          have HS := Lib.hid (rstep1 (pb := pb) hg hlast HR.out)
          have hm1 : ((out.length : Int) - 1).toNat = m := by omega
          have hm2 : (0 : Int) ≤ (out.length : Int) - 1 := by omega
          have hm3 : (out.length : Int) - 1 < (out.length : Int) := by omega
          have ey : Is_leg W2 b2 (o2 + m * 20 + 1) y.leg := fun j hj => by rw [Nat.add_assoc, he2 _ (by omega)]; exact y.leg_sub j hj
          have i1 : Has_leg W2 b2 (o2 + m * 20 + 1) := ⟨_, ey⟩
          have i2 : of_leg W2 b2 (o2 + m * 20 + 1) = y.leg := of_leg_eq ey
          clear hm he2 ey hlast hout HR hE0
          go_upto_region 14 with (fail)
          have X1 := X2.alloc (.cells y.leg.arr 46)
          have S1 := S2.alloc (.cells y.leg.arr 46)
          have Y1 := Blk.new W2 y.leg.arr 46
          have O1 := O2.alloc (.cells y.leg.arr 46)
          have B1 := below_step B2 ((Below.refl W2.heap.size W2).alloc (Nat.le_refl _) (.cells y.leg.arr 46))
          generalize W2.alloc _ = W1 at X1 S1 Y1 O1 B1 ⊢
          generalize W2.heap.size = g2 at Y1 ⊢
          clear i1 i2 c1 c2 hm1 hm2 hm3 k1 k2 hsz X2 S2 O2 B2
          have c1 := X1.cell
          have c2 := X1.lt
          have d1 := Y1.cell
          have d2 := Y1.lt
          have j1 : Has_leg W1 g2 0 := ⟨_, Y1.is_leg⟩
          have j2 : of_leg W1 g2 0 = y.leg := of_leg_eq Y1.is_leg
          have j3 : Has_leg W1 g 1 := ⟨_, X1.leg_at⟩
          have j4 : of_leg W1 g 1 = x.leg := of_leg_eq X1.leg_at
          go_upto_region 15 with (fail)
          go_cut [68] (fun sv wx => sv = .bool (!pb && (y.leg.arrivedB x.leg && skipB x.leg.ty)) ∧ W1 = wx)
          case first =>
            obtain ⟨a1, h1⟩ : ∃ a, (x.leg.ty == 1) = a := ⟨_, rfl⟩
            obtain ⟨a2, h2⟩ : ∃ a, (x.leg.ty == 2) = a := ⟨_, rfl⟩
            obtain ⟨a4, h4⟩ : ∃ a, (x.leg.ty == 4) = a := ⟨_, rfl⟩
            obtain ⟨ae, hae⟩ : ∃ a, endsB y.leg.ty = a := ⟨_, rfl⟩
            obtain ⟨af, haf⟩ : ∃ a, (y.leg.fix == x.leg.fix) = a := ⟨_, rfl⟩
            have HA := Lib.hid (show (y.leg.arrivedB x.leg && skipB x.leg.ty) = ((ae && af) && (a1 || a2 || a4)) by rw [skipB, h1, h2, h4, Leg.arrivedB, hae, haf])
            have hcall : Calls Tryz.prog 61 #[.int .u8 y.leg.ty] W1 (RetP W1 (.bool ae)) := by rw [← hae]; exact rends_any _ _
            clear hae
            cases pb <;> cases ae
            all_goals
              go_wp2_with (go_at_call 61; refine callP hcall ?_)
              all_goals (go_meet; refine ⟨?_, rfl⟩; rw [HA.out]; go_light; clear HA HS HJ; first | (simp_all; done) | grind)
          case rest =>
            obtain ⟨rfl, rfl⟩ := hcut
            cases hsk : (!pb && (y.leg.arrivedB x.leg && skipB x.leg.ty))
            · have H2 := Lib.hid (show joinStep out pb x = if !pb && y.leg.joinsB x.leg then (out ++ [x], pb) else if okb then (out ++ [gapE, s], false) else (out, true) by rw [HS.out, hsk]; rfl)
              clear hsk HS
              go_upto_region 16 with (fail)
              go_cut [76] (fun sv wx => sv = .bool (!pb && y.leg.joinsB x.leg) ∧ Blk wx g x.arr ∧ Blk wx g9 s.arr ∧ Out w wx (.slice (some ⟨b2, o2, none⟩) out.length c1') out ∧ Below w.heap.size w wx)
              case first =>
                have hjn := Lib.hid (rjoins_any y.leg x.leg W1)
                cases pb
                · go_wp2_with (go_at_call 60; refine callR hjn.out ?_; intro w3 hb3 hc3 hf3 hz3)
                  go_meet
                  exact ⟨by simp, X1.step hb3, S1.step hb3, O1.below hb3, below_step B1 hb3⟩
                · go_wp2
                  go_meet
                  exact ⟨by simp, X1, S1, O1, B1⟩
              case rest =>
                clear j1 j2 j3 j4 c1 c2 d1 d2
                obtain ⟨rfl, X3, S3, O3, B3⟩ := hcut
                have k1 : Has_ent wc g9 0 := ⟨_, S3.is_ent⟩
                have k2 : of_ent wc g9 0 = s := of_ent_eq S3.is_ent
                have k3 : Has_ent wc g 0 := ⟨_, X3.is_ent⟩
                have k4 : of_ent wc g 0 = x := of_ent_eq X3.is_ent
                have hsz : w.heap.size ≤ wc.heap.size := B3.size
                cases hj : (!pb && y.leg.joinsB x.leg)
                · have H3 := Lib.hid (show joinStep out pb x = if okb then (out ++ [gapE, s], false) else (out, true) by rw [H2.out, hj]; rfl)
                  cases okb
                  · go_wp2
                    go_roundw
                    case rel => exact ⟨k + 1, out, true, by omega, by go_num, rfl, by rw [HJ.out, H3.out]; rfl, by omega, O3, B3⟩
                    case measure => simp [intOf]; omega
                  · have O4 := O3.alloc (.cells (gapE.arr ++ s.arr) 51)
                    have B4 := below_step B3 ((Below.refl wc.heap.size wc).alloc (Nat.le_refl _) (.cells (gapE.arr ++ s.arr) 51))
                    go_wp2_with (at_builtin; refine wpList_append_out rfl (.tmp 82) (.tmp 85) rfl O4 rfl [gapE, s] wc.heap.size 2 2 rfl rfl (Blk.two wc gapE s _) (by simp; omega) (by simp; omega) ?_; intro v5 W5 O5 hg5)
                    go_roundw
                    case rel => exact ⟨k + 1, out ++ [gapE, s], false, by omega, by go_num, rfl, by rw [HJ.out, H3.out]; rfl, by simp; omega, O5, below_grown B4 O4 hg5⟩
                    case measure => simp [intOf]; omega
                · have H3 := Lib.hid (show joinStep out pb x = (out ++ [x], pb) by rw [H2.out, hj]; rfl)
                  have O4 := O3.alloc (.cells x.arr 51)
                  have B4 := below_step B3 ((Below.refl wc.heap.size wc).alloc (Nat.le_refl _) (.cells x.arr 51))
                  go_wp2_with (at_builtin; refine wpList_append_out rfl (.tmp 77) (.tmp 79) rfl O4 rfl [x] wc.heap.size 1 1 rfl rfl (Blk.one wc x _) (by simp; omega) (by simp; omega) ?_; intro v5 W5 O5 hg5)
                  go_roundw
                  case rel => exact ⟨k + 1, out ++ [x], pb, by omega, by go_num, rfl, by rw [HJ.out, H3.out], by simp; omega, O5, below_grown B4 O4 hg5⟩
                  case measure => simp [intOf]; omega
            · have H3 := Lib.hid (show joinStep out pb x = (out, pb) by rw [HS.out, hsk]; rfl)
              go_wp2
              go_roundw
              case rel => exact ⟨k + 1, out, pb, by omega, by go_num, rfl, by rw [HJ.out, H3.out], by omega, O1, B1⟩
              case measure => simp [intOf]; omega
      · go_wp2
        go_roundw
        case rel => exact ⟨k + 1, out, true, by omega, by go_num, rfl, by rw [HJ.out]; simp [joinStep, hg], by omega, O0, B0⟩
        case measure => simp [intOf]; omega
    · go_wp2
      go_ret
      exact ⟨_, rfl, by rw [HQ.out, List.drop_of_length_le (by omega)]; exact hO, hB⟩
end Go.Proofs.YtcgmemkkcaipfaaGreatDoor
namespace Go.Proofs.YtcgmemkkcaipfaaGreatDoor
open Go.RowKit
set_option linter.unusedVariables false
set_option linter.unusedSimpArgs false
def FRel (es : List Entry) (w : World) (g : Nat) (cs : Array Value) (t i : Value) (wr : World) : Prop :=
  ∃ (k : Nat) (out : List (List UInt8)), k ≤ es.length ∧ i = .int .i64 k ∧ fixesGo es = out ++ fixesGo (es.drop k) ∧ out.length ≤ k ∧ SOut w wr t out ∧ Below w.heap.size w wr
theorem fixes_end {es : List Entry} {out : List (List UInt8)} {k : Nat} (h : fixesGo es = out ++ fixesGo (es.drop k)) (hk : ¬ k < es.length) : fixesGo es = out := by
  rw [h, List.drop_of_length_le (by omega)]; simp [fixesGo]
def sameB (p q : Plan) : Bool := p.from_ == q.from_ && p.to_ == q.to_ && p.active == q.active && eqGo p.es q.es
set_option maxHeartbeats 2000000 in
set_option maxRecDepth 100000 in
theorem same_any (p q : Plan) (A B : Option Addr) (c d : Nat) (w : World) (hp : p.es.length ≤ 4000000000) (hq : q.es.length ≤ 4000000000) (hc : p.es.length ≤ c) (hd : q.es.length ≤ d) (hE : Ents w A p.es) (hF : Ents w B q.es) :
   Calls Tryz.prog 11 #[p.val A c, q.val B d] w (Ret w (.bool (sameB p q))) := by
  go_enter Tryz.func11, Tryz.ntmps11
  go_upto_region 1 with (fail)
  generalize hW : (w.alloc _).alloc _ = W
  have X0 : Blk W w.heap.size (p.arr A c) := by rw [← hW]; exact (Blk.new w _ _).alloc _
  have R0 : Blk W (w.heap.size + 1) (q.arr B d) := by rw [← hW, ← World.size_alloc w (.cells (p.arr A c) 33)]; exact Blk.new _ _ _
  have B0 : Below w.heap.size w W := by rw [← hW]; go_grown
  clear hW
  have c1 := X0.cell
  have c2 := X0.lt
  have d1 := R0.cell
  have d2 := R0.lt
  have hcall := Lib.hid (sequal_any p.es q.es A B c d W hp hq hc hd (hE.below (B := 0) B0) (hF.below (B := 0) B0))
  obtain ⟨a1, h1⟩ : ∃ a, (p.from_ == q.from_) = a := ⟨_, rfl⟩
  obtain ⟨a2, h2⟩ : ∃ a, (p.to_ == q.to_) = a := ⟨_, rfl⟩
  obtain ⟨a3, h3⟩ : ∃ a, (p.active == q.active) = a := ⟨_, rfl⟩
  have HS := Lib.hid (show sameB p q = (a1 && a2 && a3 && eqGo p.es q.es) by rw [sameB, h1, h2, h3])
  cases a1 <;> cases a2 <;> cases a3
  all_goals
    go_wp2_with (go_at_call 35; refine callQ hcall.out ?_; intro n)
    all_goals (go_ret; exact Ret.bool (by rw [HS.out]; simp) (by first | exact B0 | exact below_drewN B0 _))
set_option maxHeartbeats 2000000 in
set_option maxRecDepth 100000 in
theorem rsame_any (p q : Plan) (A B : Option Addr) (c d : Nat) (w : World) (hp : p.es.length ≤ 4000000000) (hq : q.es.length ≤ 4000000000) (hc : p.es.length ≤ c) (hd : q.es.length ≤ d) (hE : Ents w A p.es) (hF : Ents w B q.es) :
   Calls Tryz.prog 12 #[p.val A c, q.val B d] w (Ret w (.bool (sameB p q))) := by
  go_enter Tryz.func12, Tryz.ntmps12
  go_upto_region 1 with (fail)
  generalize hW : (w.alloc _).alloc _ = W
  have X0 : Blk W w.heap.size (p.arr A c) := by rw [← hW]; exact (Blk.new w _ _).alloc _
  have R0 : Blk W (w.heap.size + 1) (q.arr B d) := by rw [← hW, ← World.size_alloc w (.cells (p.arr A c) 33)]; exact Blk.new _ _ _
  have B0 : Below w.heap.size w W := by rw [← hW]; go_grown
  clear hW
  have c1 := X0.cell
  have c2 := X0.lt
  have d1 := R0.cell
  have d2 := R0.lt
  have hcall := Lib.hid (equal_any p.es q.es A B c d W hp hq hc hd (hE.below (B := 0) B0) (hF.below (B := 0) B0))
  obtain ⟨a1, h1⟩ : ∃ a, (p.from_ == q.from_) = a := ⟨_, rfl⟩
  obtain ⟨a2, h2⟩ : ∃ a, (p.to_ == q.to_) = a := ⟨_, rfl⟩
  obtain ⟨a3, h3⟩ : ∃ a, (p.active == q.active) = a := ⟨_, rfl⟩
  have HS := Lib.hid (show sameB p q = (a1 && a2 && a3 && eqGo p.es q.es) by rw [sameB, h1, h2, h3])
  cases a1 <;> cases a2 <;> cases a3
  all_goals
    go_wp2_with (go_at_call 18; refine callQ hcall.out ?_; intro n)
    all_goals (go_ret; exact Ret.bool (by rw [HS.out]; simp) (by first | exact B0 | exact below_drewN B0 _))
end Go.Proofs.YtcgmemkkcaipfaaGreatDoor
