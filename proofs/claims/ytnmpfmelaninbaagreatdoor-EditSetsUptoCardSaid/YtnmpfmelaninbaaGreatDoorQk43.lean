/- Lemmas and walks. -/
import Derived.Test.YtnmpfmelaninbaaGreatDoorQk41
import Derived.Test.YtnmpfmelaninbaaGreatDoorQk42
set_option linter.unusedSimpArgs false
set_option linter.unusedVariables false
namespace Go.Proofs.YtnmpfmelaninbaaGreatDoor
open Go.RowKit Go.Sort
set_option maxRecDepth 100000
def legsG (l : List ProcV) (s : List UInt8) (k : Int) (n t : List UInt8) : (ProcV × List Leg) × Int :=
  match procFind (cutAt 47 s).1 k n l with
  | none => ((noProc, []), 6)
  | some p => ((p, (procExpand p (cutAt 47 s).2.1 t).1), (procExpand p (cutAt 47 s).2.1 t).2)
def RetLg (w : World) (r : (ProcV × List Leg) × Int) (e : Ending) (w' : World) : Prop := ∃ cs A c, e = .returned (.tuple #[.agg cs, .slice A r.1.2.length c, .int .i64 r.2]) ∧ PrcAt w' cs r.1.1 ∧ r.1.2.length ≤ c ∧ Items w' A 13 (r.1.2.map Leg.arr) ∧ Below w.heap.size w w'
theorem callLg {P : Program} {f : FuncId} {args : Array Value} {W : World} {r : (ProcV × List Leg) × Int} {K : Ending → World → Prop} (h : Calls P f args W (RetLg W r))
    (k : ∀ cs A c w', PrcAt w' cs r.1.1 → r.1.2.length ≤ c → Items w' A 13 (r.1.2.map Leg.arr) → Below W.heap.size W w' → K (.returned (.tuple #[.agg cs, .slice A r.1.2.length c, .int .i64 r.2])) w') : Calls P f args W K :=
  h.mono fun e w' ⟨cs, A, c, he, h1, h2, h3, h4⟩ => by subst he; exact k cs A c w' h1 h2 h3 h4
theorem Items.setRow4 {w : World} {A : Option Addr} {l : List Leg} {g : Nat} {cs cs' : Array Value} (h : Items w A 13 (l.map Leg.arr)) (hb : Blk w g cs) (hs : cs.size = 4) : Items (w.setRow g cs') A 13 (l.map Leg.arr) := by
  refine h.keepN (fun hne a ha hlt => setRow_other _ _ _ _ ?_) (by simp [World.setRow])
  intro hh
  obtain ⟨b', o', rfl, hb', hc⟩ := h.leg (by simpa using hne)
  injection ha with ha
  subst ha
  have h0 : 0 < l.length := List.length_pos_iff.2 (by simpa using hne)
  have h1 := hc w (Below.refl _ _) 0 h0 12 (by omega)
  have h2 := hb.cell (o' + 0 * 13 + 12)
  have e : b' = g := hh
  subst e
  rw [h2] at h1
  rw [Array.getElem?_eq_none (by omega)] at h1
  cases hq : l[0] with
  | mk => rw [hq] at h1; simp [Leg.arr] at h1
theorem Has_prc_drewQ (W : World) (b o : Nat) : Has_prc W.drew b o = Has_prc W b o := propext ⟨fun h => h, fun h => h⟩
theorem of_prc_drewQ (W : World) (b o : Nat) : of_prc W.drew b o = of_prc W b o := rfl
attribute [local go_sem ↓] bprcG_fold
attribute [local go_sem] Has_prc_drewQ of_prc_drewQ Has_db_alloc5 of_db_alloc5 Has_db_drew5 of_db_drew5 run_bprcG prcArr_ones prcArr_sz prcArr_fits prcArr_splice
set_option maxHeartbeats 4000000 in
theorem elegsG (x : Edr) (es : List Entry) (g : Nat) (w W : World) (h : Ed w W g x es) (hL : Laid w) (l : List ProcV) (A8 : Option Addr) (c8 : Nat) (h8 : x.db[8]? = some (.slice A8 l.length c8)) (hI : PrcsAt w A8 l) (hlc : l.length ≤ c8) (hn : l.length ≤ 9000000000) (hsm : ∀ p ∈ l, p.small)
    (s : List UInt8) (k : Int) (hs : s.length ≤ 4000000000) (ht : x.e.trans.length ≤ 4000000000) :
    Calls Tryz.prog 189 #[.pointer (some ⟨g, 0, none⟩), .string ⟨s.toArray⟩, .int .u8 k] W (RetLg W (legsG l s k x.e.name x.e.trans)) := by
  have HL := Lib.hid (fun (W' : World) (b : Below w.heap.size w W') => hL.below b)
  have HI := Lib.hid (fun (W' : World) (b : Below w.heap.size w W') => hI.below b)
  have hcl := cutAt_len 47 s
  have HC := Lib.hid (show legsG l s k x.e.name x.e.trans = match procFind (cutAt 47 s).1 k x.e.name l with | none => ((noProc, []), 6) | some p => ((p, (procExpand p (cutAt 47 s).2.1 x.e.trans).1), (procExpand p (cutAt 47 s).2.1 x.e.trans).2) from rfl)
  clear hL hI
  go_enter Tryz.func189, Tryz.ntmps189
  go_upto_region 1 with (fail)
  have R0 : Blk (W.alloc (.cells #[.string ⟨#[]⟩, .string ⟨#[]⟩, .int .u8 0, .slice none 0 0] 188)) W.heap.size (prcArr noProc none 0) := Blk.new W #[.string ⟨#[]⟩, .string ⟨#[]⟩, .int .u8 0, .slice none 0 0] 188
  have X0 := h.alloc (.cells #[.string ⟨#[]⟩, .string ⟨#[]⟩, .int .u8 0, .slice none 0 0] 188)
  have B0 := alloc_below5 W (.cells #[.string ⟨#[]⟩, .string ⟨#[]⟩, .int .u8 0, .slice none 0 0] 188)
  generalize W.alloc _ = W0 at R0 X0 B0 ⊢
  obtain ⟨g9, hg9⟩ : ∃ g9, g9 = W.heap.size := ⟨_, rfl⟩
  rw [← hg9] at R0 ⊢
  have hge : W.heap.size ≤ g9 := by omega
  clear hg9 h
  have kc := Lib.hid (cut_ret s 47 W0 (HL.out W0 X0.bel) hs)
  generalize legsG l s k x.e.name x.e.trans = out at *
  generalize (cutAt 47 s).1 = a at *
  generalize (cutAt 47 s).2.1 = b at *
  generalize (cutAt 47 s).2.2 = f at *
  go_upto_region 2 with (go_at_call 161; (with_reducible refine callR kc.out ?_); intro w1 b1 _ _ _)
  have R1 := R0.step b1
  have X1 := X0.step b1
  have B1 := below_step B0 b1
  have k1 : Has_db w1 g 0 := ⟨_, X1.is_db⟩
  have k2 : of_db w1 g 0 = x.db := of_db_eq X1.is_db
  have c16 := X1.c16
  have hlt := X1.lt
  have hg9 := R1.lt
  clear kc X0 R0 B0 b1
  have HP := Lib.hid (show prcLook a k x.e.name l = match procFind a k x.e.name l with | none => (noProc, 6) | some p => (p, 0) from rfl)
  have HPS := Lib.hid (fun p (hp : procFind a k x.e.name l = some p) => show p.small from hsm p (procFind_mem hp))
  obtain ⟨r, hr⟩ : ∃ r, prcLook a k x.e.name l = r := ⟨_, rfl⟩
  have kp := Lib.hid (fun (w' : World) (D : Below w.heap.size w w') => navprc_any x.db l A8 c8 h8 a x.e.name k w' (HI.out w' D) hlc hn hsm)
  rw [hr] at kp HP
  clear hr
  go_cut [12, 13] (fun v e wx => ∃ q cs, v = .pointer (some ⟨q, 0, none⟩) ∧ e = .int .i64 r.2 ∧ Blk wx q cs ∧ w1.heap.size ≤ q ∧ PrcFar wx w1.heap.size cs r.1 ∧ Below w1.heap.size w1 wx)
  case first =>
    have HX1 := Lib.hid X1
    have HBE := Lib.hid X1.bel
    generalize x.db = cs at *
    generalize x.e.name = nm at *
    clear R1 X1 B1 h8
    go_region_with (go_at_call 246; (with_reducible refine callPrcE (kp.out _ (by first | exact HBE.out.trans (((Below.refl _ _).drew).mono HBE.out.size) | exact below_step HBE.out (below_step (Below.refl _ _).drew (alloc_below5 _ _)) | exact below_step HBE.out (Below.refl _ _).drew)) ?_); intro cs2 w2 h2 b2; obtain ⟨A5, c5, hcs, _, _⟩ := h2.at_.ex; subst hcs; first | (have Y2 : Blk w2 w1.heap.size (prcArr noProc none 0) := (((Blk.new w1 #[.string ⟨#[]⟩, .string ⟨#[]⟩, .int .u8 0, .slice none 0 0] 188).step (Below.refl _ _).drew)).step b2; have e2 := below_step (alloc_below5 w1 (.cells #[.string ⟨#[]⟩, .string ⟨#[]⟩, .int .u8 0, .slice none 0 0] 188)).drew b2; have d2 := Y2.plain; have d3 := Y2.of) | skip)
    all_goals
      go_wp2
      go_meet
      first
        | exact ⟨_, _, rfl, rfl, Blk.new _ _ _, Nat.le_trans b2.size (by simp), (h2.mono (by simp)).keep (fun b _ hb => by rw [heap_alloc_old _ _ hb]) (by simp), below_step (Below.refl _ _).drew (below_step b2 (alloc_below5 _ _))⟩
        | exact ⟨_, _, rfl, rfl, Y2.set _, Nat.le_refl _, (h2.keep (fun b hb _ => setRow_other _ _ _ _ (by simp at hb; omega)) (by simp [World.setRow])).mono (by simp), below_setRow' e2 (Nat.le_refl _) _⟩
  case rest =>
  obtain ⟨q, cs, rfl, rfl, Q, hq, HFar, BC⟩ := hcut
  have R2 := Lib.hid (R1.step BC)
  have X2 := X1.step BC
  have B2 := Lib.hid (below_step B1 BC)
  obtain ⟨A5, c5, hcs, _, _⟩ := HFar.at_.ex
  subst hcs
  clear k1 k2 c16 hlt kp R1 X1 B1 BC
  cases hf2 : procFind a k x.e.name l with
  | none =>
    rw [hf2] at HC HP
    have HO := Lib.hid (show out = ((noProc, []), 6) from HC.out)
    have hr : r = (noProc, 6) := HP.out
    subst hr
    clear hf2 HC HP HPS
    have i1 : Has_prc wc q 0 := ⟨_, Q.is_prc rfl⟩
    have i2 : of_prc wc q 0 = prcArr noProc A5 c5 := of_prc_eq (Q.is_prc rfl)
    have d2 := R2.out.plain
    have d3 := R2.out.of
    go_wp2
    exact bodyPost_ret (results_agg3E Tryz.results189 _ _ g9 (prcArr noProc A5 c5) 4 _ rfl rfl (R2.out.set _).cell Tryz.underlying188 rfl info_prc) rfl ⟨_, none, 0, by rw [HO.out]; rfl, by rw [HO.out]; exact (HFar.keep (fun b hb _ => setRow_other _ _ _ _ (by omega)) (by simp [World.setRow])).at_, by rw [HO.out]; simp, by rw [HO.out]; exact ⟨fun h => absurd rfl h⟩, below_setRow' B2.out hge _⟩
  | some p =>
    rw [hf2] at HC HP
    have HO := Lib.hid (show out = ((p, (procExpand p b x.e.trans).1), (procExpand p b x.e.trans).2) from HC.out)
    have hr : r = (p, 0) := HP.out
    subst hr
    have hps := HPS.out p hf2
    clear hf2 HC HP HPS
    have hcb := hcl.2
    have ke := Lib.hid (fun (W' : World) (D : Below wc.heap.size wc W') => expand_any p (prcArr p A5 c5) b x.e.trans W' (HL.out _ (below_step X2.bel D)) (HFar.at_.below D) hps (by omega) ht)
    have c18 := X2.c18
    have i1 : Has_prc wc q 0 := ⟨_, Q.is_prc rfl⟩
    have i2 : of_prc wc q 0 = prcArr p A5 c5 := of_prc_eq (Q.is_prc rfl)
    generalize procExpand p b x.e.trans = ex at *
    generalize x.e.trans = tr at *
    go_upto_region 5 with (fail)
    go_region_with (go_at_call 247; (with_reducible refine callExp (ke.out _ (Below.refl _ _).drew) ?_); intro A6 c6 w6 hl6 hI6 b6)
    all_goals
      have b6' : Below wc.heap.size wc w6 := below_step (Below.refl _ _).drew b6
      have R6 := R2.out.step b6'
      have Q6 := Q.step b6'
      have i3 : Has_prc w6 q 0 := ⟨_, Q6.is_prc rfl⟩
      have i4 : of_prc w6 q 0 = prcArr p A5 c5 := of_prc_eq (Q6.is_prc rfl)
      have d2 := R6.plain
      have d3 := R6.of
      clear i1 i2 c18 ke
      go_wp2
      exact bodyPost_ret (results_agg3E Tryz.results189 _ _ g9 (prcArr p A5 c5) 4 _ rfl rfl (R6.set _).cell Tryz.underlying188 rfl info_prc) rfl ⟨_, A6, c6, by rw [HO.out]; rfl, by rw [HO.out]; exact (HFar.keep (fun b hb hlt => (setRow_other _ _ _ _ (by omega)).trans (b6'.block b hlt)) (by have := b6'.size; simpa [World.setRow] using this)).at_, by rw [HO.out]; exact hl6, by rw [HO.out]; exact hI6.setRow4 R6 rfl, below_setRow' (below_step B2.out b6') hge _⟩
end Go.Proofs.YtnmpfmelaninbaaGreatDoor
