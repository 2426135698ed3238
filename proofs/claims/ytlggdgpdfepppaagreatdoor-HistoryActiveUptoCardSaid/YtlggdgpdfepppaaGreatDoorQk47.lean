/- The editor's legs, over any database; walk. An edit over any database: what is known, and Divert; walks. -/
import Derived.Test.YtlggdgpdfepppaaGreatDoorQk45
import Derived.Test.YtlggdgpdfepppaaGreatDoorQk46
import Derived.Test.YtlggdgpdfepppaaGreatDoorQk39
import Derived.Test.YtlggdgpdfepppaaGreatDoorQk41
import Derived.Test.YtlggdgpdfepppaaGreatDoorQk36
namespace Go.Proofs.YtlggdgpdfepppaaGreatDoor
open Go.RowKit Go.Sort
set_option linter.unusedVariables false
set_option linter.unusedSimpArgs false
set_option maxRecDepth 100000
def legsG (l : List ProcV) (s : List UInt8) (k : Int) (n t : List UInt8) : (ProcV × List Leg) × Int :=
  match procFind (cutAt 47 s).1 k n l with
  | none => ((noProc, []), 6)
  | some p => ((p, (procExpand p (cutAt 47 s).2.1 t).1), (procExpand p (cutAt 47 s).2.1 t).2)
def RetLg (w : World) (r : (ProcV × List Leg) × Int) (e : Ending) (w' : World) : Prop := ∃ cs A c, e = .returned (.tuple #[.agg cs, .slice A r.1.2.length c, .int .i64 r.2]) ∧ PrcAt w' cs r.1.1 ∧ r.1.2.length ≤ c ∧ Items w' A 13 (r.1.2.map Leg.arr) ∧ Below w.heap.size w w'
theorem callLg {P : Program} {f : FuncId} {args : Array Value} {W : World} {r : (ProcV × List Leg) × Int} {K : Ending → World → Prop} (h : Calls P f args W (RetLg W r))
    (k : ∀ cs A c w', PrcAt w' cs r.1.1 → r.1.2.length ≤ c → Items w' A 13 (r.1.2.map Leg.arr) → Below W.heap.size W w' → K (.returned (.tuple #[.agg cs, .slice A r.1.2.length c, .int .i64 r.2])) w') : Calls P f args W K :=
  h.mono fun e w' ⟨cs, A, c, he, h1, h2, h3, h4⟩ => by subst he; exact k cs A c w' h1 h2 h3 h4
theorem Items.setRow4 {w : World} {A : Option Addr} {l : List Leg} {g : Nat} {cs cs' : Array Value} (h : Items w A 13 (l.map Leg.arr)) (hb : Blk w g cs) (hs : cs.size = 4) : Items (w.setRow g cs') A 13 (l.map Leg.arr) := by
  refine h.keepN (fun hne a ha hlt => setRow_other _ _ _ _ ?_) (by simp [World.setRow])
  intro hh
  obtain ⟨b', o', rfl, hb', hc⟩ := h.leg (by simpa using hne)
  injection ha with ha
  subst ha
  have h0 : 0 < l.length := List.length_pos_iff.2 (by simpa using hne)
  have h1 := hc w (Below.refl _ _) 0 h0 12 (by omega)
  have h2 := hb.cell (o' + 0 * 13 + 12)
  have e : b' = g := hh
  subst e
  rw [h2] at h1
  rw [Array.getElem?_eq_none (by omega)] at h1
  cases hq : l[0] with
  | mk => rw [hq] at h1; simp [Leg.arr] at h1
theorem Has_prc_drewQ (W : World) (b o : Nat) : Has_prc W.drew b o = Has_prc W b o := propext ⟨fun h => h, fun h => h⟩
theorem of_prc_drewQ (W : World) (b o : Nat) : of_prc W.drew b o = of_prc W b o := rfl
attribute [local go_sem ↓] bprcG_fold
attribute [local go_sem] Has_prc_drewQ of_prc_drewQ Has_db_alloc5 of_db_alloc5 Has_db_drew5 of_db_drew5 run_bprcG prcArr_ones prcArr_sz prcArr_fits prcArr_splice
set_option maxHeartbeats 4000000 in
theorem elegsG (x : Edr) (es : List Entry) (g : Nat) (w W : World) (h : Ed w W g x es) (hL : Laid w) (l : List ProcV) (A8 : Option Addr) (c8 : Nat) (h8 : x.db[8]? = some (.slice A8 l.length c8)) (hI : PrcsAt w A8 l) (hlc : l.length ≤ c8) (hn : l.length ≤ 9000000000) (hsm : ∀ p ∈ l, p.small)
    (s : List UInt8) (k : Int) (hs : s.length ≤ 4000000000) (ht : x.e.trans.length ≤ 4000000000) :
    Calls Tryz.prog 126 #[.pointer (some ⟨g, 0, none⟩), .string ⟨s.toArray⟩, .int .u8 k] W (RetLg W (legsG l s k x.e.name x.e.trans)) := by
  have HL := Lib.hid (fun (W' : World) (b : Below w.heap.size w W') => hL.below b)
  have HI := Lib.hid (fun (W' : World) (b : Below w.heap.size w W') => hI.below b)
  have hcl := cutAt_len 47 s
  have HC := Lib.hid (show legsG l s k x.e.name x.e.trans = match procFind (cutAt 47 s).1 k x.e.name l with | none => ((noProc, []), 6) | some p => ((p, (procExpand p (cutAt 47 s).2.1 x.e.trans).1), (procExpand p (cutAt 47 s).2.1 x.e.trans).2) from rfl)
  clear hL hI
  go_enter Tryz.func126, Tryz.ntmps126
  go_upto_region 1 with (fail)
  have R0 : Blk (W.alloc (.cells #[.string ⟨#[]⟩, .string ⟨#[]⟩, .int .u8 0, .slice none 0 0] 186)) W.heap.size (prcArr noProc none 0) := Blk.new W #[.string ⟨#[]⟩, .string ⟨#[]⟩, .int .u8 0, .slice none 0 0] 186
  have X0 := h.alloc (.cells #[.string ⟨#[]⟩, .string ⟨#[]⟩, .int .u8 0, .slice none 0 0] 186)
  have B0 := alloc_below5 W (.cells #[.string ⟨#[]⟩, .string ⟨#[]⟩, .int .u8 0, .slice none 0 0] 186)
  generalize W.alloc _ = W0 at R0 X0 B0 ⊢
  obtain ⟨g9, hg9⟩ : ∃ g9, g9 = W.heap.size := ⟨_, rfl⟩
  rw [← hg9] at R0 ⊢
  have hge : W.heap.size ≤ g9 := by omega
  clear hg9 h
  have kc := Lib.hid (cut_ret s 47 W0 (HL.out W0 X0.bel) hs)
  generalize legsG l s k x.e.name x.e.trans = out at *
  generalize (cutAt 47 s).1 = a at *
  generalize (cutAt 47 s).2.1 = b at *
  generalize (cutAt 47 s).2.2 = f at *
  go_upto_region 2 with (go_at_call 80; (with_reducible refine callR kc.out ?_); intro w1 b1 _ _ _)
  have R1 := R0.step b1
  have X1 := X0.step b1
  have B1 := below_step B0 b1
  have k1 : Has_db w1 g 0 := ⟨_, X1.is_db⟩
  have k2 : of_db w1 g 0 = x.db := of_db_eq X1.is_db
  have c16 := X1.c16
  have hlt := X1.lt
  have hg9 := R1.lt
  clear kc X0 R0 B0 b1
  have HP := Lib.hid (show prcLook a k x.e.name l = match procFind a k x.e.name l with | none => (noProc, 6) | some p => (p, 0) from rfl)
  have HPS := Lib.hid (fun p (hp : procFind a k x.e.name l = some p) => show p.small from hsm p (procFind_mem hp))
  obtain ⟨r, hr⟩ : ∃ r, prcLook a k x.e.name l = r := ⟨_, rfl⟩
  have kp := Lib.hid (fun (w' : World) (D : Below w.heap.size w w') => navprc_any x.db l A8 c8 h8 a x.e.name k w' (HI.out w' D) hlc hn hsm)
  rw [hr] at kp HP
  clear hr
  go_cut [12, 13] (fun v e wx => ∃ q cs, v = .pointer (some ⟨q, 0, none⟩) ∧ e = .int .i64 r.2 ∧ Blk wx q cs ∧ w1.heap.size ≤ q ∧ PrcFar wx w1.heap.size cs r.1 ∧ Below w1.heap.size w1 wx)
  case first =>
    have HX1 := Lib.hid X1
    have HBE := Lib.hid X1.bel
    generalize x.db = cs at *
    generalize x.e.name = nm at *
    clear R1 X1 B1 h8
    go_region_with (go_at_call 150; (with_reducible refine callPrcE (kp.out _ (by first | exact HBE.out.trans (((Below.refl _ _).drew).mono HBE.out.size) | exact below_step HBE.out (below_step (Below.refl _ _).drew (alloc_below5 _ _)) | exact below_step HBE.out (Below.refl _ _).drew)) ?_); intro cs2 w2 h2 b2; obtain ⟨A5, c5, hcs, _, _⟩ := h2.at_.ex; subst hcs; first | (have Y2 : Blk w2 w1.heap.size (prcArr noProc none 0) := (((Blk.new w1 #[.string ⟨#[]⟩, .string ⟨#[]⟩, .int .u8 0, .slice none 0 0] 186).step (Below.refl _ _).drew)).step b2; have e2 := below_step (alloc_below5 w1 (.cells #[.string ⟨#[]⟩, .string ⟨#[]⟩, .int .u8 0, .slice none 0 0] 186)).drew b2; have d2 := Y2.plain; have d3 := Y2.of) | skip)
    all_goals
      go_wp2
      go_meet
      first
        | exact ⟨_, _, rfl, rfl, Blk.new _ _ _, Nat.le_trans b2.size (by simp), (h2.mono (by simp)).keep (fun b _ hb => by rw [heap_alloc_old _ _ hb]) (by simp), below_step (Below.refl _ _).drew (below_step b2 (alloc_below5 _ _))⟩
        | exact ⟨_, _, rfl, rfl, Y2.set _, Nat.le_refl _, (h2.keep (fun b hb _ => setRow_other _ _ _ _ (by simp at hb; omega)) (by simp [World.setRow])).mono (by simp), below_setRow' e2 (Nat.le_refl _) _⟩
  case rest =>
  obtain ⟨q, cs, rfl, rfl, Q, hq, HFar, BC⟩ := hcut
  have R2 := Lib.hid (R1.step BC)
  have X2 := X1.step BC
  have B2 := Lib.hid (below_step B1 BC)
  obtain ⟨A5, c5, hcs, _, _⟩ := HFar.at_.ex
  subst hcs
  clear k1 k2 c16 hlt kp R1 X1 B1 BC
  cases hf2 : procFind a k x.e.name l with
  | none =>
    rw [hf2] at HC HP
    have HO := Lib.hid (show out = ((noProc, []), 6) from HC.out)
    have hr : r = (noProc, 6) := HP.out
    subst hr
    clear hf2 HC HP HPS
    have i1 : Has_prc wc q 0 := ⟨_, Q.is_prc rfl⟩
    have i2 : of_prc wc q 0 = prcArr noProc A5 c5 := of_prc_eq (Q.is_prc rfl)
    have d2 := R2.out.plain
    have d3 := R2.out.of
    go_wp2
    exact bodyPost_ret (results_agg3E Tryz.results126 _ _ g9 (prcArr noProc A5 c5) 4 _ rfl rfl (R2.out.set _).cell Tryz.underlying186 rfl info_prc) rfl ⟨_, none, 0, by rw [HO.out]; rfl, by rw [HO.out]; exact (HFar.keep (fun b hb _ => setRow_other _ _ _ _ (by omega)) (by simp [World.setRow])).at_, by rw [HO.out]; simp, by rw [HO.out]; exact ⟨fun h => absurd rfl h⟩, below_setRow' B2.out hge _⟩
  | some p =>
    rw [hf2] at HC HP
    have HO := Lib.hid (show out = ((p, (procExpand p b x.e.trans).1), (procExpand p b x.e.trans).2) from HC.out)
    have hr : r = (p, 0) := HP.out
    subst hr
    have hps := HPS.out p hf2
    clear hf2 HC HP HPS
    have hcb := hcl.2
    have ke := Lib.hid (fun (W' : World) (D : Below wc.heap.size wc W') => expand_any p (prcArr p A5 c5) b x.e.trans W' (HL.out _ (below_step X2.bel D)) (HFar.at_.below D) hps (by omega) ht)
    have c18 := X2.c18
    have i1 : Has_prc wc q 0 := ⟨_, Q.is_prc rfl⟩
    have i2 : of_prc wc q 0 = prcArr p A5 c5 := of_prc_eq (Q.is_prc rfl)
    generalize procExpand p b x.e.trans = ex at *
    generalize x.e.trans = tr at *
    go_upto_region 5 with (fail)
    go_region_with (go_at_call 151; (with_reducible refine callExp (ke.out _ (Below.refl _ _).drew) ?_); intro A6 c6 w6 hl6 hI6 b6)
    all_goals
      have b6' : Below wc.heap.size wc w6 := below_step (Below.refl _ _).drew b6
      have R6 := R2.out.step b6'
      have Q6 := Q.step b6'
      have i3 : Has_prc w6 q 0 := ⟨_, Q6.is_prc rfl⟩
      have i4 : of_prc w6 q 0 = prcArr p A5 c5 := of_prc_eq (Q6.is_prc rfl)
      have d2 := R6.plain
      have d3 := R6.of
      clear i1 i2 c18 ke
      go_wp2
      exact bodyPost_ret (results_agg3E Tryz.results126 _ _ g9 (prcArr p A5 c5) 4 _ rfl rfl (R6.set _).cell Tryz.underlying186 rfl info_prc) rfl ⟨_, A6, c6, by rw [HO.out]; rfl, by rw [HO.out]; exact (HFar.keep (fun b hb hlt => (setRow_other _ _ _ _ (by omega)).trans (b6'.block b hlt)) (by have := b6'.size; simpa [World.setRow] using this)).at_, by rw [HO.out]; exact hl6, by rw [HO.out]; exact hI6.setRow4 R6 rfl, below_setRow' (below_step B2.out b6') hge _⟩
end Go.Proofs.YtlggdgpdfepppaaGreatDoor
namespace Go.Proofs.YtlggdgpdfepppaaGreatDoor
open Go.RowKit Go.Sort
set_option linter.unusedVariables false
set_option linter.unusedSimpArgs false
set_option maxRecDepth 100000
structure GPre (w : World) (x : Edr) (d : DBs) (G : GDB) : Prop where
  laid : Laid w
  gap : GapAt w
  db : d.cells = x.db
  gd : GdAt w d G
  ents : Ents w x.A x.p.es
  cap : x.p.es.length ≤ x.c
  len : x.p.es.length ≤ 60
  act0 : -1 ≤ x.p.active
  act1 : x.p.active < x.p.es.length
  at0 : 0 ≤ x.e.at_
  fr : x.p.from_.length ≤ 1000000000
  to_ : x.p.to_.length ≤ 1000000000
  rw_ : x.e.rway.length ≤ 1000000000
  nm : x.e.name.length ≤ 1000000000
  tr : x.e.trans.length ≤ 1000000000
  ref : x.e.ref.length ≤ 4000000000
  ok : (lookG G).ok
  own : x.v = .slice none 0 0
theorem GPre.pt {w : World} {x : Edr} {d : DBs} {G : GDB} (h : GPre w x d G) : (lookG G).pt = pointV d.lat d.lon G.fixes := by rw [h.gd.lat, h.gd.lon]; rfl
theorem GPre.one {w : World} {x : Edr} {d : DBs} {G : GDB} (h : GPre w x d G) (x' : Edr) (hx : x'.db = x.db) (es : List Entry) (g : Nat) (W : World) (X : Ed w W g x' es) (t s : Int) (ref via : List UInt8) (hr : ref.length ≤ 4000000000) (hv : via.length ≤ 4000000000) :
    Calls Tryz.prog 120 #[.pointer (some ⟨g, 0, none⟩), .int .u8 t, .string ⟨ref.toArray⟩, .int .u8 s, .string ⟨via.toArray⟩] W (Ret W (.tuple #[.agg (oneE (lookG G) t ref s via).arr, .int .i64 (oneS (lookG G) t ref s via).2])) :=
  eone_any x' es g w W X h.laid d G.fixes (h.db.trans hx.symm) h.gd.db (lookG G) h.pt h.gap t s ref via hr hv
attribute [local go_sem] Has_db_alloc5 of_db_alloc5 Has_db_drew5 of_db_drew5
set_option maxHeartbeats 8000000 in
theorem edivertG (x : Edr) (d : DBs) (G : GDB) (g : Nat) (w W : World) (h : Ed w W g x []) (P : GPre w x d G) (hat : x.e.at_ < x.p.es.length) : Calls Tryz.prog 96 #[.pointer (some ⟨g, 0, none⟩)] W (RetRun w g x (divertS (lookG G) x.p x.e)) := by
  have c11 := h.c11
  have c14 := h.c14
  go_enter Tryz.func96, Tryz.ntmps96
  go_upto_region 1 with (fail)
  go_region
  replace h := h.drw
  clear c11 c14
  generalize W.drew = W1 at h ⊢
  clear W
  have c12 := h.c12
  by_cases h1 : x.e.at_ < x.p.active
  · have HS := Lib.hid (show divertS (lookG G) x.p x.e = .bad 8 from if_pos h1)
    have HX := Lib.hid h
    clear h P hat
    go_wp2
    go_ret
    exact RetRun.bad HS.out (by decide) HX.out.bel
  · have h0 := P.at0
    obtain ⟨k, hk⟩ : ∃ k : Nat, x.e.at_ = k := ⟨x.e.at_.toNat, by omega⟩
    have hkl : k < x.p.es.length := by omega
    obtain ⟨b, off, hA, hcl⟩ := P.ents.ent hkl
    have HEn := Lib.hid (fun W' (bb : Below w.heap.size w W') => (show Ents W' (some ⟨b, off, none⟩) x.p.es from by have := P.ents.below (B := 0) bb; rwa [hA] at this))
    have HC := Lib.hid P.cap
    have HN := Lib.hid P.len
    have hkc2 : k + 1 ≤ x.c := by have := P.cap; omega
    have hlt : (k : Int) < (x.p.es.length : Int) := by omega
    have hw1 : wrap64 ((k : Int) + 1) = (k : Int) + 1 := IntWalk.wrap64_in _ (by have := P.len; omega)
    have HS0 : divertS (lookG G) x.p x.e = if !endsE (entAt x.p k) then .bad 17 else if (placeG G.fixes x.e.name).2 ≠ 0 then .bad (placeG G.fixes x.e.name).2 else
        if (oneS (lookG G) 2 (placeG G.fixes x.e.name).1 (entAt x.p k).sec []).2 ≠ 0 then .bad (oneS (lookG G) 2 (placeG G.fixes x.e.name).1 (entAt x.p k).sec []).2 else
        ⟨0, x.p.from_, x.e.name, x.p.active, x.p.es.take (k + 1) ++ (oneS (lookG G) 2 (placeG G.fixes x.e.name).1 (entAt x.p k).sec []).1⟩ := by
      unfold divertS; rw [if_neg h1, hk, Int.toNat_natCast]; rfl
    rw [hk] at h1 ⊢
    have AH := Lib.hid hA
    have hI := hcl W1 h.bel
    have HCL := Lib.hid hcl
    generalize entAt x.p k = y at HS0 hI HCL
    have i1 : Has_ent W1 b (off + k * 20) := ⟨_, hI⟩
    have i2 : of_ent W1 b (off + k * 20) = y := of_ent_eq hI
    have HX := Lib.hid h
    have kE := Lib.hid (eends_any y W1)
    have hplen := P.ok.place x.e.name
    have kP := Lib.hid (fun (W' : World) (b : Below w.heap.size w W') => show Calls Tryz.prog 127 #[.agg x.db, .string ⟨x.e.name.toArray⟩] W' (Ret W' (.tuple #[.string ⟨(placeG G.fixes x.e.name).1.toArray⟩, .int .i64 (placeG G.fixes x.e.name).2])) from by
      have := placeg_any d G.fixes x.e.name W' (P.laid.below b) (by have := P.nm; omega) (P.gd.db.below b)
      rwa [P.db] at this)
    have KO := Lib.hid (fun (W' : World) (X : Ed w W' g x []) => P.one x rfl [] g W' X 2 y.sec (placeG G.fixes x.e.name).1 [] hplen (by simp))
    clear h hcl hk hat h0 hI P
    cases hen : endsE y with
    | false =>
      rw [hen] at kE HS0
      have HS := Lib.hid (show divertS (lookG G) x.p x.e = .bad 17 from HS0)
      clear HS0
      go_wp2_with (go_at_call 121; (with_reducible refine callR kE.out ?_); intro w3 b3 _ _ _)
      go_ret
      exact RetRun.bad HS.out (by decide) (HX.out.step b3).bel
    | true =>
      rw [hen] at kE HS0
      have HS := Lib.hid (HS0.trans (if_neg (by decide)))
      clear HS0 hen
      go_upto_region 6 with (go_at_call 121; (with_reducible refine callR kE.out ?_); intro w3 b3 _ _ _)
      have X3 := HX.out.step b3
      clear HX b3 i1 i2 kE c12
      generalize placeG G.fixes x.e.name = pl at *
      obtain ⟨pr, pe⟩ := pl
      go_cut [5, 6] (fun a e wx => a = .string ⟨pr.toArray⟩ ∧ e = .int .i64 pe ∧ Below w3.heap.size w3 wx)
      case first =>
        have c16 := X3.c16
        have k2 : of_db w3 g 0 = x.db := of_db_eq X3.is_db
        have k1 : Has_db w3 g 0 := ⟨_, X3.is_db⟩
        have HX3 := Lib.hid X3
        generalize x.e.name = nm at *
        generalize x.db = cs at *
        clear X3
        go_region_with (go_at_call 127; (with_reducible refine callR (kP.out _ HX3.out.drw.bel) ?_); intro w4 b4 _ _ _)
        all_goals
          go_wp2
          go_meet
          exact ⟨rfl, rfl, below_step (Below.refl _ _).drew b4⟩
      case rest =>
        obtain ⟨rfl, rfl, BC⟩ := hcut
        have X4 := X3.step BC
        clear X3 BC kP
        by_cases hz : pe = 0
        case neg =>
          have hz' : (pe != 0) = true := by simpa using hz
          have HSB := Lib.hid (show divertS (lookG G) x.p x.e = .bad pe from HS.out.trans (if_pos hz))
          clear HS
          have HZ := Lib.hid hz
          have HX := Lib.hid X4
          clear X4 hz KO
          go_wp2
          go_ret
          exact RetRun.bad HSB.out HZ.out HX.out.bel
        subst hz
        have HS := Lib.hid (HS.out.trans (if_neg (not_not_intro rfl)))
        have h18 : wc.cell? ⟨b, off + k * 20 + 18, none⟩ = some (.int .u8 y.sec) := by have := HCL.out wc X4.bel 18 (by decide); exact this
        have K := Lib.hid (show Calls Tryz.prog 120 #[.pointer (some ⟨g, 0, none⟩), .int .u8 2, .string ⟨pr.toArray⟩, .int .u8 y.sec, .string ⟨#[]⟩] wc (Ret wc (.tuple #[.agg (oneE (lookG G) 2 pr y.sec []).arr, .int .i64 (oneS (lookG G) 2 pr y.sec []).2])) from KO.out wc X4)
        have HO := Lib.hid (fun h => @oneS_ok (lookG G) 2 y.sec pr [] h)
        have HE1 := Lib.hid (show oneE (lookG G) 2 pr y.sec [] = (oneS (lookG G) 2 pr y.sec []).1.headD zeroE from rfl)
        generalize oneE (lookG G) 2 pr y.sec [] = y1 at K HE1
        obtain ⟨r1, e1⟩ : ∃ r, oneS (lookG G) 2 pr y.sec [] = r := ⟨_, rfl⟩
        have HS := Lib.hid (show divertS (lookG G) x.p x.e = if r1.2 ≠ 0 then .bad r1.2 else ⟨0, x.p.from_, x.e.name, x.p.active, x.p.es.take (k + 1) ++ r1.1⟩ by rw [← e1]; exact HS.out)
        rw [e1] at K HO HE1
        clear e1 KO
        obtain ⟨l2, e2⟩ := r1
        go_upto_region 10 with (go_at_call 120; (with_reducible refine callR K.out ?_); intro w5 b5 _ _ _)
        have X5 := X4.step b5
        have Y := Blk.new w5 y1.arr 82
        have X6 := X5.alloc (.cells y1.arr 82)
        have F := FarB.new X5 (.cells y1.arr 82)
        clear X4 X5 b5 K h18
        generalize w5.alloc _ = W6 at Y X6 F ⊢
        generalize w5.heap.size = gy at Y F ⊢
        by_cases hz : e2 = 0
        · subst hz
          obtain ⟨y2, hy⟩ := HO.out rfl
          obtain rfl : l2 = [y2] := hy
          obtain rfl : y1 = y2 := HE1.out
          have HS := Lib.hid (show divertS (lookG G) x.p x.e = ⟨0, x.p.from_, x.e.name, x.p.active, x.p.es.take (k + 1) ++ [y1]⟩ from HS.out)
          have c16 := X6.c16
          have c10 := X6.c10
          have f10 := X6.blk.frozen 10
          clear HO HE1
          go_upto_region 13 with (fail)
          have X7 := X6.setTo x.e.name
          have Y7 := Y.setFar F.ne 10 (.string ⟨x.e.name.toArray⟩)
          have F7 : FarB (W6.setCell ⟨g, 10, none⟩ (.string ⟨x.e.name.toArray⟩)) g x.v gy := ⟨Y7.lt, F.ne, F.own⟩
          clear X6 Y F c16 c10 f10
          generalize W6.setCell _ _ = W7 at X7 Y7 F7 ⊢
          have K1 := Lib.hid (put_any _ [] (x.p.es.take (k + 1)) (some ⟨b, off, none⟩) x.c (k + 1) g w W7 X7 ((HEn.out _ X7.bel).take (c := 0)) (by rw [List.length_take]; omega) (by have := HN.out; simp; omega))
          rw [List.nil_append] at K1
          go_upto_region 14 with (go_at_call 118; (with_reducible refine callPut K1.out ?_); intro v8 W8 X8 kp)
          have Y8 := kp.blk F7 Y7
          have j1 : Has_ent W8 gy 0 := ⟨_, Y8.is_ent⟩
          have j2 : of_ent W8 gy 0 = y1 := of_ent_eq Y8.is_ent
          have K2 := Lib.hid (put_any _ (x.p.es.take (k + 1)) [y1] (some ⟨W8.heap.size, 0, none⟩) 1 1 g w _ (X8.alloc (.cells y1.arr 82)) (ents1 (Blk.new _ _ _)) rfl (by rw [List.length_take]; have := HN.out; omega))
          clear K1 kp F7 Y7 Y8 X7
          go_wp2_with (go_at_call 118; (with_reducible refine callPut K2.out ?_); intro v9 W9 X9 _)
          go_ret
          rw [HS.out]
          exact ⟨rfl, X9.bel, fun _ => ⟨v9, X9⟩⟩
        · have HS := Lib.hid (show divertS (lookG G) x.p x.e = .bad e2 from HS.out.trans (if_pos hz))
          have hz' : (e2 != 0) = true := by simpa using hz
          have HZ := Lib.hid hz
          clear HO HE1 hz
          go_wp2
          go_ret
          exact RetRun.bad HS.out HZ.out X6.bel
end Go.Proofs.YtlggdgpdfepppaaGreatDoor
