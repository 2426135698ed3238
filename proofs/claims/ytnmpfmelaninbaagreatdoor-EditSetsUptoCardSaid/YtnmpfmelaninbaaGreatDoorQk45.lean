/- Lemmas and walks. -/
import Derived.Test.YtnmpfmelaninbaaGreatDoorQk43
import Derived.Test.YtnmpfmelaninbaaGreatDoorQk40
import Derived.Test.YtnmpfmelaninbaaGreatDoorQk44
import Derived.Test.YtnmpfmelaninbaaGreatDoorQk35
set_option linter.unusedSimpArgs false
set_option linter.unusedVariables false
namespace Go.Proofs.YtnmpfmelaninbaaGreatDoor
open Go.RowKit Go.Sort
set_option maxRecDepth 100000
structure GPre (w : World) (x : Edr) (d : DBs) (G : GDB) : Prop where
  laid : Laid w
  gap : GapAt w
  db : d.cells = x.db
  gd : GdAt w d G
  ents : Ents w x.A x.p.es
  cap : x.p.es.length ≤ x.c
  len : x.p.es.length ≤ 60
  act0 : -1 ≤ x.p.active
  act1 : x.p.active < x.p.es.length
  at0 : 0 ≤ x.e.at_
  fr : x.p.from_.length ≤ 1000000000
  to_ : x.p.to_.length ≤ 1000000000
  rw_ : x.e.rway.length ≤ 1000000000
  nm : x.e.name.length ≤ 1000000000
  tr : x.e.trans.length ≤ 1000000000
  ref : x.e.ref.length ≤ 4000000000
  ok : (lookG G).ok
  own : x.v = .slice none 0 0
theorem GPre.pt {w : World} {x : Edr} {d : DBs} {G : GDB} (h : GPre w x d G) : (lookG G).pt = pointV d.lat d.lon G.fixes := by rw [h.gd.lat, h.gd.lon]; rfl
theorem GPre.one {w : World} {x : Edr} {d : DBs} {G : GDB} (h : GPre w x d G) (x' : Edr) (hx : x'.db = x.db) (es : List Entry) (g : Nat) (W : World) (X : Ed w W g x' es) (t s : Int) (ref via : List UInt8) (hr : ref.length ≤ 4000000000) (hv : via.length ≤ 4000000000) :
    Calls Tryz.prog 183 #[.pointer (some ⟨g, 0, none⟩), .int .u8 t, .string ⟨ref.toArray⟩, .int .u8 s, .string ⟨via.toArray⟩] W (Ret W (.tuple #[.agg (oneE (lookG G) t ref s via).arr, .int .i64 (oneS (lookG G) t ref s via).2])) :=
  eone_any x' es g w W X h.laid d G.fixes (h.db.trans hx.symm) h.gd.db (lookG G) h.pt h.gap t s ref via hr hv
attribute [local go_sem] Has_db_alloc5 of_db_alloc5 Has_db_drew5 of_db_drew5
set_option maxHeartbeats 8000000 in
theorem edivertG (x : Edr) (d : DBs) (G : GDB) (g : Nat) (w W : World) (h : Ed w W g x []) (P : GPre w x d G) (hat : x.e.at_ < x.p.es.length) : Calls Tryz.prog 119 #[.pointer (some ⟨g, 0, none⟩)] W (RetRun w g x (divertS (lookG G) x.p x.e)) := by
  have c11 := h.c11
  have c14 := h.c14
  go_enter Tryz.func119, Tryz.ntmps119
  go_upto_region 1 with (fail)
  go_region
  replace h := h.drw
  clear c11 c14
  generalize W.drew = W1 at h ⊢
  clear W
  have c12 := h.c12
  by_cases h1 : x.e.at_ < x.p.active
  · have HS := Lib.hid (show divertS (lookG G) x.p x.e = .bad 8 from if_pos h1)
    have HX := Lib.hid h
    clear h P hat
    go_wp2
    go_ret
    exact RetRun.bad HS.out (by decide) HX.out.bel
  · have h0 := P.at0
    obtain ⟨k, hk⟩ : ∃ k : Nat, x.e.at_ = k := ⟨x.e.at_.toNat, by omega⟩
    have hkl : k < x.p.es.length := by omega
    obtain ⟨b, off, hA, hcl⟩ := P.ents.ent hkl
    have HEn := Lib.hid (fun W' (bb : Below w.heap.size w W') => (show Ents W' (some ⟨b, off, none⟩) x.p.es from by have := P.ents.below (B := 0) bb; rwa [hA] at this))
    have HC := Lib.hid P.cap
    have HN := Lib.hid P.len
    have hkc2 : k + 1 ≤ x.c := by have := P.cap; omega
    have hlt : (k : Int) < (x.p.es.length : Int) := by omega
    have hw1 : wrap64 ((k : Int) + 1) = (k : Int) + 1 := IntWalk.wrap64_in _ (by have := P.len; omega)
    have HS0 : divertS (lookG G) x.p x.e = if !endsE (entAt x.p k) then .bad 17 else if (placeG G.fixes x.e.name).2 ≠ 0 then .bad (placeG G.fixes x.e.name).2 else
        if (oneS (lookG G) 2 (placeG G.fixes x.e.name).1 (entAt x.p k).sec []).2 ≠ 0 then .bad (oneS (lookG G) 2 (placeG G.fixes x.e.name).1 (entAt x.p k).sec []).2 else
        ⟨0, x.p.from_, x.e.name, x.p.active, x.p.es.take (k + 1) ++ (oneS (lookG G) 2 (placeG G.fixes x.e.name).1 (entAt x.p k).sec []).1⟩ := by
      unfold divertS; rw [if_neg h1, hk, Int.toNat_natCast]; rfl
    rw [hk] at h1 ⊢
    have AH := Lib.hid hA
    have hI := hcl W1 h.bel
    have HCL := Lib.hid hcl
    generalize entAt x.p k = y at HS0 hI HCL
    have i1 : Has_ent W1 b (off + k * 20) := ⟨_, hI⟩
    have i2 : of_ent W1 b (off + k * 20) = y := of_ent_eq hI
    have HX := Lib.hid h
    have kE := Lib.hid (eends_any y W1)
    have hplen := P.ok.place x.e.name
    have kP := Lib.hid (fun (W' : World) (b : Below w.heap.size w W') => show Calls Tryz.prog 190 #[.agg x.db, .string ⟨x.e.name.toArray⟩] W' (Ret W' (.tuple #[.string ⟨(placeG G.fixes x.e.name).1.toArray⟩, .int .i64 (placeG G.fixes x.e.name).2])) from by
      have := placeg_any d G.fixes x.e.name W' (P.laid.below b) (by have := P.nm; omega) (P.gd.db.below b)
      rwa [P.db] at this)
    have KO := Lib.hid (fun (W' : World) (X : Ed w W' g x []) => P.one x rfl [] g W' X 2 y.sec (placeG G.fixes x.e.name).1 [] hplen (by simp))
    clear h hcl hk hat h0 hI P
    cases hen : endsE y with
    | false =>
      rw [hen] at kE HS0
      have HS := Lib.hid (show divertS (lookG G) x.p x.e = .bad 17 from HS0)
      clear HS0
      go_wp2_with (go_at_call 184; (with_reducible refine callR kE.out ?_); intro w3 b3 _ _ _)
      go_ret
      exact RetRun.bad HS.out (by decide) (HX.out.step b3).bel
    | true =>
      rw [hen] at kE HS0
      have HS := Lib.hid (HS0.trans (if_neg (by decide)))
      clear HS0 hen
      go_upto_region 6 with (go_at_call 184; (with_reducible refine callR kE.out ?_); intro w3 b3 _ _ _)
      have X3 := HX.out.step b3
      clear HX b3 i1 i2 kE c12
      generalize placeG G.fixes x.e.name = pl at *
      obtain ⟨pr, pe⟩ := pl
      go_cut [5, 6] (fun a e wx => a = .string ⟨pr.toArray⟩ ∧ e = .int .i64 pe ∧ Below w3.heap.size w3 wx)
      case first =>
        have c16 := X3.c16
        have k2 : of_db w3 g 0 = x.db := of_db_eq X3.is_db
        have k1 : Has_db w3 g 0 := ⟨_, X3.is_db⟩
        have HX3 := Lib.hid X3
        generalize x.e.name = nm at *
        generalize x.db = cs at *
        clear X3
        go_region_with (go_at_call 190; (with_reducible refine callR (kP.out _ HX3.out.drw.bel) ?_); intro w4 b4 _ _ _)
        all_goals
          go_wp2
          go_meet
          exact ⟨rfl, rfl, below_step (Below.refl _ _).drew b4⟩
      case rest =>
        obtain ⟨rfl, rfl, BC⟩ := hcut
        have X4 := X3.step BC
        clear X3 BC kP
        by_cases hz : pe = 0
        case neg =>
          have hz' : (pe != 0) = true := by simpa using hz
          have HSB := Lib.hid (show divertS (lookG G) x.p x.e = .bad pe from HS.out.trans (if_pos hz))
          clear HS
          have HZ := Lib.hid hz
          have HX := Lib.hid X4
          clear X4 hz KO
          go_wp2
          go_ret
          exact RetRun.bad HSB.out HZ.out HX.out.bel
        subst hz
        have HS := Lib.hid (HS.out.trans (if_neg (not_not_intro rfl)))
        have h18 : wc.cell? ⟨b, off + k * 20 + 18, none⟩ = some (.int .u8 y.sec) := by have := HCL.out wc X4.bel 18 (by decide); exact this
        have K := Lib.hid (show Calls Tryz.prog 183 #[.pointer (some ⟨g, 0, none⟩), .int .u8 2, .string ⟨pr.toArray⟩, .int .u8 y.sec, .string ⟨#[]⟩] wc (Ret wc (.tuple #[.agg (oneE (lookG G) 2 pr y.sec []).arr, .int .i64 (oneS (lookG G) 2 pr y.sec []).2])) from KO.out wc X4)
        have HO := Lib.hid (fun h => @oneS_ok (lookG G) 2 y.sec pr [] h)
        have HE1 := Lib.hid (show oneE (lookG G) 2 pr y.sec [] = (oneS (lookG G) 2 pr y.sec []).1.headD zeroE from rfl)
        generalize oneE (lookG G) 2 pr y.sec [] = y1 at K HE1
        obtain ⟨r1, e1⟩ : ∃ r, oneS (lookG G) 2 pr y.sec [] = r := ⟨_, rfl⟩
        have HS := Lib.hid (show divertS (lookG G) x.p x.e = if r1.2 ≠ 0 then .bad r1.2 else ⟨0, x.p.from_, x.e.name, x.p.active, x.p.es.take (k + 1) ++ r1.1⟩ by rw [← e1]; exact HS.out)
        rw [e1] at K HO HE1
        clear e1 KO
        obtain ⟨l2, e2⟩ := r1
        go_upto_region 10 with (go_at_call 183; (with_reducible refine callR K.out ?_); intro w5 b5 _ _ _)
        have X5 := X4.step b5
        have Y := Blk.new w5 y1.arr 57
        have X6 := X5.alloc (.cells y1.arr 57)
        have F := FarB.new X5 (.cells y1.arr 57)
        clear X4 X5 b5 K h18
        generalize w5.alloc _ = W6 at Y X6 F ⊢
        generalize w5.heap.size = gy at Y F ⊢
        by_cases hz : e2 = 0
        · subst hz
          obtain ⟨y2, hy⟩ := HO.out rfl
          obtain rfl : l2 = [y2] := hy
          obtain rfl : y1 = y2 := HE1.out
          have HS := Lib.hid (show divertS (lookG G) x.p x.e = ⟨0, x.p.from_, x.e.name, x.p.active, x.p.es.take (k + 1) ++ [y1]⟩ from HS.out)
          have c16 := X6.c16
          have c10 := X6.c10
          have f10 := X6.blk.frozen 10
          clear HO HE1
          go_upto_region 13 with (fail)
          have X7 := X6.setTo x.e.name
          have Y7 := Y.setFar F.ne 10 (.string ⟨x.e.name.toArray⟩)
          have F7 : FarB (W6.setCell ⟨g, 10, none⟩ (.string ⟨x.e.name.toArray⟩)) g x.v gy := ⟨Y7.lt, F.ne, F.own⟩
          clear X6 Y F c16 c10 f10
          generalize W6.setCell _ _ = W7 at X7 Y7 F7 ⊢
          have K1 := Lib.hid (put_any _ [] (x.p.es.take (k + 1)) (some ⟨b, off, none⟩) x.c (k + 1) g w W7 X7 ((HEn.out _ X7.bel).take (c := 0)) (by rw [List.length_take]; omega) (by have := HN.out; simp; omega))
          rw [List.nil_append] at K1
          go_upto_region 14 with (go_at_call 181; (with_reducible refine callPut K1.out ?_); intro v8 W8 X8 kp)
          have Y8 := kp.blk F7 Y7
          have j1 : Has_ent W8 gy 0 := ⟨_, Y8.is_ent⟩
          have j2 : of_ent W8 gy 0 = y1 := of_ent_eq Y8.is_ent
          have K2 := Lib.hid (put_any _ (x.p.es.take (k + 1)) [y1] (some ⟨W8.heap.size, 0, none⟩) 1 1 g w _ (X8.alloc (.cells y1.arr 57)) (ents1 (Blk.new _ _ _)) rfl (by rw [List.length_take]; have := HN.out; omega))
          clear K1 kp F7 Y7 Y8 X7
          go_wp2_with (go_at_call 181; (with_reducible refine callPut K2.out ?_); intro v9 W9 X9 _)
          go_ret
          rw [HS.out]
          exact ⟨rfl, X9.bel, fun _ => ⟨v9, X9⟩⟩
        · have HS := Lib.hid (show divertS (lookG G) x.p x.e = .bad e2 from HS.out.trans (if_pos hz))
          have hz' : (e2 != 0) = true := by simpa using hz
          have HZ := Lib.hid hz
          clear HO HE1 hz
          go_wp2
          go_ret
          exact RetRun.bad HS.out HZ.out X6.bel
end Go.Proofs.YtnmpfmelaninbaaGreatDoor
