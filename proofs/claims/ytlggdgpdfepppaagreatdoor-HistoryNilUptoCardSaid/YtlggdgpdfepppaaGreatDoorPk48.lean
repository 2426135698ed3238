/- Bounds of the plans of a history; Apply on its temporary or active plan. The example of the chapter on histories: awake returns true. HistoryValid: the statement walked. HistoryActive: the statement walked. HistoryNil and HistoryNews: the statements walked. HistoryNews: the statement walked. A plan among the arguments, the lengths of its places with it. A whole database among the arguments, opened. -/
import Derived.Test.YtlggdgpdfepppaaGreatDoorPk43
import Derived.Test.YtlggdgpdfepppaaGreatDoorPk12
import Derived.Test.YtlggdgpdfepppaaGreatDoorPk33
import Derived.Test.YtlggdgpdfepppaaGreatDoorPk47
import Derived.Test.YtlggdgpdfepppaaGreatDoorPk45
import Derived.Test.YtlggdgpdfepppaaGreatDoorPk34
import Derived.Deep.RegionHeld3
import Derived.Test.YtlggdgpdfepppaaGreatDoorPk32
import Derived.Test.YtlggdgpdfepppaaGreatDoorPk41
namespace Go.Proofs.YtlggdgpdfepppaaGreatDoor
open Go.RowKit Go.Sort
set_option linter.unusedVariables false
set_option linter.unusedSimpArgs false
theorem checkRef_lenH {s : List UInt8} {b : Bool} (h : checkRefI s b = 0) : s.length ≤ 13 := by
  cases b
  · unfold checkRefI at h
    by_cases he : s = []
    · rw [he]; simp
    · simp [he] at h
  · exact ref_lenT (refB_iff.2 h)
theorem planCheck_tight {p : Plan} (h : planCheck p = 0) : p.from_.length ≤ 13 ∧ p.to_.length ≤ 13 ∧ p.small := by
  obtain ⟨hlen, hgo, a1, a2⟩ := planCheck_ok h
  obtain ⟨h1, h2⟩ := place_of h
  have pl : ∀ s : List UInt8, placeB s = true → s.length ≤ 13 := fun s hs => by
    unfold placeB at hs
    rcases Bool.or_eq_true_iff.1 hs with hs | hs
    · have : s = [] := by simpa using hs
      rw [this]; simp
    · exact pairB_lenT (m := 6) hs
  have p1 := pl _ h1
  have p2 := pl _ h2
  refine ⟨p1, p2, by omega, by omega, by omega, fun x hx => ?_⟩
  cases hg : x.gap
  · obtain ⟨hl, _, _, hv, _⟩ := alone_parts (check_each _ _ _ hgo x hx hg)
    have hO := legOk_of hl
    have f := checkRef_lenH hO.fix
    have c := checkRef_lenH hO.center
    refine ⟨⟨by omega, by omega⟩, ?_⟩
    unfold viaB at hv
    rcases Bool.or_eq_true_iff.1 hv with hv | hv
    · have : x.via = [] := by simpa using hv
      rw [this]; simp
    · have := pairB_lenT (m := 8) hv; omega
  · have := (Entry.eqB_iff _ _).1 (checkGo_each _ _ _ hgo x hx hg)
    rw [this]
    exact ⟨⟨by decide, by decide⟩, by decide⟩
def Hist.sz (h : Hist) : Prop := h.undo.length + h.redo.length ≤ 16
theorem Hist.sz_new (p : Plan) : (histNew p).sz := by simp [Hist.sz, histNew]
theorem st_len {W : World} {g : Nat} {u r : Value} {s : MS} (h : StW W g u r s) (hv : ∀ q, s.abs = some q → planCheck q = 0) : s.p.es.length ≤ 60 := by
  cases hb : s.b with
  | false => rw [h.none hb]; exact Nat.zero_le _
  | true => exact (planCheck_ok (hv s.p (by unfold MS.abs; rw [hb]; rfl))).1
theorem HBnd.of {w W : World} {g : Nat} {m : HM} (h : His w W g m) (ok : m.abs.ok) (sz : m.abs.sz) : HBnd m where
  us := by have : m.us.length = m.abs.undo.length := by simp [HM.abs]
           unfold Hist.sz at sz; omega
  rs := by have : m.rs.length = m.abs.redo.length := by simp [HM.abs]
           unfold Hist.sz at sz; omega
  act := by have := (planCheck_ok (show planCheck m.p = 0 from ok.act)).1; omega
  tmp := by have := st_len h.tp ok.temp; omega
  usE s hs := by have := st_len (h.us_ s hs) (ok.undo _ (List.mem_map.2 ⟨s, hs, rfl⟩)); omega
  rsE s hs := by have := st_len (h.rs_ s hs) (ok.redo _ (List.mem_map.2 ⟨s, hs, rfl⟩)); omega
theorem Hist.ok.base {h : Hist} (ok : h.ok) : planCheck h.base = 0 := by
  unfold Hist.base
  cases hq : h.temp with
  | none => exact ok.act
  | some q => exact ok.temp q hq
theorem applyS_len {L : Look} {p : Plan} {e : EditV} (h : (applyS L p e).2 = 0) : (applyS L p e).1.es.length ≤ 1000000 := by
  have := (planCheck_ok (applyS_valid h)).1; omega
/- The methods of a history, told of what it holds. -/
theorem callTmp1 {P : Program} {f : FuncId} {args : Array Value} {W : World} {q : Plan} {K : Ending → World → Prop} (h : Calls P f args W (RetTmp W (some q)))
    (k : ∀ A c w', q.es.length ≤ c → Ents w' A q.es → (∀ a, A = some a → W.heap.size ≤ a.block) → Below W.heap.size W w' → K (.returned (.tuple #[.agg (q.arr A c), .bool true])) w') : Calls P f args W K := callTmp h k
theorem callTmp0 {P : Program} {f : FuncId} {args : Array Value} {W : World} {K : Ending → World → Prop} (h : Calls P f args W (RetTmp W none))
    (k : ∀ A c w', (0 : Nat) ≤ c → Ents w' A [] → (∀ a, A = some a → W.heap.size ≤ a.block) → Below W.heap.size W w' → K (.returned (.tuple #[.agg (plan0.arr A c), .bool false])) w') : Calls P f args W K := callTmp h k
section
variable {w W : World} {g : Nat} {m : HM} {h h' : Hist}
theorem tempH (X : His w W g m) (hm : m.abs = h) (ok : h.ok) (sz : h.sz) {q : Option Plan} (hq : h.temp = q) : Calls Tryz.prog 16 #[.pointer (some ⟨g, 0, none⟩)] W (RetTmp W q) := by
  subst hm; subst hq
  exact htemp_any W g m X (HBnd.of X ok sz).tmp
theorem depthH (X : His w W g m) (hm : m.abs = h) {i j : Nat} (hi : h.undo.length = i) (hj : h.redo.length = j) : Calls Tryz.prog 22 #[.pointer (some ⟨g, 0, none⟩)] W (Ret W (.tuple #[.int .i64 (i : Int), .int .i64 (j : Int)])) := by
  subst hm
  have e1 : m.us.length = i := by rw [← hi]; simp [HM.abs]
  have e2 : m.rs.length = j := by rw [← hj]; simp [HM.abs]
  rw [← e1, ← e2]
  exact hdepth_any W g m X
theorem activeH (X : His w W g m) (hm : m.abs = h) (ok : h.ok) (sz : h.sz) {q : Plan} (hq : h.act = q) : Calls Tryz.prog 19 #[.pointer (some ⟨g, 0, none⟩)] W (RetOwn W q) := by
  subst hm; subst hq
  exact hactive_any W g m X (HBnd.of X ok sz).act
theorem undoH_ (X : His w W g m) (hm : m.abs = h) (ok : h.ok) (sz : h.sz) {v : Int} (hd : h.undoH = (h', v)) : Calls Tryz.prog 18 #[.pointer (some ⟨g, 0, none⟩)] W (RetH w W g m h' (.int .i64 v)) := by
  subst hm
  have := hundo_any W g m X (HBnd.of X ok sz).us (HBnd.of X ok sz).rs
  rwa [hd] at this
theorem advanceH (X : His w W g m) (hm : m.abs = h) (ok : h.ok) (sz : h.sz) {v : Int} (to_ : Int) (hd : h.advance to_ = (h', v)) : Calls Tryz.prog 25 #[.pointer (some ⟨g, 0, none⟩), .int .i64 to_] W (RetH w W g m h' (.int .i64 v)) := by
  subst hm
  have B := HBnd.of X ok sz
  have := hadvance_any W g m X to_ B.act B.tmp B.usE B.rsE B.us B.rs
  rwa [hd] at this
end
end Go.Proofs.YtlggdgpdfepppaaGreatDoor
namespace Go.Proofs.YtlggdgpdfepppaaGreatDoor
open Go.RowKit Go.Sort
set_option linter.unusedVariables false
set_option linter.unusedSimpArgs false
set_option maxRecDepth 100000
structure Open24 (w : World) : Prop where
  laid : Laid w
  forms : FormsAt w
  gap : GapAt w
theorem Open24.below {w w' : World} (h : Open24 w) (hb : Below w.heap.size w w') : Open24 w' := ⟨h.laid.below hb, h.forms.below hb, h.gap.below hb⟩
def bwin4 (parts : Array (Nat × Value)) : Sem Value := Instr.build 56 parts
theorem bwin4_fold (parts : Array (Nat × Value)) : Instr.build 56 parts = bwin4 parts := rfl
theorem run_bwin4 (w : World) (a b : Int) : (bwin4 #[(0, .int .i64 a), (1, .int .i64 b)]).run Tryz.prog w = .ok (.agg (Win.arr ⟨a, b⟩)) w := run_build w _ _ _ (by kernel_rfl)
def bleg4 (parts : Array (Nat × Value)) : Sem Value := Instr.build 77 parts
theorem bleg4_fold (parts : Array (Nat × Value)) : Instr.build 77 parts = bleg4 parts := rfl
theorem run_bleg4 (w : World) (t : Int) (s : ByteArray) (a b : Int) : (bleg4 #[(0, .int .u8 t), (1, .string s), (9, .agg (Win.arr ⟨a, b⟩))]).run Tryz.prog w = .ok (.agg (⟨t, s.data.toList, [], 0, false, 0, 0, 0, 0, a, b, 0, 0⟩ : Leg).arr) w := run_build w _ _ _ (by kernel_rfl)
def bent4 (parts : Array (Nat × Value)) : Sem Value := Instr.build 82 parts
theorem bent4_fold (parts : Array (Nat × Value)) : Instr.build 82 parts = bent4 parts := rfl
theorem run_bent4 (w : World) (l : Leg) (s : Int) : (bent4 #[(1, .agg l.arr), (4, .int .u8 s)]).run Tryz.prog w = .ok (.agg (⟨false, l, 0, 0, 0, 0, s, []⟩ : Entry).arr) w := run_build w _ _ _ (by kernel_rfl)
def bdb4 (parts : Array (Nat × Value)) : Sem Value := Instr.build 48 parts
theorem bdb4_fold (parts : Array (Nat × Value)) : Instr.build 48 parts = bdb4 parts := rfl
theorem run_bdb4 (w : World) : (bdb4 #[]).run Tryz.prog w = .ok (.agg cells0) w := run_build w _ _ _ (by kernel_rfl)
def bedt4 (parts : Array (Nat × Value)) : Sem Value := Instr.build 58 parts
theorem bedt4_fold (parts : Array (Nat × Value)) : Instr.build 58 parts = bedt4 parts := rfl
def e24a : EditV := ⟨5, 2, [], [], [], [], 0, 0, 250, 0, 0, 0⟩
def e24b : EditV := ⟨2, 2, [], [], [], [], 0, 0, 0, 0, 0, 0⟩
theorem run_bedt4a (w : World) : (bedt4 #[(0, .int .u8 5), (1, .int .i64 2), (7, .int .i64 250)]).run Tryz.prog w = .ok (.agg e24a.arr) w := run_build w _ _ _ (by kernel_rfl)
theorem run_bedt4b (w : World) : (bedt4 #[(0, .int .u8 2), (1, .int .i64 2)]).run Tryz.prog w = .ok (.agg e24b.arr) w := run_build w _ _ _ (by kernel_rfl)
abbrev rA4 : List UInt8 := [65, 47, 48, 48]
abbrev rB4 : List UInt8 := [66, 47, 48, 48]
abbrev rC4 : List UInt8 := [67, 47, 48, 48]
def pl24 : Plan := ⟨[], [], [toE 1 rA4, toE 2 rB4, toE 2 rC4], 0⟩
def pA24 : Plan := ⟨[], [], [toE 1 rA4, toE 2 rB4, ⟨false, ⟨2, rC4, [], 0, false, 0, 0, 0, 0, -200000, 6000000, 250, 0⟩, 0, 0, 0, 0, 2, []⟩], 0⟩
def pB24 : Plan := ⟨[], [], [toE 1 rA4, toE 2 rB4], 0⟩
theorem run_bplan24 (w : World) (g : Nat) : (bplanA #[(2, .slice (some ⟨g, 0, none⟩) 3 3)]).run Tryz.prog w = .ok (.agg (pl24.arr (some ⟨g, 0, none⟩) 3)) w := run_build w _ _ _ (by kernel_rfl)
def h24 : Hist := histNew pl24
def h24a : Hist := ⟨pl24, some pA24, [none], []⟩
def h24b : Hist := ⟨pl24, some pB24, [none, some pA24], []⟩
def h24c : Hist := ⟨pl24, some pA24, [none], [some pB24]⟩
def h24d : Hist := ⟨{ pl24 with active := 1 }, some { pA24 with active := 1 }, [none], [some { pB24 with active := 1 }]⟩
theorem aw24_0 : planCheck pl24 = 0 := by kernel_rfl
theorem aw24_a : applyS look0 pl24 e24a = (pA24, 0) := by kernel_rfl
theorem aw24_b : applyS look0 pA24 e24b = (pB24, 0) := by kernel_rfl
theorem hw24_a : h24.doE look0 e24a = (h24a, 0) := by
  unfold Hist.doE
  rw [show h24.base = pl24 from rfl, aw24_a]
  rfl
theorem hw24_b : h24a.doE look0 e24b = (h24b, 0) := by
  unfold Hist.doE
  rw [show h24a.base = pA24 from rfl, aw24_b]
  rfl
theorem hw24_c : h24b.undoH = (h24c, 0) := rfl
theorem hw24_d : h24c.advance 1 = (h24d, 0) := by kernel_rfl
theorem pl24_small : pl24.small := (planCheck_tight aw24_0).2.2
attribute [local go_sem ↓] bs3_fold bwin4_fold bleg4_fold bent4_fold bdb4_fold bedt4_fold bplanA_fold
attribute [local go_sem] run_bs3 run_bwin4 run_bleg4 run_bent4 run_bdb4 run_bedt4a run_bedt4b run_bplan24 run_storeD_plan splice_planA Fits_planA
theorem run_field_act (p : Plan) (A : Option Addr) (c : Nat) (w : World) : (Instr.field 24 (.agg (p.arr A c)) 3).run Tryz.prog w = .ok (.int .i64 p.active) w := by
  have hu := Tryz.underlying24
  unfold Plan.arr
  simp [Instr.field, go_sem, hu, asAgg]
attribute [local go_sem] run_field_act
theorem at24_any (t : Int) (fix : List UInt8) (w : World) : Calls Tryz.prog 24 #[.int .u8 t, .string ⟨fix.toArray⟩] w (Ret w (.agg (toE t fix).arr)) := by
  have hlit : (#[.bool false, .int .u8 t, .string ⟨fix.toArray⟩, .string ⟨#[]⟩, .int .u8 0, .bool false, .int .i64 0, .int .i64 0, .int .i64 0, .int .i64 0, .int .i64 (-200000), .int .i64 6000000, .int .i64 0, .int .i64 0, .int .i64 0, .int .i64 0, .int .i64 0, .int .i64 0, .int .u8 2, .string ⟨#[]⟩] : Array Value) = (toE t fix).arr := rfl
  go_enter Tryz.func24, Tryz.ntmps24
  go_wp2
  refine bodyPost_ret (results_ent1 Tryz.results24 _ _ w.heap.size (toE t fix) rfl ?_) rfl ⟨rfl, (Below.refl _ _).alloc (Nat.le_refl _) _⟩
  exact (Blk.new w (toE t fix).arr _).is_ent
theorem do24 {w : World} (hO : Open24 w) (W : World) (g : Nat) (m : HM) (X : His w W g m) {h h' : Hist} (hm : m.abs = h) (ok : h.ok) (sz : h.sz) (e : EditV) (he : e.bnd 1000000000) (ho : e.op < 8) (hd : h.doE look0 e = (h', 0)) :
    Calls Tryz.prog 15 #[.pointer (some ⟨g, 0, none⟩), .agg cells0, .agg e.arr] W (RetH w W g m h' (.int .i64 0)) := by
  subst hm
  have := hdo_any look0 cells0 e W g m X rfl (HBnd.of X ok sz).us (fun A c W' b hc hE => by
    obtain ⟨t1, t2, t3⟩ := planCheck_tight ok.base
    exact eapply0_any m.abs.base A c e W' (hO.below b).laid (hO.below b).forms (hO.below b).gap t3 hc hE (by omega) (by omega) he ho) (fun h => applyS_len h)
  rw [hd] at this
  exact this
theorem hok24 : h24.ok := histNew_ok aw24_0
theorem hok24a : h24a.ok := by
  have := hok24.change (q := pA24) (by kernel_rfl)
  exact this
theorem hok24b : h24b.ok := by
  have := hok24a.change (q := pB24) (by kernel_rfl)
  exact this
theorem hok24c : h24c.ok := by
  have := hok24b.step (L := look0) ⟨3, e24a, 0, plan0⟩
  exact this
theorem hok24d : h24d.ok := by
  have := hok24c.step (L := look0) ⟨7, e24a, 1, plan0⟩
  rw [show (h24c.step look0 ⟨7, e24a, 1, plan0⟩).1 = h24d by kernel_rfl] at this
  exact this
theorem hsz24 : h24.sz := by unfold Hist.sz; decide
theorem hsz24a : h24a.sz := by unfold Hist.sz; decide
theorem hsz24b : h24b.sz := by unfold Hist.sz; decide
theorem hsz24c : h24c.sz := by unfold Hist.sz; decide
theorem hsz24d : h24d.sz := by unfold Hist.sz; decide
set_option maxHeartbeats 16000000 in
theorem awake24_any (w : World) (hO : Open24 w) : Calls Tryz.prog 8 #[] w (Ret w (.bool true)) := by
  have ka := Lib.hid (fun W => show Calls Tryz.prog 24 #[.int .u8 1, .string ⟨#[65, 47, 48, 48]⟩] W (Ret W (.agg (toE 1 rA4).arr)) from at24_any 1 rA4 W)
  have kb := Lib.hid (fun W => show Calls Tryz.prog 24 #[.int .u8 2, .string ⟨#[66, 47, 48, 48]⟩] W (Ret W (.agg (toE 2 rB4).arr)) from at24_any 2 rB4 W)
  have kc := Lib.hid (fun W => show Calls Tryz.prog 24 #[.int .u8 2, .string ⟨#[67, 47, 48, 48]⟩] W (Ret W (.agg (toE 2 rC4).arr)) from at24_any 2 rC4 W)
  have kn := Lib.hid (fun W (b : Below w.heap.size w W) q (Y : Blk W q (cellsOf pl24.es).toArray) => hnew_any pl24 (some ⟨q, 0, none⟩) 3 W (hO.below b).laid pl24_small (Nat.le_refl _) Y.ents)
  go_enter Tryz.func8, Tryz.ntmps8
  go_upto_region 3 with (first
    | (go_at_call 24; first
      | ((with_reducible refine callR (ka.out _) ?_); intro w1 b1 _ _ _)
      | ((with_reducible refine callR (kb.out _) ?_); intro w2 b2 _ _ _)
      | ((with_reducible refine callR (kc.out _) ?_); intro w3 b3 _ _ _; have B3 := below_step (below_step b1 b2) b3; have B4 := below_step B3 (alloc_below5 w3 (.cells (cellsOf [toE 1 rA4, toE 2 rB4, toE 2 rC4]).toArray 82))))
    | (go_at_call 9; (with_reducible refine callNew (kn.out _ B4 _ (Blk.new _ _ _)) aw24_0 ?_); intro g A0 c0 W0 X0 _))
  have HX := Lib.hid (X0.lift B4)
  have k1 := Lib.hid (do24 hO W0 g _ HX.out (show (newHM pl24 A0 c0).abs = h24 from rfl) hok24 hsz24 e24a ⟨by decide, by decide, by decide, by decide⟩ (by decide) hw24_a)
  have k2 := Lib.hid (fun (W : World) (m : HM) (X : His w W g m) (e : m.abs = h24a) => do24 hO W g m X e hok24a hsz24a e24b ⟨by decide, by decide, by decide, by decide⟩ (by decide) hw24_b)
  clear b1 b2 b3 B3 B4 ka kb kc kn X0
  generalize newHM pl24 A0 c0 = m0 at *
  go_upto_region 7 with (first
    | (go_at_call 15; (with_reducible refine callH k1.out ?_); intro m1 W1 X1 e1 R1 O1)
    | (go_at_call 15; (with_reducible refine callH (k2.out _ _ X1 e1) ?_); intro m2 W2 X2 e2 R2 O2))
  have kT := Lib.hid (tempH X2 e2 hok24b hsz24b (show h24b.temp = some pB24 from rfl))
  have HX2 := Lib.hid X2
  have HE2 := Lib.hid e2
  clear X2 e2 R2 O2 X1 e1 R1 O1 HX k1 k2
  go_upto_region 8 with (go_at_call 16; (with_reducible refine callTmp1 kT.out ?_); intro A3 c3 w3 h3 E3 hA3 b3)
  have Q4 := Blk.new w3 (pB24.arr A3 c3) 24
  have D4 := below_step b3 (alloc_below5 w3 (.cells (pB24.arr A3 c3) 24))
  have X4 := HX2.out.step D4
  have hgq := b3.size
  have F4 : HFar (w3.alloc (.cells (pB24.arr A3 c3) 24)) g m2.u m2.r w3.heap.size := ⟨Q4.lt, by have := HX2.out.lt; omega, fun e => by have := HX2.out.ult _ e; omega, fun e => by have := HX2.out.rlt _ e; omega⟩
  have O4 := HX2.out.off hgq
  have hgw : w.heap.size ≤ w3.heap.size := by have := HX2.out.ge; have := HX2.out.lt; omega
  clear b3 D4 h3 E3 hA3 kT hgq
  generalize hW4 : w3.alloc (.cells (pB24.arr A3 c3) 24) = W4 at Q4 X4 F4
  have hW4' : World.alloc w3 _ = W4 := hW4
  try rw [hW4']
  clear hW4 hW4'
  generalize w3.heap.size = gq at Q4 F4 O4 hgw ⊢
  have kD := Lib.hid (depthH X4 HE2.out (i := 2) (j := 0) rfl rfl)
  have q2 : W4.cell? ⟨gq, 2, none⟩ = some (.slice A3 2 c3) := Q4.cell 2
  have HX4 := Lib.hid X4
  clear HX2 X4
  go_upto_region 9 with (go_at_call 22; (with_reducible refine callR kD.out ?_); intro w5 b5 _ _ _)
  have X5 := HX4.out.step b5
  have Q5 := Q4.step b5
  have F5 := F4.step (.of b5)
  have q2 : w5.cell? ⟨gq, 2, none⟩ = some (.slice A3 2 c3) := Q5.cell 2
  have kU := Lib.hid (undoH_ X5 HE2.out hok24b hsz24b hw24_c)
  have HQ5 := Lib.hid Q5
  have HF5 := Lib.hid F5
  clear HX4 X5 Q4 Q5 F4 F5 kD b5
  go_upto_region 11 with (go_at_call 18; (with_reducible refine callH kU.out ?_); intro m6 W6 X6 e6 R6 O6)
  have Q6 := R6.blk HF5.out HQ5.out
  have F6 := HF5.out.step R6
  have O7 := O6 gq HF5.out.lt O4
  have kT := Lib.hid (tempH X6 e6 hok24c hsz24c (show h24c.temp = some pA24 from rfl))
  have HX6 := Lib.hid X6
  have HE6 := Lib.hid e6
  clear X6 e6 R6 O6 O4 HQ5 HF5 q2 kU HE2
  go_upto_region 12 with (go_at_call 16; (with_reducible refine callTmp1 kT.out ?_); intro A7 c7 w7 h7 E7 hA7 b7; have d2 := (Q6.step b7).plain; have d3 := (Q6.step b7).of)
  have F7 := F6.step (.of b7)
  have X8 := (HX6.out.step b7).other (Only.setRow gq w7 (pA24.arr A7 c7)) (fun h => F7.ne h.symm) F7.ou F7.or_ O7 hgw
  have Q8 := (Q6.step b7).set (pA24.arr A7 c7)
  have F8 : HFar (w7.setRow gq (pA24.arr A7 c7)) g m6.u m6.r gq := ⟨Q8.lt, F7.ne, F7.ou, F7.or_⟩
  clear F7 F6 Q6 d2 d3 h7 E7 hA7 b7 kT HX6
  generalize w7.setRow _ _ = W8 at X8 Q8 F8 ⊢
  have kD := Lib.hid (depthH X8 HE6.out (i := 1) (j := 1) rfl rfl)
  have q2 : W8.cell? ⟨gq, 2, none⟩ = some (.slice A7 3 c7) := Q8.cell 2
  have HX8 := Lib.hid X8
  clear X8
  go_upto_region 13 with (go_at_call 22; (with_reducible refine callR kD.out ?_); intro w9 b9 _ _ _)
  have X9 := HX8.out.step b9
  have Q9 := Q8.step b9
  have F9 := F8.step (.of b9)
  have q2 : w9.cell? ⟨gq, 2, none⟩ = some (.slice A7 3 c7) := Q9.cell 2
  have kU := Lib.hid (advanceH X9 HE6.out hok24c hsz24c 1 hw24_d)
  have HQ9 := Lib.hid Q9
  have HF9 := Lib.hid F9
  clear HX8 X9 Q8 Q9 F8 F9 kD b9
  go_upto_region 15 with (go_at_call 25; (with_reducible refine callH kU.out ?_); intro m10 W10 X10 e10 R10 O10)
  have Q10 := R10.blk HF9.out HQ9.out
  have F10 := HF9.out.step R10
  have O11 := O10 gq HF9.out.lt O7
  have kT := Lib.hid (tempH X10 e10 hok24d hsz24d (show h24d.temp = some { pA24 with active := 1 } from rfl))
  have HX10 := Lib.hid X10
  have HE10 := Lib.hid e10
  clear X10 e10 R10 O10 O7 HQ9 HF9 q2 kU HE6
  go_upto_region 16 with (go_at_call 16; (with_reducible refine callTmp1 kT.out ?_); intro A11 c11 w11 h11 E11 hA11 b11; have d2 := (Q10.step b11).plain; have d3 := (Q10.step b11).of)
  have F11 := F10.step (.of b11)
  have X12 := (HX10.out.step b11).other (Only.setRow gq w11 (({ pA24 with active := 1 } : Plan).arr A11 c11)) (fun h => F11.ne h.symm) F11.ou F11.or_ O11 hgw
  have Q12 := (Q10.step b11).set (({ pA24 with active := 1 } : Plan).arr A11 c11)
  clear F11 F10 Q10 d2 d3 h11 E11 hA11 b11 kT HX10
  generalize w11.setRow _ _ = W12 at X12 Q12 ⊢
  have kA := Lib.hid (activeH X12 HE10.out hok24d hsz24d (show h24d.act = { pl24 with active := 1 } from rfl))
  have q3 : W12.cell? ⟨gq, 3, none⟩ = some (.int .i64 1) := Q12.cell 3
  have HB := Lib.hid X12.bel
  clear X12 Q12
  go_wp2_with (go_at_call 19; (with_reducible refine callOwn kA.out ?_); intro A13 c13 w13 _ _ _ b13)
  go_ret
  exact Ret.bool rfl (HB.out.trans (b13.mono HB.out.size))
end Go.Proofs.YtlggdgpdfepppaaGreatDoor
namespace Go.Proofs.YtlggdgpdfepppaaGreatDoor
open Go.RowKit Go.Sort
set_option linter.unusedVariables false
set_option linter.unusedSimpArgs false
set_option maxRecDepth 100000
attribute [local go_sem] rhArr_sz rhArr_ones
end Go.Proofs.YtlggdgpdfepppaaGreatDoor
namespace Go.Proofs.YtlggdgpdfepppaaGreatDoor
open Go.RowKit Go.Sort
set_option linter.unusedVariables false
set_option linter.unusedSimpArgs false
set_option maxRecDepth 100000
theorem sameB_selfH (p : Plan) : sameB p p = true := by simp [sameB, (eqGo_iff p.es p.es).2 rfl]
theorem of_plan_drewH (W : World) (b o : Nat) : of_plan W.drew b o = of_plan W b o := rfl
attribute [local go_sem] rhArr_sz rhArr_ones of_plan_drewH
end Go.Proofs.YtlggdgpdfepppaaGreatDoor
namespace Go.Proofs.YtlggdgpdfepppaaGreatDoor
open Go.RowKit Go.Sort
set_option linter.unusedVariables false
set_option linter.unusedSimpArgs false
set_option maxRecDepth 100000
attribute [local go_sem ↓] bplanA_fold
attribute [local go_sem] run_bplanA0 rhArr_sz rhArr_ones of_plan_drewH of_rh_drew
theorem htext_nil (W : World) : Calls Tryz.prog 23 #[.pointer none] W (RetP W (.string ⟨#[]⟩)) := by
  go_enter Tryz.func23, Tryz.ntmps23
  go_wp2
  go_ret
  exact ⟨rfl, rfl⟩
set_option maxHeartbeats 4000000 in
theorem do24_nil (cs : Array Value) (a : ActV) (A : Option Addr) (c : Nat) (W : World) (hcs : cs.size = 9) (hk0 : 0 ≤ a.kind) :
    Calls Tryz.prog 21 #[.pointer none, .agg cs, .agg (actArr a A c)] W (Ret W (.int .i64 1)) := by
  obtain ⟨k, hk⟩ : ∃ k : Nat, a.kind = (k : Int) := ⟨a.kind.toNat, by omega⟩
  have c0 : (actArr a A c)[0]? = some (.int .u8 (k : Int)) := by rw [← hk]; rfl
  have c13 : (actArr a A c)[13]? = some (.int .i64 a.to_) := rfl
  go_enter Tryz.func21, Tryz.ntmps21
  go_upto_region 1 with (fail)
  have D0 : Blk ((W.alloc (.cells cs 48)).alloc (.cells (actArr a A c) 68)) W.heap.size cs := (Blk.new W _ _).alloc _
  have E0 : Blk ((W.alloc (.cells cs 48)).alloc (.cells (actArr a A c) 68)) (W.heap.size + 1) (actArr a A c) := by rw [← World.size_alloc W (.cells cs 48)]; exact Blk.new _ _ _
  have B0 : Below W.heap.size W ((W.alloc (.cells cs 48)).alloc (.cells (actArr a A c) 68)) := by go_grown
  generalize hW0 : World.alloc (World.alloc W _) _ = W0
  have hW0' : (W.alloc (.cells cs 48)).alloc (.cells (actArr a A c) 68) = W0 := hW0
  rw [hW0'] at D0 E0 B0
  clear hW0 hW0'
  generalize W.heap.size + 1 = ga at E0 ⊢
  obtain ⟨gd, hgd⟩ : ∃ g, g = W.heap.size := ⟨_, rfl⟩
  rw [← hgd] at D0 ⊢
  clear hgd
  have k0 : W0.cell? ⟨ga, 0, none⟩ = some (.int .u8 (k : Int)) := (E0.cell 0).trans c0
  go_upto_region 2 with (fail)
  obtain ⟨r, hr⟩ : ∃ r : Int, r = (k : Int) % 9 := ⟨_, rfl⟩
  rw [← hr]
  have k13 : W0.cell? ⟨ga, 13, none⟩ = some (.int .i64 a.to_) := (E0.cell 13).trans c13
  have i1 : Has_plan W0 ga 14 := ⟨_, E0.act_plan⟩
  have i2 : of_plan W0 ga 14 = a.plan.arr A c := of_plan_eq E0.act_plan
  have k1 : Has_db W0 gd 0 := ⟨_, D0.is_db hcs⟩
  have k2 : of_db W0 gd 0 = cs := of_db_eq (D0.is_db hcs)
  have j1 : Has_edt W0 ga 1 := ⟨_, E0.act_edt⟩
  have j2 : of_edt W0 ga 1 = a.e := of_edt_eq E0.act_edt
  have HB := Lib.hid B0
  clear hr hk hk0 k0 c0 c13 B0 D0 E0
  by_cases h3 : r = 3
  · subst h3
    go_wp2_with (go_at_call 18; (with_reducible refine callP (hundo_nil W0) ?_))
    go_ret
    exact Ret.int rfl HB.out
  have hn3 : (r == 3) = false := by simpa using h3
  by_cases h4 : r = 4
  · subst h4
    go_wp2_with (go_at_call 20; (with_reducible refine callP (hredo_nil W0) ?_))
    go_ret
    exact Ret.int rfl HB.out
  have hn4 : (r == 4) = false := by simpa using h4
  by_cases h5 : r = 5
  · subst h5
    go_wp2_with (go_at_call 37; (with_reducible refine callP (hexec_nil W0) ?_))
    go_ret
    exact Ret.int rfl HB.out
  have hn5 : (r == 5) = false := by simpa using h5
  by_cases h6 : r = 6
  · subst h6
    go_wp2_with (go_at_call 38; (with_reducible refine callP (herase_nil W0) ?_))
    go_ret
    exact Ret.int rfl HB.out
  have hn6 : (r == 6) = false := by simpa using h6
  by_cases h7 : r = 7
  · subst h7
    go_wp2_with (go_at_call 25; (with_reducible refine callR (hadvance_nil a.to_ W0) ?_); intro w1 b1 _ _ _)
    go_ret
    exact Ret.int rfl (below_step HB.out b1)
  have hn7 : (r == 7) = false := by simpa using h7
  by_cases h8 : r = 8
  · subst h8
    go_wp2_with (go_at_call 39; (with_reducible refine callR (hreplace_nil a.plan A c W0) ?_); intro w1 b1 _ _ _)
    go_ret
    exact Ret.int rfl (below_step HB.out b1)
  have hn8 : (r == 8) = false := by simpa using h8
  clear h3 h4 h5 h6 h7 h8
  go_wp2_with (go_at_call 15; (with_reducible refine callR (hdo_nil cs a.e W0) ?_); intro w1 b1 _ _ _)
  go_ret
  exact Ret.int rfl (below_step HB.out b1)
theorem samep0 (A B : Option Addr) (c d : Nat) (W : World) : Calls Tryz.prog 17 #[.agg (plan0.arr A c), .agg (plan0.arr B d)] W (Ret W (.bool true)) :=
  sameB_selfH plan0 ▸ same_any plan0 plan0 A B c d W (Nat.zero_le _) (Nat.zero_le _) (Nat.zero_le _) (Nat.zero_le _) (Ents.nil _ _) (Ents.nil _ _)
set_option maxHeartbeats 8000000 in
theorem lawHisNil_any (cs : Array Value) (hsz : cs.size = 9) (a : ActV) (A : Option Addr) (c : Nat) (hk0 : 0 ≤ a.kind) (w : World) (hO : Open24 w) :
    Calls Tryz.prog 7 #[.agg cs, .agg (actArr a A c)] w (Ret w (.bool true)) := by
  go_enter Tryz.func7, Tryz.ntmps7
  go_upto_region 1 with (fail)
  have D0 : Blk ((w.alloc (.cells cs 48)).alloc (.cells (actArr a A c) 68)) w.heap.size cs := (Blk.new w _ _).alloc _
  have E0 : Blk ((w.alloc (.cells cs 48)).alloc (.cells (actArr a A c) 68)) (w.heap.size + 1) (actArr a A c) := by rw [← World.size_alloc w (.cells cs 48)]; exact Blk.new _ _ _
  have B0 : Below w.heap.size w ((w.alloc (.cells cs 48)).alloc (.cells (actArr a A c) 68)) := by go_grown
  generalize hW0 : World.alloc (World.alloc w _) _ = W0
  have hW0' : (w.alloc (.cells cs 48)).alloc (.cells (actArr a A c) 68) = W0 := hW0
  rw [hW0'] at D0 E0 B0
  clear hW0 hW0'
  generalize w.heap.size + 1 = ga at E0 ⊢
  obtain ⟨gd, hgd⟩ : ∃ g, g = w.heap.size := ⟨_, rfl⟩
  rw [← hgd] at D0 ⊢
  clear hgd
  go_upto_region 5 with (first
    | (go_at_call 8; (with_reducible refine callR (awake24_any W0 (hO.below B0)) ?_); intro w1 b1 _ _ _)
    | (go_at_call 16; (with_reducible refine callTmp0 (htemp_nil w1) ?_); intro A2 c2 w2 _ _ _ b2))
  have P3 := Blk.new w2 (plan0.arr A2 c2) 24
  have B3 := below_step b1 (below_step b2 (alloc_below5 w2 (.cells (plan0.arr A2 c2) 24)))
  have D3 := D0.step B3
  have E3 := E0.step B3
  have B3 := below_step B0 B3
  clear D0 E0 b1 b2
  generalize hW3 : w2.alloc (.cells (plan0.arr A2 c2) 24) = W3 at P3 B3 D3 E3
  have hW3' : World.alloc w2 _ = W3 := hW3
  try rw [hW3']
  clear hW3 hW3'
  generalize w2.heap.size = gp at P3 ⊢
  go_upto_region 6 with (go_at_call 22; (with_reducible refine callR (hdepth_nil W3) ?_); intro w4 b4 _ _ _)
  have i1 : Has_plan w4 gp 0 := ⟨_, (P3.step b4).is_plan rfl⟩
  have i2 : of_plan w4 gp 0 = plan0.arr A2 c2 := of_plan_eq ((P3.step b4).is_plan rfl)
  have D4 := Lib.hid (D3.step b4)
  have E4 := Lib.hid (E3.step b4)
  have B4 := Lib.hid (below_step B3 b4)
  clear D3 E3 B3 b4 P3 B0
  go_upto_region 8 with (first
    | (go_at_call 23; (with_reducible refine callP (htext_nil w4) ?_))
    | (go_at_call 19; (with_reducible refine callOwn (hactive_nil w5) ?_); intro A6 c6 w6 _ _ _ b6)
    | (go_at_call 17; (with_reducible refine callR (samep0 _ _ _ _ w4) ?_); intro w5 b5 _ _ _)
    | (go_at_call 17; (with_reducible refine callR (samep0 _ _ _ _ w6) ?_); intro w7 b7 _ _ _))
  have b8 := below_step (below_step b5 b6) b7
  have k1 : Has_db w7 gd 0 := ⟨_, (D4.out.step b8).is_db hsz⟩
  have k2 : of_db w7 gd 0 = cs := of_db_eq ((D4.out.step b8).is_db hsz)
  have j1 : Has_act w7 ga 0 := ⟨_, (E4.out.step b8).is_act rfl⟩
  have j2 : of_act w7 ga 0 = actArr a A c := of_act_eq ((E4.out.step b8).is_act rfl)
  have kd := Lib.hid (do24_nil cs a A c w7 hsz hk0)
  have HB8 := Lib.hid (below_step B4.out b8)
  clear b5 b6 b7 b8 D4 E4 i1 i2
  go_wp2_with (go_at_call 21; (with_reducible refine callR kd.out ?_); intro w9 b9 _ _ _)
  go_ret
  exact Ret.bool rfl (below_step HB8.out b9)
end Go.Proofs.YtlggdgpdfepppaaGreatDoor
namespace Go.Proofs.YtlggdgpdfepppaaGreatDoor
open Go.RowKit Go.Sort
set_option linter.unusedVariables false
set_option linter.unusedSimpArgs false
set_option maxRecDepth 100000
theorem Blk.rh_p {W : World} {g : Nat} {p : Plan} {A : Option Addr} {c : Nat} (h : Blk W g (rhArr p A c)) : Is_plan W g 0 (p.arr A c) := ⟨rfl, fun j hj => by
  rw [h.cell]
  match j, hj with
  | 0, _ | 1, _ | 2, _ | 3, _ => rfl⟩
theorem Blk.rh_t {W : World} {g : Nat} {p : Plan} {A : Option Addr} {c : Nat} (h : Blk W g (rhArr p A c)) : Is_plan W g 5 (plan0.arr none 0) := ⟨rfl, fun j hj => by
  rw [h.cell]
  match j, hj with
  | 0, _ | 1, _ | 2, _ | 3, _ => rfl⟩
attribute [local go_sem ↓] bplanA_fold
attribute [local go_sem] run_bplanA0 rhArr_sz rhArr_ones of_plan_drewH of_rh_drew
set_option maxHeartbeats 16000000 in
theorem shows24_new {w : World} (W : World) (g : Nat) (m : HM) (X : His w W g m) (p : Plan) (hm : m.abs = histNew p) (hv : planCheck p = 0) (A : Option Addr) (c : Nat) (hc : p.es.length ≤ c) (hE : Ents W A p.es) :
    Calls Tryz.prog 12 #[.pointer (some ⟨g, 0, none⟩), .agg (rhArr p A c)] W (Ret W (.bool true)) := by
  have ok := histNew_ok hv
  have sz := Hist.sz_new p
  have hs := (planCheck_tight hv).2.2
  go_enter Tryz.func12, Tryz.ntmps12
  go_upto_region 1 with (fail)
  have R0 := Blk.new W (rhArr p A c) 34
  have X0 := X.alloc (.cells (rhArr p A c) 34)
  have B0 := alloc_below5 W (.cells (rhArr p A c) 34)
  have E0 := hE.below (B := 0) B0
  generalize hW0 : W.alloc (.cells (rhArr p A c) 34) = W0 at R0 X0 B0 E0
  have hW0' : World.alloc W _ = W0 := hW0
  try rw [hW0']
  clear hW0 hW0'
  obtain ⟨gb, hgb⟩ : ∃ g, g = W.heap.size := ⟨_, rfl⟩
  rw [← hgb] at R0 ⊢
  clear hgb
  have kT := Lib.hid (tempH X0 hm ok sz (show (histNew p).temp = none from rfl))
  clear X hE
  go_upto_region 2 with (go_at_call 16; (with_reducible refine callTmp0 kT.out ?_); intro A2 c2 w2 _ _ _ b2)
  have P3 := Blk.new w2 (plan0.arr A2 c2) 24
  have D3 := below_step b2 (alloc_below5 w2 (.cells (plan0.arr A2 c2) 24))
  have X3 := X0.step D3
  have R3 := R0.step D3
  have E3 := E0.below (B := 0) D3
  clear X0 R0 E0 kT
  generalize hW3 : w2.alloc (.cells (plan0.arr A2 c2) 24) = W3 at P3 D3 X3 R3 E3
  have hW3' : World.alloc w2 _ = W3 := hW3
  try rw [hW3']
  clear hW3 hW3' b2
  generalize w2.heap.size = gp at P3 ⊢
  have kD := Lib.hid (depthH X3 hm (i := 0) (j := 0) rfl rfl)
  go_upto_region 3 with (go_at_call 22; (with_reducible refine callR kD.out ?_); intro w4 b4 _ _ _)
  have X4 := X3.step b4
  have R4 := R3.step b4
  have P4 := P3.step b4
  have E4 := E3.below (B := 0) b4
  have kA := Lib.hid (activeH X4.drw hm ok sz (show (histNew p).act = p from rfl))
  clear X3 R3 P3 E3 kD
  have HB4 := Lib.hid (below_step (below_step B0 D3) b4)
  have KP := Lib.hid (fun (W' : World) (b : Below w4.heap.size w4 W') =>
    (⟨⟨_, (R4.step b).rh_p⟩, of_plan_eq (R4.step b).rh_p, ⟨_, (R4.step b).rh_t⟩, of_plan_eq (R4.step b).rh_t, ⟨_, (P4.step b).is_plan rfl⟩, of_plan_eq ((P4.step b).is_plan rfl), (R4.step b).cell 4, (R4.step b).cell 9, (R4.step b).cell 10⟩ :
      Has_plan W' gb 0 ∧ of_plan W' gb 0 = p.arr A c ∧ Has_plan W' gb 5 ∧ of_plan W' gb 5 = plan0.arr none 0 ∧ Has_plan W' gp 0 ∧ of_plan W' gp 0 = plan0.arr A2 c2 ∧ W'.cell? ⟨gb, 4, none⟩ = some (.bool false) ∧ W'.cell? ⟨gb, 9, none⟩ = some (.slice none 0 0) ∧ W'.cell? ⟨gb, 10, none⟩ = some (.slice none 0 0)))
  have KS := Lib.hid (fun (A9 : Option Addr) (c9 : Nat) (W : World) (b : Below w4.heap.size w4 W) (h9 : p.es.length ≤ c9) (hE9 : Ents W A9 p.es) =>
    show Calls Tryz.prog 17 #[.agg (p.arr A9 c9), .agg (p.arr A c)] W (Ret W (.bool true)) from sameB_selfH p ▸ same_any p p A9 A c9 c W hs.len hs.len h9 hc hE9 (E4.below (B := 0) b))
  have b0 : Below w4.heap.size w4 w4.drew := (Below.refl _ _).drew
  clear X4 R4 P4 E4 B0 D3 b4 hs ok sz hv hc
  go_region_held3 (fun W' => Has_plan W' gb 0 ∧ of_plan W' gb 0 = p.arr A c ∧ Has_plan W' gb 5 ∧ of_plan W' gb 5 = plan0.arr none 0 ∧ Has_plan W' gp 0 ∧ of_plan W' gp 0 = plan0.arr A2 c2 ∧ W'.cell? ⟨gb, 4, none⟩ = some (.bool false) ∧ W'.cell? ⟨gb, 9, none⟩ = some (.slice none 0 0) ∧ W'.cell? ⟨gb, 10, none⟩ = some (.slice none 0 0))
    (first | exact KP.out _ b0 | exact KP.out _ (below_step b0 b5) | exact KP.out _ (below_step (below_step b0 b5) b6) | exact KP.out _ (below_step (below_step (below_step b0 b5) b6) b7))
    (first
    | (go_at_call 19; (with_reducible refine callOwn kA.out ?_); intro A5 c5 w5 hc5 hE5 _ b5)
    | (go_at_call 17; (with_reducible refine callR (KS.out A5 c5 w5 (below_step b0 b5) hc5 hE5) ?_); intro w6 b6 _ _ _)
    | (go_at_call 17; (with_reducible refine callR (samep0 _ _ _ _ w6) ?_); intro w7 b7 _ _ _))
  all_goals
    go_wp2
    go_ret
    exact Ret.bool rfl (below_step HB4.out (below_step (below_step (below_step b0 b5) b6) b7))
theorem callNew0 {P : Program} {f : FuncId} {args : Array Value} {W : World} {p : Plan} {K : Ending → World → Prop} (h : Calls P f args W (RetNew W p)) {z : Int} (hq : planCheck p = z) (hz : z ≠ 0)
    (k : ∀ w', Below W.heap.size W w' → K (.returned (.tuple #[.pointer none, .int .i64 z])) w') : Calls P f args W K :=
  h.mono fun e w' ⟨v, he, hb, h1, _⟩ => by
    obtain rfl := h1 (by rw [hq]; exact hz)
    rw [hq] at he
    subst he
    exact k w' hb
set_option maxHeartbeats 16000000 in
theorem lawHisNews_any (p : Plan) (A : Option Addr) (c : Nat) (w : World) (hO : Open24 w) (hp : p.small) (hc : p.es.length ≤ c) (hE : Ents w A p.es) :
    Calls Tryz.prog 3 #[.agg (p.arr A c)] w (Ret w (.bool true)) := by
  have HN := Lib.hid (fun W' (b : Below w.heap.size w W') => hnew_any p A c W' (hO.below b).laid hp hc (hE.below (B := 0) b))
  have HR := Lib.hid (fun W' (b : Below w.heap.size w W') => rnew24_any p A c W' hp hc (hE.below (B := 0) b))
  have HC := Lib.hid (fun W' (b : Below w.heap.size w W') => planCheck_any p A c W' (hO.below b).laid hp hc (hE.below (B := 0) b))
  have HE := Lib.hid hE
  have HCC := Lib.hid hc
  clear hE hc
  go_enter Tryz.func3, Tryz.ntmps3
  go_upto_region 1 with (fail)
  have P0 := Blk.new w (p.arr A c) 24
  have B0 := alloc_below5 w (.cells (p.arr A c) 24)
  generalize hW0 : w.alloc (.cells (p.arr A c) 24) = W0 at P0 B0
  have hW0' : World.alloc w _ = W0 := hW0
  try rw [hW0']
  clear hW0 hW0'
  obtain ⟨gp, hgp⟩ : ∃ g, g = w.heap.size := ⟨_, rfl⟩
  rw [← hgp] at P0 ⊢
  clear hgp
  go_upto_region 3 with (go_at_call 8; (with_reducible refine callR (awake24_any W0 (hO.below B0)) ?_); intro w1 b1 _ _ _)
  have P1 := P0.step b1
  have B1 := below_step B0 b1
  clear P0 B0 b1
  have i1 : Has_plan w1 gp 0 := ⟨_, P1.is_plan rfl⟩
  have i2 : of_plan w1 gp 0 = p.arr A c := of_plan_eq (P1.is_plan rfl)
  have kn := Lib.hid (HN.out w1 B1)
  by_cases hz : planCheck p = 0
  · have HZ := Lib.hid hz
    clear hz
    go_upto_region 4 with (go_at_call 9; (with_reducible refine callNew kn.out HZ.out ?_); intro g A3 c3 w3 X3 _)
    have P3 := P1.step X3.bel
    have B3 := below_step B1 X3.bel
    have j1 : Has_plan w3 gp 0 := ⟨_, P3.is_plan rfl⟩
    have j2 : of_plan w3 gp 0 = p.arr A c := of_plan_eq (P3.is_plan rfl)
    have kr := Lib.hid (show Calls Tryz.prog 10 #[.agg (p.arr A c)] w3 (Ret w3 (.tuple #[.agg (rhArr p A c), .int .i64 0])) by
      have := HR.out w3 B3
      rw [HZ.out, if_neg (by decide)] at this
      exact this)
    go_upto_region 5 with (go_at_call 10; (with_reducible refine callR kr.out ?_); intro w4 b4 _ _ _)
    have Y5 := Blk.new w4 (rhArr p A c) 34
    have D5 := below_step b4 (alloc_below5 w4 (.cells (rhArr p A c) 34))
    have P5 := P3.step D5
    have X5 := X3.step D5
    have B5 := below_step B3 D5
    clear i1 i2 j1 j2 kn kr P1 P3 X3 B1 B3 D5
    generalize hW5 : w4.alloc (.cells (rhArr p A c) 34) = W5 at Y5 P5 X5 B5
    have hW5' : World.alloc w4 _ = W5 := hW5
    try rw [hW5']
    clear hW5 hW5' b4
    generalize w4.heap.size = g5 at Y5 ⊢
    have i1 : Has_plan W5 gp 0 := ⟨_, P5.is_plan rfl⟩
    have i2 : of_plan W5 gp 0 = p.arr A c := of_plan_eq (P5.is_plan rfl)
    have kc := Lib.hid (show Calls Tryz.prog 11 #[.agg (p.arr A c)] W5 (Ret W5 (.int .i64 0)) from HZ.out ▸ HC.out W5 B5)
    have HX5 := Lib.hid X5
    have HB5 := Lib.hid B5
    have HY5 := Lib.hid Y5
    clear X5 B5 Y5 P5
    go_upto_region 7 with (go_at_call 11; (with_reducible refine callR kc.out ?_); intro w6 b6 _ _ _)
    have B6 := below_step HB5.out b6
    have ks := Lib.hid (shows24_new w6 g _ (HX5.out.step b6) p (newHM_abs p A3 c3) HZ.out A c HCC.out (HE.out.below (B := 0) B6))
    have i3 : Has_rh w6 g5 0 := ⟨_, (HY5.out.step b6).is_rh rfl⟩
    have i4 : of_rh w6 g5 0 = rhArr p A c := of_rh_eq ((HY5.out.step b6).is_rh rfl)
    have HB6 := Lib.hid B6
    clear i1 i2 kc HX5 HY5 HB5 b6 B6
    go_wp2_with (go_at_call 12; (with_reducible refine callR ks.out ?_); intro w7 b7 _ _ _)
    go_ret
    exact Ret.bool rfl (below_step HB6.out b7)
  · have HZ := Lib.hid hz
    have KR := Lib.hid (fun W' (b : Below w.heap.size w W') => show Calls Tryz.prog 10 #[.agg (p.arr A c)] W' (Ret W' (.tuple #[.agg rh0, .int .i64 (planCheck p)])) by
      have := HR.out W' b
      rw [if_pos hz] at this
      exact this)
    have hz' : (planCheck p != 0) = true := by simpa using hz
    have HC2 := Lib.hid (fun W' (b : Below w.heap.size w W') => show Calls Tryz.prog 11 #[.agg (p.arr A c)] W' (Ret W' (.int .i64 (planCheck p))) from HC.out W' b)
    clear HC HR
    obtain ⟨z, hq⟩ : ∃ z, planCheck p = z := ⟨_, rfl⟩
    rw [hq] at KR HC2 HZ hz'
    have HQ := Lib.hid hq
    clear hz hq
    go_upto_region 4 with (go_at_call 9; (with_reducible refine callNew0 kn.out HQ.out HZ.out ?_); intro w3 b3)
    have P3 := P1.step b3
    have B3 := below_step B1 b3
    have j1 : Has_plan w3 gp 0 := ⟨_, P3.is_plan rfl⟩
    have j2 : of_plan w3 gp 0 = p.arr A c := of_plan_eq (P3.is_plan rfl)
    have kr := Lib.hid (KR.out w3 B3)
    clear i1 i2 kn b3
    go_upto_region 5 with (go_at_call 10; (with_reducible refine callR kr.out ?_); intro w4 b4 _ _ _)
    have D5 := below_step b4 (alloc_below5 w4 (.cells rh0 34))
    have P5 := P3.step D5
    have B5 := below_step B3 D5
    clear j1 j2 kr P1 P3 B1 B3 D5
    generalize hW5 : World.alloc w4 _ = W5
    have hW5' : w4.alloc (.cells rh0 34) = W5 := hW5
    rw [hW5'] at P5 B5
    clear hW5 hW5' b4
    have i1 : Has_plan W5 gp 0 := ⟨_, P5.is_plan rfl⟩
    have i2 : of_plan W5 gp 0 = p.arr A c := of_plan_eq (P5.is_plan rfl)
    have kc := Lib.hid (HC2.out W5 B5)
    have HB5 := Lib.hid B5
    clear B5 P5
    go_wp2_with (go_at_call 11; (with_reducible refine callR kc.out ?_); intro w6 b6 _ _ _)
    go_ret
    exact Ret.bool rfl (below_step HB5.out b6)
end Go.Proofs.YtlggdgpdfepppaaGreatDoor
namespace Go.Proofs.YtlggdgpdfepppaaGreatDoor
open Go.RowKit Go.ChangeShapes Go.WideShapes Go.Deep
set_option linter.unusedVariables false
set_option linter.unusedSimpArgs false
section
variable {H : Type} {enc : TypeId × Value → H} {w : World} {base : Nat} {spare : Nat → Bool} {held : Bool}
set_option maxRecDepth 100000 in
theorem open_planB {r : Reach} {b0 : Nat} {v : Value} {d : DataW H} {ps : List MemPlace} (hv : Value.okWide Tryz.prog w r b0 24 v) (h : DataW.Trod enc Tryz.prog w base spare held 24 v d ps) :
    ∃ (p : Plan) (A : Option Addr) (c : Nat), v = p.val A c ∧ p.es.length ≤ c ∧ Ents w A p.es ∧ p.es.length ≤ Rows.uptoBulk d ∧ (Rows.uptoBulk d ≤ 4000000000 → p.small) ∧ p.from_.length ≤ Rows.uptoBulk d ∧ p.to_.length ≤ Rows.uptoBulk d := by
  obtain ⟨cs, rfl, hsz⟩ := okWide_struct Tryz.underlying24 hv
  obtain ⟨fuel, hf⟩ := h
  obtain ⟨xs, n, _, hx, hlen, hxl, hf⟩ := DataW.trod_struct Tryz.underlying24 hf
  rw [cells_plan] at hsz
  have hl4 : cs.toList.length = 4 := by simpa using hsz
  obtain ⟨c0, c1, c2, c3, hcs⟩ := list4 hl4
  obtain ⟨y0, y1, y2, y3, rfl⟩ := list4 hxl
  have g0 := fld hf 0 9 0 1 rfl cells_str
  have g1 := fld hf 1 9 1 1 rfl cells_str
  have g2 := fld hf 2 22 2 1 rfl cells_es
  have g3 := fld hf 3 3 3 1 rfl cells_int
  have hvc : (Value.agg cs).cells.toList = [c0, c1, c2, c3] := hcs
  rw [hvc] at g0 g1 g2 g3
  simp only [List.drop_succ_cons, List.drop_zero, List.take_succ_cons, List.take_zero, List.getElem?_cons_succ, List.getElem?_cons_zero] at g0 g1 g2 g3
  obtain ⟨s0, e0, b0⟩ := open_str g0
  obtain ⟨s1, e1, b1⟩ := open_str g1
  obtain ⟨es, A, c, e2, hc, hE, b2, b3⟩ := open_ents g2
  obtain ⟨k, e3, _⟩ := DataW.trod_int Tryz.underlying3 g3
  simp only [List.cons.injEq, and_true] at e3
  simp only [Prod.mk.injEq] at hx
  have hy : Rows.uptoBulk d = Rows.uptoBulkAll [y0.1, y1.1, y2.1, y3.1] + 1 := by rw [hx.1]; simp [Rows.uptoBulk]
  have p0 : Rows.uptoBulk y0.1 ≤ Rows.uptoBulkAll [y0.1, y1.1, y2.1, y3.1] := bulk_part (by simp)
  have p1 : Rows.uptoBulk y1.1 ≤ Rows.uptoBulkAll [y0.1, y1.1, y2.1, y3.1] := bulk_part (by simp)
  have p2 : Rows.uptoBulk y2.1 ≤ Rows.uptoBulkAll [y0.1, y1.1, y2.1, y3.1] := bulk_part (by simp)
  refine ⟨⟨s0, s1, es, k⟩, A, c, ?_, hc, hE, ?_, fun hN => ⟨?_, ?_, ?_, fun x hx' => ?_⟩, ?_, ?_⟩
  · have : cs = #[c0, c1, c2, c3] := by apply Array.toList_inj.1; rw [hcs]
    rw [this, e0, e1, e2, e3]; rfl
  · show es.length ≤ _; omega
  · show s0.length ≤ _; omega
  · show s1.length ≤ _; omega
  · show es.length ≤ _; omega
  · obtain ⟨q1, q2, q3⟩ := b3 x hx'
    exact ⟨⟨by omega, by omega⟩, by omega⟩
  · show s0.length ≤ _; omega
  · show s1.length ≤ _; omega
end
end Go.Proofs.YtlggdgpdfepppaaGreatDoor
namespace Go.Proofs.YtlggdgpdfepppaaGreatDoor
open Go.RowKit Go.ChangeShapes Go.WideShapes Go.Deep
set_option linter.unusedVariables false
set_option linter.unusedSimpArgs false
section
variable {H : Type} {enc : TypeId × Value → H} {w : World} {base : Nat} {spare : Nat → Bool} {held : Bool}
set_option maxRecDepth 100000 in
theorem open_gdbT {r : Reach} {b0 : Nat} {v : Value} {d : DataW H} {ps : List MemPlace} (hv : Value.okWide Tryz.prog w r b0 48 v) (h : DataW.Trod enc Tryz.prog w base spare held 48 v d ps) (hN : Rows.uptoBulk d ≤ 4000000) :
    ∃ (db : DBs) (G : GDB), v = .agg db.cells ∧ GdAt w db G ∧ G.short := by
  obtain ⟨cs, rfl, hsz⟩ := okWide_struct Tryz.underlying48 hv
  obtain ⟨fuel, hf⟩ := h
  have hvc : (Value.agg cs).cells.toList = cs.toList := rfl
  rw [hvc] at hf
  obtain ⟨db, G, e, hg, hs⟩ := open_gdb hf hN
  exact ⟨db, G, by rw [Array.toList_inj.1 e], hg, hs⟩
end
end Go.Proofs.YtlggdgpdfepppaaGreatDoor
