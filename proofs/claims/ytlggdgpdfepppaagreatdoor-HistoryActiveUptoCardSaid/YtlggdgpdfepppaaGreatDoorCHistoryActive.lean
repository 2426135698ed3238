/- PROVED: edits, undos, redos, erasures and replacements leave the active plan as it is, and each argument reads behind the call as before: the card of the second form (what is read is of bulk at most 1048576). Its conditions: none of mine. -/
import Derived.Test.YtlggdgpdfepppaaGreatDoorQk51
import Derived.Test.YtlggdgpdfepppaaGreatDoorQk50
import Derived.Test.YtlggdgpdfepppaaGreatDoorQk52
import Derived.Test.YtlggdgpdfepppaaGreatDoorQk45
import Derived.Test.YtlggdgpdfepppaaGreatDoorQk43
import Derived.Test.YtlggdgpdfepppaaGreatDoorQk12
import Derived.Test.YtlggdgpdfepppaaGreatDoorQk14
import Derived.Test.YtlggdgpdfepppaaGreatDoorQk34
import Derived.Test.YtlggdgpdfepppaaGreatDoorCards
import Derived.Test.YtlggdgpdfepppaaGreatDoorTie
import Derived.Test.YtlggdgpdfepppaaGreatDoorQk32
import Derived.Test.YtlggdgpdfepppaaGreatDoorQk41
import Derived.Deep.DeepWitnessRowRef
import Derived.Lay
import Derived.WalkKit
import Derived.ProofKit
namespace Go.Proofs.YtlggdgpdfepppaaGreatDoor
open Go.RowKit Go.Sort
set_option linter.unusedVariables false
set_option linter.unusedSimpArgs false
theorem eapplyG_any (d : DBs) (G : GDB) (p : Plan) (A : Option Addr) (c : Nat) (e : EditV) (w : World) (hL : Laid w) (hF : FormsAt w) (hG : GapAt w) (hD : GdAt w d G) (hS : G.short)
    (hp : p.small) (hc : p.es.length ≤ c) (hE : Ents w A p.es) (hpf : p.from_.length ≤ 1000000000) (hpt2 : p.to_.length ≤ 1000000000) (he : e.ref.length ≤ 1000000000 ∧ e.name.length ≤ 1000000000 ∧ e.rway.length ≤ 1000000000 ∧ e.trans.length ≤ 1000000000) :
    Calls Tryz.prog 33 #[.agg d.cells, .agg (p.arr A c), .agg e.arr] w (RetAp w (applyS (lookG G) p e)) :=
  eapply_any d G.fixes (lookG G) p A c e w hL hF hG hD.db (by rw [hD.lat, hD.lon]; rfl) (lookG_ok hS) hp hc hE hpf hpt2 he fun wb g b h1 h2 => by
    have P : GPre wb (mkEdr d.cells p A c e) d G := ⟨hL.below b, hG.below b, mkEdr_db hD.db.ok.size p A c e, hD.below b, hE.below (B := 0) b, hc, (planChk_ok h1).2.1, (planChk_ok h1).2.2.1, (planChk_ok h1).2.2.2, (edit_at h2).1, hpf, hpt2, he.2.2.1, he.2.1, he.2.2.2, by show e.ref.length ≤ _; have := he.1; omega, lookG_ok hS, rfl⟩
    exact ⟨fun W h _ ha => ejoinG _ d G g wb W h P ha, fun W h _ => edepartG _ d G g wb W h P, fun W h _ => earriveG _ d G 2 3 g wb W h P, fun W h _ => earriveG _ d G 3 4 g wb W h P, fun W h _ ha => edivertG _ d G g wb W h P ha⟩
end Go.Proofs.YtlggdgpdfepppaaGreatDoor
namespace Go.Proofs.YtlggdgpdfepppaaGreatDoor
open Go.RowKit Go.Sort
set_option linter.unusedVariables false
set_option linter.unusedSimpArgs false
theorem checkRef_lenH {s : List UInt8} {b : Bool} (h : checkRefI s b = 0) : s.length ≤ 13 := by
  cases b
  · unfold checkRefI at h
    by_cases he : s = []
    · rw [he]; simp
    · simp [he] at h
  · exact ref_lenT (refB_iff.2 h)
theorem planCheck_tight {p : Plan} (h : planCheck p = 0) : p.from_.length ≤ 13 ∧ p.to_.length ≤ 13 ∧ p.small := by
  obtain ⟨hlen, hgo, a1, a2⟩ := planCheck_ok h
  obtain ⟨h1, h2⟩ := place_of h
  have pl : ∀ s : List UInt8, placeB s = true → s.length ≤ 13 := fun s hs => by
    unfold placeB at hs
    rcases Bool.or_eq_true_iff.1 hs with hs | hs
    · have : s = [] := by simpa using hs
      rw [this]; simp
    · exact pairB_lenT (m := 6) hs
  have p1 := pl _ h1
  have p2 := pl _ h2
  refine ⟨p1, p2, by omega, by omega, by omega, fun x hx => ?_⟩
  cases hg : x.gap
  · obtain ⟨hl, _, _, hv, _⟩ := alone_parts (check_each _ _ _ hgo x hx hg)
    have hO := legOk_of hl
    have f := checkRef_lenH hO.fix
    have c := checkRef_lenH hO.center
    refine ⟨⟨by omega, by omega⟩, ?_⟩
    unfold viaB at hv
    rcases Bool.or_eq_true_iff.1 hv with hv | hv
    · have : x.via = [] := by simpa using hv
      rw [this]; simp
    · have := pairB_lenT (m := 8) hv; omega
  · have := (Entry.eqB_iff _ _).1 (checkGo_each _ _ _ hgo x hx hg)
    rw [this]
    exact ⟨⟨by decide, by decide⟩, by decide⟩
def Hist.sz (h : Hist) : Prop := h.undo.length + h.redo.length ≤ 16
theorem Hist.sz_new (p : Plan) : (histNew p).sz := by simp [Hist.sz, histNew]
theorem pushU_len (l : List (Option Plan)) (s : Option Plan) (h : l.length ≤ 16) : (pushU l s).length ≤ 16 := by
  unfold pushU
  split <;> simp <;> omega
theorem Hist.sz_change {h : Hist} (hs : h.sz) (q : Plan) : (h.change q).sz := by
  unfold Hist.sz Hist.change at *
  have := pushU_len h.undo h.temp (by omega)
  simpa using this
theorem Hist.sz_step {h : Hist} (hs : h.sz) (L : Look) (a : ActV) : (h.step L a).1.sz := by
  unfold Hist.step
  split
  · unfold Hist.undoH
    split
    · exact hs
    · rename_i s e
      have : 0 < h.undo.length := by cases hq : h.undo with | nil => rw [hq] at e; cases e | cons => simp
      unfold Hist.sz at *
      simp; omega
  split
  · unfold Hist.redoH
    split
    · exact hs
    · rename_i s e
      have : 0 < h.redo.length := by cases hq : h.redo with | nil => rw [hq] at e; cases e | cons => simp
      unfold Hist.sz at *
      simp; omega
  split
  · unfold Hist.exec; split
    · exact hs
    · exact Hist.sz_new _
  split
  · unfold Hist.erase; split
    · exact hs
    · exact Hist.sz_new _
  split
  · unfold Hist.advance; split
    · exact hs
    · unfold Hist.sz at *; simpa using hs
  split
  · unfold Hist.replace; split
    · exact hs
    · exact Hist.sz_change hs _
  · unfold Hist.doE; split
    · exact hs
    · exact Hist.sz_change hs _
theorem st_len {W : World} {g : Nat} {u r : Value} {s : MS} (h : StW W g u r s) (hv : ∀ q, s.abs = some q → planCheck q = 0) : s.p.es.length ≤ 60 := by
  cases hb : s.b with
  | false => rw [h.none hb]; exact Nat.zero_le _
  | true => exact (planCheck_ok (hv s.p (by unfold MS.abs; rw [hb]; rfl))).1
theorem HBnd.of {w W : World} {g : Nat} {m : HM} (h : His w W g m) (ok : m.abs.ok) (sz : m.abs.sz) : HBnd m where
  us := by have : m.us.length = m.abs.undo.length := by simp [HM.abs]
           unfold Hist.sz at sz; omega
  rs := by have : m.rs.length = m.abs.redo.length := by simp [HM.abs]
           unfold Hist.sz at sz; omega
  act := by have := (planCheck_ok (show planCheck m.p = 0 from ok.act)).1; omega
  tmp := by have := st_len h.tp ok.temp; omega
  usE s hs := by have := st_len (h.us_ s hs) (ok.undo _ (List.mem_map.2 ⟨s, hs, rfl⟩)); omega
  rsE s hs := by have := st_len (h.rs_ s hs) (ok.redo _ (List.mem_map.2 ⟨s, hs, rfl⟩)); omega
theorem Hist.ok.base {h : Hist} (ok : h.ok) : planCheck h.base = 0 := by
  unfold Hist.base
  cases hq : h.temp with
  | none => exact ok.act
  | some q => exact ok.temp q hq
theorem applyS_len {L : Look} {p : Plan} {e : EditV} (h : (applyS L p e).2 = 0) : (applyS L p e).1.es.length ≤ 1000000 := by
  have := (planCheck_ok (applyS_valid h)).1; omega
theorem apply_hist (d : DBs) (G : GDB) (w : World) (hL : Laid w) (hF : FormsAt w) (hG : GapAt w) (hD : GdAt w d G) (hS : G.short) (h : Hist) (ok : h.ok) (e : EditV) (he : e.bnd 1000000000) :
    ∀ (A : Option Addr) (c : Nat) (W' : World), Below w.heap.size w W' → h.base.es.length ≤ c → Ents W' A h.base.es → Calls Tryz.prog 33 #[.agg d.cells, .agg (h.base.arr A c), .agg e.arr] W' (RetAp W' (applyS (lookG G) h.base e)) :=
  fun A c W' b hc hE => by
    obtain ⟨t1, t2, t3⟩ := planCheck_tight ok.base
    exact eapplyG_any d G h.base A c e W' (hL.below b) (hF.below b) (hG.below b) (hD.below b) hS t3 hc hE (by omega) (by omega) he
/- The methods of a history, told of what it holds. -/
theorem callTmp1 {P : Program} {f : FuncId} {args : Array Value} {W : World} {q : Plan} {K : Ending → World → Prop} (h : Calls P f args W (RetTmp W (some q)))
    (k : ∀ A c w', q.es.length ≤ c → Ents w' A q.es → (∀ a, A = some a → W.heap.size ≤ a.block) → Below W.heap.size W w' → K (.returned (.tuple #[.agg (q.arr A c), .bool true])) w') : Calls P f args W K := callTmp h k
theorem callTmp0 {P : Program} {f : FuncId} {args : Array Value} {W : World} {K : Ending → World → Prop} (h : Calls P f args W (RetTmp W none))
    (k : ∀ A c w', (0 : Nat) ≤ c → Ents w' A [] → (∀ a, A = some a → W.heap.size ≤ a.block) → Below W.heap.size W w' → K (.returned (.tuple #[.agg (plan0.arr A c), .bool false])) w') : Calls P f args W K := callTmp h k
section
variable {w W : World} {g : Nat} {m : HM} {h h' : Hist}
theorem tempH (X : His w W g m) (hm : m.abs = h) (ok : h.ok) (sz : h.sz) {q : Option Plan} (hq : h.temp = q) : Calls Tryz.prog 16 #[.pointer (some ⟨g, 0, none⟩)] W (RetTmp W q) := by
  subst hm; subst hq
  exact htemp_any W g m X (HBnd.of X ok sz).tmp
theorem depthH (X : His w W g m) (hm : m.abs = h) {i j : Nat} (hi : h.undo.length = i) (hj : h.redo.length = j) : Calls Tryz.prog 22 #[.pointer (some ⟨g, 0, none⟩)] W (Ret W (.tuple #[.int .i64 (i : Int), .int .i64 (j : Int)])) := by
  subst hm
  have e1 : m.us.length = i := by rw [← hi]; simp [HM.abs]
  have e2 : m.rs.length = j := by rw [← hj]; simp [HM.abs]
  rw [← e1, ← e2]
  exact hdepth_any W g m X
theorem activeH (X : His w W g m) (hm : m.abs = h) (ok : h.ok) (sz : h.sz) {q : Plan} (hq : h.act = q) : Calls Tryz.prog 19 #[.pointer (some ⟨g, 0, none⟩)] W (RetOwn W q) := by
  subst hm; subst hq
  exact hactive_any W g m X (HBnd.of X ok sz).act
theorem undoH_ (X : His w W g m) (hm : m.abs = h) (ok : h.ok) (sz : h.sz) {v : Int} (hd : h.undoH = (h', v)) : Calls Tryz.prog 18 #[.pointer (some ⟨g, 0, none⟩)] W (RetH w W g m h' (.int .i64 v)) := by
  subst hm
  have := hundo_any W g m X (HBnd.of X ok sz).us (HBnd.of X ok sz).rs
  rwa [hd] at this
theorem redoH_ (X : His w W g m) (hm : m.abs = h) (ok : h.ok) (sz : h.sz) {v : Int} (hd : h.redoH = (h', v)) : Calls Tryz.prog 20 #[.pointer (some ⟨g, 0, none⟩)] W (RetH w W g m h' (.int .i64 v)) := by
  subst hm
  have := hredo_any W g m X (HBnd.of X ok sz).us (HBnd.of X ok sz).rs
  rwa [hd] at this
theorem advanceH (X : His w W g m) (hm : m.abs = h) (ok : h.ok) (sz : h.sz) {v : Int} (to_ : Int) (hd : h.advance to_ = (h', v)) : Calls Tryz.prog 25 #[.pointer (some ⟨g, 0, none⟩), .int .i64 to_] W (RetH w W g m h' (.int .i64 v)) := by
  subst hm
  have B := HBnd.of X ok sz
  have := hadvance_any W g m X to_ B.act B.tmp B.usE B.rsE B.us B.rs
  rwa [hd] at this
end
end Go.Proofs.YtlggdgpdfepppaaGreatDoor
namespace Go.Proofs.YtlggdgpdfepppaaGreatDoor
open Go.RowKit Go.Sort
set_option linter.unusedVariables false
set_option linter.unusedSimpArgs false
set_option maxRecDepth 100000
structure Open24 (w : World) : Prop where
  laid : Laid w
  forms : FormsAt w
  gap : GapAt w
theorem Open24.below {w w' : World} (h : Open24 w) (hb : Below w.heap.size w w') : Open24 w' := ⟨h.laid.below hb, h.forms.below hb, h.gap.below hb⟩
def bwin4 (parts : Array (Nat × Value)) : Sem Value := Instr.build 56 parts
theorem bwin4_fold (parts : Array (Nat × Value)) : Instr.build 56 parts = bwin4 parts := rfl
theorem run_bwin4 (w : World) (a b : Int) : (bwin4 #[(0, .int .i64 a), (1, .int .i64 b)]).run Tryz.prog w = .ok (.agg (Win.arr ⟨a, b⟩)) w := run_build w _ _ _ (by kernel_rfl)
def bleg4 (parts : Array (Nat × Value)) : Sem Value := Instr.build 77 parts
theorem bleg4_fold (parts : Array (Nat × Value)) : Instr.build 77 parts = bleg4 parts := rfl
theorem run_bleg4 (w : World) (t : Int) (s : ByteArray) (a b : Int) : (bleg4 #[(0, .int .u8 t), (1, .string s), (9, .agg (Win.arr ⟨a, b⟩))]).run Tryz.prog w = .ok (.agg (⟨t, s.data.toList, [], 0, false, 0, 0, 0, 0, a, b, 0, 0⟩ : Leg).arr) w := run_build w _ _ _ (by kernel_rfl)
def bent4 (parts : Array (Nat × Value)) : Sem Value := Instr.build 82 parts
theorem bent4_fold (parts : Array (Nat × Value)) : Instr.build 82 parts = bent4 parts := rfl
theorem run_bent4 (w : World) (l : Leg) (s : Int) : (bent4 #[(1, .agg l.arr), (4, .int .u8 s)]).run Tryz.prog w = .ok (.agg (⟨false, l, 0, 0, 0, 0, s, []⟩ : Entry).arr) w := run_build w _ _ _ (by kernel_rfl)
def bdb4 (parts : Array (Nat × Value)) : Sem Value := Instr.build 48 parts
theorem bdb4_fold (parts : Array (Nat × Value)) : Instr.build 48 parts = bdb4 parts := rfl
theorem run_bdb4 (w : World) : (bdb4 #[]).run Tryz.prog w = .ok (.agg cells0) w := run_build w _ _ _ (by kernel_rfl)
def bedt4 (parts : Array (Nat × Value)) : Sem Value := Instr.build 58 parts
theorem bedt4_fold (parts : Array (Nat × Value)) : Instr.build 58 parts = bedt4 parts := rfl
def e24a : EditV := ⟨5, 2, [], [], [], [], 0, 0, 250, 0, 0, 0⟩
def e24b : EditV := ⟨2, 2, [], [], [], [], 0, 0, 0, 0, 0, 0⟩
theorem run_bedt4a (w : World) : (bedt4 #[(0, .int .u8 5), (1, .int .i64 2), (7, .int .i64 250)]).run Tryz.prog w = .ok (.agg e24a.arr) w := run_build w _ _ _ (by kernel_rfl)
theorem run_bedt4b (w : World) : (bedt4 #[(0, .int .u8 2), (1, .int .i64 2)]).run Tryz.prog w = .ok (.agg e24b.arr) w := run_build w _ _ _ (by kernel_rfl)
abbrev rA4 : List UInt8 := [65, 47, 48, 48]
abbrev rB4 : List UInt8 := [66, 47, 48, 48]
abbrev rC4 : List UInt8 := [67, 47, 48, 48]
def pl24 : Plan := ⟨[], [], [toE 1 rA4, toE 2 rB4, toE 2 rC4], 0⟩
def pA24 : Plan := ⟨[], [], [toE 1 rA4, toE 2 rB4, ⟨false, ⟨2, rC4, [], 0, false, 0, 0, 0, 0, -200000, 6000000, 250, 0⟩, 0, 0, 0, 0, 2, []⟩], 0⟩
def pB24 : Plan := ⟨[], [], [toE 1 rA4, toE 2 rB4], 0⟩
theorem run_bplan24 (w : World) (g : Nat) : (bplanA #[(2, .slice (some ⟨g, 0, none⟩) 3 3)]).run Tryz.prog w = .ok (.agg (pl24.arr (some ⟨g, 0, none⟩) 3)) w := run_build w _ _ _ (by kernel_rfl)
def h24 : Hist := histNew pl24
def h24a : Hist := ⟨pl24, some pA24, [none], []⟩
def h24b : Hist := ⟨pl24, some pB24, [none, some pA24], []⟩
def h24c : Hist := ⟨pl24, some pA24, [none], [some pB24]⟩
def h24d : Hist := ⟨{ pl24 with active := 1 }, some { pA24 with active := 1 }, [none], [some { pB24 with active := 1 }]⟩
theorem aw24_0 : planCheck pl24 = 0 := by kernel_rfl
theorem aw24_a : applyS look0 pl24 e24a = (pA24, 0) := by kernel_rfl
theorem aw24_b : applyS look0 pA24 e24b = (pB24, 0) := by kernel_rfl
theorem hw24_a : h24.doE look0 e24a = (h24a, 0) := by
  unfold Hist.doE
  rw [show h24.base = pl24 from rfl, aw24_a]
  rfl
theorem hw24_b : h24a.doE look0 e24b = (h24b, 0) := by
  unfold Hist.doE
  rw [show h24a.base = pA24 from rfl, aw24_b]
  rfl
theorem hw24_c : h24b.undoH = (h24c, 0) := rfl
theorem hw24_d : h24c.advance 1 = (h24d, 0) := by kernel_rfl
theorem pl24_small : pl24.small := (planCheck_tight aw24_0).2.2
attribute [local go_sem ↓] bs3_fold bwin4_fold bleg4_fold bent4_fold bdb4_fold bedt4_fold bplanA_fold
attribute [local go_sem] run_bs3 run_bwin4 run_bleg4 run_bent4 run_bdb4 run_bedt4a run_bedt4b run_bplan24 run_storeD_plan splice_planA Fits_planA
theorem run_field_act (p : Plan) (A : Option Addr) (c : Nat) (w : World) : (Instr.field 24 (.agg (p.arr A c)) 3).run Tryz.prog w = .ok (.int .i64 p.active) w := by
  have hu := Tryz.underlying24
  unfold Plan.arr
  simp [Instr.field, go_sem, hu, asAgg]
attribute [local go_sem] run_field_act
theorem at24_any (t : Int) (fix : List UInt8) (w : World) : Calls Tryz.prog 24 #[.int .u8 t, .string ⟨fix.toArray⟩] w (Ret w (.agg (toE t fix).arr)) := by
  have hlit : (#[.bool false, .int .u8 t, .string ⟨fix.toArray⟩, .string ⟨#[]⟩, .int .u8 0, .bool false, .int .i64 0, .int .i64 0, .int .i64 0, .int .i64 0, .int .i64 (-200000), .int .i64 6000000, .int .i64 0, .int .i64 0, .int .i64 0, .int .i64 0, .int .i64 0, .int .i64 0, .int .u8 2, .string ⟨#[]⟩] : Array Value) = (toE t fix).arr := rfl
  go_enter Tryz.func24, Tryz.ntmps24
  go_wp2
  refine bodyPost_ret (results_ent1 Tryz.results24 _ _ w.heap.size (toE t fix) rfl ?_) rfl ⟨rfl, (Below.refl _ _).alloc (Nat.le_refl _) _⟩
  exact (Blk.new w (toE t fix).arr _).is_ent
theorem do24 {w : World} (hO : Open24 w) (W : World) (g : Nat) (m : HM) (X : His w W g m) {h h' : Hist} (hm : m.abs = h) (ok : h.ok) (sz : h.sz) (e : EditV) (he : e.bnd 1000000000) (ho : e.op < 8) (hd : h.doE look0 e = (h', 0)) :
    Calls Tryz.prog 15 #[.pointer (some ⟨g, 0, none⟩), .agg cells0, .agg e.arr] W (RetH w W g m h' (.int .i64 0)) := by
  subst hm
  have := hdo_any look0 cells0 e W g m X rfl (HBnd.of X ok sz).us (fun A c W' b hc hE => by
    obtain ⟨t1, t2, t3⟩ := planCheck_tight ok.base
    exact eapply0_any m.abs.base A c e W' (hO.below b).laid (hO.below b).forms (hO.below b).gap t3 hc hE (by omega) (by omega) he ho) (fun h => applyS_len h)
  rw [hd] at this
  exact this
theorem hok24 : h24.ok := histNew_ok aw24_0
theorem hok24a : h24a.ok := by
  have := hok24.change (q := pA24) (by kernel_rfl)
  exact this
theorem hok24b : h24b.ok := by
  have := hok24a.change (q := pB24) (by kernel_rfl)
  exact this
theorem hok24c : h24c.ok := by
  have := hok24b.step (L := look0) ⟨3, e24a, 0, plan0⟩
  exact this
theorem hok24d : h24d.ok := by
  have := hok24c.step (L := look0) ⟨7, e24a, 1, plan0⟩
  rw [show (h24c.step look0 ⟨7, e24a, 1, plan0⟩).1 = h24d by kernel_rfl] at this
  exact this
theorem hsz24 : h24.sz := by unfold Hist.sz; decide
theorem hsz24a : h24a.sz := by unfold Hist.sz; decide
theorem hsz24b : h24b.sz := by unfold Hist.sz; decide
theorem hsz24c : h24c.sz := by unfold Hist.sz; decide
theorem hsz24d : h24d.sz := by unfold Hist.sz; decide
set_option maxHeartbeats 16000000 in
theorem awake24_any (w : World) (hO : Open24 w) : Calls Tryz.prog 8 #[] w (Ret w (.bool true)) := by
  have ka := Lib.hid (fun W => show Calls Tryz.prog 24 #[.int .u8 1, .string ⟨#[65, 47, 48, 48]⟩] W (Ret W (.agg (toE 1 rA4).arr)) from at24_any 1 rA4 W)
  have kb := Lib.hid (fun W => show Calls Tryz.prog 24 #[.int .u8 2, .string ⟨#[66, 47, 48, 48]⟩] W (Ret W (.agg (toE 2 rB4).arr)) from at24_any 2 rB4 W)
  have kc := Lib.hid (fun W => show Calls Tryz.prog 24 #[.int .u8 2, .string ⟨#[67, 47, 48, 48]⟩] W (Ret W (.agg (toE 2 rC4).arr)) from at24_any 2 rC4 W)
  have kn := Lib.hid (fun W (b : Below w.heap.size w W) q (Y : Blk W q (cellsOf pl24.es).toArray) => hnew_any pl24 (some ⟨q, 0, none⟩) 3 W (hO.below b).laid pl24_small (Nat.le_refl _) Y.ents)
  go_enter Tryz.func8, Tryz.ntmps8
  go_upto_region 3 with (first
    | (go_at_call 24; first
      | ((with_reducible refine callR (ka.out _) ?_); intro w1 b1 _ _ _)
      | ((with_reducible refine callR (kb.out _) ?_); intro w2 b2 _ _ _)
      | ((with_reducible refine callR (kc.out _) ?_); intro w3 b3 _ _ _; have B3 := below_step (below_step b1 b2) b3; have B4 := below_step B3 (alloc_below5 w3 (.cells (cellsOf [toE 1 rA4, toE 2 rB4, toE 2 rC4]).toArray 82))))
    | (go_at_call 9; (with_reducible refine callNew (kn.out _ B4 _ (Blk.new _ _ _)) aw24_0 ?_); intro g A0 c0 W0 X0 _))
  have HX := Lib.hid (X0.lift B4)
  have k1 := Lib.hid (do24 hO W0 g _ HX.out (show (newHM pl24 A0 c0).abs = h24 from rfl) hok24 hsz24 e24a ⟨by decide, by decide, by decide, by decide⟩ (by decide) hw24_a)
  have k2 := Lib.hid (fun (W : World) (m : HM) (X : His w W g m) (e : m.abs = h24a) => do24 hO W g m X e hok24a hsz24a e24b ⟨by decide, by decide, by decide, by decide⟩ (by decide) hw24_b)
  clear b1 b2 b3 B3 B4 ka kb kc kn X0
  generalize newHM pl24 A0 c0 = m0 at *
  go_upto_region 7 with (first
    | (go_at_call 15; (with_reducible refine callH k1.out ?_); intro m1 W1 X1 e1 R1 O1)
    | (go_at_call 15; (with_reducible refine callH (k2.out _ _ X1 e1) ?_); intro m2 W2 X2 e2 R2 O2))
  have kT := Lib.hid (tempH X2 e2 hok24b hsz24b (show h24b.temp = some pB24 from rfl))
  have HX2 := Lib.hid X2
  have HE2 := Lib.hid e2
  clear X2 e2 R2 O2 X1 e1 R1 O1 HX k1 k2
  go_upto_region 8 with (go_at_call 16; (with_reducible refine callTmp1 kT.out ?_); intro A3 c3 w3 h3 E3 hA3 b3)
  have Q4 := Blk.new w3 (pB24.arr A3 c3) 24
  have D4 := below_step b3 (alloc_below5 w3 (.cells (pB24.arr A3 c3) 24))
  have X4 := HX2.out.step D4
  have hgq := b3.size
  have F4 : HFar (w3.alloc (.cells (pB24.arr A3 c3) 24)) g m2.u m2.r w3.heap.size := ⟨Q4.lt, by have := HX2.out.lt; omega, fun e => by have := HX2.out.ult _ e; omega, fun e => by have := HX2.out.rlt _ e; omega⟩
  have O4 := HX2.out.off hgq
  have hgw : w.heap.size ≤ w3.heap.size := by have := HX2.out.ge; have := HX2.out.lt; omega
  clear b3 D4 h3 E3 hA3 kT hgq
  generalize hW4 : w3.alloc (.cells (pB24.arr A3 c3) 24) = W4 at Q4 X4 F4
  have hW4' : World.alloc w3 _ = W4 := hW4
  try rw [hW4']
  clear hW4 hW4'
  generalize w3.heap.size = gq at Q4 F4 O4 hgw ⊢
  have kD := Lib.hid (depthH X4 HE2.out (i := 2) (j := 0) rfl rfl)
  have q2 : W4.cell? ⟨gq, 2, none⟩ = some (.slice A3 2 c3) := Q4.cell 2
  have HX4 := Lib.hid X4
  clear HX2 X4
  go_upto_region 9 with (go_at_call 22; (with_reducible refine callR kD.out ?_); intro w5 b5 _ _ _)
  have X5 := HX4.out.step b5
  have Q5 := Q4.step b5
  have F5 := F4.step (.of b5)
  have q2 : w5.cell? ⟨gq, 2, none⟩ = some (.slice A3 2 c3) := Q5.cell 2
  have kU := Lib.hid (undoH_ X5 HE2.out hok24b hsz24b hw24_c)
  have HQ5 := Lib.hid Q5
  have HF5 := Lib.hid F5
  clear HX4 X5 Q4 Q5 F4 F5 kD b5
  go_upto_region 11 with (go_at_call 18; (with_reducible refine callH kU.out ?_); intro m6 W6 X6 e6 R6 O6)
  have Q6 := R6.blk HF5.out HQ5.out
  have F6 := HF5.out.step R6
  have O7 := O6 gq HF5.out.lt O4
  have kT := Lib.hid (tempH X6 e6 hok24c hsz24c (show h24c.temp = some pA24 from rfl))
  have HX6 := Lib.hid X6
  have HE6 := Lib.hid e6
  clear X6 e6 R6 O6 O4 HQ5 HF5 q2 kU HE2
  go_upto_region 12 with (go_at_call 16; (with_reducible refine callTmp1 kT.out ?_); intro A7 c7 w7 h7 E7 hA7 b7; have d2 := (Q6.step b7).plain; have d3 := (Q6.step b7).of)
  have F7 := F6.step (.of b7)
  have X8 := (HX6.out.step b7).other (Only.setRow gq w7 (pA24.arr A7 c7)) (fun h => F7.ne h.symm) F7.ou F7.or_ O7 hgw
  have Q8 := (Q6.step b7).set (pA24.arr A7 c7)
  have F8 : HFar (w7.setRow gq (pA24.arr A7 c7)) g m6.u m6.r gq := ⟨Q8.lt, F7.ne, F7.ou, F7.or_⟩
  clear F7 F6 Q6 d2 d3 h7 E7 hA7 b7 kT HX6
  generalize w7.setRow _ _ = W8 at X8 Q8 F8 ⊢
  have kD := Lib.hid (depthH X8 HE6.out (i := 1) (j := 1) rfl rfl)
  have q2 : W8.cell? ⟨gq, 2, none⟩ = some (.slice A7 3 c7) := Q8.cell 2
  have HX8 := Lib.hid X8
  clear X8
  go_upto_region 13 with (go_at_call 22; (with_reducible refine callR kD.out ?_); intro w9 b9 _ _ _)
  have X9 := HX8.out.step b9
  have Q9 := Q8.step b9
  have F9 := F8.step (.of b9)
  have q2 : w9.cell? ⟨gq, 2, none⟩ = some (.slice A7 3 c7) := Q9.cell 2
  have kU := Lib.hid (advanceH X9 HE6.out hok24c hsz24c 1 hw24_d)
  have HQ9 := Lib.hid Q9
  have HF9 := Lib.hid F9
  clear HX8 X9 Q8 Q9 F8 F9 kD b9
  go_upto_region 15 with (go_at_call 25; (with_reducible refine callH kU.out ?_); intro m10 W10 X10 e10 R10 O10)
  have Q10 := R10.blk HF9.out HQ9.out
  have F10 := HF9.out.step R10
  have O11 := O10 gq HF9.out.lt O7
  have kT := Lib.hid (tempH X10 e10 hok24d hsz24d (show h24d.temp = some { pA24 with active := 1 } from rfl))
  have HX10 := Lib.hid X10
  have HE10 := Lib.hid e10
  clear X10 e10 R10 O10 O7 HQ9 HF9 q2 kU HE6
  go_upto_region 16 with (go_at_call 16; (with_reducible refine callTmp1 kT.out ?_); intro A11 c11 w11 h11 E11 hA11 b11; have d2 := (Q10.step b11).plain; have d3 := (Q10.step b11).of)
  have F11 := F10.step (.of b11)
  have X12 := (HX10.out.step b11).other (Only.setRow gq w11 (({ pA24 with active := 1 } : Plan).arr A11 c11)) (fun h => F11.ne h.symm) F11.ou F11.or_ O11 hgw
  have Q12 := (Q10.step b11).set (({ pA24 with active := 1 } : Plan).arr A11 c11)
  clear F11 F10 Q10 d2 d3 h11 E11 hA11 b11 kT HX10
  generalize w11.setRow _ _ = W12 at X12 Q12 ⊢
  have kA := Lib.hid (activeH X12 HE10.out hok24d hsz24d (show h24d.act = { pl24 with active := 1 } from rfl))
  have q3 : W12.cell? ⟨gq, 3, none⟩ = some (.int .i64 1) := Q12.cell 3
  have HB := Lib.hid X12.bel
  clear X12 Q12
  go_wp2_with (go_at_call 19; (with_reducible refine callOwn kA.out ?_); intro A13 c13 w13 _ _ _ b13)
  go_ret
  exact Ret.bool rfl (HB.out.trans (b13.mono HB.out.size))
end Go.Proofs.YtlggdgpdfepppaaGreatDoor
namespace Go.Proofs.YtlggdgpdfepppaaGreatDoor
open Go.RowKit Go.Sort
set_option linter.unusedVariables false
set_option linter.unusedSimpArgs false
set_option maxRecDepth 100000
theorem SzIs_act (a : ActV) (A : Option Addr) (c n : Nat) : SzIs (actArr a A c) n = (18 = n) := propext ⟨fun h => h, fun h => h⟩
theorem Ones_act (a : ActV) (A : Option Addr) (c : Nat) : Ones (actArr a A c) = True := eq_true (by show (actArr a A c).toList.all (·.oneCell') = true; simp [actArr, Value.oneCell'])
theorem PlW.old {w W : World} {g : Nat} {m : HM} (X : His w W g m) {p : Plan} {A : Option Addr} {c : Nat} (hc : p.es.length ≤ c) (hE : Ents w A p.es) : PlW W g m.u m.r p A c where
  len := hc
  ents := hE.below (B := 0) X.bel
  far hne a ha := by
    obtain ⟨b, o, hA, hb, _⟩ := hE.at_ hne
    rw [hA] at ha
    injection ha with ha
    subst ha
    have := X.ge
    exact ⟨by show b ≠ g; omega, fun e => by have := (X.uo.own_lt _ e).2; have : b < w.heap.size := hb; simp only at *; omega, fun e => by have := (X.ro.own_lt _ e).2; have : b < w.heap.size := hb; simp only at *; omega⟩
theorem ActsAt.get {w : World} {A : Option Addr} {l : List ActV} (h : ActsAt w A l) {i : Nat} (hi : i < l.length) :
    ∃ b off A' c', A = some ⟨b, off, none⟩ ∧ (∀ W, Below w.heap.size w W → Is_act W b (off + i * 18) (actArr l[i] A' c')) ∧ l[i].plan.es.length ≤ c' ∧ Ents w A' l[i].plan.es := by
  obtain ⟨css, hl, hI, hc⟩ := h.ex
  have hi' : i < css.length := by omega
  obtain ⟨b, off, e, hb, hcell⟩ := hI.get hi'
  obtain ⟨A', c', e1, e2, e3⟩ := (hc i css[i] l[i] (List.getElem?_eq_getElem hi') (List.getElem?_eq_getElem hi)).ex
  refine ⟨b, off, A', c', e, fun W hB => ⟨rfl, fun j hj => ?_⟩, e2, e3⟩
  rw [hB.cell (p := ⟨b, _, none⟩) hb, ← e1]
  exact hcell j hj
attribute [local go_sem] SzIs_act Ones_act rhArr_sz rhArr_ones
set_option maxHeartbeats 16000000 in
theorem lawHisValid_any (d : DBs) (G : GDB) (p : Plan) (A : Option Addr) (c : Nat) (l : List ActV) (B : Option Addr) (cb : Nat) (w : World) (hO : Open24 w) (hD : GdAt w d G) (hS : G.short) (hp : p.small) (hc : p.es.length ≤ c) (hE : Ents w A p.es)
    (hl : l.length ≤ cb) (hB : ActsAt w B l) (hln : l.length ≤ 1000000000) (hb : ∀ x ∈ l, x.bnd 1000000000) :
    Calls Tryz.prog 5 #[.agg d.cells, .agg (p.arr A c), .slice B l.length cb] w (Ret w (.bool true)) := by
  have hsz := hD.db.ok.size
  go_enter Tryz.func5, Tryz.ntmps5
  go_upto_region 1 with (fail)
  have D0 : Blk ((w.alloc (.cells d.cells 48)).alloc (.cells (p.arr A c) 24)) w.heap.size d.cells := (Blk.new w _ _).alloc _
  have P0 : Blk ((w.alloc (.cells d.cells 48)).alloc (.cells (p.arr A c) 24)) (w.heap.size + 1) (p.arr A c) := by rw [← World.size_alloc w (.cells d.cells 48)]; exact Blk.new _ _ _
  have B0 : Below w.heap.size w ((w.alloc (.cells d.cells 48)).alloc (.cells (p.arr A c) 24)) := by go_grown
  generalize hW0 : World.alloc (World.alloc w _) _ = W0
  have hW0' : (w.alloc (.cells d.cells 48)).alloc (.cells (p.arr A c) 24) = W0 := hW0
  rw [hW0'] at D0 P0 B0
  clear hW0 hW0'
  generalize w.heap.size + 1 = gp at P0 ⊢
  obtain ⟨gd, hgd⟩ : ∃ g, g = w.heap.size := ⟨_, rfl⟩
  rw [← hgd] at D0 ⊢
  clear hgd
  go_upto_region 3 with (go_at_call 8; (with_reducible refine callR (awake24_any W0 (hO.below B0)) ?_); intro w1 b1 _ _ _)
  have D1 := D0.step b1
  have P1 := P0.step b1
  have B1 := below_step B0 b1
  clear D0 P0 B0 b1
  have i1 : Has_plan w1 gp 0 := ⟨_, P1.is_plan rfl⟩
  have i2 : of_plan w1 gp 0 = p.arr A c := of_plan_eq (P1.is_plan rfl)
  have ko := Lib.hid (open24_any p A c w1 (hO.below B1).laid hp hc (hE.below (B := 0) B1))
  by_cases hz : planCheck p = 0
  case neg =>
    go_wp2_with (go_at_call 13; (with_reducible refine callOpen0 ko.out hz ?_); intro w2 b2)
    go_ret
    exact Ret.bool rfl (below_step (below_step B1 b2) (alloc_below5 _ _))
  case pos =>
  have HZ := Lib.hid hz
  clear hz
  go_upto_region 4 with (go_at_call 13; (with_reducible refine callOpen1 ko.out HZ.out ?_); intro g A0 c0 A1 c1 w2 X2 _)
  have X3 := X2.alloc (.cells (rhArr p A1 c1) 34)
  generalize hW3 : w2.alloc (.cells (rhArr p A1 c1) 34) = W3 at X3
  have hW3' : World.alloc w2 _ = W3 := hW3
  try rw [hW3']
  clear hW3 hW3' ko i1 i2
  have D3 := D1.below X3.bel D1.lt
  have k1 : Has_db W3 gd 0 := ⟨_, D3.is_db hsz⟩
  have k2 : of_db W3 gd 0 = d.cells := of_db_eq (D3.is_db hsz)
  have kf := Lib.hid (fun W (b : Below w1.heap.size w1 W) => few24_any d G W (hD.below (below_step B1 b)) B l.length cb)
  have HX3 := Lib.hid X3
  have HD3 := Lib.hid D3
  clear X2 X3 D3
  generalize fewG d G l.length = bf at kf
  cases bf with
  | false =>
    go_wp2_with (first
      | (go_at_call 14; (with_reducible refine callR (kf.out _ HX3.out.bel) ?_); intro w4 b4 _ _ _; have k3 : Has_db w4 gd 0 := ⟨_, (HD3.out.step b4).is_db hsz⟩; have k4 : of_db w4 gd 0 = d.cells := of_db_eq ((HD3.out.step b4).is_db hsz))
      | (go_at_call 14; (with_reducible refine callR (kf.out _ (HX3.out.step b4).bel) ?_); intro w5 b5 _ _ _))
    go_ret
    exact Ret.bool rfl (below_step B1 (((HX3.out.step b4).step b5).bel))
  | true =>
  go_upto_region 6 with (go_at_call 14; (with_reducible refine callR (kf.out _ HX3.out.bel) ?_); intro w4 b4 _ _ _)
  have HX4 := Lib.hid (HX3.out.step b4)
  clear kf HD3 HX3 k1 k2 b4
  go_wp2
  go_loopw [44] (fun iv wr => ∃ (i : Nat) (m : HM), i ≤ l.length ∧ iv = .int .i64 i ∧ His w1 wr g m ∧ m.abs.ok ∧ m.abs.sz) (fun iv _ => l.length - (intOf iv).toNat)
  case atStart => exact ⟨0, _, Nat.zero_le _, rfl, HX4.out, histNew_ok HZ.out, Hist.sz_new _⟩
  case round =>
    obtain ⟨i, m, hi, rfl, X, ok, sz⟩ := hrel
    by_cases hlt : i < l.length
    · obtain ⟨b, off, A', c', rfl, hact, hc', hE'⟩ := hB.get hlt
      have hbd := hb _ (List.getElem_mem hlt)
      have BX := below_step B1 X.bel
      have i3 : Has_act wr b (off + i * 18) := ⟨_, hact wr BX⟩
      have i4 : of_act wr b (off + i * 18) = actArr l[i] A' c' := of_act_eq (hact wr BX)
      generalize l[i] = a at *
      have hlt' : (i : Int) < (l.length : Int) := by omega
      have hlc : i < cb := by omega
      have HX := Lib.hid X
      have HOK := Lib.hid ok
      have HSZ := Lib.hid sz
      clear X ok sz BX hact
      go_upto_region 9 with (fail)
      have Y5 := Blk.new wr (actArr a A' c') 68
      have D5 := alloc_below5 wr (.cells (actArr a A' c') 68)
      have X5 := HX.out.step D5
      clear i3 i4
      generalize hW5 : wr.alloc (.cells (actArr a A' c') 68) = W5 at Y5 D5 X5
      have hW5' : World.alloc wr _ = W5 := hW5
      try rw [hW5']
      clear hW5 hW5'
      generalize wr.heap.size = ga at Y5 ⊢
      have DD := D1.below X5.bel D1.lt
      have k1 : Has_db W5 gd 0 := ⟨_, DD.is_db hsz⟩
      have k2 : of_db W5 gd 0 = d.cells := of_db_eq (DD.is_db hsz)
      have j1 : Has_act W5 ga 0 := ⟨_, Y5.is_act rfl⟩
      have j2 : of_act W5 ga 0 = actArr a A' c' := of_act_eq (Y5.is_act rfl)
      have O1 := hO.below B1
      have KD := Lib.hid (do24_any (lookG G) d.cells a A' c' W5 g m X5 O1.laid hsz hbd.1.1 hbd.1.2 (PlW.old X5 hc' (hE'.below (B := 0) B1)) (hbd.2.2.small (by decide)) (HBnd.of X5 HOK.out HSZ.out)
        (apply_hist d G w1 O1.laid O1.forms O1.gap (hD.below B1) hS m.abs HOK.out a.e hbd.2.1) (fun h => applyS_len h))
      have OK2 := HOK.out.step (L := lookG G) a
      have SZ2 := Hist.sz_step HSZ.out (lookG G) a
      generalize m.abs.step (lookG G) a = R at KD OK2 SZ2
      obtain ⟨h2, er⟩ := R
      have HOK2 := Lib.hid OK2
      have HSZ2 := Lib.hid SZ2
      clear OK2 SZ2 HOK HSZ HX DD X5 O1 Y5
      go_upto_region 10 with (go_at_call 21; (with_reducible refine callH KD.out ?_); intro m6 W6 X6 e6 R6 O6)
      have KC := Lib.hid (fun (q : Plan) (hq : planCheck q = 0) (A : Option Addr) (c : Nat) (W : World) (b : Below w1.heap.size w1 W) (hc : q.es.length ≤ c) (hE : Ents W A q.es) =>
        show Calls Tryz.prog 11 #[.agg (q.arr A c)] W (Ret W (.int .i64 0)) from hq ▸ planCheck_any q A c W (hO.below (below_step B1 b)).laid (planCheck_tight hq).2.2 hc hE)
      clear k1 k2 j1 j2 KD R6 O6
      cases hq : h2.temp with
      | none =>
        have kT := Lib.hid (tempH X6 e6 HOK2.out HSZ2.out hq)
        go_upto_region 11 with (go_at_call 16; (with_reducible refine callTmp0 kT.out ?_); intro A7 c7 w7 _ _ _ b7)
        have X8 := X6.step (below_step b7 (alloc_below5 w7 (.cells (plan0.arr A7 c7) 24)))
        generalize hW8 : w7.alloc (.cells (plan0.arr A7 c7) 24) = W8 at X8
        have hW8' : World.alloc w7 _ = W8 := hW8
        try rw [hW8']
        clear hW8 hW8' b7 kT
        have kA := Lib.hid (activeH X8 e6 HOK2.out HSZ2.out rfl)
        have HX8 := Lib.hid X8
        have HE6 := Lib.hid e6
        clear X8 e6 X6
        go_wp2_with (first
          | (go_at_call 19; (with_reducible refine callOwn kA.out ?_); intro A9 c9 w9 hc9 hE9 _ b9)
          | (go_at_call 11; (with_reducible refine callR (KC.out h2.act HOK2.out.act A9 c9 w9 (HX8.out.step b9).bel hc9 hE9) ?_); intro w10 b10 _ _ _))
        go_roundw
        case rel => exact ⟨i + 1, m6, by omega, by go_num, (HX8.out.step b9).step b10, by rw [HE6.out]; exact HOK2.out, by rw [HE6.out]; exact HSZ2.out⟩
        case measure => simp [intOf]; omega
      | some q =>
        have kT := Lib.hid (tempH X6 e6 HOK2.out HSZ2.out hq)
        have HQ := Lib.hid (HOK2.out.temp q hq)
        clear hq
        go_upto_region 11 with (go_at_call 16; (with_reducible refine callTmp1 kT.out ?_); intro A7 c7 w7 hc7 hE7 _ b7)
        have Q8 := Blk.new w7 (q.arr A7 c7) 24
        have F8 := hE7.below (B := 0) (alloc_below5 w7 (.cells (q.arr A7 c7) 24))
        have X8 := X6.step (below_step b7 (alloc_below5 w7 (.cells (q.arr A7 c7) 24)))
        generalize hW8 : w7.alloc (.cells (q.arr A7 c7) 24) = W8 at X8 Q8 F8
        have hW8' : World.alloc w7 _ = W8 := hW8
        try rw [hW8']
        clear hW8 hW8' b7 kT hE7
        generalize w7.heap.size = gq at Q8 ⊢
        have kA := Lib.hid (activeH X8 e6 HOK2.out HSZ2.out rfl)
        have HX8 := Lib.hid X8
        have HE6 := Lib.hid e6
        have HQ8 := Lib.hid Q8
        have HF8 := Lib.hid F8
        clear X8 e6 X6 Q8 F8
        go_wp2_with (first
          | (go_at_call 19; (with_reducible refine callOwn kA.out ?_); intro A9 c9 w9 hc9 hE9 _ b9)
          | (go_at_call 11; (with_reducible refine callR (KC.out h2.act HOK2.out.act A9 c9 w9 (HX8.out.step b9).bel hc9 hE9) ?_); intro w10 b10 _ _ _; have b11 := below_step b9 b10; have i5 : Has_plan w10 gq 0 := ⟨_, (HQ8.out.step b11).is_plan rfl⟩; have i6 : of_plan w10 gq 0 = q.arr A7 c7 := of_plan_eq ((HQ8.out.step b11).is_plan rfl))
          | (go_at_call 11; (with_reducible refine callR (KC.out q HQ.out A7 c7 w10 (HX8.out.step b11).bel hc7 (HF8.out.below (B := 0) b11)) ?_); intro w12 b12 _ _ _))
        go_roundw
        case rel => exact ⟨i + 1, m6, by omega, by go_num, (HX8.out.step b11).step b12, by rw [HE6.out]; exact HOK2.out, by rw [HE6.out]; exact HSZ2.out⟩
        case measure => simp [intOf]; omega
    · have hlt' : ¬ (i : Int) < (l.length : Int) := by omega
      have BX := X.bel
      clear X
      go_wp2
      go_ret
      exact Ret.bool rfl (below_step B1 BX)
end Go.Proofs.YtlggdgpdfepppaaGreatDoor
namespace Go.Proofs.YtlggdgpdfepppaaGreatDoor
open Go.RowKit Go.Sort
set_option linter.unusedVariables false
set_option linter.unusedSimpArgs false
set_option maxRecDepth 100000
theorem sameB_selfH (p : Plan) : sameB p p = true := by simp [sameB, (eqGo_iff p.es p.es).2 rfl]
theorem Has_plan_drewH (W : World) (b o : Nat) : Has_plan W.drew b o = Has_plan W b o := propext ⟨fun h => h, fun h => h⟩
theorem of_plan_drewH (W : World) (b o : Nat) : of_plan W.drew b o = of_plan W b o := rfl
attribute [local go_sem] SzIs_act Ones_act rhArr_sz rhArr_ones Has_plan_drewH of_plan_drewH
set_option maxHeartbeats 16000000 in
theorem lawHisActive_any (d : DBs) (G : GDB) (p : Plan) (A : Option Addr) (c : Nat) (l : List ActV) (B : Option Addr) (cb : Nat) (w : World) (hO : Open24 w) (hD : GdAt w d G) (hS : G.short) (hp : p.small) (hc : p.es.length ≤ c) (hE : Ents w A p.es)
    (hl : l.length ≤ cb) (hB : ActsAt w B l) (hln : l.length ≤ 1000000000) (hb : ∀ x ∈ l, x.bnd 1000000000) :
    Calls Tryz.prog 6 #[.agg d.cells, .agg (p.arr A c), .slice B l.length cb] w (Ret w (.bool true)) := by
  have hsz := hD.db.ok.size
  go_enter Tryz.func6, Tryz.ntmps6
  go_upto_region 1 with (fail)
  have D0 : Blk ((w.alloc (.cells d.cells 48)).alloc (.cells (p.arr A c) 24)) w.heap.size d.cells := (Blk.new w _ _).alloc _
  have P0 : Blk ((w.alloc (.cells d.cells 48)).alloc (.cells (p.arr A c) 24)) (w.heap.size + 1) (p.arr A c) := by rw [← World.size_alloc w (.cells d.cells 48)]; exact Blk.new _ _ _
  have B0 : Below w.heap.size w ((w.alloc (.cells d.cells 48)).alloc (.cells (p.arr A c) 24)) := by go_grown
  generalize hW0 : World.alloc (World.alloc w _) _ = W0
  have hW0' : (w.alloc (.cells d.cells 48)).alloc (.cells (p.arr A c) 24) = W0 := hW0
  rw [hW0'] at D0 P0 B0
  clear hW0 hW0'
  generalize w.heap.size + 1 = gp at P0 ⊢
  obtain ⟨gd, hgd⟩ : ∃ g, g = w.heap.size := ⟨_, rfl⟩
  rw [← hgd] at D0 ⊢
  clear hgd
  go_upto_region 3 with (go_at_call 8; (with_reducible refine callR (awake24_any W0 (hO.below B0)) ?_); intro w1 b1 _ _ _)
  have D1 := D0.step b1
  have P1 := P0.step b1
  have B1 := below_step B0 b1
  clear D0 P0 B0 b1
  have i1 : Has_plan w1 gp 0 := ⟨_, P1.is_plan rfl⟩
  have i2 : of_plan w1 gp 0 = p.arr A c := of_plan_eq (P1.is_plan rfl)
  have ko := Lib.hid (open24_any p A c w1 (hO.below B1).laid hp hc (hE.below (B := 0) B1))
  by_cases hz : planCheck p = 0
  case neg =>
    go_wp2_with (go_at_call 13; (with_reducible refine callOpen0 ko.out hz ?_); intro w2 b2)
    go_ret
    exact Ret.bool rfl (below_step (below_step B1 b2) (alloc_below5 _ _))
  case pos =>
  have HZ := Lib.hid hz
  clear hz
  go_upto_region 4 with (go_at_call 13; (with_reducible refine callOpen1 ko.out HZ.out ?_); intro g A0 c0 A1 c1 w2 X2 _)
  have X3 := X2.alloc (.cells (rhArr p A1 c1) 34)
  generalize hW3 : w2.alloc (.cells (rhArr p A1 c1) 34) = W3 at X3
  have hW3' : World.alloc w2 _ = W3 := hW3
  try rw [hW3']
  clear hW3 hW3' ko i1 i2
  have D3 := D1.below X3.bel D1.lt
  have k1 : Has_db W3 gd 0 := ⟨_, D3.is_db hsz⟩
  have k2 : of_db W3 gd 0 = d.cells := of_db_eq (D3.is_db hsz)
  have kf := Lib.hid (fun W (b : Below w1.heap.size w1 W) => few24_any d G W (hD.below (below_step B1 b)) B l.length cb)
  have HX3 := Lib.hid X3
  have HD3 := Lib.hid D3
  clear X2 X3 D3
  generalize fewG d G l.length = bf at kf
  cases bf with
  | false =>
    go_wp2_with (go_at_call 14; (with_reducible refine callR (kf.out _ HX3.out.bel) ?_); intro w4 b4 _ _ _)
    go_ret
    exact Ret.bool rfl (below_step B1 ((HX3.out.step b4).bel))
  | true =>
  go_upto_region 8 with (go_at_call 14; (with_reducible refine callR (kf.out _ HX3.out.bel) ?_); intro w4 b4 _ _ _)
  have HX4 := Lib.hid (HX3.out.step b4)
  have HP1 := Lib.hid P1
  clear kf HD3 HX3 k1 k2 b4 P1
  go_wp2
  go_loopw [33] (fun iv wr => ∃ (i : Nat) (m : HM), i ≤ l.length ∧ iv = .int .i64 i ∧ His w1 wr g m ∧ m.abs.ok ∧ m.abs.sz ∧ m.abs.act = p) (fun iv _ => l.length - (intOf iv).toNat)
  case atStart => exact ⟨0, _, Nat.zero_le _, rfl, HX4.out, histNew_ok HZ.out, Hist.sz_new _, rfl⟩
  case round =>
    obtain ⟨i, m, hi, rfl, X, ok, sz, hact0⟩ := hrel
    by_cases hlt : i < l.length
    · obtain ⟨b, off, A', c', rfl, hact, hc', hE'⟩ := hB.get hlt
      have hbd := hb _ (List.getElem_mem hlt)
      have BX := below_step B1 X.bel
      have i3 : Has_act wr b (off + i * 18) := ⟨_, hact wr BX⟩
      have i4 : of_act wr b (off + i * 18) = actArr l[i] A' c' := of_act_eq (hact wr BX)
      generalize l[i] = a at *
      have hlt' : (i : Int) < (l.length : Int) := by omega
      have hlc : i < cb := by omega
      have HX := Lib.hid X
      have HOK := Lib.hid ok
      have HSZ := Lib.hid sz
      have HAC := Lib.hid hact0
      clear X ok sz BX hact hact0
      go_upto_region 11 with (fail)
      have Y5 := Blk.new wr (actArr a A' c') 68
      have D5 := alloc_below5 wr (.cells (actArr a A' c') 68)
      have X5 := HX.out.step D5
      clear i3 i4
      generalize hW5 : wr.alloc (.cells (actArr a A' c') 68) = W5 at Y5 D5 X5
      have hW5' : World.alloc wr _ = W5 := hW5
      try rw [hW5']
      clear hW5 hW5'
      generalize wr.heap.size = ga at Y5 ⊢
      obtain ⟨k, hk⟩ : ∃ k : Nat, a.kind = (k : Int) := ⟨a.kind.toNat, by have := hbd.1.1; omega⟩
      have k0 : W5.cell? ⟨ga, 0, none⟩ = some (.int .u8 (k : Int)) := (Y5.cell 0).trans (by rw [← hk]; rfl)
      go_upto_region 12 with (fail)
      obtain ⟨r, hr⟩ : ∃ r : Int, r = (k : Int) % 9 := ⟨_, rfl⟩
      rw [← hr]
      have DD := D1.below X5.bel D1.lt
      have k1 : Has_db W5 gd 0 := ⟨_, DD.is_db hsz⟩
      have k2 : of_db W5 gd 0 = d.cells := of_db_eq (DD.is_db hsz)
      have j1 : Has_act W5 ga 0 := ⟨_, Y5.is_act rfl⟩
      have j2 : of_act W5 ga 0 = actArr a A' c' := of_act_eq (Y5.is_act rfl)
      have O1 := hO.below B1
      have KD := Lib.hid (do24_any (lookG G) d.cells a A' c' W5 g m X5 O1.laid hsz hbd.1.1 hbd.1.2 (PlW.old X5 hc' (hE'.below (B := 0) B1)) (hbd.2.2.small (by decide)) (HBnd.of X5 HOK.out HSZ.out)
        (apply_hist d G w1 O1.laid O1.forms O1.gap (hD.below B1) hS m.abs HOK.out a.e hbd.2.1) (fun h => applyS_len h))
      have OK2 := HOK.out.step (L := lookG G) a
      have SZ2 := Hist.sz_step HSZ.out (lookG G) a
      have AC2 := Lib.hid (fun h5 h7 => (Hist.step_act (lookG G) m.abs a h5 h7).trans HAC.out)
      have HX5 := Lib.hid X5
      clear X5 O1 Y5 k0
      by_cases h57 : r = 5 ∨ r = 7
      · have HXE := Lib.hid (show ∃ m', His w1 W5 g m' ∧ m'.abs.ok ∧ m'.abs.sz ∧ m'.abs.act = p from ⟨m, HX5.out, HOK.out, HSZ.out, HAC.out⟩)
        clear KD OK2 SZ2 AC2 HX5 HX HOK HSZ HAC DD k1 k2 j1 j2 hr hk
        rcases h57 with rfl | rfl
        all_goals
          go_wp2
          go_roundw
          case rel =>
            obtain ⟨m', q1, q2, q3, q4⟩ := HXE.out
            exact ⟨i + 1, m', by omega, by go_num, q1, q2, q3, q4⟩
          case measure => simp [intOf]; omega
      have hn5 : (r == 5) = false := by simp; omega
      have hn7 : (r == 7) = false := by simp; omega
      have AC2 := Lib.hid (AC2.out (by rw [hk]; omega) (by rw [hk]; omega))
      generalize m.abs.step (lookG G) a = R at KD OK2 SZ2 AC2
      obtain ⟨h2, er⟩ := R
      have HOK2 := Lib.hid OK2
      have HSZ2 := Lib.hid SZ2
      clear OK2 SZ2 HOK HSZ HX DD hr hk h57
      go_upto_region 14 with (go_at_call 21; (with_reducible refine callH KD.out ?_); intro m6 W6 X6 e6 R6 O6)
      clear k1 k2 j1 j2 KD R6 O6
      have kA := Lib.hid (activeH X6.drw e6 HOK2.out HSZ2.out AC2.out)
      have P6 := HP1.out.below X6.bel HP1.out.lt
      have F6 := hE.below (B := 0) (below_step B1 X6.bel)
      have i1 : Has_plan W6 gp 0 := ⟨_, P6.is_plan rfl⟩
      have i2 : of_plan W6 gp 0 = p.arr A c := of_plan_eq (P6.is_plan rfl)
      have KS := Lib.hid (fun (A9 : Option Addr) (c9 : Nat) (W : World) (b : Below W6.heap.size W6 W) (h9 : p.es.length ≤ c9) (hE9 : Ents W A9 p.es) =>
        show Calls Tryz.prog 17 #[.agg (p.arr A9 c9), .agg (p.arr A c)] W (Ret W (.bool true)) from sameB_selfH p ▸ same_any p p A9 A c9 c W hp.len hp.len h9 hc hE9 (F6.below (B := 0) b))
      have KP := Lib.hid (fun (W : World) (b : Below W6.heap.size W6 W) => (⟨⟨_, (P6.step b).is_plan rfl⟩, of_plan_eq ((P6.step b).is_plan rfl)⟩ : Has_plan W gp 0 ∧ of_plan W gp 0 = p.arr A c))
      have HX6 := Lib.hid X6
      have HE6 := Lib.hid e6
      clear X6 e6 P6 F6
      go_cut [54] (fun sv wx => sv = .bool false ∧ Below W6.heap.size W6 wx)
      case first =>
        go_region_with (first
          | (go_at_call 19; (with_reducible refine callOwn kA.out ?_); intro A9 c9 w9 hc9 hE9 _ b9; have b10 := below_step (Below.refl W6.heap.size W6).drew b9; have i3 := (KP.out w9 b10).1; have i4 := (KP.out w9 b10).2)
          | (go_at_call 17; (with_reducible refine callR (KS.out A9 c9 w9 b10 hc9 hE9) ?_); intro w11 b11 _ _ _))
        all_goals
          go_wp2
          go_meet
          exact ⟨rfl, below_step b10 b11⟩
      case rest =>
        obtain ⟨rfl, BC⟩ := hcut
        have X7 := HX6.out.step BC
        have HX7 := Lib.hid X7
        clear X7 BC kA KS KP i1 i2
        go_wp2
        go_roundw
        case rel => exact ⟨i + 1, m6, by omega, by go_num, HX7.out, by rw [HE6.out]; exact HOK2.out, by rw [HE6.out]; exact HSZ2.out, by rw [HE6.out]; exact AC2.out⟩
        case measure => simp [intOf]; omega
    · have hlt' : ¬ (i : Int) < (l.length : Int) := by omega
      have BX := X.bel
      clear X
      go_wp2
      go_ret
      exact Ret.bool rfl (below_step B1 BX)
end Go.Proofs.YtlggdgpdfepppaaGreatDoor
namespace Go.Proofs.YtlggdgpdfepppaaGreatDoor.historyActive
open Go.ChangeShapes Go.WideShapes Go.ChangeAt Go.RowKit
set_option linter.unusedVariables false
set_option linter.unusedSimpArgs false
theorem own : ownKnob Tryz.prog.godebug = none := by kernel_rfl
theorem laidOut : laidOutB Tryz.prog = true := by kernel_rfl
theorem opens {W : World} (h : laidMetH Tryz.prog Rows.historyActiveUptoRow.laid W) (hsh : W.ShapedOpen Tryz.prog) : Open24 W :=
  ⟨laid24_of (l := Rows.historyActiveUptoRow.laid) h hsh (by first | exact List.mem_of_getElem? (i := 0) rfl | exact List.mem_of_getElem? (i := 1) rfl | exact List.mem_of_getElem? (i := 2) rfl | exact List.mem_of_getElem? (i := 3) rfl | exact List.mem_of_getElem? (i := 4) rfl | exact List.mem_of_getElem? (i := 5) rfl | exact List.mem_of_getElem? (i := 6) rfl | exact List.mem_of_getElem? (i := 7) rfl | exact List.mem_of_getElem? (i := 8) rfl | exact List.mem_of_getElem? (i := 9) rfl | exact List.mem_of_getElem? (i := 10) rfl | exact List.mem_of_getElem? (i := 11) rfl | exact List.mem_of_getElem? (i := 12) rfl | exact List.mem_of_getElem? (i := 13) rfl), forms_of (l := Rows.historyActiveUptoRow.laid) h (by first | exact List.mem_of_getElem? (i := 0) rfl | exact List.mem_of_getElem? (i := 1) rfl | exact List.mem_of_getElem? (i := 2) rfl | exact List.mem_of_getElem? (i := 3) rfl | exact List.mem_of_getElem? (i := 4) rfl | exact List.mem_of_getElem? (i := 5) rfl | exact List.mem_of_getElem? (i := 6) rfl | exact List.mem_of_getElem? (i := 7) rfl | exact List.mem_of_getElem? (i := 8) rfl | exact List.mem_of_getElem? (i := 9) rfl | exact List.mem_of_getElem? (i := 10) rfl | exact List.mem_of_getElem? (i := 11) rfl | exact List.mem_of_getElem? (i := 12) rfl | exact List.mem_of_getElem? (i := 13) rfl), gap_of (l := Rows.historyActiveUptoRow.laid) h (by first | exact List.mem_of_getElem? (i := 0) rfl | exact List.mem_of_getElem? (i := 1) rfl | exact List.mem_of_getElem? (i := 2) rfl | exact List.mem_of_getElem? (i := 3) rfl | exact List.mem_of_getElem? (i := 4) rfl | exact List.mem_of_getElem? (i := 5) rfl | exact List.mem_of_getElem? (i := 6) rfl | exact List.mem_of_getElem? (i := 7) rfl | exact List.mem_of_getElem? (i := 8) rfl | exact List.mem_of_getElem? (i := 9) rfl | exact List.mem_of_getElem? (i := 10) rfl | exact List.mem_of_getElem? (i := 11) rfl | exact List.mem_of_getElem? (i := 12) rfl | exact List.mem_of_getElem? (i := 13) rfl) (by first | exact List.mem_of_getElem? (i := 0) rfl | exact List.mem_of_getElem? (i := 1) rfl | exact List.mem_of_getElem? (i := 2) rfl | exact List.mem_of_getElem? (i := 3) rfl | exact List.mem_of_getElem? (i := 4) rfl | exact List.mem_of_getElem? (i := 5) rfl | exact List.mem_of_getElem? (i := 6) rfl | exact List.mem_of_getElem? (i := 7) rfl | exact List.mem_of_getElem? (i := 8) rfl | exact List.mem_of_getElem? (i := 9) rfl | exact List.mem_of_getElem? (i := 10) rfl | exact List.mem_of_getElem? (i := 11) rfl | exact List.mem_of_getElem? (i := 12) rfl | exact List.mem_of_getElem? (i := 13) rfl)⟩
set_option maxRecDepth 100000 in
theorem contract (H : Type) (enc : TypeId × Value → H) (W : World) (base : Nat) (args : Array Value) (ds gs : List (DataW H)) (before : List MemPlace)
    (hval : ∀ (j : Nat) t v, Tryz.f6.params[j]? = some t → args[j]? = some v → Value.okWide Tryz.prog W .any base t v)
    (hW : DataW.Whole enc Tryz.prog Tryz.f6.params.toList Rows.historyActiveSpec.vars false W args.toList ds gs before) (hL : laidMetH Tryz.prog Rows.historyActiveUptoRow.laid W) (hsh : W.ShapedOpen Tryz.prog) (hk : Rows.uptoSmall H (ds ++ gs) = true) :
    Calls Tryz.prog 6 args W fun e W' => ∃ v, e = .returned v ∧ Rows.historyActiveSpec.post enc Tryz.prog Tryz.f6 false true false false W args v W' := by
  have OP := opens hL hsh
  have hW' := hW
  obtain ⟨p, q, hA0, hV, rfl, hfz, hnd⟩ := hW
  have hA : DataW.TrodAll enc Tryz.prog W 0 (fun _ => true) true Tryz.f6.params.toList args.toList ds p := hA0
  rw [Tryz.params6] at hA hval
  obtain ⟨v0, vs0, d0, ds0, pl0, ql0, hargs, rfl, rfl, h0, r0⟩ := trodAll_cons hA
  obtain ⟨v1, vs1, d1, ds1, pl1, ql1, rfl, rfl, rfl, h1, r1⟩ := trodAll_cons r0
  obtain ⟨v2, vs2, d2, ds2, pl2, ql2, rfl, rfl, rfl, h2, r2⟩ := trodAll_cons r1
  obtain ⟨rfl, rfl, rfl⟩ := trodAll_nil r2
  obtain rfl : args = #[v0, v1, v2] := by cases args; simp_all
  obtain ⟨rfl, rfl⟩ := trodVars_none hV
  have hb := of_decide_eq_true hk
  simp only [List.append_nil, Rows.uptoBulkAll] at hb
  have hk0 := h0
  obtain ⟨d0, G0, rfl, D0, S0⟩ := open_gdbT (hval 0 48 v0 rfl rfl) h0 (by omega)
  have hk1 := h1
  obtain ⟨p1, A1, c1, rfl, q1, E1, b1, s1, f1, t1⟩ := open_planB (hval 1 24 v1 rfl rfl) h1
  have hk2 := h2
  obtain ⟨l2, A2, c2, rfl, q2, I2, n2, b2⟩ := open_actsT (hval 2 66 v2 rfl rfl) h2
  have walk := lawHisActive_any d0 G0 p1 A1 c1 l2 A2 c2 W OP D0 S0 (s1 (by omega)) q1 E1 q2 I2 (by omega) (fun x hx => (b2 x hx).mono (by omega))
  refine walk.mono fun e W' ⟨he, hg⟩ => ?_
  subst he
  have hl0 : ∀ x ∈ pl0, x.block < W.heap.size := fun x hx => by simpa using hW'.lt x (by simp [hx])
  have hl1 : ∀ x ∈ pl1, x.block < W.heap.size := fun x hx => by simpa using hW'.lt x (by simp [hx])
  have hl2 : ∀ x ∈ pl2, x.block < W.heap.size := fun x hx => by simpa using hW'.lt x (by simp [hx])
  refine ⟨_, rfl, _, _, _, [], (pl0 ++ (pl1 ++ (pl2 ++ []))), [], hW', ?_, ?_, rfl, ?_, fun h => by cases h⟩
  · exact trodAll_cons_mk (shut_bool Tryz.underlying4 _) trodAll_mk0
  · exact (trodAll_cons_mk (Below.trod laidOut (by kernel_rfl) (of_decide_eq_true (by kernel_rfl)) hk0 hg hl0) (trodAll_cons_mk (Below.trod laidOut (by kernel_rfl) (of_decide_eq_true (by kernel_rfl)) hk1 hg hl1) (trodAll_cons_mk (Below.trod laidOut (by kernel_rfl) (of_decide_eq_true (by kernel_rfl)) hk2 hg hl2) trodAll_mk0)))
  · exact hg.frame _
theorem reads (os : Os) {H : Type} (enc : TypeId × Value → H) : ∃ places, DataW.whole enc Tryz.prog ((World.laidAll Tryz.prog os Rows.historyActiveUptoRow.laid).forCall (fun _ _ => 0) ⟨#[], #[.agg #[.string ⟨#[]⟩, .int .i64 0, .int .i64 0, .int .i64 0, .int .i64 0, .int .i64 0, .slice none 0 0, .slice none 0 0, .slice none 0 0], .agg #[.string ⟨#[]⟩, .string ⟨#[]⟩, .slice none 0 0, .int .i64 0], .slice none 0 0], []⟩).memory Tryz.f6.params.toList Rows.historyActiveSpec.vars false (#[.agg #[.string ⟨#[]⟩, .int .i64 0, .int .i64 0, .int .i64 0, .int .i64 0, .int .i64 0, .slice none 0 0, .slice none 0 0, .slice none 0 0], .agg #[.string ⟨#[]⟩, .string ⟨#[]⟩, .slice none 0 0, .int .i64 0], .slice none 0 0] : Array Value).toList 8 = some ([.agg [.agg [.lit (.string []), .lit (.int .i64 0), .lit (.int .i64 0), .lit (.int .i64 0), .agg [.lit (.int .i64 0), .lit (.int .i64 0)]], .nil, .nil, .nil], .agg [.lit (.string []), .lit (.string []), .nil, .lit (.int .i64 0)], .nil], [], places) :=
  ⟨[], by kernel_rfl⟩
set_option maxRecDepth 100000 in
theorem liftedUpto (os : Os) (started : os.Started) (H : Type) (enc : TypeId × Value → H) (F : Stop.Interp) :
    ReturnsInHanded {} Tryz.checked os 6 .any ((Rows.OpenSpec.upto Rows.historyActiveSpec).preRow enc Tryz.prog Tryz.f6 Rows.historyActiveUptoRow.domain false Rows.historyActiveUptoRow.laid) (((Rows.OpenSpec.upto Rows.historyActiveSpec).at F).post enc Tryz.prog Tryz.f6 false true false false) := by
  obtain ⟨places, hx⟩ := reads os enc
  refine returnsInHanded_of_row (C := Tryz.checked) (s := Rows.OpenSpec.upto Rows.historyActiveSpec) own started (by kernel_rfl) Tryz.func6
    (witness_row_atRef (enc := enc) (C := Tryz.checked) false (World.laidAll Tryz.prog os Rows.historyActiveUptoRow.laid) #[.agg #[.string ⟨#[]⟩, .int .i64 0, .int .i64 0, .int .i64 0, .int .i64 0, .int .i64 0, .slice none 0 0, .slice none 0 0, .slice none 0 0], .agg #[.string ⟨#[]⟩, .string ⟨#[]⟩, .slice none 0 0, .int .i64 0], .slice none 0 0] (World.laidAll_os _ _ _) (by kernel_rfl) (by kernel_rfl) (by kernel_rfl)
      (OpenSpec.preRow_of_cond 8 hx (by kernel_rfl) (fun k hk => by cases hk; kernel_rfl) (by kernel_rfl) (laidMet_laidAll _ (by kernel_rfl) (by kernel_rfl)))) ?_
  intro W base args ds gs before hval hW _ hcond _ hL hsh _
  exact contract H enc W base args ds gs before hval hW hL hsh (hcond _ rfl)
set_option maxHeartbeats 40000000 in
theorem saidUpto : Rows.HistoryActiveUptoSaid :=
  OpenClaim.holds_of_cond 6 Tryz.f6 rfl rfl rfl rfl rfl rfl rfl ⟨rfl, rfl, rfl, rfl, rfl⟩ rfl rfl rfl rfl rfl (by as_aux_lemma => kernel_rfl) Tryz.func6 (by
      unfold joinedFacts
      simp only [Bool.and_eq_true]
      repeat' apply And.intro
      all_goals (as_aux_lemma => kernel_rfl))
    (of_decide_eq_true (by as_aux_lemma => kernel_rfl)) (by unfold Func.isWrapper; first | (rw [if_pos (by decide +kernel)]; kernel_rfl) | (rw [if_neg (by decide +kernel)]; exact ⟨rfl, rfl⟩))
    (fun os started H enc _ F => by rw [OpenClaim.pre_eq_preRow]; exact liftedUpto os started H enc F)
theorem plain (f : FuncId) (fn : Func) (hf : Tryz.pinned.checked.prog.funcNamed "flightdeck/flightdecklaw24.HistoryActive" = some f) (hfn : Tryz.pinned.checked.prog.funcs[f]? = some fn) :
    false = Tryz.pinned.checked.prog.looks [] ∧ ∀ (j : Nat) t, fn.params[j]? = some t → Tryz.pinned.checked.prog.wantsStandIn t = false := by
  obtain rfl : f = 6 := Option.some.inj ((show Tryz.prog.funcNamed "flightdeck/flightdecklaw24.HistoryActive" = some 6 by kernel_rfl).symm.trans hf) |>.symm
  obtain rfl : fn = Tryz.f6 := (Option.some.inj (Tryz.func6.symm.trans hfn)).symm
  refine ⟨by kernel_rfl, fun j t ht => ?_⟩
  rw [Tryz.params6] at ht
  have hm := Array.mem_of_getElem? ht
  have h : t = 48 ∨ t = 24 ∨ t = 66 := by simpa using hm
  rcases h with rfl | rfl | rfl
  · exact (show Tryz.prog.wantsStandIn 48 = false by kernel_rfl)
  · exact (show Tryz.prog.wantsStandIn 24 = false by kernel_rfl)
  · exact (show Tryz.prog.wantsStandIn 66 = false by kernel_rfl)
end Go.Proofs.YtlggdgpdfepppaaGreatDoor.historyActive
namespace Go.Proofs.YtlggdgpdfepppaaGreatDoor
set_option maxHeartbeats 40000000 in
/-- The card of the second form. -/
theorem historyActive_card : Rows.HistoryActiveUptoCardSaid :=
  Claim7.holds_tied_plain_at .later [] _ _ _ _ historyActive.saidUpto (fun _ h => by cases h) (by as_aux_lemma => kernel_rfl) (fun _ h => by cases h) historyActiveUpto_row_tie rfl ⟨rfl, rfl⟩ (by as_aux_lemma => kernel_rfl) rfl historyActive.plain (by as_aux_lemma => kernel_rfl)
end Go.Proofs.YtlggdgpdfepppaaGreatDoor
