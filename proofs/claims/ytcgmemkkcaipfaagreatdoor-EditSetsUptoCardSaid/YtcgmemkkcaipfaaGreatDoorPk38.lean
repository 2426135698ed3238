/- edit: an edit run on the editor; walks. Printed by wip/mkedap.py. -/
import Derived.Test.YtcgmemkkcaipfaaGreatDoorPk37
namespace Go.Proofs.YtcgmemkkcaipfaaGreatDoor
open Go.RowKit Go.Sort
set_option linter.unusedVariables false
set_option linter.unusedSimpArgs false
set_option maxRecDepth 100000
theorem callRun {P : Program} {f : FuncId} {args : Array Value} {w W : World} {g : Nat} {x : Edr} {r : EdR} {K : Ending → World → Prop} (h : Calls P f args W (RetRun w g x r))
    (k : ∀ W', Below w.heap.size w W' → (r.err = 0 → ∃ v', Ed w W' g { x with p := ⟨r.from_, r.to_, x.p.es, r.active⟩, v := v' } r.list) → K (.returned (.int .i64 r.err)) W') : Calls P f args W K :=
  h.mono fun e W' ⟨he, h1, h2⟩ => by subst he; exact k W' h1 h2
/-- What the methods that ask the database do. -/
structure EdHard (w : World) (g : Nat) (x : Edr) (L : Look) : Prop where
  join : ∀ W, Ed w W g x [] → x.e.op = 8 → x.e.at_ < x.p.es.length → Calls Tryz.prog 52 #[.pointer (some ⟨g, 0, none⟩)] W (RetRun w g x (joinS L x.p x.e))
  depart : ∀ W, Ed w W g x [] → x.e.op = 9 → Calls Tryz.prog 53 #[.pointer (some ⟨g, 0, none⟩)] W (RetRun w g x (departS L x.p x.e))
  arrive : ∀ W, Ed w W g x [] → x.e.op = 10 → Calls Tryz.prog 54 #[.pointer (some ⟨g, 0, none⟩), .int .u8 2, .int .u8 3] W (RetRun w g x (arriveS L x.p x.e 2 3))
  approach : ∀ W, Ed w W g x [] → x.e.op = 11 → Calls Tryz.prog 54 #[.pointer (some ⟨g, 0, none⟩), .int .u8 3, .int .u8 4] W (RetRun w g x (arriveS L x.p x.e 3 4))
  divert : ∀ W, Ed w W g x [] → x.e.op = 12 → x.e.at_ < x.p.es.length → Calls Tryz.prog 55 #[.pointer (some ⟨g, 0, none⟩)] W (RetRun w g x (divertS L x.p x.e))
/-- What is known where an edit runs. -/
structure EdPre (w : World) (g : Nat) (x : Edr) (L : Look) : Prop where
  laid : Laid w
  forms : FormsAt w
  gap : GapAt w
  ents : Ents w x.A x.p.es
  cap : x.p.es.length ≤ x.c
  len : x.p.es.length ≤ 60
  act0 : -1 ≤ x.p.active
  act1 : x.p.active < x.p.es.length
  at0 : 0 ≤ x.e.at_
  ref : x.e.ref.length ≤ 4000000000
  fix : ∃ d l, DBs.cells d = x.db ∧ DbAt w d l ∧ L.pt = pointV d.lat d.lon l
  hard : EdHard w g x L
set_option maxHeartbeats 4000000 in
theorem erun1_any (x : Edr) (g : Nat) (w W : World) (L : Look) (h : Ed w W g x []) (P : EdPre w g x L) (ho : x.e.op = 1) : Calls Tryz.prog 19 #[.pointer (some ⟨g, 0, none⟩)] W (RetRun w g x (runS L x.p x.e)) := by
  have c11 := h.c11
  have c13 := h.c13
  rw [ho] at c13
  have c14 := h.c14
  have f1 : W.cell? ⟨0, 3, none⟩ = some (.string ⟨#[97, 114]⟩) := (P.forms.below h.bel).flds 1 (by decide)
  have ki := Lib.hid (fun W' => show Calls Tryz.prog 41 #[.string ⟨#[97, 114]⟩, .int .u8 97] W' (RetP W' (.int .i64 (0))) from eindex_any [97, 114] 97 W')
  have hfa : (formF x.e.op).contains 97 = true := by rw [ho]; decide
  by_cases h1 : (x.p.es.length : Int) < x.e.at_
  · have HS := Lib.hid (show runS L x.p x.e = .bad 6 by unfold runS; rw [if_pos ⟨hfa, .inl h1⟩])
    have HB := Lib.hid h.bel
    clear h P
    go_enter Tryz.func19, Tryz.ntmps19
    go_wp2_with (go_at_call 41; (with_reducible refine callP (ki.out _) ?_))
    go_ret
    exact RetRun.bad HS.out (by decide) HB.out
  have hat1 : x.e.at_ ≤ x.p.es.length := by omega
  have HS := Lib.hid (show runS L x.p x.e = insertS L x.p x.e by unfold runS; rw [if_neg (by rintro ⟨_, h | ⟨_, h⟩⟩ <;> omega), if_pos ho])
  have K := Lib.hid (einsert_any x g w W h P.laid P.ents P.cap P.len P.act0 P.at0 hat1 P.gap L P.fix P.ref)
  clear h P
  generalize insertS L x.p x.e = r at K HS
  go_enter Tryz.func19, Tryz.ntmps19
  go_wp2_with (first
    | (go_at_call 41; (with_reducible refine callP (ki.out _) ?_))
    | (go_at_call 47; (with_reducible refine callRun K.out ?_); intro W' b' k'))
  all_goals
    go_ret
    rw [HS.out]
    exact ⟨rfl, b', k'⟩
set_option maxHeartbeats 4000000 in
theorem erun2_any (x : Edr) (g : Nat) (w W : World) (L : Look) (h : Ed w W g x []) (P : EdPre w g x L) (ho : x.e.op = 2) : Calls Tryz.prog 19 #[.pointer (some ⟨g, 0, none⟩)] W (RetRun w g x (runS L x.p x.e)) := by
  have c11 := h.c11
  have c13 := h.c13
  rw [ho] at c13
  have c14 := h.c14
  have f1 : W.cell? ⟨0, 5, none⟩ = some (.string ⟨#[97]⟩) := (P.forms.below h.bel).flds 2 (by decide)
  have ki := Lib.hid (fun W' => show Calls Tryz.prog 41 #[.string ⟨#[97]⟩, .int .u8 97] W' (RetP W' (.int .i64 (0))) from eindex_any [97] 97 W')
  have hfa : (formF x.e.op).contains 97 = true := by rw [ho]; decide
  by_cases h1 : (x.p.es.length : Int) < x.e.at_
  · have HS := Lib.hid (show runS L x.p x.e = .bad 6 by unfold runS; rw [if_pos ⟨hfa, .inl h1⟩])
    have HB := Lib.hid h.bel
    clear h P
    go_enter Tryz.func19, Tryz.ntmps19
    go_wp2_with (go_at_call 41; (with_reducible refine callP (ki.out _) ?_))
    go_ret
    exact RetRun.bad HS.out (by decide) HB.out
  by_cases h2 : x.e.at_ = x.p.es.length
  · have HS := Lib.hid (show runS L x.p x.e = .bad 6 by unfold runS; rw [if_pos ⟨hfa, .inr ⟨h2, by rw [ho]; decide⟩⟩])
    have HB := Lib.hid h.bel
    rw [h2] at c14
    clear h P h1
    go_enter Tryz.func19, Tryz.ntmps19
    go_wp2_with (go_at_call 41; (with_reducible refine callP (ki.out _) ?_))
    go_ret
    exact RetRun.bad HS.out (by decide) HB.out
  have hat : x.e.at_ < x.p.es.length := by omega
  have h2' : (x.e.at_ == (x.p.es.length : Int)) = false := by simpa using h2
  have HS := Lib.hid (show runS L x.p x.e = deleteS x.p x.e by unfold runS; rw [if_neg (by rintro ⟨_, h | ⟨h, _⟩⟩ <;> omega), ho]; rfl)
  have K := Lib.hid (edelete_any x g w W h P.ents P.cap P.len P.act0 hat P.gap)
  clear h P
  generalize deleteS x.p x.e = r at K HS
  go_enter Tryz.func19, Tryz.ntmps19
  go_wp2_with (first
    | (go_at_call 41; (with_reducible refine callP (ki.out _) ?_))
    | (go_at_call 48; (with_reducible refine callRun K.out ?_); intro W' b' k'))
  all_goals
    go_ret
    rw [HS.out]
    exact ⟨rfl, b', k'⟩
set_option maxHeartbeats 4000000 in
theorem erun3_any (x : Edr) (g : Nat) (w W : World) (L : Look) (h : Ed w W g x []) (P : EdPre w g x L) (ho : x.e.op = 3) : Calls Tryz.prog 19 #[.pointer (some ⟨g, 0, none⟩)] W (RetRun w g x (runS L x.p x.e)) := by
  have c11 := h.c11
  have c13 := h.c13
  rw [ho] at c13
  have c14 := h.c14
  have f1 : W.cell? ⟨0, 7, none⟩ = some (.string ⟨#[97]⟩) := (P.forms.below h.bel).flds 3 (by decide)
  have ki := Lib.hid (fun W' => show Calls Tryz.prog 41 #[.string ⟨#[97]⟩, .int .u8 97] W' (RetP W' (.int .i64 (0))) from eindex_any [97] 97 W')
  have hfa : (formF x.e.op).contains 97 = true := by rw [ho]; decide
  by_cases h1 : (x.p.es.length : Int) < x.e.at_
  · have HS := Lib.hid (show runS L x.p x.e = .bad 6 by unfold runS; rw [if_pos ⟨hfa, .inl h1⟩])
    have HB := Lib.hid h.bel
    clear h P
    go_enter Tryz.func19, Tryz.ntmps19
    go_wp2_with (go_at_call 41; (with_reducible refine callP (ki.out _) ?_))
    go_ret
    exact RetRun.bad HS.out (by decide) HB.out
  by_cases h2 : x.e.at_ = x.p.es.length
  · have HS := Lib.hid (show runS L x.p x.e = .bad 6 by unfold runS; rw [if_pos ⟨hfa, .inr ⟨h2, by rw [ho]; decide⟩⟩])
    have HB := Lib.hid h.bel
    rw [h2] at c14
    clear h P h1
    go_enter Tryz.func19, Tryz.ntmps19
    go_wp2_with (go_at_call 41; (with_reducible refine callP (ki.out _) ?_))
    go_ret
    exact RetRun.bad HS.out (by decide) HB.out
  have hat : x.e.at_ < x.p.es.length := by omega
  have h2' : (x.e.at_ == (x.p.es.length : Int)) = false := by simpa using h2
  have HS := Lib.hid (show runS L x.p x.e = directS x.p x.e by unfold runS; rw [if_neg (by rintro ⟨_, h | ⟨h, _⟩⟩ <;> omega), ho]; rfl)
  have K := Lib.hid (edirectTo_any x g w W h P.ents P.cap P.len P.at0 hat P.gap)
  clear h P
  generalize directS x.p x.e = r at K HS
  go_enter Tryz.func19, Tryz.ntmps19
  go_wp2_with (first
    | (go_at_call 41; (with_reducible refine callP (ki.out _) ?_))
    | (go_at_call 49; (with_reducible refine callRun K.out ?_); intro W' b' k'))
  all_goals
    go_ret
    rw [HS.out]
    exact ⟨rfl, b', k'⟩
set_option maxHeartbeats 4000000 in
theorem erun4_any (x : Edr) (g : Nat) (w W : World) (L : Look) (h : Ed w W g x []) (P : EdPre w g x L) (ho : x.e.op = 4) : Calls Tryz.prog 19 #[.pointer (some ⟨g, 0, none⟩)] W (RetRun w g x (runS L x.p x.e)) := by
  have c11 := h.c11
  have c13 := h.c13
  rw [ho] at c13
  have c14 := h.c14
  have f1 : W.cell? ⟨0, 9, none⟩ = some (.string ⟨#[97, 104]⟩) := (P.forms.below h.bel).flds 4 (by decide)
  have ki := Lib.hid (fun W' => show Calls Tryz.prog 41 #[.string ⟨#[97, 104]⟩, .int .u8 97] W' (RetP W' (.int .i64 (0))) from eindex_any [97, 104] 97 W')
  have hfa : (formF x.e.op).contains 97 = true := by rw [ho]; decide
  by_cases h1 : (x.p.es.length : Int) < x.e.at_
  · have HS := Lib.hid (show runS L x.p x.e = .bad 6 by unfold runS; rw [if_pos ⟨hfa, .inl h1⟩])
    have HB := Lib.hid h.bel
    clear h P
    go_enter Tryz.func19, Tryz.ntmps19
    go_wp2_with (go_at_call 41; (with_reducible refine callP (ki.out _) ?_))
    go_ret
    exact RetRun.bad HS.out (by decide) HB.out
  by_cases h2 : x.e.at_ = x.p.es.length
  · have HS := Lib.hid (show runS L x.p x.e = .bad 6 by unfold runS; rw [if_pos ⟨hfa, .inr ⟨h2, by rw [ho]; decide⟩⟩])
    have HB := Lib.hid h.bel
    rw [h2] at c14
    clear h P h1
    go_enter Tryz.func19, Tryz.ntmps19
    go_wp2_with (go_at_call 41; (with_reducible refine callP (ki.out _) ?_))
    go_ret
    exact RetRun.bad HS.out (by decide) HB.out
  have hat : x.e.at_ < x.p.es.length := by omega
  have h2' : (x.e.at_ == (x.p.es.length : Int)) = false := by simpa using h2
  have HS := Lib.hid (show runS L x.p x.e = setS x.p x.e by unfold runS; rw [if_neg (by rintro ⟨_, h | ⟨h, _⟩⟩ <;> omega), ho]; rfl)
  have K := Lib.hid (eset_any x g w W h P.ents P.cap P.len P.at0 hat (by omega))
  clear h P
  generalize setS x.p x.e = r at K HS
  go_enter Tryz.func19, Tryz.ntmps19
  go_wp2_with (first
    | (go_at_call 41; (with_reducible refine callP (ki.out _) ?_))
    | (go_at_call 50; (with_reducible refine callRun K.out ?_); intro W' b' k'))
  all_goals
    go_ret
    rw [HS.out]
    exact ⟨rfl, b', k'⟩
set_option maxHeartbeats 4000000 in
theorem erun5_any (x : Edr) (g : Nat) (w W : World) (L : Look) (h : Ed w W g x []) (P : EdPre w g x L) (ho : x.e.op = 5) : Calls Tryz.prog 19 #[.pointer (some ⟨g, 0, none⟩)] W (RetRun w g x (runS L x.p x.e)) := by
  have c11 := h.c11
  have c13 := h.c13
  rw [ho] at c13
  have c14 := h.c14
  have f1 : W.cell? ⟨0, 11, none⟩ = some (.string ⟨#[97, 115]⟩) := (P.forms.below h.bel).flds 5 (by decide)
  have ki := Lib.hid (fun W' => show Calls Tryz.prog 41 #[.string ⟨#[97, 115]⟩, .int .u8 97] W' (RetP W' (.int .i64 (0))) from eindex_any [97, 115] 97 W')
  have hfa : (formF x.e.op).contains 97 = true := by rw [ho]; decide
  by_cases h1 : (x.p.es.length : Int) < x.e.at_
  · have HS := Lib.hid (show runS L x.p x.e = .bad 6 by unfold runS; rw [if_pos ⟨hfa, .inl h1⟩])
    have HB := Lib.hid h.bel
    clear h P
    go_enter Tryz.func19, Tryz.ntmps19
    go_wp2_with (go_at_call 41; (with_reducible refine callP (ki.out _) ?_))
    go_ret
    exact RetRun.bad HS.out (by decide) HB.out
  by_cases h2 : x.e.at_ = x.p.es.length
  · have HS := Lib.hid (show runS L x.p x.e = .bad 6 by unfold runS; rw [if_pos ⟨hfa, .inr ⟨h2, by rw [ho]; decide⟩⟩])
    have HB := Lib.hid h.bel
    rw [h2] at c14
    clear h P h1
    go_enter Tryz.func19, Tryz.ntmps19
    go_wp2_with (go_at_call 41; (with_reducible refine callP (ki.out _) ?_))
    go_ret
    exact RetRun.bad HS.out (by decide) HB.out
  have hat : x.e.at_ < x.p.es.length := by omega
  have h2' : (x.e.at_ == (x.p.es.length : Int)) = false := by simpa using h2
  have HS := Lib.hid (show runS L x.p x.e = setS x.p x.e by unfold runS; rw [if_neg (by rintro ⟨_, h | ⟨h, _⟩⟩ <;> omega), ho]; rfl)
  have K := Lib.hid (eset_any x g w W h P.ents P.cap P.len P.at0 hat (by omega))
  clear h P
  generalize setS x.p x.e = r at K HS
  go_enter Tryz.func19, Tryz.ntmps19
  go_wp2_with (first
    | (go_at_call 41; (with_reducible refine callP (ki.out _) ?_))
    | (go_at_call 50; (with_reducible refine callRun K.out ?_); intro W' b' k'))
  all_goals
    go_ret
    rw [HS.out]
    exact ⟨rfl, b', k'⟩
set_option maxHeartbeats 4000000 in
theorem erun6_any (x : Edr) (g : Nat) (w W : World) (L : Look) (h : Ed w W g x []) (P : EdPre w g x L) (ho : x.e.op = 6) : Calls Tryz.prog 19 #[.pointer (some ⟨g, 0, none⟩)] W (RetRun w g x (runS L x.p x.e)) := by
  have c11 := h.c11
  have c13 := h.c13
  rw [ho] at c13
  have c14 := h.c14
  have f1 : W.cell? ⟨0, 13, none⟩ = some (.string ⟨#[97, 100]⟩) := (P.forms.below h.bel).flds 6 (by decide)
  have ki := Lib.hid (fun W' => show Calls Tryz.prog 41 #[.string ⟨#[97, 100]⟩, .int .u8 97] W' (RetP W' (.int .i64 (0))) from eindex_any [97, 100] 97 W')
  have hfa : (formF x.e.op).contains 97 = true := by rw [ho]; decide
  by_cases h1 : (x.p.es.length : Int) < x.e.at_
  · have HS := Lib.hid (show runS L x.p x.e = .bad 6 by unfold runS; rw [if_pos ⟨hfa, .inl h1⟩])
    have HB := Lib.hid h.bel
    clear h P
    go_enter Tryz.func19, Tryz.ntmps19
    go_wp2_with (go_at_call 41; (with_reducible refine callP (ki.out _) ?_))
    go_ret
    exact RetRun.bad HS.out (by decide) HB.out
  by_cases h2 : x.e.at_ = x.p.es.length
  · have HS := Lib.hid (show runS L x.p x.e = .bad 6 by unfold runS; rw [if_pos ⟨hfa, .inr ⟨h2, by rw [ho]; decide⟩⟩])
    have HB := Lib.hid h.bel
    rw [h2] at c14
    clear h P h1
    go_enter Tryz.func19, Tryz.ntmps19
    go_wp2_with (go_at_call 41; (with_reducible refine callP (ki.out _) ?_))
    go_ret
    exact RetRun.bad HS.out (by decide) HB.out
  have hat : x.e.at_ < x.p.es.length := by omega
  have h2' : (x.e.at_ == (x.p.es.length : Int)) = false := by simpa using h2
  have HS := Lib.hid (show runS L x.p x.e = setS x.p x.e by unfold runS; rw [if_neg (by rintro ⟨_, h | ⟨h, _⟩⟩ <;> omega), ho]; rfl)
  have K := Lib.hid (eset_any x g w W h P.ents P.cap P.len P.at0 hat (by omega))
  clear h P
  generalize setS x.p x.e = r at K HS
  go_enter Tryz.func19, Tryz.ntmps19
  go_wp2_with (first
    | (go_at_call 41; (with_reducible refine callP (ki.out _) ?_))
    | (go_at_call 50; (with_reducible refine callRun K.out ?_); intro W' b' k'))
  all_goals
    go_ret
    rw [HS.out]
    exact ⟨rfl, b', k'⟩
set_option maxHeartbeats 4000000 in
theorem erun7_any (x : Edr) (g : Nat) (w W : World) (L : Look) (h : Ed w W g x []) (P : EdPre w g x L) (ho : x.e.op = 7) : Calls Tryz.prog 19 #[.pointer (some ⟨g, 0, none⟩)] W (RetRun w g x (runS L x.p x.e)) := by
  have c11 := h.c11
  have c13 := h.c13
  rw [ho] at c13
  have c14 := h.c14
  have f1 : W.cell? ⟨0, 15, none⟩ = some (.string ⟨#[97, 99, 100, 117]⟩) := (P.forms.below h.bel).flds 7 (by decide)
  have ki := Lib.hid (fun W' => show Calls Tryz.prog 41 #[.string ⟨#[97, 99, 100, 117]⟩, .int .u8 97] W' (RetP W' (.int .i64 (0))) from eindex_any [97, 99, 100, 117] 97 W')
  have hfa : (formF x.e.op).contains 97 = true := by rw [ho]; decide
  by_cases h1 : (x.p.es.length : Int) < x.e.at_
  · have HS := Lib.hid (show runS L x.p x.e = .bad 6 by unfold runS; rw [if_pos ⟨hfa, .inl h1⟩])
    have HB := Lib.hid h.bel
    clear h P
    go_enter Tryz.func19, Tryz.ntmps19
    go_wp2_with (go_at_call 41; (with_reducible refine callP (ki.out _) ?_))
    go_ret
    exact RetRun.bad HS.out (by decide) HB.out
  by_cases h2 : x.e.at_ = x.p.es.length
  · have HS := Lib.hid (show runS L x.p x.e = .bad 6 by unfold runS; rw [if_pos ⟨hfa, .inr ⟨h2, by rw [ho]; decide⟩⟩])
    have HB := Lib.hid h.bel
    rw [h2] at c14
    clear h P h1
    go_enter Tryz.func19, Tryz.ntmps19
    go_wp2_with (go_at_call 41; (with_reducible refine callP (ki.out _) ?_))
    go_ret
    exact RetRun.bad HS.out (by decide) HB.out
  have hat : x.e.at_ < x.p.es.length := by omega
  have h2' : (x.e.at_ == (x.p.es.length : Int)) = false := by simpa using h2
  have HS := Lib.hid (show runS L x.p x.e = holdS x.p x.e by unfold runS; rw [if_neg (by rintro ⟨_, h | ⟨h, _⟩⟩ <;> omega), ho]; rfl)
  have K := Lib.hid (ehold_any x g w W h P.ents P.cap P.len P.at0 hat P.gap)
  clear h P
  generalize holdS x.p x.e = r at K HS
  go_enter Tryz.func19, Tryz.ntmps19
  go_wp2_with (first
    | (go_at_call 41; (with_reducible refine callP (ki.out _) ?_))
    | (go_at_call 51; (with_reducible refine callRun K.out ?_); intro W' b' k'))
  all_goals
    go_ret
    rw [HS.out]
    exact ⟨rfl, b', k'⟩
set_option maxHeartbeats 4000000 in
theorem erun8_any (x : Edr) (g : Nat) (w W : World) (L : Look) (h : Ed w W g x []) (P : EdPre w g x L) (ho : x.e.op = 8) : Calls Tryz.prog 19 #[.pointer (some ⟨g, 0, none⟩)] W (RetRun w g x (runS L x.p x.e)) := by
  have c11 := h.c11
  have c13 := h.c13
  rw [ho] at c13
  have c14 := h.c14
  have f1 : W.cell? ⟨0, 17, none⟩ = some (.string ⟨#[97, 114, 110]⟩) := (P.forms.below h.bel).flds 8 (by decide)
  have ki := Lib.hid (fun W' => show Calls Tryz.prog 41 #[.string ⟨#[97, 114, 110]⟩, .int .u8 97] W' (RetP W' (.int .i64 (0))) from eindex_any [97, 114, 110] 97 W')
  have hfa : (formF x.e.op).contains 97 = true := by rw [ho]; decide
  by_cases h1 : (x.p.es.length : Int) < x.e.at_
  · have HS := Lib.hid (show runS L x.p x.e = .bad 6 by unfold runS; rw [if_pos ⟨hfa, .inl h1⟩])
    have HB := Lib.hid h.bel
    clear h P
    go_enter Tryz.func19, Tryz.ntmps19
    go_wp2_with (go_at_call 41; (with_reducible refine callP (ki.out _) ?_))
    go_ret
    exact RetRun.bad HS.out (by decide) HB.out
  by_cases h2 : x.e.at_ = x.p.es.length
  · have HS := Lib.hid (show runS L x.p x.e = .bad 6 by unfold runS; rw [if_pos ⟨hfa, .inr ⟨h2, by rw [ho]; decide⟩⟩])
    have HB := Lib.hid h.bel
    rw [h2] at c14
    clear h P h1
    go_enter Tryz.func19, Tryz.ntmps19
    go_wp2_with (go_at_call 41; (with_reducible refine callP (ki.out _) ?_))
    go_ret
    exact RetRun.bad HS.out (by decide) HB.out
  have hat : x.e.at_ < x.p.es.length := by omega
  have h2' : (x.e.at_ == (x.p.es.length : Int)) = false := by simpa using h2
  have HS := Lib.hid (show runS L x.p x.e = joinS L x.p x.e by unfold runS; rw [if_neg (by rintro ⟨_, h | ⟨h, _⟩⟩ <;> omega), ho]; rfl)
  have K := Lib.hid (P.hard.join W h ho hat)
  clear h P
  generalize joinS L x.p x.e = r at K HS
  go_enter Tryz.func19, Tryz.ntmps19
  go_wp2_with (first
    | (go_at_call 41; (with_reducible refine callP (ki.out _) ?_))
    | (go_at_call 52; (with_reducible refine callRun K.out ?_); intro W' b' k'))
  all_goals
    go_ret
    rw [HS.out]
    exact ⟨rfl, b', k'⟩
set_option maxHeartbeats 4000000 in
theorem erun9_any (x : Edr) (g : Nat) (w W : World) (L : Look) (h : Ed w W g x []) (P : EdPre w g x L) (ho : x.e.op = 9) : Calls Tryz.prog 19 #[.pointer (some ⟨g, 0, none⟩)] W (RetRun w g x (runS L x.p x.e)) := by
  have c11 := h.c11
  have c13 := h.c13
  rw [ho] at c13
  have c14 := h.c14
  have f1 : W.cell? ⟨0, 19, none⟩ = some (.string ⟨#[110, 119, 116]⟩) := (P.forms.below h.bel).flds 9 (by decide)
  have ki := Lib.hid (fun W' => show Calls Tryz.prog 41 #[.string ⟨#[110, 119, 116]⟩, .int .u8 97] W' (RetP W' (.int .i64 (-1))) from eindex_any [110, 119, 116] 97 W')
  have HS := Lib.hid (show runS L x.p x.e = departS L x.p x.e by unfold runS; rw [if_neg (by rintro ⟨h, _⟩; rw [ho] at h; exact absurd h (by decide)), ho]; rfl)
  have K := Lib.hid (P.hard.depart W h ho)
  clear h P
  generalize departS L x.p x.e = r at K HS
  go_enter Tryz.func19, Tryz.ntmps19
  go_wp2_with (first
    | (go_at_call 41; (with_reducible refine callP (ki.out _) ?_))
    | (go_at_call 53; (with_reducible refine callRun K.out ?_); intro W' b' k'))
  all_goals
    go_ret
    rw [HS.out]
    exact ⟨rfl, b', k'⟩
set_option maxHeartbeats 4000000 in
theorem erun10_any (x : Edr) (g : Nat) (w W : World) (L : Look) (h : Ed w W g x []) (P : EdPre w g x L) (ho : x.e.op = 10) : Calls Tryz.prog 19 #[.pointer (some ⟨g, 0, none⟩)] W (RetRun w g x (runS L x.p x.e)) := by
  have c11 := h.c11
  have c13 := h.c13
  rw [ho] at c13
  have c14 := h.c14
  have f1 : W.cell? ⟨0, 21, none⟩ = some (.string ⟨#[110, 119, 116]⟩) := (P.forms.below h.bel).flds 10 (by decide)
  have ki := Lib.hid (fun W' => show Calls Tryz.prog 41 #[.string ⟨#[110, 119, 116]⟩, .int .u8 97] W' (RetP W' (.int .i64 (-1))) from eindex_any [110, 119, 116] 97 W')
  have HS := Lib.hid (show runS L x.p x.e = arriveS L x.p x.e 2 3 by unfold runS; rw [if_neg (by rintro ⟨h, _⟩; rw [ho] at h; exact absurd h (by decide)), ho]; rfl)
  have K := Lib.hid (P.hard.arrive W h ho)
  clear h P
  generalize arriveS L x.p x.e 2 3 = r at K HS
  go_enter Tryz.func19, Tryz.ntmps19
  go_wp2_with (first
    | (go_at_call 41; (with_reducible refine callP (ki.out _) ?_))
    | (go_at_call 54; (with_reducible refine callRun K.out ?_); intro W' b' k'))
  all_goals
    go_ret
    rw [HS.out]
    exact ⟨rfl, b', k'⟩
set_option maxHeartbeats 4000000 in
theorem erun11_any (x : Edr) (g : Nat) (w W : World) (L : Look) (h : Ed w W g x []) (P : EdPre w g x L) (ho : x.e.op = 11) : Calls Tryz.prog 19 #[.pointer (some ⟨g, 0, none⟩)] W (RetRun w g x (runS L x.p x.e)) := by
  have c11 := h.c11
  have c13 := h.c13
  rw [ho] at c13
  have c14 := h.c14
  have f1 : W.cell? ⟨0, 23, none⟩ = some (.string ⟨#[110, 116]⟩) := (P.forms.below h.bel).flds 11 (by decide)
  have ki := Lib.hid (fun W' => show Calls Tryz.prog 41 #[.string ⟨#[110, 116]⟩, .int .u8 97] W' (RetP W' (.int .i64 (-1))) from eindex_any [110, 116] 97 W')
  have HS := Lib.hid (show runS L x.p x.e = arriveS L x.p x.e 3 4 by unfold runS; rw [if_neg (by rintro ⟨h, _⟩; rw [ho] at h; exact absurd h (by decide)), ho]; rfl)
  have K := Lib.hid (P.hard.approach W h ho)
  clear h P
  generalize arriveS L x.p x.e 3 4 = r at K HS
  go_enter Tryz.func19, Tryz.ntmps19
  go_wp2_with (first
    | (go_at_call 41; (with_reducible refine callP (ki.out _) ?_))
    | (go_at_call 54; (with_reducible refine callRun K.out ?_); intro W' b' k'))
  all_goals
    go_ret
    rw [HS.out]
    exact ⟨rfl, b', k'⟩
set_option maxHeartbeats 4000000 in
theorem erun12_any (x : Edr) (g : Nat) (w W : World) (L : Look) (h : Ed w W g x []) (P : EdPre w g x L) (ho : x.e.op = 12) : Calls Tryz.prog 19 #[.pointer (some ⟨g, 0, none⟩)] W (RetRun w g x (runS L x.p x.e)) := by
  have c11 := h.c11
  have c13 := h.c13
  rw [ho] at c13
  have c14 := h.c14
  have f1 : W.cell? ⟨0, 25, none⟩ = some (.string ⟨#[97, 110]⟩) := (P.forms.below h.bel).flds 12 (by decide)
  have ki := Lib.hid (fun W' => show Calls Tryz.prog 41 #[.string ⟨#[97, 110]⟩, .int .u8 97] W' (RetP W' (.int .i64 (0))) from eindex_any [97, 110] 97 W')
  have hfa : (formF x.e.op).contains 97 = true := by rw [ho]; decide
  by_cases h1 : (x.p.es.length : Int) < x.e.at_
  · have HS := Lib.hid (show runS L x.p x.e = .bad 6 by unfold runS; rw [if_pos ⟨hfa, .inl h1⟩])
    have HB := Lib.hid h.bel
    clear h P
    go_enter Tryz.func19, Tryz.ntmps19
    go_wp2_with (go_at_call 41; (with_reducible refine callP (ki.out _) ?_))
    go_ret
    exact RetRun.bad HS.out (by decide) HB.out
  by_cases h2 : x.e.at_ = x.p.es.length
  · have HS := Lib.hid (show runS L x.p x.e = .bad 6 by unfold runS; rw [if_pos ⟨hfa, .inr ⟨h2, by rw [ho]; decide⟩⟩])
    have HB := Lib.hid h.bel
    rw [h2] at c14
    clear h P h1
    go_enter Tryz.func19, Tryz.ntmps19
    go_wp2_with (go_at_call 41; (with_reducible refine callP (ki.out _) ?_))
    go_ret
    exact RetRun.bad HS.out (by decide) HB.out
  have hat : x.e.at_ < x.p.es.length := by omega
  have h2' : (x.e.at_ == (x.p.es.length : Int)) = false := by simpa using h2
  have HS := Lib.hid (show runS L x.p x.e = divertS L x.p x.e by unfold runS; rw [if_neg (by rintro ⟨_, h | ⟨h, _⟩⟩ <;> omega), ho]; rfl)
  have K := Lib.hid (P.hard.divert W h ho hat)
  clear h P
  generalize divertS L x.p x.e = r at K HS
  go_enter Tryz.func19, Tryz.ntmps19
  go_wp2_with (first
    | (go_at_call 41; (with_reducible refine callP (ki.out _) ?_))
    | (go_at_call 55; (with_reducible refine callRun K.out ?_); intro W' b' k'))
  all_goals
    go_ret
    rw [HS.out]
    exact ⟨rfl, b', k'⟩
theorem erun_any (x : Edr) (g : Nat) (w W : World) (L : Look) (h : Ed w W g x []) (P : EdPre w g x L) (ho : ¬ (x.e.op < 1 ∨ 12 < x.e.op)) : Calls Tryz.prog 19 #[.pointer (some ⟨g, 0, none⟩)] W (RetRun w g x (runS L x.p x.e)) := by
  have : x.e.op = 1 ∨ x.e.op = 2 ∨ x.e.op = 3 ∨ x.e.op = 4 ∨ x.e.op = 5 ∨ x.e.op = 6 ∨ x.e.op = 7 ∨ x.e.op = 8 ∨ x.e.op = 9 ∨ x.e.op = 10 ∨ x.e.op = 11 ∨ x.e.op = 12 := by omega
  rcases this with o | o | o | o | o | o | o | o | o | o | o | o
  · exact erun1_any x g w W L h P o
  · exact erun2_any x g w W L h P o
  · exact erun3_any x g w W L h P o
  · exact erun4_any x g w W L h P o
  · exact erun5_any x g w W L h P o
  · exact erun6_any x g w W L h P o
  · exact erun7_any x g w W L h P o
  · exact erun8_any x g w W L h P o
  · exact erun9_any x g w W L h P o
  · exact erun10_any x g w W L h P o
  · exact erun11_any x g w W L h P o
  · exact erun12_any x g w W L h P o
end Go.Proofs.YtcgmemkkcaipfaaGreatDoor
