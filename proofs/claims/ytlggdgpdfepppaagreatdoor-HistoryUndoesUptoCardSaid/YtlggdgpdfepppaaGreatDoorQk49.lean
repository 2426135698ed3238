/- What JoinAirway, LoadDeparture and LoadArrival share. What LoadDeparture and LoadArrival share: names, the procedure's legs, what stands behind a departure. -/
import Derived.Test.YtlggdgpdfepppaaGreatDoorQk47
import Derived.Test.YtlggdgpdfepppaaGreatDoorQk48
import Derived.Test.YtlggdgpdfepppaaGreatDoorQk36
namespace Go.Proofs.YtlggdgpdfepppaaGreatDoor
open Go.RowKit Go.Sort
set_option linter.unusedVariables false
set_option linter.unusedSimpArgs false
set_option maxRecDepth 100000
def wayLeg (q : List UInt8 × Int × Int) : Leg := { toLeg 2 q.1 with lo := q.2.1, hi := q.2.2 }
theorem Has_ent_drewR (W : World) (b o : Nat) : Has_ent W.drew b o = Has_ent W b o := propext ⟨fun h => h, fun h => h⟩
theorem of_ent_drewR (W : World) (b o : Nat) : of_ent W.drew b o = of_ent W b o := rfl
theorem Has_awy_drewR (W : World) (b o : Nat) : Has_awy W.drew b o = Has_awy W b o := propext ⟨fun h => h, fun h => h⟩
theorem of_awy_drewR (W : World) (b o : Nat) : of_awy W.drew b o = of_awy W b o := rfl
theorem AwyFar.mono {w : World} {B B' : Nat} {cs : Array Value} {a : AwyV} (h : AwyFar w B cs a) (hb : B' ≤ B) : AwyFar w B' cs a := by
  obtain ⟨A, c, h1, h2, h3, h4⟩ := h.ex
  exact ⟨⟨A, c, h1, h2, h3, fun hne q hq => Nat.le_trans hb (h4 hne q hq)⟩⟩
structure FarE (W : World) (g : Nat) (v : Value) (A : Option Addr) (es : List Entry) : Prop where
  ents : Ents W A es
  far : es ≠ [] → ∀ a, A = some a → FarB W g v a.block
theorem Ents.ne_ed {W : World} {A : Option Addr} {es : List Entry} {g : Nat} {x : Edr} (h : Ents W A es) (hne : es ≠ []) (hb : Blk W g x.arr) : ∀ a, A = some a → a.block ≠ g := by
  obtain ⟨b, o, rfl, _, hc⟩ := h.at_ hne
  obtain ⟨y, t, rfl⟩ := List.exists_cons_of_ne_nil hne
  intro a ha hg
  injection ha with ha
  subst ha
  obtain rfl : b = g := hg
  have h0 := hc 0 y rfl
  have h19 := h0 19 (by omega)
  rw [hb.cell] at h19
  have ho : o ≤ 6 := by
    rcases Nat.lt_or_ge 6 o with hno | hle
    · rw [Array.getElem?_eq_none (by rw [Edr.arr_size]; omega)] at h19
      simp [Entry.arr] at h19
    · exact hle
  have hk := h0 (11 - o) (by omega)
  rw [hb.cell, show o + 0 * 20 + (11 - o) = 11 by omega] at hk
  have h11 : x.arr[11]? = some (.slice x.A x.p.es.length x.c) := rfl
  rw [h11] at hk
  match o, ho with
  | 0, _ | 1, _ | 2, _ | 3, _ | 4, _ | 5, _ | 6, _ => simp [Entry.arr] at hk
theorem FarE.of {W : World} {g : Nat} {x : Edr} {A : Option Addr} {es : List Entry} (h : Ents W A es) (hb : Blk W g x.arr) (hv : x.v = .slice none 0 0) : FarE W g x.v A es := by
  refine ⟨h, fun hne a ha => ⟨?_, h.ne_ed hne hb a ha, by rw [hv]; simp [Value.ownBlock]⟩⟩
  obtain ⟨b, o, hA, hlt, _⟩ := h.at_ hne
  rw [hA] at ha
  injection ha with ha
  subst ha
  exact hlt
theorem FarE.put {W W' : World} {g : Nat} {v v' : Value} {A : Option Addr} {es : List Entry} (h : FarE W g v A es) (k : Keep g W v W' v') : FarE W' g v' A es := by
  by_cases hne : es = []
  · subst hne
    exact ⟨Ents.nil _ _, fun h => absurd rfl h⟩
  · exact ⟨k.ents (fun a ha => h.far hne a ha) h.ents, fun _ a ha => (h.far hne a ha).step k⟩
theorem FarE.step {W W' : World} {g : Nat} {v : Value} {A : Option Addr} {es : List Entry} (h : FarE W g v A es) (b : Below W.heap.size W W') : FarE W' g v A es := h.put (Keep.of b)
theorem callBd {P : Program} {f : FuncId} {args : Array Value} {W : World} {r : List Entry × Int} {K : Ending → World → Prop} (h : Calls P f args W (RetBd W r))
    (k : ∀ A c w', r.1.length ≤ c → Ents w' A r.1 → Below W.heap.size W w' → K (.returned (.tuple #[.slice A r.1.length c, .int .i64 r.2])) w') : Calls P f args W K :=
  h.mono fun e w' ⟨A, c, he, h1, h2, h3⟩ => by subst he; exact k A c w' h1 h2 h3
theorem GPre.bind {w : World} {x : Edr} {d : DBs} {G : GDB} (h : GPre w x d G) (W : World) (b : Below w.heap.size w W) (legs : List Leg) (A : Option Addr) (c : Nat) (s : Int) (via : List UInt8) (hI : Items W A 13 (legs.map Leg.arr)) (hlc : legs.length ≤ c) (hn : legs.length ≤ 1000000) (hs : ∀ y ∈ legs, y.small) (hv : via.length ≤ 4000000000) :
    Calls Tryz.prog 124 #[.agg x.db, .slice A legs.length c, .int .u8 s, .string ⟨via.toArray⟩] W (RetBd W (bindS (lookG G).pt legs s via)) := by
  have := bind_any d G.fixes legs A c s via W (h.laid.below b) (h.gd.db.below b) hI hlc hn hs hv
  rw [h.db, ← h.pt] at this
  exact this
theorem GPre.place {w : World} {x : Edr} {d : DBs} {G : GDB} (h : GPre w x d G) (W : World) (b : Below w.heap.size w W) (s : List UInt8) (hs : s.length ≤ 4000000000) :
    Calls Tryz.prog 127 #[.agg x.db, .string ⟨s.toArray⟩] W (Ret W (.tuple #[.string ⟨(placeG G.fixes s).1.toArray⟩, .int .i64 (placeG G.fixes s).2])) := by
  have := placeg_any d G.fixes s W (h.laid.below b) hs (h.gd.db.below b)
  rwa [h.db] at this
theorem GPre.legs {w : World} {x : Edr} {d : DBs} {G : GDB} (h : GPre w x d G) (x' : Edr) (hx : x'.db = x.db) (he : x'.e = x.e) (es : List Entry) (g : Nat) (W : World) (X : Ed w W g x' es) (s : List UInt8) (k : Int) (hs : s.length ≤ 4000000000) :
    Calls Tryz.prog 126 #[.pointer (some ⟨g, 0, none⟩), .string ⟨s.toArray⟩, .int .u8 k] W (RetLg W (legsG G.procs s k x.e.name x.e.trans)) := by
  obtain ⟨A, c, h8, hl, hI⟩ := h.gd.prc
  have := elegsG x' es g w W X h.laid G.procs A c (by rw [hx, ← h.db]; exact h8) hI hl h.gd.prcN h.gd.prcS s k hs (by rw [he]; have := h.tr; omega)
  rwa [he] at this
theorem wayLeg_small {q : List UInt8 × Int × Int} (h : q.1.length ≤ 4000000000) : (wayLeg q).small := ⟨h, by simp [wayLeg, toLeg]⟩
end Go.Proofs.YtlggdgpdfepppaaGreatDoor
namespace Go.Proofs.YtlggdgpdfepppaaGreatDoor
open Go.RowKit Go.Sort
set_option linter.unusedVariables false
set_option linter.unusedSimpArgs false
set_option maxRecDepth 100000
theorem ewith_any (n t : List UInt8) (w : World) (hn : n.length ≤ 1000000000) (ht : t.length ≤ 1000000000) :
    Calls Tryz.prog 128 #[.string ⟨n.toArray⟩, .string ⟨#[46]⟩, .string ⟨t.toArray⟩] w (Ret w (.string ⟨(withB n 46 t).toArray⟩)) := by
  by_cases h0 : t = []
  · subst h0
    go_enter Tryz.func128, Tryz.ntmps128
    go_wp2
    go_ret
    exact Ret.str rfl (Below.refl _ _)
  · have HO := Lib.hid (show withB n 46 t = n ++ 46 :: t from if_neg (by simpa using h0))
    have h1 : (t == []) = false := by simpa using h0
    generalize withB n 46 t = out at *
    have l1 : ¬ 9223372036854775807 < n.length + 1 := by omega
    have l2 : ¬ 9223372036854775807 < n.length + 1 + t.length := by omega
    go_enter Tryz.func128, Tryz.ntmps128
    go_wp2
    go_ret
    exact Ret.str (by rw [HO.out]; try simp) (Below.refl _ _)
theorem legsG_proc (l : List ProcV) (s : List UInt8) (k : Int) (n t : List UInt8) :
    (procG l s k n t).2 = (legsG l s k n t).2 ∧ (procG l s k n t).1.1 = (legsG l s k n t).1.2 ∧ ((legsG l s k n t).2 = 0 → (procG l s k n t).1.2 = missedG (legsG l s k n t).1.1) := by
  unfold procG legsG
  cases procFind (cutAt 47 s).1 k n l with
  | none => exact ⟨rfl, rfl, fun h => absurd h (show ¬ (6 : Int) = 0 by decide)⟩
  | some p => exact ⟨rfl, rfl, fun _ => rfl⟩
theorem restDep_step (l : List Entry) {es : List Entry} {j : Nat} (h : j < es.length) :
    restDep l (es.drop j) = restDep (if !es[j].gap && es[j].sec == 1 then es.drop (j + 1) else l) (es.drop (j + 1)) := by
  rw [List.drop_eq_getElem_cons h]; rfl
theorem subE_zero (A : Option Addr) (c : Nat) : subE A 0 c = A := by
  unfold subE
  split
  · rfl
  · cases A with
    | none => rfl
    | some a => simp [Addr.add]
def endDep (p : Plan) (f : List UInt8) (all : List Entry) : EdR :=
  if endsE (all.getLast?.getD gapE) && decide (0 ≤ searchE (restDep (restFirst p.es) p.es) 0 (all.getLast?.getD gapE).leg.fix) then
    ⟨0, f, p.to_, p.active, all ++ (restDep (restFirst p.es) p.es).drop ((searchE (restDep (restFirst p.es) p.es) 0 (all.getLast?.getD gapE).leg.fix).toNat + 1)⟩
  else ⟨0, f, p.to_, p.active, all ++ [gapE] ++ restDep (restFirst p.es) p.es⟩
theorem departG_eq (G : GDB) (p : Plan) (e : EditV) (h1 : p.active = -1) (h2 : p.from_ ≠ []) : departS (lookG G) p e =
    if (legsG G.procs (rwayS p.from_ e.rway) 1 e.name e.trans).2 ≠ 0 then .bad (legsG G.procs (rwayS p.from_ e.rway) 1 e.name e.trans).2 else
    if (placeG G.fixes (rwayS p.from_ e.rway)).2 ≠ 0 then .bad (placeG G.fixes (rwayS p.from_ e.rway)).2 else
    if (oneS (lookG G) 1 (placeG G.fixes (rwayS p.from_ e.rway)).1 1 (withB e.name 46 e.trans)).2 ≠ 0 then .bad (oneS (lookG G) 1 (placeG G.fixes (rwayS p.from_ e.rway)).1 1 (withB e.name 46 e.trans)).2 else
    if (bindS (lookG G).pt (legsG G.procs (rwayS p.from_ e.rway) 1 e.name e.trans).1.2 1 (withB e.name 46 e.trans)).2 ≠ 0 then .bad (bindS (lookG G).pt (legsG G.procs (rwayS p.from_ e.rway) 1 e.name e.trans).1.2 1 (withB e.name 46 e.trans)).2 else
    endDep p (rwayS p.from_ e.rway) ((oneS (lookG G) 1 (placeG G.fixes (rwayS p.from_ e.rway)).1 1 (withB e.name 46 e.trans)).1 ++ (bindS (lookG G).pt (legsG G.procs (rwayS p.from_ e.rway) 1 e.name e.trans).1.2 1 (withB e.name 46 e.trans)).1) := by
  have e1 := (legsG_proc G.procs (rwayS p.from_ e.rway) 1 e.name e.trans).1
  have e2 := (legsG_proc G.procs (rwayS p.from_ e.rway) 1 e.name e.trans).2.1
  rw [← e1, ← e2]
  unfold departS endDep
  rw [if_neg (by rw [h1]; decide), if_neg (by simpa using h2)]
  rfl
end Go.Proofs.YtlggdgpdfepppaaGreatDoor
