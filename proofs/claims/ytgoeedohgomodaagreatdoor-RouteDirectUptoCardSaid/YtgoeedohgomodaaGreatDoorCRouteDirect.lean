/- PROVED: the word DCT between two words adds nothing, and each argument reads behind the call as before: the card of the second form (what is read is of bulk at most 1048576). Its conditions: none of mine. -/
import Derived.Test.YtgoeedohgomodaaGreatDoorPk01
import Derived.Test.YtgoeedohgomodaaGreatDoorPk02
import Derived.Test.YtgoeedohgomodaaGreatDoorPk03
import Derived.Test.YtgoeedohgomodaaGreatDoorPk04
import Derived.Test.YtgoeedohgomodaaGreatDoorPk05
import Derived.Test.YtgoeedohgomodaaGreatDoorPk06
import Derived.Test.YtgoeedohgomodaaGreatDoorPk07
import Derived.Test.YtgoeedohgomodaaGreatDoorPk08
import Derived.Test.YtgoeedohgomodaaGreatDoorPk09
import Derived.Test.YtgoeedohgomodaaGreatDoorPk10
import Derived.Test.YtgoeedohgomodaaGreatDoorPk11
import Derived.Test.YtgoeedohgomodaaGreatDoorPk12
import Derived.Test.YtgoeedohgomodaaGreatDoorPk13
import Derived.Test.YtgoeedohgomodaaGreatDoorPk14
import Derived.Test.YtgoeedohgomodaaGreatDoorPk15
import Derived.Test.YtgoeedohgomodaaGreatDoorPk16
import Derived.Test.YtgoeedohgomodaaGreatDoorPk17
import Derived.Test.YtgoeedohgomodaaGreatDoorPk18
import Derived.Test.YtgoeedohgomodaaGreatDoorPk19
import Derived.Test.YtgoeedohgomodaaGreatDoorPk20
import Derived.Test.YtgoeedohgomodaaGreatDoorPk21
import Derived.Test.YtgoeedohgomodaaGreatDoorPk22
import Derived.Test.YtgoeedohgomodaaGreatDoorPk23
import Derived.Test.YtgoeedohgomodaaGreatDoorPk24
import Derived.Test.YtgoeedohgomodaaGreatDoorPk25
import Derived.Test.YtgoeedohgomodaaGreatDoorPk26
import Derived.Test.YtgoeedohgomodaaGreatDoorPk27
import Derived.Test.YtgoeedohgomodaaGreatDoorPk28
import Derived.Test.YtgoeedohgomodaaGreatDoorPk29
import Derived.Test.YtgoeedohgomodaaGreatDoorPk30
import Derived.Test.YtgoeedohgomodaaGreatDoorPk31
import Derived.Test.YtgoeedohgomodaaGreatDoorPk32
import Derived.Test.YtgoeedohgomodaaGreatDoorPk33
import Derived.Test.YtgoeedohgomodaaGreatDoorPk34
import Derived.Test.YtgoeedohgomodaaGreatDoorPk35
import Derived.Test.YtgoeedohgomodaaGreatDoorPk36
import Derived.Test.YtgoeedohgomodaaGreatDoorPk37
import Derived.Test.YtgoeedohgomodaaGreatDoorPk38
import Derived.Test.YtgoeedohgomodaaGreatDoorPk39
import Derived.Test.YtgoeedohgomodaaGreatDoorPk40
import Derived.Test.YtgoeedohgomodaaGreatDoorPk41
import Derived.Test.YtgoeedohgomodaaGreatDoorPk42
import Derived.Test.YtgoeedohgomodaaGreatDoorPk43
import Derived.Test.YtgoeedohgomodaaGreatDoorPk44
import Derived.Test.YtgoeedohgomodaaGreatDoorPk45
import Derived.Test.YtgoeedohgomodaaGreatDoorPk46
import Derived.Test.YtgoeedohgomodaaGreatDoorPk47
import Derived.Test.YtgoeedohgomodaaGreatDoorPk48
import Derived.Test.YtgoeedohgomodaaGreatDoorPk49
import Derived.Lib.ParseIntBCases
import Derived.Laws.StructEq
import Derived.Deep.AppendLies
import Derived.Deep.DeepWitnessRowRef
import Derived.Lay
import Derived.WalkKit
import Derived.ProofKit
import Derived.Test.YtgoeedohgomodaaGreatDoorCards
import Derived.Test.YtgoeedohgomodaaGreatDoorTie
namespace Go.Proofs.YtgoeedohgomodaaGreatDoor
open Go.RowKit
set_option linter.unusedVariables false
set_option linter.unusedSimpArgs false
attribute [go_sem ↓] load_pt_fold store_pt_fold
attribute [go_sem] run_load_pt run_store_pt of_pt_drewN 
attribute [go_sem ↓] load_win_fold store_win_fold
attribute [go_sem] run_load_win run_store_win of_win_drewN Has_win_new of_win_new 
attribute [go_sem ↓] load_leg_fold store_leg_fold
attribute [go_sem] run_load_leg run_store_leg of_leg_drewN Has_leg_alloc of_leg_alloc
theorem Has_ent_drewN (w : World) (b o n : Nat) : Has_ent (w.drewN n) b o = Has_ent w b o := propext ⟨fun h => h, fun h => h⟩
attribute [go_sem ↓] load_ent_fold store_ent_fold
attribute [go_sem] run_load_ent run_store_ent Has_ent_drewN of_ent_drewN 
end Go.Proofs.YtgoeedohgomodaaGreatDoor
namespace Go.Proofs.YtgoeedohgomodaaGreatDoor
open Go.RowKit
set_option linter.unusedVariables false
set_option linter.unusedSimpArgs false
theorem splitC_append (c : UInt8) (a r : List UInt8) (h : c ∉ a) : splitC c (a ++ c :: r) = a :: splitC c r := by
  induction a with
  | nil => simp [splitC]
  | cons x a ih =>
    simp only [List.mem_cons, not_or] at h
    have hx : ¬ x = c := fun e => h.1 e.symm
    rw [List.cons_append, splitC, if_neg hx, ih h.2]
theorem splitC_one (c : UInt8) (a : List UInt8) (h : c ∉ a) : splitC c a = [a] := by
  induction a with
  | nil => simp [splitC]
  | cons x a ih =>
    simp only [List.mem_cons, not_or] at h
    have hx : ¬ x = c := fun e => h.1 e.symm
    rw [splitC, if_neg hx, ih h.2]
theorem splitC_join (c : UInt8) : ∀ ls : List (List UInt8), ls ≠ [] → (∀ s ∈ ls, c ∉ s) → splitC c (Lib.join ls [c]) = ls
  | [], h, _ => absurd rfl h
  | [a], _, h => by
    have : Lib.join [a] [c] = a := by simp [Lib.join]
    rw [this]; exact splitC_one c a (h a (by simp))
  | a :: b :: r, _, h => by
    have e : Lib.join (a :: b :: r) [c] = a ++ c :: Lib.join (b :: r) [c] := by simp [Lib.join]
    rw [e, splitC_append c a _ (h a (by simp)), splitC_join c (b :: r) (by simp) (fun s hs => h s (by simp [hs]))]
end Go.Proofs.YtgoeedohgomodaaGreatDoor
namespace Go.Proofs.YtgoeedohgomodaaGreatDoor
open Go.RowKit Go.ChangeShapes Go.WideShapes Go.Deep
set_option linter.unusedVariables false
set_option linter.unusedSimpArgs false
theorem laid22_of {W : World} {l : List (String × DataW Unit)} (h : laidMet Tryz.prog l W) (hsh : W.ShapedOpen Tryz.prog) (h1 : ("flightdeck/leg.uses", Lib.tabData .u16 usesTab) ∈ l) : Laid W := by
  obtain ⟨ps, hv, _, _⟩ := h
  have t1 := tab_of hv gUses (t := 194) (by kernel_rfl) Tryz.underlying194 Tryz.underlying193 (by kernel_rfl) (by kernel_rfl) h1
  exact ⟨fun k hk => t1.cell gUses k hk, Go.Proofs.cell_of_shapedOpen_int (zero := #[.int .i64 0]) (t := 3) hsh (of_decide_eq_true (by kernel_rfl)) (by kernel_rfl) rfl (by kernel_rfl) (by kernel_rfl) Tryz.underlying3⟩
end Go.Proofs.YtgoeedohgomodaaGreatDoor
namespace Go.Proofs.YtgoeedohgomodaaGreatDoor
open Go.RowKit
set_option linter.unusedVariables false
set_option linter.unusedSimpArgs false
def eqGo : List Entry → List Entry → Bool
  | [], [] => true
  | x :: a, y :: b => x.eqB y && eqGo a b
  | _, _ => false
theorem eqGo_len : ∀ {a b : List Entry}, ¬ a.length = b.length → eqGo a b = false
  | [], [], h => by simp at h
  | [], _ :: _, _ => rfl
  | _ :: _, [], _ => rfl
  | x :: a, y :: b, h => by simp [eqGo]; intro _; exact eqGo_len (by simpa using h)
theorem eqGo_iff : ∀ (a b : List Entry), eqGo a b = true ↔ a = b
  | [], [] => by simp [eqGo]
  | [], _ :: _ => by simp [eqGo]
  | _ :: _, [] => by simp [eqGo]
  | x :: a, y :: b => by simp [eqGo, Entry.eqB_iff, eqGo_iff a b]
set_option maxHeartbeats 2000000 in
set_option maxRecDepth 100000 in
theorem equal_any (a b : List Entry) (A B : Option Addr) (ca cb : Nat) (w : World) (hla : a.length ≤ 4000000000) (hlb : b.length ≤ 4000000000) (hca : a.length ≤ ca) (hcb : b.length ≤ cb) (ha : Ents w A a) (hb : Ents w B b) :
    Calls Tryz.prog 45 #[.slice A a.length ca, .slice B b.length cb] w (RetQ w (.bool (eqGo a b))) := by
  by_cases hl : a.length = b.length
  · have h1 : ((a.length : Int) != (b.length : Int)) = false := by simp [hl]
    have HL := Lib.hid hl; clear hl
    go_enter Tryz.func45, Tryz.ntmps45
    go_wp2
    go_loopw [13] (fun i wr => ∃ k : Nat, k ≤ a.length ∧ i = .int .i64 k ∧ eqGo a b = eqGo (a.drop k) (b.drop k) ∧ ∃ n, wr = w.drewN n) (fun i _ => a.length - (intOf i).toNat)
    case atStart => exact ⟨0, by omega, rfl, rfl, 0, rfl⟩
    case round =>
      obtain ⟨k, hk, rfl, hq, n, rfl⟩ := hrel
      have HQ := Lib.hid hq; clear hq
      by_cases hlt : k < a.length
      · have hlt2 : k < b.length := by have := HL.out; omega
        obtain ⟨b1, o1, hA, hb1, he1⟩ := ha.get hlt
        obtain ⟨b2, o2, hB, hb2, he2⟩ := hb.get hlt2
        subst hA hB
        have hda := Lib.hid (List.drop_eq_getElem_cons hlt)
        have hdb := Lib.hid (List.drop_eq_getElem_cons hlt2)
        generalize a[k] = x at he1 hda
        generalize b[k] = y at he2 hdb
        have i1 : Has_ent w b1 (o1 + k * 20) := ⟨x, he1⟩
        have i2 : Has_ent w b2 (o2 + k * 20) := ⟨y, he2⟩
        have j1 : of_ent w b1 (o1 + k * 20) = x := of_ent_eq he1
        have j2 : of_ent w b2 (o2 + k * 20) = y := of_ent_eq he2
        have hne := run_neq_ent x y
        clear he1 he2 ha hb
        go_wp2
        go_quiet (fail)
        go_wp2
        · go_ret
          exact RetQ.bool (by rw [HQ.out, hda.out, hdb.out]; go_light; simp_all [eqGo]) ⟨n + nq, World.drewN_drewN _ _ _⟩
        · go_roundw
          case rel => exact ⟨k + 1, by omega, by go_num, by rw [HQ.out, hda.out, hdb.out]; go_light; simp_all [eqGo], _, rfl⟩
          case measure => simp [intOf]; omega
      · go_wp2
        go_ret
        exact RetQ.bool (by rw [HQ.out, List.drop_of_length_le (by omega), List.drop_of_length_le (by have := HL.out; omega)]; rfl) ⟨_, rfl⟩
  · have h1 : ((a.length : Int) != (b.length : Int)) = true := by simp; omega
    have HL := Lib.hid hl; clear hl
    go_enter Tryz.func45, Tryz.ntmps45
    go_wp2
    go_ret
    exact RetQ.bool (eqGo_len HL.out).symm ⟨0, rfl⟩
set_option maxHeartbeats 2000000 in
set_option maxRecDepth 100000 in
theorem sequal_any (a b : List Entry) (A B : Option Addr) (ca cb : Nat) (w : World) (hla : a.length ≤ 4000000000) (hlb : b.length ≤ 4000000000) (hca : a.length ≤ ca) (hcb : b.length ≤ cb) (ha : Ents w A a) (hb : Ents w B b) :
    Calls Tryz.prog 58 #[.slice A a.length ca, .slice B b.length cb] w (RetQ w (.bool (eqGo a b))) := by
  by_cases hl : a.length = b.length
  · have h1 : ((a.length : Int) != (b.length : Int)) = false := by simp [hl]
    have HL := Lib.hid hl; clear hl
    go_enter Tryz.func58, Tryz.ntmps58
    go_wp2
    go_loopw [13] (fun i wr => ∃ k : Nat, k ≤ a.length ∧ i = .int .i64 k ∧ eqGo a b = eqGo (a.drop k) (b.drop k) ∧ ∃ n, wr = w.drewN n) (fun i _ => a.length - (intOf i).toNat)
    case atStart => exact ⟨0, by omega, rfl, rfl, 0, rfl⟩
    case round =>
      obtain ⟨k, hk, rfl, hq, n, rfl⟩ := hrel
      have HQ := Lib.hid hq; clear hq
      by_cases hlt : k < a.length
      · have hlt2 : k < b.length := by have := HL.out; omega
        obtain ⟨b1, o1, hA, hb1, he1⟩ := ha.get hlt
        obtain ⟨b2, o2, hB, hb2, he2⟩ := hb.get hlt2
        subst hA hB
        have hda := Lib.hid (List.drop_eq_getElem_cons hlt)
        have hdb := Lib.hid (List.drop_eq_getElem_cons hlt2)
        generalize a[k] = x at he1 hda
        generalize b[k] = y at he2 hdb
        have i1 : Has_ent w b1 (o1 + k * 20) := ⟨x, he1⟩
        have i2 : Has_ent w b2 (o2 + k * 20) := ⟨y, he2⟩
        have j1 : of_ent w b1 (o1 + k * 20) = x := of_ent_eq he1
        have j2 : of_ent w b2 (o2 + k * 20) = y := of_ent_eq he2
        have hne := run_neq_ent x y
        clear he1 he2 ha hb
        go_wp2
        go_quiet (fail)
        go_wp2
        · go_ret
          exact RetQ.bool (by rw [HQ.out, hda.out, hdb.out]; go_light; simp_all [eqGo]) ⟨n + nq, World.drewN_drewN _ _ _⟩
        · go_roundw
          case rel => exact ⟨k + 1, by omega, by go_num, by rw [HQ.out, hda.out, hdb.out]; go_light; simp_all [eqGo], _, rfl⟩
          case measure => simp [intOf]; omega
      · go_wp2
        go_ret
        exact RetQ.bool (by rw [HQ.out, List.drop_of_length_le (by omega), List.drop_of_length_le (by have := HL.out; omega)]; rfl) ⟨_, rfl⟩
  · have h1 : ((a.length : Int) != (b.length : Int)) = true := by simp; omega
    have HL := Lib.hid hl; clear hl
    go_enter Tryz.func58, Tryz.ntmps58
    go_wp2
    go_ret
    exact RetQ.bool (eqGo_len HL.out).symm ⟨0, rfl⟩
end Go.Proofs.YtgoeedohgomodaaGreatDoor
namespace Go.Proofs.YtgoeedohgomodaaGreatDoor
open Go.RowKit Go.ChangeShapes Go.WideShapes Go.Deep
set_option linter.unusedVariables false
set_option linter.unusedSimpArgs false
section
variable {H : Type} {enc : TypeId × Value → H} {w : World} {base : Nat} {spare : Nat → Bool} {held : Bool}
set_option maxRecDepth 100000 in
theorem open_gdbT {r : Reach} {b0 : Nat} {v : Value} {d : DataW H} {ps : List MemPlace} (hv : Value.okWide Tryz.prog w r b0 37 v) (h : DataW.Trod enc Tryz.prog w base spare held 37 v d ps) (hN : Rows.uptoBulk d ≤ 4000000) :
    ∃ (db : DBs) (G : GDB), v = .agg db.cells ∧ GdAt w db G ∧ G.short := by
  obtain ⟨cs, rfl, hsz⟩ := okWide_struct Tryz.underlying37 hv
  obtain ⟨fuel, hf⟩ := h
  have hvc : (Value.agg cs).cells.toList = cs.toList := rfl
  rw [hvc] at hf
  obtain ⟨db, G, e, hg, hs⟩ := open_gdb hf hN
  exact ⟨db, G, by rw [Array.toList_inj.1 e], hg, hs⟩
end
end Go.Proofs.YtgoeedohgomodaaGreatDoor
namespace Go.Proofs.YtgoeedohgomodaaGreatDoor
open Go.RowKit Go.ChangeShapes Go.WideShapes Go.Deep
set_option linter.unusedVariables false
set_option linter.unusedSimpArgs false
section
variable {H : Type} {enc : TypeId × Value → H} {w : World} {base : Nat} {spare : Nat → Bool} {held : Bool}
set_option maxRecDepth 100000 in
theorem open_u8U {r : Reach} {b0 : Nat} {t : TypeId} {v : Value} {d : DataW H} {ps : List MemPlace} (ht : Tryz.prog.underlying t = some (.int .u8)) (hv : Value.okWide Tryz.prog w r b0 t v) (h : DataW.Trod enc Tryz.prog w base spare held t v d ps) : ∃ n : Int, v = .int .u8 n ∧ 0 ≤ n ∧ n ≤ 255 := by
  obtain ⟨n, rfl, _, _, wf⟩ := Go.ChangeShapes.open_int ht hv h
  exact ⟨n, rfl, Go.bounds_u8 wf⟩
end
end Go.Proofs.YtgoeedohgomodaaGreatDoor
namespace Go.Proofs.YtgoeedohgomodaaGreatDoor
open Go.RowKit
set_option linter.unusedVariables false
set_option linter.unusedSimpArgs false
def joinT (l : List ItemV) : List UInt8 := Lib.join (l.map wordT) [32]
def routeText (l : List ItemV) : List UInt8 := if 124 < l.length then [] else if (routeParse (joinT l)).2 ≠ 0 ∨ (routeParse (joinT l)).1.1 ≠ l then [] else joinT l
theorem routeParse_join {s : List UInt8} (h : (routeParse s).2 = 0) : joinT (routeParse s).1.1 = s := by
  have key : (itemsGo (splitC 32 s) (splitC 32 s) 0 []).2 = 0 ∧ routeParse s = itemsGo (splitC 32 s) (splitC 32 s) 0 [] := by
    unfold routeParse at h ⊢
    split at h
    · simp at h
    rename_i h1
    rw [if_neg h1]
    split at h
    · rename_i h2; exact absurd h h2
    rename_i h2
    rw [if_neg h2]
    split at h
    · simp at h
    rename_i h3
    rw [if_neg h3]
    exact ⟨h, rfl⟩
  rw [key.2]
  unfold joinT
  rw [itemsGo_words _ _ _ _ key.1]
  exact join_splitC 32 s
end Go.Proofs.YtgoeedohgomodaaGreatDoor
namespace Go.Proofs.YtgoeedohgomodaaGreatDoor
open Go.RowKit
set_option linter.unusedVariables false
set_option linter.unusedSimpArgs false
theorem splitC_not (c : UInt8) : ∀ (l : List UInt8), ∀ x ∈ splitC c l, c ∉ x
  | [], x, h => by
    have : x = [] := by simpa [splitC] using h
    subst this; simp
  | a :: r, x, h => by
    have ih := splitC_not c r
    unfold splitC at h
    split at h
    · rcases List.mem_cons.1 h with rfl | h
      · simp
      · exact ih x h
    · rename_i ha
      cases hq : splitC c r with
      | nil => exact absurd hq (splitC_ne c r)
      | cons b t =>
        rw [hq] at h ih
        rcases List.mem_cons.1 h with rfl | h
        · have := ih b (by simp)
          simp only [List.mem_cons, not_or]
          exact ⟨fun e => ha e.symm, this⟩
        · exact ih x (by simp [h])
theorem itemsGo_of (ws : List (List UInt8)) : ∀ (l : List (List UInt8)) (i : Nat) (out xs : List ItemV), xs.length = l.length →
    (∀ j (h : j < l.length) (h' : j < xs.length), wordI ws.length (i + j) l[j] = some xs[j] ∧ misB ws (i + j) xs[j] (out ++ xs.take j) = false) → itemsGo ws l i out = ((out ++ xs, 0), 0)
  | [], i, out, xs, hl, _ => by
    have : xs = [] := by simpa using hl
    subst this; simp [itemsGo]
  | w :: r, i, out, xs, hl, hk => by
    cases xs with
    | nil => simp at hl
    | cons x xs =>
      have h0 := hk 0 (by simp) (by simp)
      simp only [Nat.add_zero, List.getElem_cons_zero, List.take_zero, List.append_nil] at h0
      unfold itemsGo
      rw [h0.1]
      dsimp only
      rw [if_neg (by rw [h0.2]; decide)]
      rw [itemsGo_of ws r (i + 1) (out ++ [x]) xs (by simpa using hl) (fun j hj hj' => by
        have := hk (j + 1) (by simpa using hj) (by simpa using hj')
        rw [show i + (j + 1) = i + 1 + j by omega] at this
        refine ⟨by simpa using this.1, ?_⟩
        have h2 := this.2
        simp only [List.append_assoc, List.singleton_append]
        simpa using h2)]
      simp
theorem parse_of {l : List ItemV} (h : ItemsOk (l.map wordT) l) (hn : l.length ≤ 124) (h1 : l.length ≠ 1) (h0 : l ≠ []) (hs : ∀ x ∈ l, (32 : UInt8) ∉ wordT x) : routeParse (joinT l) = ((l, 0), 0) ∧ splitC 32 (joinT l) = l.map wordT := by
  have hw : splitC 32 (joinT l) = l.map wordT := splitC_join 32 _ (by simpa using h0) (fun s hs' => by
    obtain ⟨x, hx, rfl⟩ := List.mem_map.1 hs'
    exact hs x hx)
  refine ⟨?_, hw⟩
  have hg := itemsGo_of (l.map wordT) (l.map wordT) 0 [] l (by simp) (fun j hj hj' => by
    have := h.2 j hj hj'
    simpa using this)
  unfold routeParse
  rw [hw, if_neg (by simp; omega), hg, if_neg (by simp), if_neg (by simpa using h1)]
  simp
end Go.Proofs.YtgoeedohgomodaaGreatDoor
namespace Go.Proofs.YtgoeedohgomodaaGreatDoor
open Go.RowKit
set_option linter.unusedVariables false
set_option linter.unusedSimpArgs false
def dctI : ItemV := ⟨5, [], []⟩
def withD (l : List ItemV) (k : Nat) : List ItemV := l.take k ++ dctI :: l.drop k
theorem withD_len {l : List ItemV} {k : Nat} (hk : k ≤ l.length) : (withD l k).length = l.length + 1 := by
  simp [withD, List.length_take]; omega
theorem withD_lt {l : List ItemV} {k j : Nat} (hk : k ≤ l.length) (h : j < k) : (withD l k)[j]? = l[j]? := by
  unfold withD
  rw [List.getElem?_append_left (by rw [List.length_take]; omega), List.getElem?_take, if_pos h]
theorem withD_at {l : List ItemV} {k : Nat} (hk : k ≤ l.length) : (withD l k)[k]? = some dctI := by
  unfold withD
  rw [List.getElem?_append_right (by rw [List.length_take]; omega), List.length_take, Nat.min_eq_left hk, Nat.sub_self]; rfl
theorem withD_gt {l : List ItemV} {k j : Nat} (hk : k ≤ l.length) (h : k ≤ j) : (withD l k)[j + 1]? = l[j]? := by
  unfold withD
  rw [List.getElem?_append_right (by rw [List.length_take]; omega), List.length_take, Nat.min_eq_left hk, show j + 1 - k = (j - k) + 1 by omega, List.getElem?_cons_succ, List.getElem?_drop]
  congr 1; omega
theorem getD_eq {α : Type _} {l m : List α} {i j : Nat} {d : α} (h : l[i]? = m[j]?) : l.getD i d = m.getD j d := by
  rw [List.getD_eq_getElem?_getD, List.getD_eq_getElem?_getD, h]
structure DirOk (l : List ItemV) (k : Nat) : Prop where
  pos : 1 ≤ k
  lt : k < l.length
  a5 : (l.getD (k - 1) noItem).kind ≠ 5
  b5 : (l.getD k noItem).kind ≠ 5
  b2 : (l.getD k noItem).kind ≠ 2
  a6 : (l.getD (k - 1) noItem).kind ≠ 6
  a7 : (l.getD (k - 1) noItem).kind ≠ 7
  a3 : (l.getD (k - 1) noItem).kind ≠ 3
theorem itemS_kind {s : List UInt8} {x : ItemV} (h : itemS s = some x) : x.kind ≠ 1 ∧ x.kind ≠ 8 := by
  unfold itemS at h
  split at h
  · split at h
    · cases h
    · rename_i h2
      injection h with h
      subst h
      simp only [not_or] at h2
      have h2 := h2.1
      unfold letterK at h2 ⊢
      dsimp only
      split
      · decide
      · split
        · decide
        · split
          · decide
          · decide
  · split at h
    · injection h with h; subst h; decide
    split at h
    · injection h with h; subst h; exact ⟨by show (4 : Int) ≠ 1; decide, by show (4 : Int) ≠ 8; decide⟩
    split at h
    · injection h with h; subst h; exact ⟨by show (3 : Int) ≠ 1; decide, by show (3 : Int) ≠ 8; decide⟩
    · cases h
theorem wordI_kind1 {n i : Nat} {s : List UInt8} {x : ItemV} (h : wordI n i s = some x) (h1 : x.kind = 1) : i = 0 := by
  unfold wordI at h
  split at h
  · split at h
    · injection h with h
      subst h
      by_cases h0 : i = 0
      · exact h0
      · simp [h0] at h1
    · cases h
  · exact absurd h1 (itemS_kind h).1
theorem itemS_p {s : List UInt8} {x : ItemV} (h : itemS s = some x) (hp : pEq s = true) : x.kind = 7 := by
  unfold pEq at hp
  match s, h, hp with
  | [], _, hp => simp at hp
  | [a], _, hp => simp at hp
  | a :: b :: r, h, hp =>
    obtain ⟨rfl, rfl⟩ : a = 80 ∧ b = 61 := by simpa using hp
    unfold itemS at h
    rw [if_pos (by rfl)] at h
    split at h
    · cases h
    · injection h with h
      subst h
      rfl
theorem itemS_dct : itemS [68, 67, 84] = some dctI := by decide
theorem word_shift {n i : Nat} {s : List UInt8} (h : 1 ≤ i) : wordI (n + 1) (i + 1) s = wordI n i s := by
  unfold wordI
  by_cases hn : i + 1 = n
  · rw [if_pos (show i + 1 = 0 ∨ i + 1 + 1 = n + 1 from .inr (by omega)), if_pos (show i = 0 ∨ i + 1 = n from .inr hn), if_neg (show ¬ i + 1 = 0 by omega), if_neg (show ¬ i = 0 by omega)]
  · rw [if_neg (show ¬ (i + 1 = 0 ∨ i + 1 + 1 = n + 1) by omega), if_neg (show ¬ (i = 0 ∨ i + 1 = n) by omega)]
theorem word_same {n i : Nat} {s : List UInt8} (h : i + 1 < n) : wordI (n + 1) i s = wordI n i s := by
  unfold wordI
  have e : (i = 0 ∨ i + 1 = n + 1) = (i = 0 ∨ i + 1 = n) := propext ⟨by omega, by omega⟩
  simp only [e]
theorem misB_eq {ws vs : List (List UInt8)} {i j : Nat} {x : ItemV} {o p : List ItemV} (h2 : x.kind = 2 → (i != 1) = (j != 1)) (h7 : x.kind = 7 → (i + 2 != ws.length) = (j + 2 != vs.length))
    (h6 : x.kind = 6 → (i + 2 != ws.length && (i + 3 != ws.length || !pEq (ws.getD (ws.length - 2) []))) = (j + 2 != vs.length && (j + 3 != vs.length || !pEq (vs.getD (vs.length - 2) []))))
    (h5 : x.kind = 5 → ((o.getD (i - 1) noItem).kind == 5) = ((p.getD (j - 1) noItem).kind == 5)) : misB ws i x o = misB vs j x p := by
  unfold misB
  split
  · exact h2 (by assumption)
  · split
    · exact h7 (by assumption)
    · split
      · exact h6 (by assumption)
      · split
        · exact h5 (by assumption)
        · rfl
theorem withD_ok {l : List ItemV} {k : Nat} (h : ItemsOk (l.map wordT) l) (D : DirOk l k) : ItemsOk ((withD l k).map wordT) (withD l k) := by
  have hk : k ≤ l.length := Nat.le_of_lt D.lt
  have hlen := withD_len hk
  have hpos := D.pos
  have hlt := D.lt
  have hL : ∀ i (hi : i < l.length), wordI l.length i (wordT l[i]) = some l[i] ∧ misB (l.map wordT) i l[i] (l.take i) = false := fun i hi => by
    have := h.2 i (by simpa using hi) hi
    simpa using this
  refine ⟨by simp, fun i hi hi' => ?_⟩
  have hwl : ((withD l k).map wordT).length = l.length + 1 := by rw [List.length_map, hlen]
  rw [hwl, List.getElem_map]
  have hll : (l.map wordT).length = l.length := List.length_map _
  rcases Nat.lt_trichotomy i k with hik | rfl | hik
  · -- ahead
    have hil : i < l.length := by omega
    have e : (withD l k)[i] = l[i] := by
      have := withD_lt hk hik
      rw [List.getElem?_eq_getElem hi', List.getElem?_eq_getElem hil] at this
      simpa using this
    rw [e]
    obtain ⟨h1, h2⟩ := hL i hil
    refine ⟨by rw [word_same (by omega)]; exact h1, ?_⟩
    rw [← h2]
    refine misB_eq (fun _ => rfl) (fun h7 => ?_) (fun h6 => ?_) (fun h5 => ?_)
    · rw [hwl, hll]
      have hm : (i + 2 != l.length) = false := by
        have := h2; unfold misB at this; rw [if_neg (by rw [h7]; decide), if_pos h7, hll] at this; exact this
      exfalso
      have : i + 2 = l.length := by simpa using hm
      obtain rfl : i = k - 1 := by omega
      exact D.a7 (by rw [List.getD_eq_getElem?_getD, List.getElem?_eq_getElem hil]; exact h7)
    · exfalso
      have hm := h2
      unfold misB at hm
      rw [if_neg (by rw [h6]; decide), if_neg (by rw [h6]; decide), if_pos h6, hll] at hm
      simp only [Bool.and_eq_false_iff, Bool.or_eq_false_iff, bne_eq_false_iff_eq, Bool.not_eq_false'] at hm
      rcases hm with hm | ⟨hm, hp⟩
      · obtain rfl : i = k - 1 := by omega
        exact D.a6 (by rw [List.getD_eq_getElem?_getD, List.getElem?_eq_getElem hil]; exact h6)
      · by_cases hkk : i = k - 1
        · subst hkk
          exact D.a6 (by rw [List.getD_eq_getElem?_getD, List.getElem?_eq_getElem hil]; exact h6)
        · have hk2 : k - 1 = l.length - 2 := by omega
          have hq : l.length - 2 < l.length := by omega
          obtain ⟨g1, _⟩ := hL (l.length - 2) hq
          have g2 : itemS (wordT l[l.length - 2]) = some l[l.length - 2] := by
            unfold wordI at g1
            rwa [if_neg (by omega)] at g1
          have g3 := itemS_p g2 (by
            rw [List.getD_eq_getElem?_getD, List.getElem?_map, List.getElem?_eq_getElem hq] at hp
            simpa using hp)
          exact D.a7 (by rw [hk2, List.getD_eq_getElem?_getD, List.getElem?_eq_getElem hq]; exact g3)
    · have : ((withD l k).take i).getD (i - 1) noItem = (l.take i).getD (i - 1) noItem := by
        rw [List.getD_eq_getElem?_getD, List.getD_eq_getElem?_getD, List.getElem?_take, List.getElem?_take]
        split
        · rw [withD_lt hk (by omega)]
        · rfl
      rw [this]
  · -- the word itself
    have e : (withD l i)[i] = dctI := by
      have := withD_at hk
      rw [List.getElem?_eq_getElem hi'] at this
      simpa using this
    rw [e]
    refine ⟨by unfold wordI; rw [if_neg (by omega)]; exact itemS_dct, ?_⟩
    show (if (5 : Int) = 2 then _ else if (5 : Int) = 7 then _ else if (5 : Int) = 6 then _ else if (5 : Int) = 5 then _ else _) = false
    rw [if_neg (by decide), if_neg (by decide), if_neg (by decide), if_pos rfl]
    have : ((withD l i).take i).getD (i - 1) noItem = l.getD (i - 1) noItem := by
      rw [List.getD_eq_getElem?_getD, List.getD_eq_getElem?_getD, List.getElem?_take, if_pos (by omega), withD_lt hk (by omega)]
    rw [this]
    simpa using D.a5
  · -- behind
    obtain ⟨j, rfl⟩ : ∃ j, i = j + 1 := ⟨i - 1, by omega⟩
    have hj : j < l.length := by omega
    have e : (withD l k)[j + 1] = l[j] := by
      have := withD_gt hk (show k ≤ j by omega)
      rw [List.getElem?_eq_getElem hi', List.getElem?_eq_getElem hj] at this
      simpa using this
    rw [e]
    obtain ⟨h1, h2⟩ := hL j hj
    refine ⟨by rw [word_shift (by omega)]; exact h1, ?_⟩
    rw [← h2]
    refine misB_eq (fun h2' => ?_) (fun h7 => ?_) (fun h6 => ?_) (fun h5 => ?_)
    · exfalso
      have hm := h2
      unfold misB at hm
      rw [if_pos h2'] at hm
      have : j = 1 := by simpa using hm
      subst this
      obtain rfl : k = 1 := by omega
      exact D.b2 (by rw [List.getD_eq_getElem?_getD, List.getElem?_eq_getElem hj]; exact h2')
    · rw [hwl, hll]
      have : (j + 1 + 2 = l.length + 1) = (j + 2 = l.length) := propext ⟨by omega, by omega⟩
      rw [Bool.eq_iff_iff]; simp only [bne_iff_ne, ne_eq, this]
    · rw [hwl, hll]
      have e1 : (j + 1 + 2 = l.length + 1) = (j + 2 = l.length) := propext ⟨by omega, by omega⟩
      have e2 : (j + 1 + 3 = l.length + 1) = (j + 3 = l.length) := propext ⟨by omega, by omega⟩
      have e3 : j + 3 = l.length → ((withD l k).map wordT).getD (l.length + 1 - 2) [] = (l.map wordT).getD (l.length - 2) [] := fun h3 => by
        rw [List.getD_eq_getElem?_getD, List.getD_eq_getElem?_getD, List.getElem?_map, List.getElem?_map, show l.length + 1 - 2 = (l.length - 2) + 1 by omega, withD_gt hk (by omega)]
      by_cases h3 : j + 3 = l.length
      · rw [e3 h3]
        rw [Bool.eq_iff_iff]; simp only [Bool.and_eq_true, Bool.or_eq_true, bne_iff_ne, ne_eq, e1, e2]
      · rw [Bool.eq_iff_iff]; simp only [Bool.and_eq_true, Bool.or_eq_true, bne_iff_ne, ne_eq, e1, e2, h3, not_false_eq_true, true_or, and_true]
    · by_cases hjk : j = k
      · subst hjk
        exact absurd h5 (by have := D.b5; rwa [List.getD_eq_getElem?_getD, List.getElem?_eq_getElem hj] at this)
      · have : ((withD l k).take (j + 1)).getD (j + 1 - 1) noItem = (l.take j).getD (j - 1) noItem := by
          rw [List.getD_eq_getElem?_getD, List.getD_eq_getElem?_getD, List.getElem?_take, if_pos (by omega), List.getElem?_take, if_pos (by omega), show j + 1 - 1 = (j - 1) + 1 by omega, withD_gt hk (by omega)]
        rw [this]
end Go.Proofs.YtgoeedohgomodaaGreatDoor
namespace Go.Proofs.YtgoeedohgomodaaGreatDoor
open Go.RowKit
set_option linter.unusedVariables false
set_option linter.unusedSimpArgs false
theorem alongS_idx (R : RLook) (l : List Entry) (a : AwyV) (x : ItemV) (i j : Nat) : (alongS R l a x i).1 = (alongS R l a x j).1 ∧ (alongS R l a x i).2.2 = (alongS R l a x j).2.2 := by
  unfold alongS endA
  by_cases h4 : x.kind = 4
  · rw [if_pos h4, if_pos h4]
    dsimp only
    cases l.getLast? with
    | none => exact ⟨rfl, rfl⟩
    | some y => dsimp only; split <;> (try exact ⟨rfl, rfl⟩); split <;> exact ⟨rfl, rfl⟩
  · rw [if_neg h4, if_neg h4]
    by_cases h3 : x.kind = 3
    · rw [if_pos h3, if_pos h3]
      by_cases ha : (R.awy x.name).isSome = true
      · rw [if_pos ha, if_pos ha]; exact ⟨rfl, rfl⟩
      · rw [if_neg ha, if_neg ha]
        cases ptNamed x.name a.pts with
        | none => exact ⟨rfl, rfl⟩
        | some r =>
          dsimp only
          cases l.getLast? with
          | none => exact ⟨rfl, rfl⟩
          | some y => dsimp only; split <;> (try exact ⟨rfl, rfl⟩); split <;> exact ⟨rfl, rfl⟩
    · rw [if_neg h3, if_neg h3]; exact ⟨rfl, rfl⟩
theorem nameS_idx (R : RLook) (l : List Entry) (x y : ItemV) (i j : Nat) : (nameS R l x y i).1 = (nameS R l x y j).1 ∧ (nameS R l x y i).2.2 = (nameS R l x y j).2.2 := by
  unfold nameS
  cases R.awy x.name with
  | none => exact ⟨rfl, rfl⟩
  | some a => exact alongS_idx R l a y i j
theorem nameS_step (R : RLook) (l : List Entry) (x y : ItemV) (i j : Nat) (h : (nameS R l x y i).2.2 = 0) : (nameS R l x y i).2.1 - (i : Int) = (nameS R l x y j).2.1 - (j : Int) := by
  have h' := h
  rw [(nameS_idx R l x y i j).2] at h'
  unfold nameS at h h' ⊢
  cases hq : R.awy x.name with
  | none => show (i : Int) - i = (j : Int) - j; omega
  | some a =>
    rw [hq] at h h'
    dsimp only at h h' ⊢
    rw [if_pos h, if_pos h']
    omega
theorem destS_idx (R : RLook) (l : List Entry) (x y : ItemV) (w : List UInt8) (i j : Nat) : (destS R l x y w i).1 = (destS R l x y w j).1 ∧ (destS R l x y w i).2.2 = (destS R l x y w j).2.2 := by
  unfold destS
  split
  · exact ⟨rfl, rfl⟩
  · split
    · exact ⟨rfl, rfl⟩
    · split
      · split
        · exact ⟨rfl, rfl⟩
        · exact ⟨rfl, rfl⟩
      · exact ⟨rfl, rfl⟩
theorem step_ahead {l : List ItemV} {k : Nat} (D : DirOk l k) (R : RLook) (w : List UInt8) {i : Nat} (hi : i < k) (es : List Entry) : itemStep R (withD l k) w i es = itemStep R l w i es := by
  have hk : k ≤ l.length := Nat.le_of_lt D.lt
  have hlt := D.lt
  have e0 : (withD l k).getD i noItem = l.getD i noItem := getD_eq (withD_lt hk hi)
  have eL : (withD l k).getD ((withD l k).length - 1) noItem = l.getD (l.length - 1) noItem := by
    refine getD_eq ?_
    rw [withD_len hk, show l.length + 1 - 1 = (l.length - 1) + 1 by omega, withD_gt hk (by omega)]
  have eB : (withD l k).getD (i - 1) noItem = l.getD (i - 1) noItem := getD_eq (withD_lt hk (by omega))
  have e00 : (withD l k).getD 0 noItem = l.getD 0 noItem := getD_eq (withD_lt hk D.pos)
  have eO : originS R es ((withD l k).getD 1 noItem) w = originS R es (l.getD 1 noItem) w := by
    by_cases h1 : 1 < k
    · rw [getD_eq (withD_lt hk h1)]
    · obtain rfl : k = 1 := by have := D.pos; omega
      have a : (withD l 1).getD 1 noItem = dctI := by rw [List.getD_eq_getElem?_getD, withD_at hk]; rfl
      unfold originS
      rw [a, if_neg (show ¬ dctI.kind = 2 by decide), if_neg D.b2]
  unfold itemStep
  rw [e0, eL, eB, e00, eO]
  by_cases h3 : (l.getD i noItem).kind = 3
  · have : i + 1 < k := by
      rcases Nat.lt_or_ge (i + 1) k with h | h
      · exact h
      · obtain rfl : i = k - 1 := by omega
        exact absurd h3 D.a3
    rw [getD_eq (withD_lt hk this)]
  · by_cases h1 : (l.getD i noItem).kind = 1
    · rw [if_pos h1, if_pos h1]
    · rw [if_neg h1, if_neg h1]
      by_cases h2 : (l.getD i noItem).kind = 2
      · rw [if_pos h2, if_pos h2]
      · rw [if_neg h2, if_neg h2]
        by_cases h4 : (l.getD i noItem).kind = 4
        · rw [if_pos h4, if_pos h4]
        · rw [if_neg h4, if_neg h4, if_neg h3, if_neg h3]
theorem step_word {l : List ItemV} {k : Nat} (D : DirOk l k) (R : RLook) (w : List UInt8) (es : List Entry) : itemStep R (withD l k) w k es = (es, ((k : Int), 0)) := by
  have a : (withD l k).getD k noItem = dctI := by rw [List.getD_eq_getElem?_getD, withD_at (Nat.le_of_lt D.lt)]; rfl
  unfold itemStep
  rw [a]
  rfl
theorem step_behind {l : List ItemV} {k : Nat} (D : DirOk l k) (h1 : ∀ i, 0 < i → (l.getD i noItem).kind ≠ 1) (R : RLook) (w : List UInt8) {i : Nat} (hi : k ≤ i) (es : List Entry) (h : (itemStep R l w i es).2.2 = 0) :
    (itemStep R (withD l k) w (i + 1) es).1 = (itemStep R l w i es).1 ∧ (itemStep R (withD l k) w (i + 1) es).2.2 = 0 ∧ (itemStep R (withD l k) w (i + 1) es).2.1 = (itemStep R l w i es).2.1 + 1 := by
  have hk : k ≤ l.length := Nat.le_of_lt D.lt
  have hlt := D.lt
  have hpos := D.pos
  have e0 : (withD l k).getD (i + 1) noItem = l.getD i noItem := getD_eq (withD_gt hk hi)
  have eN : (withD l k).getD (i + 1 + 1) noItem = l.getD (i + 1) noItem := getD_eq (withD_gt hk (by omega))
  have eL : (withD l k).getD ((withD l k).length - 1) noItem = l.getD (l.length - 1) noItem := by
    refine getD_eq ?_
    rw [withD_len hk, show l.length + 1 - 1 = (l.length - 1) + 1 by omega, withD_gt hk (by omega)]
  have e00 : (withD l k).getD 0 noItem = l.getD 0 noItem := getD_eq (withD_lt hk hpos)
  have eD : ∀ j, destS R es (l.getD i noItem) ((withD l k).getD (i + 1 - 1) noItem) w j = destS R es (l.getD i noItem) (l.getD (i - 1) noItem) w j := by
    intro j
    by_cases hik : i = k
    · subst hik
      have a : (withD l i).getD (i + 1 - 1) noItem = dctI := by rw [List.getD_eq_getElem?_getD, show i + 1 - 1 = i by omega, withD_at hk]; rfl
      unfold destS
      rw [a, if_neg (show ¬ dctI.kind = 7 by decide), if_neg D.a7]
    · rw [getD_eq (show (withD l k)[i + 1 - 1]? = l[i - 1]? by rw [show i + 1 - 1 = (i - 1) + 1 by omega, withD_gt hk (by omega)])]
  have hne1 := h1 i (by omega)
  unfold itemStep at h ⊢
  rw [e0, eN, eL, e00, eD]
  rw [if_neg hne1] at h ⊢
  rw [if_neg hne1]
  by_cases h2 : (l.getD i noItem).kind = 2
  · rw [if_pos h2] at h ⊢
    rw [if_pos h2]
    exact ⟨rfl, h, rfl⟩
  rw [if_neg h2] at h ⊢
  rw [if_neg h2]
  by_cases h4 : (l.getD i noItem).kind = 4
  · rw [if_pos h4] at h ⊢
    rw [if_pos h4]
    exact ⟨rfl, h, rfl⟩
  rw [if_neg h4] at h ⊢
  rw [if_neg h4]
  by_cases h3 : (l.getD i noItem).kind = 3
  · rw [if_pos h3] at h ⊢
    rw [if_pos h3]
    have hx := nameS_idx R es (l.getD i noItem) (l.getD (i + 1) noItem) (i + 1) i
    have hs := nameS_step R es (l.getD i noItem) (l.getD (i + 1) noItem) i (i + 1) h
    exact ⟨hx.1, hx.2.trans h, by omega⟩
  rw [if_neg h3] at h ⊢
  rw [if_neg h3]
  by_cases h6 : (l.getD i noItem).kind = 6
  · rw [if_pos h6] at h ⊢
    rw [if_pos h6]
    exact ⟨rfl, h, rfl⟩
  rw [if_neg h6] at h ⊢
  rw [if_neg h6]
  by_cases h7 : (l.getD i noItem).kind = 7
  · rw [if_pos h7] at h ⊢
    rw [if_pos h7]
    exact ⟨rfl, h, rfl⟩
  rw [if_neg h7] at h ⊢
  rw [if_neg h7]
  by_cases h8 : (l.getD i noItem).kind = 8
  · rw [if_pos h8] at h ⊢
    rw [if_pos h8]
    have hx := destS_idx R es (l.getD i noItem) (l.getD (i - 1) noItem) w (i + 1) i
    refine ⟨hx.1, hx.2.trans h, ?_⟩
    rw [destS_at R es _ _ w i h, destS_at R es _ _ w (i + 1) (hx.2.trans h)]
    rfl
  rw [if_neg h8, if_neg h8]
  exact ⟨rfl, rfl, rfl⟩
theorem go_behind {l : List ItemV} {k : Nat} (D : DirOk l k) (h1 : ∀ i, 0 < i → (l.getD i noItem).kind ≠ 1) (R : RLook) (ws vs : List (List UInt8)) (hw : ∀ i, k ≤ i → vs.getD (i + 1) [] = ws.getD i []) :
    ∀ (f f' i : Nat) (es : List Entry), k ≤ i → l.length ≤ i + f → l.length ≤ i + f' → (routeGo R l ws f i es).2.2 = 0 →
      (routeGo R (withD l k) vs f' (i + 1) es).1 = (routeGo R l ws f i es).1 ∧ (routeGo R (withD l k) vs f' (i + 1) es).2.2 = 0
  | 0, f', i, es, hi, hf, hf', h => by
    have hlen := withD_len (Nat.le_of_lt D.lt)
    cases f' with
    | zero => exact ⟨rfl, rfl⟩
    | succ f' =>
      unfold routeGo
      rw [if_neg (by rw [hlen]; omega)]
      exact ⟨rfl, rfl⟩
  | f + 1, f', i, es, hi, hf, hf', h => by
    have hlen := withD_len (Nat.le_of_lt D.lt)
    unfold routeGo at h
    split at h
    · rename_i hil
      cases f' with
      | zero => omega
      | succ f' =>
        split at h
        · rename_i he; exact absurd h he
        · rename_i he
          have he : (itemStep R l (ws.getD i []) i es).2.2 = 0 := by simpa using he
          obtain ⟨s1, s2, s3⟩ := step_behind D h1 R (ws.getD i []) hi es he
          have hx : ((itemStep R l (ws.getD i []) i es).2.1).toNat = i ∨ ((itemStep R l (ws.getD i []) i es).2.1).toNat = i + 1 := by
            rcases step_at R l (ws.getD i []) i es he with e | ⟨_, e⟩
            · left; omega
            · right; omega
          have hnn : 0 ≤ (itemStep R l (ws.getD i []) i es).2.1 := by
            rcases step_at R l (ws.getD i []) i es he with e | ⟨_, e⟩ <;> omega
          have e2 : ((itemStep R (withD l k) (ws.getD i []) (i + 1) es).2.1).toNat = ((itemStep R l (ws.getD i []) i es).2.1).toNat + 1 := by omega
          have ih := go_behind D h1 R ws vs hw f f' (((itemStep R l (ws.getD i []) i es).2.1).toNat + 1) (itemStep R l (ws.getD i []) i es).1 (by omega) (by omega) (by omega) h
          have u1 : routeGo R l ws (f + 1) i es = routeGo R l ws f (((itemStep R l (ws.getD i []) i es).2.1).toNat + 1) (itemStep R l (ws.getD i []) i es).1 := by
            conv => lhs; unfold routeGo
            rw [if_pos hil, if_neg (not_not_intro he)]
          have u2 : routeGo R (withD l k) vs (f' + 1) (i + 1) es = routeGo R (withD l k) vs f' (((itemStep R l (ws.getD i []) i es).2.1).toNat + 1 + 1) (itemStep R l (ws.getD i []) i es).1 := by
            conv => lhs; unfold routeGo
            rw [if_pos (by rw [hlen]; omega), hw i hi, if_neg (not_not_intro s2), e2, s1]
          rw [u1, u2]
          exact ih
    · rename_i hil
      have u1 : routeGo R l ws (f + 1) i es = (es, (0, 0)) := by
        conv => lhs; unfold routeGo
        rw [if_neg hil]
      rw [u1]
      cases f' with
      | zero => exact ⟨rfl, rfl⟩
      | succ f' =>
        unfold routeGo
        rw [if_neg (by rw [hlen]; omega)]
        exact ⟨rfl, rfl⟩
theorem go_ahead {l : List ItemV} {k : Nat} (D : DirOk l k) (h1 : ∀ i, 0 < i → (l.getD i noItem).kind ≠ 1) (R : RLook) (ws vs : List (List UInt8)) (hw : ∀ i, k ≤ i → vs.getD (i + 1) [] = ws.getD i []) (hv : ∀ i, i < k → vs.getD i [] = ws.getD i []) :
    ∀ (f f' i : Nat) (es : List Entry), i ≤ k → l.length ≤ i + f → l.length + 1 ≤ i + f' → (routeGo R l ws f i es).2.2 = 0 →
      (routeGo R (withD l k) vs f' i es).1 = (routeGo R l ws f i es).1 ∧ (routeGo R (withD l k) vs f' i es).2.2 = 0
  | 0, f', i, es, hi, hf, hf', h => by have := D.lt; omega
  | f + 1, f', i, es, hi, hf, hf', h => by
    have hlen := withD_len (Nat.le_of_lt D.lt)
    have hlt := D.lt
    cases f' with
    | zero => omega
    | succ f' =>
      by_cases hik : i = k
      · subst hik
        have u2 : routeGo R (withD l i) vs (f' + 1) i es = routeGo R (withD l i) vs f' (i + 1) es := by
          conv => lhs; unfold routeGo
          rw [if_pos (by rw [hlen]; omega), step_word D R _ es, if_neg (not_not_intro rfl)]
          rfl
        rw [u2]
        exact go_behind D h1 R ws vs hw (f + 1) f' i es (Nat.le_refl _) hf (by omega) h
      · have hil : i < l.length := by omega
        unfold routeGo at h
        rw [if_pos hil] at h
        split at h
        · rename_i he; exact absurd h he
        · rename_i he
          have he : (itemStep R l (ws.getD i []) i es).2.2 = 0 := by simpa using he
          have sa := step_ahead D R (ws.getD i []) (show i < k by omega) es
          have hx : ((itemStep R l (ws.getD i []) i es).2.1).toNat + 1 ≤ k ∧ i ≤ ((itemStep R l (ws.getD i []) i es).2.1).toNat := by
            rcases step_at R l (ws.getD i []) i es he with e | ⟨e3, e⟩
            · omega
            · have : i ≠ k - 1 := by rintro rfl; exact D.a3 e3
              omega
          have u1 : routeGo R l ws (f + 1) i es = routeGo R l ws f (((itemStep R l (ws.getD i []) i es).2.1).toNat + 1) (itemStep R l (ws.getD i []) i es).1 := by
            conv => lhs; unfold routeGo
            rw [if_pos hil, if_neg (not_not_intro he)]
          have u2 : routeGo R (withD l k) vs (f' + 1) i es = routeGo R (withD l k) vs f' (((itemStep R l (ws.getD i []) i es).2.1).toNat + 1) (itemStep R l (ws.getD i []) i es).1 := by
            conv => lhs; unfold routeGo
            rw [if_pos (by rw [hlen]; omega), hv i (by omega), sa, if_neg (not_not_intro he)]
          rw [u1, u2]
          exact go_ahead D h1 R ws vs hw hv f f' _ _ hx.1 (by omega) (by omega) h
end Go.Proofs.YtgoeedohgomodaaGreatDoor
namespace Go.Proofs.YtgoeedohgomodaaGreatDoor
open Go.RowKit
set_option linter.unusedVariables false
set_option linter.unusedSimpArgs false
theorem kind1_first {ws : List (List UInt8)} {l : List ItemV} (h : ItemsOk ws l) : ∀ i, 0 < i → (l.getD i noItem).kind ≠ 1 := by
  intro i hi hk
  by_cases hl : i < l.length
  · have hw : i < ws.length := h.1 ▸ hl
    have a := (h.2 i hw hl).1
    rw [List.getD_eq_getElem?_getD, List.getElem?_eq_getElem hl] at hk
    have := wordI_kind1 a hk
    omega
  · rw [List.getD_eq_getElem?_getD, List.getElem?_eq_none (by omega)] at hk
    exact absurd hk (by decide)
theorem withD_text {s : List UInt8} {k : Nat} (h : (routeParse s).2 = 0) (D : DirOk (routeParse s).1.1 k) (hn : (routeParse s).1.1.length < 124) :
    routeText (withD (routeParse s).1.1 k) = joinT (withD (routeParse s).1.1 k) ∧ routeParse (joinT (withD (routeParse s).1.1 k)) = ((withD (routeParse s).1.1 k, 0), 0)
      ∧ splitC 32 (joinT (withD (routeParse s).1.1 k)) = (withD (routeParse s).1.1 k).map wordT := by
  obtain ⟨ok, n, n1, ws⟩ := parse_ok h
  generalize (routeParse s).1.1 = l at *
  have hlt := D.lt
  have hpos := D.pos
  have hlen := withD_len (Nat.le_of_lt hlt)
  have hs : ∀ x ∈ withD l k, (32 : UInt8) ∉ wordT x := by
    intro x hx
    have hl : ∀ x ∈ l, (32 : UInt8) ∉ wordT x := fun x hx => splitC_not 32 s _ (ws ▸ List.mem_map_of_mem hx)
    unfold withD at hx
    rw [List.mem_append, List.mem_cons] at hx
    rcases hx with hx | rfl | hx
    · exact hl x (List.mem_of_mem_take hx)
    · decide
    · exact hl x (List.mem_of_mem_drop hx)
  have ok' : ItemsOk ((withD l k).map wordT) (withD l k) := withD_ok (ws ▸ ok) D
  have hne : withD l k ≠ [] := by intro e; rw [e] at hlen; simp at hlen
  obtain ⟨p, q⟩ := parse_of ok' (by omega) (by omega) hne hs
  refine ⟨?_, p, q⟩
  unfold routeText
  rw [if_neg (by omega), p]
  rw [if_neg (by simp)]
theorem route_direct (R : RLook) {s : List UInt8} {k : Nat} (h : (expandS R s).2 = 0) (D : DirOk (routeParse s).1.1 k) (hn : (routeParse s).1.1.length < 124) :
    expandS R (routeText (withD (routeParse s).1.1 k)) = expandS R s := by
  obtain ⟨t, p, q⟩ := withD_text (expandS_parse h) D hn
  obtain ⟨ok, n, n1, ws⟩ := parse_ok (expandS_parse h)
  have hg := expandS_go h
  have hc := expandS_check h
  rw [expandS_plan h, t]
  unfold expandS
  rw [p, q]
  dsimp only
  generalize (routeParse s).1.1 = l at *
  rw [ws] at hg hc ⊢
  have hlt := D.lt
  have hpos := D.pos
  have hlen := withD_len (Nat.le_of_lt hlt)
  have hw : ∀ i, k ≤ i → ((withD l k).map wordT).getD (i + 1) [] = (l.map wordT).getD i [] := by
    intro i hi
    refine getD_eq ?_
    rw [List.getElem?_map, List.getElem?_map, withD_gt (Nat.le_of_lt hlt) hi]
  have hv : ∀ i, i < k → ((withD l k).map wordT).getD i [] = (l.map wordT).getD i [] := by
    intro i hi
    refine getD_eq ?_
    rw [List.getElem?_map, List.getElem?_map, withD_lt (Nat.le_of_lt hlt) hi]
  obtain ⟨g1, g2⟩ := go_ahead D (kind1_first ok) R (l.map wordT) ((withD l k).map wordT) hw hv l.length (withD l k).length 0 [] (Nat.zero_le _) (by omega) (by omega) hg
  have hH : ((withD l k).map wordT).headD [] = (l.map wordT).headD [] := by
    rw [headD_at, headD_at, List.getElem?_map, List.getElem?_map, withD_lt (Nat.le_of_lt hlt) (by omega)]
  have hL : ((withD l k).map wordT).getLastD [] = (l.map wordT).getLastD [] := by
    rw [getLastD_at, getLastD_at, List.getElem?_map, List.getElem?_map, List.length_map, List.length_map, hlen, show l.length + 1 - 1 = (l.length - 1) + 1 by omega, withD_gt (Nat.le_of_lt hlt) (by omega)]
  rw [if_neg (not_not_intro rfl), if_neg (not_not_intro g2), hH, hL, g1, if_neg (not_not_intro hc)]
end Go.Proofs.YtgoeedohgomodaaGreatDoor
namespace Go.Proofs.YtgoeedohgomodaaGreatDoor
open Go.RowKit
set_option linter.unusedVariables false
set_option linter.unusedSimpArgs false
attribute [go_sem] ItemV.arr0 ItemV.arr1 ItemV.arr2
theorem Has_itm_drewN (w : World) (b o n : Nat) : Has_itm (w.drewN n) b o = Has_itm w b o := propext ⟨fun h => h, fun h => h⟩
attribute [go_sem ↓] load_itm_fold store_itm_fold
attribute [go_sem] run_load_itm run_store_itm Has_itm_drewN of_itm_drewN 
attribute [go_sem] SzIs_itm Fits_itm Ones_itm splice_itm run_storeB_itm run_storeN_itm
end Go.Proofs.YtgoeedohgomodaaGreatDoor
namespace Go.Proofs.YtgoeedohgomodaaGreatDoor
open Go.RowKit
set_option linter.unusedVariables false
set_option linter.unusedSimpArgs false
def sameB (p q : Plan) : Bool := p.from_ == q.from_ && p.to_ == q.to_ && p.active == q.active && eqGo p.es q.es
set_option maxHeartbeats 2000000 in
set_option maxRecDepth 100000 in
theorem same_any (p q : Plan) (A B : Option Addr) (c d : Nat) (w : World) (hp : p.es.length ≤ 4000000000) (hq : q.es.length ≤ 4000000000) (hc : p.es.length ≤ c) (hd : q.es.length ≤ d) (hE : Ents w A p.es) (hF : Ents w B q.es) :
   Calls Tryz.prog 27 #[p.val A c, q.val B d] w (Ret w (.bool (sameB p q))) := by
  go_enter Tryz.func27, Tryz.ntmps27
  go_upto_region 1 with (fail)
  generalize hW : (w.alloc _).alloc _ = W
  have X0 : Blk W w.heap.size (p.arr A c) := by rw [← hW]; exact (Blk.new w _ _).alloc _
  have R0 : Blk W (w.heap.size + 1) (q.arr B d) := by rw [← hW, ← World.size_alloc w (.cells (p.arr A c) 43)]; exact Blk.new _ _ _
  have B0 : Below w.heap.size w W := by rw [← hW]; go_grown
  clear hW
  have c1 := X0.cell
  have c2 := X0.lt
  have d1 := R0.cell
  have d2 := R0.lt
  have hcall := Lib.hid (sequal_any p.es q.es A B c d W hp hq hc hd (hE.below (B := 0) B0) (hF.below (B := 0) B0))
  obtain ⟨a1, h1⟩ : ∃ a, (p.from_ == q.from_) = a := ⟨_, rfl⟩
  obtain ⟨a2, h2⟩ : ∃ a, (p.to_ == q.to_) = a := ⟨_, rfl⟩
  obtain ⟨a3, h3⟩ : ∃ a, (p.active == q.active) = a := ⟨_, rfl⟩
  have HS := Lib.hid (show sameB p q = (a1 && a2 && a3 && eqGo p.es q.es) by rw [sameB, h1, h2, h3])
  cases a1 <;> cases a2 <;> cases a3
  all_goals
    go_wp2_with (go_at_call 58; refine callQ hcall.out ?_; intro n)
    all_goals (go_ret; exact Ret.bool (by rw [HS.out]; simp) (by first | exact B0 | exact below_drewN B0 _))
end Go.Proofs.YtgoeedohgomodaaGreatDoor
namespace Go.Proofs.YtgoeedohgomodaaGreatDoor
open Go.RowKit
set_option linter.unusedVariables false
set_option linter.unusedSimpArgs false
set_option maxRecDepth 100000
attribute [local go_sem] ba_append 
theorem ba_two (a b : UInt8) (l : List UInt8) : (ByteArray.mk #[a, b]) ++ (ByteArray.mk l.toArray) = ⟨(a :: b :: l).toArray⟩ := ba_append [a, b] l
attribute [local go_sem ↓] ba_two
set_option maxHeartbeats 4000000 in
theorem rword_any (x : ItemV) (hx : x.small) (w : World) : Calls Tryz.prog 56 #[.agg x.arr] w (Ret w (.string ⟨(wordT x).toArray⟩)) := by
  obtain ⟨k, s, t⟩ := x
  obtain ⟨hs, ht⟩ := hx
  dsimp only at hs ht
  have HW := Lib.hid (show wordT ⟨k, s, t⟩ = if k = 1 ∨ k = 8 then withB s 47 t else if k = 2 then 68 :: 61 :: withB s 46 t else if k = 6 then 65 :: 61 :: withB s 46 t else if k = 7 then 80 :: 61 :: withB s 46 t else if k = 5 then [68, 67, 84] else s from rfl)
  have KW := Lib.hid (fun (c : UInt8) (W : World) => rwith_any s t c hs ht W)
  have l46 := withB_lenR s 46 t
  have hb : ¬ 9223372036854775807 < 2 + (withB s 46 t).length := by omega
  generalize wordT ⟨k, s, t⟩ = v at *
  generalize hw46 : withB s 46 t = w46 at *
  have H46 := Lib.hid hw46
  clear l46 hw46
  go_enter Tryz.func56, Tryz.ntmps56
  go_upto_region 1 with (fail)
  have A0 := Blk.new w (ItemV.arr ⟨k, s, t⟩) 57
  have D0 := (Below.refl w.heap.size w).alloc (Nat.le_refl _) (.cells (ItemV.arr ⟨k, s, t⟩) 57)
  generalize w.alloc _ = W0 at A0 D0 ⊢
  obtain ⟨g, hg⟩ : ∃ g, g = w.heap.size := ⟨_, rfl⟩
  rw [← hg] at A0 ⊢
  clear hg
  have c0 : W0.cell? ⟨g, 0, none⟩ = some (.int .u8 k) := A0.cell 0
  have c1 : W0.cell? ⟨g, 1, none⟩ = some (.string ⟨s.toArray⟩) := A0.cell 1
  have c2 : W0.cell? ⟨g, 2, none⟩ = some (.string ⟨t.toArray⟩) := A0.cell 2
  clear A0
  by_cases h1 : k = 1
  · have HV := Lib.hid (show v = withB s 47 t by rw [HW.out, if_pos (.inl h1)])
    have K := Lib.hid (KW.out 47 W0)
    subst h1
    go_wp2_with (go_at_call 73; (with_reducible refine callP K.out ?_))
    go_ret
    exact Ret.str (by rw [HV.out]) D0
  have n1 : (k == 1) = false := by simpa using h1
  by_cases h8 : k = 8
  · have HV := Lib.hid (show v = withB s 47 t by rw [HW.out, if_pos (.inr h8)])
    have K := Lib.hid (KW.out 47 W0)
    subst h8
    go_wp2_with (go_at_call 73; (with_reducible refine callP K.out ?_))
    go_ret
    exact Ret.str (by rw [HV.out]) D0
  have n8 : (k == 8) = false := by simpa using h8
  have K := Lib.hid (show Calls Tryz.prog 73 #[.string ⟨s.toArray⟩, .string ⟨#[46]⟩, .string ⟨t.toArray⟩] W0 (RetP W0 (.string ⟨w46.toArray⟩)) from H46.out ▸ KW.out 46 W0)
  by_cases h2 : k = 2
  · have HV := Lib.hid (show v = 68 :: 61 :: w46 by rw [HW.out, if_neg (by omega), if_pos h2])
    subst h2
    go_wp2_with (go_at_call 73; (with_reducible refine callP K.out ?_))
    go_ret
    exact Ret.str (by rw [HV.out]) D0
  have n2 : (k == 2) = false := by simpa using h2
  by_cases h6 : k = 6
  · have HV := Lib.hid (show v = 65 :: 61 :: w46 by rw [HW.out, if_neg (by omega), if_neg h2, if_pos h6])
    subst h6
    go_wp2_with (go_at_call 73; (with_reducible refine callP K.out ?_))
    go_ret
    exact Ret.str (by rw [HV.out]) D0
  have n6 : (k == 6) = false := by simpa using h6
  by_cases h7 : k = 7
  · have HV := Lib.hid (show v = 80 :: 61 :: w46 by rw [HW.out, if_neg (by omega), if_neg h2, if_neg h6, if_pos h7])
    subst h7
    go_wp2_with (go_at_call 73; (with_reducible refine callP K.out ?_))
    go_ret
    exact Ret.str (by rw [HV.out]) D0
  have n7 : (k == 7) = false := by simpa using h7
  by_cases h5 : k = 5
  · have HV := Lib.hid (show v = [68, 67, 84] by rw [HW.out, if_neg (by omega), if_neg h2, if_neg h6, if_neg h7, if_pos h5])
    subst h5
    go_wp2
    go_ret
    exact Ret.str (by rw [HV.out]) D0
  have n5 : (k == 5) = false := by simpa using h5
  have HV := Lib.hid (show v = s by rw [HW.out, if_neg (by omega), if_neg h2, if_neg h6, if_neg h7, if_neg h5])
  clear h1 h2 h5 h6 h7 h8
  go_wp2
  go_ret
  exact Ret.str (by rw [HV.out]) D0
end Go.Proofs.YtgoeedohgomodaaGreatDoor
namespace Go.Proofs.YtgoeedohgomodaaGreatDoor
open Go.RowKit Go.Sort
set_option linter.unusedVariables false
set_option linter.unusedSimpArgs false
def eqIt : List ItemV → List ItemV → Bool
  | [], [] => true
  | x :: a, y :: b => x.eqB y && eqIt a b
  | _, _ => false
theorem eqIt_len : ∀ {a b : List ItemV}, ¬ a.length = b.length → eqIt a b = false
  | [], [], h => by simp at h
  | [], _ :: _, _ => rfl
  | _ :: _, [], _ => rfl
  | x :: a, y :: b, h => by simp [eqIt]; intro _; exact eqIt_len (by simpa using h)
theorem eqIt_iff : ∀ (a b : List ItemV), eqIt a b = true ↔ a = b
  | [], [] => by simp [eqIt]
  | [], _ :: _ => by simp [eqIt]
  | _ :: _, [] => by simp [eqIt]
  | x :: a, y :: b => by simp [eqIt, ItemV.eqB_iff, eqIt_iff a b]
set_option maxHeartbeats 2000000 in
set_option maxRecDepth 100000 in
theorem isequal_any (a b : List ItemV) (A B : Option Addr) (ca cb : Nat) (w : World) (hla : a.length ≤ 4000000000) (hlb : b.length ≤ 4000000000) (hca : a.length ≤ ca) (hcb : b.length ≤ cb) (ha : Items w A 3 (a.map ItemV.arr)) (hb : Items w B 3 (b.map ItemV.arr)) :
    Calls Tryz.prog 57 #[.slice A a.length ca, .slice B b.length cb] w (RetQ w (.bool (eqIt a b))) := by
  by_cases hl : a.length = b.length
  · have h1 : ((a.length : Int) != (b.length : Int)) = false := by simp [hl]
    have HL := Lib.hid hl; clear hl
    go_enter Tryz.func57, Tryz.ntmps57
    go_wp2
    go_loopw [13] (fun i wr => ∃ k : Nat, k ≤ a.length ∧ i = .int .i64 k ∧ eqIt a b = eqIt (a.drop k) (b.drop k) ∧ ∃ n, wr = w.drewN n) (fun i _ => a.length - (intOf i).toNat)
    case atStart => exact ⟨0, by omega, rfl, rfl, 0, rfl⟩
    case round =>
      obtain ⟨k, hk, rfl, hq, n, rfl⟩ := hrel
      have HQ := Lib.hid hq; clear hq
      by_cases hlt : k < a.length
      · have hlt2 : k < b.length := by have := HL.out; omega
        obtain ⟨b1, o1, hA, hb1, hq1⟩ := ha.itm hlt
        obtain ⟨b2, o2, hB, hb2, hq2⟩ := hb.itm hlt2
        subst hA hB
        have he1 := hq1 w (Below.refl _ _)
        have he2 := hq2 w (Below.refl _ _)
        have hda := Lib.hid (List.drop_eq_getElem_cons hlt)
        have hdb := Lib.hid (List.drop_eq_getElem_cons hlt2)
        generalize a[k] = x at he1 hda
        generalize b[k] = y at he2 hdb
        have i1 : Has_itm w b1 (o1 + k * 3) := ⟨x, he1⟩
        have i2 : Has_itm w b2 (o2 + k * 3) := ⟨y, he2⟩
        have j1 : of_itm w b1 (o1 + k * 3) = x := of_itm_eq he1
        have j2 : of_itm w b2 (o2 + k * 3) = y := of_itm_eq he2
        have hne := run_neq_itm x y
        clear he1 he2 hq1 hq2 ha hb
        go_wp2
        go_quiet (fail)
        go_wp2
        · go_ret
          exact RetQ.bool (by rw [HQ.out, hda.out, hdb.out]; go_light; simp_all [eqIt]) ⟨n + nq, World.drewN_drewN _ _ _⟩
        · go_roundw
          case rel => exact ⟨k + 1, by omega, by go_num, by rw [HQ.out, hda.out, hdb.out]; go_light; simp_all [eqIt], _, rfl⟩
          case measure => simp [intOf]; omega
      · go_wp2
        go_ret
        exact RetQ.bool (by rw [HQ.out, List.drop_of_length_le (by omega), List.drop_of_length_le (by have := HL.out; omega)]; rfl) ⟨_, rfl⟩
  · have h1 : ((a.length : Int) != (b.length : Int)) = true := by simp; omega
    have HL := Lib.hid hl; clear hl
    go_enter Tryz.func57, Tryz.ntmps57
    go_wp2
    go_ret
    exact RetQ.bool (eqIt_len HL.out).symm ⟨0, rfl⟩
end Go.Proofs.YtgoeedohgomodaaGreatDoor
namespace Go.Proofs.YtgoeedohgomodaaGreatDoor
open Go.RowKit Go.Sort
set_option linter.unusedVariables false
set_option linter.unusedSimpArgs false
set_option maxRecDepth 100000
theorem wordT_len {x : ItemV} (h : x.short) : (wordT x).length ≤ 20000000 := by
  obtain ⟨k, s, t⟩ := x
  obtain ⟨h1, h2⟩ := h
  simp only at h1 h2
  have a := withB_lenR s 47 t
  have b := withB_lenR s 46 t
  unfold wordT
  simp only
  repeat' split
  all_goals (first | omega | (simp only [List.length_cons, List.length_nil]; omega))
set_option maxHeartbeats 8000000 in
theorem rtext_any (l : List ItemV) (A : Option Addr) (c : Nat) (w : World) (hL : Laid w) (hI : Items w A 3 (l.map ItemV.arr)) (hc : l.length ≤ c) (hl : l.length ≤ 4000000000) (hs : ∀ x ∈ l, x.short) :
    Calls Tryz.prog 25 #[.slice A l.length c] w (Ret w (.string ⟨(routeText l).toArray⟩)) := by
  have HO := Lib.hid (show routeText l = if 124 < l.length then [] else if (routeParse (joinT l)).2 ≠ 0 ∨ (routeParse (joinT l)).1.1 ≠ l then [] else joinT l from rfl)
  generalize routeText l = OUT at *
  by_cases h124 : 124 < l.length
  · have HE := Lib.hid (HO.out.trans (if_pos h124))
    have h1 : (124 : Int) < (l.length : Int) := by omega
    clear HO h124
    go_enter Tryz.func25, Tryz.ntmps25
    go_wp2
    go_ret
    exact Ret.str (by rw [HE.out]) (Below.refl _ _)
  have HO := Lib.hid (HO.out.trans (if_neg h124))
  have h1 : ¬ (124 : Int) < (l.length : Int) := by omega
  have hlen : l.length ≤ 124 := by omega
  clear h124
  have HI := Lib.hid hI
  have HSH := Lib.hid hs
  clear hI hs
  go_enter Tryz.func25, Tryz.ntmps25
  go_wp2
  go_loopw [15, 3] (fun iv v wr => ∃ (k : Nat) (ss : List (List UInt8)), k ≤ l.length ∧ iv = .int .i64 k ∧ ss = (l.take k).map wordT ∧ SOut w wr v ss ∧ Below w.heap.size w wr) (fun iv _ _ => l.length - (intOf iv).toNat)
  case atStart => exact ⟨0, [], Nat.zero_le _, rfl, rfl, SOut.nil _ _, Below.refl _ _⟩
  case round =>
    obtain ⟨k, ss, hk, rfl, hss, O, BW⟩ := hrel
    have HSS := Lib.hid hss
    clear hss
    by_cases hlt : k < l.length
    · obtain ⟨b, off, hA, hb, hIs⟩ := HI.out.itm hlt
      have hIs := hIs wr BW
      have HT := Lib.hid (show (l.take (k + 1)).map wordT = (l.take k).map wordT ++ [wordT l[k]] by rw [List.take_succ_eq_append_getElem hlt, List.map_append]; rfl)
      have hsh := HSH.out _ (List.getElem_mem hlt)
      generalize l[k] = x at *
      have hx := hsh.small
      subst hA
      have i1 : Has_itm wr b (off + k * 3) := ⟨_, hIs⟩
      have i2 : of_itm wr b (off + k * 3) = x := of_itm_eq hIs
      have hlt' : (k : Int) < (l.length : Int) := by omega
      have hkc : k < c := by omega
      have hss124 : ss.length ≤ 124 := by rw [HSS.out, List.length_map, List.length_take]; omega
      go_upto_region 7 with (fail)
      have Z := Blk.new wr x.arr 57
      have D := alloc_belowR wr (.cells x.arr 57)
      have O2 := O.below D
      have B2 := below_step BW D
      clear i1 i2 hIs hb O D
      generalize wr.alloc _ = W2 at Z B2 O2 ⊢
      generalize wr.heap.size = g7 at Z ⊢
      have z1 : Has_itm W2 g7 0 := ⟨_, Z.is_itm⟩
      have z2 : of_itm W2 g7 0 = x := of_itm_eq Z.is_itm
      have K := Lib.hid (rword_any x hx)
      go_wp2_with (first
        | (go_at_call 56; refine callR (K.out _) ?_; intro w3 b3 _ _ _; have O4 := (O2.below b3).alloc (.cells #[sval (wordT x)] 9); have B4 := below_step (below_step B2 b3) (alloc_belowR w3 (.cells #[sval (wordT x)] 9)))
        | (at_builtin; refine wpList_append_sout rfl (.tmp 19) (.tmp 22) rfl O4 rfl (wordT x) w3.heap.size 1 rfl (cell_of_row _ _ 0 _ _ _ (heap_alloc_new w3 _)) (by omega) B4.size ?_; intro v5 W5 O5 hg5))
      go_roundw
      case rel => exact ⟨k + 1, ss ++ [wordT x], by omega, by go_num, by rw [HT.out, HSS.out], O5, below_sgrown B4 O4 hg5⟩
      case measure => simp [intOf]; omega
    · obtain rfl : k = l.length := by omega
      have HSS := Lib.hid (show ss = l.map wordT by rw [HSS.out, List.take_length])
      have hlt' : ¬ (l.length : Int) < (l.length : Int) := by omega
      obtain ⟨A3, c3, e3, hl3, hS3⟩ := O.form
      subst e3
      have hsl : ss.length = l.length := by rw [HSS.out, List.length_map]
      have hbig : ∀ s ∈ ss, s.length ≤ 20000000 := fun s hs => by
        rw [HSS.out] at hs
        obtain ⟨x, hx, rfl⟩ := List.mem_map.1 hs
        exact wordT_len (HSH.out x hx)
      have hjl := join_len_le ss [32] 20000000 hbig
      have hjb : (Lib.join ss [32]).length ≤ 4000000000 := by
        have h2 : (20000000 + [(32 : UInt8)].length) * ss.length ≤ 20000001 * 124 := Nat.mul_le_mul (by simp) (by omega)
        omega
      have KJ := Lib.hid (show Calls Tryz.prog 48 #[.slice A3 ss.length c3, .string ⟨#[32]⟩] wr (Ret wr (.string ⟨(joinT l).toArray⟩)) from by
        by_cases h0 : ss = []
        · have e : joinT l = [] := by unfold joinT; rw [← HSS.out, h0]; rfl
          rw [e, h0]
          exact (Tryz.strings_Join_none A3 c3 ⟨#[32]⟩ wr).mono fun e w' h => ⟨h.1, by rw [h.2]; exact Below.refl _ _⟩
        · have h := sjoin_any ss A3 c3 [32] wr h0 hS3 hl3 (by omega) 20000000 hbig (by simp)
          rw [show Lib.join ss [32] = joinT l by rw [HSS.out]; rfl] at h
          exact h)
      have hjb : (joinT l).length ≤ 4000000000 := by rw [HSS.out] at hjb; exact hjb
      have KP := Lib.hid (fun W hW => rparse_any (joinT l) hjb W hW)
      have HLW := Lib.hid (fun (W : World) (B : Below w.heap.size w W) => hL.below B)
      clear hjl hbig hS3 hL HSH O hjb hsl
      have h6 : (routeParse (joinT l)).2 = 0 → (routeParse (joinT l)).1.1.length ≤ 124 := routeParse_len
      have HY := Lib.hid (fun (h : (routeParse (joinT l)).2 ≠ 0) => HO.out.trans (if_pos (Or.inl h)))
      have HX := Lib.hid (fun (h : (routeParse (joinT l)).1.1 ≠ l) => HO.out.trans (if_pos (Or.inr h)))
      have HZ := Lib.hid (fun (h : ¬ ((routeParse (joinT l)).2 ≠ 0 ∨ (routeParse (joinT l)).1.1 ≠ l)) => HO.out.trans (if_neg h))
      clear HO
      generalize joinT l = s at *
      generalize routeParse s = r at *
      obtain ⟨⟨its, n1⟩, n2⟩ := r
      by_cases hn : n2 = 0
      · subst hn
        have h6 : its.length ≤ 4000000000 := Nat.le_trans (h6 rfl) (by omega)
        cases hq : eqIt l its with
        | true =>
          have HE := Lib.hid (show OUT = s from HZ.out (by rintro (h | h); exact h rfl; exact h ((eqIt_iff l its).1 hq).symm))
          have HQ5 := Lib.hid (fun A5 c5 w5 (h5 : its.length ≤ c5) (I5 : Items w5 A5 3 (its.map ItemV.arr)) (B5 : Below w.heap.size w w5) => show Calls Tryz.prog 57 #[.slice A l.length c, .slice A5 its.length c5] w5 (RetQ w5 (.bool true)) from hq ▸ isequal_any l its A A5 c c5 w5 hl h6 hc h5 (HI.out.below B5) I5)
          clear HX HY HZ hq
          go_wp2_with (first
            | (go_at_call 48; (with_reducible refine callR KJ.out ?_); intro w4 b4 _ _ _)
            | (go_at_call 11; (with_reducible refine callItms (KP.out _ (HLW.out _ (below_step BW b4))) ?_); intro A5 c5 w5 h5 I5 g5 b5)
            | (go_at_call 57; (with_reducible refine callQ (HQ5.out A5 c5 w5 h5 I5 (below_step (below_step BW b4) b5)) ?_); intro n7))
          go_ret
          exact Ret.str (by rw [HE.out]) (below_drewN (below_step (below_step BW b4) b5) _)
        | false =>
          have HE := Lib.hid (show OUT = [] from HX.out (fun h => by rw [(eqIt_iff l its).2 h.symm] at hq; cases hq))
          have HQ5 := Lib.hid (fun A5 c5 w5 (h5 : its.length ≤ c5) (I5 : Items w5 A5 3 (its.map ItemV.arr)) (B5 : Below w.heap.size w w5) => show Calls Tryz.prog 57 #[.slice A l.length c, .slice A5 its.length c5] w5 (RetQ w5 (.bool false)) from hq ▸ isequal_any l its A A5 c c5 w5 hl h6 hc h5 (HI.out.below B5) I5)
          clear HX HY HZ hq
          go_wp2_with (first
            | (go_at_call 48; (with_reducible refine callR KJ.out ?_); intro w4 b4 _ _ _)
            | (go_at_call 11; (with_reducible refine callItms (KP.out _ (HLW.out _ (below_step BW b4))) ?_); intro A5 c5 w5 h5 I5 g5 b5)
            | (go_at_call 57; (with_reducible refine callQ (HQ5.out A5 c5 w5 h5 I5 (below_step (below_step BW b4) b5)) ?_); intro n7))
          go_ret
          exact Ret.str (by rw [HE.out]) (below_drewN (below_step (below_step BW b4) b5) _)
      · have HE := Lib.hid (HY.out hn)
        have hn' : (n2 != 0) = true := by simpa using hn
        clear HX HY HZ hn h6
        go_wp2_with (first
          | (go_at_call 48; (with_reducible refine callR KJ.out ?_); intro w4 b4 _ _ _)
          | (go_at_call 11; (with_reducible refine callItms (KP.out _ (HLW.out _ (below_step BW b4))) ?_); intro A5 c5 w5 h5 I5 g5 b5))
        go_ret
        exact Ret.str (by rw [HE.out]) (below_step (below_step BW b4) b5)
end Go.Proofs.YtgoeedohgomodaaGreatDoor
namespace Go.Proofs.YtgoeedohgomodaaGreatDoor
open Go.RowKit Go.Sort
set_option linter.unusedVariables false
set_option linter.unusedSimpArgs false
set_option maxRecDepth 100000
def RetBoo (w : World) (e : Ending) (w' : World) : Prop := ∃ b : Bool, e = .returned (.bool b) ∧ Below w.heap.size w w'
theorem callBoo {P : Program} {f : FuncId} {args : Array Value} {W : World} {K : Ending → World → Prop} (h : Calls P f args W (RetBoo W)) (k : ∀ b w', Below W.heap.size W w' → K (.returned (.bool b)) w') : Calls P f args W K :=
  h.mono fun e w' ⟨b, he, hb⟩ => by subst he; exact k b w' hb
attribute [local go_sem] awyArr_ones awyArr_sz awyArr_fits awyArr_splice
set_option maxHeartbeats 4000000 in
theorem few22_any (d : DBs) (G : GDB) (s : List UInt8) (hs : s.length ≤ 4000000) (w : World) (hD : GdAt w d G) : Calls Tryz.prog 14 #[.agg d.cells, .string ⟨s.toArray⟩] w (RetBoo w) := by
  obtain ⟨A, c, h7, hlc, hA⟩ := hD.air
  obtain ⟨A8, c8, h8, hl8, _⟩ := hD.prc
  have h6 := hD.db.ok.c6
  have hn := hD.airN
  have hn6 : d.fn ≤ 9000000000 := by rw [hD.db.fn]; exact hD.db.len
  have hn8 := hD.prcN
  clear hD
  generalize d.cells = cs at *
  generalize G.airways = l at *
  generalize G.procs.length = n8 at *
  generalize d.fa = A6 at *
  generalize d.fc = c6 at *
  generalize d.fn = n6 at *
  go_enter Tryz.func14, Tryz.ntmps14
  go_upto_region 1 with (fail)
  have X0 : Blk (w.alloc (.cells cs 37)) w.heap.size cs := Blk.new w _ _
  have B0 := alloc_below3 w (.cells cs 37)
  generalize w.alloc _ = W at X0 B0 ⊢
  generalize w.heap.size = g0 at X0 ⊢
  have k6 : W.cell? ⟨g0, 6, none⟩ = some (.slice A6 n6 c6) := (X0.cell 6).trans h6
  have k7 : W.cell? ⟨g0, 7, none⟩ = some (.slice A l.length c) := (X0.cell 7).trans h7
  have k8 : W.cell? ⟨g0, 8, none⟩ = some (.slice A8 n8 c8) := (X0.cell 8).trans h8
  have HA := Lib.hid (fun (W' : World) (B : Below W.heap.size W W') => hA.below (below_step B0 B))
  have HLC := Lib.hid hlc
  clear h6 h7 h8 hA X0
  by_cases a0 : (2000 : Int) < (s.length : Int)
  · go_wp2
    go_ret
    exact ⟨_, rfl, B0⟩
  by_cases a1 : (400 : Int) < (n6 : Int)
  · go_wp2
    go_ret
    exact ⟨_, rfl, B0⟩
  by_cases a2 : (60 : Int) < (l.length : Int)
  · go_wp2
    go_ret
    exact ⟨_, rfl, B0⟩
  by_cases a3 : (60 : Int) < (n8 : Int)
  · go_wp2
    go_ret
    exact ⟨_, rfl, B0⟩
  have HB0 := Lib.hid B0
  clear B0
  go_wp2
  go_loopw [31] (fun iv wr => ∃ k : Nat, k ≤ l.length ∧ iv = .int .i64 k ∧ Below W.heap.size W wr) (fun iv _ => l.length - (intOf iv).toNat)
  case atStart => exact ⟨0, Nat.zero_le _, rfl, Below.refl _ _⟩
  case round =>
    obtain ⟨k, hk, rfl, BW⟩ := hrel
    by_cases hlt : k < l.length
    · obtain ⟨b, off, cs', hAe, hb, hIs, hAt⟩ := (HA.out wr BW).get (Below.refl _ _) hlt
      obtain ⟨A2, c2, rfl, hl2, hI2⟩ := hAt.ex
      clear hAt
      generalize l[k] = a at *
      subst hAe
      have i1 : Has_awy wr b (off + k * 2) := ⟨_, hIs⟩
      have i2 : of_awy wr b (off + k * 2) = awyArr a A2 c2 := of_awy_eq hIs
      have hlt' : (k : Int) < (l.length : Int) := by omega
      have hkc : k < c := by have := HLC.out; omega
      clear hI2 hl2 hIs hb k6 k7 k8
      go_upto_region 6 with (fail)
      have Z := Blk.new wr (awyArr a A2 c2) 81
      have D := below_step BW (alloc_below3 wr (.cells (awyArr a A2 c2) 81))
      clear i1 i2
      generalize wr.alloc _ = W2 at Z D ⊢
      generalize wr.heap.size = g7 at Z ⊢
      have z1 : W2.cell? ⟨g7, 1, none⟩ = some (.slice A2 a.pts.length c2) := Z.cell 1
      by_cases h40 : (40 : Int) < (a.pts.length : Int)
      · go_wp2
        go_ret
        exact ⟨_, rfl, below_step HB0.out D⟩
      · go_wp2
        go_roundw
        case rel => exact ⟨k + 1, by omega, by go_num, D⟩
        case measure => simp [intOf]; omega
    · have hlt' : ¬ (k : Int) < (l.length : Int) := by omega
      go_wp2
      go_ret
      exact ⟨_, rfl, below_step HB0.out BW⟩
end Go.Proofs.YtgoeedohgomodaaGreatDoor
namespace Go.Proofs.YtgoeedohgomodaaGreatDoor
open Go.RowKit Go.Sort
set_option linter.unusedVariables false
set_option linter.unusedSimpArgs false
set_option maxRecDepth 100000
theorem routeGo_lok {G : GDB} (hG : G.short) (hN : ∀ a ∈ G.airways, a.small) {xs : List ItemV} (hs : ∀ x ∈ xs, x.short) (ws : List (List UInt8)) : ∀ (f i : Nat) {n : Nat} {l : List Entry}, LOk n l → LOk (n + 2000 * f) (routeGo (lookR G) xs ws f i l).1
  | 0, i, n, l, h => h.mono (by omega)
  | f + 1, i, n, l, h => by
    unfold routeGo
    split
    · have k := step_okL hG hN h hs (ws.getD i []) i
      split
      · exact k.mono (by omega)
      · exact (routeGo_lok hG hN hs ws f _ k).mono (by omega)
    · exact h.mono (by omega)
theorem expandS_small {G : GDB} (hG : G.short) (hN : ∀ a ∈ G.airways, a.small) {s : List UInt8} (hs : s.length ≤ 4000000) (h : (expandS (lookR G) s).2 = 0) : (expandS (lookR G) s).1.1.small := by
  have hl := (parse_ok (expandS_parse h)).2.1
  have hxl : (routeParse s).1.1.length ≤ 124 := routeParse_len (expandS_parse h)
  rw [expandS_plan h]
  have k := routeGo_lok hG hN (route_short hs) (splitC 32 s) (routeParse s).1.1.length 0 LOk.nil
  have hm : ∀ (x : Option (List UInt8)), (∀ y, x = some y → y ∈ splitC 32 s) → (x.getD []).length ≤ 4000000000 := by
    intro x hx
    cases x with
    | none => simp
    | some y => exact Nat.le_trans (splitC_memR 32 s y (hx y rfl)) (by omega)
  refine ⟨?_, ?_, Nat.le_trans k.len (by omega), k.small⟩
  · show ((splitC 32 s).headD []).length ≤ _
    rw [headD_at]
    exact hm _ fun y hy => List.mem_of_getElem? hy
  · show ((splitC 32 s).getLastD []).length ≤ _
    rw [getLastD_at]
    exact hm _ fun y hy => List.mem_of_getElem? hy
end Go.Proofs.YtgoeedohgomodaaGreatDoor
namespace Go.Proofs.YtgoeedohgomodaaGreatDoor
open Go.RowKit Go.Sort
set_option linter.unusedVariables false
set_option linter.unusedSimpArgs false
def itR (l : List ItemV) : List Value := cellsIn (l.map ItemV.arr)
theorem itR_len (l : List ItemV) : (itR l).length = l.length * 3 := by
  unfold itR
  rw [cellsIn_len 3 _ (itm_sizes l), List.length_map]
theorem itR_app (a b : List ItemV) : itR (a ++ b) = itR a ++ itR b := by
  unfold itR; rw [List.map_append, cellsIn_app]
theorem itR_one (l : List ItemV) : ∀ u ∈ itR l, u.oneCell' = true := by
  refine cellsIn_one _ fun x hx => ?_
  obtain ⟨y, _, rfl⟩ := List.mem_map.1 hx
  simp [ItemV.arr, Value.oneCell']
theorem ownE (W : World) (B g : Nat) (hg : B ≤ g) (h : W.heap[g]? = some (.cells #[] 57 (0, 0))) : W.ownsRow B 57 3 (.slice (some ⟨g, 0, none⟩) 0 0) 0 [] :=
  ⟨rfl, .inr ⟨g, 0, #[], rfl, hg, h, Nat.le_refl _, Nat.zero_le _, rfl, rfl⟩⟩
theorem newsAt {W : World} {b o : Nat} {l : List ItemV} (I : Items W (some ⟨b, o, none⟩) 3 (l.map ItemV.arr)) (s : Nat) (m : List ItemV) (hm : ∀ i x, m[i]? = some x → l[s + i]? = some x) :
    ∀ j u, (itR m)[j]? = some u → W.cell? ((⟨b, o + s * 3, none⟩ : Addr).add j) = some u := by
  intro j u h
  obtain ⟨i, x, hx, hj, hu⟩ := cellsIn_get 3 (by omega) (m.map ItemV.arr) (itm_sizes m) j u h
  rw [List.getElem?_map] at hx
  obtain ⟨y, hy, rfl⟩ := Option.map_eq_some_iff.1 hx
  have hl := hm i y hy
  obtain ⟨b', o', e, hb, hc⟩ := I.at_ (by
    intro e
    have : l = [] := by simpa using e
    rw [this] at hl
    cases hl)
  injection e with e
  injection e with e1 e2
  subst e1
  subst e2
  have := hc (s + i) y.arr (by rw [List.getElem?_map, hl]; rfl) (j % 3) (Nat.mod_lt _ (by omega))
  rw [addr_add, show o + s * 3 + j = o + (s + i) * 3 + j % 3 by omega, this]
  exact hu
theorem take_at {l : List ItemV} {k : Nat} : ∀ i x, (l.take k)[i]? = some x → l[0 + i]? = some x := fun i x h => by
  rw [List.getElem?_take] at h
  split at h
  · rw [Nat.zero_add]; exact h
  · cases h
theorem drop_at {l : List ItemV} {k : Nat} : ∀ i x, (l.drop k)[i]? = some x → l[k + i]? = some x := fun i x h => by
  rw [List.getElem?_drop] at h; exact h
theorem itR_withD (l : List ItemV) (k : Nat) : itR (withD l k) = itR (l.take k) ++ dctI.arr.toList ++ itR (l.drop k) := by
  unfold withD
  rw [itR_app, show dctI :: l.drop k = [dctI] ++ l.drop k from rfl, itR_app, ← List.append_assoc]
  congr 2
theorem own_items {W : World} {B n : Nat} {v : Value} {l : List ItemV} (h : W.ownsRow B 57 3 v n (itR l)) (hn : l.length = n) : ∃ A c, v = .slice A n c ∧ n ≤ c ∧ Items W A 3 (l.map ItemV.arr) := by
  have O : GOut B W 57 3 v (l.map ItemV.arr) := by
    unfold GOut
    rw [List.length_map, hn]
    exact h
  obtain ⟨A, c, e, hl, I, _, _⟩ := O.form (itm_sizes l)
  rw [List.length_map, hn] at e hl
  exact ⟨A, c, e, hl, I⟩
theorem own_below {W W' : World} {B n m : Nat} {t : TypeId} {v : Value} {xs : List Value} (h : W.ownsRow B t n v m xs) (hb : Below W.heap.size W W') : W'.ownsRow B t n v m xs := by
  obtain ⟨hl, h⟩ := h
  refine ⟨hl, ?_⟩
  rcases h with ⟨rfl, h0⟩ | ⟨g, cap, cur, rfl, hg, hbk, hn, hm, hsz, hc⟩
  · exact .inl ⟨rfl, h0⟩
  · have hlt : g < W.heap.size := by
      rcases Nat.lt_or_ge g W.heap.size with hlt | hge
      · exact hlt
      · rw [Array.getElem?_eq_none hge] at hbk; cases hbk
    exact .inr ⟨g, cap, cur, rfl, hg, (hb.block g hlt).trans hbk, hn, hm, hsz, hc⟩
theorem below_own {w W W' : World} {g n c : Nat} (hb : Below w.heap.size w W) (G : W.grownBy W' (Value.slice (some ⟨g, 0, none⟩) n c).ownBlock) (hg : w.heap.size ≤ g) : Below w.heap.size w W' := by
  refine hb.grown G hb.size ?_
  intro g' he
  have : g = g' := by simpa [Value.ownBlock] using he
  omega
theorem new_item (W : World) : ∀ j u, dctI.arr.toList[j]? = some u → (W.alloc (.cells dctI.arr 57)).cell? ((⟨W.heap.size, 0, none⟩ : Addr).add j) = some u := by
  intro j u hu
  rw [addr_add, Nat.zero_add, cell_of_row _ _ j _ _ (0, 0) (heap_alloc_new W _)]
  simpa using hu
theorem dct_one : ∀ u ∈ dctI.arr.toList, u.oneCell' = true := fun u hu => List.all_eq_true.1 (by rfl) u hu
theorem item_kept {W W' : World} {g : Nat} {r : Option Nat} (h : W.heap[g]? = some (.cells dctI.arr 57 (0, 0))) (G : W.grownBy W' r) (hne : some g ≠ r) :
    ∀ j u, dctI.arr.toList[j]? = some u → W'.cell? ((⟨g, 0, none⟩ : Addr).add j) = some u := by
  intro j u hu
  have hlt : g < W.heap.size := by
    rcases Nat.lt_or_ge g W.heap.size with hlt | hge
    · exact hlt
    · rw [Array.getElem?_eq_none hge] at h; cases h
  rw [addr_add, Nat.zero_add, G.cell_far ⟨g, j, none⟩ hlt hne, cell_of_row W g j _ _ (0, 0) h]
  simpa using hu
end Go.Proofs.YtgoeedohgomodaaGreatDoor
namespace Go.Proofs.YtgoeedohgomodaaGreatDoor
open Go.RowKit Go.Sort
set_option linter.unusedVariables false
set_option linter.unusedSimpArgs false
set_option maxRecDepth 100000
theorem sameB_selfR (p : Plan) : sameB p p = true := by simp [sameB, (eqGo_iff p.es p.es).2 rfl]
theorem routeParse_mostD (s : List UInt8) : (routeParse s).1.1.length ≤ 124 := by
  by_cases h : (routeParse s).2 = 0
  · exact routeParse_len h
  · rw [routeParse_none h]; simp
theorem parse_two {s : List UInt8} (h : (routeParse s).2 = 0) : 2 ≤ (routeParse s).1.1.length := by
  obtain ⟨ok, _, n1, ws⟩ := parse_ok h
  have h1 := splitC_ne 32 s
  have h2 : (routeParse s).1.1.length = (splitC 32 s).length := ok.1
  have h3 : (splitC 32 s).length ≠ 0 := fun e => h1 (List.eq_nil_of_length_eq_zero e)
  omega
theorem join_tot : ∀ xs : List (List UInt8), xs ≠ [] → (Lib.join xs [32]).length + 1 = (xs.map List.length).sum + xs.length
  | [], h => absurd rfl h
  | [x], _ => by rw [Lib.join_one]; simp
  | x :: y :: r, _ => by
    have ih := join_tot (y :: r) (by simp)
    rw [Lib.join_cons] at ih ⊢
    have e : Lib.joinTail [32] (y :: r) = 32 :: (y ++ Lib.joinTail [32] r) := by simp [Lib.joinTail]
    rw [e]
    simp only [List.length_append, List.length_cons, List.map_cons, List.sum_cons] at ih ⊢
    omega
theorem withD_textlen {s : List UInt8} {k : Nat} (h : (routeParse s).2 = 0) (D : DirOk (routeParse s).1.1 k) (hn : (routeParse s).1.1.length < 124) : (routeText (withD (routeParse s).1.1 k)).length = s.length + 4 := by
  have hj := routeParse_join h
  have h2 := parse_two h
  rw [(withD_text h D hn).1]
  generalize (routeParse s).1.1 = l at *
  have a := join_tot (l.map wordT) (by intro e; rw [List.map_eq_nil_iff] at e; rw [e] at h2; simp at h2)
  have b := join_tot ((withD l k).map wordT) (by intro e; rw [List.map_eq_nil_iff] at e; have := withD_len (Nat.le_of_lt D.lt); rw [e] at this; simp at this)
  have c : (((withD l k).map wordT).map List.length).sum = ((l.map wordT).map List.length).sum + 3 := by
    unfold withD
    have e := congrArg (fun z => ((z.map wordT).map List.length).sum) (List.take_append_drop k l)
    simp only [List.map_append, List.sum_append, List.map_cons, List.sum_cons] at e ⊢
    have : (wordT dctI).length = 3 := rfl
    omega
  have e1 : joinT l = Lib.join (l.map wordT) [32] := rfl
  have e2 : joinT (withD l k) = Lib.join ((withD l k).map wordT) [32] := rfl
  rw [← e1, hj, List.length_map] at a
  rw [← e2, List.length_map, withD_len (Nat.le_of_lt D.lt), c] at b
  omega
attribute [local go_sem] run_storeD_planR splice_planR Fits_planR
def noDir (a b : Int) : Bool := a == 5 || b == 5 || b == 2 || a == 6 || a == 7 || a == 3
set_option maxHeartbeats 16000000 in
theorem lawRtDirect_any (d : DBs) (G : GDB) (s : List UInt8) (n : Int) (w : World) (hL : Laid w) (hD : GdAt w d G) (hS : G.short) (hs : s.length ≤ 3000000) (hn0 : 0 ≤ n) (hn1 : n ≤ 255) :
    Calls Tryz.prog 9 #[.agg d.cells, .string ⟨s.toArray⟩, .int .u8 n] w (Ret w (.bool true)) := by
  have hsz := hD.db.ok.size
  have KA := Lib.hid (fun W (b : Below w.heap.size w W) => awake22_any W (hL.below b))
  have KF := Lib.hid (fun W (b : Below w.heap.size w W) => few22_any d G s (by omega) W (hD.below b))
  have KE := Lib.hid (fun W (b : Below w.heap.size w W) => rexpand_any d G s (by omega) W (hL.below b) (hD.below b) hS)
  have KR := Lib.hid (fun W (b : Below w.heap.size w W) => rparse_any s (by omega) W (hL.below b))
  have KX := Lib.hid (fun (t : List UInt8) (ht : t.length ≤ 4000000) W (b : Below w.heap.size w W) => rexpand_any d G t ht W (hL.below b) (hD.below b) hS)
  have KT := Lib.hid (fun (l : List ItemV) (A : Option Addr) (c : Nat) W (b : Below w.heap.size w W) (hI : Items W A 3 (l.map ItemV.arr)) (hc : l.length ≤ c) (hl : l.length ≤ 4000000000) (hx : ∀ x ∈ l, x.short) => rtext_any l A c W (hL.below b) hI hc hl hx)
  have HSH := Lib.hid (route_short (show s.length ≤ 4000000 by omega))
  have HSM := Lib.hid (fun h => @expandS_small G hS hD.airS s (by omega) h)
  have HDI := Lib.hid (fun (h : (expandS (lookR G) s).2 = 0) (k : Nat) (D : DirOk (routeParse s).1.1 k) (hn : (routeParse s).1.1.length < 124) => route_direct (lookR G) h D hn)
  have HTL := Lib.hid (fun (h : (routeParse s).2 = 0) (k : Nat) (D : DirOk (routeParse s).1.1 k) (hn : (routeParse s).1.1.length < 124) => withD_textlen h D hn)
  have HPO := Lib.hid (fun (h : (expandS (lookR G) s).2 = 0) => expandS_parse h)
  have hm := routeParse_mostD s
  have H2 := Lib.hid (parse_two (s := s))
  generalize expandS (lookR G) s = R at *
  generalize routeParse s = Q at *
  obtain ⟨⟨p, pj⟩, pe⟩ := R
  obtain ⟨⟨l, qi⟩, qe⟩ := Q
  dsimp only at hm HSM HDI HPO H2 HSH HTL
  generalize d.cells = cs at *
  clear hL hD
  go_enter Tryz.func9, Tryz.ntmps9
  go_upto_region 1 with (fail)
  have D0 := Blk.new w cs 37
  have B0 := alloc_belowR w (.cells cs 37)
  generalize w.alloc _ = W at D0 B0 ⊢
  obtain ⟨gd, hgd⟩ : ∃ g, g = w.heap.size := ⟨_, rfl⟩
  rw [← hgd] at D0 ⊢
  clear hgd
  go_upto_region 3 with (go_at_call 10; (with_reducible refine callR (KA.out _ B0) ?_); intro w1 b1 _ _ _)
  have D1 := D0.step b1
  have B1 := below_step B0 b1
  have k1 : Has_db w1 gd 0 := ⟨_, D1.is_db hsz⟩
  have k2 : of_db w1 gd 0 = cs := of_db_eq (D1.is_db hsz)
  clear D0 B0 b1 KA
  go_upto_if 22 with (go_at_call 14; (with_reducible refine callBoo (KF.out _ B1) ?_); intro bf w2 b2)
  have D2 := D1.step b2
  have B2 := Lib.hid (below_step B1 b2)
  clear D1 B1 b2 k1 k2 KF
  cases bf with
  | false =>
    go_wp2
    go_ret
    exact Ret.bool rfl B2.out
  | true =>
  have k1 : Has_db w2 gd 0 := ⟨_, D2.is_db hsz⟩
  have k2 : of_db w2 gd 0 = cs := of_db_eq (D2.is_db hsz)
  have HD2 := Lib.hid D2
  have ke := Lib.hid (KE.out w2 B2.out)
  clear D2 KE
  go_upto_region 6 with (go_at_call 17; (with_reducible refine callEx ke.out ?_); intro A3 c3 w3 hc3 E3 b3)
  have bA := alloc_belowR w3 (.cells (p.arr A3 c3) 43)
  have Q := Blk.new w3 (p.arr A3 c3) 43
  have D4 := HD2.out.step (below_step b3 bA)
  have E4 := E3.below (B := 0) bA
  have B4 := Lib.hid (below_step B2.out (below_step b3 bA))
  clear k1 k2 ke HD2 B2 b3 bA E3
  generalize w3.alloc _ = w4 at Q D4 E4 B4 ⊢
  generalize w3.heap.size = gq at Q ⊢
  go_upto_region 7 with (go_at_call 11; (with_reducible refine callItms (KR.out _ B4.out) ?_); intro A5 c5 w5 hc5 I5 _ b5)
  have hc5 : l.length ≤ c5 := hc5
  have I5 : Items w5 A5 3 (l.map ItemV.arr) := I5
  have D5 := D4.step b5
  have Q5 := Q.step b5
  have E5 := E4.below (B := 0) b5
  have B5 := Lib.hid (below_step B4.out b5)
  clear D4 Q E4 B4 b5 KR
  by_cases hz : pe = 0
  rotate_left
  · have hz' : (pe != 0) = true := by simpa using hz
    clear hz HSM HDI HPO H2 HSH
    go_wp2
    go_ret
    exact Ret.bool rfl B5.out
  subst hz
  have hq : qe = 0 := HPO.out rfl
  subst hq
  have h2 : 2 ≤ l.length := H2.out rfl
  by_cases h124 : 124 ≤ l.length
  · have e124 : (124 : Int) ≤ (l.length : Int) := by omega
    clear HSM HDI HPO H2 HSH
    go_wp2
    go_ret
    exact Ret.bool rfl B5.out
  have e124 : ¬ (124 : Int) ≤ (l.length : Int) := by omega
  have hsm := HSM.out rfl
  obtain ⟨k, hk⟩ : ∃ k : Nat, k = 1 + n.toNat % (l.length - 1) := ⟨_, rfl⟩
  have hk1 : n.toNat % (l.length - 1) < l.length - 1 := Nat.mod_lt _ (by omega)
  have hrem : n.tmod ((l.length : Int) - 1) = (k : Int) - 1 := by
    rw [Int.tmod_eq_emod_of_nonneg hn0]
    have e2 : (l.length : Int) - 1 = ((l.length - 1 : Nat) : Int) := by omega
    obtain ⟨m, rfl⟩ : ∃ m : Nat, n = m := ⟨n.toNat, by omega⟩
    rw [Int.toNat_natCast] at hk
    rw [e2, ← Int.natCast_emod]
    omega
  have hkl : k < l.length := by omega
  have hkp : 1 ≤ k := by omega
  clear HSM HPO H2 hk hk1
  have q1 : IntKind.i64.wrap ((k : Int) - 1) = (k : Int) - 1 := IntWalk.i64_in _ (by omega)
  have q2 : IntKind.i64.wrap ((l.length : Int) - 1) = (l.length : Int) - 1 := IntWalk.i64_in _ (by omega)
  have q3 : IntKind.i64.wrap (1 + ((k : Int) - 1)) = (k : Int) := by rw [show 1 + ((k : Int) - 1) = k by omega]; exact IntWalk.i64_in _ (by omega)
  have q4 : ((l.length : Int) - 1 == 0) = false := by simp; omega
  have q5 : 1 + ((k : Int) - 1) = (k : Int) := by omega
  go_upto_region 10 with (fail)
  clear hrem q2 q3 q4 q5
  obtain ⟨b6, o6, hA6, hb6, hi6⟩ := I5.itm (i := k) hkl
  obtain ⟨b7, o7, hA7, hb7, hi7⟩ := I5.itm (i := k - 1) (by omega)
  subst hA6
  injection hA7 with hA7
  injection hA7 with e1 e2
  subst e1
  subst e2
  have hgb : l.getD k noItem = l[k] := by rw [List.getD_eq_getElem?_getD, List.getElem?_eq_getElem hkl]; rfl
  have hga : l.getD (k - 1) noItem = l[k - 1] := by rw [List.getD_eq_getElem?_getD, List.getElem?_eq_getElem (by omega)]; rfl
  have cb : w5.cell? ⟨b6, o6 + k * 3, none⟩ = some (.int .u8 (l[k]).kind) := (hi6 w5 (Below.refl _ _)) 0 (by omega)
  have ca : w5.cell? ⟨b6, o6 + (k - 1) * 3, none⟩ = some (.int .u8 (l[k - 1]).kind) := (hi7 w5 (Below.refl _ _)) 0 (by omega)
  have HDO := Lib.hid (fun (h : noDir (l[k - 1]).kind (l[k]).kind = false) => show DirOk l k from by
    unfold noDir at h
    simp only [Bool.or_eq_false_iff, beq_eq_false_iff_ne] at h
    obtain ⟨⟨⟨⟨⟨h1, h2⟩, h3⟩, h4⟩, h5⟩, h6⟩ := h
    exact ⟨hkp, hkl, by rw [hga]; exact h1, by rw [hgb]; exact h2, by rw [hgb]; exact h3, by rw [hga]; exact h4, by rw [hga]; exact h5, by rw [hga]; exact h6⟩)
  clear hi6 hi7 hb7 hga hgb
  generalize (l[k]).kind = kb at *
  generalize (l[k - 1]).kind = ka at *
  go_cut [103] (fun e wx => e = .bool (noDir ka kb) ∧ wx = w5)
  case first =>
    have t1 : (1 : Int) ≤ (k : Int) := by omega
    have t2 : (k : Int) ≤ (l.length : Int) := by omega
    have t3 : (0 : Int) ≤ (k : Int) - 1 := by omega
    have t4 : wrap64 ((k : Int) - 1) = (k : Int) - 1 := IntWalk.wrap64_in _ (by omega)
    have t5 : ¬ ((l.length : Int) ≤ (k : Int) - 1) := by omega
    have t6 : (k : Int) < (l.length : Int) := by omega
    have t7 : k - 1 < l.length := by omega
    clear HSH HDI HDO HTL KT KX I5 D5 Q5 E5 hsm hm e124 h124
    obtain ⟨x1, hx1⟩ : ∃ x, (ka == 5) = x := ⟨_, rfl⟩
    obtain ⟨x2, hx2⟩ : ∃ x, (kb == 5) = x := ⟨_, rfl⟩
    obtain ⟨x3, hx3⟩ : ∃ x, (kb == 2) = x := ⟨_, rfl⟩
    obtain ⟨x4, hx4⟩ : ∃ x, (ka == 6) = x := ⟨_, rfl⟩
    obtain ⟨x5, hx5⟩ : ∃ x, (ka == 7) = x := ⟨_, rfl⟩
    obtain ⟨x6, hx6⟩ : ∃ x, (ka == 3) = x := ⟨_, rfl⟩
    have HN := Lib.hid (show noDir ka kb = (x1 || x2 || x3 || x4 || x5 || x6) by unfold noDir; rw [hx1, hx2, hx3, hx4, hx5, hx6])
    cases x1 with
    | true => go_wp2; go_meet; exact ⟨by rw [HN.out]; simp, rfl⟩
    | false =>
    cases x2 with
    | true => go_wp2; go_meet; exact ⟨by rw [HN.out]; simp, rfl⟩
    | false =>
    cases x3 with
    | true => go_wp2; go_meet; exact ⟨by rw [HN.out]; simp, rfl⟩
    | false =>
    cases x4 with
    | true => go_wp2; go_meet; exact ⟨by rw [HN.out]; simp, rfl⟩
    | false =>
    cases x5 with
    | true => go_wp2; go_meet; exact ⟨by rw [HN.out]; simp, rfl⟩
    | false => go_wp2; go_meet; exact ⟨by rw [HN.out]; simp, rfl⟩
  case rest =>
  obtain ⟨rfl, rfl⟩ := hcut
  generalize wc = w5 at *
  clear ca cb
  generalize noDir ka kb = nd at *
  cases nd with
  | true =>
    clear HSH HDI HDO KT KX
    go_wp2
    go_ret
    exact Ret.bool rfl B5.out
  | false =>
  have HDK := Lib.hid (HDI.out rfl k (HDO.out rfl) (by omega))
  have htl := HTL.out rfl k (HDO.out rfl) (by omega)
  clear HDI HDO HTL
  go_upto_region 12 with (fail)
  go_cut [14] (fun v wx => ∃ A c, v = .slice A (l.length + 1) c ∧ l.length + 1 ≤ c ∧ Items wx A 3 ((withD l k).map ItemV.arr) ∧ Below w5.heap.size w5 wx)
  case first =>
    clear HSH HDK htl KT KX D5 Q5 E5 hsm
    have t1 : (1 : Int) ≤ (k : Int) := by omega
    have t2 : (k : Int) ≤ (l.length : Int) := by omega
    have t3 : (k : Int) ≤ (c5 : Int) := by omega
    have t4 : (l.length : Int) ≤ (c5 : Int) := by omega
    have t5 : (0 : Int) ≤ (k : Int) := by omega
    have t6 : ¬ c5 = k := by omega
    obtain ⟨i0, hi, hz0, hz1, hz2⟩ := info_parts infoA_itm
    have HI := Lib.hid hi; have HZ0 := Lib.hid hz0; have HZ1 := Lib.hid hz1; have HZ2 := Lib.hid hz2
    have NT := Lib.hid (fun W (b : Below w5.heap.size w5 W) => newsAt (I5.below b) 0 (l.take k) take_at)
    have ND := Lib.hid (fun W (b : Below w5.heap.size w5 W) => newsAt (I5.below b) k (l.drop k) drop_at)
    have HLT := Lib.hid (show (itR (l.take k)).length = k * 3 by rw [itR_len, List.length_take, Nat.min_eq_left (Nat.le_of_lt hkl)])
    have HLD := Lib.hid (show (itR (l.drop k)).length = (l.length - k) * 3 by rw [itR_len, List.length_drop])
    have HOT := Lib.hid (itR_one (l.take k))
    have HOD := Lib.hid (itR_one (l.drop k))
    have HKP := Lib.hid (show 0 < k from hkp)
    clear hi hz0 hz1 hz2
    go_region_law (first
      | (refine step_append_lies _ (by rfl) (.tmp 104) (.tmp 107) 23 (by rfl) w5.heap.size 57 i0 _ 3 40 Tryz.underlying23 HI.out HZ0.out HZ1.out HZ2.out rfl (by decide) (.slice (some ⟨_, 0, none⟩) 0 0) 0 [] (by rfl) (ownE _ _ _ (by first | exact Nat.le_refl _ | (simp; done) | (simp; omega)) (by first | exact heap_alloc_new _ _ | (rw [← World.size_alloc w5 (.cells dctI.arr 57)]; exact heap_alloc_new _ _) | exact ((alloc_belowR _ _).block _ (by simp)).trans (heap_alloc_new _ _))) ⟨b6, o6 + 0 * 3, none⟩ k c5 (itR (l.take k)) (by rfl) HLT.out (NT.out _ (by repeat' (first | assumption | omega | (refine Below.alloc ?_ ?_ _) | (refine Below.drew ?_) | exact Below.refl _ _ | (simp; done) | (simp; omega)))) HOT.out HKP.out (by unfold maxLen; omega) (by omega) (by first | exact Nat.le_refl _ | (simp; done) | (simp; omega)) _ rfl ?_
         intro g1 cap1 wA OA GA hA hltA
         have bA : Below w5.heap.size w5 wA := below_own (g := _) (by repeat' (first | assumption | omega | (refine Below.alloc ?_ ?_ _) | (refine Below.drew ?_) | exact Below.refl _ _ | (simp; done) | (simp; omega))) GA (by first | exact Nat.le_refl _ | (simp; done) | (simp; omega))
         have OA' : wA.ownsRow w5.heap.size 57 3 (.slice (some ⟨g1, 0, none⟩) k cap1) k (itR (l.take k)) := by simpa using OA
         have sA := bA.size
         have hg1 : w5.heap.size ≤ g1 := by rcases hA with e | e <;> (try simp [Value.ownBlock] at e) <;> omega)
      | (refine step_append_lies _ (by rfl) (.tmp 108) (.tmp 110) 23 (by rfl) w5.heap.size 57 i0 _ 3 40 Tryz.underlying23 HI.out HZ0.out HZ1.out HZ2.out rfl (by decide) (.slice (some ⟨g1, 0, none⟩) k cap1) k (itR (l.take k)) (by rfl) (own_below OA' (alloc_belowR wA (.cells dctI.arr 57))) ⟨wA.heap.size, 0, none⟩ 1 1 dctI.arr.toList (by rfl) (by rfl) (new_item wA) dct_one (by decide) (by unfold maxLen; omega) (by omega) (by simp; omega) _ rfl ?_
         intro g2 cap2 wB OB GB hB hltB
         have bB : Below w5.heap.size w5 wB := below_own (g := g1) (below_step bA (alloc_belowR wA (.cells dctI.arr 57))) GB hg1
         have sB := bB.size
         have hg2 : w5.heap.size ≤ g2 := by rcases hB with e | e <;> (try simp [Value.ownBlock] at e) <;> omega)
      | (refine step_append_lies _ (by rfl) (.tmp 111) (.tmp 114) 23 (by rfl) w5.heap.size 57 i0 _ 3 40 Tryz.underlying23 HI.out HZ0.out HZ1.out HZ2.out rfl (by decide) (.slice (some ⟨g2, 0, none⟩) (k + 1) cap2) (k + 1) (itR (l.take k) ++ dctI.arr.toList) (by rfl) OB ⟨b6, o6 + k * 3, none⟩ (l.length - k) (c5 - k) (itR (l.drop k)) (by rfl) HLD.out (ND.out _ bB) HOD.out (by omega) (by unfold maxLen; omega) (by omega) sB _ rfl ?_
         intro g3 cap3 wC OC GC hC hltC
         have bC : Below w5.heap.size w5 wC := below_own (g := g2) bB GC hg2
         have OC' : wC.ownsRow w5.heap.size 57 3 (.slice (some ⟨g3, 0, none⟩) (l.length + 1) cap3) (l.length + 1) (itR (withD l k)) := by
           rw [itR_withD, show l.length + 1 = k + 1 + (l.length - k) by omega]; exact OC)
      | (refine step_append_lies _ (by rfl) (.tmp 108) (.tmp 110) 23 (by rfl) w5.heap.size 57 i0 _ 3 40 Tryz.underlying23 HI.out HZ0.out HZ1.out HZ2.out rfl (by decide) (.slice (some ⟨g1, 0, none⟩) k cap1) k (itR (l.take k)) (by rfl) OA' ⟨_, 0, none⟩ 1 1 dctI.arr.toList (by rfl) (by rfl) (item_kept (by first | exact heap_alloc_new _ _ | (rw [← World.size_alloc w5 (.cells #[] 57)]; exact heap_alloc_new _ _) | exact ((alloc_belowR _ _).block _ (by simp)).trans (heap_alloc_new _ _)) GA (by simp [Value.ownBlock])) dct_one (by decide) (by unfold maxLen; omega) (by omega) sA _ rfl ?_
         intro g2 cap2 wB OB GB hB hltB
         have bB : Below w5.heap.size w5 wB := below_own (g := g1) bA GB hg1
         have sB := bB.size
         have hg2 : w5.heap.size ≤ g2 := by rcases hB with e | e <;> (try simp [Value.ownBlock] at e) <;> omega))
    all_goals
      go_wp2
      go_meet
      obtain ⟨A9, c9, e9, h9, I9⟩ := own_items OC' (withD_len (Nat.le_of_lt hkl))
      exact ⟨A9, c9, by rw [show k + 1 + (l.length - k) = l.length + 1 by omega]; exact e9, h9, I9, bC⟩
  case rest =>
  obtain ⟨A9, c9, rfl, hc9, I9, D9⟩ := hcut
  generalize wc = w9 at *
  have B9 := Lib.hid (below_step B5.out D9)
  have DB9 := Lib.hid (D5.step D9)
  have QP9 := Lib.hid (Q5.step D9)
  have EP9 := Lib.hid (E5.below (B := 0) D9)
  have hwl := withD_len (Nat.le_of_lt hkl)
  have hxs : ∀ x ∈ withD l k, x.short := fun x hx => by
    unfold withD at hx
    rw [List.mem_append, List.mem_cons] at hx
    rcases hx with hx | rfl | hx
    · exact HSH.out x (List.mem_of_mem_take hx)
    · exact ⟨by decide, by decide⟩
    · exact HSH.out x (List.mem_of_mem_drop hx)
  generalize withD l k = l2 at *
  have kt := Lib.hid (fun W (b : Below w9.heap.size w9 W) => show Calls Tryz.prog 25 #[.slice A9 (l.length + 1) c9] W (Ret W (.string ⟨(routeText l2).toArray⟩)) from by rw [← hwl]; exact KT.out l2 A9 c9 W (below_step B9.out b) (I9.below b) (by omega) (by omega) hxs)
  generalize routeText l2 = t at *
  have kx := Lib.hid (fun W (b : Below w9.heap.size w9 W) => show Calls Tryz.prog 17 #[.agg cs, .string ⟨t.toArray⟩] W (RetEx W ((p, pj), 0)) from HDK.out ▸ KX.out t (by omega) W (below_step B9.out b))
  clear KT KX HDK hxs hwl htl I9 D9 I5 D5 Q5 E5 HSH B5
  have DD : Below w9.heap.size w9 w9.drew := (Below.refl _ _).drew
  have k1 : Has_db w9.drew gd 0 := ⟨_, (DB9.out.step DD).is_db hsz⟩
  have k2 : of_db w9.drew gd 0 = cs := of_db_eq ((DB9.out.step DD).is_db hsz)
  have k7 : Has_db (w9.alloc (.cells #[.string ⟨#[]⟩, .string ⟨#[]⟩, .slice none 0 0, .int .i64 0] 43)).drew gd 0 := ⟨_, (DB9.out.step (alloc_belowR w9 _).drew).is_db hsz⟩
  have k8 : of_db (w9.alloc (.cells #[.string ⟨#[]⟩, .string ⟨#[]⟩, .slice none 0 0, .int .i64 0] 43)).drew gd 0 = cs := of_db_eq ((DB9.out.step (alloc_belowR w9 _).drew).is_db hsz)
  go_upto_region 13 with (fail)
  go_cut [15, 9] (fun v e wx => ∃ g A c, v = .pointer (some ⟨g, 0, none⟩) ∧ e = .int .i64 0 ∧ p.es.length ≤ c ∧ Ents wx A p.es ∧ Blk wx g (p.arr A c) ∧ Below w9.heap.size w9 wx)
  case first =>
    go_region_with (first
      | (go_at_call 25; (with_reducible refine callR (kt.out _ (by first | exact (Below.refl _ _).drew | exact below_step (Below.refl _ _).drew (alloc_belowR _ _))) ?_); intro w10 b10 _ _ _
         have f10 : Below w9.heap.size w9 w10 := by first | exact below_step (Below.refl _ _).drew b10 | exact below_step (below_step (Below.refl _ _).drew (alloc_belowR _ _)) b10
         have k3 : Has_db w10 gd 0 := ⟨_, (DB9.out.step f10).is_db hsz⟩
         have k4 : of_db w10 gd 0 = cs := of_db_eq ((DB9.out.step f10).is_db hsz)
         have k5 : Has_db (w10.alloc (.cells #[.string ⟨#[]⟩, .string ⟨#[]⟩, .slice none 0 0, .int .i64 0] 43)) gd 0 := ⟨_, (DB9.out.step (below_step f10 (alloc_belowR w10 _))).is_db hsz⟩
         have k6 : of_db (w10.alloc (.cells #[.string ⟨#[]⟩, .string ⟨#[]⟩, .slice none 0 0, .int .i64 0] 43)) gd 0 = cs := of_db_eq ((DB9.out.step (below_step f10 (alloc_belowR w10 _))).is_db hsz))
      | (go_at_call 17; (with_reducible refine callEx (kx.out _ (by first | exact f10 | exact below_step f10 (alloc_belowR _ _))) ?_); intro A11 c11 w11 hc11 E11 b11
         have f11 : Below w9.heap.size w9 w11 := by first | exact below_step f10 b11 | exact below_step (below_step f10 (alloc_belowR _ _)) b11
         first
           | (have Y : Blk w11 w10.heap.size (plan0.arr none 0) := (Blk.new w10 (plan0.arr none 0) 43).step b11
              have hY : w9.heap.size ≤ w10.heap.size := f10.size
              have y0 := Y.plain
              have y1 : blkOf w11 w10.heap.size = plan0.arr none 0 := Y.of
              have y2 := Y.lt)
           | (have Y : Blk w11 w9.heap.size (plan0.arr none 0) := ((Blk.new w9.drew (plan0.arr none 0) 43).step b10).step b11
              have hY : w9.heap.size ≤ w9.heap.size := Nat.le_refl _
              have y0 := Y.plain
              have y1 : blkOf w11 w9.heap.size = plan0.arr none 0 := Y.of
              have y2 := Y.lt)
           | skip))
    all_goals
      go_wp2
      go_meet
      first
      | exact ⟨_, A11, c11, rfl, rfl, hc11, E11.setRow4R Y rfl _, Y.set _, below_setRow' f11 hY _⟩
      | exact ⟨_, A11, c11, rfl, rfl, hc11, E11.below (B := 0) (alloc_belowR _ _), Blk.new _ _ _, below_step f11 (alloc_belowR _ _)⟩
  case rest =>
  obtain ⟨g, A, c, rfl, rfl, hcc, EA, QA, DA⟩ := hcut
  generalize wc = wd at *
  have BD := Lib.hid (below_step B9.out DA)
  have QP := QP9.out.step DA
  have EP := EP9.out.below (B := 0) DA
  have KS := Lib.hid (fun W (b : Below wd.heap.size wd W) => show Calls Tryz.prog 27 #[.agg (p.arr A3 c3), .agg (p.arr A c)] W (Ret W (.bool true)) from sameB_selfR p ▸ same_any p p A3 A c3 c W hsm.len hsm.len hc3 hcc (EP.below (B := 0) b) (EA.below (B := 0) b))
  have i1 : Has_plan wd gq 0 := ⟨_, QP.is_plan rfl⟩
  have i2 : of_plan wd gq 0 = p.arr A3 c3 := of_plan_eq (QP.is_plan rfl)
  have j1 : Has_plan wd g 0 := ⟨_, QA.is_plan rfl⟩
  have j2 : of_plan wd g 0 = p.arr A c := of_plan_eq (QA.is_plan rfl)
  clear QP9 EP9 QP EP QA EA k1 k2 k7 k8 kt kx DB9 DA DD
  go_wp2_with (go_at_call 27; (with_reducible refine callR (KS.out _ (by repeat' (first | assumption | (refine Below.drew ?_) | exact Below.refl _ _))) ?_); intro we be _ _ _; have fe : Below wd.heap.size wd we := by first | exact be | exact below_drewO be)
  all_goals
    go_ret
    exact Ret.bool rfl (below_step BD.out fe)
end Go.Proofs.YtgoeedohgomodaaGreatDoor
namespace Go.Proofs.YtgoeedohgomodaaGreatDoor.routeDirect
open Go.ChangeShapes Go.WideShapes Go.ChangeAt Go.RowKit
set_option linter.unusedVariables false
set_option linter.unusedSimpArgs false
theorem own : ownKnob Tryz.prog.godebug = none := by kernel_rfl
theorem laidOut : laidOutB Tryz.prog = true := by kernel_rfl
theorem opens {W : World} (h : laidMetH Tryz.prog Rows.routeDirectUptoRow.laid W) (hsh : W.ShapedOpen Tryz.prog) : Laid W :=
  laid22_of (l := Rows.routeDirectUptoRow.laid) h hsh (by first | exact List.mem_of_getElem? (i := 0) rfl | exact List.mem_of_getElem? (i := 1) rfl | exact List.mem_of_getElem? (i := 2) rfl | exact List.mem_of_getElem? (i := 3) rfl | exact List.mem_of_getElem? (i := 4) rfl | exact List.mem_of_getElem? (i := 5) rfl | exact List.mem_of_getElem? (i := 6) rfl | exact List.mem_of_getElem? (i := 7) rfl | exact List.mem_of_getElem? (i := 8) rfl | exact List.mem_of_getElem? (i := 9) rfl | exact List.mem_of_getElem? (i := 10) rfl | exact List.mem_of_getElem? (i := 11) rfl | exact List.mem_of_getElem? (i := 12) rfl | exact List.mem_of_getElem? (i := 13) rfl)
set_option maxRecDepth 100000 in
theorem contract (H : Type) (enc : TypeId × Value → H) (W : World) (base : Nat) (args : Array Value) (ds gs : List (DataW H)) (before : List MemPlace)
    (hval : ∀ (j : Nat) t v, Tryz.f9.params[j]? = some t → args[j]? = some v → Value.okWide Tryz.prog W .any base t v)
    (hW : DataW.Whole enc Tryz.prog Tryz.f9.params.toList Rows.routeDirectSpec.vars false W args.toList ds gs before) (hL : laidMetH Tryz.prog Rows.routeDirectUptoRow.laid W) (hsh : W.ShapedOpen Tryz.prog) (hk : Rows.uptoSmall H (ds ++ gs) = true) :
    Calls Tryz.prog 9 args W fun e W' => ∃ v, e = .returned v ∧ Rows.routeDirectSpec.post enc Tryz.prog Tryz.f9 false true false false W args v W' := by
  have OP := opens hL hsh
  have hW' := hW
  obtain ⟨p, q, hA0, hV, rfl, hfz, hnd⟩ := hW
  have hA : DataW.TrodAll enc Tryz.prog W 0 (fun _ => true) true Tryz.f9.params.toList args.toList ds p := hA0
  rw [Tryz.params9] at hA hval
  obtain ⟨v0, vs0, d0, ds0, pl0, ql0, hargs, rfl, rfl, h0, r0⟩ := trodAll_cons hA
  obtain ⟨v1, vs1, d1, ds1, pl1, ql1, rfl, rfl, rfl, h1, r1⟩ := trodAll_cons r0
  obtain ⟨v2, vs2, d2, ds2, pl2, ql2, rfl, rfl, rfl, h2, r2⟩ := trodAll_cons r1
  obtain ⟨rfl, rfl, rfl⟩ := trodAll_nil r2
  obtain rfl : args = #[v0, v1, v2] := by cases args; simp_all
  obtain ⟨rfl, rfl⟩ := trodVars_none hV
  have hb := of_decide_eq_true hk
  simp only [List.append_nil, Rows.uptoBulkAll] at hb
  have hk0 := h0
  obtain ⟨d0, G0, rfl, D0, S0⟩ := open_gdbT (hval 0 37 v0 rfl rfl) h0 (by omega)
  have hk1 := h1
  obtain ⟨s1, rfl, sl1⟩ := open_strX (hval 1 9 v1 rfl rfl) h1
  have hk2 := h2
  obtain ⟨n2, rfl, lo2, hi2⟩ := open_u8U Tryz.underlying5 (hval 2 5 v2 rfl rfl) h2
  have walk := lawRtDirect_any d0 G0 s1 n2 W OP D0 S0 (by omega) lo2 hi2
  refine walk.mono fun e W' ⟨he, hg⟩ => ?_
  subst he
  have hl0 : ∀ x ∈ pl0, x.block < W.heap.size := fun x hx => by simpa using hW'.lt x (by simp [hx])
  have hl1 : ∀ x ∈ pl1, x.block < W.heap.size := fun x hx => by simpa using hW'.lt x (by simp [hx])
  have hl2 : ∀ x ∈ pl2, x.block < W.heap.size := fun x hx => by simpa using hW'.lt x (by simp [hx])
  refine ⟨_, rfl, _, _, _, [], (pl0 ++ (pl1 ++ (pl2 ++ []))), [], hW', ?_, ?_, rfl, ?_, fun h => by cases h⟩
  · exact trodAll_cons_mk (shut_bool Tryz.underlying4 _) trodAll_mk0
  · exact (trodAll_cons_mk (Below.trod laidOut (by kernel_rfl) (of_decide_eq_true (by kernel_rfl)) hk0 hg hl0) (trodAll_cons_mk (Below.trod laidOut (by kernel_rfl) (of_decide_eq_true (by kernel_rfl)) hk1 hg hl1) (trodAll_cons_mk (Below.trod laidOut (by kernel_rfl) (of_decide_eq_true (by kernel_rfl)) hk2 hg hl2) trodAll_mk0)))
  · exact hg.frame _
theorem reads (os : Os) {H : Type} (enc : TypeId × Value → H) : ∃ places, DataW.whole enc Tryz.prog ((World.laidAll Tryz.prog os Rows.routeDirectUptoRow.laid).forCall (fun _ _ => 0) ⟨#[], #[.agg #[.string ⟨#[]⟩, .int .i64 0, .int .i64 0, .int .i64 0, .int .i64 0, .int .i64 0, .slice none 0 0, .slice none 0 0, .slice none 0 0], .string ⟨#[]⟩, .int .u8 0], []⟩).memory Tryz.f9.params.toList Rows.routeDirectSpec.vars false (#[.agg #[.string ⟨#[]⟩, .int .i64 0, .int .i64 0, .int .i64 0, .int .i64 0, .int .i64 0, .slice none 0 0, .slice none 0 0, .slice none 0 0], .string ⟨#[]⟩, .int .u8 0] : Array Value).toList 8 = some ([.agg [.agg [.lit (.string []), .lit (.int .i64 0), .lit (.int .i64 0), .lit (.int .i64 0), .agg [.lit (.int .i64 0), .lit (.int .i64 0)]], .nil, .nil, .nil], .lit (.string []), .lit (.int .u8 0)], [], places) :=
  ⟨[], by kernel_rfl⟩
set_option maxRecDepth 100000 in
theorem liftedUpto (os : Os) (started : os.Started) (H : Type) (enc : TypeId × Value → H) (F : Stop.Interp) :
    ReturnsInHanded {} Tryz.checked os 9 .any ((Rows.OpenSpec.upto Rows.routeDirectSpec).preRow enc Tryz.prog Tryz.f9 Rows.routeDirectUptoRow.domain false Rows.routeDirectUptoRow.laid) (((Rows.OpenSpec.upto Rows.routeDirectSpec).at F).post enc Tryz.prog Tryz.f9 false true false false) := by
  obtain ⟨places, hx⟩ := reads os enc
  refine returnsInHanded_of_row (C := Tryz.checked) (s := Rows.OpenSpec.upto Rows.routeDirectSpec) own started (by kernel_rfl) Tryz.func9
    (witness_row_atRef (enc := enc) (C := Tryz.checked) false (World.laidAll Tryz.prog os Rows.routeDirectUptoRow.laid) #[.agg #[.string ⟨#[]⟩, .int .i64 0, .int .i64 0, .int .i64 0, .int .i64 0, .int .i64 0, .slice none 0 0, .slice none 0 0, .slice none 0 0], .string ⟨#[]⟩, .int .u8 0] (World.laidAll_os _ _ _) (by kernel_rfl) (by kernel_rfl) (by kernel_rfl)
      (OpenSpec.preRow_of_cond 8 hx (by kernel_rfl) (fun k hk => by cases hk; kernel_rfl) (by kernel_rfl) (laidMet_laidAll _ (by kernel_rfl) (by kernel_rfl)))) ?_
  intro W base args ds gs before hval hW _ hcond _ hL hsh _
  exact contract H enc W base args ds gs before hval hW hL hsh (hcond _ rfl)
set_option maxHeartbeats 40000000 in
theorem saidUpto : Rows.RouteDirectUptoSaid :=
  OpenClaim.holds_of_cond 9 Tryz.f9 rfl rfl rfl rfl rfl rfl rfl ⟨rfl, rfl, rfl, rfl, rfl⟩ rfl rfl rfl rfl rfl (by as_aux_lemma => kernel_rfl) Tryz.func9 (by
      unfold joinedFacts
      simp only [Bool.and_eq_true]
      repeat' apply And.intro
      all_goals (as_aux_lemma => kernel_rfl))
    (of_decide_eq_true (by as_aux_lemma => kernel_rfl)) (by unfold Func.isWrapper; first | (rw [if_pos (by decide +kernel)]; kernel_rfl) | (rw [if_neg (by decide +kernel)]; exact ⟨rfl, rfl⟩))
    (fun os started H enc _ F => by rw [OpenClaim.pre_eq_preRow]; exact liftedUpto os started H enc F)
theorem plain (f : FuncId) (fn : Func) (hf : Tryz.pinned.checked.prog.funcNamed "flightdeck/flightdecklaw22.RouteDirect" = some f) (hfn : Tryz.pinned.checked.prog.funcs[f]? = some fn) :
    false = Tryz.pinned.checked.prog.looks [] ∧ ∀ (j : Nat) t, fn.params[j]? = some t → Tryz.pinned.checked.prog.wantsStandIn t = false := by
  obtain rfl : f = 9 := Option.some.inj ((show Tryz.prog.funcNamed "flightdeck/flightdecklaw22.RouteDirect" = some 9 by kernel_rfl).symm.trans hf) |>.symm
  obtain rfl : fn = Tryz.f9 := (Option.some.inj (Tryz.func9.symm.trans hfn)).symm
  refine ⟨by kernel_rfl, fun j t ht => ?_⟩
  rw [Tryz.params9] at ht
  have hm := Array.mem_of_getElem? ht
  have h : t = 37 ∨ t = 9 ∨ t = 5 := by simpa using hm
  rcases h with rfl | rfl | rfl
  · exact (show Tryz.prog.wantsStandIn 37 = false by kernel_rfl)
  · exact (show Tryz.prog.wantsStandIn 9 = false by kernel_rfl)
  · exact (show Tryz.prog.wantsStandIn 5 = false by kernel_rfl)
end Go.Proofs.YtgoeedohgomodaaGreatDoor.routeDirect
namespace Go.Proofs.YtgoeedohgomodaaGreatDoor
set_option maxHeartbeats 40000000 in
/-- The card of the second form. -/
theorem routeDirect_card : Rows.RouteDirectUptoCardSaid :=
  Claim7.holds_tied_plain_at .later [] _ _ _ _ routeDirect.saidUpto (fun _ h => by cases h) (by as_aux_lemma => kernel_rfl) (fun _ h => by cases h) routeDirectUpto_row_tie rfl ⟨rfl, rfl⟩ (by as_aux_lemma => kernel_rfl) rfl routeDirect.plain (by as_aux_lemma => kernel_rfl)
end Go.Proofs.YtgoeedohgomodaaGreatDoor
