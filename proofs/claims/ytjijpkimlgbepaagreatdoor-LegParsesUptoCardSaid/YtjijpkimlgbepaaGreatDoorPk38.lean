/- leg.Parse: the type with a name. leg.Parse. -/
import Derived.Test.YtjijpkimlgbepaaGreatDoorPk37
import Derived.Shelf.Abstract
namespace Go.Proofs.YtjijpkimlgbepaaGreatDoor
open Go.RowKit Go.Sort
set_option linter.unusedVariables false
set_option linter.unusedSimpArgs false
set_option maxRecDepth 100000
def namesVals : List Value := namesTab.map fun n => .string ⟨n.toArray⟩
theorem names_idx (w : World) : ∀ k : Nat, k < 18 → (Instr.index 48 (.agg namesVals.toArray) (.int .i64 (k : Nat))).run Tryz.prog w = .ok (.string ⟨(namesTab.getD k []).toArray⟩) w
  | 0, _ => by kernel_rfl
  | 1, _ => by kernel_rfl
  | 2, _ => by kernel_rfl
  | 3, _ => by kernel_rfl
  | 4, _ => by kernel_rfl
  | 5, _ => by kernel_rfl
  | 6, _ => by kernel_rfl
  | 7, _ => by kernel_rfl
  | 8, _ => by kernel_rfl
  | 9, _ => by kernel_rfl
  | 10, _ => by kernel_rfl
  | 11, _ => by kernel_rfl
  | 12, _ => by kernel_rfl
  | 13, _ => by kernel_rfl
  | 14, _ => by kernel_rfl
  | 15, _ => by kernel_rfl
  | 16, _ => by kernel_rfl
  | 17, _ => by kernel_rfl
  | k + 18, h => by omega

theorem names_cell {w : World} (hL : Laid w) (j : Nat) (v : Value) (h : namesVals[j]? = some v) : w.cell? ((⟨2, 0, none⟩ : Addr).add j) = some v := by
  have hj : j < 18 := by have := (List.getElem?_eq_some_iff.1 h).1; simpa [namesVals, namesTab] using this
  rw [addr_add, Nat.zero_add, hL.names j hj]
  rw [← h]
  unfold namesVals
  rw [List.getElem?_map]
  have : namesTab[j]? = some (namesTab.getD j []) := by
    have hl : j < namesTab.length := hj
    simp [hl]
  rw [this]; rfl
theorem typeK_succ (s : List UInt8) (t : Int) (k : Nat) : typeK s t (k + 1) = if 0 < k ∧ namesTab.getD k [] = s then (k : Int) else typeK s t k := rfl
set_option maxHeartbeats 4000000 in
theorem acc_name (W : World) (lb : Nat) (s : List UInt8) (l : Leg) (hL : Laid W) (hlb : 2 ≠ lb) (hl : Blk W lb l.arr) (hs : s.length ≤ 4000000000) (h0 : 0 ≤ l.ty) (h1 : l.ty ≤ 17) : Calls Tryz.prog 48 #[.string ⟨s.toArray⟩, .pointer (some ⟨lb, 0, none⟩)] W (RetA lb W (accName s l)) := by
  have hi := names_idx
  have HA := Lib.hid (show accName s l = ({ l with ty := typeK s l.ty 18 }, typeK s l.ty 18 != 0) from rfl)
  generalize accName s l = out at HA ⊢
  have hc := Lib.hid (fun j v h => names_cell hL j v h)
  go_enter Tryz.func48, Tryz.ntmps48
  go_wp2_with ((with_reducible refine at_load 48 (.global 2) rfl ?_); refine wpList_load_agg rfl 48 (.global 2) rfl ⟨2, 0, none⟩ rfl namesVals _ hc.out Tryz.underlying48 rfl (by kernel_rfl) ?_)
  go_loopw [7] (fun i wr => ∃ k : Nat, k ≤ 18 ∧ i = .int .i64 k ∧ Touch [lb] W wr ∧ Blk wr lb ({ l with ty := typeK s l.ty k } : Leg).arr) (fun i _ => 18 - (intOf i).toNat)
  case atStart => exact ⟨0, by omega, rfl, Touch.refl _ _, hl⟩
  case round =>
    obtain ⟨k, hk, rfl, T, B⟩ := hrel
    have bd := typeK_bd s l.ty k hk
    have bd0 := bd.1 h0
    have bd1 := bd.2 h1
    clear bd
    by_cases hlt : k < 18
    · have hik := names_idx wr k hlt
      have HS := Lib.hid (typeK_succ s l.ty k)
      have hlt' : (k : Int) < 18 := by omega
      have c0 := B.cell 0
      have f0 := B.frozen 0
      have B1 : Blk (wr.setCell ⟨lb, 0, none⟩ (.int .u8 (k : Int))) lb ({ l with ty := (k : Int) } : Leg).arr := B.setCell 0 _
      have hu : IntKind.u8.wrap (k : Int) = (k : Int) := by simp only [IntKind.wrap, IntKind.bits, IntKind.signed]; simp; omega
      clear hi
      generalize namesTab.getD k [] = nm at hik HS
      by_cases hn : nm = s
      · subst hn
        by_cases hk0 : 0 < k
        · have hk0' : (0 : Int) < k := by omega
          go_wp2
          go_roundw
          case rel => exact ⟨k + 1, by omega, by go_num, T.trans (Touch.setCell [lb] wr (by simp) 0 _), by rw [HS.out, if_pos ⟨hk0, rfl⟩]; exact B1⟩
          case measure => simp [intOf]; omega
        · have hk0' : ¬ (0 : Int) < k := by omega
          go_wp2
          go_roundw
          case rel => exact ⟨k + 1, by omega, by go_num, T, by rw [HS.out, if_neg (fun e => hk0 e.1)]; exact B⟩
          case measure => simp [intOf]; omega
      · have hn' : (nm == s) = false := by simpa using hn
        have HN := Lib.hid hn; clear hn
        go_wp2
        go_roundw
        case rel => exact ⟨k + 1, by omega, by go_num, T, by rw [HS.out, if_neg (fun e => HN.out e.2)]; exact B⟩
        case measure => simp [intOf]; omega
    · obtain rfl : k = 18 := by omega
      generalize typeK s l.ty 18 = t at HA B bd0 bd1
      have c0 : wr.cell? ⟨lb, 0, none⟩ = some (.int .u8 t) := B.cell 0
      go_wp2
      go_ret
      exact RetA.mk HA.out T B
end Go.Proofs.YtjijpkimlgbepaaGreatDoor
namespace Go.Proofs.YtjijpkimlgbepaaGreatDoor
open Go.RowKit Go.Sort
set_option linter.unusedVariables false
set_option linter.unusedSimpArgs false
set_option maxRecDepth 100000
/-- A reader and its leg that a call has made since w0. -/
structure PSt (w0 W : World) (rb sb lb n : Nat) (x : PS) : Prop where
  st : St W rb sb lb n x
  below : Below w0.heap.size w0 W
  apart : Apart rb sb lb
  rb0 : w0.heap.size ≤ rb
  lb0 : w0.heap.size ≤ lb
  ok : x.Ok n
theorem PSt.next {w0 W W' : World} {rb sb lb n : Nat} {x y : PS} (h : PSt w0 W rb sb lb n x) (t : Touch [rb, lb] W W') (s : St W' rb sb lb n y) (hy : y.Ok n) : PSt w0 W' rb sb lb n y :=
  ⟨s, t.below h.below (by intro z hz; simp at hz; rcases hz with rfl | rfl; exact h.rb0; exact h.lb0), h.apart, h.rb0, h.lb0, hy⟩
theorem St.step {W W' : World} {rb sb lb n : Nat} {x : PS} (h : St W rb sb lb n x) (b : Below W.heap.size W W') : St W' rb sb lb n x :=
  ⟨h.rd.touch (S := []) (Touch.of b) (by simp) (by simp), h.leg.step b⟩
theorem PSt.step {w0 W W' : World} {rb sb lb n : Nat} {x : PS} (h : PSt w0 W rb sb lb n x) (b : Below W.heap.size W W') : PSt w0 W' rb sb lb n x :=
  ⟨h.st.step b, below_step h.below b, h.apart, h.rb0, h.lb0, h.ok⟩
def RetM (w0 W : World) (rb sb lb n : Nat) (x : PS) (e : Ending) (W' : World) : Prop := e = .returned (.tuple #[]) ∧ Touch [rb, lb] W W' ∧ PSt w0 W' rb sb lb n x
theorem PS.Ok.wlen {n : Nat} {x : PS} (h : x.Ok n) (hn : n ≤ 4000000000) {s : List UInt8} {r : List (List UInt8)} (hw : x.ws = s :: r) : s.length ≤ 4000000000 := Nat.le_trans (h.word hw) hn
theorem ent_over : ∀ args w, (callFunc 84 args).run Tryz.prog w = .ok (.enter 84 args) w := enters_of (⟨Tryz.func84, Tryz.ntmps84⟩ : _ ∧ _).1 (by kernel_rfl) rfl
theorem ent_win : ∀ args w, (callFunc 85 args).run Tryz.prog w = .ok (.enter 85 args) w := enters_of (⟨Tryz.func85, Tryz.ntmps85⟩ : _ ∧ _).1 (by kernel_rfl) rfl
theorem ent_speed : ∀ args w, (callFunc 87 args).run Tryz.prog w = .ok (.enter 87 args) w := enters_of (⟨Tryz.func87, Tryz.ntmps87⟩ : _ ∧ _).1 (by kernel_rfl) rfl
theorem ent_rnp : ∀ args w, (callFunc 89 args).run Tryz.prog w = .ok (.enter 89 args) w := enters_of (⟨Tryz.func89, Tryz.ntmps89⟩ : _ ∧ _).1 (by kernel_rfl) rfl
theorem ent_name : ∀ args w, (callFunc 48 args).run Tryz.prog w = .ok (.enter 48 args) w := enters_of (⟨Tryz.func48, Tryz.ntmps48⟩ : _ ∧ _).1 (by kernel_rfl) rfl
theorem ent_fix : ∀ args w, (callFunc 49 args).run Tryz.prog w = .ok (.enter 49 args) w := enters_of (⟨Tryz.func49, Tryz.ntmps49⟩ : _ ∧ _).1 (by kernel_rfl) rfl
theorem ent_center : ∀ args w, (callFunc 51 args).run Tryz.prog w = .ok (.enter 51 args) w := enters_of (⟨Tryz.func51, Tryz.ntmps51⟩ : _ ∧ _).1 (by kernel_rfl) rfl
theorem ent_turn : ∀ args w, (callFunc 53 args).run Tryz.prog w = .ok (.enter 53 args) w := enters_of (⟨Tryz.func53, Tryz.ntmps53⟩ : _ ∧ _).1 (by kernel_rfl) rfl
theorem ent_course : ∀ args w, (callFunc 54 args).run Tryz.prog w = .ok (.enter 54 args) w := enters_of (⟨Tryz.func54, Tryz.ntmps54⟩ : _ ∧ _).1 (by kernel_rfl) rfl
theorem ent_dist : ∀ args w, (callFunc 56 args).run Tryz.prog w = .ok (.enter 56 args) w := enters_of (⟨Tryz.func56, Tryz.ntmps56⟩ : _ ∧ _).1 (by kernel_rfl) rfl
theorem ent_radius : ∀ args w, (callFunc 58 args).run Tryz.prog w = .ok (.enter 58 args) w := enters_of (⟨Tryz.func58, Tryz.ntmps58⟩ : _ ∧ _).1 (by kernel_rfl) rfl
theorem ent_theta : ∀ args w, (callFunc 59 args).run Tryz.prog w = .ok (.enter 59 args) w := enters_of (⟨Tryz.func59, Tryz.ntmps59⟩ : _ ∧ _).1 (by kernel_rfl) rfl
set_option maxHeartbeats 4000000 in
theorem options_any (w0 W : World) (rb sb lb n : Nat) (x : PS) (hL : Laid w0) (h : PSt w0 W rb sb lb n x) (hn : n ≤ 4000000000) :
    Calls Tryz.prog 60 #[.pointer (some ⟨rb, 0, none⟩), .pointer (some ⟨lb, 0, none⟩)] W (RetM w0 W rb sb lb n x.options) := by
  go_enter Tryz.func60, Tryz.ntmps60
  go_wp2_with fail
  have P0 := h.step (alloc_below W (.cells #[.pointer (some ⟨lb, 0, none⟩)] 65))
  have hpb : (W.alloc (.cells #[.pointer (some ⟨lb, 0, none⟩)] 65)).cell? ⟨W.heap.size, 0, none⟩ = some (.pointer (some ⟨lb, 0, none⟩)) := cell_of_row _ _ 0 _ _ _ (heap_alloc_new W _)
  have T0 : Touch [rb, lb] W (W.alloc (.cells #[.pointer (some ⟨lb, 0, none⟩)] 65)) := Touch.of (alloc_below W _)
  have nb1 : W.heap.size ≠ lb := Nat.ne_of_gt h.st.leg.lt
  have nb2 : W.heap.size ≠ rb := by
    obtain ⟨A, o, hb, _⟩ := h.st.rd
    exact Nat.ne_of_gt hb.lt
  generalize W.alloc _ = W0 at P0 hpb T0 ⊢
  generalize W.heap.size = pb at hpb nb1 nb2 ⊢
  with_reducible refine (may_any _ rb sb lb n _ _ x accOver P0.st P0.apart P0.ok (accOver_ok n) hn ent_over fun s r hw => acc_over _ lb pb s _ w0 P0.below hL P0.lb0 P0.st.leg hpb nb1 (P0.ok.wlen hn hw)).mono ?_
  rintro e W1 ⟨rfl, t1, s1⟩
  have P1 := P0.next t1 s1 (P0.ok.may (accOver_ok n))
  have T1 := T0.trans t1
  have hpb := (t1.cell (g := pb) (by simp; exact ⟨nb2, nb1⟩) (block_lt_of_cell hpb) 0).trans hpb
  go_wp2_with fail
  with_reducible refine (may_any _ rb sb lb n _ _ (x.may accOver) accWin P1.st P1.apart P1.ok (accWin_ok n) hn ent_win fun s r hw => acc_win _ lb pb s _ w0 P1.below hL P1.lb0 P1.st.leg hpb nb1 (P1.ok.wlen hn hw)).mono ?_
  rintro e W2 ⟨rfl, t2, s2⟩
  have P2 := P1.next t2 s2 (P1.ok.may (accWin_ok n))
  have T2 := T1.trans t2
  have hpb := (t2.cell (g := pb) (by simp; exact ⟨nb2, nb1⟩) (block_lt_of_cell hpb) 0).trans hpb
  go_wp2_with fail
  with_reducible refine (may_any _ rb sb lb n _ _ ((x.may accOver).may accWin) accSpeed P2.st P2.apart P2.ok (accSpeed_ok n) hn ent_speed fun s r hw => acc_speed _ lb pb s _ w0 P2.below hL P2.lb0 P2.st.leg hpb nb1 (P2.ok.wlen hn hw)).mono ?_
  rintro e W3 ⟨rfl, t3, s3⟩
  have P3 := P2.next t3 s3 (P2.ok.may (accSpeed_ok n))
  have T3 := T2.trans t3
  have hpb := (t3.cell (g := pb) (by simp; exact ⟨nb2, nb1⟩) (block_lt_of_cell hpb) 0).trans hpb
  go_wp2_with fail
  with_reducible refine (may_any _ rb sb lb n _ _ (((x.may accOver).may accWin).may accSpeed) accRnp P3.st P3.apart P3.ok (accRnp_ok n) hn ent_rnp fun s r hw => acc_rnp _ lb pb s _ w0 P3.below hL P3.lb0 P3.st.leg hpb nb1 (P3.ok.wlen hn hw)).mono ?_
  rintro e W4 ⟨rfl, t4, s4⟩
  have P4 := P3.next t4 s4 (P3.ok.may (accRnp_ok n))
  have T4 := T3.trans t4
  go_wp2
  go_end0
  exact ⟨rfl, T4, P4⟩
end Go.Proofs.YtjijpkimlgbepaaGreatDoor
