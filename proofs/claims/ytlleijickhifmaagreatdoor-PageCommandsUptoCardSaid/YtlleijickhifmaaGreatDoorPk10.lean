/- Layer 58: the keys. Layer 58: the reference's keys; is a key known? -/
import Derived.Test.YtlleijickhifmaaGreatDoorPk08
import Derived.Test.YtlleijickhifmaaGreatDoorPk07
import Derived.Test.YtlleijickhifmaaGreatDoorPk09
import Derived.Lib.OthersKept
import Derived.Laws.OwnMore
import Derived.Deep.RegionHeld3
import Derived.Deep.AppendLies
namespace Go.Proofs.YtlleijickhifmaaGreatDoor
open Go.RowKit
set_option linter.unusedVariables false
set_option linter.unusedSimpArgs false
theorem chars_signs : ((Lib.charsB ⟨signsL.toArray⟩).map Value.string) = svals (signsL.map fun c => [c]) := by rfl
def sgL : List (List UInt8) := signsL.map fun c => [c]
theorem callStrs' {P : Program} {f : FuncId} {args : Array Value} {W : World} {ss : List (List UInt8)} {K : Ending → World → Prop} (h : Calls P f args W (RetStrs W ss)) (k : ∀ v w', SOut W w' v ss → Below W.heap.size W w' → K (.returned v) w') : Calls P f args W K :=
  h.mono fun e w' ⟨v, he, hO, hB⟩ => by subst he; exact k v w' hO hB
theorem below_iter (w : World) (s : ByteArray) (n : Nat) : Below w.heap.size w (w.iter s n) := (Below.refl _ _).alloc (Nat.le_refl _) _
theorem splitSigns (w : World) : Calls Tryz.prog 16 #[.string ⟨signsL.toArray⟩, .string ⟨#[]⟩] w (RetStrs w sgL) := by
  refine (Tryz.strings_Split_chars ⟨signsL.toArray⟩ ⟨#[]⟩ w rfl (by decide) (fun j b hb => (by decide : ∀ b ∈ signsL, b.toNat < 128) b (List.mem_of_getElem? hb))).mono ?_
  rintro e w' ⟨rfl, rfl⟩
  refine ⟨_, rfl, ?_, (below_iter w _ _).trans (((Below.refl _ _).alloc (Nat.le_refl _) _).mono (below_iter w _ _).size)⟩
  rw [chars_signs]
  have h := World.ownsRow_lit (e := 9) (base := w.heap.size) (size := 1) (w.iter ⟨signsL.toArray⟩ (ByteArray.mk signsL.toArray).size) (svals sgL).toArray 41 (below_iter w _ _).size (by unfold maxLen; omega) rfl
  exact h
/-- The words of the program's variable. -/
structure WordsAt (w : World) : Prop where
  at_ : ∃ b off c, w.cell? ⟨1, 0, none⟩ = some (.slice (some ⟨b, off, none⟩) 10 c) ∧ 10 ≤ c ∧ b < w.heap.size ∧ 1 < w.heap.size ∧ ∀ i s, wordsL[i]? = some s → w.cell? ⟨b, off + i, none⟩ = some (sval s)
theorem WordsAt.below {w w' : World} (h : WordsAt w) (hb : Below w.heap.size w w') : WordsAt w' := by
  obtain ⟨b, off, c, h1, h2, h3, h4, h5⟩ := h.at_
  exact ⟨b, off, c, by rw [hb.cell (p := ⟨_, 0, none⟩) h4]; exact h1, h2, Nat.lt_of_lt_of_le h3 hb.size, Nat.lt_of_lt_of_le h4 hb.size, fun i s hs => by rw [hb.cell (p := ⟨b, _, none⟩) h3]; exact h5 i s hs⟩
/-- 'out = append(out, more...)': the source is a slice of strings anywhere. -/
theorem wpList_append_souts {ops : Array Oper} {rest : List Oper} {op : Oper} {a : Act} {Q : Exit → Act → World → Prop} {w0 W : World} {v : Value} {ss : List (List UInt8)} (hgd : op.guard = none) (s x : Operand)
    (ho : op.op = .call { callee := .builtin .append, args := #[s, x], argTypes := #[41, 41] }) (h : SOut w0 W v ss) (hs : a.eval s = v) (t : List (List UInt8)) (g o n c : Nat) (hn' : t.length = n)
    (hx : a.eval x = .slice (some ⟨g, o, none⟩) n c) (hg : ∀ i q, t[i]? = some q → W.cell? ⟨g, o + i, none⟩ = some (sval q)) (hn : ss.length + n ≤ 10000000) (hb : w0.heap.size ≤ W.heap.size)
    (k : ∀ v' W', SOut w0 W' v' (ss ++ t) → W.grownBy W' v.ownBlock → wpList Tryz.prog ops Q rest (a.put op.dst v') W') : wpList Tryz.prog ops Q (op :: rest) a W := by
  obtain ⟨i0, hi, hz0, hz1, hz2⟩ := info_parts info_str_all
  subst hn'
  refine wpList_append_own W hgd s x 41 ho w0.heap.size 9 i0 _ 1 16 Tryz.underlying41 hi hz0 hz1 hz2 rfl (by omega) v ss.length (svals ss) hs h ⟨g, o, none⟩ t.length c (svals t) hx (by simp [svals]) ?_ (by intro u hu; obtain ⟨q, _, rfl⟩ := List.mem_map.1 hu; rfl) (by unfold maxLen; omega) (by omega) hb ?_
  · intro j u hu
    rw [addr_add]
    unfold svals at hu
    rw [List.getElem?_map] at hu
    cases hq : t[j]? with
    | none => rw [hq] at hu; cases hu
    | some q => rw [hq] at hu; obtain rfl : sval q = u := by simpa using hu
                exact hg j q hq
  · intro v' W' h1 h2 _
    refine k v' W' ?_ h2
    unfold SOut
    rw [List.length_append, svals, List.map_append]
    exact h1
/-- 'out = append(out, s)' beside other blocks. -/
theorem wpList_append_sgro {ops : Array Oper} {rest : List Oper} {op : Oper} {a : Act} {Q : Exit → Act → World → Prop} {w0 W : World} {v : Value} {ss : List (List UInt8)} (hgd : op.guard = none) (s x : Operand)
    (ho : op.op = .call { callee := .builtin .append, args := #[s, x], argTypes := #[41, 41] }) (h : SOut w0 W v ss) (hs : a.eval s = v) (t : List UInt8) (g c : Nat)
    (hx : a.eval x = .slice (some ⟨g, 0, none⟩) 1 c) (hg : W.cell? ⟨g, 0, none⟩ = some (sval t)) (hn : ss.length + 1 ≤ 10000000) (hb : w0.heap.size ≤ W.heap.size)
    (k : ∀ v' W', SOut w0 W' v' (ss ++ [t]) → Gro W v W' v' → wpList Tryz.prog ops Q rest (a.put op.dst v') W') : wpList Tryz.prog ops Q (op :: rest) a W := by
  obtain ⟨i0, hi, hz0, hz1, hz2⟩ := info_parts info_str_all
  refine wpList_append_own_at (w := W) hgd s x 41 ho w0.heap.size 9 i0 _ 1 16 Tryz.underlying41 hi hz0 hz1 hz2 rfl (by omega) v ss.length (svals ss) hs h ⟨g, 0, none⟩ 1 c [sval t] hx rfl ?_ (by simp [sval, Value.oneCell']) (by unfold maxLen; omega) (by omega) hb ?_
  · intro j u hu
    match j, hu with
    | 0, hu => rw [addr_add, Nat.zero_add, hg]; simpa using hu
    | j + 1, hu => simp at hu
  · intro v' W' h1 h2 _ h4
    refine k v' W' ?_ ⟨h2, ?_⟩
    · unfold SOut
      rw [List.length_append, svals, List.map_append]
      exact h1
    · rcases h4 with e | e
      · exact .inl e
      · exact .inr ⟨_, e, Nat.le_refl _⟩
theorem SOut.own_lt {w0 W : World} {v : Value} {ss : List (List UInt8)} (h : SOut w0 W v ss) : ∀ g, v.ownBlock = some g → g < W.heap.size ∧ w0.heap.size ≤ g := by
  intro g he
  obtain ⟨hl, h⟩ := h
  rcases h with ⟨rfl, h1⟩ | ⟨g', cap, cur, rfl, hg, hb, hn, _, hsz, hc⟩
  · simp [Value.ownBlock] at he
  · have : g' = g := by simpa [Value.ownBlock] using he
    subst this
    refine ⟨?_, hg⟩
    rcases Nat.lt_or_ge g' W.heap.size with h | h
    · exact h
    · rw [Array.getElem?_eq_none h] at hb; cases hb
theorem Fix.snew {w0 w : World} {v : Value} {ss : List (List UInt8)} (h : SOut w0 w v ss) (cs : Array Value) (t : TypeId) : Fix (w.alloc (.cells cs t)) v w.heap.size cs where
  lt := by simp
  far := by intro e; have := (h.own_lt _ e.symm).1; omega
  cell j := cell_of_row _ _ j cs t (0, 0) (heap_alloc_new w _)
theorem take_succ_getD {α : Type} [Inhabited α] (l : List (List α)) (k : Nat) (h : k < l.length) : l.take (k + 1) = l.take k ++ [l.getD k []] := by
  rw [List.take_succ_eq_append_getElem h]; simp [List.getD_eq_getElem?_getD, h]
theorem words_news {w1 : World} {b off : Nat} (h : ∀ i s, wordsL[i]? = some s → w1.cell? ⟨b, off + i, none⟩ = some (sval s)) : ∀ j u, (svals wordsL)[j]? = some u → w1.cell? ((⟨b, off, none⟩ : Addr).add j) = some u := by
  intro j u hu
  rw [addr_add]
  unfold svals at hu
  rw [List.getElem?_map] at hu
  cases hq : wordsL[j]? with
  | none => rw [hq] at hu; cases hu
  | some q =>
    rw [hq] at hu
    obtain rfl : sval q = u := by simpa using hu
    exact h j q hq
theorem svals_one (ss : List (List UInt8)) : ∀ u ∈ svals ss, u.oneCell' = true := by
  intro u hu
  obtain ⟨q, _, rfl⟩ := List.mem_map.1 hu
  rfl
theorem svals_app (a b : List (List UInt8)) : svals a ++ svals b = svals (a ++ b) := by simp [svals]
attribute [local go_sem] ba_append
set_option maxHeartbeats 4000000 in
set_option maxRecDepth 100000 in
theorem keys_any (w : World) (hW : WordsAt w) (hL : Laid w) : Calls Tryz.prog 12 #[] w (RetStrs w keysL) := by
  obtain ⟨b, off, c, k1, k2, k3, k4, k5⟩ := hW.at_
  go_enter Tryz.func12, Tryz.ntmps12
  go_upto_region 1 with (fail)
  go_cut [1] (fun v wx => SOut w wx v (sgL ++ wordsL) ∧ Below w.heap.size w wx)
  case first =>
    obtain ⟨i0, hi, hz0, hz1, hz2⟩ := info_parts info_str_all
    go_region_held3 (fun w' => w'.cell? ⟨1, 0, none⟩ = some (.slice (some ⟨b, off, none⟩) 10 c)) (first | exact k1 | exact q1 | exact q2 | assumption)
      (first
        | (go_at_call 16; refine callStrs' (splitSigns _) ?_; intro v1 w1 O1 B1
           have q1 : w1.cell? ⟨1, 0, none⟩ = some (.slice (some ⟨b, off, none⟩) 10 c) := (by rw [B1.cell (p := ⟨_, 0, none⟩) k4]; exact k1)
           have q5 := words_news (fun i s hs => by rw [B1.cell (p := ⟨b, _, none⟩) k3]; exact k5 i s hs : ∀ i s, wordsL[i]? = some s → w1.cell? ⟨b, off + i, none⟩ = some (sval s))
           have L1 := B1.size
           have O1 := Lib.hid O1)
        | (refine step_append_lies _ (by rfl) (.tmp 5) (.tmp 6) 41 (by rfl) w.heap.size 9 i0 _ 1 16 Tryz.underlying41 hi hz0 hz1 hz2 rfl (by decide) v1 41 (svals sgL) (by rfl) O1.out ⟨b, off, none⟩ 10 c (svals wordsL) (by rfl) (by rfl) q5 (svals_one _) (by decide) (by unfold maxLen; omega) (by omega) L1 _ rfl ?_; intro gg cap w2 O2 G2 _ _; have B2 := below_sgrown B1 O1.out G2; have q2 : w2.cell? ⟨1, 0, none⟩ = some (.slice (some ⟨b, off, none⟩) 10 c) := (by rw [B2.cell (p := ⟨_, 0, none⟩) k4]; exact k1)))
    go_wp2
    go_meet
    refine ⟨?_, ((Below.refl w.heap.size w).drew).trans B2⟩
    rw [svals_app] at O2
    exact O2
  case rest =>
    obtain ⟨O2, B2⟩ := hcut
    have F3 := Fix.snew O2 #[.string ⟨#[76]⟩, .string ⟨#[82]⟩] 9
    have O3 := O2.alloc (.cells #[.string ⟨#[76]⟩, .string ⟨#[82]⟩] 9)
    have B3 := below_step B2 ((Below.refl wc.heap.size wc).alloc (Nat.le_refl _) (.cells #[.string ⟨#[76]⟩, .string ⟨#[82]⟩] 9))
    have L3 := hL.below B3
    go_wp2
    generalize wc.alloc _ = w3 at F3 O3 B3 L3 ⊢
    generalize wc.heap.size = q at F3 ⊢
    clear O2 B2
    go_loopw [1, 10] (fun v i wr => ∃ k : Nat, k ≤ 2 ∧ i = .int .i64 k ∧ SOut w wr v (sgL ++ wordsL ++ linesL.take (5 * k)) ∧ Fix wr v q #[.string ⟨#[76]⟩, .string ⟨#[82]⟩] ∧ Below w.heap.size w wr) (fun _ i _ => 2 - (intOf i).toNat)
    case atStart => exact ⟨0, by omega, rfl, by simpa using O3, F3, B3⟩
    case round =>
      obtain ⟨k, hk, rfl, O, F, B⟩ := hrel
      clear O3 F3 B3
      by_cases hlt : k < 2
      · have fc := F.cell
        have O := Lib.hid O
        obtain ⟨wo, rfl⟩ : ∃ wo : World, wo = wr := ⟨_, rfl⟩
        obtain ⟨sd, hsd⟩ : ∃ sd : UInt8, sd = (if k = 0 then 76 else 82) := ⟨_, rfl⟩
        have e1 : wo.cell? ⟨q, k, none⟩ = some (.string ⟨[sd].toArray⟩) := by rw [fc, hsd]; rcases (show k = 0 ∨ k = 1 by omega) with rfl | rfl <;> simp
        have HSD := Lib.hid hsd
        clear fc hsd
        have hk2 : decide ((k : Int) < 2) = true := by simp; omega
        go_wp2
        go_loopw [1, 4] (fun v i wr => ∃ m : Nat, m ≤ 5 ∧ i = .int .i64 ((m + 1 : Nat) : Int) ∧ SOut w wr v (sgL ++ wordsL ++ linesL.take (5 * k + m)) ∧ Fix wr v q #[.string ⟨#[76]⟩, .string ⟨#[82]⟩] ∧ Below w.heap.size w wr) (fun _ i _ => 6 - (intOf i).toNat)
        case atStart => exact ⟨0, by omega, rfl, O.out, F, B⟩
        case round =>
          obtain ⟨m, hm, rfl, O2, F2, B2⟩ := hrel
          clear O F B
          by_cases hlt2 : m < 5
          · have hn1 : (-9223372036854775808 : Int) ≤ ((m + 1 : Nat) : Int) := by omega
            have hn2 : ((m + 1 : Nat) : Int) ≤ 9223372036854775807 := by omega
            have HIT := Lib.hid (itoa_any ((m + 1 : Nat) : Int) hn1 hn2)
            have HD := Lib.hid (show [sd] ++ Lib.itoa ((m + 1 : Nat) : Int) = linesL.getD (5 * k + m) [] by
              rw [HSD.out]
              obtain rfl | rfl | rfl | rfl | rfl : m = 0 ∨ m = 1 ∨ m = 2 ∨ m = 3 ∨ m = 4 := by omega
              all_goals (rcases (show k = 0 ∨ k = 1 by omega) with rfl | rfl <;> decide +kernel))
            have HT := Lib.hid (take_succ_getD linesL (5 * k + m) (by show _ < 10; omega))
            have H2 := Lib.hid O2
            have G0 := Lib.hid (fun W' (h : Below wr.heap.size wr W') => Gro.below (v := u1) h)
            clear O2 hn1 hn2
            have hil : (Lib.itoa ((m + 1 : Nat) : Int)).length ≤ 21 := itoa_len _ (by omega) (by omega)
            generalize hit : Lib.itoa ((m + 1 : Nat) : Int) = it at HIT HD hil
            clear hit
            have hcat : ¬ 9223372036854775807 < ((1 + it.length : Nat) : Int) := by omega
            go_upto_region 7 with (first
              | (go_at_call 23; refine callR (HIT.out _ (hL.below B2)) ?_; intro w4 B4 y1 y2 y3; clear y1 y2 y3; have O5 := Lib.hid ((H2.out.below B4).alloc (.cells #[sval ([sd] ++ it)] 9)); have F5 := (F2.step (Gro.below B4)).alloc (.cells #[sval ([sd] ++ it)] 9); have B5 := below_step (below_step B2 B4) ((Below.refl w4.heap.size w4).alloc (Nat.le_refl _) (.cells #[sval ([sd] ++ it)] 9)))
              | (at_builtin; refine wpList_append_sgro rfl (.tmp 18) (.tmp 23) rfl O5.out rfl ([sd] ++ it) w4.heap.size 1 rfl (cell_of_row _ _ 0 _ _ _ (heap_alloc_new w4 _)) (by simp only [List.length_append, List.length_take, sgL, List.length_map]; simp [signsL, wordsL]; omega) B5.size ?_; intro v6 w6 O6 G6; have F6 := F5.step G6; have B6 := below_sgrown B5 O5.out G6.grown))
            have O6 := Lib.hid O6
            go_wp2
            go_roundw
            case rel => exact ⟨m + 1, by omega, by go_num, by have h := O6.out; rw [HD.out] at h; rw [show 5 * k + (m + 1) = 5 * k + m + 1 by omega, HT.out, ← List.append_assoc]; exact h, F6, B6⟩
            case measure => simp [intOf]; omega
          · obtain rfl : m = 5 := by omega
            have H2 := Lib.hid O2; clear O2
            go_wp2
            go_roundw
            case rel => exact ⟨k + 1, by omega, by go_num, by rw [show 5 * (k + 1) = 5 * k + 5 by omega]; exact H2.out, F2, B2⟩
            case measure => simp [intOf]; omega
      · obtain rfl : k = 2 := by omega
        have H2 := Lib.hid O; clear O
        go_wp2
        go_ret
        exact ⟨_, rfl, H2.out, B⟩
end Go.Proofs.YtlleijickhifmaaGreatDoor
namespace Go.Proofs.YtlleijickhifmaaGreatDoor
open Go.RowKit
set_option linter.unusedVariables false
set_option linter.unusedSimpArgs false
def rwordsL : List (List UInt8) := wordsL ++ linesL
theorem keysL_r : sgL ++ rwordsL = keysL := by rfl
theorem sg_take (k : Nat) (h : k < 41) : sgL.take (k + 1) = sgL.take k ++ [(signsL.take (k + 1)).drop k] := by
  rw [List.take_succ_eq_append_getElem (by exact h)]
  congr 2
  simp only [sgL, List.getElem_map]
  rw [List.take_succ_eq_append_getElem (show k < signsL.length from h), List.drop_append]
  have : (signsL.take k).length = k := by rw [List.length_take]; exact Nat.min_eq_left (Nat.le_of_lt h)
  rw [List.drop_of_length_le (by omega), this]
  simp
theorem beq_str (a b : List UInt8) : ((⟨a.toArray⟩ : ByteArray) = ⟨b.toArray⟩) ↔ a = b := by
  constructor
  · intro h; injection h with h; exact List.toArray_inj h
  · rintro rfl; rfl
theorem contains_any (A : Option Addr) (c : Nat) (ss : List (List UInt8)) (key : List UInt8) (w : World) (hS : Strs w A ss) (hn : ss ≠ []) (hl : ss.length ≤ 4000000000) :
    Calls Tryz.prog 11 #[.slice A ss.length c, .string ⟨key.toArray⟩] w (RetP w (.bool (decide (key ∈ ss)))) := by
  obtain ⟨b, o, rfl, hb, h⟩ := hS.at_ hn
  have hc := Tryz.slices_Contains_string b o ss.length c (ss.map fun s => ⟨s.toArray⟩) ⟨key.toArray⟩ w (by simp) (by omega) (fun j hj => by
    have hj' : j < ss.length := by simpa using hj
    rw [h j ss[j] (List.getElem?_eq_getElem hj')]
    simp [sval, List.getD_eq_getElem?_getD, hj'])
  refine hc.mono fun e w' ⟨h1, h2⟩ => ⟨?_, h2.symm⟩
  rw [h1]
  have : Lib.containsS ((ss.map fun s => (⟨s.toArray⟩ : ByteArray)).take ss.length) ⟨key.toArray⟩ = decide (key ∈ ss) := by
    rw [Bool.eq_iff_iff, Lib.containsS_iff, decide_eq_true_iff, List.take_of_length_le (by simp)]
    constructor
    · intro hm
      obtain ⟨s, hs, he⟩ := List.mem_map.1 hm
      obtain rfl := (beq_str _ _).1 he
      exact hs
    · intro hm; exact List.mem_map.2 ⟨key, hm, rfl⟩
  rw [this]
end Go.Proofs.YtlleijickhifmaaGreatDoor
