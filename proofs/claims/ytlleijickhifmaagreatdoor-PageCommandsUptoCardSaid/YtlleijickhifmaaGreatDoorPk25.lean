/- Layer 58: Render. -/
import Derived.Test.YtlleijickhifmaaGreatDoorPk19
import Derived.Test.YtlleijickhifmaaGreatDoorPk24
import Derived.Deep.CutBlock
import Derived.Laws.AppendOwnNone
namespace Go.Proofs.YtlleijickhifmaaGreatDoor
open Go.RowKit Go.Sort
set_option linter.unusedVariables false
set_option linter.unusedSimpArgs false
theorem one_line (w : World) (a : List UInt8) : ∀ i q, [a][i]? = some q → (w.alloc (.cells #[.string ⟨a.toArray⟩] 9)).cell? ⟨w.heap.size, 0 + i, none⟩ = some (sval q) := by
  intro i q hq
  rw [Nat.zero_add, cell_of_row _ _ i _ _ _ (heap_alloc_new w _)]
  match i, hq with
  | 0, hq => obtain rfl : a = q := by simpa using hq
             rfl
  | n + 1, hq => simp at hq
def alertsN (v : Vw) (k : Nat) : List (List UInt8) := (v.alerts.take k).map fun s => lineS s []
theorem alertsN_succ (v : Vw) (k : Nat) (h : k < v.alerts.length) : alertsN v (k + 1) = alertsN v k ++ [lineS v.alerts[k] []] := by
  unfold alertsN; rw [List.take_succ_eq_append_getElem h, List.map_append]; rfl
theorem alertsN_len (v : Vw) (k : Nat) (h : k ≤ v.alerts.length) : (alertsN v k).length = k := by unfold alertsN; simp; omega
theorem bodyS_4 {t : Term} {v : Vw} (h : t.page = 4) (m : Nat) (hm : m = min v.alerts.length 10) : bodyS t v = alertsN v m := by
  unfold bodyS alertsN
  rw [if_neg (by omega), if_neg (by omega), if_pos h]
  congr 1
  rw [hm, List.take_eq_take_iff]
  omega
theorem pageN_len (t : Term) : (pageN t).length ≤ 4 := by
  unfold pageN
  repeat' split
  all_goals simp
/-- 'out = append(out, more...)' beside other blocks: the source is a slice of strings anywhere. -/
theorem wpList_append_sgros {ops : Array Oper} {rest : List Oper} {op : Oper} {a : Act} {Q : Exit → Act → World → Prop} {w0 W : World} {v : Value} {ss : List (List UInt8)} (hgd : op.guard = none) (s x : Operand)
    (ho : op.op = .call { callee := .builtin .append, args := #[s, x], argTypes := #[41, 41] }) (h : SOut w0 W v ss) (hs : a.eval s = v) (t : List (List UInt8)) (g o n c : Nat) (hn' : t.length = n)
    (hx : a.eval x = .slice (some ⟨g, o, none⟩) n c) (hg : ∀ i q, t[i]? = some q → W.cell? ⟨g, o + i, none⟩ = some (sval q)) (hn : ss.length + n ≤ 10000000) (hb : w0.heap.size ≤ W.heap.size)
    (k : ∀ v' W', SOut w0 W' v' (ss ++ t) → Gro W v W' v' → wpList Tryz.prog ops Q rest (a.put op.dst v') W') : wpList Tryz.prog ops Q (op :: rest) a W := by
  obtain ⟨i0, hi, hz0, hz1, hz2⟩ := info_parts info_str_all
  subst hn'
  refine wpList_append_own_at (w := W) hgd s x 41 ho w0.heap.size 9 i0 _ 1 16 Tryz.underlying41 hi hz0 hz1 hz2 rfl (by omega) v ss.length (svals ss) hs h ⟨g, o, none⟩ t.length c (svals t) hx (by simp [svals]) ?_ (svals_one t) (by unfold maxLen; omega) (by omega) hb ?_
  · intro j u hu
    rw [addr_add]
    unfold svals at hu
    rw [List.getElem?_map] at hu
    cases hq : t[j]? with
    | none => rw [hq] at hu; cases hu
    | some q => rw [hq] at hu; obtain rfl : sval q = u := by simpa using hu
                exact hg j q hq
  · intro v' W' h1 h2 _ h4
    refine k v' W' ?_ ⟨h2, ?_⟩
    · unfold SOut
      rw [List.length_append, svals, List.map_append]
      exact h1
    · rcases h4 with e | e
      · exact .inl e
      · exact .inr ⟨_, e, Nat.le_refl _⟩
/-- 'out = append(out, more...)' where 'more' was grown by a call: it may be nil. -/
theorem wpList_append_sbody {ops : Array Oper} {rest : List Oper} {op : Oper} {a : Act} {Q : Exit → Act → World → Prop} {w0 w1 W : World} {v bv : Value} {ss t : List (List UInt8)} (hgd : op.guard = none) (s x : Operand)
    (ho : op.op = .call { callee := .builtin .append, args := #[s, x], argTypes := #[41, 41] }) (h : SOut w0 W v ss) (hs : a.eval s = v) (hb : SOut w1 W bv t) (hx : a.eval x = bv) (hn : ss.length + t.length ≤ 10000000) (hbs : w0.heap.size ≤ W.heap.size)
    (k : ∀ v' W', SOut w0 W' v' (ss ++ t) → Gro W v W' v' → wpList Tryz.prog ops Q rest (a.put op.dst v') W') : wpList Tryz.prog ops Q (op :: rest) a W := by
  obtain ⟨A, c, hf, hc, hS⟩ := hb.form
  rcases hb.2 with ⟨rfl, h0⟩ | ⟨g, cap, cur, rfl, hg, hbk, hnn, hm, hsz, hcc⟩
  · obtain rfl : t = [] := List.eq_nil_of_length_eq_zero h0
    obtain ⟨i0, hi, hz0, hz1, hz2⟩ := info_parts info_str_all
    refine wpList_append_own_none hgd s x 41 ho w0.heap.size 9 i0 1 Tryz.underlying41 hi v ss.length (svals ss) hs h hx (k v W (by simpa using h) (Gro.refl _ _))
  · refine wpList_append_sgros hgd s x ho h hs t g 0 t.length cap rfl hx ?_ hn hbs k
    intro i q hq
    simp only [Value.slice.injEq] at hf
    obtain ⟨b, o, hA, _, hcell⟩ := hS.at_ (by rintro rfl; simp at hq)
    rw [hA] at hf
    have hf1 := hf.1
    simp only [Option.some.injEq, Addr.mk.injEq, and_true] at hf1
    rw [hf1.1, hf1.2]
    exact hcell i q hq
/-- A block beside the slice of one string that was made last. -/
theorem Fix.beside {w : World} {g : Nat} {cs : Array Value} (h : Blk w g cs) (o : Obj) (n c : Nat) : Fix (w.alloc o) (.slice (some ⟨w.heap.size, 0, none⟩) n c) g cs where
  lt := (h.alloc o).lt
  far := by have := h.lt; intro e; simp [Value.ownBlock] at e; omega
  cell := (h.alloc o).cell
theorem Fix.has_term {w : World} {v : Value} {g : Nat} {t : Term} (h : Fix w v g t.arr) : Has_term w g 0 := ⟨t, fun j _ => by rw [Nat.zero_add]; exact h.cell j⟩
theorem headD_get {l : List (List UInt8)} (h : 0 < l.length) : l[0] = l.headD [] := by
  cases l with
  | nil => simp at h
  | cons x r => rfl
theorem modesT_len (a b c : Int) : (modesT a b c).length ≤ 100 := by
  have h := modeN_len a b c
  rw [modesT_eq]
  split
  · simp; omega
  · simp
/-- Three lines stand in the block that was made last. -/
theorem three_lines (w : World) (a b c : List UInt8) : ∀ i q, [a, b, c][i]? = some q → (w.alloc (.cells #[.string ⟨a.toArray⟩, .string ⟨b.toArray⟩, .string ⟨c.toArray⟩] 9)).cell? ⟨w.heap.size, 0 + i, none⟩ = some (sval q) := by
  intro i q hq
  rw [Nat.zero_add, cell_of_row _ _ i _ _ _ (heap_alloc_new w _)]
  match i, hq with
  | 0, hq => obtain rfl : a = q := by simpa using hq
             rfl
  | 1, hq => obtain rfl : b = q := by simpa using hq
             rfl
  | 2, hq => obtain rfl : c = q := by simpa using hq
             rfl
  | n + 3, hq => simp at hq
def sliceLen : Value → Nat
  | .slice _ n _ => n
  | _ => 0
def last58 (v : Vw) : List UInt8 := if v.last = 0 then [] else [69] ++ Lib.itoa v.last
theorem renderS_eq (t : Term) (v : Vw) (j : Nat) (h : (titleS t v :: bodyS t v).length + j = 11) : renderS t v = (titleS t v :: bodyS t v) ++ List.replicate j (lineS [] []) ++ [lineS (modesT v.lat v.vert v.phase) [], lineS (v.alerts.headD []) (last58 v), lineS (91 :: (t.pad ++ [93])) []] := by
  unfold renderS fill11 last58
  rw [show 11 - (titleS t v :: bodyS t v).length = j by omega]
  simp only [List.singleton_append, List.cons_append, List.nil_append]
attribute [local go_sem] ba_append
set_option maxHeartbeats 4000000 in
set_option maxRecDepth 100000 in
theorem render_any (t : Term) (v : Vw) (d : VAd) (arr : Array Value) (hv : v.At d arr) (hr : v.rng) (w : World) (hL : Laid w) (hok : v.ok w d) (ht : -9223372036854775808 ≤ t.first ∧ t.first ≤ 9223372036854775807) (hp : t.pad.length ≤ 3000000000) :
    Calls Tryz.prog 10 #[.agg t.arr, .agg arr] w (RetStrs w (renderS t v)) := by
  obtain ⟨hsm, hcap, hE⟩ := hok.shown
  have hsr : (shownS v).rng := by unfold shownS; cases v.hasTemp; exact hr.act; exact hr.tmp
  go_enter Tryz.func10, Tryz.ntmps10
  go_upto_region 1 with (fail)
  generalize hW : (w.alloc _).alloc _ = W
  have X0 : Blk W w.heap.size t.arr := by rw [← hW]; exact (Blk.new w t.arr _).alloc _
  have V0 : Blk W (w.heap.size + 1) arr := by rw [← hW, ← World.size_alloc w (.cells t.arr 23)]; exact Blk.new _ _ _
  have B0 : Below w.heap.size w W := by rw [← hW]; go_grown
  clear hW
  generalize w.heap.size + 1 = gv at *
  have z : arr.size = 42 := hv.size
  have j1 : Has_view W gv 0 := ⟨_, V0.is_view z⟩
  have j2 : of_view W gv 0 = arr := of_view_eq (V0.is_view z)
  go_upto_region 2 with (go_at_call 19; (with_reducible refine callRB (shown_any v d arr hv _) ?_); intro w2 B2)
  have e2 := (Below.refl w2.heap.size w2).alloc (Nat.le_refl _) (.cells ((shownS v).arr (d.sA v) (d.sc v)) 26)
  generalize hW2 : w2.alloc _ = W2
  have X2 : Blk W2 w.heap.size t.arr := by rw [← hW2]; exact (X0.step B2).alloc _
  have V2 : Blk W2 gv arr := by rw [← hW2]; exact (V0.step B2).alloc _
  have P2 : Blk W2 w2.heap.size ((shownS v).arr (d.sA v) (d.sc v)) := by rw [← hW2]; exact Blk.new _ _ _
  have C2 : Below w.heap.size w W2 := by rw [← hW2]; exact below_step (below_step B0 B2) e2
  clear hW2 e2 X0 V0 B0 B2 j1 j2
  generalize w2.heap.size = gp at P2 ⊢
  have L2 := hL.below C2
  have ok2 := hok.below C2
  have hE2 := hE.below (B := 0) C2
  have hxl := X2.lt
  have hvl := V2.lt
  have hpl := P2.lt
  have x1 := X2.cell
  go_upto_block 0 with fail
  go_cut [6, 7, 19] (fun a b _ wx => a = .string ⟨(pageN t).toArray⟩ ∧ SOut W2 wx b (bodyS t v) ∧ Below W2.heap.size W2 wx)
  case first =>
    have x4 := X2.has_term
    have x5 := X2.of_term
    have p4 := P2.has_plan
    have p5 := P2.of_plan
    have j1 : Has_view W2 gv 0 := ⟨_, V2.is_view z⟩
    have j2 : of_view W2 gv 0 = arr := of_view_eq (V2.is_view z)
    have HR := Lib.hid (rows_any t (shownS v) (d.sA v) (d.sc v) W2 L2 hsm hsr hcap hE2 ht)
    have HP := Lib.hid (progress_any v d arr hv hr W2 L2 ok2)
    by_cases h1 : t.page = 1
    · have HB : Hid (bodyS t v = rowsS t (shownS v)) := Lib.hid (by unfold bodyS; rw [if_pos (.inl h1)])
      have HN : Hid (pageN t = [76, 69, 71, 83]) := Lib.hid (by unfold pageN; rw [if_pos h1])
      clear hE hE2 z
      go_wp2_with (go_at_call 20; (with_reducible refine callStrs' HR.out ?_); intro v3 w3 O3 B3)
      go_meet
      exact ⟨by rw [HN.out], by rw [HB.out]; exact O3, B3⟩
    · have h1b : (t.page == 1) = false := by simpa using h1
      by_cases h2 : t.page = 2
      · have HB : Hid (bodyS t v = rowsS t (shownS v)) := Lib.hid (by unfold bodyS; rw [if_pos (.inr h2)])
        have HN : Hid (pageN t = [68, 73, 82]) := Lib.hid (by unfold pageN; rw [if_neg h1, if_pos h2])
        clear hE hE2 z h1 h1b
        go_wp2_with (go_at_call 20; (with_reducible refine callStrs' HR.out ?_); intro v3 w3 O3 B3)
        go_meet
        exact ⟨by rw [HN.out], by rw [HB.out]; exact O3, B3⟩
      · have h2b : (t.page == 2) = false := by simpa using h2
        by_cases h3 : t.page = 3
        · have HB : Hid (bodyS t v = progressS v) := Lib.hid (by unfold bodyS; rw [if_neg (by omega), if_pos h3])
          have HN : Hid (pageN t = [80, 82, 79, 71]) := Lib.hid (by unfold pageN; rw [if_neg h1, if_neg h2, if_pos h3])
          clear hE hE2 z h1 h1b h2 h2b
          go_wp2_with (go_at_call 21; (with_reducible refine callStrs' HP.out ?_); intro v3 w3 O3 B3)
          go_meet
          exact ⟨by rw [HN.out], by rw [HB.out]; exact O3, B3⟩
        · have h3b : (t.page == 3) = false := by simpa using h3
          by_cases h4 : t.page = 4
          · have HN : Hid (pageN t = [77, 83, 71]) := Lib.hid (by unfold pageN; rw [if_neg h1, if_neg h2, if_neg h3, if_pos h4])
            obtain ⟨m, hm⟩ : ∃ m, m = min v.alerts.length 10 := ⟨_, rfl⟩
            have HB := Lib.hid (bodyS_4 h4 m hm)
            have hm2 : min (v.alerts.length : Int) 10 = (m : Int) := by omega
            have hml : m ≤ v.alerts.length := by omega
            have hm10 : m ≤ 10 := by omega
            have e32 := hv.alerts
            have hc3 := ok2.cap3
            have v1 := V2.cell
            have hmc : m ≤ d.c3 := by omega
            have hS := ok2.strs
            have hse := ok2.each3
            generalize d.A3 = A3 at *
            generalize d.c3 = c3 at *
            clear hE hE2 z h1 h1b h2 h2b h3 h3b hm HR HP j1 j2 x4 x5 p4 p5
            go_wp2_with fail
            clear h4
            go_loopw [7, 9, 44] (fun v' _ i wr => ∃ k : Nat, k ≤ m ∧ i = .int .i64 k ∧ SOut W2 wr v' (alertsN v k) ∧ Below W2.heap.size W2 wr) (fun _ _ i _ => m - (intOf i).toNat)
            case atStart => exact ⟨0, by omega, rfl, SOut.nil _ _, Below.refl _ _⟩
            case round =>
              obtain ⟨k, hk, rfl, O, B⟩ := hrel
              by_cases hlt : k < m
              · have hkl : k < v.alerts.length := by omega
                obtain ⟨b, o, hA, hb, hc⟩ := hS.at_ (by intro e; rw [e] at hkl; simp at hkl)
                subst hA
                have hcc := hc k _ (List.getElem?_eq_getElem hkl)
                have hcl : wr.cell? ⟨b, o + k, none⟩ = some (.string ⟨(v.alerts[k]).toArray⟩) := by rw [B.cell (p := ⟨b, _, none⟩) hb]; exact hcc
                have hsl := hse _ (List.getElem_mem hkl)
                have HN2 := Lib.hid (alertsN_succ v k hkl)
                have HLn := Lib.hid (alertsN_len v k (by omega))
                have L1 := fun w => line_any v.alerts[k] [] w hsl (by simp)
                generalize lineS v.alerts[k] [] = le at L1 HN2
                clear hcc hc
                generalize v.alerts[k] = s at *
                have L1 := Lib.hid L1
                have O := Lib.hid O
                go_wp2_with (first
                  | (go_at_call 22; (with_reducible refine callRB (L1.out _) ?_); intro w4 B4; have B := below_step B B4; have O := Lib.hid (O.out.below B4))
                  | (at_builtin; refine wpList_append_souts rfl (.tmp 48) (.tmp 51) rfl (O.out.alloc _) rfl [le] _ 0 1 _ rfl rfl (one_line _ le) (by rw [HLn.out]; omega) (below_step B ((Below.refl _ _).alloc (Nat.le_refl _) _)).size ?_; intro v7 w7 O7 G7; have B7 := below_sgrown (below_step B ((Below.refl _ _).alloc (Nat.le_refl _) _)) (O.out.alloc _) G7; have O7 := Lib.hid O7))
                go_roundw
                case rel => exact ⟨k + 1, by omega, by go_num, by rw [HN2.out]; exact O7.out, B7⟩
                case measure => simp [intOf]; omega
              · obtain rfl : k = m := by omega
                go_wp2
                go_meet
                exact ⟨by rw [HN.out], by rw [HB.out]; exact O, B⟩
          · have h4b : (t.page == 4) = false := by simpa using h4
            have HB : Hid (bodyS t v = []) := Lib.hid (by unfold bodyS; rw [if_neg (by omega), if_neg h3, if_neg h4])
            have HN : Hid (pageN t = []) := Lib.hid (by unfold pageN; rw [if_neg h1, if_neg h2, if_neg h3, if_neg h4])
            clear hE hE2 z h1 h2 h3 h4
            go_wp2
            go_meet
            exact ⟨by rw [HN.out], by rw [HB.out]; exact SOut.nil _ _, Below.refl _ _⟩
  case rest =>
    obtain ⟨rfl, OB, B3⟩ := hcut
    have X3 := X2.step B3
    have V3 := V2.step B3
    have P3 := P2.step B3
    have C3 := below_step C2 B3
    have L3 := L2.below B3
    have ok3 := ok2.below B3
    have OB := Lib.hid OB
    have lpn : (pageN t).length ≤ 4 := pageN_len t
    clear X2 V2 P2 C2 L2 ok2 hE hE2 hxl hvl hpl x1 z
    generalize hpn : pageN t = pn at *
    have xx := X3.cell
    have vv := V3.cell
    have pp := P3.cell
    obtain ⟨st, hst⟩ : ∃ st : List UInt8, (if v.hasTemp then [77, 79, 68, 32] else [65, 67, 84, 32]) = st := ⟨_, rfl⟩
    have e8 := hv.hasTemp
    go_upto_if 55 with (fail)
    go_cut [10] (fun s wx => s = .string ⟨st.toArray⟩ ∧ wx = wc ∧ st.length = 4)
    case first =>
      cases hh : v.hasTemp
      · rw [hh] at hst e8
        simp only [Bool.false_eq_true, if_false] at hst
        have HH := Lib.hid hst
        clear hst
        go_wp2
        go_meet
        exact ⟨by rw [← HH.out], rfl, by rw [← HH.out]; rfl⟩
      · rw [hh] at hst e8
        simp only [if_true] at hst
        have HH := Lib.hid hst
        clear hst
        go_wp2
        go_meet
        exact ⟨by rw [← HH.out], rfl, by rw [← HH.out]; rfl⟩
    case rest =>
      obtain ⟨rfl, rfl, lst⟩ := hcut
      have hle := hsm.len
      obtain ⟨n1, hn1⟩ : ∃ n1 : Int, max t.first 0 / 5 + 1 = n1 := ⟨_, rfl⟩
      obtain ⟨n2, hn2⟩ : ∃ n2 : Int, max (((shownS v).es.length : Int) + 4) 5 / 5 = n2 := ⟨_, rfl⟩
      have hn2' : max (((shownS v).es.length : Int) + 5 - 1) 1 / 5 = max (((shownS v).es.length : Int) + 5 - 1) 1 / 5 := rfl
      have q2 : max ((((shownS v).es.length : Int) + 5 - 1) / 5) 1 = n2 := by omega
      have q1 : IntKind.i64.wrap (max t.first 0 / 5 + 1) = n1 := by rw [hn1]; exact IntWalk.i64_in _ (by omega)
      have r1 : -9223372036854775808 ≤ n1 ∧ n1 ≤ 9223372036854775807 := by omega
      have r2 : -9223372036854775808 ≤ n2 ∧ n2 ≤ 9223372036854775807 := by omega
      have HI1 := Lib.hid (fun w h => itoa_any n1 r1.1 r1.2 w h)
      have HI2 := Lib.hid (fun w h => itoa_any n2 r2.1 r2.2 w h)
      have l1 := itoa_len n1 r1.1 r1.2
      have l2 := itoa_len n2 r2.1 r2.2
      have HT : Hid (titleS t v = lineS (st ++ pn) (Lib.itoa n1 ++ (47 :: Lib.itoa n2))) := Lib.hid (by unfold titleS; rw [hst, hpn, hn1, hn2]; simp)
      go_upto_region 21 with (fail)
      generalize Lib.itoa n1 = i1 at *
      generalize Lib.itoa n2 = i2 at *
      have HL1 := Lib.hid (fun w => line_any (st ++ pn) (i1 ++ (47 :: i2)) w (by simp; omega) (by simp; omega))
      generalize lineS (st ++ pn) (i1 ++ (47 :: i2)) = ti at HL1 HT
      have b1 : ¬ 9223372036854775807 < ((st.length + pn.length : Nat) : Int) := by omega
      have b2 : ¬ 9223372036854775807 < ((i1.length + 1 : Nat) : Int) := by omega
      have b3 : ¬ 9223372036854775807 < ((i1.length + 1 + i2.length : Nat) : Int) := by omega
      have b4 : ¬ 9223372036854775807 < ((i1.length + (1 + i2.length) : Nat) : Int) := by omega
      clear hn1 hn2 hn2'
      go_upto_region 22 with (first
        | (go_at_call 23; (with_reducible refine callRB (HI1.out _ L3) ?_); intro w4 B4; have B5 := below_step C3 B4; have L4 := L3.below B4)
        | (go_at_call 23; (with_reducible refine callRB (HI2.out _ L4) ?_); intro w5 B6; have B7 := below_step B5 B6)
        | (go_at_call 22; (with_reducible refine callRB (HL1.out _) ?_); intro w6 B8; have B9 := below_step B7 B8))
      have Bz := (Below.refl w6.heap.size w6).alloc (Nat.le_refl _) (.cells #[.string ⟨ti.toArray⟩] 9)
      have D6 := below_step (below_step B4 B6) B8
      have D7 := below_step D6 Bz
      have C7 := below_step B9 Bz
      have O7 : SOut w (w6.alloc (.cells #[.string ⟨ti.toArray⟩] 9)) (.slice (some ⟨w6.heap.size, 0, none⟩) 1 1) [ti] := World.ownsRow_lit (e := 9) (base := w.heap.size) (size := 1) w6 (svals [ti]).toArray 1 B9.size (by unfold maxLen; omega) rfl
      have FX := Fix.beside (X3.step D6) (.cells #[.string ⟨ti.toArray⟩] 9) 1 1
      have FV := Fix.beside (V3.step D6) (.cells #[.string ⟨ti.toArray⟩] 9) 1 1
      have OB7 := Lib.hid (OB.out.below D7)
      have L7 := L3.below D7
      have ok7 := ok3.below D7
      have hbl := bodyS_len t v
      generalize hbd : bodyS t v = bd at *
      have HBd := Lib.hid hbd
      clear hbd OB X3 V3 P3 C3 L3 L4 ok3 B3 B4 B5 B6 B7 B8 B9 Bz D6 D7 xx vv pp HI1 HI2 HL1 q1 q2 r1 r2 hst e8 hpn lpn
      generalize w6.alloc _ = W7 at *
      generalize w6.heap.size = g6 at *
      have O7 := Lib.hid O7
      go_wp2_with (at_builtin; refine wpList_append_sbody rfl (.tmp 78) (.tmp 79) rfl O7.out rfl OB7.out rfl (by simp; omega) C7.size ?_; intro v8 w8 O8 G8)
      have C8 := below_sgrown C7 O7.out G8.grown
      have FX8 := FX.step G8
      have FV8 := FV.step G8
      have hG8 : Below w.heap.size w w8 := C8
      clear O7 OB7 FX FV ok7 L7 C7 G8 lst l1 l2 b1 b2 b3 b4
      obtain ⟨bl, hbl2⟩ : ∃ bl, lineS [] [] = bl := ⟨_, rfl⟩
      have HB0 := Lib.hid (fun w => line_any [] [] w (by simp) (by simp))
      rw [hbl2] at HB0
      obtain ⟨L0, hL0⟩ : ∃ L0, [ti] ++ bd = L0 := ⟨_, rfl⟩
      rw [hL0] at O8
      have hL0l : L0.length ≤ 11 := by rw [← hL0]; simp; omega
      go_loopw [12] (fun v' wr => ∃ j : Nat, L0.length + j ≤ 11 ∧ SOut w wr v' (L0 ++ List.replicate j bl) ∧ Fix wr v' w.heap.size t.arr ∧ Fix wr v' gv arr ∧ Below w.heap.size w wr) (fun v' _ => 11 - sliceLen v')
      case atStart => exact ⟨0, by omega, by simpa using O8, FX8, FV8, C8⟩
      case round =>
        obtain ⟨j, hj, O, FX, FV, B⟩ := hrel
        clear O8 FX8 FV8 C8 hG8
        obtain ⟨ls, hls⟩ : ∃ ls, L0 ++ List.replicate j bl = ls := ⟨_, rfl⟩
        have hn : ls.length = L0.length + j := by rw [← hls]; simp
        have hnext : ls ++ [bl] = L0 ++ List.replicate (j + 1) bl := by rw [← hls, List.append_assoc, ← List.replicate_succ']
        rw [hls] at O
        obtain ⟨A, c, rfl, hc, S⟩ := O.form
        have HLn := Lib.hid hn
        clear S hn
        by_cases hlt : ls.length < 11
        · have O := Lib.hid O
          have FX := Lib.hid FX
          have FV := Lib.hid FV
          have HNx := Lib.hid hnext
          have hlt' : (ls.length : Int) < 11 := by omega
          clear hls hnext hL0
          go_wp2_with (first
            | (go_at_call 22; (with_reducible refine callRB (HB0.out _) ?_); intro w9 B9; have B := below_step B B9; have O := Lib.hid (O.out.below B9); have FX := Lib.hid (FX.out.step (Gro.below B9)); have FV := Lib.hid (FV.out.step (Gro.below B9)))
            | (at_builtin; refine wpList_append_sgros rfl (.tmp 84) (.tmp 86) rfl (O.out.alloc _) rfl [bl] _ 0 1 _ rfl rfl (one_line _ bl) (by omega) (below_step B ((Below.refl _ _).alloc (Nat.le_refl _) _)).size ?_; intro v7 w7 O7 G7; have B7 := below_sgrown (below_step B ((Below.refl _ _).alloc (Nat.le_refl _) _)) (O.out.alloc _) G7.grown; have O7 := Lib.hid O7; have FX7 := (FX.out.alloc _).step G7; have FV7 := (FV.out.alloc _).step G7))
          go_roundw
          case rel => exact ⟨j + 1, by have := HLn.out; omega, by rw [← HNx.out]; exact O7.out, FX7, FV7, B7⟩
          case measure => obtain ⟨A7, c7, e7, _⟩ := O7.out.form; rw [e7]; simp only [sliceLen, List.length_append, List.length_singleton]; omega
        · have hlt' : ¬ (ls.length : Int) < 11 := by omega
          have O := Lib.hid O
          have FX := Lib.hid FX
          have FV := Lib.hid FV
          obtain ⟨fs, hfs⟩ : ∃ fs : List UInt8, v.alerts.headD [] = fs := ⟨_, rfl⟩
          obtain ⟨la, hla⟩ : ∃ la : List UInt8, last58 v = la := ⟨_, rfl⟩
          obtain ⟨mo, hmo⟩ : ∃ mo : List UInt8, modesT v.lat v.vert v.phase = mo := ⟨_, rfl⟩
          have hfin := Lib.hid (show renderS t v = ls ++ [lineS mo [], lineS fs la, lineS (91 :: (t.pad ++ [93])) []] by
            have h1 := HLn.out
            rw [renderS_eq t v j (by have h2 : L0.length = (ti :: bd).length := (by rw [← hL0]; rfl); rw [HT.out, HBd.out, ← h2]; omega), HT.out, HBd.out, hbl2, hfs, hla, hmo, ← hls, ← hL0]; rfl)
          have hl11 : ls.length ≤ 11 := by have := HLn.out; omega
          have vv := FV.out.cell
          have e32 := hv.alerts
          have okr := hok.below B
          have Lr := hL.below B
          have hse := okr.each3
          clear hls hnext hL0 HLn hlt
          go_upto_if 91 with (fail)
          go_cut [13] (fun s wx => s = .string ⟨fs.toArray⟩ ∧ wx = wr ∧ fs.length ≤ 4000000000)
          case first =>
            by_cases h0 : 0 < v.alerts.length
            · obtain ⟨b, o, hA, hb, hc3⟩ := okr.strs.at_ (by intro e; rw [e] at h0; simp at h0)
              have hcc := hc3 0 _ (List.getElem?_eq_getElem h0)
              have hh : v.alerts[0] = fs := by rw [← hfs]; exact headD_get h0
              have hl := hse _ (List.getElem_mem h0)
              rw [hh] at hcc hl
              have hc4 : wr.cell? ⟨b, o, none⟩ = some (.string ⟨fs.toArray⟩) := hcc
              rw [hA] at e32
              have h0' : (0 : Int) < (v.alerts.length : Int) := by omega
              clear hcc hc3 hfs hh
              go_wp2
              go_meet
              exact ⟨rfl, rfl, hl⟩
            · have hh : ([] : List UInt8) = fs := by
                rw [← hfs]
                cases hal : v.alerts with
                | nil => rfl
                | cons x r => rw [hal] at h0; simp at h0
              have HH := Lib.hid hh
              have h0' : ¬ (0 : Int) < (v.alerts.length : Int) := by omega
              clear hfs hh
              go_wp2
              go_meet
              exact ⟨by rw [← HH.out], rfl, by rw [← HH.out]; simp⟩
          case rest =>
            obtain ⟨rfl, rfl, hfl⟩ := hcut
            clear hfs e32
            have e38 := hv.last
            unfold last58 at hla
            go_upto_if 98 with (fail)
            go_cut [14] (fun s wy => s = .string ⟨la.toArray⟩ ∧ Below wc.heap.size wc wy ∧ la.length ≤ 100)
            case first =>
              by_cases ha : v.last = 0
              · rw [if_pos ha] at hla
                have HH := Lib.hid hla
                rw [ha] at e38
                clear hla
                go_wp2
                go_meet
                exact ⟨by rw [← HH.out], Below.refl _ _, by rw [← HH.out]; simp⟩
              · rw [if_neg ha] at hla
                have HI := Lib.hid (itoa_any v.last hr.last.1 hr.last.2 wc Lr)
                have hil := itoa_len v.last hr.last.1 hr.last.2
                generalize Lib.itoa v.last = it at *
                have HH := Lib.hid hla
                have hab : (v.last != 0) = true := by simpa using ha
                have b1 : ¬ 9223372036854775807 < ((1 + it.length : Nat) : Int) := by omega
                clear hla ha
                go_wp2_with (go_at_call 23; (with_reducible refine callRB HI.out ?_); intro w6 B6)
                go_meet
                exact ⟨by rw [← HH.out]; simp, B6, by rw [← HH.out]; simp; omega⟩
            case rest =>
              obtain ⟨rfl, B9, hll⟩ := hcut
              clear hla e38 vv
              have lmo : mo.length ≤ 100 := hmo ▸ modesT_len v.lat v.vert v.phase
              have HM : Hid (∀ w, Calls Tryz.prog 24 #[.agg #[.int .u8 v.lat, .int .u8 v.vert, .int .u8 v.phase]] w (Ret w (.string ⟨mo.toArray⟩))) := Lib.hid (by
                intro w
                have h := modesText_any ⟨v.lat, v.vert, v.phase⟩ hr.lat hr.vert hr.phase w
                rw [hmo] at h
                exact h)
              have FX9 := FX.out.step (Gro.below B9)
              have vv := (FV.out.step (Gro.below B9)).cell
              have O9 := O.out.below B9
              have C9 := below_step B B9
              have e25 := hv.lat
              have e26 := hv.vert
              have e27 := hv.phase
              clear FX FV O B B9 hmo okr Lr HB0 hbl2 HT HBd hbl hL0l hj hse OB
              go_upto_region 31 with (go_at_call 24; (with_reducible refine callRB (HM.out _) ?_); intro w10 B10)
              have FXa := FX9.step (Gro.below B10)
              have Oa := O9.below B10
              have Ca := below_step C9 B10
              have M0 := fun w => line_any mo [] w (by omega) (by simp)
              have M1 := fun w => line_any fs la w hfl (by omega)
              have M2 := fun w => line_any (91 :: (t.pad ++ [93])) [] w (by simp; omega) (by simp)
              have hf := hfin.out
              clear hfin HM
              generalize lineS mo [] = m0 at M0 hf
              generalize lineS fs la = m1 at M1 hf
              generalize lineS (91 :: (t.pad ++ [93])) [] = m2 at M2 hf
              have hfin := Lib.hid hf
              have bg := fun d' os => below_regrown w10 d' os
              have k2 : ∀ d' os, (grow (redrawn w10 d') os).cell? ⟨w.heap.size, 2, none⟩ = some (.string ⟨t.pad.toArray⟩) := fun d' os => (FXa.step (Gro.below (bg d' os))).cell 2
              have d0 := fun d' os => Calls.regrown_ret (M0 (grow (redrawn w10 d') os))
              have d1 := fun d' os => Calls.regrown_ret (M1 (grow (redrawn w10 d') os))
              have d2 := fun d' os => Calls.regrown_ret (M2 (grow (redrawn w10 d') os))
              have b1 : ¬ 9223372036854775807 < ((1 + t.pad.length : Nat) : Int) := by omega
              have b2 : ¬ 9223372036854775807 < ((1 + t.pad.length + 1 : Nat) : Int) := by omega
              have b3 : ¬ 9223372036854775807 < ((1 + (t.pad.length + 1) : Nat) : Int) := by omega
              have b4 : ¬ 9223372036854775807 < ((t.pad.length + 1 : Nat) : Int) := by omega
              have b5 : ¬ 9223372036854775807 < ((t.pad.length + 1 + 1 : Nat) : Int) := by omega
              clear hf M0 M1 M2 FX9 vv O9 C9 e25 e26 e27
              refine wp_region_take_tail_below _ 11 (by kernel_rfl) (by kernel_rfl) (fun _ _ _ h => h) (.inl ⟨rfl, fun _ => rfl⟩) ?_
              simp only [Nat.reduceSub, List.take_succ_cons, List.take_zero, List.drop_succ_cons, List.drop_zero, Act.put, List.setIfInBounds_toArray, List.set_cons_zero, List.set_cons_succ]
              repeat (first | go_big_quiet_step (with_reducible first | exact d0 _ _ | exact d1 _ _ | exact d2 _ _) | quiet_step (with_reducible first | exact d0 _ _ | exact d1 _ _ | exact d2 _ _))
              refine wpQuiet_nil ?_
              intro _ hw'
              obtain ⟨⟨dq, osq⟩, hw''⟩ := hw'
              subst hw''
              have Bq := below_step Ca (bg dq osq)
              have Oq := Lib.hid (Oa.below (bg dq osq))
              clear k2 bg d0 d1 d2
              generalize grow (redrawn w10 dq) osq = w11 at Bq Oq ⊢
              go_wp2_with (at_builtin; refine wpList_append_sgros rfl (.tmp 114) (.tmp 125) rfl (Oq.out.alloc _) rfl [m0, m1, m2] _ 0 3 _ rfl rfl (three_lines _ m0 m1 m2) (by omega) (below_step Bq ((Below.refl _ _).alloc (Nat.le_refl _) _)).size ?_; intro v12 w12 O12 G12; have B12 := below_sgrown (below_step Bq ((Below.refl _ _).alloc (Nat.le_refl _) _)) (Oq.out.alloc _) G12.grown; have O12 := Lib.hid O12)
              go_ret
              exact ⟨_, rfl, by rw [hfin.out]; exact O12.out, B12⟩
end Go.Proofs.YtlleijickhifmaaGreatDoor
