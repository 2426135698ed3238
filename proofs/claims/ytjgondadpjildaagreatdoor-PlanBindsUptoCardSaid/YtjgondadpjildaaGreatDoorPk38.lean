/- leg.Text: the words of a leg, joined; the texts of its numbers are told by the callees' contracts. Printed by wip/mklegtext.py. -/
import Derived.Test.YtjgondadpjildaaGreatDoorPk29
namespace Go.Proofs.YtjgondadpjildaaGreatDoor
open Go.RowKit Go.Sort
set_option linter.unusedVariables false
set_option linter.unusedSimpArgs false
def opt (b : Bool) (s : List UInt8) : List (List UInt8) := if b then [s] else []
theorem opt_len (b : Bool) (s : List UInt8) : (opt b s).length ≤ 1 := by cases b <;> simp [opt]
def winB (l : Leg) : Bool := l.lo != -200000 || l.hi != 6000000
/-- The texts of a leg's numbers. -/
structure LegTx where
  course : List UInt8
  dist : List UInt8
  radius : List UInt8
  theta : List UInt8
  win : List UInt8
  speed : List UInt8
  rnp : List UInt8
/-- What the callees say of these texts. -/
structure LegTexts (l : Leg) (t : LegTx) : Prop where
  course : uB l.ty 16 = true → ∀ w, Laid w → Calls Tryz.prog 86 #[.int .i64 l.course] w (Ret w (.string ⟨t.course.toArray⟩))
  dist : uB l.ty 32 = true → ∀ w, Laid w → Calls Tryz.prog 87 #[.string ⟨#[100]⟩, .int .i64 l.dist] w (Ret w (.string ⟨t.dist.toArray⟩))
  radius : uB l.ty 64 = true → ∀ w, Laid w → Calls Tryz.prog 87 #[.string ⟨#[114]⟩, .int .i64 l.radius] w (Ret w (.string ⟨t.radius.toArray⟩))
  theta : uB l.ty 128 = true → ∀ w, Laid w → Calls Tryz.prog 86 #[.int .i64 l.theta] w (Ret w (.string ⟨t.theta.toArray⟩))
  win : winB l = true → ∀ w, Laid w → Calls Tryz.prog 88 #[.agg (Win.arr ⟨l.lo, l.hi⟩)] w (Ret w (.tuple #[.string ⟨t.win.toArray⟩, .int .i64 0]))
  speed : (l.speed != 0) = true → ∀ w, Laid w → Calls Tryz.prog 89 #[.int .i64 l.speed] w (Ret w (.string ⟨t.speed.toArray⟩))
  rnp : (l.rnp != 0) = true → ∀ w, Laid w → Calls Tryz.prog 87 #[.string ⟨#[110]⟩, .int .i64 l.rnp] w (Ret w (.string ⟨t.rnp.toArray⟩))
  small : ∀ s ∈ [t.course, t.dist, t.radius, t.theta, t.win, t.speed, t.rnp], s.length ≤ 1000
def nameOf (t : Int) : List UInt8 := namesTab.getD t.toNat []
def legWords (l : Leg) (t : LegTx) : List (List UInt8) := [nameOf l.ty] ++ opt (uB l.ty 1) l.fix ++ opt (uB l.ty 2) (64 :: l.center) ++ opt (uB l.ty 4) (if l.turn = 1 then [76] else [82]) ++ opt (uB l.ty 16) t.course ++ opt (uB l.ty 32) t.dist ++ opt (uB l.ty 64) t.radius ++ opt (uB l.ty 128) (116 :: t.theta) ++ opt (l.over) [111, 118, 101, 114] ++ opt (winB l) t.win ++ opt (l.speed != 0) (115 :: t.speed) ++ opt (l.rnp != 0) t.rnp
def legText (l : Leg) (t : LegTx) : List UInt8 := if legCheck l != 0 then [] else Lib.join (legWords l t) [32]
theorem mem_opt {b : Bool} {s x : List UInt8} (h : x ∈ opt b s) : x = s := by cases b <;> simp_all [opt]
theorem names_len : ∀ s ∈ namesTab, s.length ≤ 2 := by decide
theorem nameOf_len (t : Int) : (nameOf t).length ≤ 2 := by
  unfold nameOf
  rcases Nat.lt_or_ge t.toNat namesTab.length with h | h
  · have e : namesTab.getD t.toNat [] = namesTab[t.toNat] := by simp [h]
    rw [e]; exact names_len _ (List.getElem_mem h)
  · simp [List.getElem?_eq_none h]
theorem legWords_small {l : Leg} {t : LegTx} (hl : l.small) (hT : LegTexts l t) : ∀ s ∈ legWords l t, s.length ≤ 4000000001 := by
  intro s hs
  have h1 := hl.fix
  have h2 := hl.center
  have h3 := nameOf_len l.ty
  have hm := hT.small
  simp only [List.mem_cons, List.not_mem_nil, or_false, forall_eq_or_imp, forall_eq] at hm
  obtain ⟨m1, m2, m3, m4, m5, m6, m7⟩ := hm
  simp only [legWords, List.mem_append, List.mem_singleton] at hs
  rcases hs with (((((((((((hs | hs) | hs) | hs) | hs) | hs) | hs) | hs) | hs) | hs) | hs) | hs)
  all_goals first
    | (have := mem_opt hs; subst this; (try simp only [List.length_cons, List.length_nil]); omega)
    | (have := mem_opt hs; subst this; split <;> simp)
    | (subst hs; omega)
theorem legWords_len (l : Leg) (t : LegTx) : (legWords l t).length ≤ 12 := by
  simp only [legWords, List.length_append, List.length_singleton]
  have := opt_len (uB l.ty 1) l.fix
  have := opt_len (uB l.ty 2) (64 :: l.center)
  have := opt_len (uB l.ty 4) (if l.turn = 1 then [76] else [82])
  have := opt_len (uB l.ty 16) t.course
  have := opt_len (uB l.ty 32) t.dist
  have := opt_len (uB l.ty 64) t.radius
  have := opt_len (uB l.ty 128) (116 :: t.theta)
  have := opt_len (l.over) [111, 118, 101, 114]
  have := opt_len (winB l) t.win
  have := opt_len (l.speed != 0) (115 :: t.speed)
  have := opt_len (l.rnp != 0) t.rnp
  omega
theorem SOut.push {w0 W : World} {v : Value} {ws : List (List UInt8)} {b : Bool} {s : List UInt8} (hb : b = false) (h : SOut w0 W v ws) : SOut w0 W v (ws ++ opt b s) := by subst hb; simpa [opt] using h
theorem SOut.push1 {w0 W : World} {v : Value} {ws : List (List UInt8)} {b : Bool} {s : List UInt8} (hb : b = true) (h : SOut w0 W v (ws ++ [s])) : SOut w0 W v (ws ++ opt b s) := by subst hb; exact h
theorem push_len {ws : List (List UInt8)} {n : Nat} (h : ws.length ≤ n) (b : Bool) (s : List UInt8) : (ws ++ opt b s).length ≤ n + 1 := by have := opt_len b s; simp; omega
attribute [local go_sem] bit_eq bit_ne ba_append
theorem Blk.win_at {W : World} {g : Nat} {l : Leg} (h : Blk W g l.arr) : Is_win W g 9 ⟨l.lo, l.hi⟩ := by
  intro j hj
  rw [h.cell]
  match j, hj with
  | 0, _ | 1, _ => rfl
set_option maxHeartbeats 4000000 in
set_option maxRecDepth 100000 in
theorem text_any (l : Leg) (t : LegTx) (w : World) (hL : Laid w) (hl : l.small) (hT : LegTexts l t) : Calls Tryz.prog 48 #[l.val] w (Ret w (.string ⟨(legText l t).toArray⟩)) := by
  have hS := Lib.hid (legWords_small hl hT)
  go_enter Tryz.func48, Tryz.ntmps48
  go_upto_region 1 with (fail)
  have X0 := Blk.new w l.arr 36
  have B0 := (Below.refl w.heap.size w).alloc (Nat.le_refl _) (.cells l.arr 36)
  have L0 := hL.below B0
  generalize w.alloc _ = W at X0 B0 L0 ⊢
  generalize w.heap.size = g at X0 ⊢
  have i1 : Has_leg W g 0 := ⟨_, X0.is_leg⟩
  have i2 : of_leg W g 0 = l := of_leg_eq X0.is_leg
  by_cases hk : legCheck l = 0
  · have HK := Lib.hid hk
    have hcall := Lib.hid (check_any l W L0 hl)
    have hk1 : 1 ≤ l.ty ∧ l.ty ≤ 17 := by
      by_cases h : knownB l.ty = true
      · simpa [knownB] using h
      · simp [legCheck, h] at hk
    have hk0 := hk1.1
    have hk2 := hk1.2
    have hk3 : 0 ≤ l.ty ∧ l.ty < 18 := by omega
    clear hk1
    go_upto_region 3 with (go_at_call 25; refine callR hcall.out ?_; intro w1 hb1 hc1 hf1 hz1)
    clear i1 i2
    have X1 := X0.step hb1
    have B1 := below_step B0 hb1
    have L1 := L0.below hb1
    clear X0 B0 L0 hc1 hf1 hb1 hz1 hcall hk
    have c1 := X1.cell
    have c2 := X1.lt
    have hu : w1.cell? ⟨0, l.ty.toNat, none⟩ = some (.int .u16 (usesOf l.ty)) := L1.uses _ (by omega)
    have hnm : w1.cell? ⟨1, l.ty.toNat, none⟩ = some (.string ⟨(nameOf l.ty).toArray⟩) := L1.names _ (by omega)
    go_upto_region 5 with (fail)
    have O : SOut w1 (w1.alloc (.cells #[.string ⟨(nameOf l.ty).toArray⟩] 9)) (.slice (some ⟨w1.heap.size, 0, none⟩) 1 1) [nameOf l.ty] := World.ownsRow_lit w1 #[sval (nameOf l.ty)] 1 (Nat.le_refl _) (by unfold maxLen; omega) rfl
    have B : Below w1.heap.size w1 (w1.alloc (.cells #[.string ⟨(nameOf l.ty).toArray⟩] 9)) := (Below.refl w1.heap.size w1).alloc (Nat.le_refl _) _
    have q1 : ¬ 9223372036854775807 < 1 + l.center.length := by have := hl.center; omega
    have q2 : ¬ 9223372036854775807 < 1 + t.theta.length := by have := hT.small t.theta (by simp); omega
    have q3 : ¬ 9223372036854775807 < 1 + t.speed.length := by have := hT.small t.speed (by simp); omega
    have hn : [nameOf l.ty].length ≤ 1 := by simp
    clear c1 c2 hu hnm
    generalize w1.alloc _ = wa at O B ⊢
    generalize Value.slice (some ⟨w1.heap.size, 0, none⟩) 1 1 = va at O ⊢
    have c1 := (X1.step B).cell
    have c2 := (X1.step B).lt
    have hsz := B.size
    go_upto_if 21 with (fail)
    go_cut [4] (fun v wx => SOut w1 wx v ([nameOf l.ty] ++ opt (uB l.ty 1) l.fix) ∧ Below w1.heap.size w1 wx)
    case first =>
      cases hb : (uB l.ty 1)
      · go_wp2; go_meet; exact ⟨SOut.push hb O, B⟩
      · have O4 := O.alloc (.cells #[sval l.fix] 9)
        have B4 := below_step B ((Below.refl wa.heap.size wa).alloc (Nat.le_refl _) (.cells #[sval l.fix] 9))
        go_wp2_with (at_builtin; refine wpList_append_sout rfl (.tmp 22) (.tmp 25) rfl O4 rfl l.fix wa.heap.size 1 rfl (cell_of_row _ _ 0 _ _ _ (heap_alloc_new wa _)) (by omega) (by simp; omega) ?_; intro v5 W5 O5 hg5)
        go_meet; exact ⟨SOut.push1 hb O5, below_sgrown B4 O4 hg5⟩
    case rest =>
      have hn2 := push_len hn (uB l.ty 1) l.fix
      clear hn O B c1 c2 hsz
      obtain ⟨O, B⟩ := hcut
      have hn := hn2; clear hn2
      have c1 := (X1.step B).cell
      have c2 := (X1.step B).lt
      have hsz := B.size
      go_upto_if 29 with (fail)
      go_cut [4] (fun v wx => SOut w1 wx v ([nameOf l.ty] ++ opt (uB l.ty 1) l.fix ++ opt (uB l.ty 2) (64 :: l.center)) ∧ Below w1.heap.size w1 wx)
      case first =>
        cases hb : (uB l.ty 2)
        · go_wp2; go_meet; exact ⟨SOut.push hb O, B⟩
        · have O4 := O.alloc (.cells #[sval (64 :: l.center)] 9)
          have B4 := below_step B ((Below.refl wc.heap.size wc).alloc (Nat.le_refl _) (.cells #[sval (64 :: l.center)] 9))
          go_wp2_with (at_builtin; refine wpList_append_sout rfl (.tmp 30) (.tmp 34) rfl O4 rfl (64 :: l.center) wc.heap.size 1 rfl (cell_of_row _ _ 0 _ _ _ (heap_alloc_new wc _)) (by omega) (by simp; omega) ?_; intro v5 W5 O5 hg5)
          go_meet; exact ⟨SOut.push1 hb O5, below_sgrown B4 O4 hg5⟩
      case rest =>
        have hn2 := push_len hn (uB l.ty 2) (64 :: l.center)
        clear hn O B c1 c2 hsz
        obtain ⟨O, B⟩ := hcut
        have hn := hn2; clear hn2
        have c1 := (X1.step B).cell
        have c2 := (X1.step B).lt
        have hsz := B.size
        go_upto_if 38 with (fail)
        go_cut [4] (fun v wx => SOut w1 wx v ([nameOf l.ty] ++ opt (uB l.ty 1) l.fix ++ opt (uB l.ty 2) (64 :: l.center) ++ opt (uB l.ty 4) (if l.turn = 1 then [76] else [82])) ∧ Below w1.heap.size w1 wx)
        case first =>
          cases hb : (uB l.ty 4)
          · go_wp2; go_meet; exact ⟨SOut.push hb O, B⟩
          · obtain ⟨at_, ha⟩ : ∃ a, (l.turn == 1) = a := ⟨_, rfl⟩
            cases at_
            · have O4 := O.alloc (.cells #[sval [82]] 9)
              have B4 := below_step B ((Below.refl wc.heap.size wc).alloc (Nat.le_refl _) (.cells #[sval [82]] 9))
              have HE := Lib.hid (show (if l.turn = 1 then [76] else [82]) = ([82] : List UInt8) from if_neg (by simpa using ha))
              go_wp2_with (at_builtin; refine wpList_append_sout rfl (.tmp 45) (.tmp 46) rfl O4 rfl [82] wc.heap.size 1 rfl (cell_of_row _ _ 0 _ _ _ (heap_alloc_new wc _)) (by omega) (by simp; omega) ?_; intro v5 W5 O5 hg5)
              go_meet; exact ⟨SOut.push1 hb (by rw [HE.out]; exact O5), below_sgrown B4 O4 hg5⟩
            · have O4 := O.alloc (.cells #[sval [76]] 9)
              have B4 := below_step B ((Below.refl wc.heap.size wc).alloc (Nat.le_refl _) (.cells #[sval [76]] 9))
              have HE := Lib.hid (show (if l.turn = 1 then [76] else [82]) = ([76] : List UInt8) from if_pos (by simpa using ha))
              go_wp2_with (at_builtin; refine wpList_append_sout rfl (.tmp 42) (.tmp 43) rfl O4 rfl [76] wc.heap.size 1 rfl (cell_of_row _ _ 0 _ _ _ (heap_alloc_new wc _)) (by omega) (by simp; omega) ?_; intro v5 W5 O5 hg5)
              go_meet; exact ⟨SOut.push1 hb (by rw [HE.out]; exact O5), below_sgrown B4 O4 hg5⟩
        case rest =>
          have hn2 := push_len hn (uB l.ty 4) (if l.turn = 1 then [76] else [82])
          clear hn O B c1 c2 hsz
          obtain ⟨O, B⟩ := hcut
          have hn := hn2; clear hn2
          have c1 := (X1.step B).cell
          have c2 := (X1.step B).lt
          have hsz := B.size
          go_upto_if 50 with (fail)
          go_cut [4] (fun v wx => SOut w1 wx v ([nameOf l.ty] ++ opt (uB l.ty 1) l.fix ++ opt (uB l.ty 2) (64 :: l.center) ++ opt (uB l.ty 4) (if l.turn = 1 then [76] else [82]) ++ opt (uB l.ty 16) t.course) ∧ Below w1.heap.size w1 wx)
          case first =>
            cases hb : (uB l.ty 16)
            · go_wp2; go_meet; exact ⟨SOut.push hb O, B⟩
            · have hcall := Lib.hid (hT.course hb wc (L1.below B))
              go_wp2_with (first
                | (go_at_call 86; refine callR hcall.out ?_; intro w2 hb2 hc2 hf2 hz2)
                | (at_builtin; refine wpList_append_sout rfl (.tmp 51) (.tmp 55) rfl ((O.below hb2).alloc (.cells #[sval t.course] 9)) rfl t.course w2.heap.size 1 rfl (cell_of_row _ _ 0 _ _ _ (heap_alloc_new w2 _)) (by omega) (by simp; omega) ?_; intro v5 W5 O5 hg5))
              go_meet; exact ⟨SOut.push1 hb O5, below_sgrown (below_step (below_step B hb2) ((Below.refl w2.heap.size w2).alloc (Nat.le_refl _) (.cells #[sval t.course] 9))) ((O.below hb2).alloc (.cells #[sval t.course] 9)) hg5⟩
          case rest =>
            have hn2 := push_len hn (uB l.ty 16) t.course
            clear hn O B c1 c2 hsz
            obtain ⟨O, B⟩ := hcut
            have hn := hn2; clear hn2
            have c1 := (X1.step B).cell
            have c2 := (X1.step B).lt
            have hsz := B.size
            go_upto_if 59 with (fail)
            go_cut [4] (fun v wx => SOut w1 wx v ([nameOf l.ty] ++ opt (uB l.ty 1) l.fix ++ opt (uB l.ty 2) (64 :: l.center) ++ opt (uB l.ty 4) (if l.turn = 1 then [76] else [82]) ++ opt (uB l.ty 16) t.course ++ opt (uB l.ty 32) t.dist) ∧ Below w1.heap.size w1 wx)
            case first =>
              cases hb : (uB l.ty 32)
              · go_wp2; go_meet; exact ⟨SOut.push hb O, B⟩
              · have hcall := Lib.hid (hT.dist hb wc (L1.below B))
                go_wp2_with (first
                  | (go_at_call 87; refine callR hcall.out ?_; intro w2 hb2 hc2 hf2 hz2)
                  | (at_builtin; refine wpList_append_sout rfl (.tmp 60) (.tmp 64) rfl ((O.below hb2).alloc (.cells #[sval t.dist] 9)) rfl t.dist w2.heap.size 1 rfl (cell_of_row _ _ 0 _ _ _ (heap_alloc_new w2 _)) (by omega) (by simp; omega) ?_; intro v5 W5 O5 hg5))
                go_meet; exact ⟨SOut.push1 hb O5, below_sgrown (below_step (below_step B hb2) ((Below.refl w2.heap.size w2).alloc (Nat.le_refl _) (.cells #[sval t.dist] 9))) ((O.below hb2).alloc (.cells #[sval t.dist] 9)) hg5⟩
            case rest =>
              have hn2 := push_len hn (uB l.ty 32) t.dist
              clear hn O B c1 c2 hsz
              obtain ⟨O, B⟩ := hcut
              have hn := hn2; clear hn2
              have c1 := (X1.step B).cell
              have c2 := (X1.step B).lt
              have hsz := B.size
              go_upto_if 68 with (fail)
              go_cut [4] (fun v wx => SOut w1 wx v ([nameOf l.ty] ++ opt (uB l.ty 1) l.fix ++ opt (uB l.ty 2) (64 :: l.center) ++ opt (uB l.ty 4) (if l.turn = 1 then [76] else [82]) ++ opt (uB l.ty 16) t.course ++ opt (uB l.ty 32) t.dist ++ opt (uB l.ty 64) t.radius) ∧ Below w1.heap.size w1 wx)
              case first =>
                cases hb : (uB l.ty 64)
                · go_wp2; go_meet; exact ⟨SOut.push hb O, B⟩
                · have hcall := Lib.hid (hT.radius hb wc (L1.below B))
                  go_wp2_with (first
                    | (go_at_call 87; refine callR hcall.out ?_; intro w2 hb2 hc2 hf2 hz2)
                    | (at_builtin; refine wpList_append_sout rfl (.tmp 69) (.tmp 73) rfl ((O.below hb2).alloc (.cells #[sval t.radius] 9)) rfl t.radius w2.heap.size 1 rfl (cell_of_row _ _ 0 _ _ _ (heap_alloc_new w2 _)) (by omega) (by simp; omega) ?_; intro v5 W5 O5 hg5))
                  go_meet; exact ⟨SOut.push1 hb O5, below_sgrown (below_step (below_step B hb2) ((Below.refl w2.heap.size w2).alloc (Nat.le_refl _) (.cells #[sval t.radius] 9))) ((O.below hb2).alloc (.cells #[sval t.radius] 9)) hg5⟩
              case rest =>
                have hn2 := push_len hn (uB l.ty 64) t.radius
                clear hn O B c1 c2 hsz
                obtain ⟨O, B⟩ := hcut
                have hn := hn2; clear hn2
                have c1 := (X1.step B).cell
                have c2 := (X1.step B).lt
                have hsz := B.size
                go_upto_if 77 with (fail)
                go_cut [4] (fun v wx => SOut w1 wx v ([nameOf l.ty] ++ opt (uB l.ty 1) l.fix ++ opt (uB l.ty 2) (64 :: l.center) ++ opt (uB l.ty 4) (if l.turn = 1 then [76] else [82]) ++ opt (uB l.ty 16) t.course ++ opt (uB l.ty 32) t.dist ++ opt (uB l.ty 64) t.radius ++ opt (uB l.ty 128) (116 :: t.theta)) ∧ Below w1.heap.size w1 wx)
                case first =>
                  cases hb : (uB l.ty 128)
                  · go_wp2; go_meet; exact ⟨SOut.push hb O, B⟩
                  · have hcall := Lib.hid (hT.theta hb wc (L1.below B))
                    go_wp2_with (first
                      | (go_at_call 86; refine callR hcall.out ?_; intro w2 hb2 hc2 hf2 hz2)
                      | (at_builtin; refine wpList_append_sout rfl (.tmp 78) (.tmp 83) rfl ((O.below hb2).alloc (.cells #[sval (116 :: t.theta)] 9)) rfl (116 :: t.theta) w2.heap.size 1 rfl (cell_of_row _ _ 0 _ _ _ (heap_alloc_new w2 _)) (by omega) (by simp; omega) ?_; intro v5 W5 O5 hg5))
                    go_meet; exact ⟨SOut.push1 hb O5, below_sgrown (below_step (below_step B hb2) ((Below.refl w2.heap.size w2).alloc (Nat.le_refl _) (.cells #[sval (116 :: t.theta)] 9))) ((O.below hb2).alloc (.cells #[sval (116 :: t.theta)] 9)) hg5⟩
                case rest =>
                  have hn2 := push_len hn (uB l.ty 128) (116 :: t.theta)
                  clear hn O B c1 c2 hsz
                  obtain ⟨O, B⟩ := hcut
                  have hn := hn2; clear hn2
                  have c1 := (X1.step B).cell
                  have c2 := (X1.step B).lt
                  have hsz := B.size
                  go_upto_if 86 with (fail)
                  go_cut [4] (fun v wx => SOut w1 wx v ([nameOf l.ty] ++ opt (uB l.ty 1) l.fix ++ opt (uB l.ty 2) (64 :: l.center) ++ opt (uB l.ty 4) (if l.turn = 1 then [76] else [82]) ++ opt (uB l.ty 16) t.course ++ opt (uB l.ty 32) t.dist ++ opt (uB l.ty 64) t.radius ++ opt (uB l.ty 128) (116 :: t.theta) ++ opt (l.over) [111, 118, 101, 114]) ∧ Below w1.heap.size w1 wx)
                  case first =>
                    cases hb : (l.over)
                    · go_wp2; go_meet; exact ⟨SOut.push hb O, B⟩
                    · have O4 := O.alloc (.cells #[sval [111, 118, 101, 114]] 9)
                      have B4 := below_step B ((Below.refl wc.heap.size wc).alloc (Nat.le_refl _) (.cells #[sval [111, 118, 101, 114]] 9))
                      go_wp2_with (at_builtin; refine wpList_append_sout rfl (.tmp 87) (.tmp 88) rfl O4 rfl [111, 118, 101, 114] wc.heap.size 1 rfl (cell_of_row _ _ 0 _ _ _ (heap_alloc_new wc _)) (by omega) (by simp; omega) ?_; intro v5 W5 O5 hg5)
                      go_meet; exact ⟨SOut.push1 hb O5, below_sgrown B4 O4 hg5⟩
                  case rest =>
                    have hn2 := push_len hn (l.over) [111, 118, 101, 114]
                    clear hn O B c1 c2 hsz
                    obtain ⟨O, B⟩ := hcut
                    have hn := hn2; clear hn2
                    have c1 := (X1.step B).cell
                    have c2 := (X1.step B).lt
                    have hsz := B.size
                    have j1 : Has_win wc g 9 := ⟨_, (X1.step B).win_at⟩
                    have j2 : of_win wc g 9 = ⟨l.lo, l.hi⟩ := of_win_eq (X1.step B).win_at
                    go_upto_region 23 with (fail)
                    go_cut [99] (fun sv wx => sv = .bool (winB l) ∧ wc = wx)
                    case first =>
                      obtain ⟨a1, h1⟩ : ∃ a, (l.lo != -200000) = a := ⟨_, rfl⟩
                      obtain ⟨a2, h2⟩ : ∃ a, (l.hi != 6000000) = a := ⟨_, rfl⟩
                      have HB := Lib.hid (show winB l = (a1 || a2) by rw [winB, h1, h2])
                      cases a1 <;> cases a2
                      all_goals (go_wp2; all_goals (go_meet; exact ⟨by rw [HB.out]; rfl, rfl⟩))
                    case rest =>
                      obtain ⟨rfl, rfl⟩ := hcut
                      go_upto_if 99 with (fail)
                      go_cut [4] (fun v wx => SOut w1 wx v ([nameOf l.ty] ++ opt (uB l.ty 1) l.fix ++ opt (uB l.ty 2) (64 :: l.center) ++ opt (uB l.ty 4) (if l.turn = 1 then [76] else [82]) ++ opt (uB l.ty 16) t.course ++ opt (uB l.ty 32) t.dist ++ opt (uB l.ty 64) t.radius ++ opt (uB l.ty 128) (116 :: t.theta) ++ opt (l.over) [111, 118, 101, 114] ++ opt (winB l) t.win) ∧ Below w1.heap.size w1 wx)
                      case first =>
                        cases hb : (winB l)
                        · go_wp2; go_meet; exact ⟨SOut.push hb O, B⟩
                        · have hcall := Lib.hid (hT.win hb wc (L1.below B))
                          go_wp2_with (first
                            | (go_at_call 88; refine callR hcall.out ?_; intro w2 hb2 hc2 hf2 hz2)
                            | (at_builtin; refine wpList_append_sout rfl (.tmp 106) (.tmp 108) rfl ((O.below hb2).alloc (.cells #[sval t.win] 9)) rfl t.win w2.heap.size 1 rfl (cell_of_row _ _ 0 _ _ _ (heap_alloc_new w2 _)) (by omega) (by simp; omega) ?_; intro v5 W5 O5 hg5))
                          go_meet; exact ⟨SOut.push1 hb O5, below_sgrown (below_step (below_step B hb2) ((Below.refl w2.heap.size w2).alloc (Nat.le_refl _) (.cells #[sval t.win] 9))) ((O.below hb2).alloc (.cells #[sval t.win] 9)) hg5⟩
                      case rest =>
                        have hn2 := push_len hn (winB l) t.win
                        clear hn O B c1 c2 hsz j1 j2
                        obtain ⟨O, B⟩ := hcut
                        have hn := hn2; clear hn2
                        have c1 := (X1.step B).cell
                        have c2 := (X1.step B).lt
                        have hsz := B.size
                        go_upto_if 112 with (fail)
                        go_cut [4] (fun v wx => SOut w1 wx v ([nameOf l.ty] ++ opt (uB l.ty 1) l.fix ++ opt (uB l.ty 2) (64 :: l.center) ++ opt (uB l.ty 4) (if l.turn = 1 then [76] else [82]) ++ opt (uB l.ty 16) t.course ++ opt (uB l.ty 32) t.dist ++ opt (uB l.ty 64) t.radius ++ opt (uB l.ty 128) (116 :: t.theta) ++ opt (l.over) [111, 118, 101, 114] ++ opt (winB l) t.win ++ opt (l.speed != 0) (115 :: t.speed)) ∧ Below w1.heap.size w1 wx)
                        case first =>
                          cases hb : (l.speed != 0)
                          · go_wp2; go_meet; exact ⟨SOut.push hb O, B⟩
                          · have hcall := Lib.hid (hT.speed hb wc (L1.below B))
                            go_wp2_with (first
                              | (go_at_call 89; refine callR hcall.out ?_; intro w2 hb2 hc2 hf2 hz2)
                              | (at_builtin; refine wpList_append_sout rfl (.tmp 113) (.tmp 118) rfl ((O.below hb2).alloc (.cells #[sval (115 :: t.speed)] 9)) rfl (115 :: t.speed) w2.heap.size 1 rfl (cell_of_row _ _ 0 _ _ _ (heap_alloc_new w2 _)) (by omega) (by simp; omega) ?_; intro v5 W5 O5 hg5))
                            go_meet; exact ⟨SOut.push1 hb O5, below_sgrown (below_step (below_step B hb2) ((Below.refl w2.heap.size w2).alloc (Nat.le_refl _) (.cells #[sval (115 :: t.speed)] 9))) ((O.below hb2).alloc (.cells #[sval (115 :: t.speed)] 9)) hg5⟩
                        case rest =>
                          have hn2 := push_len hn (l.speed != 0) (115 :: t.speed)
                          clear hn O B c1 c2 hsz
                          obtain ⟨O, B⟩ := hcut
                          have hn := hn2; clear hn2
                          have c1 := (X1.step B).cell
                          have c2 := (X1.step B).lt
                          have hsz := B.size
                          go_upto_if 122 with (fail)
                          go_cut [4] (fun v wx => SOut w1 wx v ([nameOf l.ty] ++ opt (uB l.ty 1) l.fix ++ opt (uB l.ty 2) (64 :: l.center) ++ opt (uB l.ty 4) (if l.turn = 1 then [76] else [82]) ++ opt (uB l.ty 16) t.course ++ opt (uB l.ty 32) t.dist ++ opt (uB l.ty 64) t.radius ++ opt (uB l.ty 128) (116 :: t.theta) ++ opt (l.over) [111, 118, 101, 114] ++ opt (winB l) t.win ++ opt (l.speed != 0) (115 :: t.speed) ++ opt (l.rnp != 0) t.rnp) ∧ Below w1.heap.size w1 wx)
                          case first =>
                            cases hb : (l.rnp != 0)
                            · go_wp2; go_meet; exact ⟨SOut.push hb O, B⟩
                            · have hcall := Lib.hid (hT.rnp hb wc (L1.below B))
                              go_wp2_with (first
                                | (go_at_call 87; refine callR hcall.out ?_; intro w2 hb2 hc2 hf2 hz2)
                                | (at_builtin; refine wpList_append_sout rfl (.tmp 123) (.tmp 127) rfl ((O.below hb2).alloc (.cells #[sval t.rnp] 9)) rfl t.rnp w2.heap.size 1 rfl (cell_of_row _ _ 0 _ _ _ (heap_alloc_new w2 _)) (by omega) (by simp; omega) ?_; intro v5 W5 O5 hg5))
                              go_meet; exact ⟨SOut.push1 hb O5, below_sgrown (below_step (below_step B hb2) ((Below.refl w2.heap.size w2).alloc (Nat.le_refl _) (.cells #[sval t.rnp] 9))) ((O.below hb2).alloc (.cells #[sval t.rnp] 9)) hg5⟩
                          case rest =>
                            have hn2 := push_len hn (l.rnp != 0) t.rnp
                            clear hn O B c1 c2 hsz
                            obtain ⟨O, B⟩ := hcut
                            have hn := hn2; clear hn2
                            have c1 := (X1.step B).cell
                            have c2 := (X1.step B).lt
                            have hsz := B.size
                            obtain ⟨A5, c5, hv, hc5, hS5⟩ := O.form
                            have hwl : ([nameOf l.ty] ++ opt (uB l.ty 1) l.fix ++ opt (uB l.ty 2) (64 :: l.center) ++ opt (uB l.ty 4) (if l.turn = 1 then [76] else [82]) ++ opt (uB l.ty 16) t.course ++ opt (uB l.ty 32) t.dist ++ opt (uB l.ty 64) t.radius ++ opt (uB l.ty 128) (116 :: t.theta) ++ opt (l.over) [111, 118, 101, 114] ++ opt (winB l) t.win ++ opt (l.speed != 0) (115 :: t.speed) ++ opt (l.rnp != 0) t.rnp) = legWords l t := rfl
                            rw [hwl] at hv hc5 hS5
                            have hcall := Lib.hid (sjoin_any (legWords l t) A5 c5 [32] wc (by simp [legWords]) hS5 hc5 (by have := legWords_len l t; omega) 4000000001 hS.out (by simp))
                            have HT := Lib.hid (show legText l t = Lib.join (legWords l t) [32] by simp [legText, HK.out])
                            clear hn hwl
                            subst hv
                            go_wp2_with (go_at_call 49; refine callR hcall.out ?_; intro w2 hb2 hc2 hf2 hz2)
                            go_ret
                            exact Ret.str HT.out.symm (below_step B1 (below_step B hb2))
  · have hcall := Lib.hid (check_any l W L0 hl)
    have h0 : (legCheck l != 0) = true := by simpa using hk
    have HT := Lib.hid (show legText l t = [] by simp [legText, hk])
    clear hk
    go_wp2_with (go_at_call 25; refine callR hcall.out ?_; intro w1 hb1 hc1 hf1 hz1)
    go_ret
    exact Ret.str HT.out.symm (below_step B0 hb1)
end Go.Proofs.YtjgondadpjildaaGreatDoor
