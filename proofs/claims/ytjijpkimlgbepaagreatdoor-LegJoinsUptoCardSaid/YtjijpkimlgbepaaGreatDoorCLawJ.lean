/- The statement's function LegJoins returns true. Printed by wip/mklaw16j.py. -/
import Derived.Test.YtjijpkimlgbepaaGreatDoorPk42
import Derived.RegionTactic
import Derived.BigRegion
import Derived.ChangeAlike
namespace Go.Proofs.YtjijpkimlgbepaaGreatDoor
open Go.RowKit Go.Sort
set_option linter.unusedVariables false
set_option linter.unusedSimpArgs false
theorem joinsB_of (a b c d : Leg) (h1 : c.ty = a.ty) (h2 : c.fix = a.fix) (h3 : d.ty = b.ty) (h4 : d.fix = b.fix) : c.joinsB d = a.joinsB b := by unfold Leg.joinsB; rw [h1, h2, h3, h4]
theorem Has_leg_drew (w : World) (b o : Nat) : Has_leg w.drew b o = Has_leg w b o := propext ⟨fun h => h, fun h => h⟩
theorem of_leg_drew (w : World) (b o : Nat) : of_leg w.drew b o = of_leg w b o := rfl
theorem Plain_drew (w : World) (g : Nat) : Plain w.drew g = Plain w g := propext ⟨fun h => h, fun h => h⟩
theorem blkOf_drew (w : World) (g : Nat) : blkOf w.drew g = blkOf w g := rfl
theorem Plain_new (w : World) (cs : Array Value) (t : TypeId) : Plain (w.alloc (.cells cs t)) w.heap.size = True := eq_true (Blk.new w cs t).plain
theorem blkOf_new (w : World) (cs : Array Value) (t : TypeId) : blkOf (w.alloc (.cells cs t)) w.heap.size = cs := (Blk.new w cs t).of
theorem Plain_new2 (w : World) (a : Obj) (cs : Array Value) (t : TypeId) : Plain ((w.alloc a).alloc (.cells cs t)) (w.heap.size + 1) = True := eq_true (by have := (Blk.new (w.alloc a) cs t).plain; simpa using this)
theorem blkOf_new2 (w : World) (a : Obj) (cs : Array Value) (t : TypeId) : blkOf ((w.alloc a).alloc (.cells cs t)) (w.heap.size + 1) = cs := by have := (Blk.new (w.alloc a) cs t).of; simpa using this
theorem setRow_drew (w : World) (g : Nat) (cs : Array Value) : w.drew.setRow g cs = (w.setRow g cs).drew := rfl
theorem setRow_size (w : World) (g : Nat) (cs : Array Value) : (w.setRow g cs).heap.size = w.heap.size := by simp [World.setRow]
theorem Has_leg_far (W : World) (b o g : Nat) (cs : Array Value) (h : ¬ b = g) : Has_leg (W.setRow g cs) b o = Has_leg W b o := by
  have e : ∀ j, (W.setRow g cs).cell? ⟨b, o + j, none⟩ = W.cell? ⟨b, o + j, none⟩ := fun j => cell_far W b g (o + j) cs h
  simp only [Has_leg, Is_leg, e]
theorem of_leg_far (W : World) (b o g : Nat) (cs : Array Value) (h : ¬ b = g) (hh : Has_leg W b o) : of_leg (W.setRow g cs) b o = of_leg W b o :=
  of_leg_eq fun j hj => by rw [cell_far W b g (o + j) cs h]; exact of_leg_spec hh j hj
attribute [local go_sem] Has_leg_far of_leg_far
theorem Plain_far1 (W : World) (n : Nat) (cs : Array Value) : Plain (W.setRow (n + 1) cs) n = Plain W n := propext ⟨fun ⟨c, t, h⟩ => ⟨c, t, (setRow_other W (n + 1) n cs (by omega)).symm.trans h⟩, fun h => Plain_far W n (n + 1) cs (by omega) h⟩
theorem blkOf_far1 (W : World) (n : Nat) (cs : Array Value) : blkOf (W.setRow (n + 1) cs) n = blkOf W n := blkOf_far W n (n + 1) cs (by omega)
theorem Plain_far2 (W : World) (n : Nat) (cs : Array Value) : Plain (W.setRow n cs) (n + 1) = Plain W (n + 1) := propext ⟨fun ⟨c, t, h⟩ => ⟨c, t, (setRow_other W n (n + 1) cs (by omega)).symm.trans h⟩, fun h => Plain_far W (n + 1) n cs (by omega) h⟩
theorem blkOf_far2 (W : World) (n : Nat) (cs : Array Value) : blkOf (W.setRow n cs) (n + 1) = blkOf W (n + 1) := blkOf_far W (n + 1) n cs (by omega)
theorem Plain_old2 (w : World) (b : Obj) (cs : Array Value) (t : TypeId) : Plain ((w.alloc (.cells cs t)).alloc b) w.heap.size = True := eq_true (Plain_alloc _ _ b (by simp) (Blk.new w cs t).plain)
theorem blkOf_old2 (w : World) (b : Obj) (cs : Array Value) (t : TypeId) : blkOf ((w.alloc (.cells cs t)).alloc b) w.heap.size = cs := by rw [blkOf_alloc _ _ b (by simp)]; exact (Blk.new w cs t).of
attribute [local go_sem] Plain_far1 blkOf_far1 Plain_far2 blkOf_far2 Plain_old2 blkOf_old2 Has_leg_drew of_leg_drew Plain_drew blkOf_drew Plain_new blkOf_new Plain_new2 blkOf_new2 setRow_drew setRow_size
abbrev Z26 : Array Value := #[.int .u8 0, .string ⟨#[]⟩, .string ⟨#[]⟩, .int .u8 0, .bool false, .int .i64 0, .int .i64 0, .int .i64 0, .int .i64 0, .int .i64 0, .int .i64 0, .int .i64 0, .int .i64 0]
theorem splice_leg (o : Leg) : splice Z26 0 o.arr = o.arr := rfl
theorem two_rows (w : World) (x y : Array Value) (t : TypeId) : Blk ((((w.alloc (.cells Z26 t)).alloc (.cells Z26 t)).setRow (w.heap.size + 1) x).setRow w.heap.size y).drew w.heap.size y ∧
    Blk ((((w.alloc (.cells Z26 t)).alloc (.cells Z26 t)).setRow (w.heap.size + 1) x).setRow w.heap.size y).drew (w.heap.size + 1) x ∧
    Below w.heap.size w ((((w.alloc (.cells Z26 t)).alloc (.cells Z26 t)).setRow (w.heap.size + 1) x).setRow w.heap.size y).drew := by
  have a1 : Blk ((w.alloc (.cells Z26 t)).alloc (.cells Z26 t)) w.heap.size Z26 := (Blk.new w Z26 t).alloc _
  have a2 : Blk ((w.alloc (.cells Z26 t)).alloc (.cells Z26 t)) (w.heap.size + 1) Z26 := by have := Blk.new (w.alloc (.cells Z26 t)) Z26 t; simpa using this
  have b0 := below_step (alloc_below w (.cells Z26 t)) (alloc_below (w.alloc (.cells Z26 t)) (.cells Z26 t))
  have b1 := below_setRow' (below_setRow' b0 (show w.heap.size ≤ w.heap.size + 1 by omega) x) (Nat.le_refl _) y
  have c1 := (a1.far (g' := w.heap.size + 1) (by omega) x).set y
  have c2 := (a2.set x).far (g' := w.heap.size) (by omega) y
  exact ⟨c1, c2, b1.drew⟩
theorem two_rows' (w : World) (x y : Array Value) (t : TypeId) : Blk ((((w.alloc (.cells Z26 t)).alloc (.cells Z26 t)).setRow w.heap.size y).setRow (w.heap.size + 1) x).drew w.heap.size y ∧
    Blk ((((w.alloc (.cells Z26 t)).alloc (.cells Z26 t)).setRow w.heap.size y).setRow (w.heap.size + 1) x).drew (w.heap.size + 1) x ∧
    Below w.heap.size w ((((w.alloc (.cells Z26 t)).alloc (.cells Z26 t)).setRow w.heap.size y).setRow (w.heap.size + 1) x).drew := by
  have a1 : Blk ((w.alloc (.cells Z26 t)).alloc (.cells Z26 t)) w.heap.size Z26 := (Blk.new w Z26 t).alloc _
  have a2 : Blk ((w.alloc (.cells Z26 t)).alloc (.cells Z26 t)) (w.heap.size + 1) Z26 := by have := Blk.new (w.alloc (.cells Z26 t)) Z26 t; simpa using this
  have b0 := below_step (alloc_below w (.cells Z26 t)) (alloc_below (w.alloc (.cells Z26 t)) (.cells Z26 t))
  have b1 := below_setRow' (below_setRow' b0 (Nat.le_refl _) y) (show w.heap.size ≤ w.heap.size + 1 by omega) x
  have c1 := (a1.set y).far (g' := w.heap.size + 1) (by omega) x
  have c2 := (a2.far (g' := w.heap.size) (by omega) y).set x
  exact ⟨c1, c2, b1.drew⟩
def Leg.like (o a : Leg) : Leg := { o with ty := a.ty, fix := a.fix }
set_option maxHeartbeats 4000000 in
set_option maxRecDepth 100000 in
theorem lawLegJoins_any (a b o : Leg) (w : World) (hL : Laid w) (hO : Open16 w) (ha : a.small) (hb : b.small) (ho : o.small) : Calls Tryz.prog 8 #[a.val, b.val, o.val] w (Ret w (.bool true)) := by
  have BW := Below.refl w.heap.size w
  have LW := hL
  go_enter Tryz.func8, Tryz.ntmps8
  go_upto_region 1 with (fail)
  have Xg := Blk.new w a.arr 26
  have BW := below_step BW (alloc_below (w) (.cells a.arr 26))
  have Xk : Blk ((w.alloc (.cells a.arr 26)).alloc (.cells b.arr 26)) (w.heap.size + 1) b.arr := by have := Blk.new ((w.alloc (.cells a.arr 26))) b.arr 26; simpa using this
  have Xg := Xg.alloc (.cells b.arr 26)
  have BW := below_step BW (alloc_below ((w.alloc (.cells a.arr 26))) (.cells b.arr 26))
  have Xp : Blk (((w.alloc (.cells a.arr 26)).alloc (.cells b.arr 26)).alloc (.cells o.arr 26)) (w.heap.size + 2) o.arr := by have := Blk.new (((w.alloc (.cells a.arr 26)).alloc (.cells b.arr 26))) o.arr 26; simpa using this
  have Xg := Xg.alloc (.cells o.arr 26)
  have Xk := Xk.alloc (.cells o.arr 26)
  have BW := below_step BW (alloc_below (((w.alloc (.cells a.arr 26)).alloc (.cells b.arr 26))) (.cells o.arr 26))
  generalize (((w.alloc (.cells a.arr 26)).alloc (.cells b.arr 26)).alloc (.cells o.arr 26)) = w1 at Xg Xk Xp BW ⊢
  obtain ⟨p, ep⟩ : ∃ g, g = w.heap.size + 2 := ⟨_, rfl⟩
  have mp : w.heap.size ≤ p := by omega
  rw [← ep] at Xp ⊢
  obtain ⟨k, ek⟩ : ∃ g, g = w.heap.size + 1 := ⟨_, rfl⟩
  have mk : w.heap.size ≤ k := by omega
  have nkp : k < p := by omega
  rw [← ek] at Xk ⊢
  obtain ⟨g, eg⟩ : ∃ g, g = w.heap.size := ⟨_, rfl⟩
  have mg : w.heap.size ≤ g := by omega
  have ngk : g < k := by omega
  have ngp : g < p := by omega
  rw [← eg] at Xg ⊢
  clear eg
  clear ek
  clear ep
  have LW := hL.below BW
  have hg : Has_leg w1 g 0 := ⟨_, Xg.is_leg⟩
  have og : of_leg w1 g 0 = a := of_leg_eq Xg.is_leg
  have qg := Xg.plain
  have rg := Xg.of
  have cg := Xg.cell
  have fg := Xg.frozen
  have hk : Has_leg w1 k 0 := ⟨_, Xk.is_leg⟩
  have ok : of_leg w1 k 0 = b := of_leg_eq Xk.is_leg
  have qk := Xk.plain
  have rk := Xk.of
  have ck := Xk.cell
  have fk := Xk.frozen
  have hp : Has_leg w1 p 0 := ⟨_, Xp.is_leg⟩
  have op : of_leg w1 p 0 = o := of_leg_eq Xp.is_leg
  have qp := Xp.plain
  have rp := Xp.of
  have cp := Xp.cell
  have fp := Xp.frozen
  go_wp2_with fail
  with_reducible refine callR (awake16_any _ LW (hO.below BW)) ?_
  intro w2 b2 _ _ _
  clear hg og qg rg cg fg
  clear hk ok qk rk ck fk
  clear hp op qp rp cp fp
  have Xg := Xg.step b2
  have Xk := Xk.step b2
  have Xp := Xp.step b2
  have BW := below_step BW b2
  have LW := hL.below BW
  have hg : Has_leg w2 g 0 := ⟨_, Xg.is_leg⟩
  have og : of_leg w2 g 0 = a := of_leg_eq Xg.is_leg
  have qg := Xg.plain
  have rg := Xg.of
  have cg := Xg.cell
  have fg := Xg.frozen
  have hk : Has_leg w2 k 0 := ⟨_, Xk.is_leg⟩
  have ok : of_leg w2 k 0 = b := of_leg_eq Xk.is_leg
  have qk := Xk.plain
  have rk := Xk.of
  have ck := Xk.cell
  have fk := Xk.frozen
  have hp : Has_leg w2 p 0 := ⟨_, Xp.is_leg⟩
  have op : of_leg w2 p 0 = o := of_leg_eq Xp.is_leg
  have qp := Xp.plain
  have rp := Xp.of
  have cp := Xp.cell
  have fp := Xp.frozen
  obtain ⟨fo, h1⟩ : ∃ x, followsB a.ty b.ty = x := ⟨_, rfl⟩
  obtain ⟨fr, h2⟩ : ∃ x, fromB b.ty = x := ⟨_, rfl⟩
  have HB := Lib.hid (show a.joinsB b = (fo && (!fr || a.fix == b.fix)) by rw [Leg.joinsB, h1, h2])
  have k1 := Lib.hid (fun W => h1 ▸ follows_any a.ty b.ty W)
  have k2 := Lib.hid (fun W => h2 ▸ from_any b.ty W)
  clear h1 h2
  obtain ⟨jb, hj⟩ : ∃ x, a.joinsB b = x := ⟨_, rfl⟩
  have HJ := Lib.hid hj; clear hj
  go_upto_region 3 with (fail)
  go_cut [7] (fun s wx => s = .bool jb ∧ w2 = wx)
  case first =>
    cases fo <;> cases fr
    all_goals
      go_wp2_with (first | (go_at_call 18; ((with_reducible refine callP (k1.out _) ?_))) | (go_at_call 19; ((with_reducible refine callP (k2.out _) ?_))))
      all_goals (go_meet; exact ⟨by rw [← HJ.out, HB.out]; first | rfl | (simp; done) | grind, rfl⟩)
  case rest =>
    obtain ⟨rfl, rfl⟩ := hcut
    go_upto_region 4 with (fail)
    clear hg og qg rg cg fg
    clear hk ok qk rk ck fk
    clear hp op qp rp cp fp
    have i1 : ∀ d os, Has_leg (grow (redrawn w2 d) os) g 0 := fun d os => ⟨_, (Xg.step (below_regrown w2 d os)).is_leg⟩
    have i2 : ∀ d os, of_leg (grow (redrawn w2 d) os) g 0 = a := fun d os => of_leg_eq (Xg.step (below_regrown w2 d os)).is_leg
    have i3 : ∀ d os, Has_leg (grow (redrawn w2 d) os) k 0 := fun d os => ⟨_, (Xk.step (below_regrown w2 d os)).is_leg⟩
    have i4 : ∀ d os, of_leg (grow (redrawn w2 d) os) k 0 = b := fun d os => of_leg_eq (Xk.step (below_regrown w2 d os)).is_leg
    have c1 : ∀ d os, Calls Tryz.prog 20 #[.agg a.arr, .agg b.arr] (grow (redrawn w2 d) os) fun e w'' => e = .returned (.bool jb) ∧ ∃ q : Regrown, w'' = grow (redrawn w2 q.d) q.os := fun d os => Calls.regrown_ret (HJ.out ▸ joins_any a b _)
    have c2 : ∀ d os, Calls Tryz.prog 21 #[.agg a.arr, .agg b.arr] (grow (redrawn w2 d) os) fun e w'' => e = .returned (.bool jb) ∧ ∃ q : Regrown, w'' = grow (redrawn w2 q.d) q.os := fun d os => Calls.regrown_ret (HJ.out ▸ rjoins_any a b _)
    go_cut [43] (fun s wx => s = .bool false ∧ Below w2.heap.size w2 wx)
    case first =>
      cases jb
      all_goals
        refine wp_region_quiet_below (by kernel_rfl) (by kernel_rfl) ?_
        repeat (quiet_step (with_reducible first | exact c1 _ _ | exact c2 _ _))
        refine wpQuiet_nil ?_
        intro _ hw'
        obtain ⟨⟨dq, osq⟩, hw''⟩ := hw'
        subst hw''
        go_wp2
        go_meet
        exact ⟨rfl, below_regrown w2 dq osq⟩
    case rest =>
      obtain ⟨rfl, B2⟩ := hcut
      clear i1 i2 i3 i4 c1 c2
      have Xg := Xg.step B2; have Xk := Xk.step B2; have Xp := Xp.step B2
      have BW := below_step BW B2
      have LW := hL.below BW
      clear B2
      have hp : Has_leg wc p 0 := ⟨_, Xp.is_leg⟩
      have op : of_leg wc p 0 = o := of_leg_eq Xp.is_leg
      have np : p < wc.heap.size := Xp.lt
      have np2 : p < wc.heap.size + 1 := by omega
      have np3 : ¬ p = wc.heap.size := by omega
      have np4 : ¬ p = wc.heap.size + 1 := by omega
      go_upto_region 6 with (fail)
      go_cut [8, 9] (fun s t wx => ∃ m n, s = .pointer (some ⟨m, 0, none⟩) ∧ t = .pointer (some ⟨n, 0, none⟩) ∧ m ≠ n ∧ wc.heap.size ≤ m ∧ wc.heap.size ≤ n ∧ Blk wx m o.arr ∧ Blk wx n o.arr ∧ Below wc.heap.size wc wx)
      case first =>
        go_region
        all_goals (go_wp2; go_meet; first
          | exact ⟨_, _, rfl, rfl, by omega, by omega, by omega, (two_rows wc o.arr o.arr 26).1, (two_rows wc o.arr o.arr 26).2.1, (two_rows wc o.arr o.arr 26).2.2⟩
          | exact ⟨_, _, rfl, rfl, by omega, by omega, by omega, (two_rows wc o.arr o.arr 26).2.1, (two_rows wc o.arr o.arr 26).1, (two_rows wc o.arr o.arr 26).2.2⟩
          | exact ⟨_, _, rfl, rfl, by omega, by omega, by omega, (two_rows' wc o.arr o.arr 26).1, (two_rows' wc o.arr o.arr 26).2.1, (two_rows' wc o.arr o.arr 26).2.2⟩
          | exact ⟨_, _, rfl, rfl, by omega, by omega, by omega, (two_rows' wc o.arr o.arr 26).2.1, (two_rows' wc o.arr o.arr 26).1, (two_rows' wc o.arr o.arr 26).2.2⟩)
      case rest =>
        obtain ⟨m, n, rfl, rfl, hmn, hm, hn, Xm, Xn, B2⟩ := hcut
        clear hp op np2 np3 np4
        have ngm : ¬ g = m := by have := Xg.lt; omega
        have ngn : ¬ g = n := by have := Xg.lt; omega
        have mgm : ¬ m = g := fun h => ngm h.symm
        have mgn : ¬ n = g := fun h => ngn h.symm
        have nkm : ¬ k = m := by have := Xk.lt; omega
        have nkn : ¬ k = n := by have := Xk.lt; omega
        have mkm : ¬ m = k := fun h => nkm h.symm
        have mkn : ¬ n = k := fun h => nkn h.symm
        have Xg := Xg.step B2; have Xk := Xk.step B2
        have wm : w.heap.size ≤ m := by have := BW.size; omega
        have wn : w.heap.size ≤ n := by have := BW.size; omega
        have BW := below_step BW B2
        have hnm : ¬ n = m := fun h => hmn h.symm
        clear B2 hm hn np Xp
        have cg := Xg.cell
        have fg := Xg.frozen
        have ck := Xk.cell
        have fk := Xk.frozen
        have cm := Xm.cell
        have fm := Xm.frozen
        have cn := Xn.cell
        have fn := Xn.frozen
        go_upto_region 7 with (fail)
        go_region
        clear cg fg ck fk cm fm cn fn
        have BW := (below_setCell (below_setCell BW wm 0 (.int .u8 a.ty)) wm 1 (.string ⟨a.fix.toArray⟩)).drew
        have Xg : Blk ((wc.setCell ⟨m, 0, none⟩ (.int .u8 a.ty)).setCell ⟨m, 1, none⟩ (.string ⟨a.fix.toArray⟩)).drew g a.arr := (Xg.setFar (g' := m) ngm 0 (.int .u8 a.ty)).setFar (g' := m) ngm 1 (.string ⟨a.fix.toArray⟩)
        have Xk : Blk ((wc.setCell ⟨m, 0, none⟩ (.int .u8 a.ty)).setCell ⟨m, 1, none⟩ (.string ⟨a.fix.toArray⟩)).drew k b.arr := (Xk.setFar (g' := m) nkm 0 (.int .u8 a.ty)).setFar (g' := m) nkm 1 (.string ⟨a.fix.toArray⟩)
        have Xn : Blk ((wc.setCell ⟨m, 0, none⟩ (.int .u8 a.ty)).setCell ⟨m, 1, none⟩ (.string ⟨a.fix.toArray⟩)).drew n o.arr := (Xn.setFar (g' := m) hnm 0 (.int .u8 a.ty)).setFar (g' := m) hnm 1 (.string ⟨a.fix.toArray⟩)
        have Xm : Blk ((wc.setCell ⟨m, 0, none⟩ (.int .u8 a.ty)).setCell ⟨m, 1, none⟩ (.string ⟨a.fix.toArray⟩)).drew m (o.like a).arr := (Xm.setCell 0 (.int .u8 a.ty)).setCell 1 (.string ⟨a.fix.toArray⟩)
        generalize ((wc.setCell ⟨m, 0, none⟩ (.int .u8 a.ty)).setCell ⟨m, 1, none⟩ (.string ⟨a.fix.toArray⟩)).drew = w8 at Xg Xk Xm Xn BW ⊢
        have ck := Xk.cell
        have fk := Xk.frozen
        have cm := Xm.cell
        have fm := Xm.frozen
        have cn := Xn.cell
        have fn := Xn.frozen
        go_upto_region 8 with (fail)
        go_region
        clear ck fk cm fm cn fn
        have BW := (below_setCell (below_setCell BW wn 0 (.int .u8 b.ty)) wn 1 (.string ⟨b.fix.toArray⟩)).drew
        have Xm : Blk ((w8.setCell ⟨n, 0, none⟩ (.int .u8 b.ty)).setCell ⟨n, 1, none⟩ (.string ⟨b.fix.toArray⟩)).drew m (o.like a).arr := (Xm.setFar (g' := n) hmn 0 (.int .u8 b.ty)).setFar (g' := n) hmn 1 (.string ⟨b.fix.toArray⟩)
        have Xn : Blk ((w8.setCell ⟨n, 0, none⟩ (.int .u8 b.ty)).setCell ⟨n, 1, none⟩ (.string ⟨b.fix.toArray⟩)).drew n (o.like b).arr := (Xn.setCell 0 (.int .u8 b.ty)).setCell 1 (.string ⟨b.fix.toArray⟩)
        generalize ((w8.setCell ⟨n, 0, none⟩ (.int .u8 b.ty)).setCell ⟨n, 1, none⟩ (.string ⟨b.fix.toArray⟩)).drew = w9 at Xm Xn BW ⊢
        have im : Has_leg w9 m 0 := ⟨_, Xm.is_leg⟩
        have om : of_leg w9 m 0 = o.like a := of_leg_eq Xm.is_leg
        have inn : Has_leg w9 n 0 := ⟨_, Xn.is_leg⟩
        have on_ : of_leg w9 n 0 = o.like b := of_leg_eq Xn.is_leg
        have hc := joins_any (o.like a) (o.like b) w9
        rw [joinsB_of a b (o.like a) (o.like b) rfl rfl rfl rfl, HJ.out] at hc
        have KC := Lib.hid hc; clear hc
        go_wp2_with fail
        with_reducible refine callR KC.out ?_
        intro w10 b10 _ _ _
        go_wp2
        go_ret
        exact Ret.bool (by simp) (below_step BW b10)
end Go.Proofs.YtjijpkimlgbepaaGreatDoor
