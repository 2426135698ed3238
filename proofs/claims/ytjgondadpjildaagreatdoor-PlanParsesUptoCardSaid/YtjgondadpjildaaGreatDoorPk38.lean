/- The reference's put: a word into the field of a letter; what fits is what the program accepts. -/
import Derived.Test.YtjgondadpjildaaGreatDoorPk37
import Derived.Test.YtjgondadpjildaaGreatDoorPk32
import Derived.RegionTactic
import Derived.BigRegion
import Derived.ChangeAlike
namespace Go.Proofs.YtjgondadpjildaaGreatDoor
open Go.RowKit Go.Sort
set_option linter.unusedVariables false
set_option linter.unusedSimpArgs false
set_option maxRecDepth 100000
/-- The call answers whether the word fits; if so, the leg in block lb is the one with the word. -/
def RetPut (lb : Nat) (W : World) (q : Leg × Bool) (e : Ending) (w' : World) : Prop := ∃ l' : Leg, e = .returned (.bool q.2) ∧ Touch [lb] W w' ∧ Blk w' lb l'.arr ∧ (q.2 = true → l' = q.1)
theorem RetPut.mk {lb : Nat} {W w' : World} {q : Leg × Bool} {b : Bool} (l' : Leg) (h : q.2 = b) (t : Touch [lb] W w') (hb : Blk w' lb l'.arr) (hl : b = true → l' = q.1) : RetPut lb W q (.returned (.bool b)) w' :=
  ⟨l', by rw [h], t, hb, fun hq => hl (by rw [← h]; exact hq)⟩
abbrev PutIs (c : Int) (f : Acc) : Prop := ∀ (W : World) (lb : Nat) (s : List UInt8) (l : Leg), Blk W lb l.arr → s.length ≤ 4000000000 → Calls Tryz.prog 139 #[.pointer (some ⟨lb, 0, none⟩), .int .u8 c, .string ⟨s.toArray⟩] W (RetPut lb W (f s l))
theorem tset (lb : Nat) (W : World) (k : Nat) (v : Value) : Touch [lb] W (W.setCell ⟨lb, k, none⟩ v) := Touch.setCell [lb] W (by simp) k v
set_option maxHeartbeats 4000000 in
theorem put_fix : PutIs 70 accFix := fun W lb s l hb hs => by
  have c1 := hb.cell 1
  have f1 := hb.frozen 1
  have HA := Lib.hid (show accFix s l = ({ l with fix := s }, refB s) from rfl)
  have k1 := Lib.hid (fun W => risRef_any s W hs)
  generalize accFix s l = q at HA ⊢
  generalize refB s = b at k1 HA
  go_enter Tryz.func139, Tryz.ntmps139
  go_wp2_with fail
  with_reducible refine callQ (k1.out _) ?_
  intro n1
  go_wp2
  go_ret
  exact RetPut.mk ({ l with fix := s } : Leg) (by rw [HA.out]) ((Touch.refl [lb] W).drewN n1 |>.trans (tset lb _ 1 _)) ((show Blk (W.drewN n1) lb l.arr from hb).setCell 1 _) (fun _ => by rw [HA.out])
set_option maxHeartbeats 4000000 in
theorem put_center : PutIs 67 accCenter := fun W lb s l hb hs => by
  have c1 := hb.cell 2
  have f1 := hb.frozen 2
  match s, hs with
  | [], hs =>
    go_enter Tryz.func139, Tryz.ntmps139
    go_wp2
    go_ret
    exact RetPut.mk l rfl (Touch.refl _ _) hb (fun h => by cases h)
  | x :: r, hs =>
    by_cases hx : x = 64
    · subst hx
      have HA := Lib.hid (show accCenter (64 :: r) l = ({ l with center := r }, refB r) from by simp [accCenter, cutPre])
      have k1 := Lib.hid (fun W => risRef_any r W (by simp at hs; omega))
      generalize accCenter (64 :: r) l = q at HA ⊢
      generalize refB r = b at k1 HA
      cases b
      · go_enter Tryz.func139, Tryz.ntmps139
        go_wp2_with fail
        with_reducible refine callQ (k1.out _) ?_
        intro n1
        go_wp2
        go_ret
        exact RetPut.mk l (by rw [HA.out]) ((Touch.refl [lb] W).drewN n1) hb (fun h => by cases h)
      · go_enter Tryz.func139, Tryz.ntmps139
        go_wp2_with fail
        with_reducible refine callQ (k1.out _) ?_
        intro n1
        go_wp2
        go_ret
        exact RetPut.mk ({ l with center := r } : Leg) (by rw [HA.out]) ((Touch.refl [lb] W).drewN n1 |>.trans (tset lb _ 2 _)) ((show Blk (W.drewN n1) lb l.arr from hb).setCell 2 _) (fun _ => by rw [HA.out])
    · have e1 : ((x.toNat : Int) == 64) = false := u8_ne (d := 64) hx
      have HA := Lib.hid (show (accCenter (x :: r) l).2 = false from by unfold accCenter cutPre; simp [hx])
      clear hx
      generalize accCenter (x :: r) l = q at HA ⊢
      go_enter Tryz.func139, Tryz.ntmps139
      go_wp2
      go_ret
      exact RetPut.mk l HA.out (Touch.refl _ _) hb (fun h => by cases h)
set_option maxHeartbeats 4000000 in
theorem put_turn : PutIs 84 accTurn := fun W lb s l hb hs => by
  have c1 := hb.cell 3
  have f1 := hb.frozen 3
  have HA := Lib.hid (show accTurn s l = ({ l with turn := if s = [76] then 1 else 2 }, s == [76] || s == [82]) from rfl)
  generalize accTurn s l = q at HA ⊢
  by_cases h1 : s = [76]
  · subst h1
    go_enter Tryz.func139, Tryz.ntmps139
    go_wp2
    go_ret
    exact RetPut.mk ({ l with turn := 1 } : Leg) (by rw [HA.out]; rfl) (tset lb _ 3 _) (hb.setCell 3 _) (fun _ => by rw [HA.out]; rfl)
  · by_cases h2 : s = [82]
    · subst h2
      go_enter Tryz.func139, Tryz.ntmps139
      go_wp2
      go_ret
      exact RetPut.mk ({ l with turn := 2 } : Leg) (by rw [HA.out]; rfl) ((tset lb _ 3 _).trans (tset lb _ 3 _)) ((hb.setCell 3 _).setCell 3 _) (fun _ => by rw [HA.out]; rfl)
    · have e1 : (s == [76]) = false := by simpa using h1
      have e2 : (s == [82]) = false := by simpa using h2
      have HO := Lib.hid (show q.2 = false from by rw [HA.out]; simp [h1, h2])
      clear h1 h2
      go_enter Tryz.func139, Tryz.ntmps139
      go_wp2
      go_ret
      exact RetPut.mk ({ l with turn := 1 } : Leg) HO.out (tset lb _ 3 _) (hb.setCell 3 _) (fun h => by cases h)
set_option maxHeartbeats 4000000 in
theorem put_course : PutIs 75 accCourse := fun W lb s l hb hs => by
  have c1 := hb.cell 5
  have f1 := hb.frozen 5
  have HA := Lib.hid (show accCourse s l = ({ l with course := (courseS s).1 }, (courseS s).2) from rfl)
  have k1 := Lib.hid (fun W => rcourse_any s 0 W hs (by omega) (by omega))
  simp only [List.drop_zero] at k1
  generalize accCourse s l = q at HA ⊢
  generalize courseS s = p at HA k1
  obtain ⟨v, b⟩ := p
  go_enter Tryz.func139, Tryz.ntmps139
  go_wp2_with fail
  with_reducible refine callP (k1.out _) ?_
  go_wp2
  go_ret
  exact RetPut.mk ({ l with course := v } : Leg) (by rw [HA.out]) (tset lb _ 5 _) (hb.setCell 5 _) (fun _ => by rw [HA.out])
set_option maxHeartbeats 4000000 in
theorem put_theta : PutIs 72 accTheta := fun W lb s l hb hs => by
  have c1 := hb.cell 8
  have f1 := hb.frozen 8
  match s, hs with
  | [], hs =>
    go_enter Tryz.func139, Tryz.ntmps139
    go_wp2
    go_ret
    exact RetPut.mk l rfl (Touch.refl _ _) hb (fun h => by cases h)
  | x :: r, hs =>
    by_cases hx : x = 116
    · subst hx
      have HA := Lib.hid (show accTheta (116 :: r) l = ({ l with theta := (courseS r).1 }, (courseS r).2) from by unfold accTheta; simp)
      have k1 := Lib.hid (fun W => rcourse_any (116 :: r) 1 W hs (by omega) (by simp))
      simp only [List.drop_succ_cons, List.drop_zero] at k1
      generalize accTheta (116 :: r) l = q at HA ⊢
      generalize courseS r = p at HA k1
      obtain ⟨v, b⟩ := p
      go_enter Tryz.func139, Tryz.ntmps139
      go_wp2_with fail
      with_reducible refine callP (k1.out _) ?_
      go_wp2
      go_ret
      exact RetPut.mk ({ l with theta := v } : Leg) (by rw [HA.out]) (tset lb _ 8 _) (hb.setCell 8 _) (fun _ => by rw [HA.out])
    · have e1 : ((x.toNat : Int) == 116) = false := u8_ne (d := 116) hx
      have HA := Lib.hid (show (accTheta (x :: r) l).2 = false from by unfold accTheta; simp [hx])
      clear hx
      generalize accTheta (x :: r) l = q at HA ⊢
      go_enter Tryz.func139, Tryz.ntmps139
      go_wp2
      go_ret
      exact RetPut.mk l HA.out (Touch.refl _ _) hb (fun h => by cases h)
set_option maxHeartbeats 4000000 in
theorem put_dist : PutIs 68 accDist := fun W lb s l hb hs => by
  have c1 := hb.cell 6
  have f1 := hb.frozen 6
  have HA := Lib.hid (show accDist s l = ({ l with dist := (legDistS 100 s).1 }, (legDistS 100 s).2) from rfl)
  have k1 : Hid (∀ W, Calls Tryz.prog 197 #[.string ⟨s.toArray⟩, .int .u8 100] W (RetQ W (numVal (legDistS 100 s)))) := Lib.hid (fun W => rdistance_any 100 s W hs)
  generalize accDist s l = q at HA ⊢
  generalize legDistS 100 s = p at HA k1
  obtain ⟨v, b⟩ := p
  go_enter Tryz.func139, Tryz.ntmps139
  go_wp2_with fail
  with_reducible refine callQ (k1.out _) ?_
  intro n1
  go_wp2
  go_ret
  exact RetPut.mk ({ l with dist := v } : Leg) (by rw [HA.out]) ((Touch.refl [lb] W).drewN n1 |>.trans (tset lb _ 6 _)) ((show Blk (W.drewN n1) lb l.arr from hb).setCell 6 _) (fun _ => by rw [HA.out])
set_option maxHeartbeats 4000000 in
theorem put_radius : PutIs 82 accRadius := fun W lb s l hb hs => by
  have c1 := hb.cell 7
  have f1 := hb.frozen 7
  have HA := Lib.hid (show accRadius s l = ({ l with radius := (legDistS 114 s).1 }, (legDistS 114 s).2) from rfl)
  have k1 : Hid (∀ W, Calls Tryz.prog 197 #[.string ⟨s.toArray⟩, .int .u8 114] W (RetQ W (numVal (legDistS 114 s)))) := Lib.hid (fun W => rdistance_any 114 s W hs)
  generalize accRadius s l = q at HA ⊢
  generalize legDistS 114 s = p at HA k1
  obtain ⟨v, b⟩ := p
  go_enter Tryz.func139, Tryz.ntmps139
  go_wp2_with fail
  with_reducible refine callQ (k1.out _) ?_
  intro n1
  go_wp2
  go_ret
  exact RetPut.mk ({ l with radius := v } : Leg) (by rw [HA.out]) ((Touch.refl [lb] W).drewN n1 |>.trans (tset lb _ 7 _)) ((show Blk (W.drewN n1) lb l.arr from hb).setCell 7 _) (fun _ => by rw [HA.out])
set_option maxHeartbeats 4000000 in
theorem put_rnp : PutIs 110 accRnp := fun W lb s l hb hs => by
  have c1 := hb.cell 12
  have f1 := hb.frozen 12
  have HA := Lib.hid (show accRnp s l = if (legDistS 110 s).2 then ({ l with rnp := (legDistS 110 s).1 }, true) else (l, false) from rfl)
  have k1 : Hid (∀ W, Calls Tryz.prog 197 #[.string ⟨s.toArray⟩, .int .u8 110] W (RetQ W (numVal (legDistS 110 s)))) := Lib.hid (fun W => rdistance_any 110 s W hs)
  generalize accRnp s l = q at HA ⊢
  generalize legDistS 110 s = p at HA k1
  obtain ⟨v, b⟩ := p
  go_enter Tryz.func139, Tryz.ntmps139
  go_wp2_with fail
  with_reducible refine callQ (k1.out _) ?_
  intro n1
  go_wp2
  go_ret
  exact RetPut.mk ({ l with rnp := v } : Leg) (by rw [HA.out]; cases b <;> rfl) ((Touch.refl [lb] W).drewN n1 |>.trans (tset lb _ 12 _)) ((show Blk (W.drewN n1) lb l.arr from hb).setCell 12 _) (fun h => by subst h; rw [HA.out]; rfl)
set_option maxHeartbeats 4000000 in
theorem put_speed : PutIs 115 accSpeed := fun W lb s l hb hs => by
  have c1 := hb.cell 11
  have f1 := hb.frozen 11
  have HA := Lib.hid (show accSpeed s l = if (speedS s).2 then ({ l with speed := (speedS s).1 }, true) else (l, false) from rfl)
  have k1 := Lib.hid (fun W => rspeed_any s W)
  generalize accSpeed s l = q at HA ⊢
  generalize speedS s = p at HA k1
  obtain ⟨v, b⟩ := p
  go_enter Tryz.func139, Tryz.ntmps139
  go_wp2_with fail
  with_reducible refine callP (k1.out _) ?_
  go_wp2
  go_ret
  exact RetPut.mk ({ l with speed := v } : Leg) (by rw [HA.out]; cases b <;> rfl) (tset lb _ 11 _) (hb.setCell 11 _) (fun h => by subst h; rw [HA.out]; rfl)
set_option maxHeartbeats 4000000 in
theorem put_over : PutIs 111 accOver := fun W lb s l hb hs => by
  have c1 := hb.cell 4
  have f1 := hb.frozen 4
  have HA := Lib.hid (show accOver s l = ({ l with over := s == [111, 118, 101, 114] }, s == [111, 118, 101, 114]) from rfl)
  generalize accOver s l = q at HA ⊢
  by_cases h1 : s = [111, 118, 101, 114]
  · subst h1
    go_enter Tryz.func139, Tryz.ntmps139
    go_wp2
    go_ret
    exact RetPut.mk ({ l with over := true } : Leg) (by rw [HA.out]; rfl) (tset lb _ 4 _) (hb.setCell 4 _) (fun _ => by rw [HA.out]; rfl)
  · have e1 : (s == [111, 118, 101, 114]) = false := by simpa using h1
    have HO := Lib.hid (show q.2 = false from by rw [HA.out]; simpa using h1)
    clear h1
    go_enter Tryz.func139, Tryz.ntmps139
    go_wp2
    go_ret
    exact RetPut.mk ({ l with over := true } : Leg) HO.out (tset lb _ 4 _) (hb.setCell 4 _) (fun h => by cases h)
theorem leg_win (l : Leg) (lo hi : Int) : splice l.arr 9 #[.int .i64 lo, .int .i64 hi] = ({ l with lo := lo, hi := hi } : Leg).arr := rfl
theorem fits_leg_win (l : Leg) : Fits 9 2 l.arr = True := eq_true (by unfold Fits; rw [Leg.arr_size]; omega)
theorem Has_win_far (W : World) (b o g : Nat) (cs : Array Value) (h : ¬ b = g) : Has_win (W.setRow g cs) b o = Has_win W b o := by
  have e : ∀ j, (W.setRow g cs).cell? ⟨b, o + j, none⟩ = W.cell? ⟨b, o + j, none⟩ := fun j => cell_far W b g (o + j) cs h
  simp only [Has_win, Is_win, e]
theorem of_win_far (W : World) (b o g : Nat) (cs : Array Value) (h : ¬ b = g) (hh : Has_win W b o) : of_win (W.setRow g cs) b o = of_win W b o :=
  of_win_eq fun j hj => by rw [cell_far W b g (o + j) cs h]; exact of_win_spec hh j hj
theorem Has_win_drew (w : World) (b o : Nat) : Has_win w.drew b o = Has_win w b o := propext ⟨fun h => h, fun h => h⟩
theorem of_win_drew (w : World) (b o : Nat) : of_win w.drew b o = of_win w b o := rfl
theorem Plain_drewP (w : World) (g : Nat) : Plain w.drew g = Plain w g := propext ⟨fun h => h, fun h => h⟩
theorem blkOf_drewP (w : World) (g : Nat) : blkOf w.drew g = blkOf w g := rfl
theorem setRow_drewP (w : World) (g : Nat) (cs : Array Value) : w.drew.setRow g cs = (w.setRow g cs).drew := rfl
attribute [local go_sem] wmk Has_win_far of_win_far Has_win_drew of_win_drew Plain_drewP blkOf_drewP setRow_drewP
set_option maxHeartbeats 8000000 in
theorem put_win : PutIs 65 accWin := fun W lb s l hb hs => by
  obtain ⟨hsame, hval⟩ := rwin_same s
  have HA := Lib.hid (show accWin s l = if winTaken s then ({ l with lo := (parseWinS s).1.1, hi := (parseWinS s).1.2 }, true) else (l, false) from rfl)
  have HT := Lib.hid (show winTaken s = ((rparseWinS s).2 == 0 && !((rparseWinS s).1.1 == -200000 && (rparseWinS s).1.2 == 6000000)) from by
    unfold winTaken
    by_cases h : (rparseWinS s).2 = 0
    · rw [hval h, h, hsame.1 h]
    · have h2 : ¬ (parseWinS s).2 = 0 := fun h3 => h (hsame.2 h3)
      have e1 : ((parseWinS s).2 == 0) = false := by simpa using h2
      have e2 : ((rparseWinS s).2 == 0) = false := by simpa using h
      rw [e1, e2]; rfl)
  have HV := Lib.hid (show (rparseWinS s).2 = 0 → (parseWinS s).1 = (rparseWinS s).1 from fun h => (hval h).symm)
  have k1 := Lib.hid (fun W => rparseWindow_any s W hs)
  clear hsame hval
  generalize accWin s l = q at HA ⊢
  generalize winTaken s = b at HA HT
  generalize rparseWinS s = p at HT HV k1
  generalize (parseWinS s).1 = v at HA HV
  obtain ⟨⟨lo, hi⟩, e⟩ := p
  simp only at HT HV
  go_enter Tryz.func139, Tryz.ntmps139
  go_wp2_with fail
  with_reducible refine callR (k1.out _) ?_
  intro w1 b1 _ _ _
  have X0 := hb.step b1
  go_upto_region 27 with (fail)
  have Y := Blk.new w1 #[.int .i64 lo, .int .i64 hi] 34
  have X := X0.alloc (.cells #[.int .i64 lo, .int .i64 hi] 34)
  have hne : lb < w1.heap.size := X0.lt
  have T1 : Touch [lb] W (w1.alloc (.cells #[.int .i64 lo, .int .i64 hi] 34)) := (Touch.of b1).trans (Touch.of (alloc_below w1 _))
  clear X0 b1 k1
  generalize w1.alloc _ = w2 at X Y T1 ⊢
  generalize w1.heap.size = g2 at Y hne ⊢
  have ng : ¬ g2 = lb := by omega
  have c4 : Has_win w2 g2 0 := ⟨⟨lo, hi⟩, Y.is_win⟩
  have c5 : of_win w2 g2 0 = ⟨lo, hi⟩ := of_win_eq Y.is_win
  have d2 := X.plain
  have d3 := X.of
  have F := fits_leg_win l
  have N1 := fun w => run_neq_win ⟨lo, hi⟩ ⟨-200000, 6000000⟩ w
  simp only [wmk] at N1
  obtain ⟨nb, hnb⟩ : ∃ nb, (!Win.eqB ⟨lo, hi⟩ ⟨-200000, 6000000⟩) = nb := ⟨_, rfl⟩
  rw [hnb] at N1
  have HNB := Lib.hid (show nb = !(lo == -200000 && hi == 6000000) from by rw [← hnb]; unfold Win.eqB; simp only [Bool.beq_eq_decide_eq])
  clear hnb
  have XF : Blk ((w2.setRow lb (splice l.arr 9 #[.int .i64 lo, .int .i64 hi])).drew) lb ({ l with lo := lo, hi := hi } : Leg).arr := X.set _
  have TF : Touch [lb] W ((w2.setRow lb (splice l.arr 9 #[.int .i64 lo, .int .i64 hi])).drew) := by
    refine (T1.trans ⟨rfl, rfl, rfl, ?_, fun k hk hn => ?_⟩)
    · show w2.heap.size ≤ (w2.setRow lb _).heap.size
      simp [World.setRow]
    · exact setRow_other w2 lb k _ (fun e => hn (by simp [e]))
  by_cases he : e = 0
  · subst he
    have HB := Lib.hid (show nb = b from by rw [HT.out, HNB.out]; simp)
    have HV2 := Lib.hid (HV.out rfl)
    clear HT HNB HV
    go_region
    go_wp2
    go_ret
    refine RetPut.mk ({ l with lo := lo, hi := hi } : Leg) ?_ TF XF ?_
    · rw [HA.out, ← HB.out]; cases nb <;> rfl
    · intro h; rw [HA.out, ← HB.out, h, HV2.out]; rfl
  · have e3 : (e == 0) = false := by simpa using he
    have HB := Lib.hid (show b = false from by rw [HT.out, e3]; rfl)
    clear HT HNB HV he
    go_region
    go_wp2
    go_ret
    exact RetPut.mk ({ l with lo := lo, hi := hi } : Leg) (by rw [HA.out, HB.out]; rfl) TF XF (fun h => by cases h)
end Go.Proofs.YtjgondadpjildaaGreatDoor
