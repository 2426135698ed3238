/- The reference's put: a word into the field of a letter; what fits is what the program accepts. The reference's order of reading, in plain Lean: fields one by one, options word by word; it comes to what the program reads. -/
import Derived.Test.YtjijpkimlgbepaaGreatDoorRc
import Derived.Test.YtjijpkimlgbepaaGreatDoorPk36
import Derived.RegionTactic
import Derived.BigRegion
import Derived.ChangeAlike
import Derived.Test.YtjijpkimlgbepaaGreatDoorPk45
import Derived.Test.YtjijpkimlgbepaaGreatDoorRa
import Derived.Test.YtjijpkimlgbepaaGreatDoorPk39
namespace Go.Proofs.YtjijpkimlgbepaaGreatDoor
open Go.RowKit Go.Sort
set_option linter.unusedVariables false
set_option linter.unusedSimpArgs false
set_option maxRecDepth 100000
/-- The call answers whether the word fits; if so, the leg in block lb is the one with the word. -/
def RetPut (lb : Nat) (W : World) (q : Leg × Bool) (e : Ending) (w' : World) : Prop := ∃ l' : Leg, e = .returned (.bool q.2) ∧ Touch [lb] W w' ∧ Blk w' lb l'.arr ∧ (q.2 = true → l' = q.1)
theorem RetPut.mk {lb : Nat} {W w' : World} {q : Leg × Bool} {b : Bool} (l' : Leg) (h : q.2 = b) (t : Touch [lb] W w') (hb : Blk w' lb l'.arr) (hl : b = true → l' = q.1) : RetPut lb W q (.returned (.bool b)) w' :=
  ⟨l', by rw [h], t, hb, fun hq => hl (by rw [← h]; exact hq)⟩
abbrev PutIs (c : Int) (f : Acc) : Prop := ∀ (W : World) (lb : Nat) (s : List UInt8) (l : Leg), Blk W lb l.arr → s.length ≤ 4000000000 → Calls Tryz.prog 64 #[.pointer (some ⟨lb, 0, none⟩), .int .u8 c, .string ⟨s.toArray⟩] W (RetPut lb W (f s l))
theorem tset (lb : Nat) (W : World) (k : Nat) (v : Value) : Touch [lb] W (W.setCell ⟨lb, k, none⟩ v) := Touch.setCell [lb] W (by simp) k v
set_option maxHeartbeats 4000000 in
theorem put_fix : PutIs 70 accFix := fun W lb s l hb hs => by
  have c1 := hb.cell 1
  have f1 := hb.frozen 1
  have HA := Lib.hid (show accFix s l = ({ l with fix := s }, refB s) from rfl)
  have k1 := Lib.hid (fun W => risRef_any s W hs)
  generalize accFix s l = q at HA ⊢
  generalize refB s = b at k1 HA
  go_enter Tryz.func64, Tryz.ntmps64
  go_wp2_with fail
  with_reducible refine callQ (k1.out _) ?_
  intro n1
  go_wp2
  go_ret
  exact RetPut.mk ({ l with fix := s } : Leg) (by rw [HA.out]) ((Touch.refl [lb] W).drewN n1 |>.trans (tset lb _ 1 _)) ((show Blk (W.drewN n1) lb l.arr from hb).setCell 1 _) (fun _ => by rw [HA.out])
set_option maxHeartbeats 4000000 in
theorem put_center : PutIs 67 accCenter := fun W lb s l hb hs => by
  have c1 := hb.cell 2
  have f1 := hb.frozen 2
  match s, hs with
  | [], hs =>
    go_enter Tryz.func64, Tryz.ntmps64
    go_wp2
    go_ret
    exact RetPut.mk l rfl (Touch.refl _ _) hb (fun h => by cases h)
  | x :: r, hs =>
    by_cases hx : x = 64
    · subst hx
      have HA := Lib.hid (show accCenter (64 :: r) l = ({ l with center := r }, refB r) from by simp [accCenter, cutPre])
      have k1 := Lib.hid (fun W => risRef_any r W (by simp at hs; omega))
      generalize accCenter (64 :: r) l = q at HA ⊢
      generalize refB r = b at k1 HA
      cases b
      · go_enter Tryz.func64, Tryz.ntmps64
        go_wp2_with fail
        with_reducible refine callQ (k1.out _) ?_
        intro n1
        go_wp2
        go_ret
        exact RetPut.mk l (by rw [HA.out]) ((Touch.refl [lb] W).drewN n1) hb (fun h => by cases h)
      · go_enter Tryz.func64, Tryz.ntmps64
        go_wp2_with fail
        with_reducible refine callQ (k1.out _) ?_
        intro n1
        go_wp2
        go_ret
        exact RetPut.mk ({ l with center := r } : Leg) (by rw [HA.out]) ((Touch.refl [lb] W).drewN n1 |>.trans (tset lb _ 2 _)) ((show Blk (W.drewN n1) lb l.arr from hb).setCell 2 _) (fun _ => by rw [HA.out])
    · have e1 : ((x.toNat : Int) == 64) = false := u8_ne (d := 64) hx
      have HA := Lib.hid (show (accCenter (x :: r) l).2 = false from by unfold accCenter cutPre; simp [hx])
      clear hx
      generalize accCenter (x :: r) l = q at HA ⊢
      go_enter Tryz.func64, Tryz.ntmps64
      go_wp2
      go_ret
      exact RetPut.mk l HA.out (Touch.refl _ _) hb (fun h => by cases h)
set_option maxHeartbeats 4000000 in
theorem put_turn : PutIs 84 accTurn := fun W lb s l hb hs => by
  have c1 := hb.cell 3
  have f1 := hb.frozen 3
  have HA := Lib.hid (show accTurn s l = ({ l with turn := if s = [76] then 1 else 2 }, s == [76] || s == [82]) from rfl)
  generalize accTurn s l = q at HA ⊢
  by_cases h1 : s = [76]
  · subst h1
    go_enter Tryz.func64, Tryz.ntmps64
    go_wp2
    go_ret
    exact RetPut.mk ({ l with turn := 1 } : Leg) (by rw [HA.out]; rfl) (tset lb _ 3 _) (hb.setCell 3 _) (fun _ => by rw [HA.out]; rfl)
  · by_cases h2 : s = [82]
    · subst h2
      go_enter Tryz.func64, Tryz.ntmps64
      go_wp2
      go_ret
      exact RetPut.mk ({ l with turn := 2 } : Leg) (by rw [HA.out]; rfl) ((tset lb _ 3 _).trans (tset lb _ 3 _)) ((hb.setCell 3 _).setCell 3 _) (fun _ => by rw [HA.out]; rfl)
    · have e1 : (s == [76]) = false := by simpa using h1
      have e2 : (s == [82]) = false := by simpa using h2
      have HO := Lib.hid (show q.2 = false from by rw [HA.out]; simp [h1, h2])
      clear h1 h2
      go_enter Tryz.func64, Tryz.ntmps64
      go_wp2
      go_ret
      exact RetPut.mk ({ l with turn := 1 } : Leg) HO.out (tset lb _ 3 _) (hb.setCell 3 _) (fun h => by cases h)
set_option maxHeartbeats 4000000 in
theorem put_course : PutIs 75 accCourse := fun W lb s l hb hs => by
  have c1 := hb.cell 5
  have f1 := hb.frozen 5
  have HA := Lib.hid (show accCourse s l = ({ l with course := (courseS s).1 }, (courseS s).2) from rfl)
  have k1 := Lib.hid (fun W => rcourse_any s 0 W hs (by omega) (by omega))
  simp only [List.drop_zero] at k1
  generalize accCourse s l = q at HA ⊢
  generalize courseS s = p at HA k1
  obtain ⟨v, b⟩ := p
  go_enter Tryz.func64, Tryz.ntmps64
  go_wp2_with fail
  with_reducible refine callP (k1.out _) ?_
  go_wp2
  go_ret
  exact RetPut.mk ({ l with course := v } : Leg) (by rw [HA.out]) (tset lb _ 5 _) (hb.setCell 5 _) (fun _ => by rw [HA.out])
set_option maxHeartbeats 4000000 in
theorem put_theta : PutIs 72 accTheta := fun W lb s l hb hs => by
  have c1 := hb.cell 8
  have f1 := hb.frozen 8
  match s, hs with
  | [], hs =>
    go_enter Tryz.func64, Tryz.ntmps64
    go_wp2
    go_ret
    exact RetPut.mk l rfl (Touch.refl _ _) hb (fun h => by cases h)
  | x :: r, hs =>
    by_cases hx : x = 116
    · subst hx
      have HA := Lib.hid (show accTheta (116 :: r) l = ({ l with theta := (courseS r).1 }, (courseS r).2) from by unfold accTheta; simp)
      have k1 := Lib.hid (fun W => rcourse_any (116 :: r) 1 W hs (by omega) (by simp))
      simp only [List.drop_succ_cons, List.drop_zero] at k1
      generalize accTheta (116 :: r) l = q at HA ⊢
      generalize courseS r = p at HA k1
      obtain ⟨v, b⟩ := p
      go_enter Tryz.func64, Tryz.ntmps64
      go_wp2_with fail
      with_reducible refine callP (k1.out _) ?_
      go_wp2
      go_ret
      exact RetPut.mk ({ l with theta := v } : Leg) (by rw [HA.out]) (tset lb _ 8 _) (hb.setCell 8 _) (fun _ => by rw [HA.out])
    · have e1 : ((x.toNat : Int) == 116) = false := u8_ne (d := 116) hx
      have HA := Lib.hid (show (accTheta (x :: r) l).2 = false from by unfold accTheta; simp [hx])
      clear hx
      generalize accTheta (x :: r) l = q at HA ⊢
      go_enter Tryz.func64, Tryz.ntmps64
      go_wp2
      go_ret
      exact RetPut.mk l HA.out (Touch.refl _ _) hb (fun h => by cases h)
set_option maxHeartbeats 4000000 in
theorem put_dist : PutIs 68 accDist := fun W lb s l hb hs => by
  have c1 := hb.cell 6
  have f1 := hb.frozen 6
  have HA := Lib.hid (show accDist s l = ({ l with dist := (legDistS 100 s).1 }, (legDistS 100 s).2) from rfl)
  have k1 : Hid (∀ W, Calls Tryz.prog 92 #[.string ⟨s.toArray⟩, .int .u8 100] W (RetQ W (numVal (legDistS 100 s)))) := Lib.hid (fun W => rdistance_any 100 s W hs)
  generalize accDist s l = q at HA ⊢
  generalize legDistS 100 s = p at HA k1
  obtain ⟨v, b⟩ := p
  go_enter Tryz.func64, Tryz.ntmps64
  go_wp2_with fail
  with_reducible refine callQ (k1.out _) ?_
  intro n1
  go_wp2
  go_ret
  exact RetPut.mk ({ l with dist := v } : Leg) (by rw [HA.out]) ((Touch.refl [lb] W).drewN n1 |>.trans (tset lb _ 6 _)) ((show Blk (W.drewN n1) lb l.arr from hb).setCell 6 _) (fun _ => by rw [HA.out])
set_option maxHeartbeats 4000000 in
theorem put_radius : PutIs 82 accRadius := fun W lb s l hb hs => by
  have c1 := hb.cell 7
  have f1 := hb.frozen 7
  have HA := Lib.hid (show accRadius s l = ({ l with radius := (legDistS 114 s).1 }, (legDistS 114 s).2) from rfl)
  have k1 : Hid (∀ W, Calls Tryz.prog 92 #[.string ⟨s.toArray⟩, .int .u8 114] W (RetQ W (numVal (legDistS 114 s)))) := Lib.hid (fun W => rdistance_any 114 s W hs)
  generalize accRadius s l = q at HA ⊢
  generalize legDistS 114 s = p at HA k1
  obtain ⟨v, b⟩ := p
  go_enter Tryz.func64, Tryz.ntmps64
  go_wp2_with fail
  with_reducible refine callQ (k1.out _) ?_
  intro n1
  go_wp2
  go_ret
  exact RetPut.mk ({ l with radius := v } : Leg) (by rw [HA.out]) ((Touch.refl [lb] W).drewN n1 |>.trans (tset lb _ 7 _)) ((show Blk (W.drewN n1) lb l.arr from hb).setCell 7 _) (fun _ => by rw [HA.out])
set_option maxHeartbeats 4000000 in
theorem put_rnp : PutIs 110 accRnp := fun W lb s l hb hs => by
  have c1 := hb.cell 12
  have f1 := hb.frozen 12
  have HA := Lib.hid (show accRnp s l = if (legDistS 110 s).2 then ({ l with rnp := (legDistS 110 s).1 }, true) else (l, false) from rfl)
  have k1 : Hid (∀ W, Calls Tryz.prog 92 #[.string ⟨s.toArray⟩, .int .u8 110] W (RetQ W (numVal (legDistS 110 s)))) := Lib.hid (fun W => rdistance_any 110 s W hs)
  generalize accRnp s l = q at HA ⊢
  generalize legDistS 110 s = p at HA k1
  obtain ⟨v, b⟩ := p
  go_enter Tryz.func64, Tryz.ntmps64
  go_wp2_with fail
  with_reducible refine callQ (k1.out _) ?_
  intro n1
  go_wp2
  go_ret
  exact RetPut.mk ({ l with rnp := v } : Leg) (by rw [HA.out]; cases b <;> rfl) ((Touch.refl [lb] W).drewN n1 |>.trans (tset lb _ 12 _)) ((show Blk (W.drewN n1) lb l.arr from hb).setCell 12 _) (fun h => by subst h; rw [HA.out]; rfl)
set_option maxHeartbeats 4000000 in
theorem put_speed : PutIs 115 accSpeed := fun W lb s l hb hs => by
  have c1 := hb.cell 11
  have f1 := hb.frozen 11
  have HA := Lib.hid (show accSpeed s l = if (speedS s).2 then ({ l with speed := (speedS s).1 }, true) else (l, false) from rfl)
  have k1 := Lib.hid (fun W => rspeed_any s W)
  generalize accSpeed s l = q at HA ⊢
  generalize speedS s = p at HA k1
  obtain ⟨v, b⟩ := p
  go_enter Tryz.func64, Tryz.ntmps64
  go_wp2_with fail
  with_reducible refine callP (k1.out _) ?_
  go_wp2
  go_ret
  exact RetPut.mk ({ l with speed := v } : Leg) (by rw [HA.out]; cases b <;> rfl) (tset lb _ 11 _) (hb.setCell 11 _) (fun h => by subst h; rw [HA.out]; rfl)
set_option maxHeartbeats 4000000 in
theorem put_over : PutIs 111 accOver := fun W lb s l hb hs => by
  have c1 := hb.cell 4
  have f1 := hb.frozen 4
  have HA := Lib.hid (show accOver s l = ({ l with over := s == [111, 118, 101, 114] }, s == [111, 118, 101, 114]) from rfl)
  generalize accOver s l = q at HA ⊢
  by_cases h1 : s = [111, 118, 101, 114]
  · subst h1
    go_enter Tryz.func64, Tryz.ntmps64
    go_wp2
    go_ret
    exact RetPut.mk ({ l with over := true } : Leg) (by rw [HA.out]; rfl) (tset lb _ 4 _) (hb.setCell 4 _) (fun _ => by rw [HA.out]; rfl)
  · have e1 : (s == [111, 118, 101, 114]) = false := by simpa using h1
    have HO := Lib.hid (show q.2 = false from by rw [HA.out]; simpa using h1)
    clear h1
    go_enter Tryz.func64, Tryz.ntmps64
    go_wp2
    go_ret
    exact RetPut.mk ({ l with over := true } : Leg) HO.out (tset lb _ 4 _) (hb.setCell 4 _) (fun h => by cases h)
theorem leg_win (l : Leg) (lo hi : Int) : splice l.arr 9 #[.int .i64 lo, .int .i64 hi] = ({ l with lo := lo, hi := hi } : Leg).arr := rfl
theorem fits_leg_win (l : Leg) : Fits 9 2 l.arr = True := eq_true (by unfold Fits; rw [Leg.arr_size]; omega)
theorem Has_win_far (W : World) (b o g : Nat) (cs : Array Value) (h : ¬ b = g) : Has_win (W.setRow g cs) b o = Has_win W b o := by
  have e : ∀ j, (W.setRow g cs).cell? ⟨b, o + j, none⟩ = W.cell? ⟨b, o + j, none⟩ := fun j => cell_far W b g (o + j) cs h
  simp only [Has_win, Is_win, e]
theorem of_win_far (W : World) (b o g : Nat) (cs : Array Value) (h : ¬ b = g) (hh : Has_win W b o) : of_win (W.setRow g cs) b o = of_win W b o :=
  of_win_eq fun j hj => by rw [cell_far W b g (o + j) cs h]; exact of_win_spec hh j hj
theorem Has_win_drew (w : World) (b o : Nat) : Has_win w.drew b o = Has_win w b o := propext ⟨fun h => h, fun h => h⟩
theorem of_win_drew (w : World) (b o : Nat) : of_win w.drew b o = of_win w b o := rfl
theorem Plain_drewP (w : World) (g : Nat) : Plain w.drew g = Plain w g := propext ⟨fun h => h, fun h => h⟩
theorem blkOf_drewP (w : World) (g : Nat) : blkOf w.drew g = blkOf w g := rfl
theorem setRow_drewP (w : World) (g : Nat) (cs : Array Value) : w.drew.setRow g cs = (w.setRow g cs).drew := rfl
attribute [local go_sem] wmk Has_win_far of_win_far Has_win_drew of_win_drew Plain_drewP blkOf_drewP setRow_drewP
set_option maxHeartbeats 8000000 in
theorem put_win : PutIs 65 accWin := fun W lb s l hb hs => by
  obtain ⟨hsame, hval⟩ := rwin_same s
  have HA := Lib.hid (show accWin s l = if winTaken s then ({ l with lo := (parseWinS s).1.1, hi := (parseWinS s).1.2 }, true) else (l, false) from rfl)
  have HT := Lib.hid (show winTaken s = ((rparseWinS s).2 == 0 && !((rparseWinS s).1.1 == -200000 && (rparseWinS s).1.2 == 6000000)) from by
    unfold winTaken
    by_cases h : (rparseWinS s).2 = 0
    · rw [hval h, h, hsame.1 h]
    · have h2 : ¬ (parseWinS s).2 = 0 := fun h3 => h (hsame.2 h3)
      have e1 : ((parseWinS s).2 == 0) = false := by simpa using h2
      have e2 : ((rparseWinS s).2 == 0) = false := by simpa using h
      rw [e1, e2]; rfl)
  have HV := Lib.hid (show (rparseWinS s).2 = 0 → (parseWinS s).1 = (rparseWinS s).1 from fun h => (hval h).symm)
  have k1 := Lib.hid (fun W => rparseWindow_any s W hs)
  clear hsame hval
  generalize accWin s l = q at HA ⊢
  generalize winTaken s = b at HA HT
  generalize rparseWinS s = p at HT HV k1
  generalize (parseWinS s).1 = v at HA HV
  obtain ⟨⟨lo, hi⟩, e⟩ := p
  simp only at HT HV
  go_enter Tryz.func64, Tryz.ntmps64
  go_wp2_with fail
  with_reducible refine callR (k1.out _) ?_
  intro w1 b1 _ _ _
  have X0 := hb.step b1
  go_upto_region 27 with (fail)
  have Y := Blk.new w1 #[.int .i64 lo, .int .i64 hi] 24
  have X := X0.alloc (.cells #[.int .i64 lo, .int .i64 hi] 24)
  have hne : lb < w1.heap.size := X0.lt
  have T1 : Touch [lb] W (w1.alloc (.cells #[.int .i64 lo, .int .i64 hi] 24)) := (Touch.of b1).trans (Touch.of (alloc_below w1 _))
  clear X0 b1 k1
  generalize w1.alloc _ = w2 at X Y T1 ⊢
  generalize w1.heap.size = g2 at Y hne ⊢
  have ng : ¬ g2 = lb := by omega
  have c4 : Has_win w2 g2 0 := ⟨⟨lo, hi⟩, Y.is_win⟩
  have c5 : of_win w2 g2 0 = ⟨lo, hi⟩ := of_win_eq Y.is_win
  have d2 := X.plain
  have d3 := X.of
  have F := fits_leg_win l
  have N1 := fun w => run_neq_win ⟨lo, hi⟩ ⟨-200000, 6000000⟩ w
  simp only [wmk] at N1
  obtain ⟨nb, hnb⟩ : ∃ nb, (!Win.eqB ⟨lo, hi⟩ ⟨-200000, 6000000⟩) = nb := ⟨_, rfl⟩
  rw [hnb] at N1
  have HNB := Lib.hid (show nb = !(lo == -200000 && hi == 6000000) from by rw [← hnb]; unfold Win.eqB; simp only [Bool.beq_eq_decide_eq])
  clear hnb
  have XF : Blk ((w2.setRow lb (splice l.arr 9 #[.int .i64 lo, .int .i64 hi])).drew) lb ({ l with lo := lo, hi := hi } : Leg).arr := X.set _
  have TF : Touch [lb] W ((w2.setRow lb (splice l.arr 9 #[.int .i64 lo, .int .i64 hi])).drew) := by
    refine (T1.trans ⟨rfl, rfl, rfl, ?_, fun k hk hn => ?_⟩)
    · show w2.heap.size ≤ (w2.setRow lb _).heap.size
      simp [World.setRow]
    · exact setRow_other w2 lb k _ (fun e => hn (by simp [e]))
  by_cases he : e = 0
  · subst he
    have HB := Lib.hid (show nb = b from by rw [HT.out, HNB.out]; simp)
    have HV2 := Lib.hid (HV.out rfl)
    clear HT HNB HV
    go_region
    go_wp2
    go_ret
    refine RetPut.mk ({ l with lo := lo, hi := hi } : Leg) ?_ TF XF ?_
    · rw [HA.out, ← HB.out]; cases nb <;> rfl
    · intro h; rw [HA.out, ← HB.out, h, HV2.out]; rfl
  · have e3 : (e == 0) = false := by simpa using he
    have HB := Lib.hid (show b = false from by rw [HT.out, e3]; rfl)
    clear HT HNB HV he
    go_region
    go_wp2
    go_ret
    exact RetPut.mk ({ l with lo := lo, hi := hi } : Leg) (by rw [HA.out, HB.out]; rfl) TF XF (fun h => by cases h)
end Go.Proofs.YtjijpkimlgbepaaGreatDoor
namespace Go.Proofs.YtjijpkimlgbepaaGreatDoor
open Go.RowKit Go.Sort
set_option linter.unusedVariables false
set_option linter.unusedSimpArgs false
set_option maxRecDepth 100000
def FLs : List (Int × Int × Acc) := [(70, 1, accFix), (67, 2, accCenter), (84, 4, accTurn), (75, 16, accCourse), (68, 32, accDist), (82, 64, accRadius), (72, 128, accTheta)]
def OLs : List (Int × Acc) := [(111, accOver), (65, accWin), (115, accSpeed), (110, accRnp)]
def runF (t : Int) (n : Nat) : List (Int × Int × Acc) → PS → PS
  | [], x => x
  | (_, m, f) :: q, x => runF t n q (x.needIf (uB t m) n f)
def runO : List (Int × Acc) → PS → PS
  | [], x => x
  | (_, f) :: q, x => runO q (x.may f)
theorem parse_runs (s : List UInt8) : parseS s = (runO OLs (runF (PS.begin s).l.ty s.length FLs (PS.begin s))).done := rfl
theorem needIf_badP {b : Bool} {n : Nat} {f : Acc} {x : PS} (h : x.bad ≠ 0) : x.needIf b n f = x := by
  unfold PS.needIf PS.need
  cases b
  · rfl
  · simp only [if_true]; rw [if_pos h]
theorem may_badP {f : Acc} {x : PS} (h : x.bad ≠ 0) : x.may f = x := by unfold PS.may; rw [if_pos h]
theorem runF_bad (t : Int) (n : Nat) : ∀ (q : List (Int × Int × Acc)) (x : PS), x.bad ≠ 0 → runF t n q x = x
  | [], _, _ => rfl
  | (_, m, f) :: q, x, h => by rw [runF, needIf_badP h]; exact runF_bad t n q x h
theorem runO_bad : ∀ (q : List (Int × Acc)) (x : PS), x.bad ≠ 0 → runO q x = x
  | [], _, _ => rfl
  | (_, f) :: q, x, h => by rw [runO, may_badP h]; exact runO_bad q x h
theorem runO_end : ∀ (q : List (Int × Acc)) (x : PS), x.ws = [] → runO q x = x
  | [], _, _ => rfl
  | (_, f) :: q, x, h => by
    have e : x.may f = x := by
      unfold PS.may
      split
      · rfl
      · rw [h]
    rw [runO, e]; exact runO_end q x h
theorem done_of_bad {x : PS} (h : x.bad ≠ 0) : x.done = (leg0, x.bad, 4) := by
  have e : x.badAt = x.bad := by unfold PS.badAt; rw [if_neg (fun hh => h hh.2)]
  unfold PS.done
  rw [e, if_pos h]
theorem done_left {x : PS} {w : List UInt8} {r : List (List UInt8)} (h : x.bad = 0) (hw : x.ws = w :: r) (hc : 1 ≤ x.col) : x.done = (leg0, x.col, 4) := by
  have e : x.badAt = x.col := by unfold PS.badAt; rw [if_pos ⟨by rw [hw]; simp, h⟩]
  unfold PS.done
  rw [e, if_pos (by omega)]
theorem done_none {x : PS} (h : x.bad = 0) (hw : x.ws = []) : x.done = if legCheck x.l ≠ 0 then (leg0, 0, legCheck x.l) else (x.l, 0, 0) := by
  have e : x.badAt = 0 := by rw [badAt_nil hw, h]
  unfold PS.done
  rw [e, if_neg (by simp)]
/-- Where the reference stands: the state x of the reading, ahead of word k; T is what is still to be read. -/
structure StAt (s : List UInt8) (k : Nat) (l : Leg) (T : PS → PS) (x : PS) : Prop where
  bad : x.bad = 0
  leg : x.l = l
  ws : x.ws = (words s).drop k
  col : (wcol 1 (words s)).drop k = wcol x.col x.ws
  ok : x.Ok s.length
  fin : parseS s = (T x).done
theorem StAt.word {s : List UInt8} {k : Nat} {l : Leg} {T : PS → PS} {x : PS} (h : StAt s k l T x) (hk : k < (words s).length) : ∃ r, x.ws = (words s)[k] :: r ∧ (wcol 1 (words s))[k]? = some ((words s)[k], x.col) ∧ r = (words s).drop (k + 1) ∧ (wcol 1 (words s)).drop (k + 1) = wcol (x.col + ((words s)[k].length + 1)) r := by
  have h1 := h.ws
  rw [List.drop_eq_getElem_cons hk] at h1
  have h2 := h.col
  rw [h1, wcol] at h2
  have hk2 : k < (wcol 1 (words s)).length := by rw [wcol_len]; exact hk
  rw [List.drop_eq_getElem_cons hk2] at h2
  injection h2 with h3 h4
  exact ⟨_, h1, by rw [List.getElem?_eq_getElem hk2, h3], rfl, h4⟩
theorem StAt.step {s : List UInt8} {k : Nat} {l : Leg} {T T' : PS → PS} {x : PS} {f : Acc} (h : StAt s k l T x) (hk : k < (words s).length) (hf : f.Ok s.length) (hy : (f (words s)[k] l).2 = true)
    (hT : ∀ r, x.ws = (words s)[k] :: r → T x = T' ⟨r, x.col + ((words s)[k].length + 1), 0, (f (words s)[k] l).1⟩) : ∃ x', StAt s (k + 1) (f (words s)[k] l).1 T' x' := by
  obtain ⟨r, e1, e2, e3, e4⟩ := h.word hk
  have hok : PS.Ok s.length (x.need s.length f) := h.ok.need hf
  have en : x.need s.length f = ⟨r, x.col + ((words s)[k].length + 1), 0, (f (words s)[k] l).1⟩ := by
    unfold PS.need
    rw [if_neg (by rw [h.bad]; simp), e1]
    simp only
    rw [h.leg, if_pos hy]
  rw [en] at hok
  exact ⟨_, ⟨rfl, rfl, e3, e4, hok, by rw [h.fin, hT r e1]⟩⟩
/-- The first loop's state: j letters are done. -/
def F1 (s : List UInt8) (t : Int) (j k : Nat) (l : Leg) : Prop := ∃ x, StAt s k l (fun x => runO OLs (runF t s.length (FLs.drop j) x)) x ∧ l.over = false ∧ l.ty = t
/-- The second loop's: 'next' options are done. -/
def F2 (s : List UInt8) (j k : Nat) (l : Leg) : Prop := ∃ x, StAt s k l (fun x => runO (OLs.drop j) x) x ∧ (j = 0 → l.over = false)
theorem F1.end {s : List UInt8} {t : Int} {k : Nat} {l : Leg} (h : F1 s t 7 k l) : F2 s 0 k l := by
  obtain ⟨x, h, ho, _⟩ := h
  exact ⟨x, ⟨h.bad, h.leg, h.ws, h.col, h.ok, h.fin⟩, fun _ => ho⟩
theorem F1.skip {s : List UInt8} {t : Int} {j k : Nat} {l : Leg} {c m : Int} {f : Acc} (h : F1 s t j k l) (hj : FLs[j]? = some (c, m, f)) (hu : uB t m = false) : F1 s t (j + 1) k l := by
  obtain ⟨x, h, ho, ht⟩ := h
  have hlt : j < FLs.length := (List.getElem?_eq_some_iff.1 hj).1
  refine ⟨x, ⟨h.bad, h.leg, h.ws, h.col, h.ok, ?_⟩, ho, ht⟩
  rw [h.fin, List.drop_eq_getElem_cons hlt]
  have e : FLs[j] = (c, m, f) := (List.getElem?_eq_some_iff.1 hj).2
  rw [e]
  simp only [runF, hu, PS.needIf, Bool.false_eq_true, if_false]
theorem F1.out {s : List UInt8} {t : Int} {j k : Nat} {l : Leg} {c m : Int} {f : Acc} (h : F1 s t j k l) (hj : FLs[j]? = some (c, m, f)) (hu : uB t m = true) (hk : k = (words s).length) : parseS s = (leg0, (s.length : Int) + 2, 4) := by
  obtain ⟨x, h, ho, ht⟩ := h
  have hlt : j < FLs.length := (List.getElem?_eq_some_iff.1 hj).1
  rw [h.fin, List.drop_eq_getElem_cons hlt]
  have e : FLs[j] = (c, m, f) := (List.getElem?_eq_some_iff.1 hj).2
  have hw : x.ws = [] := by rw [h.ws, hk, List.drop_length]
  have en : x.needIf true s.length f = { x with bad := (s.length : Int) + 2 } := by
    unfold PS.needIf PS.need
    simp only [if_true]
    rw [if_neg (by rw [h.bad]; simp), hw]
  rw [e]
  simp only [runF, hu, en]
  rw [runF_bad _ _ _ _ (by simp only; omega), runO_bad _ _ (by simp only; omega), done_of_bad (by simp only; omega)]
theorem F1.not {s : List UInt8} {t : Int} {j k : Nat} {l : Leg} {c m : Int} {f : Acc} (h : F1 s t j k l) (hj : FLs[j]? = some (c, m, f)) (hu : uB t m = true) (hk : k < (words s).length) (hn : (f (words s)[k] l).2 = false) :
    ∃ col : Int, (wcol 1 (words s))[k]? = some ((words s)[k], col) ∧ parseS s = (leg0, col, 4) := by
  obtain ⟨x, h, ho, ht⟩ := h
  obtain ⟨r, e1, e2, e3, e4⟩ := h.word hk
  refine ⟨x.col, e2, ?_⟩
  have hlt : j < FLs.length := (List.getElem?_eq_some_iff.1 hj).1
  rw [h.fin, List.drop_eq_getElem_cons hlt]
  have e : FLs[j] = (c, m, f) := (List.getElem?_eq_some_iff.1 hj).2
  have en : x.needIf true s.length f = { x with bad := x.col, l := (f (words s)[k] x.l).1 } := by
    unfold PS.needIf PS.need
    simp only [if_true]
    rw [if_neg (by rw [h.bad]; simp), e1]
    simp only
    rw [if_neg (by rw [h.leg, hn]; simp)]
  have hc := h.ok.one
  rw [e]
  simp only [runF, hu, en]
  rw [runF_bad _ _ _ _ (by simp only; omega), runO_bad _ _ (by simp only; omega), done_of_bad (by simp only; omega)]
structure AccKeeps (f : Acc) : Prop where
  ty : ∀ s l, (f s l).1.ty = l.ty
  over : ∀ s l, (f s l).1.over = l.over
theorem F1.yes {s : List UInt8} {t : Int} {j k : Nat} {l : Leg} {c m : Int} {f : Acc} (h : F1 s t j k l) (hj : FLs[j]? = some (c, m, f)) (hu : uB t m = true) (hk : k < (words s).length) (hf : f.Ok s.length) (hkp : AccKeeps f) (hy : (f (words s)[k] l).2 = true) :
    F1 s t (j + 1) (k + 1) (f (words s)[k] l).1 := by
  obtain ⟨x, h, ho, ht⟩ := h
  have hlt : j < FLs.length := (List.getElem?_eq_some_iff.1 hj).1
  have e : FLs[j] = (c, m, f) := (List.getElem?_eq_some_iff.1 hj).2
  obtain ⟨x', hx⟩ := h.step (T' := fun x => runO OLs (runF t s.length (FLs.drop (j + 1)) x)) hk hf hy (fun r hr => by
    rw [List.drop_eq_getElem_cons hlt, e]
    simp only [runF, hu]
    congr 2
    unfold PS.needIf PS.need
    simp only [if_true]
    rw [if_neg (by rw [h.bad]; simp), hr]
    simp only
    rw [h.leg, if_pos hy])
  exact ⟨x', hx, by rw [hkp.over, ho], by rw [hkp.ty, ht]⟩
theorem F2.not {s : List UInt8} {j k : Nat} {l : Leg} {c : Int} {f : Acc} (h : F2 s j k l) (hj : OLs[j]? = some (c, f)) (hk : k < (words s).length) (hn : (f (words s)[k] l).2 = false) (hsame : l.over = false ∨ 0 < j → (f (words s)[k] l).1 = l) : F2 s (j + 1) k l := by
  obtain ⟨x, h, ho⟩ := h
  obtain ⟨r, e1, e2, e3, e4⟩ := h.word hk
  have hlt : j < OLs.length := (List.getElem?_eq_some_iff.1 hj).1
  have e : OLs[j] = (c, f) := (List.getElem?_eq_some_iff.1 hj).2
  have hl : (f (words s)[k] l).1 = l := hsame (by
    rcases Nat.eq_zero_or_pos j with h0 | h0
    · exact .inl (ho h0)
    · exact .inr h0)
  have en : x.may f = x := by
    unfold PS.may
    rw [if_neg (by rw [h.bad]; simp), e1]
    simp only
    rw [if_neg (by rw [h.leg, hn]; simp), h.leg, hl, ← h.leg, ← e1]
  refine ⟨x, ⟨h.bad, h.leg, h.ws, h.col, h.ok, ?_⟩, fun h0 => by omega⟩
  rw [h.fin, List.drop_eq_getElem_cons hlt, e]
  simp only [runO, en]
theorem F2.yes {s : List UInt8} {j k : Nat} {l : Leg} {c : Int} {f : Acc} (h : F2 s j k l) (hj : OLs[j]? = some (c, f)) (hk : k < (words s).length) (hf : f.Ok s.length) (hy : (f (words s)[k] l).2 = true) : F2 s (j + 1) (k + 1) (f (words s)[k] l).1 := by
  obtain ⟨x, h, ho⟩ := h
  have hlt : j < OLs.length := (List.getElem?_eq_some_iff.1 hj).1
  have e : OLs[j] = (c, f) := (List.getElem?_eq_some_iff.1 hj).2
  obtain ⟨x', hx⟩ := h.step (T' := fun x => runO (OLs.drop (j + 1)) x) hk hf hy (fun r hr => by
    rw [List.drop_eq_getElem_cons hlt, e]
    simp only [runO]
    congr 1
    unfold PS.may
    rw [if_neg (by rw [h.bad]; simp), hr]
    simp only
    rw [h.leg, if_pos hy])
  exact ⟨x', hx, fun h0 => by omega⟩
theorem F2.left {s : List UInt8} {k : Nat} {l : Leg} (h : F2 s 4 k l) (hk : k < (words s).length) : ∃ col : Int, (wcol 1 (words s))[k]? = some ((words s)[k], col) ∧ parseS s = (leg0, col, 4) := by
  obtain ⟨x, h, ho⟩ := h
  obtain ⟨r, e1, e2, e3, e4⟩ := h.word hk
  refine ⟨x.col, e2, ?_⟩
  rw [h.fin]
  exact done_left h.bad e1 h.ok.one
theorem F2.fin {s : List UInt8} {j k : Nat} {l : Leg} (h : F2 s j k l) (hk : k = (words s).length) : parseS s = if legCheck l ≠ 0 then (leg0, 0, legCheck l) else (l, 0, 0) := by
  obtain ⟨x, h, ho⟩ := h
  have hw : x.ws = [] := by rw [h.ws, hk, List.drop_length]
  rw [h.fin, runO_end _ _ hw, done_none h.bad hw, h.leg]
theorem F2.small {s : List UInt8} {j k : Nat} {l : Leg} (h : F2 s j k l) (hs : s.length ≤ 4000000000) : l.small := by
  obtain ⟨x, h, ho⟩ := h
  have h1 := h.ok.fix
  have h2 := h.ok.center
  rw [h.leg] at h1 h2
  exact ⟨by omega, by omega⟩
theorem keeps_fix : AccKeeps accFix := ⟨fun _ _ => rfl, fun _ _ => rfl⟩
theorem keeps_center : AccKeeps accCenter := ⟨fun _ _ => rfl, fun _ _ => rfl⟩
theorem keeps_turn : AccKeeps accTurn := ⟨fun _ _ => rfl, fun _ _ => rfl⟩
theorem keeps_course : AccKeeps accCourse := ⟨fun _ _ => rfl, fun _ _ => rfl⟩
theorem keeps_dist : AccKeeps accDist := ⟨fun _ _ => rfl, fun _ _ => rfl⟩
theorem keeps_radius : AccKeeps accRadius := ⟨fun _ _ => rfl, fun _ _ => rfl⟩
theorem keeps_theta : AccKeeps accTheta := ⟨fun s l => by obtain ⟨t, b, h⟩ := accTheta_eq s l; rw [h], fun s l => by obtain ⟨t, b, h⟩ := accTheta_eq s l; rw [h]⟩
/-- What is known of letter j. -/
theorem letter_at (n : Nat) (j : Nat) (hj : j < 7) : ∃ c m f, FLs[j]? = some (c, m, f) ∧ PutIs c f ∧ f.Ok n ∧ AccKeeps f ∧ (∀ t, knownB t = true → hasI (usesStr t) c = uB t m) ∧ ([70, 67, 84, 75, 68, 82, 72] : List Int)[j]? = some c := by
  match j, hj with
  | 0, _ => exact ⟨_, _, _, rfl, put_fix, accFix_ok n, keeps_fix, fun t h => (letters t h).1, rfl⟩
  | 1, _ => exact ⟨_, _, _, rfl, put_center, accCenter_ok n, keeps_center, fun t h => (letters t h).2.1, rfl⟩
  | 2, _ => exact ⟨_, _, _, rfl, put_turn, accTurn_ok n, keeps_turn, fun t h => (letters t h).2.2.1, rfl⟩
  | 3, _ => exact ⟨_, _, _, rfl, put_course, accCourse_ok n, keeps_course, fun t h => (letters t h).2.2.2.2.1, rfl⟩
  | 4, _ => exact ⟨_, _, _, rfl, put_dist, accDist_ok n, keeps_dist, fun t h => (letters t h).2.2.2.2.2.1, rfl⟩
  | 5, _ => exact ⟨_, _, _, rfl, put_radius, accRadius_ok n, keeps_radius, fun t h => (letters t h).2.2.2.2.2.2.1, rfl⟩
  | 6, _ => exact ⟨_, _, _, rfl, put_theta, accTheta_ok n, keeps_theta, fun t h => (letters t h).2.2.2.2.2.2.2.1, rfl⟩
theorem option_at (n : Nat) (j : Nat) (hj : j < 4) : ∃ c f, OLs[j]? = some (c, f) ∧ PutIs c f ∧ f.Ok n ∧ (∀ s l, (f s l).2 = false → (l.over = false ∨ 0 < j) → (f s l).1 = l) ∧ ([111, 65, 115, 110] : List UInt8)[j]?.map (fun b => (b.toNat : Int)) = some c := by
  match j, hj with
  | 0, _ => exact ⟨_, _, rfl, put_over, accOver_ok n, fun s l h h2 => by
      unfold accOver at h ⊢
      simp only at h ⊢
      rcases h2 with h2 | h2
      · rw [h, ← h2]
      · omega, rfl⟩
  | 1, _ => exact ⟨_, _, rfl, put_win, accWin_ok n, fun s l h _ => by
      unfold accWin at h ⊢
      split
      · rename_i hh; rw [if_pos hh] at h; cases h
      · rfl, rfl⟩
  | 2, _ => exact ⟨_, _, rfl, put_speed, accSpeed_ok n, fun s l h _ => by
      unfold accSpeed at h ⊢
      split
      · rename_i hh; rw [if_pos hh] at h; cases h
      · rfl, rfl⟩
  | 3, _ => exact ⟨_, _, rfl, put_rnp, accRnp_ok n, fun s l h _ => by
      unfold accRnp at h ⊢
      split
      · rename_i hh; rw [if_pos hh] at h; cases h
      · rfl, rfl⟩
theorem begin_no {s : List UInt8} {w0 : List UInt8} {r : List (List UInt8)} (hw : words s = w0 :: r) (h : kindS w0 = 0) : parseS s = (leg0, 1, 4) := by
  rw [parse_runs]
  have e : PS.begin s = { (⟨words s, 1, 0, legOpen⟩ : PS) with bad := 1, l := (accName w0 legOpen).1 } := by
    unfold PS.begin PS.need
    rw [if_neg (by simp), hw]
    simp only
    have : (accName w0 legOpen).2 = false := by
      show (typeK w0 legOpen.ty 18 != 0) = false
      have h2 : typeK w0 0 18 = 0 := h
      rw [show legOpen.ty = 0 from rfl, h2]; rfl
    rw [if_neg (by rw [this]; simp)]
  rw [e, runF_bad _ _ _ _ (by simp), runO_bad _ _ (by simp), done_of_bad (by simp)]
theorem begin_yes {s : List UInt8} {w0 : List UInt8} {r : List (List UInt8)} (hw : words s = w0 :: r) (h : kindS w0 ≠ 0) : knownB (kindS w0) = true ∧ F1 s (kindS w0) 0 1 { legOpen with ty := kindS w0 } := by
  have hk : typeK w0 0 18 ≠ 0 := h
  have kn := (typeK_back w0 18 (by omega) hk).1
  refine ⟨kn, ?_⟩
  have e : PS.begin s = ⟨r, 1 + (w0.length + 1), 0, { legOpen with ty := kindS w0 }⟩ := by
    unfold PS.begin PS.need
    rw [if_neg (by simp), hw]
    simp only
    have : (accName w0 legOpen).2 = true := by
      show (typeK w0 legOpen.ty 18 != 0) = true
      rw [show legOpen.ty = 0 from rfl]; simpa using hk
    rw [if_pos this]
    rfl
  refine ⟨PS.begin s, ⟨by rw [e], by rw [e], by rw [e, hw]; rfl, by rw [e, hw]; rfl, begin_ok s, ?_⟩, rfl, rfl⟩
  rw [parse_runs]
  have : (PS.begin s).l.ty = kindS w0 := by rw [e]
  rw [this]; rfl
end Go.Proofs.YtjijpkimlgbepaaGreatDoor
