/- angle.join, angle.ParseExact, leg.course and what the references have for them. -/
import Derived.Test.YtjijpkimlgbepaaGreatDoorPk23
namespace Go.Proofs.YtjijpkimlgbepaaGreatDoor
open Go.RowKit Go.Sort
set_option linter.unusedVariables false
set_option linter.unusedSimpArgs false
set_option maxRecDepth 100000
set_option maxHeartbeats 4000000 in
theorem join_ang (l : List UInt8) (w : World) (hl : l.length ≤ 4611686018427387904) : Calls Tryz.prog 110 #[.string ⟨l.toArray⟩, .int .i64 3] w (RetP w (numVal (angP l))) := by
  by_cases h9 : l.length = 9
  · obtain ⟨c0, c1, c2, c3, c4, c5, c6, c7, c8, rfl⟩ := nine h9
    clear hl h9
    have k0 := Lib.hid (number_any [c0, c1, c2, c3, c4, c5, c6, c7, c8] w (by simp))
    have k1 := Lib.hid (number_any [c0, c1, c2] w (by simp))
    have k2 := Lib.hid (number_any [c3, c4] w (by simp))
    have k3 := Lib.hid (number_any [c5, c6] w (by simp))
    have k4 := Lib.hid (number_any [c7, c8] w (by simp))
    have d1 := numS_bd [c0, c1, c2] (by simp)
    have d2 := numS_bd [c3, c4] (by simp)
    have d3 := numS_bd [c5, c6] (by simp)
    have d4 := numS_bd [c7, c8] (by simp)
    have HA := Lib.hid (angP_nine c0 c1 c2 c3 c4 c5 c6 c7 c8)
    have H0 := Lib.hid (show (numS [c0, c1, c2, c3, c4, c5, c6, c7, c8]).2 = ((numS [c0, c1, c2]).2 && (numS [c3, c4]).2 && (numS [c5, c6]).2 && (numS [c7, c8]).2) by simp [numS_snd, Bool.and_assoc])
    generalize numS [c0, c1, c2, c3, c4, c5, c6, c7, c8] = x0 at k0 H0
    generalize numS [c0, c1, c2] = x1 at k1 d1 HA H0
    generalize numS [c3, c4] = x2 at k2 d2 HA H0
    generalize numS [c5, c6] = x3 at k3 d3 HA H0
    generalize numS [c7, c8] = x4 at k4 d4 HA H0
    obtain ⟨n0, b0⟩ := x0
    obtain ⟨n1, b1⟩ := x1
    obtain ⟨n2, b2⟩ := x2
    obtain ⟨n3, b3⟩ := x3
    obtain ⟨n4, b4⟩ := x4
    simp only at d1 d2 d3 d4
    obtain ⟨d1, d1'⟩ := d1
    obtain ⟨d2, d2'⟩ := d2
    obtain ⟨d3, d3'⟩ := d3
    obtain ⟨d4, d4'⟩ := d4
    go_enter Tryz.func110, Tryz.ntmps110
    go_wp2_with (go_at_call 126; first | (with_reducible refine callP k0.out ?_) | (with_reducible refine callP k1.out ?_) | (with_reducible refine callP k2.out ?_) | (with_reducible refine callP k3.out ?_) | (with_reducible refine callP k4.out ?_))
    all_goals
      go_ret2
      refine RetP.num ?_ rfl
      rw [HA.out]
      have h0 := H0.out
      first
        | (rw [if_pos (by grind)]; done)
        | (rw [if_neg (by grind)]; done)
  · have h9' : ((l.length : Int) == 9) = false := by
      rw [beq_eq_false_iff_ne]; omega
    have h9n : ((l.length : Int) != 9) = true := by simp only [bne, h9']; rfl
    have HA := Lib.hid (angP_len h9)
    go_enter Tryz.func110, Tryz.ntmps110
    go_wp2
    all_goals
      go_ret2
      exact RetP.num HA.out rfl
set_option maxHeartbeats 4000000 in
theorem rangle_ang (l : List UInt8) (w : World) (hl : l.length ≤ 4611686018427387904) : Calls Tryz.prog 131 #[.string ⟨l.toArray⟩, .int .i64 3] w (RetP w (numVal (angP l))) := by
  by_cases h9 : l.length = 9
  · obtain ⟨c0, c1, c2, c3, c4, c5, c6, c7, c8, rfl⟩ := nine h9
    clear hl h9
    have k0 := Lib.hid (rvalue4_any [c0, c1, c2, c3, c4, c5, c6, c7, c8] w (by simp))
    have k1 := Lib.hid (rvalue4_any [c0, c1, c2] w (by simp))
    have k2 := Lib.hid (rvalue4_any [c3, c4] w (by simp))
    have k3 := Lib.hid (rvalue4_any [c5, c6] w (by simp))
    have k4 := Lib.hid (rvalue4_any [c7, c8] w (by simp))
    have d1 := numS_bd [c0, c1, c2] (by simp)
    have d2 := numS_bd [c3, c4] (by simp)
    have d3 := numS_bd [c5, c6] (by simp)
    have d4 := numS_bd [c7, c8] (by simp)
    have HA := Lib.hid (angP_nine c0 c1 c2 c3 c4 c5 c6 c7 c8)
    have H0 := Lib.hid (show (numS [c0, c1, c2, c3, c4, c5, c6, c7, c8]).2 = ((numS [c0, c1, c2]).2 && (numS [c3, c4]).2 && (numS [c5, c6]).2 && (numS [c7, c8]).2) by simp [numS_snd, Bool.and_assoc])
    generalize numS [c0, c1, c2, c3, c4, c5, c6, c7, c8] = x0 at k0 H0
    generalize numS [c0, c1, c2] = x1 at k1 d1 HA H0
    generalize numS [c3, c4] = x2 at k2 d2 HA H0
    generalize numS [c5, c6] = x3 at k3 d3 HA H0
    generalize numS [c7, c8] = x4 at k4 d4 HA H0
    obtain ⟨n0, b0⟩ := x0
    obtain ⟨n1, b1⟩ := x1
    obtain ⟨n2, b2⟩ := x2
    obtain ⟨n3, b3⟩ := x3
    obtain ⟨n4, b4⟩ := x4
    simp only at d1 d2 d3 d4
    obtain ⟨d1, d1'⟩ := d1
    obtain ⟨d2, d2'⟩ := d2
    obtain ⟨d3, d3'⟩ := d3
    obtain ⟨d4, d4'⟩ := d4
    go_enter Tryz.func131, Tryz.ntmps131
    go_wp2_with (go_at_call 150; first | (with_reducible refine callP k0.out ?_) | (with_reducible refine callP k1.out ?_) | (with_reducible refine callP k2.out ?_) | (with_reducible refine callP k3.out ?_) | (with_reducible refine callP k4.out ?_))
    all_goals
      go_ret2
      refine RetP.num ?_ rfl
      rw [HA.out]
      have h0 := H0.out
      first
        | (rw [if_pos (by grind)]; done)
        | (rw [if_neg (by grind)]; done)
  · have h9' : ((l.length : Int) == 9) = false := by
      rw [beq_eq_false_iff_ne]; omega
    have h9n : ((l.length : Int) != 9) = true := by simp only [bne, h9']; rfl
    have HA := Lib.hid (angP_len h9)
    go_enter Tryz.func131, Tryz.ntmps131
    go_wp2
    all_goals
      go_ret2
      exact RetP.num HA.out rfl
def parseExS (l : List UInt8) : Int × Int := if (angP l).2 = true then (if (angP l).1 < 129600000 then ((angP l).1, 0) else (0, 2)) else (0, 4)
abbrev intsVal (x : Int × Int) : Value := .tuple #[.int .i64 x.1, .int .i64 x.2]
theorem RetP.ints {w w' : World} {n b : Int} {x : Int × Int} (h : x = (n, b)) (hw : w = w') : RetP w (intsVal x) (.returned (.tuple #[.int .i64 n, .int .i64 b])) w' := ⟨by rw [h], hw⟩
theorem parseExact_any (l : List UInt8) (w : World) (hl : l.length ≤ 4611686018427387904) : Calls Tryz.prog 81 #[.string ⟨l.toArray⟩] w (RetP w (intsVal (parseExS l))) := by
  have k := Lib.hid (join_ang l w hl)
  have HE := Lib.hid (show parseExS l = _ from rfl)
  unfold parseExS at HE ⊢
  generalize angP l = x at k HE ⊢
  obtain ⟨n, b⟩ := x
  go_enter Tryz.func81, Tryz.ntmps81
  go_wp2_with (go_at_call 110; refine callP k.out ?_)
  all_goals
    go_ret2
    refine RetP.ints ?_ rfl
    grind
theorem rparseExact_any (l : List UInt8) (w : World) (hl : l.length ≤ 4611686018427387904) : Calls Tryz.prog 115 #[.string ⟨l.toArray⟩] w (RetP w (intsVal (parseExS l))) := by
  have k := Lib.hid (rangle_ang l w hl)
  unfold parseExS
  generalize angP l = x at k ⊢
  obtain ⟨n, b⟩ := x
  go_enter Tryz.func115, Tryz.ntmps115
  go_wp2_with (go_at_call 131; refine callP k.out ?_)
  all_goals
    go_ret2
    refine RetP.ints ?_ rfl
    grind
def courseS (l : List UInt8) : Int × Bool := if l.length = 9 then ((parseExS l).1, (parseExS l).2 == 0) else (0, false)
theorem course_any (l : List UInt8) (w : World) (hl : l.length ≤ 4611686018427387904) : Calls Tryz.prog 55 #[.string ⟨l.toArray⟩] w (RetP w (numVal (courseS l))) := by
  have k := Lib.hid (parseExact_any l w hl)
  have HE := Lib.hid (show courseS l = if l.length = 9 then ((parseExS l).1, (parseExS l).2 == 0) else (0, false) from rfl)
  generalize parseExS l = x at k HE
  obtain ⟨n, b⟩ := x
  go_enter Tryz.func55, Tryz.ntmps55
  go_wp2_with (go_at_call 81; refine callP k.out ?_)
  all_goals
    go_ret2
    refine RetP.num ?_ rfl
    rw [HE.out]
    grind
/-- ref16.course: the course behind a prefix of k bytes. -/
theorem rcourse_any (l : List UInt8) (j : Nat) (w : World) (hl : l.length ≤ 4000000000) (hj : j ≤ 1) (hjl : j ≤ l.length) : Calls Tryz.prog 91 #[.string ⟨l.toArray⟩, .int .i64 j] w (RetP w (numVal (courseS (l.drop j)))) := by
  have k := Lib.hid (rparseExact_any (l.drop j) w (by simp; omega))
  have HE := Lib.hid (show courseS (l.drop j) = if l.length = j + 9 then ((parseExS (l.drop j)).1, (parseExS (l.drop j)).2 == 0) else (0, false) by
    unfold courseS; rw [List.length_drop]
    by_cases h : l.length = j + 9
    · rw [if_pos h, if_pos (by omega)]
    · rw [if_neg h, if_neg (by omega)])
  generalize parseExS (l.drop j) = x at k HE
  obtain ⟨n, b⟩ := x
  go_enter Tryz.func91, Tryz.ntmps91
  go_wp2_with (go_at_call 115; refine callP k.out ?_)
  all_goals
    go_ret2
    refine RetP.num ?_ rfl
    rw [HE.out]
    grind
end Go.Proofs.YtjijpkimlgbepaaGreatDoor
