/- Lemmas and walks. -/
import Derived.Test.YtgoeedohgomodaaGreatDoorPk01
set_option linter.unusedSimpArgs false
set_option linter.unusedVariables false
namespace Go.Proofs.YtgoeedohgomodaaGreatDoor
open Go.RowKit
def normS (a : Int) : Int := a % 129600000
def turnS (a b : Int) : Int := normS (normS a + normS b)
def mulS (x y : Int) : Int := (x * y + 1073741824) / 2147483648
def divS (x n : Int) : Int := (x + n / 2) / n
def argS (a : Int) : Int := (a * 6746518852 + 32400000) / 64800000
def stepS (u r n : Int) : Int := 2147483648 - divS (mulS u r) n
def sineR (u : Int) : Int := stepS u (stepS u (stepS u (stepS u (2147483648 - divS u 110) 72) 42) 20) 6
def cosineR (u : Int) : Int := stepS u (stepS u (stepS u (stepS u (2147483648 - divS u 90) 56) 30) 12) 2
def sineS (a : Int) : Int := (mulS (argS a) (sineR (mulS (argS a) (argS a))) + 1) / 2
def cosineS (a : Int) : Int := (cosineR (mulS (argS a) (argS a)) + 1) / 2
def quarterS (a : Int) : Int := if a ≤ 16200000 then sineS a else cosineS (32400000 - a)
def sinN (b : Int) : Int := if b ≤ 32400000 then quarterS b else if b ≤ 64800000 then quarterS (64800000 - b) else if b ≤ 97200000 then -quarterS (b - 64800000) else -quarterS (129600000 - b)
def sinS (a : Int) : Int := sinN (normS a)
def cosS (a : Int) : Int := sinS (turnS a 32400000)
def roundS (x : Int) : Int := (x + 536870912) / 1073741824
theorem normS_in (a : Int) : 0 ≤ normS a ∧ normS a < 129600000 := by unfold normS; omega
theorem mul_in {x y X Y : Int} (hx : 0 ≤ x) (hX : x ≤ X) (hy : 0 ≤ y) (hY : y ≤ Y) : 0 ≤ x * y ∧ x * y ≤ X * Y :=
  ⟨Int.mul_nonneg hx hy, Int.mul_le_mul hX hY hy (by omega)⟩
theorem argS_in {a : Int} (h0 : 0 ≤ a) (h1 : a ≤ 16200000) : 0 ≤ argS a ∧ argS a ≤ 1686629713 := by unfold argS; omega
theorem argS_sq {a : Int} (h0 : 0 ≤ a) (h1 : a ≤ 16200000) : 0 ≤ mulS (argS a) (argS a) ∧ mulS (argS a) (argS a) ≤ 1324675879 := by
  obtain ⟨a0, a1⟩ := argS_in h0 h1
  obtain ⟨m0, m1⟩ := mul_in a0 a1 a0 a1
  unfold mulS
  omega
theorem mulS_in {u r : Int} (u0 : 0 ≤ u) (u1 : u ≤ 1686629713) (r0 : 0 ≤ r) (r1 : r ≤ 2147483648) : 0 ≤ u * r ∧ u * r ≤ 3622009745386307584 ∧ 0 ≤ mulS u r ∧ mulS u r ≤ 1686629713 := by
  obtain ⟨m0, m1⟩ := mul_in u0 u1 r0 r1
  unfold mulS
  omega
theorem divS_in {x n : Int} (x0 : 0 ≤ x) (x1 : x ≤ 1686629713) (n2 : 2 ≤ n) (n110 : n ≤ 110) : 0 ≤ divS x n ∧ divS x n ≤ 1686629770 := by
  unfold divS
  constructor
  · exact Int.ediv_nonneg (by omega) (by omega)
  · have h : (x + n / 2) / n ≤ x + n / 2 := Int.ediv_le_self _ (by omega)
    omega
theorem step_in {u r n : Int} (u0 : 0 ≤ u) (u1 : u ≤ 1686629713) (r0 : 0 ≤ r) (r1 : r ≤ 2147483648) (n2 : 2 ≤ n) (n110 : n ≤ 110) : 0 ≤ stepS u r n ∧ stepS u r n ≤ 2147483648 := by
  obtain ⟨_, _, m0, m1⟩ := mulS_in u0 u1 r0 r1
  obtain ⟨d0, d1⟩ := divS_in m0 m1 n2 n110
  unfold stepS
  omega
theorem first_in {u n : Int} (u0 : 0 ≤ u) (u1 : u ≤ 1686629713) (n2 : 2 ≤ n) (n110 : n ≤ 110) : 0 ≤ 2147483648 - divS u n ∧ 2147483648 - divS u n ≤ 2147483648 := by
  obtain ⟨d0, d1⟩ := divS_in u0 u1 n2 n110
  omega
theorem sineR_in {u : Int} (u0 : 0 ≤ u) (u1 : u ≤ 1686629713) : 0 ≤ sineR u ∧ sineR u ≤ 2147483648 := by
  have a := first_in u0 u1 (n := 110) (by decide) (by decide)
  have b := step_in u0 u1 a.1 a.2 (n := 72) (by decide) (by decide)
  have c := step_in u0 u1 b.1 b.2 (n := 42) (by decide) (by decide)
  have d := step_in u0 u1 c.1 c.2 (n := 20) (by decide) (by decide)
  exact step_in u0 u1 d.1 d.2 (n := 6) (by decide) (by decide)
theorem cosineR_in {u : Int} (u0 : 0 ≤ u) (u1 : u ≤ 1686629713) : 0 ≤ cosineR u ∧ cosineR u ≤ 2147483648 := by
  have a := first_in u0 u1 (n := 90) (by decide) (by decide)
  have b := step_in u0 u1 a.1 a.2 (n := 56) (by decide) (by decide)
  have c := step_in u0 u1 b.1 b.2 (n := 30) (by decide) (by decide)
  have d := step_in u0 u1 c.1 c.2 (n := 12) (by decide) (by decide)
  exact step_in u0 u1 d.1 d.2 (n := 2) (by decide) (by decide)
theorem sineS_in {a : Int} (h0 : 0 ≤ a) (h1 : a ≤ 16200000) : 0 ≤ sineS a ∧ sineS a ≤ 1073741824 := by
  obtain ⟨a0, a1⟩ := argS_in h0 h1
  obtain ⟨u0, u1⟩ := argS_sq h0 h1
  obtain ⟨r0, r1⟩ := sineR_in u0 (by omega)
  obtain ⟨_, _, m0, m1⟩ := mulS_in a0 a1 r0 r1
  unfold sineS
  omega
theorem cosineS_in {a : Int} (h0 : 0 ≤ a) (h1 : a ≤ 16200000) : 0 ≤ cosineS a ∧ cosineS a ≤ 1073741824 := by
  obtain ⟨u0, u1⟩ := argS_sq h0 h1
  obtain ⟨r0, r1⟩ := cosineR_in u0 (by omega)
  unfold cosineS
  omega
theorem quarterS_in {a : Int} (h0 : 0 ≤ a) (h1 : a ≤ 32400000) : 0 ≤ quarterS a ∧ quarterS a ≤ 1073741824 := by
  unfold quarterS
  split
  · exact sineS_in h0 (by omega)
  · exact cosineS_in (by omega) (by omega)
theorem sinN_in {b : Int} (h0 : 0 ≤ b) (h1 : b < 129600000) : -1073741824 ≤ sinN b ∧ sinN b ≤ 1073741824 := by
  unfold sinN
  split
  · have := quarterS_in (a := b) h0 (by omega); omega
  · split
    · have := quarterS_in (a := 64800000 - b) (by omega) (by omega); omega
    · split
      · have := quarterS_in (a := b - 64800000) (by omega) (by omega); omega
      · have := quarterS_in (a := 129600000 - b) (by omega) (by omega); omega
theorem sinS_in (a : Int) : -1073741824 ≤ sinS a ∧ sinS a ≤ 1073741824 := sinN_in (normS_in a).1 (normS_in a).2
theorem cosS_in (a : Int) : -1073741824 ≤ cosS a ∧ cosS a ≤ 1073741824 := sinS_in _
theorem mul_abs {x y A : Int} (hA : 0 ≤ A) (hx : -A ≤ x ∧ x ≤ A) (hy : -A ≤ y ∧ y ≤ A) : -(A * A) ≤ x * y ∧ x * y ≤ A * A := by
  have h1 : x.natAbs ≤ A.natAbs := by omega
  have h2 : y.natAbs ≤ A.natAbs := by omega
  have h3 := Nat.mul_le_mul h1 h2
  have e1 : (x * y).natAbs = x.natAbs * y.natAbs := Int.natAbs_mul x y
  have e2 : (A * A).natAbs = A.natAbs * A.natAbs := Int.natAbs_mul A A
  have h0 : 0 ≤ A * A := Int.mul_nonneg hA hA
  omega
theorem prod_in {x y : Int} (hx : -1073741824 ≤ x ∧ x ≤ 1073741824) (hy : -1073741824 ≤ y ∧ y ≤ 1073741824) : -1152921504606846976 ≤ x * y ∧ x * y ≤ 1152921504606846976 := mul_abs (A := 1073741824) (by decide) hx hy
theorem roundS_in {x : Int} (hx : -1152921504606846976 ≤ x ∧ x ≤ 1152921504606846976) : -1073741824 ≤ roundS x ∧ roundS x ≤ 1073741824 := by unfold roundS; omega
abbrev V3 := Int × Int × Int
def ofS (lat lon : Int) : V3 := (roundS (cosS lat * cosS lon), roundS (cosS lat * sinS lon), sinS lat)
def eastS (lon : Int) (v : V3) : Int := roundS (-sinS lon * v.1 + cosS lon * v.2.1 + 0 * v.2.2)
def northS (lat lon : Int) (v : V3) : Int := roundS (-roundS (sinS lat * cosS lon) * v.1 + -roundS (sinS lat * sinS lon) * v.2.1 + cosS lat * v.2.2)
def upS (lat lon : Int) (v : V3) : Int := roundS ((ofS lat lon).1 * v.1 + (ofS lat lon).2.1 * v.2.1 + (ofS lat lon).2.2 * v.2.2)
def localS (plat plon qlat qlon : Int) : V3 := (eastS plon (ofS qlat qlon), northS plat plon (ofS qlat qlon), upS plat plon (ofS qlat qlon))
def U3 (v : V3) : Prop := (-1073741824 ≤ v.1 ∧ v.1 ≤ 1073741824) ∧ (-1073741824 ≤ v.2.1 ∧ v.2.1 ≤ 1073741824) ∧ (-1073741824 ≤ v.2.2 ∧ v.2.2 ≤ 1073741824)
theorem ofS_in (lat lon : Int) : U3 (ofS lat lon) :=
  ⟨roundS_in (prod_in (cosS_in _) (cosS_in _)), roundS_in (prod_in (cosS_in _) (sinS_in _)), sinS_in _⟩
theorem dot_in {a b c : Int} {v : V3} (ha : -1073741824 ≤ a ∧ a ≤ 1073741824) (hb : -1073741824 ≤ b ∧ b ≤ 1073741824) (hc : -1073741824 ≤ c ∧ c ≤ 1073741824) (hv : U3 v) :
    (-1152921504606846976 ≤ a * v.1 ∧ a * v.1 ≤ 1152921504606846976) ∧ (-1152921504606846976 ≤ b * v.2.1 ∧ b * v.2.1 ≤ 1152921504606846976) ∧ (-1152921504606846976 ≤ c * v.2.2 ∧ c * v.2.2 ≤ 1152921504606846976) ∧
    -3221225472 ≤ roundS (a * v.1 + b * v.2.1 + c * v.2.2) ∧ roundS (a * v.1 + b * v.2.1 + c * v.2.2) ≤ 3221225472 := by
  have h1 := prod_in ha hv.1
  have h2 := prod_in hb hv.2.1
  have h3 := prod_in hc hv.2.2
  refine ⟨h1, h2, h3, ?_⟩
  unfold roundS
  omega
theorem neg_in {x : Int} (h : -1073741824 ≤ x ∧ x ≤ 1073741824) : -1073741824 ≤ -x ∧ -x ≤ 1073741824 := by omega
theorem localS_in (a b c d : Int) : (-3221225472 ≤ (localS a b c d).1 ∧ (localS a b c d).1 ≤ 3221225472) ∧ (-3221225472 ≤ (localS a b c d).2.1 ∧ (localS a b c d).2.1 ≤ 3221225472) ∧ (-3221225472 ≤ (localS a b c d).2.2 ∧ (localS a b c d).2.2 ≤ 3221225472) := by
  have hv := ofS_in c d
  have h1 := dot_in (neg_in (sinS_in b)) (cosS_in b) (c := 0) (by decide) hv
  have h2 := dot_in (neg_in (roundS_in (prod_in (sinS_in a) (cosS_in b)))) (neg_in (roundS_in (prod_in (sinS_in a) (sinS_in b)))) (cosS_in a) hv
  have hp := ofS_in a b
  have h3 := dot_in hp.1 hp.2.1 hp.2.2 hv
  exact ⟨h1.2.2.2, h2.2.2.2, h3.2.2.2⟩
def nearS (a c : Int) : Int :=
  if a < 0 then -(((a.natAbs / c.natAbs + if c.natAbs - a.natAbs % c.natAbs < a.natAbs % c.natAbs then 1 else 0 : Nat)) : Int)
  else ((a.natAbs / c.natAbs + if c.natAbs - a.natAbs % c.natAbs ≤ a.natAbs % c.natAbs then 1 else 0 : Nat) : Int)
def posB (lat lon : Int) : Bool := decide (-32400000 ≤ lat) && decide (lat ≤ 32400000) && decide (-64800000 < lon) && decide (lon ≤ 64800000)
def originB (lat lon : Int) : Bool := posB lat lon && (decide (-25200000 ≤ lat) && decide (lat ≤ 25200000))
def pointOkB (x y : Int) : Bool := decide (-2000000 ≤ x) && decide (x ≤ 2000000) && decide (-2000000 ≤ y) && decide (y ≤ 2000000)
def toS3 (v : V3) : (Int × Int) × Int :=
  if v.2.2 ≤ 0 then ((0, 0), 2) else if pointOkB (nearS (20626481 * v.1) v.2.2) (nearS (20626481 * v.2.1) v.2.2) then ((nearS (20626481 * v.1) v.2.2, nearS (20626481 * v.2.1) v.2.2), 0) else ((0, 0), 2)
def toPlane (olat olon qlat qlon : Int) : (Int × Int) × Int :=
  if originB olat olon && posB qlat qlon then toS3 (localS olat olon qlat qlon) else ((0, 0), 1)
end Go.Proofs.YtgoeedohgomodaaGreatDoor
