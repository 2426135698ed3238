/- Layer 57's inputs in plain Lean: their bytes, and that a valid input comes back from its bytes. No program in sight. -/
import Derived.Test.YtjcjglbdklmomaaGreatDoorKit
namespace Go.Proofs.YtjcjglbdklmomaaGreatDoor
set_option linter.unusedVariables false
set_option linter.unusedSimpArgs false
structure Rep where
  source : Int
  kind : Int
  px : Int
  py : Int
  value : Int
  bound : Int
  weight : Int
  tick : Int
structure Sense where
  tick : Int
  reps : List Rep
  ve : Int
  vn : Int
  drift : Int
  alt : Int
  vs : Int
  cas : Int
  fuel : Int
  ground : Bool
  thrust : Bool
  stopped : Bool
  cmd : List UInt8
/-- The byte i of a number that is not negative. -/
def byteOf (n : Int) (i : Nat) : UInt8 := UInt8.ofNat (n / 256 ^ i % 256).toNat
/-- The lowest k bytes, the highest first. -/
def bigB (n : Int) : Nat → List UInt8
  | 0 => []
  | k + 1 => byteOf n k :: bigB n k
def numB (l : List UInt8) : Int := l.foldl (fun a b => a * 256 + b.toNat) 0
theorem byteOf_nat (n : Int) (i : Nat) : ((byteOf n i).toNat : Int) = n / 256 ^ i % 256 := by
  unfold byteOf
  have h0 : 0 ≤ n / 256 ^ i % 256 := Int.emod_nonneg _ (by decide)
  have h1 : n / 256 ^ i % 256 < 256 := Int.emod_lt_of_pos _ (by decide)
  rw [UInt8.toNat_ofNat']
  omega
theorem foldl_num (l : List UInt8) (a : Int) : l.foldl (fun a b => a * 256 + (b.toNat : Int)) a = a * 256 ^ l.length + numB l := by
  unfold numB
  induction l generalizing a with
  | nil => simp
  | cons x r ih =>
    rw [List.foldl_cons, ih, List.foldl_cons, ih (0 * 256 + (x.toNat : Int)), List.length_cons, Int.pow_succ]
    rw [Int.add_mul, Int.zero_mul, Int.zero_add, Int.mul_assoc, Int.mul_comm 256 (256 ^ r.length), Int.add_assoc]
theorem numB_cons (x : UInt8) (r : List UInt8) : numB (x :: r) = (x.toNat : Int) * 256 ^ r.length + numB r := by
  have := foldl_num r (0 * 256 + (x.toNat : Int))
  unfold numB at *
  rw [List.foldl_cons, this]; simp
theorem bigB_len (n : Int) : ∀ k, (bigB n k).length = k
  | 0 => rfl
  | k + 1 => by rw [bigB, List.length_cons, bigB_len n k]
theorem emod_mul256 (n m : Int) (hm : 0 < m) : n % (m * 256) = n % m + m * (n / m % 256) := by
  have h3 : 0 ≤ n % m := Int.emod_nonneg n (by omega)
  have h4 : n % m < m := Int.emod_lt_of_pos n hm
  have h5 : 0 ≤ n / m % 256 := Int.emod_nonneg _ (by decide)
  have h6 : n / m % 256 ≤ 255 := by have := Int.emod_lt_of_pos (n / m) (show (0 : Int) < 256 by decide); omega
  have h7 : 0 ≤ m * (n / m % 256) := Int.mul_nonneg (by omega) h5
  have h8 : m * (n / m % 256) ≤ m * 255 := Int.mul_le_mul_of_nonneg_left h6 (by omega)
  have e : n = (n % m + m * (n / m % 256)) + (m * 256) * (n / m / 256) := by
    have h1 := Int.mul_ediv_add_emod n m
    have h2 := Int.mul_ediv_add_emod (n / m) 256
    have h9 : m * (n / m) = m * (256 * (n / m / 256) + n / m % 256) := by rw [h2]
    rw [Int.mul_add, ← Int.mul_assoc] at h9
    omega
  have e2 : n % (m * 256) = ((n % m + m * (n / m % 256)) + (m * 256) * (n / m / 256)) % (m * 256) := by rw [← e]
  rw [e2, Int.add_mul_emod_self_left]
  exact Int.emod_eq_of_lt (by omega) (by omega)
theorem numB_bigB (n : Int) : ∀ k, numB (bigB n k) = n % 256 ^ k
  | 0 => by simp [bigB, numB, Int.emod_one]
  | k + 1 => by
    rw [bigB, numB_cons, bigB_len, byteOf_nat, numB_bigB n k, Int.pow_succ]
    have e : n % (256 ^ k * 256) = n % 256 ^ k + 256 ^ k * (n / 256 ^ k % 256) := emod_mul256 n (256 ^ k) (Int.pow_pos (by decide))
    rw [e, Int.mul_comm (n / 256 ^ k % 256)]
    omega
def u64 (n : Int) : Int := n % 18446744073709551616
/-- A signed number of four bytes. -/
def s32 (n : Int) : Int := if n < 2147483648 then n else n - 4294967296
def s64 (n : Int) : Int := if n < 9223372036854775808 then n else n - 18446744073709551616
theorem small_back {v : Int} (h0 : -2147483648 ≤ v) (h1 : v < 2147483648) : s32 (numB (bigB (u64 v) 4)) = v := by
  rw [numB_bigB]
  unfold s32 u64
  have e : (256 : Int) ^ 4 = 4294967296 := by decide
  rw [e]
  split <;> omega
theorem big_back {v : Int} (h0 : 0 ≤ v) (h1 : v < 9223372036854775808) : s64 (numB (bigB (u64 v) 8)) = v := by
  rw [numB_bigB]
  unfold s64 u64
  have e : (256 : Int) ^ 8 = 18446744073709551616 := by decide
  rw [e]
  split <;> omega
theorem fuel_back {v : Int} (h0 : 0 ≤ v) (h1 : v < 4294967296) : numB (bigB (u64 v) 4) = v := by
  rw [numB_bigB]
  unfold u64
  have e : (256 : Int) ^ 4 = 4294967296 := by decide
  rw [e]
  omega
def inB (n lo hi : Int) : Bool := decide (lo ≤ n) && decide (n ≤ hi)
def xyB (x y : Int) : Bool := inB x (-2000000) 2000000 && inB y (-2000000) 2000000
def boundOf (k : Int) : Int := if k == 3 then 3600000 else 600000
def valueOf (k : Int) : Int := if k == 2 then 8000000 else if k == 3 then 129599999 else 0
/-- The first error of a report. -/
def repCheck (r : Rep) : Int :=
  if !inB r.source 1 8 || !inB r.kind 1 3 || !xyB r.px r.py || !inB r.weight 1 16 then 1
  else if !inB r.tick 0 1099511627776 || !inB r.bound 0 (boundOf r.kind) || !inB r.value 0 (valueOf r.kind) then 2 else 0
def repsCheck : List Rep → Int
  | [] => 0
  | r :: rs => if (repCheck r != 0) = true then repCheck r else repsCheck rs
def cmdB (l : List UInt8) : Bool := l.all fun c => decide (32 ≤ c.toNat) && decide (c.toNat ≤ 126)
def senseTail (s : Sense) : Int :=
  if !inB s.ve (-2000) 2000 || !inB s.vn (-2000) 2000 || !inB s.drift 0 1000 || !inB s.alt (-200000) 6000000 || !inB s.vs (-10000) 10000 || !inB s.cas 0 1000 || !inB s.fuel 0 3000000000 then 2
  else if 120 < s.cmd.length then 3 else if cmdB s.cmd then 0 else 4
/-- The first error of an input. -/
def senseCheck (s : Sense) : Int :=
  if !inB s.tick 0 1099511627776 then 2 else if 4 < s.reps.length then 3 else if (repsCheck s.reps != 0) = true then repsCheck s.reps else senseTail s
def flagsB (s : Sense) : UInt8 := UInt8.ofNat ((if s.ground then 1 else 0) + (if s.thrust then 2 else 0) + (if s.stopped then 4 else 0))
def repBytes (r : Rep) : List UInt8 := [byteOf r.source 0, byteOf r.kind 0, byteOf r.weight 0] ++ bigB (u64 r.px) 4 ++ bigB (u64 r.py) 4 ++ bigB (u64 r.value) 8 ++ bigB (u64 r.bound) 8 ++ bigB (u64 r.tick) 8
def encB (s : Sense) : List UInt8 :=
  [flagsB s, byteOf s.reps.length 0] ++ bigB (u64 s.tick) 8 ++ bigB (u64 s.ve) 4 ++ bigB (u64 s.vn) 4 ++ bigB (u64 s.drift) 4 ++ bigB (u64 s.alt) 4 ++ bigB (u64 s.vs) 4 ++ bigB (u64 s.cas) 4 ++ bigB (u64 s.fuel) 4 ++ s.reps.flatMap repBytes ++ s.cmd
/-- What is left to read, and whether too little was there. -/
abbrev Scan := List UInt8 × Bool
def tk (n : Nat) (st : Scan) : List UInt8 × Scan := if st.1.length < n then (List.replicate n 0, (st.1, true)) else (st.1.take n, (st.1.drop n, st.2))
theorem tk_app (a r : List UInt8) (b : Bool) (n : Nat) (h : a.length = n) : tk n (a ++ r, b) = (a, (r, b)) := by
  unfold tk
  subst h
  rw [if_neg (by simp)]
  simp
def oneS (st : Scan) : UInt8 × Scan := ((tk 1 st).1.headD 0, (tk 1 st).2)
def smallS (st : Scan) : Int × Scan := (s32 (numB (tk 4 st).1), (tk 4 st).2)
def bigS (st : Scan) : Int × Scan := (s64 (numB (tk 8 st).1), (tk 8 st).2)
theorem oneS_app (x : UInt8) (r : List UInt8) (b : Bool) : oneS (x :: r, b) = (x, (r, b)) := by
  have := tk_app [x] r b 1 rfl
  unfold oneS
  rw [show (x :: r, b) = ([x] ++ r, b) from rfl, this]; rfl
theorem smallS_app {v : Int} (h0 : -2147483648 ≤ v) (h1 : v < 2147483648) (r : List UInt8) (b : Bool) : smallS (bigB (u64 v) 4 ++ r, b) = (v, (r, b)) := by
  unfold smallS
  rw [tk_app _ r b 4 (bigB_len _ 4)]
  simp only [small_back h0 h1]
theorem bigS_app {v : Int} (h0 : 0 ≤ v) (h1 : v < 9223372036854775808) (r : List UInt8) (b : Bool) : bigS (bigB (u64 v) 8 ++ r, b) = (v, (r, b)) := by
  unfold bigS
  rw [tk_app _ r b 8 (bigB_len _ 8)]
  simp only [big_back h0 h1]
def repS (st : Scan) : Rep × Scan :=
  let a := oneS st; let k := oneS a.2; let wt := oneS k.2; let x := smallS wt.2; let y := smallS x.2; let v := bigS y.2; let bd := bigS v.2; let t := bigS bd.2
  (⟨a.1.toNat, k.1.toNat, x.1, y.1, v.1, bd.1, wt.1.toNat, t.1⟩, t.2)
def repsS : Nat → Scan → List Rep × Scan
  | 0, st => ([], st)
  | n + 1, st => if st.2 then ([], st) else (((repS st).1 :: (repsS n (repS st).2).1), (repsS n (repS st).2).2)
def senseS (p : List UInt8) : Sense × Bool :=
  let f := oneS (p, false); let n := oneS f.2; let t := bigS n.2; let ve := smallS t.2; let vn := smallS ve.2; let dr := smallS vn.2; let al := smallS dr.2; let vs := smallS al.2; let ca := smallS vs.2
  let fu := tk 4 ca.2; let rs := repsS n.1.toNat fu.2
  (⟨t.1, rs.1, ve.1, vn.1, dr.1, al.1, vs.1, ca.1, numB fu.1, f.1.toNat % 2 == 1, f.1.toNat / 2 % 2 == 1, f.1.toNat / 4 % 2 == 1, rs.2.1⟩, rs.2.2)
theorem byte0 {n : Int} (h0 : 0 ≤ n) (h1 : n < 256) : ((byteOf n 0).toNat : Int) = n := by
  rw [byteOf_nat]; simp; omega
theorem repS_app {r : Rep} (h : repCheck r = 0) (rest : List UInt8) (b : Bool) : repS (repBytes r ++ rest, b) = (r, (rest, b)) := by
  have hv : r.value ≤ 129599999 ∧ 0 ≤ r.value ∧ 0 ≤ r.bound ∧ r.bound ≤ 3600000 ∧ 0 ≤ r.tick ∧ r.tick ≤ 1099511627776 ∧ 1 ≤ r.source ∧ r.source ≤ 8 ∧ 1 ≤ r.kind ∧ r.kind ≤ 3 ∧ -2000000 ≤ r.px ∧ r.px ≤ 2000000 ∧ -2000000 ≤ r.py ∧ r.py ≤ 2000000 ∧ 1 ≤ r.weight ∧ r.weight ≤ 16 := by
    unfold repCheck at h
    split at h
    · simp at h
    · split at h
      · simp at h
      · rename_i h1 h2
        simp [inB, xyB] at h1 h2
        have hb : boundOf r.kind ≤ 3600000 := by unfold boundOf; split <;> omega
        have hw : valueOf r.kind ≤ 129599999 := by unfold valueOf; split <;> (try split) <;> omega
        omega
  obtain ⟨v1, v2, v3, v4, v5, v6, v7, v8, v9, v10, v11, v12, v13, v14, v15, v16⟩ := hv
  unfold repS repBytes
  simp only [List.append_assoc, List.cons_append, List.nil_append, oneS_app]
  rw [smallS_app (by omega) (by omega)]
  simp only []
  rw [smallS_app (by omega) (by omega)]
  simp only []
  rw [bigS_app (by omega) (by omega)]
  simp only []
  rw [bigS_app (by omega) (by omega)]
  simp only []
  rw [bigS_app (by omega) (by omega)]
  simp only [byte0 (show 0 ≤ r.source by omega) (by omega), byte0 (show 0 ≤ r.kind by omega) (by omega), byte0 (show 0 ≤ r.weight by omega) (by omega)]
theorem repsS_app : ∀ (rs : List Rep) (rest : List UInt8), repsCheck rs = 0 → repsS rs.length (rs.flatMap repBytes ++ rest, false) = (rs, (rest, false))
  | [], rest, _ => by simp [repsS]
  | r :: rs, rest, h => by
    unfold repsCheck at h
    split at h
    · rename_i h1; simp [h] at h1
    · rename_i h1
      have h1 : repCheck r = 0 := by simpa using h1
      rw [List.length_cons, repsS, List.flatMap_cons, List.append_assoc, repS_app h1, repsS_app rs rest h]
      rfl
theorem flags_back (s : Sense) : ((flagsB s).toNat % 2 == 1) = s.ground ∧ ((flagsB s).toNat / 2 % 2 == 1) = s.thrust ∧ ((flagsB s).toNat / 4 % 2 == 1) = s.stopped := by
  unfold flagsB
  cases s.ground <;> cases s.thrust <;> cases s.stopped <;> decide
theorem tk_le (n : Nat) (st : Scan) : (tk n st).2.1.length ≤ st.1.length := by
  unfold tk; split <;> simp
theorem oneS_le (st : Scan) : (oneS st).2.1.length ≤ st.1.length := tk_le 1 st
theorem smallS_le (st : Scan) : (smallS st).2.1.length ≤ st.1.length := tk_le 4 st
theorem bigS_le (st : Scan) : (bigS st).2.1.length ≤ st.1.length := tk_le 8 st
theorem repS_st (st : Scan) : (repS st).2 = (bigS (bigS (bigS (smallS (smallS (oneS (oneS (oneS st).2).2).2).2).2).2).2).2 := by simp only [repS]
theorem repS_le (st : Scan) : (repS st).2.1.length ≤ st.1.length := by
  rw [repS_st]
  have h0 := oneS_le st
  generalize (oneS st).2 = z0 at *
  have h1 := oneS_le z0
  generalize (oneS z0).2 = z1 at *
  have h2 := oneS_le z1
  generalize (oneS z1).2 = z2 at *
  have h3 := smallS_le z2
  generalize (smallS z2).2 = z3 at *
  have h4 := smallS_le z3
  generalize (smallS z3).2 = z4 at *
  have h5 := bigS_le z4
  generalize (bigS z4).2 = z5 at *
  have h6 := bigS_le z5
  generalize (bigS z5).2 = z6 at *
  have h7 := bigS_le z6
  generalize (bigS z6).2 = z7 at *
  omega
theorem repsS_le : ∀ (n : Nat) (st : Scan), (repsS n st).2.1.length ≤ st.1.length
  | 0, st => by simp [repsS]
  | n + 1, st => by
    unfold repsS
    split
    · exact Nat.le_refl _
    · exact Nat.le_trans (repsS_le n _) (repS_le st)
theorem senseS_cmd (p : List UInt8) : (senseS p).1.cmd = (repsS (oneS (oneS (p, false)).2).1.toNat (tk 4 (smallS (smallS (smallS (smallS (smallS (smallS (bigS (oneS (oneS (p, false)).2).2).2).2).2).2).2).2).2).2).2.1 := by simp only [senseS]
theorem senseS_le (p : List UInt8) : (senseS p).1.cmd.length ≤ p.length := by
  rw [senseS_cmd]
  have h : (oneS (p, false)).2.1.length ≤ p.length := oneS_le (p, false)
  generalize (oneS (oneS (p, false)).2).1.toNat = n
  generalize (oneS (p, false)).2 = y at *
  have h0 := oneS_le y
  generalize (oneS y).2 = z0 at *
  have h1 := bigS_le z0
  generalize (bigS z0).2 = z1 at *
  have h2 := smallS_le z1
  generalize (smallS z1).2 = z2 at *
  have h3 := smallS_le z2
  generalize (smallS z2).2 = z3 at *
  have h4 := smallS_le z3
  generalize (smallS z3).2 = z4 at *
  have h5 := smallS_le z4
  generalize (smallS z4).2 = z5 at *
  have h6 := smallS_le z5
  generalize (smallS z5).2 = z6 at *
  have h7 := smallS_le z6
  generalize (smallS z6).2 = z7 at *
  have h8 := tk_le 4 z7
  generalize (tk 4 z7).2 = z8 at *
  have h9 := repsS_le n z8
  omega
theorem encB_len (s : Sense) : (encB s).length = 38 + 35 * s.reps.length + s.cmd.length := by
  have h : ∀ l : List Rep, (l.flatMap repBytes).length = 35 * l.length := by
    intro l
    induction l with
    | nil => rfl
    | cons x r ih => rw [List.flatMap_cons, List.length_append, ih, List.length_cons]; simp [repBytes, bigB_len]; omega
  unfold encB
  simp only [List.length_append, h, bigB_len, List.length_cons, List.length_nil]
/-- What Decode returns. -/
def decS (p : List UInt8) : Option Sense :=
  if (senseS p).2 = false ∧ senseCheck (senseS p).1 = 0 ∧ p = encB (senseS p).1 then some (senseS p).1 else none
/-- A valid input comes back from its bytes. -/
theorem senseS_enc {s : Sense} (h : senseCheck s = 0) : senseS (encB s) = (s, false) := by
  have hv : 0 ≤ s.tick ∧ s.tick ≤ 1099511627776 ∧ s.reps.length ≤ 4 ∧ repsCheck s.reps = 0 ∧ senseTail s = 0 := by
    unfold senseCheck at h
    split at h
    · simp at h
    · split at h
      · simp at h
      · split at h
        · rename_i h1; simp [h] at h1
        · rename_i h1 h2 h3
          simp [inB] at h1
          exact ⟨h1.1, h1.2, by omega, by simpa using h3, h⟩
  obtain ⟨v1, v2, v3, v4, v5⟩ := hv
  have hw : -2000 ≤ s.ve ∧ s.ve ≤ 2000 ∧ -2000 ≤ s.vn ∧ s.vn ≤ 2000 ∧ 0 ≤ s.drift ∧ s.drift ≤ 1000 ∧ -200000 ≤ s.alt ∧ s.alt ≤ 6000000 ∧ -10000 ≤ s.vs ∧ s.vs ≤ 10000 ∧ 0 ≤ s.cas ∧ s.cas ≤ 1000 ∧ 0 ≤ s.fuel ∧ s.fuel ≤ 3000000000 := by
    unfold senseTail at v5
    split at v5
    · simp at v5
    · rename_i h1
      simp [inB] at h1
      omega
  obtain ⟨w1, w2, w3, w4, w5, w6, w7, w8, w9, w10, w11, w12, w13, w14⟩ := hw
  obtain ⟨f1, f2, f3⟩ := flags_back s
  unfold senseS encB
  simp only [List.append_assoc, List.cons_append, List.nil_append, oneS_app]
  rw [bigS_app v1 (by omega)]
  simp only []
  rw [smallS_app (by omega) (by omega)]
  simp only []
  rw [smallS_app (by omega) (by omega)]
  simp only []
  rw [smallS_app (by omega) (by omega)]
  simp only []
  rw [smallS_app (by omega) (by omega)]
  simp only []
  rw [smallS_app (by omega) (by omega)]
  simp only []
  rw [smallS_app (by omega) (by omega)]
  simp only []
  rw [tk_app _ _ _ 4 (bigB_len _ 4)]
  have hn : (byteOf (s.reps.length : Int) 0).toNat = s.reps.length := by
    have := byte0 (n := (s.reps.length : Int)) (by omega) (by omega)
    omega
  simp only [hn, repsS_app s.reps s.cmd v4, fuel_back w13 (by omega : s.fuel < 4294967296), f1, f2, f3]
theorem decS_enc {s : Sense} (h : senseCheck s = 0) : decS (encB s) = some s := by
  unfold decS
  rw [senseS_enc h]
  simp [h]
end Go.Proofs.YtjcjglbdklmomaaGreatDoor
