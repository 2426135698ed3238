/- Lemmas and walks. -/
import Derived.Test.YtgoeedohgomodaaGreatDoorQk01
set_option linter.unusedSimpArgs false
set_option linter.unusedVariables false
namespace Go.Proofs.YtgoeedohgomodaaGreatDoor
def zfu:Nat→Nat
  | 0=>0
  | n+1=>if (zfu n+1) * (zfu n+1)≤n+1 then zfu n+1 else zfu n
theorem zdV:∀ n,zfu n * zfu n≤n∧n < (zfu n+1) * (zfu n+1)
  | 0=>⟨Nat.le_refl _,by decide⟩
  | n+1=>by
    obtain ⟨h1,h2⟩:=zdV n
    unfold zfu
    generalize zfu n=s at *
    split
    · rename_i h
      refine ⟨h,?_⟩
      have:(s+1+1) * (s+1+1)=(s+1) * (s+1)+2 * (s+1)+1:=by simp only [Nat.add_mul,Nat.mul_add];omega
      omega
    · rename_i h
      exact ⟨by omega,by omega⟩
theorem zr5 {a b:Nat} (h:a≤b):a * a≤b * b:=Nat.mul_le_mul h h
theorem zhz {r n:Nat} (h1:r * r≤n) (h2:n < (r+1) * (r+1)):r=zfu n:=by
  obtain ⟨k1,k2⟩:=zdV n
  generalize zfu n=s at *
  rcases Nat.lt_trichotomy r s with h | h | h
  · have:=zr5 (show r+1≤s from h);omega
  · exact h
  · have:=zr5 (show s+1≤r from h);omega
theorem zvf {n x:Nat} (hx:0 < x) (h:zfu n≤x):zfu n≤(x+n / x) / 2:=by
  obtain ⟨k1,k2⟩:=zdV n
  generalize zfu n=s at *
  rcases Nat.lt_or_ge (x+n / x) (2 * s) with hlt | hge
  · exfalso
    have h1:n < (n / x+1) * x:=by
      have h0:=Nat.div_add_mod n x
      have h2:=Nat.mod_lt n hx
      rw [Nat.add_mul,Nat.one_mul,Nat.mul_comm]
      omega
    obtain ⟨d,rfl⟩:∃ d,x=s+d:=⟨x - s,by omega⟩
    have h3:(n / (s+d)+1) * (s+d)≤(s - d) * (s+d):=Nat.mul_le_mul_right _ (by omega)
    have h4:(s - d) * (s+d)=s * s - d * d:=by rw [Nat.mul_comm];exact (Nat.mul_self_sub_mul_self_eq s d).symm
    omega
  · omega
theorem zvg {n x:Nat} (hx:0 < x) (h:zfu n≤x) (hy:x≤(x+n / x) / 2):x=zfu n:=by
  have h1:x≤n / x:=by omega
  have h2:=(Nat.le_div_iff_mul_le hx).1 h1
  obtain ⟨k1,k2⟩:=zdV n
  refine zhz h2 ?_
  have:=zr5 (show zfu n+1≤x+1 by omega)
  omega
theorem zwP {n x:Nat} (hx:0 < x) (h:zfu n≤x):n / x≤zfu n+2:=by
  obtain ⟨k1,k2⟩:=zdV n
  generalize zfu n=s at *
  rcases Nat.eq_zero_or_pos s with rfl | hs
  · have:n < 1:=by omega
    have:n=0:=by omega
    subst this
    simp
  · refine Nat.le_of_lt_succ ((Nat.div_lt_iff_lt_mul hx).2 ?_)
    have h1:(s+3) * s≤(s+2).succ * x:=Nat.mul_le_mul (by omega) h
    have h2:(s+1) * (s+1)=s * s+2 * s+1:=by simp only [Nat.add_mul,Nat.mul_add];omega
    have h3:(s+3) * s=s * s+3 * s:=by simp only [Nat.add_mul]
    omega
theorem zwO {n:Nat} (h:0 < n):0 < zfu n:=by
  obtain ⟨k1,k2⟩:=zdV n
  rcases Nat.eq_zero_or_pos (zfu n) with h0 | h0
  · rw [h0] at k2;omega
  · exact h0
theorem zxw {n m:Nat} (h:n < m * m):zfu n < m:=by
  obtain ⟨k1,k2⟩:=zdV n
  rcases Nat.lt_or_ge (zfu n) m with h0 | h0
  · exact h0
  · have:=zr5 h0
    omega
end Go.Proofs.YtgoeedohgomodaaGreatDoor
