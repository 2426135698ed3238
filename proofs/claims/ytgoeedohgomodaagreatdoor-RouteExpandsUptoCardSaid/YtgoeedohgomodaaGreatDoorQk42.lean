/- Lemmas and walks. -/
import Derived.Test.YtgoeedohgomodaaGreatDoorQk15
import Derived.Test.YtgoeedohgomodaaGreatDoorShelf
import Derived.Laws.MathBits
set_option linter.unusedSimpArgs false
set_option linter.unusedVariables false
namespace Go.Proofs.YtgoeedohgomodaaGreatDoor
open Go.RowKit
set_option maxRecDepth 100000
theorem zms (n:Nat) (h:n < 2 ^ 64):n < 2 ^ Lib.bitLen n:=by
  induction n using Nat.strongRecOn with
  | _ n ih=>
    by_cases h0:n=0
    · subst h0;exact Nat.pow_pos (by decide)
    · have:=ih (n / 2) (by omega) (by omega)
      rw [Lib.bitLen_half n h0 h,Nat.pow_add]
      omega
set_option maxHeartbeats 4000000 in
theorem ztt (n:Nat) (hn:n≤4611686018427387904) (w:World):Calls Tryz.prog 165 #[.int .i64 (n:Int)] w (RetP w (.int .i64 (zfu n:Int))):=by
  by_cases h0:n=0
  · subst h0
    go_enter Tryz.func165,Tryz.ntmps165
    go_wp2
    go_ret
    exact RetP.int rfl rfl
  have kl:=Lib.hid (Tryz.bits_Len64 (n:Int) w (by omega) (by omega))
  rw [Int.toNat_natCast] at kl
  have hpos:¬ ((n:Int)≤0):=by omega
  obtain ⟨L,hL⟩:∃ L,L=Lib.bitLen n:=⟨_,rfl⟩
  have hL1:n < 2 ^ L:=by rw [hL];exact zms n (by omega)
  have hL2:L≤63:=by
    rw [hL]
    exact Lib.bitLen_le n 63 (by decide) (by omega)
  rw [← hL] at kl
  clear hL
  obtain ⟨x0,hx⟩:∃ x0:Nat,x0=2 ^ ((L+1) / 2):=⟨_,rfl⟩
  have hx0:n < x0 * x0:=by
    rw [hx,← Nat.pow_add]
    exact Nat.lt_of_lt_of_le hL1 (Nat.pow_le_pow_right (by decide) (by omega))
  have hp32:x0≤4294967296:=by
    have:2 ^ ((L+1) / 2)≤2 ^ 32:=Nat.pow_le_pow_right (by decide) (by omega)
    rw [hx]
    exact this
  have hp0:0 < x0:=by rw [hx];exact Nat.pow_pos (by decide)
  have e3:wrap64 ((2:Int) ^ ((L+1) / 2))=(x0:Int):=by
    have:((2:Int) ^ ((L+1) / 2))=(x0:Int):=by rw [hx];exact (Int.natCast_pow 2 _).symm
    rw [this]
    exact IntWalk.wrap64_in _ (by omega)
  have HX:=Lib.hid (zxw hx0)
  clear hx0 hL1 hx
  go_enter Tryz.func165,Tryz.ntmps165
  go_upto_region 4 with (go_at_call 200;refine kl.out.mono fun e w' hh=>?_;obtain ⟨rfl,rfl⟩:=hh)
  clear kl
  generalize hw:w'=w at *
  clear hw
  go_loopw [3] (fun xv wr=>∃ x:Nat,xv=.int .i64 x∧0 < x∧x≤4294967296∧zfu n≤x∧wr=w) (fun xv _=>(intOf xv).toNat)
  case atStart=>exact ⟨x0,by rw [e3],hp0,hp32,by have:=HX.out;omega,rfl⟩
  case round=>
    obtain ⟨x,rfl,h1,h2,h3,rfl⟩:=hrel
    have hs:=zvf h1 h3
    have hd:=zwP h1 h3
    have HD:=Lib.hid (fun h=>zvg h1 h3 h)
    have HE:=zhz (r:=zfu n) (zdV n).1 (zdV n).2
    have hq:((n:Int) / (x:Int))=((n / x:Nat):Int):=(Int.natCast_ediv n x).symm
    have hx0:¬ ((x:Int)=0):=by omega
    generalize n / x=q at *
    have hsum:wrap64 ((x:Int)+(q:Int))=((x+q:Nat):Int):=by rw [IntWalk.wrap64_in _ (by omega)];rfl
    by_cases hy:x≤(x+q) / 2
    · have hex:=HD.out hy
      have HX:=Lib.hid hex
      clear hex HD hs
      go_wp2
      go_ret
      exact RetP.int (by rw [← HX.out]) rfl
    · clear HD
      have hsp:=zwO (n:=n) (by omega)
      go_wp2
      go_roundw
      case rel=>exact ⟨(x+q) / 2,by go_num,by omega,by omega,hs,trivial⟩
      case measure=>simp [intOf];omega
end Go.Proofs.YtgoeedohgomodaaGreatDoor
