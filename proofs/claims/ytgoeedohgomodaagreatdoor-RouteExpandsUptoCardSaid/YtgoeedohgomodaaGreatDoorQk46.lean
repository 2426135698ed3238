/- Lemmas and walks. -/
import Derived.Test.YtgoeedohgomodaaGreatDoorQk37
import Derived.Test.YtgoeedohgomodaaGreatDoorQk31
set_option linter.unusedSimpArgs false
set_option linter.unusedVariables false
namespace Go.Proofs.YtgoeedohgomodaaGreatDoor
open Go.RowKit Go.Sort
set_option maxRecDepth 100000
theorem zkG {w w':World} {r:List UInt8 × Int} {a:List UInt8} {n:Int} (h:r=(a,n)) (B:Below w.heap.size w w'):Ret w (.tuple #[.string ⟨r.1.toArray⟩, .int .i64 r.2]) (.returned (.tuple #[.string ⟨a.toArray⟩, .int .i64 n])) w':=by
  subst h
  exact ⟨rfl,B⟩
def zjk (l:List FixV) (a:List UInt8):List UInt8 × Int:=match zgq a l with
  | none=>([],6)
  | some f=>(f.ref,0)
theorem znz (l:List FixV) (s:List UInt8):zbi l s=if !zcf s 47 6 then ([],4) else
    if (cutAt 47 s).2.1 ≠ [] then (if (zc7 l ((cutAt 47 s).2.1 ++ 47 :: (cutAt 47 s).1)).isSome then ((cutAt 47 s).2.1 ++ 47 :: (cutAt 47 s).1,0) else ([],6)) else zjk l (cutAt 47 s).1:=rfl
theorem zkW (a:List UInt8) (l:List FixV) {k:Nat} (h:k < l.length):zgq a (l.drop k)=if l[k].kind == 5 && l[k].ident == a then some l[k] else zgq a (l.drop (k+1)):=by
  rw [List.drop_eq_getElem_cons h];rfl
attribute [local go_sem] zdp
attribute [local go_sem ↓] zdI
attribute [local go_sem] zd3
set_option maxHeartbeats 4000000 in
theorem zkX (d:DBs) (l:List FixV) (s:List UInt8) (w:World) (hL:Laid w) (hs:s.length≤4000000000) (hD:DbAt w d l):
    Calls Tryz.prog 15 #[.agg d.cells, .string ⟨s.toArray⟩] w (Ret w (.tuple #[.string ⟨(zbi l s).1.toArray⟩, .int .i64 (zbi l s).2])):=by
  have hc:=zcF 47 s
  have kp:=Lib.hid (fun (W':World) (b:Below w.heap.size w W')=>zkI s W' (hL.below b) hs)
  have kf:=Lib.hid (fun (r:List UInt8) (W':World) (b:Below w.heap.size w W')=>zk7 d l r W' (hD.below b))
  have HC:=Lib.hid (znz l s)
  have HI:=Lib.hid (fun (W':World) (b:Below w.heap.size w W')=>hD.items.below b)
  have hsz:=hD.ok.size
  have h6:=hD.ok.c6
  rw [hD.fn] at h6
  have HCAP:=Lib.hid hD.cap
  have hln:=hD.len
  have HSM:=Lib.hid hD.small
  generalize zbi l s=out at *
  generalize cutAt 47 s=q at *
  obtain ⟨a,b,f⟩:=q
  simp only at hc
  obtain ⟨ha,hb⟩:=hc
  generalize zcf s 47 6=ok at *
  clear hD hL
  go_enter Tryz.func15,Tryz.ntmps15
  go_upto_region 1 with (fail)
  have X0:Blk (w.alloc (.cells d.cells 37)) w.heap.size d.cells:=Blk.new w _ _
  have B0:=zoi w (.cells d.cells 37)
  generalize w.alloc _=W at X0 B0 ⊢
  obtain ⟨g0,hg0⟩:∃ g,g=w.heap.size:=⟨_,rfl⟩
  rw [← hg0] at X0 ⊢
  clear hg0
  cases ok with
  | false=>
    have HO:=Lib.hid (HC.out.trans (if_pos rfl))
    clear HC
    go_wp2_with (go_at_call 30;(with_reducible refine zaj (kp.out _ B0) ?_);intro w1 b1 _ _ _)
    go_ret2
    exact zkG HO.out (zaa B0 b1)
  | true=>
  have HC:=Lib.hid (HC.out.trans (if_neg (by decide)))
  by_cases h:b=[]
  · subst h
    have HC:=Lib.hid (show out=zjk l a from HC.out.trans (if_neg (by simp)))
    go_upto_region 9 with (go_at_call 30;(with_reducible refine zaj (kp.out _ B0) ?_);intro w1 b1 _ _ _)
    have X1:=X0.step b1
    have B1:=zaa B0 b1
    have k6:w1.cell? ⟨g0,6,none⟩=some (.slice d.fa l.length d.fc):=by rw [X1.cell 6];exact h6
    go_upto_region 10 with (fail)
    have HB:=Lib.hid B1
    clear X0 X1 B0 B1 k6 kp kf h6 hsz b1
    go_loopw [41] (fun iv wr=>∃ k:Nat,k≤l.length∧iv=.int .i64 k∧zgq a l=zgq a (l.drop k)∧Below w1.heap.size w1 wr) (fun iv _=>l.length - (intOf iv).toNat)
    case atStart=>exact ⟨0,by omega,rfl,rfl,Below.refl _ _⟩
    case round=>
      obtain ⟨k,hk,rfl,hf,BW⟩:=hrel
      have HF:=Lib.hid hf
      clear hf
      have BB:=Lib.hid (zaa HB.out BW)
      by_cases hlt:k < l.length
      · have hlt':(k:Int) < (l.length:Int):=by omega
        have hkc:k < d.fc:=by have:=HCAP.out;omega
        obtain ⟨b2,o2,hA,hb2,_⟩:=(HI.out wr BB.out).get (k:=k) (by simpa using hlt)
        have hx:=zgx (by have:=HI.out wr BB.out;rw [hA] at this;exact this) (Below.refl _ _) hlt
        have hsm:=HSM.out _ (List.getElem_mem hlt)
        have HD:=Lib.hid (HF.out.trans (zkW a l hlt))
        generalize l[k]=y at *
        have i1:za1 wr b2 (o2+k * 7):=⟨_,hx⟩
        have i2:zbe wr b2 (o2+k * 7)=y:=za0 hx
        rw [hA]
        clear hx HF
        go_upto_region 12 with (fail)
        have Z:=Blk.new wr y.arr 84
        have D:=zad wr (.cells y.arr 84)
        have B5:=zaa BB.out D
        have B6:=zaa BW D
        clear i1 i2
        generalize wr.alloc _=W5 at Z B5 B6 ⊢
        generalize wr.heap.size=g7 at Z ⊢
        have z0:W5.cell? ⟨g7,0,none⟩=some (.string ⟨y.ident.toArray⟩):=Z.cell 0
        have z2:W5.cell? ⟨g7,2,none⟩=some (.int .u8 y.kind):=Z.cell 2
        by_cases hm:y.kind=5∧y.ident=a
        · have e1:(y.kind == 5)=true:=by simpa using hm.1
          have e2:(y.ident == a)=true:=by simpa using hm.2
          have HO:=Lib.hid (show out=(y.ref,0) by rw [HC.out];unfold zjk;rw [HD.out,e1,e2];rfl)
          have kr:=Lib.hid (zhB y hsm W5)
          have j1:za1 W5 g7 0:=⟨_,Z.is_fixv⟩
          have j2:zbe W5 g7 0=y:=za0 Z.is_fixv
          clear hm HD
          go_wp2_with (go_at_call 38;(with_reducible refine zaj kr.out ?_);intro w6 b6 _ _ _)
          go_ret2
          exact zkG HO.out (zaa B5 b6)
        · have HD:=Lib.hid (show zgq a l=zgq a (l.drop (k+1)) by
            rw [HD.out,if_neg]
            intro h
            simp only [Bool.and_eq_true,beq_iff_eq] at h
            exact hm h)
          by_cases h1:y.kind=5
          · have e1:(y.kind == 5)=true:=by simpa using h1
            have e2:(y.ident == a)=false:=by
              have:y.ident ≠ a:=fun h=>hm ⟨h1,h⟩
              simpa using this
            clear hm h1
            go_wp2
            go_roundw
            case rel=>exact ⟨k+1,by omega,by go_num,HD.out,B6⟩
            case measure=>simp [intOf];omega
          · have e1:(y.kind == 5)=false:=by simpa using h1
            clear hm h1
            go_wp2
            go_roundw
            case rel=>exact ⟨k+1,by omega,by go_num,HD.out,B6⟩
            case measure=>simp [intOf];omega
      · have hlt':¬ (k:Int) < (l.length:Int):=by omega
        have HO:=Lib.hid (show out=([],6) by rw [HC.out];unfold zjk;rw [HF.out,List.drop_eq_nil_of_le (by omega)];rfl)
        clear HF
        go_wp2
        go_ret2
        exact zkG HO.out BB.out
  · have h0:(b == [])=false:=by simpa using h
    have HC:=Lib.hid (HC.out.trans (if_pos h))
    have l1:¬ 9223372036854775807 < b.length+1:=by omega
    have l2:¬ 9223372036854775807 < b.length+1+a.length:=by omega
    clear h
    go_upto_region 5 with (go_at_call 30;(with_reducible refine zaj (kp.out _ B0) ?_);intro w1 b1 _ _ _)
    have X1:=X0.step b1
    have B1:=zaa B0 b1
    have i1:za7 w1 g0 0:=⟨_,X1.is_db hsz⟩
    have i2:zbQ w1 g0 0=d.cells:=zaL (X1.is_db hsz)
    have kf2:=Lib.hid (kf.out (b ++ 47 :: a) w1 B1)
    have HFV:=Lib.hid (zhh l (b ++ 47 :: a))
    generalize zkD l (b ++ 47 :: a)=fx at *
    obtain ⟨fv,fe⟩:=fx
    cases hf:(zc7 l (b ++ 47 :: a)).isSome with
    | true=>
      have HO:=Lib.hid (HC.out.trans (if_pos hf))
      have hfe:fe=0:=by have:=congrArg Prod.snd HFV.out;simp only [hf] at this;simpa using this
      subst hfe
      clear HC HFV hf kf
      go_wp2_with (first | (go_at_call 37;(with_reducible refine zaj kf2.out ?_);intro w2 b2 _ _ _))
      go_ret2
      exact zkG HO.out (zaa (zaa B1 b2) (zad _ _))
    | false=>
      have HO:=Lib.hid (HC.out.trans (if_neg (by rw [hf];decide)))
      have hfe:fe=6:=by have:=congrArg Prod.snd HFV.out;simp only [hf] at this;simpa using this
      subst hfe
      clear HC HFV hf kf
      go_wp2_with (first | (go_at_call 37;(with_reducible refine zaj kf2.out ?_);intro w2 b2 _ _ _))
      go_ret2
      exact zkG HO.out (zaa (zaa B1 b2) (zad _ _))
end Go.Proofs.YtgoeedohgomodaaGreatDoor
