/- Lemmas and walks. -/
import Derived.Test.YtgoeedohgomodaaGreatDoorQk37
set_option linter.unusedSimpArgs false
set_option linter.unusedVariables false
namespace Go.Proofs.YtgoeedohgomodaaGreatDoor
open Go.RowKit Go.Sort
set_option maxRecDepth 100000
def zcv (a:List UInt8) (k:Int) (n:List UInt8) (l:List ProcV):ProcV × Int:=match zas a k n l with | none=>(zaA,6) | some p=>(p,0)
attribute [local go_sem ↓] zdA
attribute [local go_sem] zd2 zc2 zd5 zc3 zck
set_option maxHeartbeats 8000000 in
theorem zk6 (cs:Array Value) (l:List ProcV) (A:Option Addr) (c:Nat) (h8:cs[8]? = some (.slice A l.length c)) (a n:List UInt8) (kd:Int) (w:World) (hI:PrcsAt w A l) (hlc:l.length≤c) (hn:l.length≤9000000000) (hs:∀ p ∈ l,p.small):
    Calls Tryz.prog 78 #[.agg cs, .string ⟨a.toArray⟩, .int .u8 kd, .string ⟨n.toArray⟩] w (zuk w (zcv a kd n l)):=by
  go_enter Tryz.func78,Tryz.ntmps78
  go_upto_region 1 with (fail)
  have X0:Blk (w.alloc (.cells cs 37)) w.heap.size cs:=Blk.new w _ _
  have B00:=zad w (.cells cs 37)
  have hsz:(w.alloc (.cells cs 37)).heap.size=w.heap.size+1:=World.size_alloc _ _
  generalize w.alloc _=W0 at X0 B00 hsz ⊢
  rw [← hsz]
  have R0:Blk (W0.alloc (.cells (zaf zaA none 0) 131)) W0.heap.size (zaf zaA none 0):=Blk.new W0 _ _
  have B0:=zaa B00 (zad W0 (.cells (zaf zaA none 0) 131))
  have X1:=X0.alloc (.cells (zaf zaA none 0) 131)
  have hge:w.heap.size≤W0.heap.size:=B00.size
  generalize hW:W0.alloc _=W
  have hE:W0.alloc (.cells (zaf zaA none 0) 131)=W:=hW
  rw [hE] at R0 B0 X1
  clear hW hE hsz X0 B00
  generalize W0.heap.size=g8 at R0 hge ⊢
  obtain ⟨g0,hg0⟩:∃ g,g=w.heap.size:=⟨_,rfl⟩
  rw [← hg0] at X1 ⊢
  clear hg0
  have k8:W.cell? ⟨g0,8,none⟩=some (.slice A l.length c):=(X1.cell 8).trans h8
  have kf:=Lib.hid (zsG l a n kd A c W (hI.below B0) hlc hn hs)
  have HR:=Lib.hid R0
  have hsp:=fun f (h:zas a kd n l=some f)=>hs f (zbh h)
  have HF:=Lib.hid (show zcv a kd n l=(match zas a kd n l with | none=>(zaA,6) | some p=>(p,0)) from rfl)
  clear X1 hI h8 R0 hs
  rcases hq:zas a kd n l with _ | f
  · rw [hq] at kf HF
    have HO:=Lib.hid (show zcv a kd n l=(zaA,6) from HF.out)
    clear hq hsp HF
    go_upto_region 3 with (go_at_call 123;(with_reducible refine zqe kf.out ?_);intro cs2 w2 F2 b2;obtain ⟨A2,c2,_,hcs2,_⟩:=F2.ex;subst hcs2)
    have Y2:=(HR.out.step b2).alloc (.cells (zaf zaA A2 c2) 131)
    have B2:=zaa (zaa B0 b2) (zad w2 (.cells (zaf zaA A2 c2) 131))
    have d2:=Y2.plain
    have d3:=Y2.of
    generalize w2.alloc _=W2 at Y2 B2 d2 d3 ⊢
    generalize w2.heap.size=g2 at ⊢
    clear kf b2 F2
    go_wp2
    exact bodyPost_ret (zal Tryz.results78 _ _ g8 (zaf zaA none 0) 4 _ rfl rfl (Y2.set _).cell Tryz.underlying131 rfl zdm) rfl ⟨_,by rw [HO.out];rfl,by rw [HO.out];exact PrcFar.no _ _,zab B2 hge _⟩
  · have hsm:=hsp f hq
    rw [hq] at kf HF
    have HO:=Lib.hid (show zcv a kd n l=(f,0) from HF.out)
    clear hq hsp HF
    go_upto_region 4 with (go_at_call 123;(with_reducible refine zqe kf.out ?_);intro cs2 w2 F2 b2;obtain ⟨A2,c2,css,hcs2,hl2,hcl,hIt,hAf,hPr⟩:=F2.ex;subst hcs2)
    have hgw:=HR.out.lt
    simp only [Option.getD_some] at hl2 hcl hAf hPr
    clear F2 kf
    have Z:=Blk.new w2 (zaf f A2 c2) 131
    have D:=zaa (zaa B0 b2) (zad w2 (.cells (zaf f A2 c2) 131))
    have R2:=(HR.out.step b2).alloc (.cells (zaf f A2 c2) 131)
    have hg2:W.heap.size≤w2.heap.size:=b2.size
    have D2:=zad w2 (.cells (zaf f A2 c2) 131)
    generalize w2.alloc _=W3 at Z D R2 D2 ⊢
    obtain ⟨g11,hg11⟩:∃ g,g=w2.heap.size:=⟨_,rfl⟩
    rw [← hg11] at Z ⊢
    have h8:g8 < g11:=by omega
    have h11:w2.heap.size≤g11:=by omega
    have h11':g11≤w2.heap.size:=by omega
    have h811:g8 < W.heap.size:=hgw
    clear hg11 b2 hg2 hgw
    have hg11lt:=Z.lt
    obtain ⟨m,hm⟩:∃ m,m=f.parts.length:=⟨_,rfl⟩
    have z3:W3.cell? ⟨g11,3,none⟩=some (.slice A2 m c2):=by rw [hm];exact Z.cell 3
    have hPr':=hPr
    have kc:=Lib.hid (zn4 css A2 m c2 W3 (hIt.below D2) (by omega) (by have:=hsm.len;omega) (zfo (P:=fun _ b=>W.heap.size≤b) hcl hPr') (znw (P:=fun _ b=>W.heap.size≤b) hcl hPr'))
    have HSM:=Lib.hid hsm
    have HM:=Lib.hid hm
    have HCL:=Lib.hid hcl
    clear hsm hl2 hPr hIt hcl hm
    by_cases hp0:m=0
    · have HP0:=Lib.hid hp0
      have hz:=Lib.hid z3
      clear z3
      rw [hp0] at kc hz
      subst hp0
      have z3:=hz.out
      go_upto_region 5 with (go_at_call 124;(with_reducible refine ze9 kc.out ?_);intro A3 c3 w4 O4 b4;have Z4:=Z.step b4;have f1:=Z4.frozen 3;have f2:w4.cell? ⟨g11,3,none⟩=some (.slice A2 0 c2):=(show w4.cell? ⟨g11,3,none⟩=some (.slice A2 f.parts.length c2) from Z4.cell 3).trans (by rw [HM.out]))
      have hnil:f.parts=[]:=List.eq_nil_of_length_eq_zero HM.out.symm
      have Z5:Blk (w4.setCell ⟨g11,3,none⟩ (.slice A3 0 c3)) g11 (zaf f A3 c3):=by
        have:=Z4.setCell 3 (.slice A3 0 c3)
        have e:(zaf f A2 c2).setIfInBounds 3 (.slice A3 0 c3)=zaf f A3 c3:=by simp [zaf,hnil]
        rwa [e] at this
      have R5:=(R2.step b4).farSet (Nat.ne_of_lt h8) 3 (.slice A3 0 c3)
      have B5:=zat (zaa D b4) (Nat.le_of_lt (Nat.lt_of_le_of_lt hge h8)) 3 (.slice A3 0 c3)
      clear f1 f2 z3 Z4 O4 kc
      generalize w4.setCell _ _=w5 at *
      have z3:w5.cell? ⟨g11,3,none⟩=some (.slice A3 0 c3):=by have:=Z5.cell 3;rw [this];show some (Value.slice A3 f.parts.length c3)=_;rw [← HM.out]
      go_wp2
      go_loopw [32] (fun iv wr=>iv=.int .i64 0∧wr=w5) (fun _ _=>0)
      case atStart=>exact ⟨rfl,rfl⟩
      case round=>
        obtain ⟨rfl,rfl⟩:=hrel
        have i1:zaR wr g11 0:=⟨_,Z5.is_prc rfl⟩
        have i2:za9 wr g11 0=zaf f A3 c3:=zaB (Z5.is_prc rfl)
        have d2:=R5.plain
        have d3:=R5.of
        go_wp2
        exact bodyPost_ret (zal Tryz.results78 _ _ g8 (zaf f A3 c3) 4 _ rfl rfl (R5.set _).cell Tryz.underlying131 rfl zdm) rfl ⟨_,by rw [HO.out];rfl,by rw [HO.out];exact ⟨⟨A3,c3,[],rfl,by show f.parts.length≤c3;rw [hnil];exact Nat.zero_le _,by show 0=f.parts.length;rw [hnil];rfl,Items.nil _ _ _,fun h=>absurd hnil h,fun i cs x h=>by simp at h⟩⟩,zab B5 hge _⟩
    · go_upto_region 5 with (go_at_call 124;(with_reducible refine ze9 kc.out ?_);intro A3 c3 w4 O4 b4;have Z4:=Z.step b4;have f1:=Z4.frozen 3;have f2:w4.cell? ⟨g11,3,none⟩=some (.slice A2 m c2):=(show w4.cell? ⟨g11,3,none⟩=some (.slice A2 f.parts.length c2) from Z4.cell 3).trans (by rw [HM.out]))
      obtain ⟨q,hA3,hq3,hq4⟩:∃ q,A3=some ⟨q,0,none⟩∧W3.heap.size≤q∧q < w4.heap.size:=by
        rcases O4.2 with ⟨e,h0⟩ | ⟨q,cap,cur,e,hq,hbk,_⟩
        · exact absurd (show m=0 by have:=HCL.out;have:=HM.out;omega) hp0
        · injection e with e _ _
          refine ⟨q,e,hq,?_⟩
          rcases Nat.lt_or_ge q w4.heap.size with h | h
          · exact h
          · rw [Array.getElem?_eq_none h] at hbk;cases hbk
      subst hA3
      have hWc:Below W3.heap.size W3 (w4.setCell ⟨g11,3,none⟩ (.slice (some ⟨q,0,none⟩) m c3))∨True:=.inr trivial
      have Z5:Blk (w4.setCell ⟨g11,3,none⟩ (.slice (some ⟨q,0,none⟩) m c3)) g11 (zaf f (some ⟨q,0,none⟩) c3):=by
        have:=Z4.setCell 3 (.slice (some ⟨q,0,none⟩) m c3)
        have e:(zaf f A2 c2).setIfInBounds 3 (.slice (some ⟨q,0,none⟩) m c3)=zaf f (some ⟨q,0,none⟩) c3:=by rw [HM.out];rfl
        rwa [e] at this
      have R5:=(R2.step b4).farSet (Nat.ne_of_lt h8) 3 (.slice (some ⟨q,0,none⟩) m c3)
      have B5:=zat (zaa D b4) (Nat.le_of_lt (Nat.lt_of_le_of_lt hge h8)) 3 (.slice (some ⟨q,0,none⟩) m c3)
      have B5n:Below w2.heap.size w2 (w4.setCell ⟨g11,3,none⟩ (.slice (some ⟨q,0,none⟩) m c3)):=zat (zaa D2 b4) h11 3 _
      have O5:=O4.below (W':=w4.setCell ⟨g11,3,none⟩ (.slice (some ⟨q,0,none⟩) m c3)) (fun k hk _=>Below.heap_setCell _ _ _ _ (by show k ≠ g11;omega))
      obtain ⟨bad,hbad⟩:∃ bad:Nat→Prop,bad=fun b=>b=g8∨b=g11∨b=q:=⟨_,rfl⟩
      have hbadq:bad q:=by rw [hbad];exact .inr (.inr rfl)
      have Row5:RowAt W3.heap.size 0 bad (w4.setCell ⟨g11,3,none⟩ (.slice (some ⟨q,0,none⟩) m c3)) q m c3 f.parts W3.heap.size:=
        RowAt.start HCL.out O5 fun i cs x a b=>(hPr' i cs x a b).keep (fun b hb hlt=>⟨B5n.block b hlt,by rw [hbad];rintro (h | h | h) <;> omega⟩) B5n.size
      clear f1 f2 z3 Z4 O4 kc O5 hWc hPr' B5n
      have hB0:w.heap.size≤W3.heap.size:=D.size
      generalize w4.setCell _ _=w5 at *
      have z3:w5.cell? ⟨g11,3,none⟩=some (.slice (some ⟨q,0,none⟩) m c3):=by have:=Z5.cell 3;rw [this];show some (Value.slice _ f.parts.length c3)=_;rw [← HM.out]
      go_wp2
      clear z3
      go_loopw [32] (fun iv wr=>∃ k:Nat,k≤m∧iv=.int .i64 k∧Blk wr g11 (zaf f (some ⟨q,0,none⟩) c3)∧Blk wr g8 (zaf zaA none 0)∧RowAt W3.heap.size k bad wr q m c3 f.parts W3.heap.size∧Below w.heap.size w wr) (fun iv _=>m - (intOf iv).toNat)
      case atStart=>exact ⟨0,by omega,rfl,Z5,R5,Row5,B5⟩
      case round=>
        obtain ⟨k2,hk2,rfl,Z6,R6,Row6,B6⟩:=hrel
        by_cases hlt:k2 < m
        · have hk3:k2 < f.parts.length:=by rw [← HM.out];exact hlt
          obtain ⟨A4,d4,hBq,hqlt,hmc,hc3,hfr,hl4,hI4⟩:=Row6.get HM.out.symm hlt
          have hx:=List.getElem?_eq_getElem hk3
          have hxs:=HSM.out.each _ (List.getElem_mem hk3)
          generalize f.parts[k2]=x at *
          have hm4:m≤4000000:=by have:=HSM.out.len;have:=HM.out;omega
          have hlt':(k2:Int) < (m:Int):=by omega
          have hkc:k2 < c3:=by omega
          have e1:wr.cell? ⟨g11,3,none⟩=some (.slice (some ⟨q,0,none⟩) m c3):=by have:=Z6.cell 3;rw [this];show some (Value.slice _ f.parts.length c3)=_;rw [← HM.out]
          have e2:wr.cell? ⟨q,k2 * 3+2,none⟩=some (.slice A4 x.legs.length d4):=hc3 2 (by omega)
          have kl:=Lib.hid (fun (W':World) (B:Below wr.heap.size wr W')=>zhi (x.legs.map Leg.arr) A4 x.legs.length d4 W' (hI4.below B) (by simp) (by have:=hxs.len;omega) (zbZ _) (zdU _))
          have HE:=Lib.hid (fun (W':World) (B:Below wr.heap.size wr W')=>show W'.cell? ⟨g11,3,none⟩=some (.slice (some ⟨q,0,none⟩) m c3)∧W'.cell? ⟨q,k2 * 3+2,none⟩=some (.slice A4 x.legs.length d4) from ⟨by rw [B.cell (p:=⟨g11,3,none⟩) Z6.lt];exact e1,by rw [B.cell (p:=⟨q,_,none⟩) hqlt];exact e2⟩)
          have HFR:=Lib.hid (fun (W':World) (B:Below wr.heap.size wr W')=>show W'.frozen? ⟨q,k2 * 3+2,none⟩=false from by rw [B.frozen (p:=⟨q,_,none⟩) hqlt];exact hfr)
          have HX:=Lib.hid hx
          have HZ:=Lib.hid Z6
          have HRR:=Lib.hid R6
          have HRO:=Lib.hid Row6
          have e2d:wr.drew.cell? ⟨q,k2 * 3+2,none⟩=some (.slice A4 x.legs.length d4):=e2
          have hgq:g11 ≠ q:=by omega
          have h8q:g8 ≠ q:=by omega
          have hg8l:=R6.lt
          have hg11l:=Z6.lt
          clear hc3 hI4 hx Z6 R6 Row6 hfr e1
          go_upto_region 8 with (fail)
          have e1:=(HE.out wr (Below.refl _ _)).1
          have e1d:wr.drew.cell? ⟨g11,3,none⟩=some (.slice (some ⟨q,0,none⟩) m c3):=e1
          go_region_with (go_at_call 125;(with_reducible refine ze9 (kl.out _ (by first | exact Below.refl _ _ | exact (Below.refl _ _).drew)) ?_);intro A5 c5 w7 O7 b7;have B7:Below wr.heap.size wr w7:=(by first | exact b7 | exact zaa (Below.refl _ _).drew b7);have f1:=HFR.out w7 B7;have f2:=(HE.out w7 B7).2;have f3:=(HE.out w7 B7).1)
          all_goals
            go_wp2
            obtain ⟨A6,c6,e6,hl6,hI6,hA6,_⟩:=O7.form (zbZ _)
            injection e6 with e6 _ e7
            subst e6 e7
            rw [List.length_map] at hl6
            have hbl:wr.heap.size≤(World.heap wr.drew).size:=Nat.le_refl _
            have hAA:x.legs ≠ []→∀ a,A5=some a→¬ bad a.block∧W3.heap.size≤a.block∧a.block < w7.heap.size:=fun hne a ha=>by
              have h1:wr.heap.size≤a.block:=hA6 a ha
              obtain ⟨b9,o9,e9,hb9,_⟩:=hI6.at_ (by simpa using hne)
              rw [e9] at ha
              obtain rfl:(⟨b9,o9,none⟩:Addr)=a:=by simpa using ha
              have h1:wr.heap.size≤b9:=h1
              exact ⟨by rw [hbad];show ¬ (b9=g8∨b9=g11∨b9=q);omega,by show W3.heap.size≤b9;omega,hb9⟩
            go_roundw
            case rel=>exact ⟨k2+1,by omega,by go_num,(HZ.out.step B7).farSet hgq _ _,(HRR.out.step B7).farSet h8q _ _,(HRO.out.below B7).step HM.out.symm hlt hbadq HX.out hl6 hI6 hAA,zat (zaa B6 B7) (by omega) _ _⟩
            case measure=>simp [intOf];omega
        · have hlt':¬ (k2:Int) < (m:Int):=by omega
          obtain rfl:k2=m:=by omega
          have F6:=Row6.done HM.out.symm (Nat.le_refl _)
          have i1:zaR wr g11 0:=⟨_,Z6.is_prc rfl⟩
          have i2:za9 wr g11 0=zaf f (some ⟨q,0,none⟩) c3:=zaB (Z6.is_prc rfl)
          have d2:=R6.plain
          have d3:=R6.of
          have hg8:g8 < W3.heap.size:=by omega
          clear Row6
          go_wp2
          exact bodyPost_ret (zal Tryz.results78 _ _ g8 (zaf f (some ⟨q,0,none⟩) c3) 4 _ rfl rfl (R6.set _).cell Tryz.underlying131 rfl zdm) rfl ⟨_,by rw [HO.out];rfl,by rw [HO.out];exact (F6.keep (fun b hb _=>setRow_other _ _ _ _ (by omega)) (by simp [World.setRow])).mono hB0,zab B6 hge _⟩
end Go.Proofs.YtgoeedohgomodaaGreatDoor
