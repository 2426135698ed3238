/- Lemmas and walks. -/
import Derived.Test.YtgoeedohgomodaaGreatDoorQk30
import Derived.Test.YtgoeedohgomodaaGreatDoorQk33
import Derived.Test.YtgoeedohgomodaaGreatDoorQk28
import Derived.Test.YtgoeedohgomodaaGreatDoorQk11
import Derived.Test.YtgoeedohgomodaaGreatDoorQk05
import Derived.Test.YtgoeedohgomodaaGreatDoorQk14
import Derived.Great.BuildSlice
import Derived.Test.YtgoeedohgomodaaGreatDoorQk24
import Derived.Test.YtgoeedohgomodaaGreatDoorQk18
set_option linter.unusedSimpArgs false
set_option linter.unusedVariables false
namespace Go.Proofs.YtgoeedohgomodaaGreatDoor
open Go.RowKit Go.Sort
set_option maxRecDepth 100000
theorem zd9:(Tryz.prog.info? 107).map (fun i=>(i.zero,i.size,i.bytes))=some (some (.agg (noPt.arr)),4,40):=by kernel_rfl
theorem zto:(Tryz.prog.info? 183).map (fun i=>(i.zero,i.size,i.bytes))=some (some (.agg #[.int .u8 0, .string ⟨#[]⟩, .slice none 0 0]),3,48):=by kernel_rfl
theorem zeJ:(Tryz.prog.info? 64).map (fun i=>(i.zero,i.size,i.bytes))=some (some (.agg ((⟨0,[],[],0,false,0,0,0,0,0,0,0,0⟩:Leg).arr)),13,112):=by kernel_rfl
theorem Items.none_nil {w:World} {n:Nat} {l:List (Array Value)} (h:Items w none n l):l=[]:=by
  rcases l with _ | ⟨y,r⟩
  · rfl
  · obtain ⟨b,o,hh,_⟩:=h.at_ (by simp)
    cases hh
theorem zue (p:APt) (r:List UInt8) (q:Nat) (w:World) (hq:q < w.heap.size) (hc:w.cell? ⟨q,0,none⟩=some (.string ⟨r.toArray⟩)):
    Calls Tryz.prog 195 #[.agg p.arr, .pointer (some ⟨q,0,none⟩)] w (Ret w (.bool (p.ref == r))):=by
  go_enter Tryz.func195,Tryz.ntmps195
  go_upto_region 1 with (fail)
  have X0:Blk (w.alloc (.cells p.arr 107)) w.heap.size p.arr:=Blk.new w _ _
  have B0:=zad w (.cells p.arr 107)
  have hc0:(w.alloc (.cells p.arr 107)).cell? ⟨q,0,none⟩=some (.string ⟨r.toArray⟩):=by rw [B0.cell (p:=⟨q,0,none⟩) hq];exact hc
  generalize w.alloc _=W at X0 B0 hc0 ⊢
  obtain ⟨g0,hg0⟩:∃ g,g=w.heap.size:=⟨_,rfl⟩
  rw [← hg0] at X0 ⊢
  clear hg0 hc
  have c0:W.cell? ⟨g0,0,none⟩=some (.string ⟨p.ref.toArray⟩):=X0.cell 0
  go_wp2
  go_ret
  exact ⟨rfl,B0⟩
set_option maxHeartbeats 2000000 in
theorem zud (l:List APt) (r:List UInt8) (A:Option Addr) (c q:Nat) (w:World) (hI:Items w A 4 (l.map APt.arr)) (hn:l.length≤9000000000) (hq:q < w.heap.size) (hc:w.cell? ⟨q,0,none⟩=some (.string ⟨r.toArray⟩)):
    Calls Tryz.prog 117 #[.slice A l.length c, .func (.func 195) #[] #[.pointer (some ⟨q,0,none⟩)]] w (Ret w (.int .i64 (zbT r l 0))):=by
  have HC:=Lib.hid hc
  clear hc
  go_enter Tryz.func117,Tryz.ntmps117
  go_wp2
  go_loopw [5,8] (fun _ i wr=>∃ k:Nat,k≤l.length∧i=.int .i64 k∧zbT r l 0=zbT r (l.drop k) k∧Below w.heap.size w wr) (fun _ i _=>l.length - (intOf i).toNat)
  case atStart=>exact ⟨0,by omega,rfl,rfl,Below.refl _ _⟩
  case round=>
    obtain ⟨k,hk,rfl,hf,hB⟩:=hrel
    have HF:=Lib.hid hf
    clear hf
    by_cases hlt:k < l.length
    · obtain ⟨b,off,hA,hb,_⟩:=hI.get (k:=k) (by simpa using hlt)
      subst hA
      have hd:=Lib.hid (List.drop_eq_getElem_cons hlt)
      have hx:=ze6 hI hB hlt
      generalize l[k]=f at hd hx
      have i1:zed wr b (off+k * 4):=⟨_,hx⟩
      have i2:zd6 wr b (off+k * 4)=f:=zdF hx
      have hcall:=Lib.hid (zue f r q wr (Nat.lt_of_lt_of_le hq hB.size) (by rw [hB.cell (p:=⟨q,0,none⟩) hq];exact HC.out))
      clear hx
      have HD:=Lib.hid (show zbT r l 0=if f.ref == r then (k:Int) else zbT r (l.drop (k+1)) (k+1) by rw [HF.out,hd.out];rfl)
      clear HF hd
      generalize (f.ref == r)=t at hcall HD
      cases t with
      | true=>
        go_wp2_with (go_at_call 195;(with_reducible refine zaj hcall.out ?_);intro w1 b1 _ _ _)
        go_ret
        exact Ret.int (HD.out.trans (if_pos trivial)).symm (hB.trans (b1.mono hB.size))
      | false=>
        go_wp2_with (go_at_call 195;(with_reducible refine zaj hcall.out ?_);intro w1 b1 _ _ _)
        go_roundw
        case rel=>exact ⟨k+1,by omega,by go_num,HD.out,hB.trans (b1.mono hB.size)⟩
        case measure=>simp [intOf];omega
    · go_wp2
      go_ret
      exact Ret.int (by rw [HF.out,List.drop_of_length_le (by omega)];rfl) hB
theorem zhH (a:AwyV) (cs:Array Value) (r:List UInt8) (w:World) (h:AwyAt w cs a) (hn:a.pts.length≤4000000000):
    Calls Tryz.prog 161 #[.agg cs, .string ⟨r.toArray⟩] w (Ret w (.int .i64 (zbT r a.pts 0))):=by
  obtain ⟨A,c,rfl,hlc,hI⟩:=h.ex
  go_enter Tryz.func161,Tryz.ntmps161
  go_upto_region 1 with (fail)
  generalize hW:(w.alloc _).alloc _=W
  have X0:Blk W w.heap.size (zao a A c):=by rw [← hW];exact (Blk.new w _ _).alloc _
  have X1:Blk W (w.heap.size+1) #[.string ⟨r.toArray⟩]:=by rw [← hW,← World.size_alloc w (.cells (zao a A c) 81)];exact Blk.new _ _ _
  have B0:Below w.heap.size w W:=by rw [← hW];go_grown
  clear hW h
  have hk:=Lib.hid (zud a.pts r A c (w.heap.size+1) W (hI.below B0) (by omega) X1.lt (X1.cell 0))
  generalize w.heap.size+1=g1 at *
  obtain ⟨g0,hg0⟩:∃ g,g=w.heap.size:=⟨_,rfl⟩
  rw [← hg0] at X0 ⊢
  clear hg0 X1
  have c1:W.cell? ⟨g0,1,none⟩=some (.slice A a.pts.length c):=X0.cell 1
  go_wp2_with (go_at_call 117;(with_reducible refine zaj hk.out ?_);intro w1 b1 _ _ _)
  go_ret
  exact Ret.int rfl (zaa B0 b1)
theorem ztH (l:List (Array Value)) (A:Option Addr) (m c:Nat) (w:World) (hI:Items w A 4 l) (hm:l.length=m) (hn:m≤100000000) (hl:∀ y ∈ l,y.size=4) (h1:∀ y ∈ l,y.toList.all (·.oneCell')=true):
    Calls Tryz.prog 159 #[.slice A m c] w (zrM w 107 4 m l):=by
  have HL:=Lib.hid hl
  have H1:=Lib.hid h1
  have HM:=Lib.hid hm
  clear hl h1 hm
  cases A with
  | none=>
    obtain rfl:=hI.none_nil
    obtain rfl:0=m:=HM.out
    have he:=fun w=>Lib.run_eql_slice_nil (P:=Tryz.prog) w 79 107 none 0 c 0 0 Tryz.underlying79
    clear HL H1 HM hI
    go_enter Tryz.func159,Tryz.ntmps159
    go_wp2
    go_ret
    exact ⟨none,0,rfl,GOut.nil _ _ _ _,Below.refl _ _⟩
  | some ad=>
    have he:=fun w=>Lib.run_eql_slice_nil (P:=Tryz.prog) w 79 107 (some ad) m c 0 0 Tryz.underlying79
    have HI:=Lib.hid hI
    clear hI
    have HE:=Lib.hid (GOut.empty w 107 4)
    go_enter Tryz.func159,Tryz.ntmps159
    go_wp2_with (at_builtin;refine zav rfl (.tmp 5) (.tmp 6) _ 107 4 40 _ zd9 rfl (by omega) Tryz.underlying79 rfl HE.out rfl l (some ad) m c HM.out rfl (HI.out.below (zad _ _)) HL.out H1.out (by simp only [List.length_nil];unfold maxLen;omega) (by simp only [List.length_nil];omega) (by simp) ?_;intro v' W' O' G' N';rw [List.nil_append] at O';obtain ⟨A',c',hv⟩:=O'.len;rw [HM.out] at hv;subst hv)
    go_ret
    exact ⟨A',c',rfl,O',HE.out.below_grown G' (zad w _) (Nat.le_refl _) (by simp)⟩
theorem zn4 (l:List (Array Value)) (A:Option Addr) (m c:Nat) (w:World) (hI:Items w A 3 l) (hm:l.length=m) (hn:m≤100000000) (hl:∀ y ∈ l,y.size=3) (h1:∀ y ∈ l,y.toList.all (·.oneCell')=true):
    Calls Tryz.prog 124 #[.slice A m c] w (zrM w 183 3 m l):=by
  have HL:=Lib.hid hl
  have H1:=Lib.hid h1
  have HM:=Lib.hid hm
  clear hl h1 hm
  cases A with
  | none=>
    obtain rfl:=hI.none_nil
    obtain rfl:0=m:=HM.out
    have he:=fun w=>Lib.run_eql_slice_nil (P:=Tryz.prog) w 129 183 none 0 c 0 0 Tryz.underlying129
    clear HL H1 HM hI
    go_enter Tryz.func124,Tryz.ntmps124
    go_wp2
    go_ret
    exact ⟨none,0,rfl,GOut.nil _ _ _ _,Below.refl _ _⟩
  | some ad=>
    have he:=fun w=>Lib.run_eql_slice_nil (P:=Tryz.prog) w 129 183 (some ad) m c 0 0 Tryz.underlying129
    have HI:=Lib.hid hI
    clear hI
    have HE:=Lib.hid (GOut.empty w 183 3)
    go_enter Tryz.func124,Tryz.ntmps124
    go_wp2_with (at_builtin;refine zav rfl (.tmp 5) (.tmp 6) _ 183 3 48 _ zto rfl (by omega) Tryz.underlying129 rfl HE.out rfl l (some ad) m c HM.out rfl (HI.out.below (zad _ _)) HL.out H1.out (by simp only [List.length_nil];unfold maxLen;omega) (by simp only [List.length_nil];omega) (by simp) ?_;intro v' W' O' G' N';rw [List.nil_append] at O';obtain ⟨A',c',hv⟩:=O'.len;rw [HM.out] at hv;subst hv)
    go_ret
    exact ⟨A',c',rfl,O',HE.out.below_grown G' (zad w _) (Nat.le_refl _) (by simp)⟩
theorem zhi (l:List (Array Value)) (A:Option Addr) (m c:Nat) (w:World) (hI:Items w A 13 l) (hm:l.length=m) (hn:m≤100000000) (hl:∀ y ∈ l,y.size=13) (h1:∀ y ∈ l,y.toList.all (·.oneCell')=true):
    Calls Tryz.prog 125 #[.slice A m c] w (zrM w 64 13 m l):=by
  have HL:=Lib.hid hl
  have H1:=Lib.hid h1
  have HM:=Lib.hid hm
  clear hl h1 hm
  cases A with
  | none=>
    obtain rfl:=hI.none_nil
    obtain rfl:0=m:=HM.out
    have he:=fun w=>Lib.run_eql_slice_nil (P:=Tryz.prog) w 119 64 none 0 c 0 0 Tryz.underlying119
    clear HL H1 HM hI
    go_enter Tryz.func125,Tryz.ntmps125
    go_wp2
    go_ret
    exact ⟨none,0,rfl,GOut.nil _ _ _ _,Below.refl _ _⟩
  | some ad=>
    have he:=fun w=>Lib.run_eql_slice_nil (P:=Tryz.prog) w 119 64 (some ad) m c 0 0 Tryz.underlying119
    have HI:=Lib.hid hI
    clear hI
    have HE:=Lib.hid (GOut.empty w 64 13)
    go_enter Tryz.func125,Tryz.ntmps125
    go_wp2_with (at_builtin;refine zav rfl (.tmp 5) (.tmp 6) _ 64 13 112 _ zeJ rfl (by omega) Tryz.underlying119 rfl HE.out rfl l (some ad) m c HM.out rfl (HI.out.below (zad _ _)) HL.out H1.out (by simp only [List.length_nil];unfold maxLen;omega) (by simp only [List.length_nil];omega) (by simp) ?_;intro v' W' O' G' N';rw [List.nil_append] at O';obtain ⟨A',c',hv⟩:=O'.len;rw [HM.out] at hv;subst hv)
    go_ret
    exact ⟨A',c',rfl,O',HE.out.below_grown G' (zad w _) (Nat.le_refl _) (by simp)⟩
end Go.Proofs.YtgoeedohgomodaaGreatDoor
namespace Go.Proofs.YtgoeedohgomodaaGreatDoor
open Go.RowKit Go.Sort
set_option maxRecDepth 100000
def zxF (parts:Array (Nat × Value)):Sem Value:=Instr.build 62 parts
theorem zlp (parts:Array (Nat × Value)):Instr.build 62 parts=zxF parts:=rfl
theorem znd (w:World) (a b:Int):(zxF #[(0, .int .i64 a),(1, .int .i64 b)]).run Tryz.prog w=.ok (.agg (Win.arr ⟨a,b⟩)) w:=run_build w _ _ _ (by kernel_rfl)
attribute [local go_sem ↓] zlp
attribute [local go_sem] znd
theorem zuf (w:World):Calls Tryz.prog 212 #[] w (Ret w (.agg (Win.arr ⟨-200000,6000000⟩))):=by
  go_enter Tryz.func212,Tryz.ntmps212
  go_wp2
  exact bodyPost_ret (zbM Tryz.results212 _ _ w.heap.size (Win.arr ⟨-200000,6000000⟩) 2 _ rfl rfl (Blk.new _ _ _).cell Tryz.underlying62 rfl zfL) rfl ⟨rfl,zad _ _⟩
theorem APt.is_win {W:World} {g:Nat} {p:APt} (h:Blk W g p.arr):zid W g 1 ⟨p.lo,p.hi⟩:=fun j hj=>by
  rw [h.cell]
  match j,hj with
  | 0,_ | 1,_=>rfl
set_option maxHeartbeats 4000000 in
theorem ztI (a:AwyV) (cs:Array Value) (i:Nat) (w:World) (hL:Laid w) (h:AwyAt w cs a) (hs:a.small) (hi:i < a.pts.length):
    Calls Tryz.prog 194 #[.agg cs, .int .i64 i] w (Ret w (.int .i64 (zfn a.pts i a.pts[i]))):=by
  obtain ⟨A,c,rfl,hlc,hI⟩:=h.ex
  obtain ⟨b,off,hA,hb,_⟩:=hI.get (k:=i) (by simpa using hi)
  subst hA
  have HX:=Lib.hid (fun (W:World) (B:Below w.heap.size w W)=>ze6 hI B hi)
  have hrl:=hs.each _ (List.getElem_mem hi)
  have hlen:=hs.len
  generalize a.pts[i]=p at HX hrl ⊢
  have hic:i < c:=by omega
  have hlt:(i:Int) < (a.pts.length:Int):=by omega
  have HLB:=Lib.hid (fun (W:World) (B:Below w.heap.size w W)=>hL.below B)
  have HAB:=Lib.hid (fun (W:World) (B:Below w.heap.size w W)=>h.below B)
  have HC:=Lib.hid (show zfn a.pts i p=if (za8 p.ref).2.2 ≠ 0 then 5 else if zbT p.ref a.pts 0 < i then 7 else if i+1=a.pts.length then (if p.lo=-200000∧p.hi=6000000∧p.dir=0 then 0 else 1) else if p.lo < -200000∨p.hi < p.lo∨6000000 < p.hi then 2 else if 2 < p.dir then 17 else 0 from rfl)
  clear hL h hI hs
  go_enter Tryz.func194,Tryz.ntmps194
  go_upto_region 1 with (fail)
  have X0:=Blk.new w (zao a (some ⟨b,off,none⟩) c) 81
  have B0:=zad w (.cells (zao a (some ⟨b,off,none⟩) c) 81)
  generalize w.alloc _=W at X0 B0 ⊢
  obtain ⟨g0,hg0⟩:∃ g,g=w.heap.size:=⟨_,rfl⟩
  rw [← hg0] at X0 ⊢
  clear hg0
  have c1:W.cell? ⟨g0,1,none⟩=some (.slice (some ⟨b,off,none⟩) a.pts.length c):=X0.cell 1
  have i1:zed W b (off+i * 4):=⟨_,HX.out W B0⟩
  have i2:zd6 W b (off+i * 4)=p:=zdF (HX.out W B0)
  go_upto_region 2 with (fail)
  have P1:=Blk.new W p.arr 107
  have X1:=X0.alloc (.cells p.arr 107)
  have B1:=zaa B0 (zad W (.cells p.arr 107))
  clear i1 i2 c1 X0 B0
  generalize W.alloc _=W1 at P1 X1 B1 ⊢
  generalize W.heap.size=gp at P1 ⊢
  have r0:W1.cell? ⟨gp,0,none⟩=some (.string ⟨p.ref.toArray⟩):=P1.cell 0
  have ks:=Lib.hid (zff p.ref W1 (HLB.out W1 B1) hrl)
  by_cases h1:(za8 p.ref).2.2=0
  case neg=>
    have HO:=Lib.hid (HC.out.trans (if_pos h1))
    have h1':((za8 p.ref).2.2 != 0)=true:=by simpa using h1
    clear h1 HC X1 P1
    generalize za8 p.ref=q at ks h1'
    go_wp2_with (go_at_call 62;(with_reducible refine zes ks.out ?_);intro n)
    go_ret
    exact Ret.int HO.out.symm (below_drewN B1 n)
  case pos=>
    have HC:=Lib.hid (HC.out.trans (if_neg (not_not_intro h1)))
    generalize za8 p.ref=q at ks h1
    obtain ⟨q1,q2,q3⟩:=q
    obtain rfl:q3=0:=h1
    go_upto_region 5 with (go_at_call 62;(with_reducible refine zes ks.out ?_);intro n)
    have P2:=P1.step (below_drewN (Below.refl _ _) n)
    have X2:=X1.step (below_drewN (Below.refl _ _) n)
    have B2:=below_drewN B1 n
    clear r0 ks P1 X1 B1
    generalize W1.drewN n=W2 at P2 X2 B2 ⊢
    have r0:W2.cell? ⟨gp,0,none⟩=some (.string ⟨p.ref.toArray⟩):=P2.cell 0
    have i1:zce W2 g0 0:=⟨_,X2.is_awy rfl⟩
    have i2:zcz W2 g0 0=zao a (some ⟨b,off,none⟩) c:=zby (X2.is_awy rfl)
    have kx:=Lib.hid (zhH a _ p.ref W2 (HAB.out W2 B2) (by omega))
    have hxb:-1≤zbT p.ref a.pts 0:=by
      rcases Int.lt_or_le (zbT p.ref a.pts 0) 0 with h | h
      · have:∀ (l:List APt) (k:Nat), -1≤zbT p.ref l k:=by
          intro l
          induction l with
          | nil=>intro k;simp [zbT]
          | cons x t ih=>intro k;unfold zbT;split
                         · omega
                         · exact ih _
        exact this _ _
      · omega
    generalize zbT p.ref a.pts 0=x at kx HC hxb
    by_cases h2:x < (i:Int)
    case pos=>
      have HO:=Lib.hid (HC.out.trans (if_pos h2))
      clear HC X2 P2
      go_wp2_with (go_at_call 161;(with_reducible refine zaj kx.out ?_);intro w3 b3 _ _ _)
      go_ret
      exact Ret.int HO.out.symm (zaa B2 b3)
    case neg=>
      have HC:=Lib.hid (HC.out.trans (if_neg h2))
      go_upto_region 7 with (go_at_call 161;(with_reducible refine zaj kx.out ?_);intro w3 b3 _ _ _)
      have P3:=P2.step b3
      have X3:=X2.step b3
      have B3:=zaa B2 b3
      clear r0 kx P2 X2 B2 b3 i1 i2 h2 hxb
      have c1:w3.cell? ⟨g0,1,none⟩=some (.slice (some ⟨b,off,none⟩) a.pts.length c):=X3.cell 1
      have v1:zcR w3 gp 1:=⟨_,APt.is_win P3⟩
      have v2:zcL w3 gp 1=⟨p.lo,p.hi⟩:=zb8 (APt.is_win P3)
      have d3:w3.cell? ⟨gp,3,none⟩=some (.int .u8 p.dir):=P3.cell 3
      have l1:w3.cell? ⟨gp,1,none⟩=some (.int .i64 p.lo):=P3.cell 1
      have l2:w3.cell? ⟨gp,2,none⟩=some (.int .i64 p.hi):=P3.cell 2
      by_cases h3:i+1=a.pts.length
      case pos=>
        have HC:=Lib.hid (HC.out.trans (if_pos h3))
        have e3:((i:Int) == (a.pts.length:Int) - 1)=true:=by simp;omega
        clear h3
        have HP:=Lib.hid P3
        clear X3 P3 l1 l2
        have w1:∀ d os,zcR (grow (redrawn w3 d) os) gp 1:=fun d os=>⟨_,APt.is_win (HP.out.step (below_regrown w3 d os))⟩
        have w2:∀ d os,zcL (grow (redrawn w3 d) os) gp 1=⟨p.lo,p.hi⟩:=fun d os=>zb8 (APt.is_win (HP.out.step (below_regrown w3 d os)))
        have w3':∀ d os,(grow (redrawn w3 d) os).cell? ⟨gp,3,none⟩=some (.int .u8 p.dir):=fun d os=>(HP.out.step (below_regrown w3 d os)).cell 3
        have kf:∀ d os,Calls Tryz.prog 212 #[] (grow (redrawn w3 d) os) fun e w''=>e=.returned (.agg (Win.arr ⟨-200000,6000000⟩))∧∃ q:Regrown,w''=grow (redrawn w3 q.d) q.os:=fun d os=>Calls.regrown_ret (zuf _)
        go_upto_region 8 with (fail)
        by_cases hwn:p.lo=-200000∧p.hi=6000000
        · have hE:Win.eqB ⟨p.lo,p.hi⟩ ⟨-200000,6000000⟩=true:=by simp [Win.eqB,hwn]
          by_cases hd:p.dir=0
          · have HO:=Lib.hid (HC.out.trans (if_pos ⟨hwn.1,hwn.2,hd⟩))
            have hd':(p.dir != 0)=false:=by simpa using hd
            clear HC hwn hd
            have N1:=zdv ⟨p.lo,p.hi⟩ ⟨-200000,6000000⟩
            rw [hE] at N1
            refine wp_region_quiet_below (by kernel_rfl) (by kernel_rfl) ?_
            repeat (go_big_quiet_step (with_reducible first | exact kf _ _))
            refine wpQuiet_nil ?_
            intro _ hw'
            obtain ⟨⟨dq,osq⟩,hw''⟩:=hw'
            subst hw''
            clear w1 w2 w3' kf
            go_wp2
            go_ret
            exact Ret.int HO.out.symm (zaa B3 (below_regrown w3 dq osq))
          · have HO:=Lib.hid (HC.out.trans (if_neg (fun h=>hd h.2.2)))
            have hd':(p.dir != 0)=true:=by simpa using hd
            clear HC hwn hd
            have N1:=zdv ⟨p.lo,p.hi⟩ ⟨-200000,6000000⟩
            rw [hE] at N1
            refine wp_region_quiet_below (by kernel_rfl) (by kernel_rfl) ?_
            repeat (go_big_quiet_step (with_reducible first | exact kf _ _))
            refine wpQuiet_nil ?_
            intro _ hw'
            obtain ⟨⟨dq,osq⟩,hw''⟩:=hw'
            subst hw''
            clear w1 w2 w3' kf
            go_wp2
            go_ret
            exact Ret.int HO.out.symm (zaa B3 (below_regrown w3 dq osq))
        · have hE:Win.eqB ⟨p.lo,p.hi⟩ ⟨-200000,6000000⟩=false:=by
            cases hq:Win.eqB ⟨p.lo,p.hi⟩ ⟨-200000,6000000⟩ with
            | false=>rfl
            | true=>exact absurd (by have:=(Win.eqB_iff _ _).1 hq;simpa using this) hwn
          have HO:=Lib.hid (HC.out.trans (if_neg (fun h=>hwn ⟨h.1,h.2.1⟩)))
          clear HC hwn
          have N1:=zdv ⟨p.lo,p.hi⟩ ⟨-200000,6000000⟩
          rw [hE] at N1
          refine wp_region_quiet_below (by kernel_rfl) (by kernel_rfl) ?_
          repeat (go_big_quiet_step (with_reducible first | exact kf _ _))
          refine wpQuiet_nil ?_
          intro _ hw'
          obtain ⟨⟨dq,osq⟩,hw''⟩:=hw'
          subst hw''
          clear w1 w2 w3' kf
          go_wp2
          go_ret
          exact Ret.int HO.out.symm (zaa B3 (below_regrown w3 dq osq))
      case neg=>
        have HC:=Lib.hid (HC.out.trans (if_neg h3))
        have e3:((i:Int) == (a.pts.length:Int) - 1)=false:=by simp;omega
        clear h3 v1 v2
        go_wp2
        all_goals
          go_ret
          refine Ret.int ?_ B3
          rw [HC.out]
          go_light
          first | (split <;> omega) | (simp;omega) | skip
end Go.Proofs.YtgoeedohgomodaaGreatDoor
namespace Go.Proofs.YtgoeedohgomodaaGreatDoor
open Go.RowKit Go.Sort
set_option maxRecDepth 100000
theorem zg1 (pts:List APt) {k:Nat} (hk:k < pts.length):zcy pts (pts.drop k) k=orE (zfn pts k pts[k]) (zcy pts (pts.drop (k+1)) (k+1)):=by
  rw [List.drop_eq_getElem_cons hk];rfl
set_option maxHeartbeats 4000000 in
theorem zrL (a:AwyV) (cs:Array Value) (w:World) (hL:Laid w) (h:AwyAt w cs a) (hs:a.small):
    Calls Tryz.prog 160 #[.agg cs] w (Ret w (.int .i64 (zbl a))):=by
  obtain ⟨A,c,rfl,hlc,hI⟩:=h.ex
  have HLB:=Lib.hid (fun (W:World) (B:Below w.heap.size w W)=>hL.below B)
  have HAB:=Lib.hid (fun (W:World) (B:Below w.heap.size w W)=>h.below B)
  have HC:=Lib.hid (show zbl a=if !zbF a.name 8 then 5 else if a.pts.length < 2 then 1 else if 40 < a.pts.length then 3 else zcy a.pts a.pts 0 from rfl)
  have hlen:=hs.len
  have hnm:=hs.name
  clear hL h hI hlc
  go_enter Tryz.func160,Tryz.ntmps160
  go_upto_region 1 with (fail)
  have X0:=Blk.new w (zao a A c) 81
  have B0:=zad w (.cells (zao a A c) 81)
  generalize w.alloc _=W at X0 B0 ⊢
  obtain ⟨g0,hg0⟩:∃ g,g=w.heap.size:=⟨_,rfl⟩
  rw [← hg0] at X0 ⊢
  clear hg0
  have c0:W.cell? ⟨g0,0,none⟩=some (.string ⟨a.name.toArray⟩):=X0.cell 0
  have c1:W.cell? ⟨g0,1,none⟩=some (.slice A a.pts.length c):=X0.cell 1
  have kn:=Lib.hid (fun w'=>zdl a.name 8 w' (by omega))
  cases hn:zbF a.name 8 with
  | false=>
    rw [hn] at kn
    have HO:=Lib.hid (HC.out.trans (if_pos (by rw [hn];rfl)))
    go_wp2_with (go_at_call 61;(with_reducible refine zae (kn.out _) ?_))
    go_ret
    exact Ret.int HO.out.symm B0
  | true=>
    rw [hn] at kn
    have HC:=Lib.hid (HC.out.trans (if_neg (by rw [hn];decide)))
    clear hn
    by_cases h2:a.pts.length < 2
    · have HO:=Lib.hid (HC.out.trans (if_pos h2))
      have h2':(a.pts.length:Int) < 2:=by omega
      clear HC h2
      go_wp2_with (go_at_call 61;(with_reducible refine zae (kn.out _) ?_))
      go_ret
      exact Ret.int HO.out.symm B0
    · have HC:=Lib.hid (HC.out.trans (if_neg h2))
      have h2':¬ (a.pts.length:Int) < 2:=by omega
      clear h2
      by_cases h3:40 < a.pts.length
      · have HO:=Lib.hid (HC.out.trans (if_pos h3))
        have h3':40 < (a.pts.length:Int):=by omega
        clear HC h3
        go_wp2_with (go_at_call 61;(with_reducible refine zae (kn.out _) ?_))
        go_ret
        exact Ret.int HO.out.symm B0
      · have HC:=Lib.hid (HC.out.trans (if_neg h3))
        have h3':¬ 40 < (a.pts.length:Int):=by omega
        have h40:a.pts.length≤40:=by omega
        clear h3
        go_wp2_with (go_at_call 61;(with_reducible refine zae (kn.out _) ?_))
        clear h2' h3' c0 c1 kn
        have HX:=Lib.hid X0
        have HB:=Lib.hid B0
        clear X0 B0
        go_loopw [23] (fun iv wr=>∃ k:Nat,k≤a.pts.length∧iv=.int .i64 k∧zcy a.pts a.pts 0=zcy a.pts (a.pts.drop k) k∧Below W.heap.size W wr) (fun iv _=>a.pts.length - (intOf iv).toNat)
        case atStart=>exact ⟨0,by omega,rfl,rfl,Below.refl _ _⟩
        case round=>
          obtain ⟨k,hk,rfl,hf,BW⟩:=hrel
          have HF:=Lib.hid hf
          clear hf
          have BB:=zaa HB.out BW
          by_cases hlt:k < a.pts.length
          · have X1:=HX.out.step BW
            have i1:zce wr g0 0:=⟨_,X1.is_awy rfl⟩
            have i2:zcz wr g0 0=zao a A c:=zby (X1.is_awy rfl)
            have kc:=Lib.hid (ztI a _ k wr (HLB.out wr BB) (HAB.out wr BB) hs hlt)
            have HD:=Lib.hid (HF.out.trans (zg1 a.pts hlt))
            clear HF X1
            generalize zfn a.pts k a.pts[k]=v at kc HD
            have hlt':(k:Int) < (a.pts.length:Int):=by omega
            by_cases hv:v=0
            · subst hv
              have HD:=Lib.hid (show zcy a.pts a.pts 0=zcy a.pts (a.pts.drop (k+1)) (k+1) from HD.out)
              go_wp2_with (go_at_call 194;(with_reducible refine zaj kc.out ?_);intro w1 b1 _ _ _)
              go_roundw
              case rel=>exact ⟨k+1,by omega,by go_num,HD.out,zaa BW b1⟩
              case measure=>simp [intOf];omega
            · have hv':(v != 0)=true:=by simpa using hv
              have HO:=Lib.hid (show zbl a=v by rw [HC.out,HD.out];unfold orE;rw [if_pos hv'])
              clear hv HC HD
              go_wp2_with (go_at_call 194;(with_reducible refine zaj kc.out ?_);intro w1 b1 _ _ _)
              go_ret
              exact Ret.int HO.out.symm (zaa BB b1)
          · have HO:=Lib.hid (show zbl a=0 by rw [HC.out,HF.out,List.drop_of_length_le (by omega)];rfl)
            have hlt':¬ (k:Int) < (a.pts.length:Int):=by omega
            go_wp2
            go_ret
            exact Ret.int HO.out.symm BB
theorem Items.keepB {w w':World} {A:Option Addr} {n:Nat} {l:List (Array Value)} (h:Items w A n l) (hk:∀ a,A=some a→w'.heap[a.block]? = w.heap[a.block]?) (hs:w.heap.size≤w'.heap.size):Items w' A n l:=by
  refine ⟨fun hne=>?_⟩
  obtain ⟨b,off,rfl,hb,hc⟩:=h.at_ hne
  refine ⟨b,off,rfl,Nat.lt_of_lt_of_le hb hs,fun i x hx j hj=>?_⟩
  have hb2:w'.heap[b]? = w.heap[b]?:=hk _ rfl
  rw [World.cell?_of_block (w:=w) (a:=⟨b,off+i * n+j,none⟩) hb2]
  exact hc i x hx j hj
theorem Items.keepN {w w':World} {A:Option Addr} {n:Nat} {l:List (Array Value)} (h:Items w A n l) (hk:l ≠ []→∀ a,A=some a→a.block < w.heap.size→w'.heap[a.block]? = w.heap[a.block]?) (hs:w.heap.size≤w'.heap.size):Items w' A n l:=by
  refine ⟨fun hne=>?_⟩
  obtain ⟨b,off,rfl,hb,hc⟩:=h.at_ hne
  refine ⟨b,off,rfl,Nat.lt_of_lt_of_le hb hs,fun i x hx j hj=>?_⟩
  have hb2:w'.heap[b]? = w.heap[b]?:=hk hne _ rfl hb
  rw [World.cell?_of_block (w:=w) (a:=⟨b,off+i * n+j,none⟩) hb2]
  exact hc i x hx j hj
structure AwyFar (w:World) (B:Nat) (cs:Array Value) (a:AwyV):Prop where
  ex:∃ A c,cs=zao a A c∧a.pts.length≤c∧Items w A 4 (a.pts.map APt.arr)∧(a.pts ≠ []→∀ q,A=some q→B≤q.block)
theorem AwyFar.at_ {w:World} {B:Nat} {cs:Array Value} {a:AwyV} (h:AwyFar w B cs a):AwyAt w cs a:=by
  obtain ⟨A,c,h1,h2,h3,_⟩:=h.ex
  exact ⟨⟨A,c,h1,h2,h3⟩⟩
theorem AwyFar.keep {w w':World} {B:Nat} {cs:Array Value} {a:AwyV} (h:AwyFar w B cs a) (hk:∀ b,B≤b→b < w.heap.size→w'.heap[b]? = w.heap[b]?) (hs:w.heap.size≤w'.heap.size):AwyFar w' B cs a:=by
  obtain ⟨A,c,h1,h2,h3,h4⟩:=h.ex
  exact ⟨⟨A,c,h1,h2,h3.keepN (fun hne q hq hb=>hk _ (h4 (by rintro e;rw [e] at hne;exact hne rfl) q hq) hb) hs,h4⟩⟩
theorem AwyFar.no (w:World) (B:Nat):AwyFar w B #[.string ⟨#[]⟩, .slice none 0 0] zcg:=⟨⟨none,0,rfl,Nat.le_refl _,Items.nil _ _ _,fun h=>absurd rfl h⟩⟩
def zwr (w:World) (r:AwyV × Int) (e:Ending) (w':World):Prop:=∃ cs,e=.returned (.tuple #[.agg cs, .int .i64 r.2])∧AwyFar w' w.heap.size cs r.1∧Below w.heap.size w w'
theorem zwX {P:Program} {f:FuncId} {args:Array Value} {W:World} {r:AwyV × Int} {K:Ending→World→Prop} (h:Calls P f args W (zwr W r))
    (k:∀ cs w',AwyFar w' W.heap.size cs r.1→Below W.heap.size W w'→K (.returned (.tuple #[.agg cs, .int .i64 r.2])) w'):Calls P f args W K:=
  h.mono fun e w' ⟨cs,he,h1,h2⟩=>by subst he;exact k cs w' h1 h2
def zcc (l:List AwyV) (n:List UInt8):AwyV × Int:=match zaU n l with | none=>(zcg,6) | some a=>(a,0)
theorem zcG (a:AwyV) (A:Option Addr) (c:Nat):zdQ (zao a A c):=by simp [zdQ,zao,Value.oneCell']
theorem zdJ (a:AwyV) (A:Option Addr) (c:Nat):zdg (zao a A c) 2:=rfl
theorem zcH (a:AwyV) (A:Option Addr) (c o n:Nat):Fits o n (zao a A c)=(o+n≤2):=propext ⟨fun h=>h,fun h=>h⟩
theorem zb0 (a b:AwyV) (A B:Option Addr) (c d:Nat):splice (zao a A c) 0 (zao b B d)=zao b B d:=rfl
theorem zvL (l:List APt):∀ y ∈ l.map APt.arr,y.toList.all (·.oneCell')=true:=by
  intro y hy
  obtain ⟨p,_,rfl⟩:=List.mem_map.1 hy
  exact p.arr_oneL
theorem zoe (l:List APt):∀ y ∈ l.map APt.arr,y.size=4:=by
  intro y hy
  obtain ⟨p,_,rfl⟩:=List.mem_map.1 hy
  exact p.arr_sz
def zw1 (parts:Array (Nat × Value)):Sem Value:=Instr.build 81 parts
theorem zde (parts:Array (Nat × Value)):Instr.build 81 parts=zw1 parts:=rfl
theorem zd4 (w:World):(zw1 #[]).run Tryz.prog w=.ok (.agg (zao zcg none 0)) w:=run_build w _ _ _ (by kernel_rfl)
attribute [local go_sem ↓] zde
attribute [local go_sem] zd4 zcG zdJ zcH zb0
set_option maxHeartbeats 4000000 in
theorem zq1 (cs:Array Value) (l:List AwyV) (A:Option Addr) (c:Nat) (h7:cs[7]? = some (.slice A l.length c)) (hlc:l.length≤c) (hn:l.length≤9000000000) (n:List UInt8) (w:World) (hA:AwysAt w A l) (hs:∀ a ∈ l,a.small):
    Calls Tryz.prog 116 #[.agg cs, .string ⟨n.toArray⟩] w (zwr w (zcc l n)):=by
  go_enter Tryz.func116,Tryz.ntmps116
  go_upto_region 1 with (fail)
  have X0:Blk (w.alloc (.cells cs 37)) w.heap.size cs:=Blk.new w _ _
  have B0:=zad w (.cells cs 37)
  have hsz:(w.alloc (.cells cs 37)).heap.size=w.heap.size+1:=World.size_alloc _ _
  generalize w.alloc _=W0 at X0 B0 hsz ⊢
  rw [← hsz]
  have Y1:Blk (W0.alloc (.cells (zao zcg none 0) 81)) W0.heap.size (zao zcg none 0):=Blk.new W0 _ _
  have B1:=zaa B0 (zad W0 (.cells (zao zcg none 0) 81))
  have X1:=X0.alloc (.cells (zao zcg none 0) 81)
  have hgle:w.heap.size≤W0.heap.size:=B0.size
  generalize hW:W0.alloc _=W
  have hE:W0.alloc (.cells (zao zcg none 0) 81)=W:=hW
  rw [hE] at Y1 B1 X1
  clear hW hE
  generalize W0.heap.size=g1 at Y1 hgle ⊢
  generalize w.heap.size=g0 at X1 ⊢
  have k7:W.cell? ⟨g0,7,none⟩=some (.slice A l.length c):=(X1.cell 7).trans h7
  have HA:=Lib.hid (fun (W':World) (B:Below W.heap.size W W')=>hA.below (zaa B1 B))
  have HF:=Lib.hid (show zcc l n=(match zaU n l with | none=>(zcg,6) | some a=>(a,0)) from rfl)
  have HY:=Lib.hid Y1
  have HB:=Lib.hid B1
  have B1s:=Lib.hid B1.size
  have HLC:=Lib.hid hlc
  clear X0 hsz h7 X1 B0 hA Y1 B1
  go_wp2
  clear k7
  go_loopw [11] (fun iv wr=>∃ k:Nat,k≤l.length∧iv=.int .i64 k∧zaU n l=zaU n (l.drop k)∧Below W.heap.size W wr) (fun iv _=>l.length - (intOf iv).toNat)
  case atStart=>exact ⟨0,by omega,rfl,rfl,Below.refl _ _⟩
  case round=>
    obtain ⟨k,hk,rfl,hf,BW⟩:=hrel
    have HG:=Lib.hid hf
    clear hf
    by_cases hlt:k < l.length
    · obtain ⟨b,off,cs',hAe,hb,hIs,hAt⟩:=(HA.out wr BW).get (Below.refl _ _) hlt
      obtain ⟨A2,c2,rfl,hl2,hI2⟩:=hAt.ex
      have hsm:=hs _ (List.getElem_mem hlt)
      have HD:=Lib.hid (show zaU n l=if l[k].name == n then some l[k] else zaU n (l.drop (k+1)) by rw [HG.out,List.drop_eq_getElem_cons hlt];rfl)
      clear hAt HG
      generalize l[k]=a at *
      subst hAe
      have i1:zce wr b (off+k * 2):=⟨_,hIs⟩
      have i2:zcz wr b (off+k * 2)=zao a A2 c2:=zby hIs
      have hlt':(k:Int) < (l.length:Int):=by omega
      have hkc:k < c:=by have:=HLC.out;omega
      go_upto_region 4 with (fail)
      have Z:=Blk.new wr (zao a A2 c2) 81
      have D:=zad wr (.cells (zao a A2 c2) 81)
      have hI3:=hI2.below D
      have hgw:g1 < wr.heap.size:=Nat.lt_of_lt_of_le HY.out.lt BW.size
      have hWw:W.heap.size≤wr.heap.size:=BW.size
      clear i1 i2 hIs hI2 hb
      generalize wr.alloc _=W2 at Z D hI3 ⊢
      obtain ⟨g7,hg7⟩:∃ g,g=wr.heap.size:=⟨_,rfl⟩
      rw [← hg7] at Z ⊢
      have hne:g7 ≠ g1:=by omega
      have h7W:W.heap.size≤g7:=by omega
      have h7r:wr.heap.size≤g7:=by omega
      have h71:g1 < g7:=by omega
      clear hg7 hgw hWw
      have z0:W2.cell? ⟨g7,0,none⟩=some (.string ⟨a.name.toArray⟩):=Z.cell 0
      have z1:W2.cell? ⟨g7,1,none⟩=some (.slice A2 a.pts.length c2):=Z.cell 1
      by_cases hnm:a.name=n
      · have h1:(a.name == n)=true:=by simpa using hnm
        have HO:=Lib.hid (show zcc l n=(a,0) by rw [HF.out,HD.out,if_pos h1])
        have kc:=Lib.hid (ztH (a.pts.map APt.arr) A2 a.pts.length c2 W2 hI3 (by simp) (by have:=hsm.len;omega) (zoe _) (zvL _))
        clear HD hnm
        go_upto_region 6 with (go_at_call 159;(with_reducible refine ze9 kc.out ?_);intro A3 c3 w3 O3 b3;have Z3:=Z.step b3;have f1:=Z3.frozen 1;have f2:w3.cell? ⟨g7,1,none⟩=some (.slice A2 a.pts.length c2):=Z3.cell 1)
        have Z4:Blk (w3.setCell ⟨g7,1,none⟩ (.slice A3 a.pts.length c3)) g7 (zao a A3 c3):=Z3.setCell 1 _
        have D4:Below wr.heap.size wr (w3.setCell ⟨g7,1,none⟩ (.slice A3 a.pts.length c3)):=zat (zaa D b3) h7r 1 _
        obtain ⟨A4,c4,e4,hl4,hI4,hA4,_⟩:=O3.form (zoe _)
        injection e4 with e4 _ e5
        subst e4 e5
        rw [List.length_map] at hl4
        have hg7lt:=Z.lt
        have hI5:Items (w3.setCell ⟨g7,1,none⟩ (.slice A3 a.pts.length c3)) A3 4 (a.pts.map APt.arr):=hI4.keepB (fun q hq=>Below.heap_setCell _ _ _ _ (by have:=hA4 q hq;show q.block ≠ g7;omega)) (by simp [World.setCell])
        have Y4:=(HY.out.step BW).step D4
        have B4:=zaa (zaa HB.out BW) D4
        clear f1 f2 z0 z1 Z3 O3 D Z kc hI3 hI4
        generalize w3.setCell _ _=w4 at *
        have i1:zce w4 g7 0:=⟨_,Z4.is_awy rfl⟩
        have i2:zcz w4 g7 0=zao a A3 c3:=zby (Z4.is_awy rfl)
        have d2:=Y4.plain
        have d3:=Y4.of
        go_wp2
        exact bodyPost_ret (zal Tryz.results116 _ _ g1 (zao a A3 c3) 2 _ rfl rfl (Y4.set _).cell Tryz.underlying81 rfl zel) rfl ⟨_,by rw [HO.out];rfl,by rw [HO.out];exact ⟨⟨A3,c3,rfl,hl4,hI5.keepB (fun q hq=>setRow_other _ _ _ _ (by have:=hA4 q hq;omega)) (by simp [World.setRow]),fun _ q hq=>by have:=hA4 q hq;have:=B1s.out;omega⟩⟩,zab B4 hgle _⟩
      · have h1:(a.name == n)=false:=by simpa using hnm
        have HD:=Lib.hid (show zaU n l=zaU n (l.drop (k+1)) by rw [HD.out,h1];rfl)
        clear hnm
        go_wp2
        go_roundw
        case rel=>exact ⟨k+1,by omega,by go_num,HD.out,zaa BW D⟩
        case measure=>simp [intOf];omega
    · have HO:=Lib.hid (show zcc l n=(zcg,6) by rw [HF.out,HG.out,List.drop_of_length_le (by omega)];rfl)
      have hlt':¬ (k:Int) < (l.length:Int):=by omega
      have Y2:=HY.out.step BW
      have d2:=Y2.plain
      have d3:=Y2.of
      have B2:=zaa HB.out BW
      clear hlt
      go_wp2
      exact bodyPost_ret (zal Tryz.results116 _ _ g1 (zao zcg none 0) 2 _ rfl rfl (Y2.set _).cell Tryz.underlying81 rfl zel) rfl ⟨_,by rw [HO.out];rfl,by rw [HO.out];exact AwyFar.no _ _,zab B2 hgle _⟩
end Go.Proofs.YtgoeedohgomodaaGreatDoor
namespace Go.Proofs.YtgoeedohgomodaaGreatDoor
open Go.RowKit
theorem zpU {l:List UInt8} {most:Int} (h:zbF l most=true):(l.length:Int)≤most:=by
  unfold zbF at h
  split at h
  · cases h
  · simp only [Bool.and_eq_true,decide_eq_true_eq] at h
    exact h.1.1
structure GDB.short (G:GDB):Prop where
  fix:∀ f ∈ G.fixes,f.ident.length≤1000000000∧f.region.length≤1000000000
  air:∀ a ∈ G.airways,∀ p ∈ a.pts,p.ref.length≤4000000000
  prc:∀ p ∈ G.procs,∀ x ∈ p.parts,∀ l ∈ x.legs,l.small
theorem zny {a:List UInt8}:∀ {l:List FixV} {f:FixV},zgq a l=some f→f ∈ l
  | [],f,h=>by cases h
  | g :: t,f,h=>by
    unfold zgq at h
    split at h
    · obtain rfl:g=f:=by simpa using h
      simp
    · exact List.mem_cons_of_mem _ (zny h)
theorem zdW {G:GDB} (hs:G.short) (s:List UInt8):(zbi G.fixes s).1.length≤4000000000:=by
  unfold zbi
  split
  · simp
  · rename_i h0
    split
    · rename_i h1
      split
      · have hp:zgr (cutAt 47 s) 6=true:=by simpa [zcf] using h0
        unfold zgr at hp
        simp only [Bool.and_eq_true,Bool.or_eq_true,Bool.not_eq_true'] at hp
        have h2:=zpU hp.1
        have h3:((cutAt 47 s).2.1.length:Int)≤6:=by
          rcases hp.2 with h | h
          · exfalso
            apply h1
            have:∀ l:List UInt8,(cutAt 47 l).2.2=false→(cutAt 47 l).2.1=[]:=by
              intro l
              induction l with
              | nil=>intro _;rfl
              | cons x r ih=>
                intro h
                unfold cutAt at h ⊢
                split at h
                · cases h
                · rename_i hx
                  rw [if_neg hx]
                  exact ih h
            exact this s h
          · exact zpU h
        simp only [List.length_append,List.length_cons]
        omega
      · simp
    · split
      · simp
      · rename_i f hf
        have:=hs.fix f (zny hf)
        show f.ref.length≤_
        unfold FixV.ref
        rw [List.length_append,List.length_cons]
        omega
theorem ze5 {n:List UInt8}:∀ {l:List AwyV} {f:AwyV},zaU n l=some f→f ∈ l
  | [],f,h=>by cases h
  | g :: t,f,h=>by
    unfold zaU at h
    split at h
    · obtain rfl:g=f:=by simpa using h
      simp
    · exact List.mem_cons_of_mem _ (ze5 h)
theorem zbh {a:List UInt8} {k:Int} {n:List UInt8}:∀ {l:List ProcV} {f:ProcV},zas a k n l=some f→f ∈ l
  | [],f,h=>by cases h
  | g :: t,f,h=>by
    unfold zas at h
    split at h
    · obtain rfl:g=f:=by simpa using h
      simp
    · exact List.mem_cons_of_mem _ (zbh h)
theorem zfp {k:Int} {n:List UInt8}:∀ {l:List PartV} {f:PartV},zaY k n l=some f→f ∈ l
  | [],f,h=>by cases h
  | g :: t,f,h=>by
    unfold zaY at h
    split at h
    · obtain rfl:g=f:=by simpa using h
      simp
    · exact List.mem_cons_of_mem _ (zfp h)
theorem zpJ {pts:List APt} (h:∀ p ∈ pts,p.ref.length≤4000000000) (k:Nat):(zdK pts k).ref.length≤4000000000:=by
  unfold zdK
  rw [List.getD_eq_getElem?_getD]
  cases hq:pts[k]? with
  | none=>simp [noPt]
  | some x=>exact h x (List.mem_of_getElem? hq)
theorem zlE {pts:List APt} (h:∀ p ∈ pts,p.ref.length≤4000000000):∀ (n i:Nat) (acc:List (List UInt8 × Int × Int)),(∀ q ∈ acc,q.1.length≤4000000000) →
    (zgg pts i n acc).1.length≤acc.length+n∧∀ q ∈ (zgg pts i n acc).1,q.1.length≤4000000000
  | 0,i,acc,ha=>⟨Nat.le_refl _,ha⟩
  | n+1,i,acc,ha=>by
    unfold zgg
    split
    · exact ⟨by simp,fun q hq=>by cases hq⟩
    · obtain ⟨h1,h2⟩:=zlE h n (i+1) (acc ++ [((zdK pts (i+1)).ref,(zdK pts i).lo,(zdK pts i).hi)]) (fun q hq=>by
        rcases List.mem_append.1 hq with hq | hq
        · exact ha q hq
        · obtain rfl:q=_:=by simpa using hq
          exact zpJ h _)
      rw [List.length_append,List.length_singleton] at h1
      exact ⟨by omega,h2⟩
theorem zlF {pts:List APt} (h:∀ p ∈ pts,p.ref.length≤4000000000):∀ (n i:Nat) (acc:List (List UInt8 × Int × Int)),(∀ q ∈ acc,q.1.length≤4000000000) →
    (zgh pts i n acc).1.length≤acc.length+n∧∀ q ∈ (zgh pts i n acc).1,q.1.length≤4000000000
  | 0,i,acc,ha=>⟨Nat.le_refl _,ha⟩
  | n+1,i,acc,ha=>by
    unfold zgh
    split
    · exact ⟨by simp,fun q hq=>by cases hq⟩
    · obtain ⟨h1,h2⟩:=zlF h n (i - 1) (acc ++ [((zdK pts (i - 1)).ref,(zdK pts (i - 1)).lo,(zdK pts (i - 1)).hi)]) (fun q hq=>by
        rcases List.mem_append.1 hq with hq | hq
        · exact ha q hq
        · obtain rfl:q=_:=by simpa using hq
          exact zpJ h _)
      rw [List.length_append,List.length_singleton] at h1
      exact ⟨by omega,h2⟩
theorem ze2 (r:List UInt8):∀ (l:List APt) (k:Nat),0≤zbT r l k→(k:Int)≤zbT r l k∧zbT r l k < k+l.length
  | [],k,h=>by simp [zbT] at h
  | p :: t,k,h=>by
    unfold zbT at h ⊢
    split
    · exact ⟨Int.le_refl _,by simp;omega⟩
    · rename_i hc
      rw [if_neg hc] at h
      have:=ze2 r t (k+1) h
      exact ⟨by omega,by simp;omega⟩
theorem zeo {a:AwyV} (h:zbl a=0):2≤a.pts.length∧a.pts.length≤40:=by
  unfold zbl at h
  split at h
  · simp at h
  split at h
  · simp at h
  split at h
  · simp at h
  omega
theorem zfz {a:AwyV} (h:∀ p ∈ a.pts,p.ref.length≤4000000000) (f t:List UInt8):(zaG a f t).1.length≤100000∧∀ q ∈ (zaG a f t).1,q.1.length≤4000000000:=by
  unfold zaG
  split
  · exact ⟨by simp,fun q hq=>by cases hq⟩
  rename_i h1
  have h1:zbl a=0:=by simpa using h1
  have hl:=zeo h1
  split
  · exact ⟨by simp,fun q hq=>by cases hq⟩
  rename_i h2
  split
  · exact ⟨by simp,fun q hq=>by cases hq⟩
  have i1:=ze2 f a.pts 0 (by omega)
  have i2:=ze2 t a.pts 0 (by omega)
  split
  · obtain ⟨k1,k2⟩:=zlE h ((zbT t a.pts 0).toNat - (zbT f a.pts 0).toNat) (zbT f a.pts 0).toNat [] (fun q hq=>by cases hq)
    exact ⟨by simp only [List.length_nil] at k1;omega,k2⟩
  · obtain ⟨k1,k2⟩:=zlF h ((zbT f a.pts 0).toNat - (zbT t a.pts 0).toNat) (zbT f a.pts 0).toNat [] (fun q hq=>by cases hq)
    exact ⟨by simp only [List.length_nil] at k1;omega,k2⟩
theorem zsH {pk:Int} {prev:Option PartV} {x:PartV} (h:zg5 pk prev x=0):x.legs.length≤24∧1≤x.legs.length:=by
  unfold zg5 at h
  split at h
  · simp at h
  obtain ⟨_,h⟩:=orE_eq0.1 h
  obtain ⟨h,_⟩:=orE_eq0.1 h
  unfold zhN at h
  split at h
  · simp at h
  split at h
  · simp at h
  split at h
  · simp at h
  omega
theorem zkY {pk:Int}:∀ {l:List PartV} {prev:Option PartV},zdO pk prev l=0→∀ x ∈ l,x.legs.length≤24∧1≤x.legs.length
  | [],_,_,x,hx=>by cases hx
  | y :: r,prev,h,x,hx=>by
    unfold zdO at h
    obtain ⟨h1,h2⟩:=orE_eq0.1 h
    rcases List.mem_cons.1 hx with rfl | hx
    · exact zsH h1
    · exact zkY h2 x hx
theorem zg2 {p:ProcV} (h:zay p=0):∀ x ∈ p.parts,x.legs.length≤24∧1≤x.legs.length:=by
  unfold zay at h
  split at h
  · simp at h
  split at h
  · simp at h
  split at h
  · simp at h
  exact zkY (orE_eq0.1 h).1
def ShL (n:Nat) (l:List Leg):Prop:=l.length≤n∧∀ x ∈ l,x.small
theorem ShL.joint {n m:Nat} {a b:List Leg} (ha:ShL n a) (hb:ShL m b):ShL (n+m) (zbo a b):=by
  unfold zbo
  split
  · refine ⟨?_,fun x hx=>?_⟩
    · rw [List.length_append,List.length_drop];have:=ha.1;have:=hb.1;omega
    · rcases List.mem_append.1 hx with h | h
      · exact ha.2 x h
      · exact hb.2 x (List.mem_of_mem_drop h)
  · refine ⟨?_,fun x hx=>?_⟩
    · rw [List.length_append];have:=ha.1;have:=hb.1;omega
    · rcases List.mem_append.1 hx with h | h
      · exact ha.2 x h
      · exact hb.2 x h
theorem zmA {pk:Int} {f:Int→List Leg} (hf:∀ k,ShL 24 (f k)):ShL 1000 (zca pk f):=by
  have h0:ShL 0 []:=⟨Nat.le_refl _,fun x hx=>by cases hx⟩
  have m:∀ {n:Nat} {l:List Leg},ShL n l→n≤1000→ShL 1000 l:=fun h k=>⟨Nat.le_trans h.1 k,h.2⟩
  unfold zca zb7
  split
  · exact m (((h0.joint (hf 1)).joint (hf 2)).joint (hf 3)) (by omega)
  · split
    · exact m (((h0.joint (hf 3)).joint (hf 2)).joint (hf 1)) (by omega)
    · split
      · exact m (((h0.joint (hf 3)).joint (hf 2)).joint (hf 4)) (by omega)
      · exact m h0 (by omega)
end Go.Proofs.YtgoeedohgomodaaGreatDoor
namespace Go.Proofs.YtgoeedohgomodaaGreatDoor
open Go.RowKit Go.Sort
set_option maxRecDepth 100000
def wpt (q:List UInt8 × Int × Int):APt:=⟨q.1,q.2.1,q.2.2,0⟩
def zfc (q:List UInt8 × Int × Int):Array Value:=(wpt q).arr
def RetWay (w:World) (r:List (List UInt8 × Int × Int) × Int) (e:Ending) (w':World):Prop:=
  ∃ A c,e=.returned (.tuple #[.slice A r.1.length c, .int .i64 r.2])∧r.1.length≤c∧Items w' A 4 (r.1.map zfc)∧Below w.heap.size w w'
theorem RetWay.err {w w':World} {r:List (List UInt8 × Int × Int) × Int} {n:Int} (h:r=([],n)) (hb:Below w.heap.size w w'):RetWay w r (.returned (.tuple #[.slice none 0 0, .int .i64 n])) w':=by
  subst h
  exact ⟨none,0,rfl,Nat.le_refl _,Items.nil _ _ _,hb⟩
theorem zmF {P:Program} {f:FuncId} {args:Array Value} {W:World} {r:List (List UInt8 × Int × Int) × Int} {K:Ending→World→Prop} (h:Calls P f args W (RetWay W r))
    (k:∀ A c w',r.1.length≤c→Items w' A 4 (r.1.map zfc)→Below W.heap.size W w'→K (.returned (.tuple #[.slice A r.1.length c, .int .i64 r.2])) w'):Calls P f args W K:=
  h.mono fun e w' ⟨A,c,he,h1,h2,h3⟩=>by subst he;exact k A c w' h1 h2 h3
theorem zjI (r:List UInt8):∀ (l:List APt) (k:Nat), -1≤zbT r l k
  | [],k=>by simp [zbT]
  | x :: t,k=>by
    unfold zbT
    split
    · omega
    · exact zjI r t (k+1)
def zxR (parts:Array (Nat × Value)):Sem Value:=Instr.build 107 parts
theorem zhE (parts:Array (Nat × Value)):Instr.build 107 parts=zxR parts:=rfl
theorem zi6 (w:World) (r:List UInt8) (a b:Int):(zxR #[(0, .string ⟨r.toArray⟩),(1, .agg (Win.arr ⟨a,b⟩))]).run Tryz.prog w=.ok (.agg (zfc (r,a,b))) w:=run_build w _ _ _ (by kernel_rfl)
def zyn (parts:Array (Nat × Value)):Sem Value:=Instr.buildSlice 79 1 parts
theorem zoc (parts:Array (Nat × Value)):Instr.buildSlice 79 1 parts=zyn parts:=rfl
theorem zpH (w:World) (q:List UInt8 × Int × Int):(zyn #[(0, .agg (zfc q))]).run Tryz.prog w=.ok (.slice (some ⟨w.heap.size,0,none⟩) 1 1) (w.alloc (.cells (zfc q) 107)):=by
  obtain ⟨i0,hi,hz0,hz1,hz2⟩:=info_parts zd9
  refine run_buildSlice w 79 107 1 #[(0, .agg (zfc q))] (zfc q) i0 _ Tryz.underlying79 hi hz0 (by rw [hz1];decide) (by rw [hz1];decide) ?_
  rw [hz1]
  kernel_rfl
attribute [local go_sem ↓] zhE zoc
attribute [local go_sem] zi6 zpH
theorem APt.win_at {W:World} {b o:Nat} {p:APt} (h:zds W b o p):zid W b (o+1) ⟨p.lo,p.hi⟩:=fun j hj=>by
  rw [Nat.add_assoc]
  refine (h (1+j) (by omega)).trans ?_
  match j,hj with
  | 0,_=>rfl
  | 1,_=>rfl
theorem zpK {pts:List APt} {k:Nat} (h:k < pts.length):zdK pts k=pts[k]:=by simp [zdK,List.getD_eq_getElem?_getD,h]
set_option maxHeartbeats 8000000 in
theorem zpB (a:AwyV) (cs:Array Value) (f t:List UInt8) (w:World) (hL:Laid w) (h:AwyAt w cs a) (hs:a.small):
    Calls Tryz.prog 120 #[.agg cs, .string ⟨f.toArray⟩, .string ⟨t.toArray⟩] w (RetWay w (zaG a f t)):=by
  obtain ⟨A,c,rfl,hlc,hI⟩:=h.ex
  have HLB:=Lib.hid (fun (W:World) (B:Below w.heap.size w W)=>hL.below B)
  have HAB:=Lib.hid (fun (W:World) (B:Below w.heap.size w W)=>h.below B)
  have HIT:=Lib.hid hI
  have HC:=Lib.hid (show zaG a f t=if zbl a ≠ 0 then ([],zbl a) else if zbT f a.pts 0 < 0∨zbT t a.pts 0 < 0 then ([],6) else if zbT f a.pts 0=zbT t a.pts 0 then ([],1) else
    if zbT f a.pts 0 < zbT t a.pts 0 then zgg a.pts (zbT f a.pts 0).toNat ((zbT t a.pts 0).toNat - (zbT f a.pts 0).toNat) [] else zgh a.pts (zbT f a.pts 0).toNat ((zbT f a.pts 0).toNat - (zbT t a.pts 0).toNat) [] from rfl)
  have hcl:=Lib.hid (fun h=>(@zeo a h).2)
  have hlen:=hs.len
  go_enter Tryz.func120,Tryz.ntmps120
  go_upto_region 1 with (fail)
  have X0:=Blk.new w (zao a A c) 81
  have B0:=zad w (.cells (zao a A c) 81)
  generalize w.alloc _=W at X0 B0 ⊢
  obtain ⟨g0,hg0⟩:∃ g,g=w.heap.size:=⟨_,rfl⟩
  rw [← hg0] at X0 ⊢
  clear hg0
  have i1:zce W g0 0:=⟨_,X0.is_awy rfl⟩
  have i2:zcz W g0 0=zao a A c:=zby (X0.is_awy rfl)
  have kc:=Lib.hid (zrL a _ W (HLB.out W B0) (HAB.out W B0) hs)
  clear hL h hI
  by_cases hv:zbl a=0
  case neg=>
    have HO:=Lib.hid (HC.out.trans (if_pos hv))
    generalize zbl a=v at *
    have hv':(v != 0)=true:=by simpa using hv
    clear hv HC hcl X0
    go_wp2_with (go_at_call 160;(with_reducible refine zaj kc.out ?_);intro w1 b1 _ _ _)
    go_ret2
    exact RetWay.err HO.out (zaa B0 b1)
  have HC:=Lib.hid (HC.out.trans (if_neg (not_not_intro hv)))
  have h40:=hcl.out hv
  rw [hv] at kc
  clear hv hcl
  go_upto_region 4 with (go_at_call 160;(with_reducible refine zaj kc.out ?_);intro w1 b1 _ _ _)
  have X1:=Lib.hid (X0.step b1)
  have B1:=zaa B0 b1
  clear i1 i2 kc X0 B0 b1
  have hx1:=zjI f a.pts 0
  have hx2:=fun h=>(ze2 f a.pts 0 h).2
  have hy1:=zjI t a.pts 0
  have hy2:=fun h=>(ze2 t a.pts 0 h).2
  have j1:∀ d os,zce (grow (redrawn w1 d) os) g0 0:=fun d os=>⟨_,(X1.out.step (below_regrown w1 d os)).is_awy rfl⟩
  have j2:∀ d os,zcz (grow (redrawn w1 d) os) g0 0=zao a A c:=fun d os=>zby ((X1.out.step (below_regrown w1 d os)).is_awy rfl)
  have k1:∀ d os,Calls Tryz.prog 161 #[.agg (zao a A c), .string ⟨f.toArray⟩] (grow (redrawn w1 d) os) fun e w''=>e=.returned (.int .i64 (zbT f a.pts 0))∧∃ q:Regrown,w''=grow (redrawn w1 q.d) q.os:=fun d os=>Calls.regrown_ret (zhH a _ f _ (HAB.out _ (zaa B1 (below_regrown w1 d os))) (by omega))
  have k2:∀ d os,Calls Tryz.prog 161 #[.agg (zao a A c), .string ⟨t.toArray⟩] (grow (redrawn w1 d) os) fun e w''=>e=.returned (.int .i64 (zbT t a.pts 0))∧∃ q:Regrown,w''=grow (redrawn w1 q.d) q.os:=fun d os=>Calls.regrown_ret (zhH a _ t _ (HAB.out _ (zaa B1 (below_regrown w1 d os))) (by omega))
  generalize zbT f a.pts 0=x at *
  generalize zbT t a.pts 0=y at *
  have HX2:=Lib.hid hx2
  have HY2:=Lib.hid hy2
  clear hx2 hy2
  refine wp_region_quiet_below (by kernel_rfl) (by kernel_rfl) ?_
  repeat (go_big_quiet_step (with_reducible first | exact k1 _ _ | exact k2 _ _))
  refine wpQuiet_nil ?_
  intro _ hw'
  obtain ⟨⟨dq,osq⟩,hw''⟩:=hw'
  subst hw''
  have B2:=zaa B1 (below_regrown w1 dq osq)
  have X2:=X1.out.step (below_regrown w1 dq osq)
  clear j1 j2 k1 k2 X1 B1
  generalize grow (redrawn w1 dq) osq=W2 at X2 B2 ⊢
  by_cases hx:x < 0
  · have HO:=Lib.hid (HC.out.trans (if_pos (.inl hx)))
    clear HC HX2 HY2
    go_wp2
    go_ret2
    exact RetWay.err HO.out B2
  by_cases hy:y < 0
  · have HO:=Lib.hid (HC.out.trans (if_pos (.inr hy)))
    clear HC HX2 HY2
    go_wp2
    go_ret2
    exact RetWay.err HO.out B2
  have HC:=Lib.hid (HC.out.trans (if_neg (by omega)))
  have hx2:=HX2.out (by omega)
  have hy2:=HY2.out (by omega)
  clear HX2 HY2
  obtain ⟨i0,rfl⟩:∃ k:Nat,x=k:=⟨x.toNat,by omega⟩
  obtain ⟨j0,rfl⟩:∃ k:Nat,y=k:=⟨y.toNat,by omega⟩
  rw [Int.toNat_natCast,Int.toNat_natCast] at HC
  clear hx1 hy1 hx hy
  by_cases heq:i0=j0
  · have HO:=Lib.hid (HC.out.trans (if_pos (by rw [heq])))
    have he:((i0:Int) == (j0:Int))=true:=by simp;omega
    clear HC heq
    go_wp2
    go_ret2
    exact RetWay.err HO.out B2
  have HC:=Lib.hid (HC.out.trans (if_neg (by omega)))
  have he:((i0:Int) == (j0:Int))=false:=by simp;omega
  have hi0:i0 < a.pts.length:=by omega
  have hj0:j0 < a.pts.length:=by omega
  clear hx2 hy2
  have HPT:=Lib.hid (fun (k:Nat) (hk:k < a.pts.length) (W':World) (B:Below w.heap.size w W')=>show ∃ b off,A=some ⟨b,off,none⟩∧zds W' b (off+k * 4) (zdK a.pts k) from by
    obtain ⟨b,off,rfl,hb,_⟩:=HIT.out.get (k:=k) (by simpa using hk)
    exact ⟨b,off,rfl,by rw [zpK hk];exact ze6 HIT.out B hk⟩)
  by_cases hud:i0 < j0
  · have HC:=Lib.hid (HC.out.trans (if_pos (by omega)))
    clear heq
    go_wp2
    clear he
    have HX:=Lib.hid X2
    have HB:=Lib.hid B2
    have HUD:=Lib.hid hud
    clear X2 B2 hud
    go_loopw [9,11] (fun iv v wr=>∃ (i:Nat) (acc:List (List UInt8 × Int × Int)),i0≤i∧i≤j0∧iv=.int .i64 i∧zgg a.pts i0 (j0 - i0) []=zgg a.pts i (j0 - i) acc∧acc.length=i - i0∧GOut W2.heap.size wr 107 4 v (acc.map zfc)∧Below W2.heap.size W2 wr) (fun iv _ _=>j0 - (intOf iv).toNat)
    case atStart=>exact ⟨i0,[],Nat.le_refl _,by have:=HUD.out;omega,rfl,rfl,by simp,GOut.nil _ _ _ _,Below.refl _ _⟩
    case round=>
      obtain ⟨i,acc,hi1,hi2,rfl,hw,hal,O,BW⟩:=hrel
      have HW:=Lib.hid hw
      have HAL:=Lib.hid hal
      have BB:=zaa HB.out BW
      clear hw hal
      by_cases hij:i=j0
      · subst hij
        have HO:=Lib.hid (show zaG a f t=(acc,0) by rw [HC.out,HW.out,Nat.sub_self];rfl)
        obtain ⟨A3,c3,e3,hl3,hI3,_,_⟩:=O.form (by intro y hy;obtain ⟨q,_,rfl⟩:=List.mem_map.1 hy;exact (wpt q).arr_sz)
        rw [List.length_map] at e3 hl3
        subst e3
        clear HC HW O
        go_wp2
        go_ret2
        rw [HO.out]
        exact ⟨A3,c3,rfl,hl3,hI3,BB⟩
      · have hne:((i:Int) != (j0:Int))=true:=by simp;omega
        have hlt:¬ (j0:Int) < (i:Int):=by omega
        obtain ⟨b,off,hA,hP⟩:=HPT.out i (by omega) wr BB
        subst hA
        have HN:=Lib.hid (fun (W':World) (B:Below w.heap.size w W')=>show zds W' b (off+(i+1) * 4) (zdK a.pts (i+1)) from by
          obtain ⟨b',off',hA,hP⟩:=HPT.out (i+1) (by omega) W' B
          obtain ⟨rfl,rfl⟩:b=b'∧off=off':=by simpa using hA
          exact hP)
        have HS:=Lib.hid (show zgg a.pts i0 (j0 - i0) []=if (zdK a.pts i).dir=2 then ([],9) else zgg a.pts (i+1) (j0 - (i+1)) (acc ++ [((zdK a.pts (i+1)).ref,(zdK a.pts i).lo,(zdK a.pts i).hi)]) by
          rw [HW.out,show j0 - i=(j0 - (i+1))+1 by omega];rfl)
        have X3:=HX.out.step BW
        have c1:wr.cell? ⟨g0,1,none⟩=some (.slice (some ⟨b,off,none⟩) a.pts.length c):=X3.cell 1
        have HP:=Lib.hid (fun (W':World) (B:Below wr.heap.size wr W')=>show zds W' b (off+i * 4) (zdK a.pts i) from by
          obtain ⟨b',off',hA,hP⟩:=HPT.out i (by omega) W' (zaa BB B)
          obtain ⟨rfl,rfl⟩:b=b'∧off=off':=by simpa using hA
          exact hP)
        have e3:wr.cell? ⟨b,off+i * 4+3,none⟩=some (.int .u8 (zdK a.pts i).dir):=hP 3 (by omega)
        generalize zdK a.pts i=p at *
        generalize zdK a.pts (i+1)=p2 at *
        have hil:(i:Int) < (a.pts.length:Int):=by omega
        have hic:i < c:=by omega
        clear HW hP
        by_cases hd:p.dir=2
        · have HO:=Lib.hid (show zaG a f t=([],9) by rw [HC.out,HS.out,if_pos hd])
          rw [hd] at e3
          clear HC HS hd
          go_wp2
          go_ret2
          exact RetWay.err HO.out BB
        · have HS:=Lib.hid (HS.out.trans (if_neg hd))
          have hd':(p.dir == 2)=false:=by simpa using hd
          clear hd
          go_upto_region 16 with (fail)
          obtain ⟨m,hm⟩:∃ m:Nat,m=i+1:=⟨_,rfl⟩
          have hmi:(i:Int)+1=(m:Int):=by omega
          rw [hmi]
          rw [← hm] at HN HS
          have hml:(m:Int) < (a.pts.length:Int):=by omega
          have hmc:m < c:=by omega
          have f1:∀ d os,(grow (redrawn wr d) os).cell? ⟨g0,1,none⟩=some (.slice (some ⟨b,off,none⟩) a.pts.length c):=fun d os=>(X3.step (below_regrown wr d os)).cell 1
          have f2:∀ d os,(grow (redrawn wr d) os).cell? ⟨b,off+m * 4,none⟩=some (.string ⟨p2.ref.toArray⟩):=fun d os=>by
            have:=HN.out _ (zaa BB (below_regrown wr d os)) 0 (by omega)
            rw [Nat.add_zero] at this
            exact this
          have f3:∀ d os,zcR (grow (redrawn wr d) os) b (off+i * 4+1):=fun d os=>⟨_,APt.win_at (HP.out _ (below_regrown wr d os))⟩
          have f4:∀ d os,zcL (grow (redrawn wr d) os) b (off+i * 4+1)=⟨p.lo,p.hi⟩:=fun d os=>zb8 (APt.win_at (HP.out _ (below_regrown wr d os)))
          have HOO:=Lib.hid O
          have HM:=Lib.hid hm
          clear O hmi hm c1 e3 X3
          refine zbx _ 14 (by kernel_rfl) (by kernel_rfl) (fun _ _ _ h=>h) (.inl ⟨rfl,fun _=>rfl⟩) ?_
          simp only [Nat.reduceSub,List.take_succ_cons,List.take_zero,List.drop_succ_cons,List.drop_zero,Act.put,List.setIfInBounds_toArray,List.set_cons_zero,List.set_cons_succ]
          repeat (quiet_step (fail))
          refine wpQuiet_nil ?_
          intro _ hw'
          obtain ⟨⟨dq2,osq2⟩,hw''⟩:=hw'
          subst hw''
          have B3:=below_regrown wr dq2 osq2
          have O3:=HOO.out.step B3
          clear f1 f2 f3 f4 HOO
          generalize grow (redrawn wr dq2) osq2=w3 at B3 O3 ⊢
          have O4:=O3.alloc (.cells (zfc (p2.ref,p.lo,p.hi)) 107)
          have B4:=zaa (zaa BW B3) (zad w3 (.cells (zfc (p2.ref,p.lo,p.hi)) 107))
          have hq:=Blk.new w3 (zfc (p2.ref,p.lo,p.hi)) 107
          have hacc:acc.length≤40:=by have:=HAL.out;omega
          go_wp2_with (at_builtin;refine zaK rfl (.tmp 58) (.tmp 72) _ 107 4 40 _ zd9 rfl (by omega) Tryz.underlying79 rfl O4 rfl (zfc (p2.ref,p.lo,p.hi)) w3.heap.size 1 ((wpt (p2.ref,p.lo,p.hi)).arr_sz) ((wpt (p2.ref,p.lo,p.hi)).arr_one) rfl hq.cell (by rw [List.length_map];unfold maxLen;omega) (by rw [List.length_map];omega) B4.size ?_;intro v5 W5 O5 g5)
          go_roundw
          case rel=>exact ⟨m,acc ++ [(p2.ref,p.lo,p.hi)],by have:=HM.out;omega,by have:=HM.out;omega,rfl,HS.out,by rw [List.length_append,List.length_singleton];have:=HM.out;have:=HAL.out;omega,by rw [List.map_append];exact O5,O4.below_grown g5 B4 (Nat.le_refl _) B4.size⟩
          case measure=>simp [intOf];have:=HM.out;omega
  · have HC:=Lib.hid (HC.out.trans (if_neg (by omega)))
    have hud:j0 < i0:=by omega
    clear heq
    go_wp2
    clear he
    have HX:=Lib.hid X2
    have HB:=Lib.hid B2
    have HUD:=Lib.hid hud
    clear X2 B2 hud
    go_loopw [9,11] (fun iv v wr=>∃ (i:Nat) (acc:List (List UInt8 × Int × Int)),j0≤i∧i≤i0∧iv=.int .i64 i∧zgh a.pts i0 (i0 - j0) []=zgh a.pts i (i - j0) acc∧acc.length=i0 - i∧GOut W2.heap.size wr 107 4 v (acc.map zfc)∧Below W2.heap.size W2 wr) (fun iv _ _=>(intOf iv).toNat)
    case atStart=>exact ⟨i0,[],by have:=HUD.out;omega,Nat.le_refl _,rfl,rfl,by simp,GOut.nil _ _ _ _,Below.refl _ _⟩
    case round=>
      obtain ⟨i,acc,hi1,hi2,rfl,hw,hal,O,BW⟩:=hrel
      have HW:=Lib.hid hw
      have HAL:=Lib.hid hal
      have BB:=zaa HB.out BW
      clear hw hal
      by_cases hij:i=j0
      · subst hij
        have HO:=Lib.hid (show zaG a f t=(acc,0) by rw [HC.out,HW.out,Nat.sub_self];rfl)
        obtain ⟨A3,c3,e3,hl3,hI3,_,_⟩:=O.form (by intro y hy;obtain ⟨q,_,rfl⟩:=List.mem_map.1 hy;exact (wpt q).arr_sz)
        rw [List.length_map] at e3 hl3
        subst e3
        clear HC HW O
        go_wp2
        go_ret2
        rw [HO.out]
        exact ⟨A3,c3,rfl,hl3,hI3,BB⟩
      · have hne:((i:Int) != (j0:Int))=true:=by simp;omega
        have hlt:(j0:Int) < (i:Int):=by omega
        obtain ⟨m,hm⟩:∃ m:Nat,i=m+1:=⟨i - 1,by omega⟩
        have hmi:(i:Int) - 1=(m:Int):=by omega
        obtain ⟨b,off,hA,hP⟩:=HPT.out m (by omega) wr BB
        subst hA
        have HS:=Lib.hid (show zgh a.pts i0 (i0 - j0) []=if (zdK a.pts m).dir=1 then ([],9) else zgh a.pts m (m - j0) (acc ++ [((zdK a.pts m).ref,(zdK a.pts m).lo,(zdK a.pts m).hi)]) by
          rw [HW.out,hm,show m+1 - j0=(m - j0)+1 by omega];rfl)
        have X3:=HX.out.step BW
        have c1:wr.cell? ⟨g0,1,none⟩=some (.slice (some ⟨b,off,none⟩) a.pts.length c):=X3.cell 1
        have HP:=Lib.hid (fun (W':World) (B:Below wr.heap.size wr W')=>show zds W' b (off+m * 4) (zdK a.pts m) from by
          obtain ⟨b',off',hA,hP⟩:=HPT.out m (by omega) W' (zaa BB B)
          obtain ⟨rfl,rfl⟩:b=b'∧off=off':=by simpa using hA
          exact hP)
        have e3:wr.cell? ⟨b,off+m * 4+3,none⟩=some (.int .u8 (zdK a.pts m).dir):=hP 3 (by omega)
        generalize hp2:zdK a.pts m=p at *
        obtain ⟨p2,hpp⟩:∃ p2,p2=p:=⟨_,rfl⟩
        have hil:(m:Int) < (a.pts.length:Int):=by omega
        have hic:m < c:=by omega
        have HMI:=Lib.hid hmi
        have HM:=Lib.hid hm
        clear HW hP hm hmi
        by_cases hd:p.dir=1
        · have HO:=Lib.hid (show zaG a f t=([],9) by rw [HC.out,HS.out,if_pos hd])
          rw [hd] at e3
          clear HC HS hd hpp hp2
          go_upto_region 14 with (fail)
          rw [HMI.out]
          go_wp2
          go_ret2
          exact RetWay.err HO.out BB
        · have HS:=Lib.hid (HS.out.trans (if_neg hd))
          have hd':(p.dir == 1)=false:=by simpa using hd
          clear hd hp2
          subst hpp
          go_upto_region 14 with (fail)
          rw [HMI.out]
          go_upto_region 16 with (fail)
          have f1:∀ d os,(grow (redrawn wr d) os).cell? ⟨g0,1,none⟩=some (.slice (some ⟨b,off,none⟩) a.pts.length c):=fun d os=>(X3.step (below_regrown wr d os)).cell 1
          have f2:∀ d os,(grow (redrawn wr d) os).cell? ⟨b,off+m * 4,none⟩=some (.string ⟨p2.ref.toArray⟩):=fun d os=>by
            have:=HP.out _ (below_regrown wr d os) 0 (by omega)
            rw [Nat.add_zero] at this
            exact this
          have f3:∀ d os,zcR (grow (redrawn wr d) os) b (off+m * 4+1):=fun d os=>⟨_,APt.win_at (HP.out _ (below_regrown wr d os))⟩
          have f4:∀ d os,zcL (grow (redrawn wr d) os) b (off+m * 4+1)=⟨p2.lo,p2.hi⟩:=fun d os=>zb8 (APt.win_at (HP.out _ (below_regrown wr d os)))
          have HOO:=Lib.hid O
          clear O c1 e3 X3
          refine zbx _ 14 (by kernel_rfl) (by kernel_rfl) (fun _ _ _ h=>h) (.inl ⟨rfl,fun _=>rfl⟩) ?_
          simp only [Nat.reduceSub,List.take_succ_cons,List.take_zero,List.drop_succ_cons,List.drop_zero,Act.put,List.setIfInBounds_toArray,List.set_cons_zero,List.set_cons_succ]
          repeat (quiet_step (fail))
          refine wpQuiet_nil ?_
          intro _ hw'
          obtain ⟨⟨dq2,osq2⟩,hw''⟩:=hw'
          subst hw''
          have B3:=below_regrown wr dq2 osq2
          have O3:=HOO.out.step B3
          clear f1 f2 f3 f4 HOO
          generalize grow (redrawn wr dq2) osq2=w3 at B3 O3 ⊢
          have O4:=O3.alloc (.cells (zfc (p2.ref,p2.lo,p2.hi)) 107)
          have B4:=zaa (zaa BW B3) (zad w3 (.cells (zfc (p2.ref,p2.lo,p2.hi)) 107))
          have hq:=Blk.new w3 (zfc (p2.ref,p2.lo,p2.hi)) 107
          have hacc:acc.length≤40:=by have:=HAL.out;omega
          go_wp2_with (at_builtin;refine zaK rfl (.tmp 58) (.tmp 72) _ 107 4 40 _ zd9 rfl (by omega) Tryz.underlying79 rfl O4 rfl (zfc (p2.ref,p2.lo,p2.hi)) w3.heap.size 1 ((wpt (p2.ref,p2.lo,p2.hi)).arr_sz) ((wpt (p2.ref,p2.lo,p2.hi)).arr_one) rfl hq.cell (by rw [List.length_map];unfold maxLen;omega) (by rw [List.length_map];omega) B4.size ?_;intro v5 W5 O5 g5)
          go_roundw
          case rel=>exact ⟨m,acc ++ [(p2.ref,p2.lo,p2.hi)],by have:=HM.out;omega,by have:=HM.out;omega,rfl,HS.out,by rw [List.length_append,List.length_singleton];have:=HM.out;have:=HAL.out;omega,by rw [List.map_append];exact O5,O4.below_grown g5 B4 (Nat.le_refl _) B4.size⟩
          case measure=>simp [intOf];have:=HM.out;omega
end Go.Proofs.YtgoeedohgomodaaGreatDoor
namespace Go.Proofs.YtgoeedohgomodaaGreatDoor
open Go.RowKit Go.ChangeShapes Go.WideShapes Go.Deep
theorem zn9:Tryz.prog.cellsOf 82=1:=by kernel_rfl
theorem zia:Tryz.prog.cellsOf 30=2:=by kernel_rfl
theorem zlk:Tryz.prog.cellsOf 84=7:=by kernel_rfl
def FixV.bnd (x:FixV) (N:Nat):Prop:=x.ident.length≤N∧x.region.length≤N
section
variable {H:Type} {enc:TypeId × Value→H} {w:World} {base:Nat} {spare:Nat→Bool} {held:Bool}
theorem zo7 {α:Type _} {l:List α} (h:l.length=7):∃ x0 x1 x2 x3 x4 x5 x6,l=[x0,x1,x2,x3,x4,x5,x6]:=by
  match l,h with
  | [x0,x1,x2,x3,x4,x5,x6],_=>exact ⟨x0,x1,x2,x3,x4,x5,x6,rfl⟩
theorem zo8 {α:Type _} {l:List α} (h:l.length=6):∃ x0 x1 x2 x3 x4 x5,l=[x0,x1,x2,x3,x4,x5]:=by
  match l,h with
  | [x0,x1,x2,x3,x4,x5],_=>exact ⟨x0,x1,x2,x3,x4,x5,rfl⟩
theorem zsU {fuel:Nat} {cs:List Value} {y:DataW H × List MemPlace} (h:DataW.trod enc Tryz.prog w base spare held fuel 84 cs=some y):∃ x:FixV,cs=x.arr.toList∧x.bnd (Rows.uptoBulk y.1):=by
  obtain ⟨xs,n,_,hx,hlen,hxl,hf⟩:=DataW.trod_struct Tryz.underlying84 h
  rw [zlk] at hlen
  obtain ⟨c0,c1,c2,c3,c4,c5,c6,rfl⟩:=zo7 hlen
  obtain ⟨y0,y1,y2,y3,y4,y5,rfl⟩:=zo8 hxl
  have g0:=fld hf 0 9 0 1 rfl zcW
  have g1:=fld hf 1 9 1 1 rfl zcW
  have g2:=fld hf 2 82 2 1 rfl zn9
  have g3:=fld hf 3 30 3 2 rfl zia
  have g4:=fld hf 4 2 5 1 rfl zcb
  have g5:=fld hf 5 2 6 1 rfl zcb
  simp only [List.drop_succ_cons,List.drop_zero,List.take_succ_cons,List.take_zero,List.getElem?_cons_succ,List.getElem?_cons_zero] at g0 g1 g2 g3 g4 g5
  obtain ⟨v0,e0,b0⟩:=zdC g0
  obtain ⟨v1,e1,b1⟩:=zdC g1
  obtain ⟨v2,e2,_⟩:=DataW.trod_int Tryz.underlying82 g2
  obtain ⟨v3,v3',e3⟩:=zg7 Tryz.underlying30 zia ⟨rfl,rfl⟩ ⟨rfl,rfl⟩ g3
  obtain ⟨v4,e4,_⟩:=DataW.trod_int Tryz.underlying2 g4
  obtain ⟨v5,e5,_⟩:=DataW.trod_int Tryz.underlying2 g5
  simp only [List.cons.injEq,and_true] at e2 e4 e5
  have hy:Rows.uptoBulk y.1=Rows.uptoBulkAll [y0.1,y1.1,y2.1,y3.1,y4.1,y5.1]+1:=by rw [hx];simp [Rows.uptoBulk]
  have p0:Rows.uptoBulk y0.1≤Rows.uptoBulkAll [y0.1,y1.1,y2.1,y3.1,y4.1,y5.1]:=zbG (by simp)
  have p1:Rows.uptoBulk y1.1≤Rows.uptoBulkAll [y0.1,y1.1,y2.1,y3.1,y4.1,y5.1]:=zbG (by simp)
  refine ⟨⟨v0,v1,v2,v3,v3',v4,v5⟩,?_,?_⟩
  · have e:[c0,c1,c2,c3,c4,c5,c6]=[c0] ++ [c1] ++ [c2] ++ [c3,c4] ++ [c5] ++ [c6]:=rfl
    rw [e,e0,e1,e2,e3,e4,e5]
    rfl
  · exact ⟨by show v0.length≤_;omega,by show v1.length≤_;omega⟩
end
theorem FixV.bnd.mono {x:FixV} {a b:Nat} (h:x.bnd a) (hab:a≤b):x.bnd b:=⟨Nat.le_trans h.1 hab,Nat.le_trans h.2 hab⟩
theorem zfQ:Tryz.prog.cellsOf 30=2:=by kernel_rfl
theorem zqc:Tryz.prog.cellsOf 37=9:=by kernel_rfl
theorem zxr {α:Type _} {l:List α} (h:l.length=9):∃ x0 x1 x2 x3 x4 x5 x6 x7 x8,l=[x0,x1,x2,x3,x4,x5,x6,x7,x8]:=by
  match l,h with
  | [x0,x1,x2,x3,x4,x5,x6,x7,x8],_=>exact ⟨x0,x1,x2,x3,x4,x5,x6,x7,x8,rfl⟩
section
variable {H:Type} {enc:TypeId × Value→H} {w:World} {base:Nat} {spare:Nat→Bool} {held:Bool}
theorem zxs {α:Type _} {l:List α} (h:l.length=5):∃ x0 x1 x2 x3 x4,l=[x0,x1,x2,x3,x4]:=by
  match l,h with
  | [x0,x1,x2,x3,x4],_=>exact ⟨x0,x1,x2,x3,x4,rfl⟩
theorem zk1 {fuel:Nat} {v:Value} {y:DataW H × List MemPlace} (h:DataW.trod enc Tryz.prog w base spare held fuel 33 [v]=some y):
    ∃ (l:List FixV) (A:Option Addr) (c:Nat),v=.slice A l.length c∧l.length≤c∧c≤maxLen∧Items w A 7 (l.map FixV.arr)∧l.length≤Rows.uptoBulk y.1∧∀ x ∈ l,x.bnd (Rows.uptoBulk y.1):=
  zdY FixV.arr FixV.bnd (fun x a b hab h=>h.mono hab) Tryz.underlying33 zlk (by omega) FixV.arr_sz (fun h=>zsU h) h
def Leg.bnd (l:Leg) (N:Nat):Prop:=l.fix.length≤N∧l.center.length≤N
theorem zsQ {fuel:Nat} {v:Value} {y:DataW H × List MemPlace} (h:DataW.trod enc Tryz.prog w base spare held fuel 119 [v]=some y):
    ∃ (l:List Leg) (A:Option Addr) (c:Nat),v=.slice A l.length c∧l.length≤c∧c≤maxLen∧Items w A 13 (l.map Leg.arr)∧l.length≤Rows.uptoBulk y.1∧∀ x ∈ l,x.bnd (Rows.uptoBulk y.1):=
  zdY Leg.arr Leg.bnd (fun x a b hab h=>⟨Nat.le_trans h.1 hab,Nat.le_trans h.2 hab⟩) Tryz.underlying119 zn8 (by omega) (fun _=>rfl) (fun h=>by obtain ⟨l,e,b1,b2⟩:=zu2 h;exact ⟨l,e,b1,b2⟩) h
end
end Go.Proofs.YtgoeedohgomodaaGreatDoor
namespace Go.Proofs.YtgoeedohgomodaaGreatDoor
open Go.RowKit Go.ChangeShapes Go.WideShapes Go.Deep
theorem zjV:Tryz.prog.cellsOf 62=2:=by kernel_rfl
theorem zoa:Tryz.prog.cellsOf 107=4:=by kernel_rfl
def APt.bnd (x:APt) (N:Nat):Prop:=x.ref.length≤N
section
variable {H:Type} {enc:TypeId × Value→H} {w:World} {base:Nat} {spare:Nat→Bool} {held:Bool}
theorem zq4 {α:Type _} {l:List α} (h:l.length=4):∃ x0 x1 x2 x3,l=[x0,x1,x2,x3]:=by
  match l,h with
  | [x0,x1,x2,x3],_=>exact ⟨x0,x1,x2,x3,rfl⟩
theorem zq5 {α:Type _} {l:List α} (h:l.length=3):∃ x0 x1 x2,l=[x0,x1,x2]:=by
  match l,h with
  | [x0,x1,x2],_=>exact ⟨x0,x1,x2,rfl⟩
theorem zu5 {fuel:Nat} {cs:List Value} {y:DataW H × List MemPlace} (h:DataW.trod enc Tryz.prog w base spare held fuel 107 cs=some y):∃ x:APt,cs=x.arr.toList∧x.bnd (Rows.uptoBulk y.1):=by
  obtain ⟨xs,n,_,hx,hlen,hxl,hf⟩:=DataW.trod_struct Tryz.underlying107 h
  rw [zoa] at hlen
  obtain ⟨c0,c1,c2,c3,rfl⟩:=zq4 hlen
  obtain ⟨y0,y1,y2,rfl⟩:=zq5 hxl
  have g0:=fld hf 0 9 0 1 rfl zcW
  have g1:=fld hf 1 62 1 2 rfl zjV
  have g2:=fld hf 2 5 3 1 rfl zqb
  simp only [List.drop_succ_cons,List.drop_zero,List.take_succ_cons,List.take_zero,List.getElem?_cons_succ,List.getElem?_cons_zero] at g0 g1 g2
  obtain ⟨v0,e0,b0⟩:=zdC g0
  obtain ⟨v1,v1',e1⟩:=zg7 Tryz.underlying62 zjV ⟨rfl,rfl⟩ ⟨rfl,rfl⟩ g1
  obtain ⟨v2,e2,_⟩:=DataW.trod_int Tryz.underlying5 g2
  simp only [List.cons.injEq,and_true] at e2
  have hy:Rows.uptoBulk y.1=Rows.uptoBulkAll [y0.1,y1.1,y2.1]+1:=by rw [hx];simp [Rows.uptoBulk]
  have p0:Rows.uptoBulk y0.1≤Rows.uptoBulkAll [y0.1,y1.1,y2.1]:=zbG (by simp)
  refine ⟨⟨v0,v1,v1',v2⟩,?_,?_⟩
  · have e:[c0,c1,c2,c3]=[c0] ++ [c1,c2] ++ [c3]:=rfl
    rw [e,e0,e1,e2]
    rfl
  · exact by show v0.length≤_;omega
end
theorem APt.bnd.mono {x:APt} {a b:Nat} (h:x.bnd a) (hab:a≤b):x.bnd b:=Nat.le_trans h hab
theorem zrt:Tryz.prog.cellsOf 79=1:=by kernel_rfl
theorem zlm:Tryz.prog.cellsOf 81=2:=by kernel_rfl
theorem zll:Tryz.prog.cellsOf 34=1:=by kernel_rfl
theorem zpn:Tryz.prog.cellsOf 119=1:=by kernel_rfl
theorem zlg:Tryz.prog.cellsOf 183=3:=by kernel_rfl
theorem zrr:Tryz.prog.cellsOf 129=1:=by kernel_rfl
theorem zli:Tryz.prog.cellsOf 131=4:=by kernel_rfl
theorem zlh:Tryz.prog.cellsOf 35=1:=by kernel_rfl
theorem zpm:Tryz.prog.cellsOf 181=1:=by kernel_rfl
theorem zn7:Tryz.prog.cellsOf 124=1:=by kernel_rfl
theorem zib:Tryz.prog.cellsOf 33=1:=by kernel_rfl
theorem zlj:Tryz.prog.cellsOf 32=6:=by kernel_rfl
def AwyV.bnd (a:AwyV) (N:Nat):Prop:=a.name.length≤N∧a.pts.length≤N∧∀ p ∈ a.pts,p.bnd N
def PartV.bnd (x:PartV) (N:Nat):Prop:=x.name.length≤N∧x.legs.length≤N∧∀ l ∈ x.legs,l.bnd N
def ProcV.bnd (p:ProcV) (N:Nat):Prop:=p.airport.length≤N∧p.name.length≤N∧p.parts.length≤N∧∀ x ∈ p.parts,x.bnd N
theorem AwyV.bnd.mono {x:AwyV} {a b:Nat} (h:x.bnd a) (hab:a≤b):x.bnd b:=⟨Nat.le_trans h.1 hab,Nat.le_trans h.2.1 hab,fun p hp=>(h.2.2 p hp).mono hab⟩
theorem Leg.bnd.mono {x:Leg} {a b:Nat} (h:x.bnd a) (hab:a≤b):x.bnd b:=⟨Nat.le_trans h.1 hab,Nat.le_trans h.2 hab⟩
theorem PartV.bnd.mono {x:PartV} {a b:Nat} (h:x.bnd a) (hab:a≤b):x.bnd b:=⟨Nat.le_trans h.1 hab,Nat.le_trans h.2.1 hab,fun p hp=>(h.2.2 p hp).mono hab⟩
theorem ProcV.bnd.mono {x:ProcV} {a b:Nat} (h:x.bnd a) (hab:a≤b):x.bnd b:=⟨Nat.le_trans h.1 hab,Nat.le_trans h.2.1 hab,Nat.le_trans h.2.2.1 hab,fun p hp=>(h.2.2.2 p hp).mono hab⟩
theorem zwc {α:Type _} {l:List α} (h:l.length=2):∃ x0 x1,l=[x0,x1]:=by
  match l,h with
  | [x0,x1],_=>exact ⟨x0,x1,rfl⟩
theorem zwb {α:Type _} {l:List α} (h:l.length=3):∃ x0 x1 x2,l=[x0,x1,x2]:=by
  match l,h with
  | [x0,x1,x2],_=>exact ⟨x0,x1,x2,rfl⟩
theorem zpV {α:Type _} {l:List α} (h:l.length=4):∃ x0 x1 x2 x3,l=[x0,x1,x2,x3]:=by
  match l,h with
  | [x0,x1,x2,x3],_=>exact ⟨x0,x1,x2,x3,rfl⟩
structure Cell (w:World) (α:Type) (n:Nat) (at_:Array Value→α→Prop) where
  cs:Array Value
  v:α
  size:cs.size=n
  ok:at_ cs v
theorem Cell.list {w:World} {α:Type} {n:Nat} {at_:Array Value→α→Prop} (l:List (Cell w α n at_)):
    (l.map Cell.cs).length=(l.map Cell.v).length∧∀ (i:Nat) (cs:Array Value) (x:α),(l.map Cell.cs)[i]? = some cs→(l.map Cell.v)[i]? = some x→at_ cs x:=by
  refine ⟨by simp,fun i cs x h1 h2=>?_⟩
  rw [List.getElem?_map] at h1 h2
  cases hq:l[i]? with
  | none=>rw [hq] at h1;cases h1
  | some q=>
    rw [hq] at h1 h2
    obtain rfl:q.cs=cs:=by simpa using h1
    obtain rfl:q.v=x:=by simpa using h2
    exact q.ok
section
variable {H:Type} {enc:TypeId × Value→H} {w:World} {base:Nat} {spare:Nat→Bool} {held:Bool}
theorem zsV {fuel:Nat} {v:Value} {y:DataW H × List MemPlace} (h:DataW.trod enc Tryz.prog w base spare held fuel 79 [v]=some y):
    ∃ (l:List APt) (A:Option Addr) (c:Nat),v=.slice A l.length c∧l.length≤c∧c≤maxLen∧Items w A 4 (l.map APt.arr)∧l.length≤Rows.uptoBulk y.1∧∀ x ∈ l,x.bnd (Rows.uptoBulk y.1):=
  zdY APt.arr APt.bnd (fun x a b hab h=>h.mono hab) Tryz.underlying79 zoa (by omega) APt.arr_sz (fun h=>zu5 h) h
theorem zu4 {fuel:Nat} {cs:List Value} {y:DataW H × List MemPlace} (h:DataW.trod enc Tryz.prog w base spare held fuel 81 cs=some y):
    ∃ q:Cell w AwyV 2 (AwyAt w),cs=q.cs.toList∧q.v.bnd (Rows.uptoBulk y.1):=by
  obtain ⟨xs,n,_,hx,hlen,hxl,hf⟩:=DataW.trod_struct Tryz.underlying81 h
  rw [zlm] at hlen
  obtain ⟨c0,c1,rfl⟩:=zwc hlen
  obtain ⟨y0,y1,rfl⟩:=zwc hxl
  have g0:=fld hf 0 9 0 1 rfl zcW
  have g1:=fld hf 1 79 1 1 rfl zrt
  simp only [List.drop_succ_cons,List.drop_zero,List.take_succ_cons,List.take_zero,List.getElem?_cons_succ,List.getElem?_cons_zero] at g0 g1
  obtain ⟨v0,e0,b0⟩:=zdC g0
  obtain ⟨l,A,c,rfl,hc,_,hI,hn,hb⟩:=zsV g1
  have hy:Rows.uptoBulk y.1=Rows.uptoBulkAll [y0.1,y1.1]+1:=by rw [hx];simp [Rows.uptoBulk]
  have p0:Rows.uptoBulk y0.1≤Rows.uptoBulkAll [y0.1,y1.1]:=zbG (by simp)
  have p1:Rows.uptoBulk y1.1≤Rows.uptoBulkAll [y0.1,y1.1]:=zbG (by simp)
  refine ⟨⟨zao ⟨v0,l⟩ A c,⟨v0,l⟩,rfl,⟨⟨A,c,rfl,hc,hI⟩⟩⟩,?_,?_⟩
  · show [c0,_]=_
    rw [e0]
    rfl
  · exact ⟨by show v0.length≤_;omega,by show l.length≤_;omega,fun p hp=>(hb p hp).mono (by omega)⟩
theorem znD {fuel:Nat} {v:Value} {y:DataW H × List MemPlace} (h:DataW.trod enc Tryz.prog w base spare held fuel 34 [v]=some y):
    ∃ (l:List AwyV) (A:Option Addr) (c:Nat),v=.slice A l.length c∧l.length≤c∧c≤maxLen∧AwysAt w A l∧l.length≤Rows.uptoBulk y.1∧∀ x ∈ l,x.bnd (Rows.uptoBulk y.1):=by
  obtain ⟨l,A,c,e,hc,hm,hI,hn,hb⟩:=zdY (α:=Cell w AwyV 2 (AwyAt w)) Cell.cs (fun q N=>q.v.bnd N) (fun x a b hab h=>h.mono hab) Tryz.underlying34 zlm (by omega) Cell.size (fun h=>zu4 h) h
  refine ⟨l.map Cell.v,A,c,by simpa using e,by simpa using hc,hm,⟨⟨l.map Cell.cs,(Cell.list l).1,hI,(Cell.list l).2⟩⟩,by simpa using hn,?_⟩
  intro x hx
  obtain ⟨q,hq,rfl⟩:=List.mem_map.1 hx
  exact hb q hq
theorem zu0 {fuel:Nat} {cs:List Value} {y:DataW H × List MemPlace} (h:DataW.trod enc Tryz.prog w base spare held fuel 183 cs=some y):
    ∃ q:Cell w PartV 3 (PrtAt w),cs=q.cs.toList∧q.v.bnd (Rows.uptoBulk y.1):=by
  obtain ⟨xs,n,_,hx,hlen,hxl,hf⟩:=DataW.trod_struct Tryz.underlying183 h
  rw [zlg] at hlen
  obtain ⟨c0,c1,c2,rfl⟩:=zwb hlen
  obtain ⟨y0,y1,y2,rfl⟩:=zwb hxl
  have g0:=fld hf 0 181 0 1 rfl zpm
  have g1:=fld hf 1 9 1 1 rfl zcW
  have g2:=fld hf 2 119 2 1 rfl zpn
  simp only [List.drop_succ_cons,List.drop_zero,List.take_succ_cons,List.take_zero,List.getElem?_cons_succ,List.getElem?_cons_zero] at g0 g1 g2
  obtain ⟨v0,e0,_⟩:=DataW.trod_int Tryz.underlying181 g0
  obtain ⟨v1,e1,b1⟩:=zdC g1
  obtain ⟨l,A,c,rfl,hc,_,hI,hn,hb⟩:=zsQ g2
  have hy:Rows.uptoBulk y.1=Rows.uptoBulkAll [y0.1,y1.1,y2.1]+1:=by rw [hx];simp [Rows.uptoBulk]
  have p1:Rows.uptoBulk y1.1≤Rows.uptoBulkAll [y0.1,y1.1,y2.1]:=zbG (by simp)
  have p2:Rows.uptoBulk y2.1≤Rows.uptoBulkAll [y0.1,y1.1,y2.1]:=zbG (by simp)
  simp only [List.cons.injEq,and_true] at e0
  refine ⟨⟨zan ⟨v0,v1,l⟩ A c,⟨v0,v1,l⟩,rfl,⟨⟨A,c,rfl,hc,hI⟩⟩⟩,?_,?_⟩
  · show [c0,c1,_]=_
    rw [e0,e1]
    rfl
  · exact ⟨by show v1.length≤_;omega,by show l.length≤_;omega,fun p hp=>(hb p hp).mono (by omega)⟩
theorem zsP {fuel:Nat} {v:Value} {y:DataW H × List MemPlace} (h:DataW.trod enc Tryz.prog w base spare held fuel 129 [v]=some y):
    ∃ (l:List PartV) (A:Option Addr) (c:Nat),v=.slice A l.length c∧l.length≤c∧c≤maxLen∧PrtsAt w A l∧l.length≤Rows.uptoBulk y.1∧∀ x ∈ l,x.bnd (Rows.uptoBulk y.1):=by
  obtain ⟨l,A,c,e,hc,hm,hI,hn,hb⟩:=zdY (α:=Cell w PartV 3 (PrtAt w)) Cell.cs (fun q N=>q.v.bnd N) (fun x a b hab h=>h.mono hab) Tryz.underlying129 zlg (by omega) Cell.size (fun h=>zu0 h) h
  refine ⟨l.map Cell.v,A,c,by simpa using e,by simpa using hc,hm,⟨⟨l.map Cell.cs,(Cell.list l).1,hI,(Cell.list l).2⟩⟩,by simpa using hn,?_⟩
  intro x hx
  obtain ⟨q,hq,rfl⟩:=List.mem_map.1 hx
  exact hb q hq
theorem zu1 {fuel:Nat} {cs:List Value} {y:DataW H × List MemPlace} (h:DataW.trod enc Tryz.prog w base spare held fuel 131 cs=some y):
    ∃ q:Cell w ProcV 4 (PrcAt w),cs=q.cs.toList∧q.v.bnd (Rows.uptoBulk y.1):=by
  obtain ⟨xs,n,_,hx,hlen,hxl,hf⟩:=DataW.trod_struct Tryz.underlying131 h
  rw [zli] at hlen
  obtain ⟨c0,c1,c2,c3,rfl⟩:=zpV hlen
  obtain ⟨y0,y1,y2,y3,rfl⟩:=zpV hxl
  have g0:=fld hf 0 9 0 1 rfl zcW
  have g1:=fld hf 1 9 1 1 rfl zcW
  have g2:=fld hf 2 124 2 1 rfl zn7
  have g3:=fld hf 3 129 3 1 rfl zrr
  simp only [List.drop_succ_cons,List.drop_zero,List.take_succ_cons,List.take_zero,List.getElem?_cons_succ,List.getElem?_cons_zero] at g0 g1 g2 g3
  obtain ⟨v0,e0,b0⟩:=zdC g0
  obtain ⟨v1,e1,b1⟩:=zdC g1
  obtain ⟨v2,e2,_⟩:=DataW.trod_int Tryz.underlying124 g2
  obtain ⟨l,A,c,rfl,hc,_,hI,hn,hb⟩:=zsP g3
  have hy:Rows.uptoBulk y.1=Rows.uptoBulkAll [y0.1,y1.1,y2.1,y3.1]+1:=by rw [hx];simp [Rows.uptoBulk]
  have p0:Rows.uptoBulk y0.1≤Rows.uptoBulkAll [y0.1,y1.1,y2.1,y3.1]:=zbG (by simp)
  have p1:Rows.uptoBulk y1.1≤Rows.uptoBulkAll [y0.1,y1.1,y2.1,y3.1]:=zbG (by simp)
  have p3:Rows.uptoBulk y3.1≤Rows.uptoBulkAll [y0.1,y1.1,y2.1,y3.1]:=zbG (by simp)
  simp only [List.cons.injEq,and_true] at e2
  refine ⟨⟨zaf ⟨v0,v1,v2,l⟩ A c,⟨v0,v1,v2,l⟩,rfl,⟨⟨A,c,rfl,hc,hI⟩⟩⟩,?_,?_⟩
  · show [c0,c1,c2,_]=_
    rw [e0,e1,e2]
    rfl
  · exact ⟨by show v0.length≤_;omega,by show v1.length≤_;omega,by show l.length≤_;omega,fun p hp=>(hb p hp).mono (by omega)⟩
theorem znC {fuel:Nat} {v:Value} {y:DataW H × List MemPlace} (h:DataW.trod enc Tryz.prog w base spare held fuel 35 [v]=some y):
    ∃ (l:List ProcV) (A:Option Addr) (c:Nat),v=.slice A l.length c∧l.length≤c∧c≤maxLen∧PrcsAt w A l∧l.length≤Rows.uptoBulk y.1∧∀ x ∈ l,x.bnd (Rows.uptoBulk y.1):=by
  obtain ⟨l,A,c,e,hc,hm,hI,hn,hb⟩:=zdY (α:=Cell w ProcV 4 (PrcAt w)) Cell.cs (fun q N=>q.v.bnd N) (fun x a b hab h=>h.mono hab) Tryz.underlying35 zli (by omega) Cell.size (fun h=>zu1 h) h
  refine ⟨l.map Cell.v,A,c,by simpa using e,by simpa using hc,hm,⟨⟨l.map Cell.cs,(Cell.list l).1,hI,(Cell.list l).2⟩⟩,by simpa using hn,?_⟩
  intro x hx
  obtain ⟨q,hq,rfl⟩:=List.mem_map.1 hx
  exact hb q hq
end
structure GdAt (w:World) (d:DBs) (G:GDB):Prop where
  db:DbAt w d G.fixes
  lat:d.lat=G.olat
  lon:d.lon=G.olon
  air:∃ A c,d.cells[7]? = some (.slice A G.airways.length c)∧G.airways.length≤c∧AwysAt w A G.airways
  prc:∃ A c,d.cells[8]? = some (.slice A G.procs.length c)∧G.procs.length≤c∧PrcsAt w A G.procs
  airN:G.airways.length≤9000000000
  prcN:G.procs.length≤9000000000
  airS:∀ a ∈ G.airways,a.small
  prcS:∀ p ∈ G.procs,p.small
theorem GdAt.below {w w':World} {d:DBs} {G:GDB} (h:GdAt w d G) (hb:Below w.heap.size w w'):GdAt w' d G:=by
  obtain ⟨A,c,h1,h2,h3⟩:=h.air
  obtain ⟨B,e,k1,k2,k3⟩:=h.prc
  exact ⟨h.db.below hb,h.lat,h.lon,⟨A,c,h1,h2,h3.below hb⟩,⟨B,e,k1,k2,k3.below hb⟩,h.airN,h.prcN,h.airS,h.prcS⟩
theorem AwyV.smallOf {a:AwyV} {N:Nat} (h:a.bnd N) (hN:N≤4000000):a.small:=⟨by have:=h.1;omega,by have:=h.2.1;omega,fun p hp=>by have:=h.2.2 p hp;unfold APt.bnd at this;omega⟩
theorem Leg.smallOfG {l:Leg} {N:Nat} (h:l.bnd N) (hN:N≤4000000000):l.small:=⟨by have:=h.1;omega,by have:=h.2;omega⟩
theorem PartV.smallOf {x:PartV} {N:Nat} (h:x.bnd N) (hN:N≤4000000):x.small:=⟨by have:=h.1;omega,by have:=h.2.1;omega,fun l hl=>Leg.smallOfG (show l.bnd N from h.2.2 l hl) (by omega)⟩
theorem ProcV.smallOf {p:ProcV} {N:Nat} (h:p.bnd N) (hN:N≤4000000):p.small:=⟨by have:=h.1;omega,by have:=h.2.1;omega,by have:=h.2.2.1;omega,fun x hx=>PartV.smallOf (show x.bnd N from h.2.2.2 x hx) hN⟩
section
variable {H:Type} {enc:TypeId × Value→H} {w:World} {base:Nat} {spare:Nat→Bool} {held:Bool}
theorem zu3 {fuel:Nat} {cs:List Value} {y:DataW H × List MemPlace} (h:DataW.trod enc Tryz.prog w base spare held fuel 37 cs=some y) (hN:Rows.uptoBulk y.1≤4000000):
    ∃ (d:DBs) (G:GDB),cs=d.cells.toList∧GdAt w d G∧G.short:=by
  obtain ⟨xs,n,_,hx,hlen,hxl,hf⟩:=DataW.trod_struct Tryz.underlying37 h
  rw [zqc] at hlen
  obtain ⟨c0,c1,c2,c3,c4,c5,c6,c7,c8,rfl⟩:=zxr hlen
  obtain ⟨y0,y1,y2,y3,rfl⟩:=zpV hxl
  have g0:=fld hf 0 32 0 6 rfl zlj
  have g1:=fld hf 1 33 6 1 rfl zib
  have g2:=fld hf 2 34 7 1 rfl zll
  have g3:=fld hf 3 35 8 1 rfl zlh
  simp only [List.drop_succ_cons,List.drop_zero,List.take_succ_cons,List.take_zero,List.getElem?_cons_succ,List.getElem?_cons_zero] at g0 g1 g2 g3
  obtain ⟨xs',n',_,hx',hlen',hxl',hf'⟩:=DataW.trod_struct Tryz.underlying32 g0
  obtain ⟨z0,z1,z2,z3,z4,rfl⟩:=zxs hxl'
  have q4:=fld hf' 4 30 4 2 rfl zfQ
  simp only [List.drop_succ_cons,List.drop_zero,List.take_succ_cons,List.take_zero,List.getElem?_cons_succ,List.getElem?_cons_zero] at q4
  obtain ⟨a,b,e4⟩:=zg7 Tryz.underlying30 zfQ ⟨rfl,rfl⟩ ⟨rfl,rfl⟩ q4
  simp only [List.cons.injEq,and_true] at e4
  obtain ⟨l,A,c,rfl,hc,_,hI,hn,hb⟩:=zk1 g1
  obtain ⟨l2,A2,e2,rfl,hc2,_,hI2,hn2,hb2⟩:=znD g2
  obtain ⟨l3,A3,e3,rfl,hc3,_,hI3,hn3,hb3⟩:=znC g3
  have hy:Rows.uptoBulk y.1=Rows.uptoBulkAll [y0.1,y1.1,y2.1,y3.1]+1:=by rw [hx];simp [Rows.uptoBulk]
  have p1:Rows.uptoBulk y1.1≤Rows.uptoBulkAll [y0.1,y1.1,y2.1,y3.1]:=zbG (by simp)
  have p2:Rows.uptoBulk y2.1≤Rows.uptoBulkAll [y0.1,y1.1,y2.1,y3.1]:=zbG (by simp)
  have p3:Rows.uptoBulk y3.1≤Rows.uptoBulkAll [y0.1,y1.1,y2.1,y3.1]:=zbG (by simp)
  refine ⟨⟨#[c0,c1,c2,c3,c4,c5, .slice A l.length c, .slice A2 l2.length e2, .slice A3 l3.length e3],a,b,A,l.length,c⟩,⟨a,b,l,l2,l3⟩,rfl,?_⟩
  have hfs:∀ f ∈ l,f.ident.length≤1000000000∧f.region.length≤1000000000:=fun f hf=>by
    have:=hb f hf
    exact ⟨by have:=this.1;omega,by have:=this.2;omega⟩
  have has:∀ x ∈ l2,x.small:=fun x hx=>AwyV.smallOf (show x.bnd _ from hb2 x hx) (by omega)
  have hps:∀ x ∈ l3,x.small:=fun x hx=>ProcV.smallOf (show x.bnd _ from hb3 x hx) (by omega)
  refine ⟨⟨⟨⟨rfl,?_,?_,rfl⟩,rfl,hc,hI,by show l.length≤_;omega,fun f hf=>?_⟩,rfl,rfl,⟨A2,e2,rfl,hc2,hI2⟩,⟨A3,e3,rfl,hc3,hI3⟩,by show l2.length≤_;omega,by show l3.length≤_;omega,has,hps⟩,⟨hfs,fun a ha=>(has a ha).each,fun p hp x hx=>((hps p hp).each x hx).each⟩⟩
  · show some c4=_;rw [e4.1]
  · show some c5=_;rw [e4.2]
  · have:=hb f hf
    exact ⟨by have:=this.1;omega,by have:=this.2;omega⟩
end
end Go.Proofs.YtgoeedohgomodaaGreatDoor
