/- Lemmas and walks. -/
import Derived.Test.YtgoeedohgomodaaGreatDoorQk24
import Derived.Test.YtgoeedohgomodaaGreatDoorQk11
import Derived.Test.YtgoeedohgomodaaGreatDoorQk16
set_option linter.unusedSimpArgs false
set_option linter.unusedVariables false
namespace Go.Proofs.YtgoeedohgomodaaGreatDoor
open Go.RowKit Go.Sort
set_option maxRecDepth 100000
def FixV.small (f:FixV):Prop:=f.ident.length≤4000000000∧f.region.length≤4000000000
theorem zw3 (a b:List UInt8):(ByteArray.mk a.toArray) ++ (ByteArray.mk b.toArray)=⟨(a ++ b).toArray⟩:=by
  apply ByteArray.ext
  simp [ByteArray.data_append]
attribute [local go_sem] zw3
theorem zhB (f:FixV) (hs:f.small) (w:World):Calls Tryz.prog 38 #[.agg f.arr] w (Ret w (.string ⟨f.ref.toArray⟩)):=by
  have h1:=hs.1;have h2:=hs.2
  have b1:¬ 9223372036854775807 < ((f.ident.length+1:Nat):Int):=by omega
  have b2:¬ 9223372036854775807 < ((f.ident.length+(f.region.length+1):Nat):Int):=by omega
  have HO:=Lib.hid (show f.ref=f.ident ++ (47 :: f.region) from rfl)
  go_enter Tryz.func38,Tryz.ntmps38
  go_wp2
  go_ret
  exact ⟨by rw [HO.out];rfl,by go_grown⟩
theorem zgn (f:FixV) (hs:f.small) (w:World):Calls Tryz.prog 40 #[.agg f.arr] w (Ret w (.string ⟨f.ref.toArray⟩)):=by
  have h1:=hs.1;have h2:=hs.2
  have b1:¬ 9223372036854775807 < ((f.ident.length+1:Nat):Int):=by omega
  have b2:¬ 9223372036854775807 < ((f.ident.length+(f.region.length+1):Nat):Int):=by omega
  have HO:=Lib.hid (show f.ref=f.ident ++ (47 :: f.region) from rfl)
  go_enter Tryz.func40,Tryz.ntmps40
  go_wp2
  go_ret
  exact ⟨by rw [HO.out];rfl,by go_grown⟩
theorem ztw (f:FixV) (r:List UInt8) (q:Nat) (w:World) (hs:f.small) (hq:q < w.heap.size) (hc:w.cell? ⟨q,0,none⟩=some (.string ⟨r.toArray⟩)):
    Calls Tryz.prog 111 #[.agg f.arr, .pointer (some ⟨q,0,none⟩)] w (Ret w (.bool (f.ref == r))):=by
  have k1:=Lib.hid (zhB f hs)
  generalize f.ref=t at k1 ⊢
  go_enter Tryz.func111,Tryz.ntmps111
  go_upto_region 1 with (fail)
  have X0:Blk (w.alloc (.cells f.arr 84)) w.heap.size f.arr:=Blk.new w _ _
  have B0:Below w.heap.size w (w.alloc (.cells f.arr 84)):=(Below.refl _ _).alloc (Nat.le_refl _) _
  have hc0:(w.alloc (.cells f.arr 84)).cell? ⟨q,0,none⟩=some (.string ⟨r.toArray⟩):=by rw [B0.cell (p:=⟨q,0,none⟩) hq];exact hc
  have hlt:w.heap.size < (w.alloc (.cells f.arr 84)).heap.size:=X0.lt
  generalize w.alloc _=W at X0 B0 hc0 hlt ⊢
  obtain ⟨g0,hg0⟩:∃ g,g=w.heap.size:=⟨_,rfl⟩
  rw [← hg0] at X0 hlt ⊢
  clear hg0
  have k2:=cell_regrown hc0
  have j5:∀ d os,za1 (grow (redrawn W d) os) g0 0:=fun d os=>⟨_,X0.is_fixv.below (below_regrown W d os) hlt⟩
  have j6:∀ d os,zbe (grow (redrawn W d) os) g0 0=f:=fun d os=>za0 (X0.is_fixv.below (below_regrown W d os) hlt)
  have q1:∀ d os,Calls Tryz.prog 38 #[.agg f.arr] (grow (redrawn W d) os) fun e w''=>e=.returned (.string ⟨t.toArray⟩)∧∃ q:Regrown,w''=grow (redrawn W q.d) q.os:=fun d os=>Calls.regrown_ret (k1.out _)
  refine wp_region_quiet_below (by kernel_rfl) (by kernel_rfl) ?_
  repeat (go_big_quiet_step (with_reducible first | exact q1 _ _))
  refine wpQuiet_nil ?_
  intro _ hw'
  obtain ⟨⟨dq,osq⟩,hw''⟩:=hw'
  subst hw''
  clear q1 j5 j6 k2
  go_wp2
  go_ret
  exact ⟨rfl,zaa B0 (below_regrown W dq osq)⟩
end Go.Proofs.YtgoeedohgomodaaGreatDoor
namespace Go.Proofs.YtgoeedohgomodaaGreatDoor
open Go.RowKit Go.Sort
set_option maxRecDepth 100000
def zil:List FixV→List UInt8→Nat→Int
  | [],_,_=>-1
  | f :: t,r,k=>if f.ref == r then (k:Int) else zil t r (k+1)
theorem zjK (r:List UInt8):∀ (l:List FixV) (i:Nat),(zc7 l r=none∧zil l r i=-1)∨(∃ k f,l[k]? = some f∧zc7 l r=some f∧zil l r i=((i+k:Nat):Int))
  | [],i=>.inl ⟨rfl,rfl⟩
  | f :: l,i=>by
      by_cases h:(f.ref == r)=true
      · exact .inr ⟨0,f,rfl,by simp only [zc7,h,if_true],by simp only [zil,h,if_true,Nat.add_zero]⟩
      · have h':(f.ref == r)=false:=by simpa using h
        have e1:zc7 (f :: l) r=zc7 l r:=by simp only [zc7,h',Bool.false_eq_true,if_false]
        have e2:zil (f :: l) r i=zil l r (i+1):=by simp only [zil,h',Bool.false_eq_true,if_false]
        rw [e1,e2]
        rcases zjK r l (i+1) with ⟨a,b⟩ | ⟨k,g,a,b,c⟩
        · exact .inl ⟨a,b⟩
        · refine .inr ⟨k+1,g,a,b,?_⟩
          rw [c]
          congr 1
          omega
theorem zgx {w W:World} {b off:Nat} {l:List FixV} (h:Items w (some ⟨b,off,none⟩) 7 (l.map FixV.arr)) (hB:Below w.heap.size w W) {k:Nat} (hk:k < l.length):Is_fixv W b (off+k * 7) l[k]:=fun j hj=>by
  rw [h.cells hB (k:=k) (by simpa using hk) j hj,List.getElem_map]
set_option maxHeartbeats 2000000 in
theorem zvk (l:List FixV) (r:List UInt8) (A:Option Addr) (c q:Nat) (w:World) (hI:Items w A 7 (l.map FixV.arr)) (hn:l.length≤9000000000) (hs:∀ f ∈ l,f.small) (hq:q < w.heap.size) (hc:w.cell? ⟨q,0,none⟩=some (.string ⟨r.toArray⟩)):
    Calls Tryz.prog 110 #[.slice A l.length c, .func (.func 111) #[] #[.pointer (some ⟨q,0,none⟩)]] w (Ret w (.int .i64 (zil l r 0))):=by
  have HC:=Lib.hid hc
  clear hc
  go_enter Tryz.func110,Tryz.ntmps110
  go_wp2
  go_loopw [5,8] (fun _ i wr=>∃ k:Nat,k≤l.length∧i=.int .i64 k∧zil l r 0=zil (l.drop k) r k∧Below w.heap.size w wr) (fun _ i _=>l.length - (intOf i).toNat)
  case atStart=>exact ⟨0,by omega,rfl,rfl,Below.refl _ _⟩
  case round=>
    obtain ⟨k,hk,rfl,hf,hB⟩:=hrel
    have HF:=Lib.hid hf
    clear hf
    by_cases hlt:k < l.length
    · obtain ⟨b,off,hA,hb,_⟩:=hI.get (k:=k) (by simpa using hlt)
      subst hA
      have hd:=Lib.hid (List.drop_eq_getElem_cons hlt)
      have hx:=zgx hI hB hlt
      have hsm:=hs _ (List.getElem_mem hlt)
      generalize l[k]=f at hd hx hsm
      have i1:za1 wr b (off+k * 7):=⟨_,hx⟩
      have i2:zbe wr b (off+k * 7)=f:=za0 hx
      have hcall:=Lib.hid (ztw f r q wr hsm (Nat.lt_of_lt_of_le hq hB.size) (by rw [hB.cell (p:=⟨q,0,none⟩) hq];exact HC.out))
      clear hx hsm
      have HD:=Lib.hid (show zil l r 0=if f.ref == r then (k:Int) else zil (l.drop (k+1)) r (k+1) by rw [HF.out,hd.out];rfl)
      clear HF hd
      generalize (f.ref == r)=t at hcall HD
      cases t with
      | true=>
        go_wp2_with (go_at_call 111;(with_reducible refine zaj hcall.out ?_);intro w1 b1 _ _ _)
        go_ret
        exact Ret.int (HD.out.trans (if_pos trivial)).symm (hB.trans (b1.mono hB.size))
      | false=>
        go_wp2_with (go_at_call 111;(with_reducible refine zaj hcall.out ?_);intro w1 b1 _ _ _)
        go_roundw
        case rel=>exact ⟨k+1,by omega,by go_num,HD.out,hB.trans (b1.mono hB.size)⟩
        case measure=>simp [intOf];omega
    · go_wp2
      go_ret
      exact Ret.int (by rw [HF.out,List.drop_of_length_le (by omega)];rfl) hB
attribute [local go_sem ↓] zdI
attribute [local go_sem] zd3
theorem zg9:noFix.arr=#[.string ⟨#[]⟩, .string ⟨#[]⟩, .int .u8 0, .int .i64 0, .int .i64 0, .int .i64 0, .int .i64 0]:=rfl
set_option maxHeartbeats 2000000 in
theorem zph (l:List FixV) (r:List UInt8) (A:Option Addr) (c:Nat) (w:World) (hI:Items w A 7 (l.map FixV.arr)) (hlc:l.length≤c) (hn:l.length≤9000000000) (hs:∀ f ∈ l,f.small):
    Calls Tryz.prog 67 #[.slice A l.length c, .string ⟨r.toArray⟩] w (Ret w (.tuple #[.agg ((zc7 l r).getD noFix).arr, .bool (zc7 l r).isSome])):=by
  go_enter Tryz.func67,Tryz.ntmps67
  go_upto_region 1 with (fail)
  rw [← zg9]
  have X0:Blk (w.alloc (.cells #[.string ⟨r.toArray⟩] 9)) w.heap.size #[.string ⟨r.toArray⟩]:=Blk.new w _ _
  have B0:Below w.heap.size w (w.alloc (.cells #[.string ⟨r.toArray⟩] 9)):=(Below.refl _ _).alloc (Nat.le_refl _) _
  have hsz:(w.alloc (.cells #[.string ⟨r.toArray⟩] 9)).heap.size=w.heap.size+1:=World.size_alloc _ _
  generalize w.alloc _=W0 at X0 B0 hsz ⊢
  rw [← hsz]
  have Y1:Blk (W0.alloc (.cells noFix.arr 84)) W0.heap.size noFix.arr:=Blk.new W0 _ _
  have B1:=zaa B0 ((Below.refl _ _).alloc (Nat.le_refl _) (.cells noFix.arr 84))
  have X1:=X0.alloc (.cells noFix.arr 84)
  have I1:=hI.below B1
  have hgle:w.heap.size≤W0.heap.size:=B0.size
  generalize W0.alloc _=W at Y1 B1 X1 I1 ⊢
  generalize W0.heap.size=g1 at Y1 hgle ⊢
  generalize w.heap.size=g0 at X1 ⊢
  have hcall:=Lib.hid (zvk l r A c g0 W I1 hn hs X1.lt (X1.cell 0))
  clear X0 B0 hsz I1
  rcases zjK r l 0 with ⟨h1,h2⟩ | ⟨k,f,h1,h2,h3⟩
  · rw [h2] at hcall
    have HO:=Lib.hid h1
    clear h1 h2
    go_upto_region 3 with (go_at_call 110;(with_reducible refine zaj hcall.out ?_);intro w2 b2 _ _ _)
    have Y2:=Y1.step b2
    have B2:=zaa B1 b2
    have d2:=Y2.plain
    have d3:=Y2.of
    go_wp2
    exact bodyPost_ret (zal Tryz.results67 _ _ g1 noFix.arr 7 _ rfl rfl (Y2.set _).cell Tryz.underlying84 rfl zcV) rfl ⟨by rw [HO.out];rfl,zab B2 hgle _⟩
  · rw [h3,Nat.zero_add] at hcall
    have HO:=Lib.hid h2
    have hk:k < l.length:=by
      rcases Nat.lt_or_ge k l.length with h | h
      · exact h
      · rw [List.getElem?_eq_none h] at h1;cases h1
    have hf:l[k]=f:=by rw [List.getElem?_eq_getElem hk] at h1;exact Option.some.inj h1
    obtain ⟨b,off,hA,hb,_⟩:=hI.get (k:=k) (by simpa using hk)
    subst hA
    have HX:=Lib.hid (fun W' (h:Below w.heap.size w W')=>zgx hI h hk)
    rw [hf] at HX
    clear h1 h2 h3 hf
    have hkc:k < c:=by omega
    go_upto_region 4 with (go_at_call 110;(with_reducible refine zaj hcall.out ?_);intro w2 b2 _ _ _)
    have Y2:=Y1.step b2
    have B2:=zaa B1 b2
    have d2:=Y2.plain
    have d3:=Y2.of
    have i1:za1 w2 b (off+k * 7):=⟨_,HX.out _ B2⟩
    have i2:zbe w2 b (off+k * 7)=f:=za0 (HX.out _ B2)
    go_wp2
    exact bodyPost_ret (zal Tryz.results67 _ _ g1 f.arr 7 _ rfl rfl (Y2.set _).cell Tryz.underlying84 rfl zcV) rfl ⟨by rw [HO.out];rfl,zab B2 hgle _⟩
end Go.Proofs.YtgoeedohgomodaaGreatDoor
