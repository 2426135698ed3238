/- Lemmas and walks. -/
import Derived.Test.YtgoeedohgomodaaGreatDoorQk34
import Derived.Test.YtgoeedohgomodaaGreatDoorQk35
set_option linter.unusedSimpArgs false
set_option linter.unusedVariables false
namespace Go.Proofs.YtgoeedohgomodaaGreatDoor
open Go.RowKit Go.Sort
set_option maxRecDepth 100000
attribute [local go_sem ↓] zde
attribute [local go_sem] zd4 zcG zdJ zcH zb0
def zws (W:World) (r:AwyV × Int) (e:Ending) (W':World):Prop:=∃ cs,e=.returned (.tuple #[.agg cs, .bool (r.2 == 0)])∧AwyAt W' cs r.1∧Below W.heap.size W W'
theorem zmK {P:Program} {f:FuncId} {args:Array Value} {W:World} {r:AwyV × Int} {K:Ending→World→Prop} (h:Calls P f args W (zws W r))
    (k:∀ cs W',AwyAt W' cs r.1→Below W.heap.size W W'→K (.returned (.tuple #[.agg cs, .bool (r.2 == 0)])) W'):Calls P f args W K:=
  h.mono fun e w' ⟨cs,he,h1,h2⟩=>by subst he;exact k cs w' h1 h2
set_option maxHeartbeats 2000000 in
theorem zjZ (d:DBs) (G:GDB) (es:List Entry) (L:Option Addr) (c g:Nat) (iv:Value) (w W:World) (n:List UInt8) (h:Bu w W g d.cells iv L c es) (hG:GdAt W d G):
    Calls Tryz.prog 75 #[.pointer (some ⟨g,0,none⟩), .string ⟨n.toArray⟩] W (zws W (zcc G.airways n)):=by
  obtain ⟨A7,c7,h7,hl7,hA7⟩:=hG.air
  have kw:=Lib.hid (fun (W':World) (D:Below W.heap.size W W')=>zq1 d.cells G.airways A7 c7 h7 hl7 hG.airN n W' (hA7.below D) hG.airS)
  generalize zcc G.airways n=r at *
  have hdb:=h.db
  have hgl:=h.lt
  generalize d.cells=cs at *
  clear h7 hA7 hl7 hG h
  obtain ⟨r1,r2⟩:=r
  go_enter Tryz.func75,Tryz.ntmps75
  go_upto_region 1 with (fail)
  have X0:Blk (W.alloc (.cells #[.string ⟨#[]⟩, .slice none 0 0] 81)) W.heap.size #[.string ⟨#[]⟩, .slice none 0 0]:=Blk.new W _ _
  have D0:=zac W (.cells #[.string ⟨#[]⟩, .slice none 0 0] 81)
  have HB3:=Lib.hid D0
  have hdb0:=hdb.below D0 hgl
  generalize W.alloc _=W0 at X0 D0 HB3 hdb0 ⊢
  obtain ⟨q0,hq0⟩:∃ q,q=W.heap.size:=⟨_,rfl⟩
  rw [← hq0] at X0 ⊢
  have HQ0:=Lib.hid hq0
  clear hq0 hdb
  have i1:za7 W0 g 0:=⟨_,hdb0⟩
  have i2:zbQ W0 g 0=cs:=zaL hdb0
  go_upto_region 2 with (go_at_call 116;(with_reducible refine zwX (kw.out _ D0) ?_);intro cs2 w4 h4 b4;obtain ⟨A5,c5,hcs,_,_⟩:=h4.at_.ex;subst hcs)
  have Z:=Blk.new w4 (zao r1 A5 c5) 81
  have X4:=(X0.step b4).alloc (.cells (zao r1 A5 c5) 81)
  have H5:AwyFar (w4.alloc (.cells (zao r1 A5 c5) 81)) W0.heap.size (zao r1 A5 c5) r1:=h4.keep (fun b _ hb=>heap_alloc_old _ _ hb) (by simp)
  have hq0:q0 < W0.heap.size:=X0.lt
  have B5:Below W.heap.size W (w4.alloc (.cells (zao r1 A5 c5) 81)):=zaa (zaa HB3.out b4) (zac _ _)
  have HB5:=Lib.hid B5
  have HF:=Lib.hid H5
  generalize w4.alloc _=W5 at Z X4 HB5 HF ⊢
  generalize w4.heap.size=q1 at Z ⊢
  clear i1 i2 H5 B5 h4 b4 hdb0 D0 X0 HB3
  have j1:zce W5 q1 0:=⟨_,Z.is_awy rfl⟩
  have j2:zcz W5 q1 0=zao r1 A5 c5:=zby (Z.is_awy rfl)
  have p1:=X4.plain
  have p2:=X4.of
  go_wp2
  have X6:=X4.set (zao r1 A5 c5)
  refine bodyPost_ret (zal Tryz.results75 _ _ q0 (zao r1 A5 c5) 2 _ rfl rfl X6.cell Tryz.underlying81 rfl zel) rfl ⟨zao r1 A5 c5,rfl,?_,?_⟩
  · exact (HF.out.keep (fun b hb _=>setRow_other _ _ _ _ (by omega)) (by simp [World.setRow])).at_
  · exact zab HB5.out (by have:=HQ0.out;omega) _
end Go.Proofs.YtgoeedohgomodaaGreatDoor
namespace Go.Proofs.YtgoeedohgomodaaGreatDoor
open Go.RowKit Go.Sort
set_option maxRecDepth 100000
def ztp (n:List UInt8):List APt→Nat→Int
  | [],_=>-1
  | p :: r,k=>if (cutAt 47 p.ref).1 == n then (k:Int) else ztp n r (k+1)
theorem zld (n:List UInt8):∀ (l:List APt) (k:Nat),match zbJ n l with
    | none=>ztp n l k=-1
    | some r=>∃ j,ztp n l k=((k+j:Nat):Int)∧j < l.length∧(l.getD j noPt).ref=r
  | [],k=>by simp [zbJ,ztp]
  | p :: t,k=>by
    unfold zbJ ztp
    by_cases h:((cutAt 47 p.ref).1 == n)=true
    · rw [if_pos h,if_pos h]
      exact ⟨0,rfl,by simp,rfl⟩
    · rw [if_neg h,if_neg h]
      have ih:=zld n t (k+1)
      cases hp:zbJ n t with
      | none=>rw [hp] at ih;exact ih
      | some r=>
        rw [hp] at ih
        obtain ⟨j,h1,h2,h3⟩:=ih
        exact ⟨j+1,by rw [h1];congr 1;omega,by simp;omega,h3⟩
theorem zpw (p:APt) (r:List UInt8) (q:Nat) (w:World) (hL:Laid w) (hp:p.ref.length≤4000000000) (hq:q < w.heap.size) (hc:w.cell? ⟨q,1,none⟩=some (.string ⟨r.toArray⟩)):
    Calls Tryz.prog 118 #[.agg p.arr, .pointer (some ⟨q,0,none⟩)] w (Ret w (.bool ((cutAt 47 p.ref).1 == r))):=by
  have KC:=Lib.hid (fun W (B:Below w.heap.size w W)=>ztE p.ref 47 W (hL.below B) hp)
  have HC:=Lib.hid (fun W (B:Below w.heap.size w W)=>show W.cell? ⟨q,1,none⟩=some (.string ⟨r.toArray⟩) by rw [B.cell (p:=⟨q,1,none⟩) hq];exact hc)
  generalize cutAt 47 p.ref=z at *
  obtain ⟨z1,z2,z3⟩:=z
  clear hc hL
  go_enter Tryz.func118,Tryz.ntmps118
  go_upto_region 1 with (fail)
  have X0:Blk (w.alloc (.cells p.arr 107)) w.heap.size p.arr:=Blk.new w _ _
  have B0:=zad w (.cells p.arr 107)
  generalize w.alloc _=W at X0 B0 ⊢
  obtain ⟨g0,hg0⟩:∃ g,g=w.heap.size:=⟨_,rfl⟩
  rw [← hg0] at X0 ⊢
  clear hg0
  have c0:W.cell? ⟨g0,0,none⟩=some (.string ⟨p.ref.toArray⟩):=X0.cell 0
  go_wp2_with (go_at_call 60;(with_reducible refine zaj (KC.out _ B0) ?_);intro w1 b1 _ _ _;have c1:=HC.out w1 (zaa B0 b1))
  go_ret
  exact ⟨rfl,zaa B0 b1⟩
set_option maxHeartbeats 2000000 in
theorem zt4 (l:List APt) (r:List UInt8) (A:Option Addr) (c q:Nat) (w:World) (hI:Items w A 4 (l.map APt.arr)) (hn:l.length≤9000000000) (hL:Laid w) (hs:∀ p ∈ l,p.ref.length≤4000000000) (hq:q < w.heap.size) (hc:w.cell? ⟨q,1,none⟩=some (.string ⟨r.toArray⟩)):
    Calls Tryz.prog 117 #[.slice A l.length c, .func (.func 118) #[] #[.pointer (some ⟨q,0,none⟩)]] w (Ret w (.int .i64 (ztp r l 0))):=by
  have HC:=Lib.hid hc
  have HLW:=Lib.hid (fun (W:World) (B:Below w.heap.size w W)=>hL.below B)
  have HSM:=Lib.hid hs
  clear hc hL hs
  go_enter Tryz.func117,Tryz.ntmps117
  go_wp2
  go_loopw [5,8] (fun _ i wr=>∃ k:Nat,k≤l.length∧i=.int .i64 k∧ztp r l 0=ztp r (l.drop k) k∧Below w.heap.size w wr) (fun _ i _=>l.length - (intOf i).toNat)
  case atStart=>exact ⟨0,by omega,rfl,rfl,Below.refl _ _⟩
  case round=>
    obtain ⟨k,hk,rfl,hf,hB⟩:=hrel
    have HF:=Lib.hid hf
    clear hf
    by_cases hlt:k < l.length
    · obtain ⟨b,off,hA,hb,_⟩:=hI.get (k:=k) (by simpa using hlt)
      subst hA
      have hd:=Lib.hid (List.drop_eq_getElem_cons hlt)
      have hx:=ze6 hI hB hlt
      have hfs:=HSM.out _ (List.getElem_mem hlt)
      generalize l[k]=f at hd hx hfs
      have i1:zed wr b (off+k * 4):=⟨_,hx⟩
      have i2:zd6 wr b (off+k * 4)=f:=zdF hx
      have hcall:=Lib.hid (zpw f r q wr (HLW.out wr hB) hfs (Nat.lt_of_lt_of_le hq hB.size) (by rw [hB.cell (p:=⟨q,1,none⟩) hq];exact HC.out))
      clear hx
      have HD:=Lib.hid (show ztp r l 0=if (cutAt 47 f.ref).1 == r then (k:Int) else ztp r (l.drop (k+1)) (k+1) by rw [HF.out,hd.out];rfl)
      clear HF hd
      generalize ((cutAt 47 f.ref).1 == r)=t at hcall HD
      cases t with
      | true=>
        go_wp2_with (go_at_call 118;(with_reducible refine zaj hcall.out ?_);intro w1 b1 _ _ _)
        go_ret
        exact Ret.int (HD.out.trans (if_pos trivial)).symm (hB.trans (b1.mono hB.size))
      | false=>
        go_wp2_with (go_at_call 118;(with_reducible refine zaj hcall.out ?_);intro w1 b1 _ _ _)
        go_roundw
        case rel=>exact ⟨k+1,by omega,by go_num,HD.out,hB.trans (b1.mono hB.size)⟩
        case measure=>simp [intOf];omega
    · go_wp2
      go_ret
      exact Ret.int (by rw [HF.out,List.drop_of_length_le (by omega)];rfl) hB
end Go.Proofs.YtgoeedohgomodaaGreatDoor
