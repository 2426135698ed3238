/- Lemmas and walks. -/
import Derived.Test.YtgoeedohgomodaaGreatDoorQk25
import Derived.Test.YtgoeedohgomodaaGreatDoorQk27
import Derived.Test.YtgoeedohgomodaaGreatDoorQk02
import Derived.Test.YtgoeedohgomodaaGreatDoorQk05
import Derived.Test.YtgoeedohgomodaaGreatDoorQk09
import Derived.Test.YtgoeedohgomodaaGreatDoorQk20
import Derived.Test.YtgoeedohgomodaaGreatDoorQk11
import Derived.Test.YtgoeedohgomodaaGreatDoorQk07
import Derived.Test.YtgoeedohgomodaaGreatDoorQk01
import Derived.Test.YtgoeedohgomodaaGreatDoorQk03
import Derived.Laws.OwnMore
import Derived.Lib.AppendStr
import Derived.Lib.AtoiAll
import Derived.Test.YtgoeedohgomodaaGreatDoorQk08
import Derived.Laws.StructEq
set_option linter.unusedSimpArgs false
set_option linter.unusedVariables false
namespace Go.Proofs.YtgoeedohgomodaaGreatDoor
open Go.RowKit Go.Sort
set_option maxRecDepth 100000
attribute [local go_sem ↓] zdI ziC
attribute [local go_sem] zd3 zir ziq
structure DbAt (w:World) (d:DBs) (l:List FixV):Prop where
  ok:d.Ok
  fn:d.fn=l.length
  cap:l.length≤d.fc
  items:Items w d.fa 7 (l.map FixV.arr)
  len:l.length≤9000000000
  small:∀ f ∈ l,f.small
theorem DbAt.below {w w':World} {d:DBs} {l:List FixV} (h:DbAt w d l) (hb:Below w.heap.size w w'):DbAt w' d l:=⟨h.ok,h.fn,h.cap,h.items.below hb,h.len,h.small⟩
theorem zhh (l:List FixV) (r:List UInt8):zkD l r=((zc7 l r).getD noFix,if (zc7 l r).isSome then 0 else 6):=by
  unfold zkD
  cases zc7 l r <;> rfl
theorem zk7 (d:DBs) (l:List FixV) (r:List UInt8) (w:World) (hD:DbAt w d l):
    Calls Tryz.prog 37 #[.agg d.cells, .string ⟨r.toArray⟩] w (Ret w (.tuple #[.agg (zkD l r).1.arr, .int .i64 (zkD l r).2])):=by
  have HF:=Lib.hid (zhh l r)
  have hcall:=Lib.hid (fun w' (h:Below w.heap.size w w')=>zph l r d.fa d.fc w' (hD.below h).items hD.cap hD.len hD.small)
  rw [← hD.fn] at hcall
  have c6:=hD.ok.c6
  generalize zkD l r=out at HF ⊢
  generalize zc7 l r=o at hcall HF
  generalize d.fa=A at *
  generalize d.fn=n at *
  generalize d.fc=c at *
  generalize d.cells=cs at c6 ⊢
  clear hD
  go_enter Tryz.func37,Tryz.ntmps37
  go_upto_region 1 with (fail)
  rw [← zg9]
  have X0:Blk (w.alloc (.cells cs 37)) w.heap.size cs:=Blk.new w _ _
  have B0:=zad w (.cells cs 37)
  have hsz:(w.alloc (.cells cs 37)).heap.size=w.heap.size+1:=World.size_alloc _ _
  generalize w.alloc _=W0 at X0 B0 hsz ⊢
  rw [← hsz]
  have Y1:Blk (W0.alloc (.cells noFix.arr 84)) W0.heap.size noFix.arr:=Blk.new W0 _ _
  have B1:=zaa B0 (zad W0 (.cells noFix.arr 84))
  have X1:=X0.alloc (.cells noFix.arr 84)
  have hgle:w.heap.size≤W0.heap.size:=B0.size
  generalize W0.alloc _=W at Y1 B1 X1 ⊢
  generalize W0.heap.size=g1 at Y1 hgle ⊢
  generalize w.heap.size=g0 at X1 ⊢
  have k6:W.cell? ⟨g0,6,none⟩=some (.slice A n c):=(X1.cell 6).trans c6
  have hcall:=Lib.hid (hcall.out W B1)
  clear X0 B0 hsz c6
  go_upto_region 2 with (go_at_call 67;(with_reducible refine zaj hcall.out ?_);intro w2 b2 _ _ _)
  have Y2:=(Y1.step b2).alloc (.cells (o.getD noFix).arr 84)
  have Z2:=Blk.new w2 (o.getD noFix).arr 84
  have B2:=zaa (zaa B1 b2) (zad w2 (.cells (o.getD noFix).arr 84))
  generalize w2.alloc _=W2 at Y2 Z2 B2 ⊢
  generalize w2.heap.size=g2 at Z2 ⊢
  have d2:=Y2.plain
  have d3:=Y2.of
  clear hcall k6 X1 Y1 B1 b2
  cases o with
  | none=>
    have HO:=Lib.hid (show out=(noFix,6) from HF.out)
    clear HF
    go_wp2
    exact bodyPost_ret (zal Tryz.results37 _ _ g1 noFix.arr 7 _ rfl rfl (Y2.set _).cell Tryz.underlying84 rfl zcV) rfl ⟨by rw [HO.out];rfl,zab B2 hgle _⟩
  | some f=>
    have HO:=Lib.hid (show out=(f,0) from HF.out)
    have Z3:Blk W2 g2 f.arr:=Z2
    have i1:za1 W2 g2 0:=⟨_,Z3.is_fixv⟩
    have i2:zbe W2 g2 0=f:=za0 Z3.is_fixv
    clear HF
    go_wp2
    exact bodyPost_ret (zal Tryz.results37 _ _ g1 f.arr 7 _ rfl rfl (Y2.set _).cell Tryz.underlying84 rfl zcV) rfl ⟨by rw [HO.out];rfl,zab B2 hgle _⟩
theorem zji (a b:Int) (l:List FixV) (r:List UInt8):zcK a b l r=if (zkD l r).2=0 then zdL a b (zkD l r).1.lat (zkD l r).1.lon else ((0,0),(zkD l r).2):=by
  unfold zcK zkD
  cases zc7 l r with
  | none=>rfl
  | some f=>rfl
theorem Blk.pos4 {W:World} {g:Nat} {d:DBs} (h:Blk W g d.cells) (ok:d.Ok):Is_pos W g 4 ⟨d.lat,d.lon⟩:=fun j hj=>by
  match j,hj with
  | 0,_=>exact (h.cell 4).trans ok.c4
  | 1,_=>exact (h.cell 5).trans ok.c5
set_option maxHeartbeats 2000000 in
theorem zh3 (d:DBs) (l:List FixV) (r:List UInt8) (w:World) (hD:DbAt w d l):
    Calls Tryz.prog 121 #[.agg d.cells, .string ⟨r.toArray⟩] w (Ret w (.tuple #[.agg (ptP (zcK d.lat d.lon l r).1).arr, .int .i64 (zcK d.lat d.lon l r).2])):=by
  have HF:=Lib.hid (zji d.lat d.lon l r)
  have hcall:=Lib.hid (fun w' (h:Below w.heap.size w w')=>zk7 d l r w' (hD.below h))
  have HP:=Lib.hid (zoV d.lat d.lon (zkD l r).1.lat (zkD l r).1.lon)
  have HP4:=Lib.hid (fun W g (h:Blk W g d.cells)=>h.pos4 hD.ok)
  have hsz9:=hD.ok.size
  generalize zkD l r=fe at *
  generalize zcK d.lat d.lon l r=out at HF ⊢
  generalize hto:zdL d.lat d.lon fe.1.lat fe.1.lon=pt at *
  obtain ⟨f,e⟩:=fe
  generalize d.cells=cs at *
  generalize d.lat=la at *
  generalize d.lon=lo at *
  clear hD hto
  go_enter Tryz.func121,Tryz.ntmps121
  go_upto_region 1 with (fail)
  have X0:Blk (w.alloc (.cells cs 37)) w.heap.size cs:=Blk.new w _ _
  have B0:=zad w (.cells cs 37)
  have hsz:(w.alloc (.cells cs 37)).heap.size=w.heap.size+1:=World.size_alloc _ _
  generalize w.alloc _=W0 at X0 B0 hsz ⊢
  rw [← hsz]
  have Y1:Blk (W0.alloc (.cells (Pt.arr ⟨0,0⟩) 66)) W0.heap.size (Pt.arr ⟨0,0⟩):=Blk.new W0 _ _
  have B1:=zaa B0 (zad W0 (.cells (Pt.arr ⟨0,0⟩) 66))
  have X1:=X0.alloc (.cells (Pt.arr ⟨0,0⟩) 66)
  have hgle:w.heap.size≤W0.heap.size:=B0.size
  generalize hW:W0.alloc _=W
  have hE:W0.alloc (.cells (Pt.arr ⟨0,0⟩) 66)=W:=hW
  rw [hE] at Y1 B1 X1
  clear hW hE
  generalize W0.heap.size=g1 at Y1 hgle ⊢
  generalize w.heap.size=g0 at X1 ⊢
  have i1:za7 W g0 0:=⟨_,X1.is_db hsz9⟩
  have i2:zbQ W g0 0=cs:=zaL (X1.is_db hsz9)
  have hcall:=Lib.hid (hcall.out W B1)
  clear X0 B0 hsz
  go_upto_region 2 with (go_at_call 37;(with_reducible refine zaj hcall.out ?_);intro w2 b2 _ _ _)
  have Y2:=(Y1.step b2).alloc (.cells f.arr 84)
  have X2:=(X1.step b2).alloc (.cells f.arr 84)
  have Z2:=Blk.new w2 f.arr 84
  have B2:=zaa (zaa B1 b2) (zad w2 (.cells f.arr 84))
  generalize hW:w2.alloc _=W2
  have hE:w2.alloc (.cells f.arr 84)=W2:=hW
  rw [hE] at Y2 X2 Z2 B2
  clear hW hE
  generalize w2.heap.size=g2 at Z2 ⊢
  have d2:=Y2.plain
  have d3:=Y2.of
  clear hcall i1 i2 X1 Y1 B1 b2
  by_cases he:e=0
  · have HO:=Lib.hid (show out=pt by rw [HF.out];exact if_pos he)
    have j1:za3 W2 g0 4:=⟨_,HP4.out _ _ X2⟩
    have j2:zbm W2 g0 4=⟨la,lo⟩:=zaH (HP4.out _ _ X2)
    have j3:za3 W2 g2 3:=⟨_,f.pos Z2.is_fixv⟩
    have j4:zbm W2 g2 3=⟨f.lat,f.lon⟩:=zaH (f.pos Z2.is_fixv)
    clear HF
    have HY:=Lib.hid (fun W' (h:Below W2.heap.size W2 W')=>Y2.step h)
    have HB:=Lib.hid (fun W' (h:Below W2.heap.size W2 W')=>zaa B2 h)
    clear d2 d3 Y2 B2
    go_wp2_with (go_at_call 162;(with_reducible refine zaj (HP.out _) ?_);intro w3 b3 _ _ _;have d2:=(HY.out _ b3).plain;have d3:=(HY.out _ b3).of)
    exact bodyPost_ret (zal Tryz.results121 _ _ g1 (ptP pt.1).arr 2 _ rfl rfl ((HY.out _ b3).set _).cell Tryz.underlying66 rfl zcx) rfl ⟨by rw [HO.out];rfl,zab (HB.out _ b3) hgle _⟩
  · have HO:=Lib.hid (show out=((0,0),e) by rw [HF.out];exact if_neg he)
    clear HF
    go_wp2
    exact bodyPost_ret (zal Tryz.results121 _ _ g1 (Pt.arr ⟨0,0⟩) 2 _ rfl rfl (Y2.set _).cell Tryz.underlying66 rfl zcx) rfl ⟨by rw [HO.out];rfl,zab B2 hgle _⟩
end Go.Proofs.YtgoeedohgomodaaGreatDoor
namespace Go.Proofs.YtgoeedohgomodaaGreatDoor
open Go.RowKit Go.Sort
set_option maxRecDepth 100000
def RetBd (w:World) (r:List Entry × Int) (e:Ending) (w':World):Prop:=
  ∃ A c,e=.returned (.tuple #[.slice A r.1.length c, .int .i64 r.2])∧r.1.length≤c∧Ents w' A r.1∧Below w.heap.size w w'
theorem RetBd.err (w w':World) (n:Int) (h:Below w.heap.size w w'):RetBd w ([],n) (.returned (.tuple #[.slice none 0 0, .int .i64 n])) w':=⟨none,0,rfl,Nat.le_refl _,Ents.nil _ _,h⟩
def zxP (parts:Array (Nat × Value)):Sem Value:=Instr.build 69 parts
theorem zlu (parts:Array (Nat × Value)):Instr.build 69 parts=zxP parts:=rfl
theorem znj (w:World) (l:Leg) (s:Int) (via:List UInt8):(zxP #[(1, .agg l.arr),(4, .int .u8 s),(5, .string ⟨via.toArray⟩)]).run Tryz.prog w=.ok (.agg (⟨false,l,0,0,0,0,s,via⟩:Entry).arr) w:=run_build w _ _ _ (by kernel_rfl)
theorem ziT (x:Entry) (p:Pt):splice x.arr 14 p.arr=(⟨x.gap,x.leg,p.x,p.y,x.mx,x.my,x.sec,x.via⟩:Entry).arr:=rfl
theorem ziS (x:Entry) (p:Pt):splice x.arr 16 p.arr=(⟨x.gap,x.leg,x.ex,x.ey,p.x,p.y,x.sec,x.via⟩:Entry).arr:=rfl
attribute [local go_sem ↓] zlu
attribute [local go_sem] znj ziT ziS
theorem ztb {w W:World} {b off:Nat} {l:List Leg} (h:Items w (some ⟨b,off,none⟩) 13 (l.map Leg.arr)) (hB:Below w.heap.size w W) {k:Nat} (hk:k < l.length):Is_leg W b (off+k * 13) l[k]:=fun j hj=>by
  rw [h.cells hB (k:=k) (by simpa using hk) j hj,List.getElem_map]
theorem zls (pt:List UInt8→(Int × Int) × Int) (legs:List Leg) (sec:Int) (via:List UInt8) (hs:zdS sec=true) (hv:zuw via=true):
    zbL pt legs sec via=if zbB pt legs=0 then (legs.map (zgA pt sec via),0) else ([],zbB pt legs):=by
  unfold zbL
  rw [hs,hv]
  rfl
set_option maxHeartbeats 8000000 in
theorem zvJ (d:DBs) (l:List FixV) (legs:List Leg) (A:Option Addr) (c:Nat) (sec:Int) (via:List UInt8) (w:World) (hL:Laid w) (hD:DbAt w d l)
    (hI:Items w A 13 (legs.map Leg.arr)) (hlc:legs.length≤c) (hn:legs.length≤1000000) (hs:∀ x ∈ legs,x.small) (hv:via.length≤4000000000):
    Calls Tryz.prog 112 #[.agg d.cells, .slice A legs.length c, .int .u8 sec, .string ⟨via.toArray⟩] w (RetBd w (zbL (zcK d.lat d.lon l) legs sec via)):=by
  have hcall:=Lib.hid (fun r w' (h:Below w.heap.size w w')=>zh3 d l r w' (hD.below h))
  generalize zcK d.lat d.lon l=pt at hcall ⊢
  have hsz9:=hD.ok.size
  generalize d.cells=cs at *
  clear hD
  have ks:=Lib.hid (ziU sec)
  have kv:=Lib.hid (fun w' (h:Below w.heap.size w w')=>zrU via w' (hL.below h) hv)
  have HL:=Lib.hid (fun w' (h:Below w.heap.size w w')=>hL.below h)
  clear hL
  go_enter Tryz.func112,Tryz.ntmps112
  go_upto_region 1 with (fail)
  have X0:Blk (w.alloc (.cells cs 37)) w.heap.size cs:=Blk.new w _ _
  have B0:=zad w (.cells cs 37)
  generalize w.alloc _=W at X0 B0 ⊢
  obtain ⟨g0,hg0⟩:∃ g,g=w.heap.size:=⟨_,rfl⟩
  rw [← hg0] at X0 ⊢
  clear hg0
  cases hsb:zdS sec with
  | false=>
    have HO:=Lib.hid (show zbL pt legs sec via=([],17) by unfold zbL;rw [hsb];rfl)
    rw [hsb] at ks
    go_wp2_with (go_at_call 99;(with_reducible refine zae (ks.out _) ?_))
    go_ret2
    rw [HO.out]
    exact RetBd.err _ _ _ B0
  | true=>
    rw [hsb] at ks
    have hq:=Lib.hid (kv.out W B0)
    cases hvb:zuw via with
    | false=>
      have HO:=Lib.hid (show zbL pt legs sec via=([],5) by unfold zbL;rw [hsb,hvb];rfl)
      rw [hvb] at hq
      go_wp2_with (first | (go_at_call 99;(with_reducible refine zae (ks.out _) ?_)) | (go_at_call 100;(with_reducible refine zes hq.out ?_);intro n1))
      go_ret2
      rw [HO.out]
      exact RetBd.err _ _ _ (below_drewN B0 _)
    | true=>
      have HS:=Lib.hid (zls pt legs sec via hsb hvb)
      rw [hvb] at hq
      go_upto_region 6 with (first | (go_at_call 99;(with_reducible refine zae (ks.out _) ?_)) | (go_at_call 100;(with_reducible refine zes hq.out ?_);intro n1))
      have X1:Blk (W.drewN n1) g0 cs:=X0.step (below_drewN (Below.refl _ _) n1)
      have B1:Below w.heap.size w (W.drewN n1):=below_drewN B0 n1
      clear X0 B0 hq
      generalize W.drewN n1=W1 at *
      have I1:Items W1 A 13 (legs.map Leg.arr):=hI.below B1
      have HC:=Lib.hid (fun r w' (h:Below W1.heap.size W1 w')=>hcall.out r w' (zaa B1 h))
      have HLw:=Lib.hid (fun w' (h:Below W1.heap.size W1 w')=>HL.out w' (zaa B1 h))
      have HX:=Lib.hid (fun w' (h:Below W1.heap.size W1 w')=>X1.step h)
      clear kv ks hsb hvb hcall HL hI
      have BH:=Lib.hid B1
      clear B1 X1
      go_wp2
      go_loopw [10,26] (fun o i wr=>∃ (k:Nat) (es:List Entry),k≤legs.length∧i=.int .i64 k∧es=(legs.take k).map (zgA pt sec via)∧es.length=k∧zbB pt legs=zbB pt (legs.drop k)∧Out W1 wr o es∧Below W1.heap.size W1 wr) (fun _ i _=>legs.length - (intOf i).toNat)
      case atStart=>exact ⟨0,[],by omega,rfl,rfl,rfl,rfl,Out.nil _ _,Below.refl _ _⟩
      case round=>
        obtain ⟨k,es,hk,rfl,hes,hel,hgo,O,BW⟩:=hrel
        have HES:=Lib.hid hes
        have HEL:=Lib.hid hel
        have HGO:=Lib.hid hgo
        clear hes hel hgo
        by_cases hlt:k < legs.length
        · obtain ⟨b,off,hA,hb,hcl⟩:=I1.get (k:=k) (by simpa using hlt)
          clear hcl hb
          subst hA
          have hx:=ztb I1 BW hlt
          have hsm:=hs _ (List.getElem_mem hlt)
          have HT:=Lib.hid (show (legs.take (k+1)).map (zgA pt sec via)=es ++ [zgA pt sec via legs[k]] by rw [HES.out,List.take_succ_eq_append_getElem hlt,List.map_append];rfl)
          have HG:=Lib.hid (show zbB pt legs=orE (orE (zaN legs[k]) (orE (zhU pt legs[k].fix).2 (zhU pt legs[k].center).2)) (zbB pt (legs.drop (k+1))) by rw [HGO.out,List.drop_eq_getElem_cons hlt];rfl)
          clear HES HGO
          generalize legs[k]=x at hx hsm HT HG
          obtain ⟨rest,hrest⟩:∃ rest,zbB pt (legs.drop (k+1))=rest:=⟨_,rfl⟩
          rw [hrest] at HG
          have HRS:=Lib.hid hrest
          clear hrest
          have hkc:k < c:=by omega
          have i1:zaJ wr b (off+k * 13):=⟨_,hx⟩
          have i2:za6 wr b (off+k * 13)=x:=zaz hx
          have HO:=Lib.hid (fun w' (h:Below wr.heap.size wr w')=>O.below h)
          have HB:=Lib.hid (fun w' (h:Below wr.heap.size wr w')=>BW.trans (h.mono BW.size))
          clear O hx
          go_upto_region 9 with (fail)
          clear i1 i2
          have P0:Blk (wr.alloc (.cells x.arr 64)) wr.heap.size x.arr:=Blk.new _ _ _
          have D0:=zad wr (.cells x.arr 64)
          generalize wr.alloc _=W2 at P0 D0 ⊢
          obtain ⟨g1,hg1⟩:∃ g,g=wr.heap.size:=⟨_,rfl⟩
          rw [← hg1] at P0 ⊢
          clear hg1
          have hck:=Lib.hid (zjT x W2 (HLw.out _ (HB.out _ D0)) hsm)
          have HXE:=Lib.hid (show zgA pt sec via x=⟨false,x,(zhU pt x.fix).1.1,(zhU pt x.fix).1.2,(zhU pt x.center).1.1,(zhU pt x.center).1.2,sec,via⟩ from rfl)
          generalize zaN x=ck at hck HG
          have i1:zaJ W2 g1 0:=⟨_,P0.is_leg⟩
          have i2:za6 W2 g1 0=x:=zaz P0.is_leg
          by_cases hc0:ck=0
          · subst hc0
            go_upto_region 12 with (go_at_call 98;(with_reducible refine zaj hck.out ?_);intro w3 b3 _ _ _)
            have P3:=P0.step b3
            have D3:=zaa D0 b3
            clear i1 i2 P0 D0 b3 hck
            have i1:zaJ w3 g1 0:=⟨_,P3.is_leg⟩
            have i2:za6 w3 g1 0=x:=zaz P3.is_leg
            go_upto_region 14 with (fail)
            clear i1 i2
            have P4:=P3.alloc (.cells (⟨false,x,0,0,0,0,sec,via⟩:Entry).arr 69)
            have E4:=Blk.new w3 (⟨false,x,0,0,0,0,sec,via⟩:Entry).arr 69
            have D4:=zaa D3 (zad w3 (.cells (⟨false,x,0,0,0,0,sec,via⟩:Entry).arr 69))
            generalize hW:w3.alloc _=W4
            have hE:w3.alloc (.cells (⟨false,x,0,0,0,0,sec,via⟩:Entry).arr 69)=W4:=hW
            rw [hE] at P4 E4 D4
            clear hW hE
            obtain ⟨g2,hg2⟩:∃ g,g=w3.heap.size:=⟨_,rfl⟩
            rw [← hg2] at E4 ⊢
            have hne:wr.heap.size≤g2:=by rw [hg2];exact D3.size
            clear hg2 P3 D3
            obtain ⟨F,hF⟩:∃ F,x.fix=F:=⟨_,rfl⟩
            have k1:W4.cell? ⟨g1,1,none⟩=some (.string ⟨F.toArray⟩):=by rw [← hF];exact P4.cell 1
            rw [hF] at HXE HG
            obtain ⟨⟨⟨fx,fy⟩,fe⟩,hfp⟩:∃ fp,zhU pt F=fp:=⟨_,rfl⟩
            rw [hfp] at HXE HG
            clear hF
            go_upto_if 41 with (fail)
            go_cut [15,26] from 26 to 71 (fun v i wx=>i=.int .i64 k∧fe=0∧Blk wx g1 x.arr∧Blk wx g2 (⟨false,x,fx,fy,0,0,sec,via⟩:Entry).arr∧Below wr.heap.size wr wx)
            case first=>
              by_cases hf0:F=[]
              · have e:((fx,fy),fe)=((0,0),0):=by rw [← hfp,hf0];rfl
                simp only [Prod.mk.injEq] at e
                obtain ⟨⟨rfl,rfl⟩,rfl⟩:=e
                subst hf0
                clear hfp HG HXE
                go_wp2
                go_meet
                exact ⟨by trivial,by trivial,P4,E4,D4⟩
              · have e:pt F=((fx,fy),fe):=by rw [← hfp];unfold zhU;rw [if_neg (by simpa using hf0)]
                have hfb:F.isEmpty=false:=by simpa using hf0
                clear hf0
                have hcall:=Lib.hid (show Calls Tryz.prog 121 #[.agg cs, .string ⟨F.toArray⟩] W4 (Ret W4 (.tuple #[.agg (Pt.arr ⟨fx,fy⟩), .int .i64 fe])) from by have:=HC.out F W4 (HB.out _ D4);rw [e] at this;exact this)
                have i1:za7 W4 g0 0:=⟨_,(HX.out _ (HB.out _ D4)).is_db hsz9⟩
                have i2:zbQ W4 g0 0=cs:=zaL ((HX.out _ (HB.out _ D4)).is_db hsz9)
                have HP:=Lib.hid (fun w' (h:Below W4.heap.size W4 w')=>P4.step h)
                have HE:=Lib.hid (fun w' (h:Below W4.heap.size W4 w')=>E4.step h)
                have HD:=Lib.hid (fun w' (h:Below W4.heap.size W4 w')=>zaa D4 h)
                have hne2:g1 ≠ g2:=by intro h;subst h;have h1:=P4.of;have h2:=E4.of;rw [h1] at h2;have:=congrArg Array.size h2;simp [Leg.arr,Entry.arr] at this
                clear P4 E4 D4 hfp e
                by_cases he:fe=0
                · subst he
                  go_wp2_with (go_at_call 121;(with_reducible refine zaj hcall.out ?_);intro w5 b5 _ _ _;have d2:=(HE.out _ b5).plain;have d3:=(HE.out _ b5).of)
                  all_goals try (exfalso;have hq:(!F.isEmpty)=false:=(by assumption);rw [hfb] at hq;exact absurd hq (by decide))
                  go_meet
                  exact ⟨by trivial,by trivial,(HP.out _ b5).far hne2 _,(HE.out _ b5).set _,zab (HD.out _ b5) hne _⟩
                · have HR:=Lib.hid (show zbL pt legs sec via=([],fe) by
                    have h1:zbB pt legs=fe:=by rw [HG.out];simp [orE,he]
                    rw [HS.out,h1,if_neg he])
                  clear HS HG HXE
                  go_wp2_with (go_at_call 121;(with_reducible refine zaj hcall.out ?_);intro w5 b5 _ _ _;have d2:=(HE.out _ b5).plain;have d3:=(HE.out _ b5).of)
                  all_goals try (exfalso;have hq:(!F.isEmpty)=false:=(by assumption);rw [hfb] at hq;exact absurd hq (by decide))
                  go_ret2
                  rw [HR.out]
                  exact RetBd.err _ _ _ (zaa BH.out (HB.out _ (zab (HD.out _ b5) hne _)))
            case rest=>
              obtain ⟨rfl,rfl,P5,E5,D5⟩:=hcut
              clear P4 E4 D4 k1 hfp
              obtain ⟨F,hF⟩:∃ F,x.center=F:=⟨_,rfl⟩
              have k1:wc.cell? ⟨g1,2,none⟩=some (.string ⟨F.toArray⟩):=by rw [← hF];exact P5.cell 2
              rw [hF] at HXE HG
              obtain ⟨⟨⟨mx,my⟩,me⟩,hfp⟩:∃ fp,zhU pt F=fp:=⟨_,rfl⟩
              rw [hfp] at HXE HG
              clear hF
              go_upto_if 55 with (fail)
              go_cut [15,26] from 26 to 71 (fun v i wx=>i=.int .i64 k∧me=0∧Blk wx g1 x.arr∧Blk wx g2 (⟨false,x,fx,fy,mx,my,sec,via⟩:Entry).arr∧Below wr.heap.size wr wx)
              case first=>
                by_cases hf0:F=[]
                · have e:((mx,my),me)=((0,0),0):=by rw [← hfp,hf0];rfl
                  simp only [Prod.mk.injEq] at e
                  obtain ⟨⟨rfl,rfl⟩,rfl⟩:=e
                  subst hf0
                  clear hfp HG HXE
                  go_wp2
                  go_meet
                  exact ⟨by trivial,by trivial,P5,E5,D5⟩
                · have e:pt F=((mx,my),me):=by rw [← hfp];unfold zhU;rw [if_neg (by simpa using hf0)]
                  have hfb:F.isEmpty=false:=by simpa using hf0
                  clear hf0
                  have hcall:=Lib.hid (show Calls Tryz.prog 121 #[.agg cs, .string ⟨F.toArray⟩] wc (Ret wc (.tuple #[.agg (Pt.arr ⟨mx,my⟩), .int .i64 me])) from by have:=HC.out F wc (HB.out _ D5);rw [e] at this;exact this)
                  have i1:za7 wc g0 0:=⟨_,(HX.out _ (HB.out _ D5)).is_db hsz9⟩
                  have i2:zbQ wc g0 0=cs:=zaL ((HX.out _ (HB.out _ D5)).is_db hsz9)
                  have HP:=Lib.hid (fun w' (h:Below wc.heap.size wc w')=>P5.step h)
                  have HE:=Lib.hid (fun w' (h:Below wc.heap.size wc w')=>E5.step h)
                  have HD:=Lib.hid (fun w' (h:Below wc.heap.size wc w')=>zaa D5 h)
                  have hne2:g1 ≠ g2:=by intro h;subst h;have h1:=P5.of;have h2:=E5.of;rw [h1] at h2;have:=congrArg Array.size h2;simp [Leg.arr,Entry.arr] at this
                  clear P5 E5 D5 hfp e
                  by_cases he:me=0
                  · subst he
                    go_wp2_with (go_at_call 121;(with_reducible refine zaj hcall.out ?_);intro w5 b5 _ _ _;have d2:=(HE.out _ b5).plain;have d3:=(HE.out _ b5).of)
                    all_goals try (exfalso;have hq:(!F.isEmpty)=false:=(by assumption);rw [hfb] at hq;exact absurd hq (by decide))
                    go_meet
                    exact ⟨by trivial,by trivial,(HP.out _ b5).far hne2 _,(HE.out _ b5).set _,zab (HD.out _ b5) hne _⟩
                  · have HR:=Lib.hid (show zbL pt legs sec via=([],me) by
                      have h1:zbB pt legs=me:=by rw [HG.out];simp [orE,he]
                      rw [HS.out,h1,if_neg he])
                    clear HS HG HXE
                    go_wp2_with (go_at_call 121;(with_reducible refine zaj hcall.out ?_);intro w5 b5 _ _ _;have d2:=(HE.out _ b5).plain;have d3:=(HE.out _ b5).of)
                    all_goals try (exfalso;have hq:(!F.isEmpty)=false:=(by assumption);rw [hfb] at hq;exact absurd hq (by decide))
                    go_ret2
                    rw [HR.out]
                    exact RetBd.err _ _ _ (zaa BH.out (HB.out _ (zab (HD.out _ b5) hne _)))
              case rest=>
                obtain ⟨rfl,rfl,P6,E6,D6⟩:=hcut
                clear P5 E5 D5 k1 hfp P6
                obtain ⟨y,hy⟩:∃ y,(⟨false,x,fx,fy,mx,my,sec,via⟩:Entry)=y:=⟨_,rfl⟩
                have HY:=Lib.hid (show zgA pt sec via x=y by rw [HXE.out,← hy])
                rw [hy] at E6
                have HG2:=Lib.hid (show zbB pt legs=rest from HG.out)
                clear hy HXE HG
                have i1:za4 wc g2 0:=⟨_,E6.is_ent⟩
                have i2:zbE wc g2 0=y:=zaS E6.is_ent
                have OA:=Lib.hid ((HO.out _ D6).alloc (.cells y.arr 69))
                have BA:=Lib.hid ((HB.out _ D6).alloc (HB.out _ D6).size (.cells y.arr 69))
                have hen:=HEL.out
                have hba:W1.heap.size≤(wc.alloc (.cells y.arr 69)).heap.size:=BA.out.size
                go_wp2_with (at_builtin;refine zaW rfl (.tmp 67) (.tmp 69) rfl OA.out rfl [y] wc.heap.size 1 1 rfl rfl (Blk.one wc y _) (by simp;omega) hba ?_;intro v5 W5 O5 hg5)
                go_roundw
                case rel=>
                  exact ⟨k+1,es ++ [y],by omega,by go_num,by rw [HT.out,HY.out],by simp;omega,by rw [HG2.out,HRS.out],O5,below_grown BA.out OA.out hg5⟩
                case measure=>simp [intOf];omega
          · have HR:=Lib.hid (show zbL pt legs sec via=([],ck) by
              have h1:zbB pt legs=ck:=by rw [HG.out];simp [orE,hc0]
              rw [HS.out,h1,if_neg hc0])
            clear HS HG
            go_wp2_with (go_at_call 98;(with_reducible refine zaj hck.out ?_);intro w3 b3 _ _ _)
            go_ret2
            rw [HR.out]
            exact RetBd.err _ _ _ (zaa BH.out (HB.out _ (zaa D0 b3)))
        · have hes:=HES.out
          rw [List.take_of_length_le (by omega)] at hes
          have HR:=Lib.hid (show zbL pt legs sec via=(es,0) by
            have h1:zbB pt legs=0:=by rw [HGO.out,List.drop_of_length_le (by omega)];rfl
            rw [HS.out,if_pos h1,← hes])
          obtain ⟨A2,c2,rfl,hc2,hE2,_⟩:=O.form
          clear HS HGO HES hes O
          go_wp2
          go_ret2
          rw [HR.out]
          exact ⟨A2,c2,rfl,hc2,hE2,zaa BH.out BW⟩
end Go.Proofs.YtgoeedohgomodaaGreatDoor
namespace Go.Proofs.YtgoeedohgomodaaGreatDoor
open Go.RowKit
def SmL (n:Nat) (l:List Entry):Prop:=l.length≤n∧∀ x ∈ l,x.small
theorem SmL.nil (n:Nat):SmL n []:=⟨Nat.zero_le _,fun x h=>by cases h⟩
theorem zre:gapE.small:=⟨⟨by simp [gapE],by simp [gapE]⟩,by simp [gapE]⟩
theorem zos {t:Int} {f:List UInt8} (h:f.length≤4000000000):(zaI t f).small:=⟨h,by simp [zaI]⟩
theorem ziR {x:Entry} (h:x.small):(zco x).small:=⟨⟨h.leg.fix,by simp [zco]⟩,h.via⟩
theorem zom:zeroE.small:=⟨⟨by simp [zeroE],by simp [zeroE]⟩,by simp [zeroE]⟩
theorem zlK {x:Entry} (h:x.small):(zbq x).1.small:=by
  unfold zbq
  split
  · exact h
  · split
    · exact ziR h
    · exact zom
theorem zeZ {out:List Entry} {pb:Bool} {x:Entry} (ho:∀ y ∈ out,y.small) (h:x.small):∀ y ∈ (zbU out pb x).1,y.small:=by
  unfold zbU
  intro y hy
  split at hy
  · rcases List.mem_append.1 hy with hy | hy
    · split at hy
      · exact ho y hy
      · rcases List.mem_append.1 hy with hy | hy
        · exact ho y hy
        · obtain rfl:y=gapE:=by simpa using hy
          exact zre
    · obtain rfl:y=(zbq x).1:=by simpa using hy
      exact zlK h
  · exact ho y hy
theorem zkB {out:List Entry} {pb:Bool} {x:Entry} (ho:∀ y ∈ out,y.small) (h:x.small):∀ y ∈ (joinStep out pb x).1,y.small:=by
  unfold joinStep
  split
  · exact ho
  · split
    · exact zeZ ho h
    · split
      · exact zeZ ho h
      · split
        · exact ho
        · split
          · intro y hy
            rcases List.mem_append.1 hy with hy | hy
            · exact ho y hy
            · obtain rfl:y=x:=by simpa using hy
              exact h
          · exact zeZ ho h
theorem zh6:∀ (r out:List Entry) (pb:Bool),(∀ y ∈ out,y.small)→(∀ y ∈ r,y.small)→∀ y ∈ zdG out pb r,y.small
  | [],_,_,ho,_=>ho
  | x :: r,out,pb,ho,h=>zh6 r _ _ (zkB ho (h x (by simp))) fun y hy=>h y (List.mem_cons_of_mem _ hy)
theorem zpa {l:List Entry} {n:Nat} (h:SmL n l):SmL (2 * n) (zcO l):=⟨Nat.le_trans (ztk l) (by have:=h.1;omega),zh6 l [] false (fun y hy=>by cases hy) h.2⟩
theorem zpv {pt:List UInt8→(Int × Int) × Int} {legs:List Leg} {s:Int} {via:List UInt8} {n:Nat} (hl:legs.length≤n) (h:∀ l ∈ legs,l.small) (hv:via.length≤4000000000):SmL n (zbL pt legs s via).1:=by
  unfold zbL
  split
  · exact .nil _
  · split
    · exact .nil _
    · split
      · refine ⟨by simpa using hl,fun x hx=>?_⟩
        obtain ⟨l,hm,rfl⟩:=List.mem_map.1 hx
        exact ⟨h l hm,hv⟩
      · exact .nil _
end Go.Proofs.YtgoeedohgomodaaGreatDoor
