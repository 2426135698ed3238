/- Lemmas and walks. -/
import Derived.Test.YtgoeedohgomodaaGreatDoorQk38
import Derived.Test.YtgoeedohgomodaaGreatDoorQk43
import Derived.Test.YtgoeedohgomodaaGreatDoorQk28
set_option linter.unusedSimpArgs false
set_option linter.unusedVariables false
namespace Go.Proofs.YtgoeedohgomodaaGreatDoor
open Go.RowKit Go.Sort
set_option maxRecDepth 100000
theorem zpT {pt:List UInt8→(Int × Int) × Int} {a:Int × Int} {n:List UInt8} {y:FixV} {r:List FixV} {best:List UInt8} {far:Int} (h1:y.ident=n) (h2:(pt y.ref).2=0) (h3:best=[]∨ze3 a (pt y.ref).1 < far):
    zcA pt a n (y :: r) best far=zcA pt a n r y.ref (ze3 a (pt y.ref).1):=by
  show (if _ then _ else _)=_
  rw [if_pos ⟨h1,h2,h3⟩]
theorem zht {pt:List UInt8→(Int × Int) × Int} {a:Int × Int} {n:List UInt8} {y:FixV} {r:List FixV} {best:List UInt8} {far:Int} (h:¬ (y.ident=n∧(pt y.ref).2=0∧(best=[]∨ze3 a (pt y.ref).1 < far))):
    zcA pt a n (y :: r) best far=zcA pt a n r best far:=by
  show (if _ then _ else _)=_
  rw [if_neg h]
theorem zri {es:List Entry} (h:0 < es.length):zjL es=(es[es.length - 1].ex,es[es.length - 1].ey):=by
  unfold zjL
  rw [List.getLast?_eq_getElem?,List.getElem?_eq_getElem (by omega)]
theorem zx0 {w w':World} {r:List UInt8 × Int} {s:List UInt8} {n:Int} (h:r=(s,n)) (b:Below w.heap.size w w'):Ret w (.tuple #[.string ⟨r.1.toArray⟩, .int .i64 r.2]) (.returned (.tuple #[.string ⟨s.toArray⟩, .int .i64 n])) w':=by
  subst h
  exact ⟨rfl,b⟩
attribute [local go_sem] zbv zbu zba zbs zgd zg8 zie zjp zaO zaT
set_option maxHeartbeats 8000000 in
theorem ztY {w:World} {d:DBs} {G:GDB} {iA:Option Addr} {ic:Nat} {xs:List ItemV} (hS:RS w d G iA ic xs) (es:List Entry) (L:Option Addr) (c g:Nat) (iv:Value) (W:World) (h:Bu w W g d.cells iv L c es) (he:es.length≤1000000) (n:List UInt8) (hn:n.length≤4000000000):
    Calls Tryz.prog 77 #[.pointer (some ⟨g,0,none⟩), .string ⟨n.toArray⟩] W (Ret W (.tuple #[.string ⟨(zd7 G es n).1.toArray⟩, .int .i64 (zd7 G es n).2])):=by
  have HN:=Lib.hid (show zd7 G es n=zcA (zcK G.olat G.olon G.fixes) (zjL es) n G.fixes [] 0 from rfl)
  have KP:=Lib.hid (fun (r:List UInt8) W' (D:Below w.heap.size w W')=>zh3 d G.fixes r W' (hS.gd.db.below D))
  rw [hS.gd.lat,hS.gd.lon] at KP
  generalize zd7 G es n=out at *
  generalize zcK G.olat G.olon G.fixes=pt at *
  have hD:=hS.gd.db
  have HI:=Lib.hid (fun (W':World) (b:Below w.heap.size w W')=>hD.items.below b)
  have c6:=hD.ok.c6
  rw [hD.fn] at c6
  have HCAP:=Lib.hid hD.cap
  have hln:=hD.len
  have HSM:=Lib.hid hD.small
  generalize G.fixes=l at *
  generalize d.fa=fA at *
  generalize d.fc=fc at *
  generalize d.cells=cs at *
  clear hD hS
  have HB:=Lib.hid h
  have HEP:=Lib.hid (fun (q:0 < es.length)=>zri q)
  go_enter Tryz.func77,Tryz.ntmps77
  go_upto_region 3 with (fail)
  have P0:=Blk.new W (Pt.arr ⟨0,0⟩) 66
  have D0:=zac W (.cells (Pt.arr ⟨0,0⟩) 66)
  generalize hW:World.alloc W _=W1
  have hW':W.alloc (.cells (Pt.arr ⟨0,0⟩) 66)=W1:=hW
  rw [hW'] at P0 D0
  clear hW hW'
  obtain ⟨q8,hq8⟩:∃ q,q=W.heap.size:=⟨_,rfl⟩
  rw [← hq8] at P0 ⊢
  have hgq:W.heap.size≤q8:=by omega
  clear hq8
  have h1:=HB.out.step D0
  have e10:=h1.c10
  go_upto_if 19 with (fail)
  go_cut [] (fun wx=>Blk wx q8 (Pt.arr ⟨(zjL es).1,(zjL es).2⟩)∧Below W.heap.size W wx)
  case first=>
    by_cases h0:es=[]
    · have hlz:es.length=0:=by rw [h0];rfl
      have hz:zjL es=(0,0):=by rw [h0];rfl
      have hdt:decide (0 < es.length)=false:=by rw [hlz];rfl
      rw [hdt]
      have HZ:=Lib.hid hz
      clear h0 hlz hz HEP h hdt
      go_wp2
      go_meet
      rw [HZ.out]
      exact ⟨P0,D0⟩
    · have hp:0 < es.length:=List.length_pos_iff.2 h0
      obtain ⟨b,off,hL,hb,hc⟩:=h1.ents.get (k:=es.length - 1) (by omega)
      have HE:=Lib.hid (HEP.out hp)
      have hcap:=h1.cap
      have hgl:=h1.lt
      generalize es[es.length - 1]=y at *
      have HI:zmL W1 b (off+(es.length - 1) * 20+14) ⟨y.ex,y.ey⟩:=fun j hj=>by
        match j,hj with
        | 0,_=>rw [show off+(es.length - 1) * 20+14+0=off+(es.length - 1) * 20+14 by omega,hc 14 (by omega)];rfl
        | 1,_=>rw [show off+(es.length - 1) * 20+14+1=off+(es.length - 1) * 20+15 by omega,hc 15 (by omega)];rfl
      subst hL
      have hdt:decide (0 < es.length)=true:=decide_eq_true hp
      rw [hdt]
      clear hdt
      obtain ⟨m,hm⟩:∃ m,m=es.length - 1:=⟨_,rfl⟩
      have hl:es.length=m+1:=by omega
      rw [hl] at e10 hcap hp he
      rw [← hm] at HI
      clear hc h0 hm hl h h1 HEP
      have i1:zbw W1 b (off+m * 20+14):=⟨_,HI⟩
      have i2:zcr W1 b (off+m * 20+14)=⟨y.ex,y.ey⟩:=zaZ HI
      have hwr:IntKind.i64.wrap (m:Int)=(m:Int):=by rw [IntKind.wrap_i64];omega
      have hlt1:(m:Int) < (m:Int)+1:=by omega
      have hlc1:m < c:=by omega
      have d2:=P0.plain
      have d3:=P0.of
      go_upto_region 4 with (fail)
      go_region
      go_wp2
      go_meet
      rw [HE.out]
      exact ⟨(P0.step (Below.refl _ _).drew).set _,zab D0.drew hgq _⟩
  case rest=>
  obtain ⟨P1,BC⟩:=hcut
  generalize wc=Wb at *
  have B1:=HB.out.step BC
  have HBB:=Lib.hid B1.bel
  have k6:Wb.cell? ⟨g,6,none⟩=some (.slice fA l.length fc):=by
    have:=B1.db.2 6 (by omega)
    rw [Nat.zero_add] at this
    exact this.trans c6
  have HBC:=Lib.hid BC
  have HB1:=Lib.hid B1
  generalize zjL es=at_ at *
  clear P0 D0 h1 e10 HEP c6 h HB B1 BC
  go_upto_region 6 with (fail)
  go_loopw [6,7,39] (fun bv fv iv wr=>∃ (k:Nat) (best:List UInt8) (far:Int),k≤l.length∧iv=.int .i64 k∧bv=.string ⟨best.toArray⟩∧fv=.int .i64 far∧zcA pt at_ n l [] 0=zcA pt at_ n (l.drop k) best far∧Below Wb.heap.size Wb wr) (fun _ _ iv _=>l.length - (intOf iv).toNat)
  case atStart=>exact ⟨0,[],0,by omega,rfl,rfl,rfl,rfl,Below.refl _ _⟩
  case round=>
    obtain ⟨k,best,far,hk,rfl,rfl,rfl,hf,BW⟩:=hrel
    have HF:=Lib.hid hf
    clear hf
    have BB:=Lib.hid (zaa HBB.out BW)
    by_cases hlt:k < l.length
    · have hlt':(k:Int) < (l.length:Int):=by omega
      have hkc:k < fc:=by have:=HCAP.out;omega
      obtain ⟨b2,o2,hA,hb2,_⟩:=(HI.out wr BB.out).get (k:=k) (by simpa using hlt)
      have hx:=zgx (by have:=HI.out wr BB.out;rw [hA] at this;exact this) (Below.refl _ _) hlt
      have hsm:=HSM.out _ (List.getElem_mem hlt)
      have HD:=Lib.hid (show zcA pt at_ n l [] 0=zcA pt at_ n (l[k] :: l.drop (k+1)) best far by rw [HF.out,List.drop_eq_getElem_cons hlt])
      generalize l[k]=y at *
      have i1:za1 wr b2 (o2+k * 7):=⟨_,hx⟩
      have i2:zbe wr b2 (o2+k * 7)=y:=za0 hx
      subst hA
      clear hx HF
      go_upto_region 8 with (fail)
      have Z:=Blk.new wr y.arr 84
      have D:=zac wr (.cells y.arr 84)
      have B5:=zaa BW D
      have X5:=HB1.out.step B5
      have P5:=P1.step B5
      clear i1 i2 hb2 D BW
      generalize wr.alloc _=W5 at Z B5 X5 P5 ⊢
      generalize wr.heap.size=g7 at Z ⊢
      have z0:W5.cell? ⟨g7,0,none⟩=some (.string ⟨y.ident.toArray⟩):=Z.cell 0
      by_cases hid:y.ident=n
      rotate_left
      · have e1:(y.ident == n)=false:=by simpa using hid
        have HD:=Lib.hid (HD.out.trans (zht (fun q=>hid q.1)))
        have HB5:=Lib.hid B5
        clear hid B5 X5 P5
        go_wp2
        go_roundw
        case rel=>exact ⟨k+1,best,far,by omega,by go_num,rfl,rfl,HD.out,HB5.out⟩
        case measure=>simp [intOf];omega
      · have e1:(y.ident == n)=true:=by simpa using hid
        have HID:=Lib.hid hid
        clear hid
        have kr:=Lib.hid (fun W'=>zhB y hsm W')
        have kp:=Lib.hid (fun W' (D:Below W5.heap.size W5 W')=>KP.out y.ref W' (zaa X5.bel D))
        have j1:za1 W5 g7 0:=⟨_,Z.is_fixv⟩
        have j2:zbe W5 g7 0=y:=za0 Z.is_fixv
        have k1:za7 W5 g 0:=⟨_,X5.db⟩
        have k2:zbQ W5 g 0=cs:=zaL X5.db
        have hgl:=X5.lt
        have hzl:=Z.lt
        have HX5:=Lib.hid X5
        have HZ:=Lib.hid Z
        have HP5:=Lib.hid P5
        have HB5:=Lib.hid B5
        obtain ⟨p,hp⟩:∃ p,pt y.ref=p:=⟨_,rfl⟩
        rw [hp] at kp
        have HPT:=Lib.hid hp
        obtain ⟨r,hr⟩:∃ r,y.ref=r:=⟨_,rfl⟩
        rw [hr] at kp kr
        have HR:=Lib.hid hr
        clear X5 Z P5 B5 hp hr
        go_upto_region 9 with (fail)
        go_cut [11,12] (fun v e wx=>∃ q,v=.pointer (some ⟨q,0,none⟩)∧e=.int .i64 p.2∧Blk wx q (ptP p.1).arr∧Below W5.heap.size W5 wx)
        case first=>
          go_region_with (first
            | (go_at_call 38;(with_reducible refine zaj (kr.out _) ?_);intro w2 b2 _ _ _;(first | (have Y2:Blk w2 W5.heap.size (Pt.arr ⟨0,0⟩):=(((Blk.new W5 (Pt.arr ⟨0,0⟩) 66).step (Below.refl _ _).drew)).step b2;have f2:Below W5.heap.size W5 w2:=zaa (zac W5 (.cells (Pt.arr ⟨0,0⟩) 66)).drew b2) | (have f2:Below W5.heap.size W5 w2:=zcm b2));have m1:za7 w2 g 0:=⟨_,(HX5.out.step f2).db⟩;have m2:zbQ w2 g 0=cs:=zaL (HX5.out.step f2).db;have m3:g < w2.heap.size:=(HX5.out.step f2).lt)
            | (go_at_call 121;(with_reducible refine zaj (kp.out _ (by first | exact f2 | exact zaa f2 (zac _ _))) ?_);intro w3 b3 _ _ _;first | (have Y3:=Y2.step b3;have f3:Below W5.heap.size W5 w3:=zaa f2 b3;have d2:=Y3.plain;have d3:=Y3.of) | (have Y3:Blk w3 w2.heap.size (Pt.arr ⟨0,0⟩):=(Blk.new w2 (Pt.arr ⟨0,0⟩) 66).step b3;have f3:Below W5.heap.size W5 w3:=zaa (zaa f2 (zac w2 (.cells (Pt.arr ⟨0,0⟩) 66))) b3;have d2:=Y3.plain;have d3:=Y3.of) | (have f3:Below W5.heap.size W5 w3:=zaa f2 b3)))
          all_goals
            go_wp2
            go_meet
            first
              | exact ⟨_,rfl,rfl,Blk.new _ _ _,zaa f3 (zac _ _)⟩
              | exact ⟨_,rfl,rfl,Y3.set _,zab f3 (by first | exact Nat.le_refl _ | exact f2.size) _⟩
        case rest=>
        obtain ⟨q,rfl,rfl,Q,BC⟩:=hcut
        have P6:=HP5.out.step BC
        have Z6:=HZ.out.step BC
        have B6:=Lib.hid (zaa HB5.out BC)
        clear k1 k2 j1 j2 z0 kp HX5 HZ HP5 HB5 hgl hzl BC
        by_cases hp2:p.2=0
        rotate_left
        · have e2:(p.2 != 0)=true:=by simpa using hp2
          have HD:=Lib.hid (HD.out.trans (zht (fun q=>hp2 (by rw [← HPT.out];exact q.2.1))))
          clear hp2 P6 Z6 Q
          go_wp2
          go_roundw
          case rel=>exact ⟨k+1,best,far,by omega,by go_num,rfl,rfl,HD.out,B6.out⟩
          case measure=>simp [intOf];omega
        · have e2:(p.2 != 0)=false:=by simpa using hp2
          have HY:=Lib.hid (fun (h3:best=[]∨ze3 at_ p.1 < far)=>HD.out.trans (zpT HID.out (by rw [HPT.out];exact hp2) (by rw [HPT.out];exact h3)))
          have HNO:=Lib.hid (fun (h3:¬ (best=[]∨ze3 at_ p.1 < far))=>HD.out.trans (zht (fun q=>h3 (by rw [← HPT.out];exact q.2.2))))
          obtain ⟨⟨px,py⟩,pe⟩:=p
          dsimp only at hp2 e2
          rw [HPT.out] at HY
          have kd:=Lib.hid (fun W'=>show Calls Tryz.prog 122 #[.agg (Pt.arr ⟨at_.1,at_.2⟩), .agg (Pt.arr ⟨px,py⟩)] W' (Ret W' (.int .i64 (ze3 at_ (px,py)))) from ztd ⟨at_.1,at_.2⟩ ⟨px,py⟩ W')
          obtain ⟨dv,hdv⟩:∃ v,ze3 at_ (px,py)=v:=⟨_,rfl⟩
          dsimp only at HY HNO
          rw [hdv] at kd HY HNO
          have i1:zbw wc q8 0:=⟨_,P6.is_pt⟩
          have i2:zcr wc q8 0=⟨at_.1,at_.2⟩:=zaZ P6.is_pt
          have i3:zbw wc q 0:=⟨_,Q.is_pt⟩
          have i4:zcr wc q 0=⟨px,py⟩:=zaZ Q.is_pt
          clear HPT
          go_upto_region 12 with (go_at_call 122;(with_reducible refine zaj (kd.out _) ?_);intro w7 b7 _ _ _)
          have Z7:=Z6.step b7
          have B7:=Lib.hid (zaa B6.out b7)
          have krw:=Lib.hid (kr.out w7)
          have j1:za1 w7 g7 0:=⟨_,Z7.is_fixv⟩
          have j2:zbe w7 g7 0=y:=za0 Z7.is_fixv
          clear i1 i2 i3 i4 kd hdv kr Z6 P6 Q B6 b7
          by_cases hb:best=[]
          · have eb:(best == [])=true:=by simpa using hb
            have HD:=Lib.hid (HY.out (.inl hb))
            clear hb HNO HY
            go_wp2_with (go_at_call 38;(with_reducible refine zaj krw.out ?_);intro w8 b8 _ _ _)
            go_roundw
            case rel=>exact ⟨k+1,r,dv,by omega,by go_num,rfl,rfl,by rw [HD.out,HR.out],zaa B7.out b8⟩
            case measure=>simp [intOf];omega
          · have eb:(best == [])=false:=by simpa using hb
            by_cases hd:dv < far
            · have hd':decide (dv < far)=true:=decide_eq_true hd
              have HD:=Lib.hid (HY.out (.inr hd))
              clear hb HNO HY hd
              go_wp2_with (go_at_call 38;(with_reducible refine zaj krw.out ?_);intro w8 b8 _ _ _)
              go_roundw
              case rel=>exact ⟨k+1,r,dv,by omega,by go_num,rfl,rfl,by rw [HD.out,HR.out],zaa B7.out b8⟩
              case measure=>simp [intOf];omega
            · have hd':decide (dv < far)=false:=decide_eq_false hd
              have HD:=Lib.hid (HNO.out (fun q=>q.elim hb hd))
              clear hb HNO HY hd
              go_wp2
              go_roundw
              case rel=>exact ⟨k+1,best,far,by omega,by go_num,rfl,rfl,HD.out,B7.out⟩
              case measure=>simp [intOf];omega
    · have hlt':¬ (k:Int) < (l.length:Int):=by omega
      have HE:=Lib.hid (show out=if best=[] then ([],6) else (best,0) by rw [HN.out,HF.out,List.drop_of_length_le (by omega)];rfl)
      have HBW:=Lib.hid (HBC.out.trans (BW.mono HBC.out.size))
      clear HF BW
      by_cases hb:best=[]
      · have eb:(best == [])=true:=by simpa using hb
        have HE2:=Lib.hid (HE.out.trans (if_pos hb))
        clear hb HE
        go_wp2
        go_ret2
        exact zx0 HE2.out HBW.out
      · have eb:(best == [])=false:=by simpa using hb
        have HE2:=Lib.hid (HE.out.trans (if_neg hb))
        clear hb HE
        go_wp2
        go_ret2
        exact zx0 HE2.out HBW.out
end Go.Proofs.YtgoeedohgomodaaGreatDoor
