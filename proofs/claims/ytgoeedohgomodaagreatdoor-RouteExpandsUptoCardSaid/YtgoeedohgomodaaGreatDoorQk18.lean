/- Lemmas and walks. -/
import Derived.Test.YtgoeedohgomodaaGreatDoorQk09
import Derived.Test.YtgoeedohgomodaaGreatDoorQk10
import Derived.Test.YtgoeedohgomodaaGreatDoorQk14
import Derived.Test.YtgoeedohgomodaaGreatDoorQk11
import Derived.Test.YtgoeedohgomodaaGreatDoorQk07
import Derived.Test.YtgoeedohgomodaaGreatDoorQk01
import Derived.Test.YtgoeedohgomodaaGreatDoorQk03
import Derived.Laws.OwnMore
import Derived.Lib.AppendStr
import Derived.Lib.AtoiAll
import Derived.Test.YtgoeedohgomodaaGreatDoorQk08
import Derived.Laws.StructEq
import Derived.Maps.AppendAt
import Derived.Laws.AppendOwnNone
import Derived.Test.YtgoeedohgomodaaGreatDoorQk16
import Derived.OpenShut
import Derived.Deep.Slices
import Derived.Deep.Fields
import Derived.ChangeSame
import Derived.Deep.DeepHandedRow
import Derived.Carry
import Derived.LaidSub
import Derived.Test.YtgoeedohgomodaaGreatDoorQk06
import Derived.Lib.ConvBytes
set_option linter.unusedSimpArgs false
set_option linter.unusedVariables false
namespace Go.Proofs.YtgoeedohgomodaaGreatDoor
open Go.RowKit
def zlz (w:World) (es:List Entry) (e:Ending) (w':World):Prop:=∃ v,e=.returned v∧Out w w' v es∧Below w.heap.size w w'
def zo1 (out:List Entry) (pb:Bool):Bool:=!out.isEmpty && !pb
def zyw (l:List Entry) (w:World) (t p i:Value) (wr:World):Prop:=
  ∃ (k:Nat) (out:List Entry) (pb:Bool),k≤l.length∧i=.int .i64 k∧p=.bool pb∧zcO l=zdG out pb (l.drop k)∧out.length≤2 * k∧Out w wr t out∧Below w.heap.size w wr
theorem Blk.leg_at {W:World} {g:Nat} {x:Entry} (h:Blk W g x.arr):Is_leg W g 1 x.leg:=fun j hj=>by rw [h.cell];exact x.leg_sub j hj
theorem zr2 {out:List Entry} {x y:Entry} (hg:x.gap=false) (hl:out.getLast? = some y) (hs:(y.leg.arrivedB x.leg && zfg x.leg.ty)=false) (hj:y.leg.joinsB x.leg=false):joinStep out false x=zbU out false x:=by
  simp only [joinStep,hg,hl,hs,hj];rfl
theorem step_skip {out:List Entry} {x y:Entry} (hg:x.gap=false) (hl:out.getLast? = some y) (hs:(y.leg.arrivedB x.leg && zfg x.leg.ty)=true):joinStep out false x=(out,false):=by
  simp only [joinStep,hg,hl,hs];rfl
theorem zr1 {out:List Entry} {x y:Entry} (hg:x.gap=false) (hl:out.getLast? = some y) (hs:(y.leg.arrivedB x.leg && zfg x.leg.ty)=false) (hj:y.leg.joinsB x.leg=true):joinStep out false x=(out ++ [x],false):=by
  simp only [joinStep,hg,hl,hs,hj];rfl
theorem zuA {out:List Entry} {pb:Bool} {x:Entry} (hg:x.gap=false) (hn:zo1 out pb=false):joinStep out pb x=zbU out pb x:=by
  cases h:out.getLast? with
  | none=>simp [joinStep,hg,h]
  | some y=>
    have hne:out ≠ []:=by rintro rfl;simp at h
    have hp:pb=true:=by simpa [zo1,hne] using hn
    simp [joinStep,hg,h,hp]
theorem zv9 (out:List Entry):(!out.isEmpty)=decide (0 < out.length):=by cases out <;> simp
set_option maxHeartbeats 4000000 in
set_option maxRecDepth 100000 in
theorem zvd (l:List Entry) (A:Option Addr) (c:Nat) (w:World) (hl:l.length≤400000) (hc:l.length≤c) (hE:Ents w A l):
    Calls Tryz.prog 113 #[.slice A l.length c] w (zlz w (zcO l)):=by
  go_enter Tryz.func113,Tryz.ntmps113
  go_wp2
  go_loopw [3,4,13] (fun t p i wr=>zyw l w t p i wr) (fun _ _ i _=>l.length - (intOf i).toNat)
  case atStart=>exact ⟨0,[],false,by omega,rfl,rfl,rfl,by simp,Out.nil _ _,Below.refl _ _⟩
  case round=>
    obtain ⟨k,out,pb,hk,rfl,rfl,hq,ho,hO,hB⟩:=hrel
    have HQ:=Lib.hid hq;clear hq
    by_cases hlt:k < l.length
    · obtain ⟨b,off,hA,hb,he⟩:=hE.get hlt
      subst hA
      have hd:=Lib.hid (List.drop_eq_getElem_cons hlt)
      generalize l[k]=x at he hd
      have e1:zfB wr b (off+k * 20) x:=fun j hj=>by rw [hB.cell (p:=⟨b,_,none⟩) hb];exact he j hj
      have i1:za4 wr b (off+k * 20):=⟨x,e1⟩
      have i2:zbE wr b (off+k * 20)=x:=zaS e1
      clear he e1
      obtain ⟨A1,c1',hv,hc1,hE1,hA1⟩:=hO.form
      subst hv
      go_upto_region 6 with (fail)
      have X0:=Blk.new wr x.arr 69
      have O0:=hO.alloc (.cells x.arr 69)
      have B0:=zaa hB ((Below.refl wr.heap.size wr).alloc (Nat.le_refl _) (.cells x.arr 69))
      generalize wr.alloc _=W0 at X0 O0 B0 ⊢
      generalize wr.heap.size=g at X0 ⊢
      have HJ:=Lib.hid (show zcO l=zdG (joinStep out pb x).1 (joinStep out pb x).2 (l.drop (k+1)) by rw [HQ.out,hd.out];rfl)
      clear HQ hd i1 i2 hE1 hO hB
      have hE0:Ents W0 A1 out:=by
        obtain ⟨_,_,hv,_,h,_⟩:=O0.form
        injection hv with h1
        rw [h1];exact h
      have c1:=X0.cell
      have c2:=X0.lt
      cases hg:x.gap
      · go_upto_region 8 with (fail)
        go_cut [25] (fun sv wx=>sv=.bool (zo1 out pb)∧W0=wx)
        case first=>
          by_cases hout:out=[]
          · have h0:¬ ((0:Int) < ((out.length:Nat):Int)):=by simp [hout]
            have HO:=Lib.hid hout;clear hout
            go_wp2
            all_goals (go_meet;exact ⟨by simp [zo1,HO.out],rfl⟩)
          · have h0:(0:Int) < ((out.length:Nat):Int):=by have:=List.length_pos_iff.2 hout;omega
            have HO:=Lib.hid hout;clear hout
            go_wp2
            all_goals (go_meet;exact ⟨by simp [zo1,HO.out],rfl⟩)
        case rest=>
          obtain ⟨rfl,rfl⟩:=hcut
          go_upto_if 25 with (fail)
          go_cut [3,25] (fun o _ wx=>o=.slice A1 out.length c1'∧joinStep out pb x=zbU out pb x∧Blk wx g x.arr∧Out w wx (.slice A1 out.length c1') out∧Below w.heap.size w wx)
          case first=>
            cases hnb:zo1 out pb
            · go_wp2
              go_meet
              exact ⟨rfl,zuA hg hnb,X0,O0,B0⟩
            · obtain ⟨hne,hpb⟩:out ≠ []∧pb=false:=by simpa [zo1] using hnb
              subst hpb
              have hpos:=List.length_pos_iff.2 hne
              obtain ⟨m,hm⟩:∃ m,m=out.length - 1:=⟨_,rfl⟩
              have hml:m < out.length:=by omega
              obtain ⟨b2,o2,hA2,hb2,he2⟩:=hE0.get hml
              subst hA2
              have hlast:=Lib.hid (show out.getLast? = some out[m] by rw [List.getLast?_eq_getElem?,← hm];exact List.getElem?_eq_getElem hml)
              generalize out[m]=y at he2 hlast
              have hm1:((out.length:Int) - 1).toNat=m:=by omega
              have hm2:(0:Int)≤(out.length:Int) - 1:=by omega
              have hm3:(out.length:Int) - 1 < (out.length:Int):=by omega
              have ey:Is_leg W0 b2 (o2+m * 20+1) y.leg:=fun j hj=>by rw [Nat.add_assoc,he2 _ (by omega)];exact y.leg_sub j hj
              have i1:zaJ W0 b2 (o2+m * 20+1):=⟨_,ey⟩
              have i2:za6 W0 b2 (o2+m * 20+1)=y.leg:=zaz ey
              have HM:=Lib.hid hm;clear hm he2 ey
              go_upto_region 11 with (fail)
              have X1:=X0.alloc (.cells y.leg.arr 64)
              have Y1:=Blk.new W0 y.leg.arr 64
              have O1:=O0.alloc (.cells y.leg.arr 64)
              have B1:=zaa B0 ((Below.refl W0.heap.size W0).alloc (Nat.le_refl _) (.cells y.leg.arr 64))
              generalize W0.alloc _=W1 at X1 Y1 O1 B1 ⊢
              generalize W0.heap.size=g2 at Y1 ⊢
              clear i1 i2 c1 c2 hm1 hm2 hm3
              have j1:zaJ W1 g2 0:=⟨_,Y1.is_leg⟩
              have j2:za6 W1 g2 0=y.leg:=zaz Y1.is_leg
              have j3:zaJ W1 g 1:=⟨_,X1.leg_at⟩
              have j4:za6 W1 g 1=x.leg:=zaz X1.leg_at
              go_cut [51] (fun sv wx=>sv=.bool (y.leg.arrivedB x.leg && zfg x.leg.ty)∧Blk wx g x.arr∧Blk wx g2 y.leg.arr∧Out w wx (.slice (some ⟨b2,o2,none⟩) out.length c1') out∧Below w.heap.size w wx)
              case first=>
                obtain ⟨a1,h1⟩:∃ a,(x.leg.ty == 1)=a:=⟨_,rfl⟩
                obtain ⟨a2,h2⟩:∃ a,(x.leg.ty == 2)=a:=⟨_,rfl⟩
                obtain ⟨a4,h4⟩:∃ a,(x.leg.ty == 4)=a:=⟨_,rfl⟩
                have HS:=Lib.hid (show zfg x.leg.ty=(a1 || a2 || a4) by rw [zfg,h1,h2,h4])
                obtain ⟨aa,ha⟩:∃ a,y.leg.arrivedB x.leg=a:=⟨_,rfl⟩
                have hcall:Calls Tryz.prog 55 #[y.leg.val,x.leg.val] W1 (Ret W1 (.bool aa)):=by rw [← ha];exact zj0 y.leg x.leg W1
                have HA:=Lib.hid ha;clear ha
                cases a1 <;> cases a2 <;> cases a4 <;> cases aa
                all_goals
                  go_wp2_with (go_at_call 55;refine zaj hcall ?_;intro w2 hb2 hc2 hf2 hz2)
                  all_goals (go_meet;exact ⟨by rw [HS.out,HA.out];rfl,X1.step hb2,Y1.step hb2,O1.below hb2,zaa B1 hb2⟩)
              case rest=>
                obtain ⟨rfl,X2,Y2,O2,B2⟩:=hcut
                clear j1 j2 j3 j4
                have j1:zaJ wc g2 0:=⟨_,Y2.is_leg⟩
                have j2:za6 wc g2 0=y.leg:=zaz Y2.is_leg
                have j3:zaJ wc g 1:=⟨_,X2.leg_at⟩
                have j4:za6 wc g 1=x.leg:=zaz X2.leg_at
                cases hsk:(y.leg.arrivedB x.leg && zfg x.leg.ty)
                · have hjn:=zhd y.leg x.leg wc
                  cases hj:y.leg.joinsB x.leg
                  · rw [hj] at hjn
                    have HN:=Lib.hid hjn;clear hjn
                    go_wp2_with (go_at_call 54;refine zaj HN.out ?_;intro w3 hb3 hc3 hf3 hz3)
                    go_meet
                    exact ⟨rfl,zr2 hg hlast.out hsk hj,X2.step hb3,O2.below hb3,zaa B2 hb3⟩
                  · rw [hj] at hjn
                    have HN:=Lib.hid hjn;clear hjn
                    go_upto_region 13 with (go_at_call 54;refine zaj HN.out ?_;intro w3 hb3 hc3 hf3 hz3)
                    have X3:=X2.step hb3
                    have O3:=O2.below hb3
                    have B3:=zaa B2 hb3
                    clear hc3 hf3 j1 j2 j3 j4
                    have k1:za4 w3 g 0:=⟨_,X3.is_ent⟩
                    have k2:zbE w3 g 0=x:=zaS X3.is_ent
                    have hsz:w.heap.size≤w3.heap.size:=B3.size
                    have O4:=O3.alloc (.cells x.arr 69)
                    have B4:=zaa B3 ((Below.refl w3.heap.size w3).alloc (Nat.le_refl _) (.cells x.arr 69))
                    go_wp2_with (at_builtin;refine zaW rfl (.tmp 56) (.tmp 58) rfl O4 rfl [x] w3.heap.size 1 1 rfl rfl (Blk.one w3 x _) (by simp;omega) (by simp;omega) ?_;intro v5 W5 O5 hg5)
                    go_roundw
                    case rel=>exact ⟨k+1,out ++ [x],false,by omega,by go_num,rfl,by rw [HJ.out,zr1 hg hlast.out hsk hj],by simp;omega,O5,below_grown B4 O4 hg5⟩
                    case measure=>simp [intOf];omega
                · go_wp2
                  go_roundw
                  case rel=>exact ⟨k+1,out,false,by omega,by go_num,rfl,by rw [HJ.out,step_skip hg hlast.out hsk],by omega,O2,B2⟩
                  case measure=>simp [intOf];omega
          case rest=>
            obtain ⟨rfl,hst,X1,O1,B1⟩:=hcut
            have HST:=Lib.hid hst
            clear hst X0 O0 B0 c1 c2 hE0
            have k1:za4 wc g 0:=⟨_,X1.is_ent⟩
            have k2:zbE wc g 0=x:=zaS X1.is_ent
            have hcall:=zmX x wc
            obtain ⟨s,hs⟩:∃ s,(zbq x).1=s:=⟨_,rfl⟩
            obtain ⟨okb,hok⟩:∃ o,(zbq x).2=o:=⟨_,rfl⟩
            rw [hs,hok] at hcall
            have HN:=Lib.hid (show zbU out pb x=if okb then ((if out.isEmpty then out else out ++ [gapE]) ++ [s],false) else (out,pb || !out.isEmpty) by rw [zbU,hs,hok])
            have HC:=Lib.hid hcall
            clear hs hok hcall
            go_upto_region 15 with (go_at_call 154;refine zaj HC.out ?_;intro w2 hb2 hc2 hf2 hz2)
            have S2:=Blk.new w2 s.arr 69
            have O2:=(O1.below hb2).alloc (.cells s.arr 69)
            have B2:=zaa (zaa B1 hb2) ((Below.refl w2.heap.size w2).alloc (Nat.le_refl _) (.cells s.arr 69))
            have N2:(Value.slice A1 out.length c1').ownBlock ≠ some w2.heap.size:=fun e=>Nat.lt_irrefl _ ((O1.below hb2).own_lt e)
            generalize w2.alloc _=W2 at S2 O2 B2 ⊢
            generalize w2.heap.size=g9 at S2 N2 ⊢
            clear k1 k2 hb2 hc2 hf2 hz2 X1 O1 B1 HC
            cases okb
            · have HP:=Lib.hid (show zbU out pb x=(out,pb || !out.isEmpty) from HN.out)
              by_cases hout:out=[]
              · have h0:¬ ((0:Int) < ((out.length:Nat):Int)):=by simp [hout]
                have HO:=Lib.hid hout;clear hout
                cases pb
                all_goals
                  go_wp2
                  go_roundw
                  case rel=>exact ⟨k+1,out,_,by omega,by go_num,rfl,by rw [HJ.out,HST.out,HP.out];first | (simp [HO.out];done) | (simp [HO.out];rw [zv9]),by omega,O2,B2⟩
                  case measure=>simp [intOf];omega
              · have h0:(0:Int) < ((out.length:Nat):Int):=by have:=List.length_pos_iff.2 hout;omega
                have HO:=Lib.hid hout;clear hout
                cases pb
                all_goals
                  go_wp2
                  go_roundw
                  case rel=>exact ⟨k+1,out,_,by omega,by go_num,rfl,by rw [HJ.out,HST.out,HP.out];first | (simp [HO.out];done) | (simp [HO.out];rw [zv9]),by omega,O2,B2⟩
                  case measure=>simp [intOf];omega
            · have hlit:(#[.bool true, .int .u8 0, .string ⟨#[]⟩, .string ⟨#[]⟩, .int .u8 0, .bool false, .int .i64 0, .int .i64 0, .int .i64 0, .int .i64 0, .int .i64 0, .int .i64 0, .int .i64 0, .int .i64 0, .int .i64 0, .int .i64 0, .int .i64 0, .int .i64 0, .int .u8 0, .string ⟨#[]⟩]:Array Value)=gapE.arr:=rfl
              by_cases hout:out=[]
              · have h0:¬ ((0:Int) < ((out.length:Nat):Int)):=by simp [hout]
                have HP:=Lib.hid (show zbU out pb x=(out ++ [s],false) by rw [HN.out,hout];rfl)
                have HO:=Lib.hid hout;clear hout
                have k1:za4 W2 g9 0:=⟨_,S2.is_ent⟩
                have k2:zbE W2 g9 0=s:=zaS S2.is_ent
                have hsz:w.heap.size≤W2.heap.size:=B2.size
                have O4:=O2.alloc (.cells s.arr 69)
                have B4:=zaa B2 ((Below.refl W2.heap.size W2).alloc (Nat.le_refl _) (.cells s.arr 69))
                go_wp2_with (at_builtin;refine zaW rfl (.tmp 80) (.tmp 82) rfl O4 rfl [s] W2.heap.size 1 1 rfl rfl (Blk.one W2 s _) (by simp;omega) (by simp;omega) ?_;intro v5 W5 O5 hg5)
                go_roundw
                case rel=>exact ⟨k+1,out ++ [s],false,by omega,by go_num,rfl,by rw [HJ.out,HST.out,HP.out],by simp;omega,O5,below_grown B4 O4 hg5⟩
                case measure=>simp [intOf];omega
              · have h0:(0:Int) < ((out.length:Nat):Int):=by have:=List.length_pos_iff.2 hout;omega
                have HP:=Lib.hid (show zbU out pb x=((out ++ [gapE]) ++ [s],false) by rw [HN.out];simp [hout])
                have HO:=Lib.hid hout;clear hout
                have hsz:w.heap.size≤W2.heap.size:=B2.size
                have O4:=O2.alloc (.cells gapE.arr 69)
                have S4:=S2.alloc (.cells gapE.arr 69)
                have B4:=zaa B2 ((Below.refl W2.heap.size W2).alloc (Nat.le_refl _) (.cells gapE.arr 69))
                go_upto_region 19 with (at_builtin;refine zaW rfl (.tmp 76) (.tmp 78) rfl O4 rfl [gapE] W2.heap.size 1 1 rfl rfl (Blk.one W2 gapE _) (by simp;omega) (by simp;omega) ?_;intro v5 W5 O5 hg5)
                have S5:=S4.grown hg5 N2
                have B5:=below_grown B4 O4 hg5
                clear hg5 O4 S4 B4 hsz
                have k1:za4 W5 g9 0:=⟨_,S5.is_ent⟩
                have k2:zbE W5 g9 0=s:=zaS S5.is_ent
                have hsz:w.heap.size≤W5.heap.size:=B5.size
                have O6:=O5.alloc (.cells s.arr 69)
                have B6:=zaa B5 ((Below.refl W5.heap.size W5).alloc (Nat.le_refl _) (.cells s.arr 69))
                go_wp2_with (at_builtin;refine zaW rfl (.tmp 80) (.tmp 82) rfl O6 rfl [s] W5.heap.size 1 1 rfl rfl (Blk.one W5 s _) (by simp;omega) (by simp;omega) ?_;intro v7 W7 O7 hg7)
                go_roundw
                case rel=>exact ⟨k+1,(out ++ [gapE]) ++ [s],false,by omega,by go_num,rfl,by rw [HJ.out,HST.out,HP.out],by simp;omega,O7,below_grown B6 O6 hg7⟩
                case measure=>simp [intOf];omega
      · go_wp2
        go_roundw
        case rel=>exact ⟨k+1,out,true,by omega,by go_num,rfl,by rw [HJ.out];simp [joinStep,hg],by omega,O0,B0⟩
        case measure=>simp [intOf];omega
    · go_wp2
      go_ret
      exact ⟨_,rfl,by rw [HQ.out,List.drop_of_length_le (by omega)];exact hO,hB⟩
end Go.Proofs.YtgoeedohgomodaaGreatDoor
namespace Go.Proofs.YtgoeedohgomodaaGreatDoor
open Go.RowKit Go.Sort
set_option maxRecDepth 100000
def zx8 (parts:Array (Nat × Value)):Sem Value:=Instr.build 64 parts
theorem zeM (parts:Array (Nat × Value)):Instr.build 64 parts=zx8 parts:=rfl
attribute [local go_sem ↓] zeM
end Go.Proofs.YtgoeedohgomodaaGreatDoor
namespace Go.Proofs.YtgoeedohgomodaaGreatDoor
open Go.RowKit Go.ChangeShapes Go.WideShapes Go.Deep
theorem zvF {H:Type} (d:DataW H):1≤Rows.uptoBulk d:=by
  cases d with
  | lit l=>cases l <;> simp [Rows.uptoBulk]
  | nil=>simp [Rows.uptoBulk]
  | ptr d=>simp [Rows.uptoBulk]
  | slice elems spare=>simp [Rows.uptoBulk]
  | agg parts=>simp [Rows.uptoBulk]
  | iface t d=>simp [Rows.uptoBulk]
  | map entries=>simp [Rows.uptoBulk]
  | held h=>simp [Rows.uptoBulk]
theorem zbG {H:Type} {d:DataW H} {l:List (DataW H)} (h:d ∈ l):Rows.uptoBulk d≤Rows.uptoBulkAll l:=by
  induction l with
  | nil=>cases h
  | cons x r ih=>
    simp only [Rows.uptoBulkAll]
    cases List.mem_cons.1 h with
    | inl e=>subst e;omega
    | inr e=>have:=ih e;omega
theorem zvG {H:Type} (l:List (DataW H)):l.length≤Rows.uptoBulkAll l:=by
  induction l with
  | nil=>simp [Rows.uptoBulkAll]
  | cons x r ih=>have:=zvF x;simp only [Rows.uptoBulkAll,List.length_cons];omega
theorem zxt {α:Type _} {l:List α} (h:l.length=2):∃ x0 x1,l=[x0,x1]:=by
  match l,h with
  | [x0,x1],_=>exact ⟨x0,x1,rfl⟩
theorem zxv {α:Type _} {l:List α} (h:l.length=12):∃ x0 x1 x2 x3 x4 x5 x6 x7 x8 x9 x10 x11,l=[x0,x1,x2,x3,x4,x5,x6,x7,x8,x9,x10,x11]:=by
  match l,h with
  | [x0,x1,x2,x3,x4,x5,x6,x7,x8,x9,x10,x11],_=>exact ⟨x0,x1,x2,x3,x4,x5,x6,x7,x8,x9,x10,x11,rfl⟩
theorem zxu {α:Type _} {l:List α} (h:l.length=13):∃ x0 x1 x2 x3 x4 x5 x6 x7 x8 x9 x10 x11 x12,l=[x0,x1,x2,x3,x4,x5,x6,x7,x8,x9,x10,x11,x12]:=by
  match l,h with
  | [x0,x1,x2,x3,x4,x5,x6,x7,x8,x9,x10,x11,x12],_=>exact ⟨x0,x1,x2,x3,x4,x5,x6,x7,x8,x9,x10,x11,x12,rfl⟩
theorem zcb:Tryz.prog.cellsOf 2=1:=by kernel_rfl
theorem zrs:Tryz.prog.cellsOf 4=1:=by kernel_rfl
theorem zcW:Tryz.prog.cellsOf 9=1:=by kernel_rfl
theorem zqb:Tryz.prog.cellsOf 5=1:=by kernel_rfl
theorem zs9 {α:Type} {P:Nat→α→Prop}:∀ (n:Nat),(∀ i,i < n→∃ x,P i x)→∃ l:List α,l.length=n∧∀ i x,l[i]? = some x→P i x
  | 0,_=>⟨[],rfl,by simp⟩
  | n+1,h=>by
    obtain ⟨l,hl,hp⟩:=zs9 n fun i hi=>h i (by omega)
    obtain ⟨x,hx⟩:=h n (by omega)
    refine ⟨l ++ [x],by simp [hl],fun i y hy=>?_⟩
    rcases Nat.lt_or_ge i l.length with hi | hi
    · rw [List.getElem?_append_left hi] at hy;exact hp i y hy
    · rw [List.getElem?_append_right hi] at hy
      have h0:i - l.length=0:=by
        rcases Nat.eq_zero_or_pos (i - l.length) with h0 | h0
        · exact h0
        · rw [List.getElem?_eq_none (by simp;omega)] at hy;cases hy
      rw [h0] at hy
      simp at hy
      subst hy
      have:i=n:=by omega
      subst this;exact hx
section
variable {H:Type} {enc:TypeId × Value→H} {w:World} {base:Nat} {spare:Nat→Bool} {held:Bool}
theorem fld {n:Nat} {cs:List Value} {fs:Array Field} {xs:List (DataW H × List MemPlace)} (hf:∀ (i:Nat) (f:Field),fs[i]? = some f→DataW.trod enc Tryz.prog w base spare held n f.type ((cs.drop f.offset).take (Tryz.prog.cellsOf f.type))=xs[i]?)
    (i ty off k:Nat) (h:(fs[i]?).map (fun f=>(f.type,f.offset))=some (ty,off)) (hk:Tryz.prog.cellsOf ty=k):DataW.trod enc Tryz.prog w base spare held n ty ((cs.drop off).take k)=xs[i]?:=by
  cases hi:fs[i]? with
  | none=>simp [hi] at h
  | some f=>
    simp [hi] at h
    have:=hf i f hi
    rw [h.1,h.2,hk] at this
    exact this
theorem zg7 {t:TypeId} {fuel:Nat} {cs:List Value} {y:DataW H × List MemPlace} {f0 f1:Field} (hu:Tryz.prog.underlying t=some (.struct #[f0,f1])) (hc:Tryz.prog.cellsOf t=2)
    (h0:f0.type=2∧f0.offset=0) (h1:f1.type=2∧f1.offset=1) (h:DataW.trod enc Tryz.prog w base spare held fuel t cs=some y):∃ a b,cs=[.int .i64 a, .int .i64 b]:=by
  obtain ⟨xs,n,_,hx,hlen,hxl,hf⟩:=DataW.trod_struct hu h
  rw [hc] at hlen
  obtain ⟨a,b,rfl⟩:=zxt hlen
  obtain ⟨y0,y1,rfl⟩:=zxt hxl
  have g0:=hf 0 f0 rfl
  have g1:=hf 1 f1 rfl
  rw [h0.1,h0.2,zcb] at g0
  rw [h1.1,h1.2,zcb] at g1
  obtain ⟨a',e0,_⟩:=DataW.trod_int Tryz.underlying2 g0
  obtain ⟨b',e1,_⟩:=DataW.trod_int Tryz.underlying2 g1
  simp at e0 e1
  exact ⟨a',b',by rw [e0,e1]⟩
theorem zdC {fuel:Nat} {v:Value} {y:DataW H × List MemPlace} (h:DataW.trod enc Tryz.prog w base spare held fuel 9 [v]=some y):∃ s:List UInt8,v=.string ⟨s.toArray⟩∧s.length+1=Rows.uptoBulk y.1:=by
  obtain ⟨s,e,hx,_⟩:=DataW.trod_string Tryz.underlying9 h
  refine ⟨s.data.toList,by simpa using e,?_⟩
  rw [hx];simp [Rows.uptoBulk]
theorem zdY {α:Type} {ts te:TypeId} {n:Nat} (arrOf:α→Array Value) (bnd:α→Nat→Prop) (hmono:∀ x a b,a≤b→bnd x a→bnd x b) (hut:Tryz.prog.underlying ts=some (.slice te)) (hce:Tryz.prog.cellsOf te=n) (hn:0 < n) (hsz:∀ x,(arrOf x).size=n)
    (hopen:∀ {fuel:Nat} {cs:List Value} {y:DataW H × List MemPlace},DataW.trod enc Tryz.prog w base spare held fuel te cs=some y→∃ x,cs=(arrOf x).toList∧bnd x (Rows.uptoBulk y.1))
    {fuel:Nat} {v:Value} {y:DataW H × List MemPlace} (h:DataW.trod enc Tryz.prog w base spare held fuel ts [v]=some y):
    ∃ (l:List α) (A:Option Addr) (c:Nat),v=.slice A l.length c∧l.length≤c∧c≤maxLen∧Items w A n (l.map arrOf)∧l.length≤Rows.uptoBulk y.1∧∀ x ∈ l,bnd x (Rows.uptoBulk y.1):=by
  rcases open_slice hut h with ⟨h0,hx⟩ | ⟨a,len,cap,m,n',D,Pl,hcs,hb,hl,hm,hmm,hx,hi⟩
  · exact ⟨[],none,0,by simpa using h0,by simp,by unfold maxLen;omega,Items.nil _ _ _,by simp,by simp⟩
  · rw [hce] at hi
    have hlm:len≤m:=by rw [hmm];split <;> omega
    obtain ⟨es,hel,hes⟩:=zs9 (P:=fun i (x:α)=>(∀ j,j < n→w.cell? ((a.add (i * n)).add j)=(arrOf x)[j]?)∧bnd x (Rows.uptoBulk (D i))) len (fun i hil=>by
      obtain ⟨cs',hc,ht⟩:=hi i (by omega)
      obtain ⟨x,e,b1⟩:=hopen ht
      obtain ⟨_,hcl,hat⟩:=World.cells?_some hc
      refine ⟨x,fun j hj=>?_,b1⟩
      rw [hat j hj,e];simp)
    have hbk:Rows.uptoBulkAll ((List.range len).map D)+1≤Rows.uptoBulk y.1:=by rw [hx];simp only [Rows.uptoBulk];omega
    have hD:∀ i,i < len→Rows.uptoBulk (D i)≤Rows.uptoBulk y.1:=fun i hil=>by
      have:=zbG (show D i ∈ (List.range len).map D from List.mem_map.2 ⟨i,by simpa using hil,rfl⟩)
      omega
    have hln:=zvG ((List.range len).map D)
    simp only [List.length_map,List.length_range] at hln
    refine ⟨es,some a,cap,by rw [hel];simpa using hcs,by omega,by omega,⟨fun hne=>?_⟩,by omega,fun x hx'=>?_⟩
    · obtain ⟨b,off,spot⟩:=a
      have hne':es ≠ []:=by rintro rfl;exact hne rfl
      have hpos:0 < es.length:=List.length_pos_iff.2 hne'
      have h0:=(hes 0 es[0] (List.getElem?_eq_getElem hpos)).1 0 hn
      have hv:∃ u,(arrOf es[0])[0]? = some u:=⟨_,Array.getElem?_eq_getElem (by rw [hsz];exact hn)⟩
      obtain ⟨u,hv⟩:=hv
      have hsp:spot=none:=by
        cases spot with
        | none=>rfl
        | some q=>
          exfalso
          rw [hv] at h0
          unfold World.cell? Addr.add at h0
          split at h0 <;> simp at h0
      subst hsp
      refine ⟨b,off,rfl,?_,fun i x hx' j hj=>?_⟩
      · rw [hv,addr_add,addr_add] at h0
        exact block_lt_of_cell h0
      · rw [List.getElem?_map] at hx'
        cases hq:es[i]? with
        | none=>rw [hq] at hx';cases hx'
        | some z=>
          rw [hq] at hx'
          obtain rfl:arrOf z=x:=by simpa using hx'
          have:=(hes i z hq).1 j hj
          rw [addr_add,addr_add] at this
          exact this
    · obtain ⟨i,hi',hxi⟩:=List.getElem_of_mem hx'
      have hb:=(hes i x (by rw [← hxi];exact List.getElem?_eq_getElem hi')).2
      exact hmono _ _ _ (hD i (by omega)) hb
end
end Go.Proofs.YtgoeedohgomodaaGreatDoor
namespace Go.Proofs.YtgoeedohgomodaaGreatDoor
open Go.RowKit Go.ChangeShapes Go.WideShapes Go.Deep
theorem cells_lt:Tryz.prog.cellsOf 60=1:=by kernel_rfl
theorem zn6:Tryz.prog.cellsOf 62=2:=by kernel_rfl
theorem zn8:Tryz.prog.cellsOf 64=13:=by kernel_rfl
section
variable {H:Type} {enc:TypeId × Value→H} {w:World} {base:Nat} {spare:Nat→Bool} {held:Bool}
theorem zu2 {fuel:Nat} {cs:List Value} {y:DataW H × List MemPlace} (h:DataW.trod enc Tryz.prog w base spare held fuel 64 cs=some y):∃ l:Leg,cs=l.arr.toList∧l.fix.length≤Rows.uptoBulk y.1∧l.center.length≤Rows.uptoBulk y.1:=by
  obtain ⟨xs,n,_,hx,hlen,hxl,hf⟩:=DataW.trod_struct Tryz.underlying64 h
  rw [zn8] at hlen
  obtain ⟨c0,c1,c2,c3,c4,c5,c6,c7,c8,c9,c10,c11,c12,rfl⟩:=zxu hlen
  obtain ⟨y0,y1,y2,y3,y4,y5,y6,y7,y8,y9,y10,y11,rfl⟩:=zxv hxl
  have g0:=fld hf 0 60 0 1 rfl cells_lt
  have g1:=fld hf 1 9 1 1 rfl zcW
  have g2:=fld hf 2 9 2 1 rfl zcW
  have g3:=fld hf 3 5 3 1 rfl zqb
  have g4:=fld hf 4 4 4 1 rfl zrs
  have g5:=fld hf 5 2 5 1 rfl zcb
  have g6:=fld hf 6 2 6 1 rfl zcb
  have g7:=fld hf 7 2 7 1 rfl zcb
  have g8:=fld hf 8 2 8 1 rfl zcb
  have g9:=fld hf 9 62 9 2 rfl zn6
  have g10:=fld hf 10 2 11 1 rfl zcb
  have g11:=fld hf 11 2 12 1 rfl zcb
  simp only [List.drop_succ_cons,List.drop_zero,List.take_succ_cons,List.take_zero,List.getElem?_cons_succ,List.getElem?_cons_zero] at g0 g1 g2 g3 g4 g5 g6 g7 g8 g9 g10 g11
  obtain ⟨v0,e0,_⟩:=DataW.trod_int Tryz.underlying60 g0
  obtain ⟨v1,e1,b1⟩:=zdC g1
  obtain ⟨v2,e2,b2⟩:=zdC g2
  obtain ⟨v3,e3,_⟩:=DataW.trod_int Tryz.underlying5 g3
  obtain ⟨v4,e4,_⟩:=DataW.trod_bool Tryz.underlying4 g4
  obtain ⟨v5,e5,_⟩:=DataW.trod_int Tryz.underlying2 g5
  obtain ⟨v6,e6,_⟩:=DataW.trod_int Tryz.underlying2 g6
  obtain ⟨v7,e7,_⟩:=DataW.trod_int Tryz.underlying2 g7
  obtain ⟨v8,e8,_⟩:=DataW.trod_int Tryz.underlying2 g8
  obtain ⟨v9,v10,e9⟩:=zg7 Tryz.underlying62 zn6 ⟨rfl,rfl⟩ ⟨rfl,rfl⟩ g9
  obtain ⟨v11,e11,_⟩:=DataW.trod_int Tryz.underlying2 g10
  obtain ⟨v12,e12,_⟩:=DataW.trod_int Tryz.underlying2 g11
  simp only [List.cons.injEq,and_true] at e0 e3 e4 e5 e6 e7 e8 e9 e11 e12
  obtain ⟨e9,e10⟩:=e9
  have hy:Rows.uptoBulk y.1=Rows.uptoBulkAll [y0.1,y1.1,y2.1,y3.1,y4.1,y5.1,y6.1,y7.1,y8.1,y9.1,y10.1,y11.1]+1:=by rw [hx];simp [Rows.uptoBulk]
  have p1:Rows.uptoBulk y1.1≤Rows.uptoBulkAll [y0.1,y1.1,y2.1,y3.1,y4.1,y5.1,y6.1,y7.1,y8.1,y9.1,y10.1,y11.1]:=zbG (by simp)
  have p2:Rows.uptoBulk y2.1≤Rows.uptoBulkAll [y0.1,y1.1,y2.1,y3.1,y4.1,y5.1,y6.1,y7.1,y8.1,y9.1,y10.1,y11.1]:=zbG (by simp)
  refine ⟨⟨v0,v1,v2,v3,v4,v5,v6,v7,v8,v9,v10,v11,v12⟩,?_,?_,?_⟩
  · rw [e0,e1,e2,e3,e4,e5,e6,e7,e8,e9,e10,e11,e12];rfl
  · show v1.length≤_;omega
  · show v2.length≤_;omega
end
section
variable {H:Type} {enc:TypeId × Value→H} {w:World} {base:Nat} {spare:Nat→Bool} {held:Bool}
end
end Go.Proofs.YtgoeedohgomodaaGreatDoor
namespace Go.Proofs.YtgoeedohgomodaaGreatDoor
open Go.RowKit Go.ChangeShapes Go.WideShapes Go.Deep
theorem zh5 {w:World}:∀ {l:List (String × DataW Unit)} {ps:List MemPlace},DataW.LaidVars Tryz.prog w l ps→∀ n d,(n,d) ∈ l →
    ∃ g t cs fuel p,Tryz.prog.globalNamed n=some g∧(Tryz.prog.globals[g]?).map (·.type)=some t∧w.var? Tryz.prog n=some cs∧DataW.trod (fun _=>()) Tryz.prog w 0 (fun _=>true) false fuel t cs.toList=some (d,p)
  | [],_,_,n,d,hm=>by cases hm
  | (n',d') :: r,ps,h,n,d,hm=>by
    obtain ⟨g,t,cs,fuel,p,q,h1,h2,h3,h4,h5,_⟩:=h
    rcases List.mem_cons.1 hm with e | hm
    · injection e with e1 e2
      subst e1;subst e2
      exact ⟨g,t,cs,fuel,p,h1,h2,h3,h4⟩
    · exact zh5 h5 n d hm
theorem zxh {w:World} {l:List (String × DataW Unit)} {ps:List MemPlace} (h:DataW.LaidVars Tryz.prog w l ps) {n:String} {k:IntKind} {zs:List Int} {g:Nat} {t e:TypeId} {m:Nat}
    (hg:Tryz.prog.globalNamed n=some g) (hty:(Tryz.prog.globals[g]?).map (·.type)=some t) (ht:Tryz.prog.underlying t=some (.array m e)) (he:Tryz.prog.underlying e=some (.int k)) (hce:Tryz.prog.cellsOf e=1) (hct:Tryz.prog.cellsOf t=m)
    (hm:(n,Lib.tabData k zs) ∈ l):Lib.TabIs Tryz.prog w n k zs:=by
  obtain ⟨g',t',cs,fuel,p,hg',ht',hvar,hd⟩:=zh5 h n _ hm
  obtain rfl:=Option.some.inj (hg.symm.trans hg')
  obtain rfl:=Option.some.inj (hty.symm.trans ht')
  unfold Lib.TabIs
  rw [hvar,← Lib.cells_of_tab ht he hce hct hd]
theorem zxx:Tryz.prog.globalNamed "flightdeck/leg.uses" = some 0:=by kernel_rfl
section
variable {H:Type} {enc:TypeId × Value→H} {w:World} {base:Nat} {spare:Nat→Bool} {held:Bool}
end
end Go.Proofs.YtgoeedohgomodaaGreatDoor
namespace Go.Proofs.YtgoeedohgomodaaGreatDoor
open Go.RowKit Go.ChangeShapes Go.WideShapes Go.Deep
section
variable {H:Type} {enc:TypeId × Value→H} {w:World} {base:Nat} {spare:Nat→Bool} {held:Bool}
set_option maxRecDepth 100000 in
theorem zsO {r:Reach} {b0:Nat} {v:Value} {d:DataW H} {ps:List MemPlace} (hv:Value.okWide Tryz.prog w r b0 9 v) (h:DataW.Trod enc Tryz.prog w base spare held 9 v d ps):∃ s:List UInt8,v=.string ⟨s.toArray⟩∧s.length≤Rows.uptoBulk d:=by
  obtain ⟨s,rfl,rfl,rfl,_⟩:=Go.ChangeMaps.open_string Tryz.underlying9 hv h
  exact ⟨s.data.toList,by simp,by simp [Rows.uptoBulk]⟩
end
end Go.Proofs.YtgoeedohgomodaaGreatDoor
