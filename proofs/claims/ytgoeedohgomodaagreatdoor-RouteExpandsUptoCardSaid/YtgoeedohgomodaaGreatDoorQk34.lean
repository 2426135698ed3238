/- Lemmas and walks. -/
import Derived.Test.YtgoeedohgomodaaGreatDoorQk32
import Derived.Test.YtgoeedohgomodaaGreatDoorQk33
import Derived.Test.YtgoeedohgomodaaGreatDoorQk18
import Derived.Test.YtgoeedohgomodaaGreatDoorQk09
import Derived.Lib.AppendZeros
import Derived.Test.YtgoeedohgomodaaGreatDoorQk16
import Derived.Test.YtgoeedohgomodaaGreatDoorQk28
import Derived.Test.YtgoeedohgomodaaGreatDoorQk11
import Derived.Test.YtgoeedohgomodaaGreatDoorQk29
import Derived.BigQuiet
set_option linter.unusedSimpArgs false
set_option linter.unusedVariables false
namespace Go.Proofs.YtgoeedohgomodaaGreatDoor
open Go.RowKit Go.Sort
set_option maxRecDepth 100000
theorem zvm (n:Nat) (w:World) (hn:n≤1000000):Calls Tryz.prog 155 #[.slice none 0 0, .int .i64 n] w fun e w'=>∃ v,e=.returned v∧Out w w' v []∧Below w.heap.size w w':=by
  have h1:¬ ((n:Int) < 0):=by omega
  by_cases h0:n=0
  · subst h0
    go_enter Tryz.func155,Tryz.ntmps155
    go_wp2
    go_ret
    exact ⟨_,rfl,Out.nil _ _,Below.refl _ _⟩
  have h2:(0:Int) < (n:Int):=by omega
  have hp:0 < n:=by omega
  obtain ⟨i0,hi,hz0,hz1,hz2⟩:=info_parts zdc
  have happ:=Lib.run_append_nil_zeros (P:=Tryz.prog) w 41 3 41 69 i0 _ .i64 .i64 Tryz.underlying41 Tryz.underlying3 hi hz0 n hp (by omega) (by omega) (by rw [hz2];omega)
  have hcapge:=grownCap_ge w n 0 69
  have hcaple:=grownCap_le_maxLen w n 0 69 (by unfold maxLen;omega)
  generalize grownCap w n 0 69=cap at *
  go_enter Tryz.func155,Tryz.ntmps155
  go_wp2_with (at_builtin;refine Lib.wpList_append_run _ rfl _ _ _ _ rfl _ _ rfl rfl _ _ happ ?_)
  go_ret
  refine ⟨_,rfl,⟨rfl, .inr ⟨w.heap.size,cap,_,rfl,Nat.le_refl _,heap_alloc_new w _,Nat.zero_le _,hcaple,?_,by simp [cellsOf]⟩⟩,(zac w _).drew⟩
  have hz:zeroE.arr.size=20:=rfl
  rw [Array.size_append,size_zeroCells,size_zeroCells,hz]
  omega
theorem zp2 {w W:World} {v:Value} {es:List Entry} (h:GOut w.heap.size W 69 20 v (es.map Entry.arr)):Out w W v es:=by
  have e:cellsIn (es.map Entry.arr)=cellsOf es:=by unfold cellsIn cellsOf;rw [List.flatMap_map]
  unfold GOut at h
  rw [e,List.length_map] at h
  exact h
theorem zuZ {w W:World} {v:Value} {es:List Entry} (h:Out w W v es):GOut w.heap.size W 69 20 v (es.map Entry.arr):=by
  have e:cellsIn (es.map Entry.arr)=cellsOf es:=by unfold cellsIn cellsOf;rw [List.flatMap_map]
  unfold GOut
  rw [e,List.length_map]
  exact h
theorem zfN {w:World} {A:Option Addr} {es:List Entry} (h:Ents w A es):Items w A 20 (es.map Entry.arr) where
  at_ hne:=by
    obtain ⟨b,off,e,hb,hc⟩:=h.at_ (by rintro rfl;exact hne rfl)
    refine ⟨b,off,e,hb,fun i x hx j hj=>?_⟩
    rw [List.getElem?_map] at hx
    cases hq:es[i]? with
    | none=>rw [hq] at hx;cases hx
    | some y=>rw [hq] at hx;simp at hx;rw [← hx];exact hc i y hq j hj
theorem znZ (l:List Entry):∀ y ∈ l.map Entry.arr,y.size=20:=fun y hy=>by
  obtain ⟨s,_,rfl⟩:=List.mem_map.1 hy
  rfl
theorem zp8 (l:List Entry):∀ y ∈ l.map Entry.arr,y.toList.all (·.oneCell')=true:=fun y hy=>by
  obtain ⟨s,_,rfl⟩:=List.mem_map.1 hy
  exact s.arr_oneL
def zxB (a b k:Nat):Nat:=if k=0 then 0 else if k=1 then a else a+b
set_option maxHeartbeats 2000000 in
theorem zro (l1 l2:List Entry) (A1 A2:Option Addr) (c1 c2 q:Nat) (w:World) (hq:Blk w q #[.slice A1 l1.length c1, .slice A2 l2.length c2]) (h1:Ents w A1 l1) (h2:Ents w A2 l2) (hn1:l1.length≤400000) (hn2:l2.length≤400000):
    Calls Tryz.prog 114 #[.slice (some ⟨q,0,none⟩) 2 2] w (zlz w (l1 ++ l2)):=by
  have HQ:=Lib.hid (fun (W:World) (B:Below w.heap.size w W)=>hq.below B hq.lt)
  have HI1:=Lib.hid (zfN h1)
  have HI2:=Lib.hid (zfN h2)
  clear hq h1 h2
  go_enter Tryz.func114,Tryz.ntmps114
  go_wp2
  go_loopw [11,3] (fun iv sv wr=>∃ k:Nat,k≤2∧iv=.int .i64 k∧sv=.int .i64 (zxB l1.length l2.length k)∧∃ n,wr=w.drewN n) (fun iv _ _=>2 - (intOf iv).toNat)
  case atStart=>exact ⟨0,by omega,rfl,rfl,0,rfl⟩
  case round=>
    obtain ⟨k,hk,rfl,rfl,n,rfl⟩:=hrel
    have X:=HQ.out (w.drewN n) (below_drewN (Below.refl _ _) n)
    have e0:(w.drewN n).cell? ⟨q,0,none⟩=some (.slice A1 l1.length c1):=X.cell 0
    have e1:(w.drewN n).cell? ⟨q,1,none⟩=some (.slice A2 l2.length c2):=X.cell 1
    clear X
    match k,hk with
    | 0,_=>
      rw [show zxB l1.length l2.length 0=0 from rfl]
      have hs:¬ (l1.length:Int) < 0:=by omega
      go_wp2
      go_roundw
      case rel=>exact ⟨1,by omega,rfl,rfl,n,rfl⟩
      case measure=>simp [intOf]
    | 1,_=>
      rw [show zxB l1.length l2.length 1=l1.length from rfl]
      have hs:¬ (l1.length:Int)+(l2.length:Int) < 0:=by omega
      go_wp2
      go_roundw
      case rel=>exact ⟨2,by omega,rfl,by simp [zxB],n,rfl⟩
      case measure=>simp [intOf]
    | 2,_=>
      rw [show zxB l1.length l2.length 2=l1.length+l2.length from rfl]
      have KG:=Lib.hid (zvm (l1.length+l2.length) (w.drewN n) (by omega))
      have D0:=below_drewN (Below.refl w.heap.size w) n
      clear e0 e1
      go_upto_region 10 with (go_at_call 155;refine KG.out.mono ?_;rintro e w3 ⟨v3,rfl,O3,b3⟩)
      have D3:=zaa D0 b3
      have O3:Out w w3 v3 []:=O3
      have G3:=zuZ O3
      clear O3 KG b3 D0
      go_wp2
      go_loopw [27,6] (fun iv v wr=>∃ k:Nat,k≤2∧iv=.int .i64 k∧GOut w.heap.size wr 69 20 v ((if k=0 then [] else if k=1 then l1 else l1 ++ l2).map Entry.arr)∧Below w.heap.size w wr) (fun iv _ _=>2 - (intOf iv).toNat)
      case atStart=>exact ⟨0,by omega,rfl,G3,D3⟩
      case round=>
        obtain ⟨k,hk,rfl,G,D⟩:=hrel
        have X:=HQ.out wr D
        have e0:wr.cell? ⟨q,0,none⟩=some (.slice A1 l1.length c1):=X.cell 0
        have e1:wr.cell? ⟨q,1,none⟩=some (.slice A2 l2.length c2):=X.cell 1
        have I1:=HI1.out.below D
        have I2:=HI2.out.below D
        clear X G3 D3
        match k,hk with
        | 0,_=>
          have G:GOut w.heap.size wr 69 20 u6 (([]:List Entry).map Entry.arr):=G
          go_wp2_with (at_builtin;refine zav rfl (.tmp 31) (.tmp 32) _ 69 20 176 _ zdc rfl (by omega) Tryz.underlying41 rfl G rfl (l1.map Entry.arr) A1 l1.length c1 (by simp) rfl I1 (znZ l1) (zp8 l1) (by simp;unfold maxLen;omega) (by simp;omega) D.size ?_;intro v5 W5 O5 g5 _)
          go_roundw
          case rel=>exact ⟨1,by omega,rfl,O5,G.below_grown g5 D (Nat.le_refl _) D.size⟩
          case measure=>simp [intOf]
        | 1,_=>
          have G:GOut w.heap.size wr 69 20 u6 (l1.map Entry.arr):=G
          go_wp2_with (at_builtin;refine zav rfl (.tmp 31) (.tmp 32) _ 69 20 176 _ zdc rfl (by omega) Tryz.underlying41 rfl G rfl (l2.map Entry.arr) A2 l2.length c2 (by simp) rfl I2 (znZ l2) (zp8 l2) (by simp;unfold maxLen;omega) (by simp;omega) D.size ?_;intro v5 W5 O5 g5 _)
          go_roundw
          case rel=>exact ⟨2,by omega,rfl,by rw [if_neg (by omega),if_neg (by omega),List.map_append];exact O5,G.below_grown g5 D (Nat.le_refl _) D.size⟩
          case measure=>simp [intOf]
        | 2,_=>
          have G:GOut w.heap.size wr 69 20 u6 ((l1 ++ l2).map Entry.arr):=G
          go_wp2
          go_ret
          exact ⟨_,rfl,zp2 G,D⟩
end Go.Proofs.YtgoeedohgomodaaGreatDoor
namespace Go.Proofs.YtgoeedohgomodaaGreatDoor
open Go.RowKit Go.Sort
set_option maxRecDepth 100000
def zef (cs:Array Value) (iv lv:Value):Array Value:=cs ++ #[iv,lv]
structure Bu (w W:World) (g:Nat) (cs:Array Value) (iv:Value) (L:Option Addr) (c:Nat) (es:List Entry):Prop where
  blk:Blk W g (zef cs iv (.slice L es.length c))
  sz:cs.size=9
  ents:Ents W L es
  far:∀ a,L=some a→a.block ≠ g
  cap:es.length≤c
  bel:Below w.heap.size w W
  ge:w.heap.size≤g
theorem Bu.step {w W W':World} {g:Nat} {cs:Array Value} {iv:Value} {L:Option Addr} {c:Nat} {es:List Entry} (h:Bu w W g cs iv L c es) (b:Below W.heap.size W W'):Bu w W' g cs iv L c es:=
  ⟨h.blk.step b,h.sz,h.ents.below (B:=0) b,h.far,h.cap,zaa h.bel b,h.ge⟩
theorem Bu.lt {w W:World} {g:Nat} {cs:Array Value} {iv:Value} {L:Option Addr} {c:Nat} {es:List Entry} (h:Bu w W g cs iv L c es):g < W.heap.size:=h.blk.lt
theorem Bu.db {w W:World} {g:Nat} {cs:Array Value} {iv:Value} {L:Option Addr} {c:Nat} {es:List Entry} (h:Bu w W g cs iv L c es):Is_db W g 0 cs:=⟨h.sz,fun j hj=>by
  rw [Nat.zero_add,h.blk.cell,zef,Array.getElem?_append,if_pos (by rw [h.sz];exact hj)]⟩
theorem Bu.c9 {w W:World} {g:Nat} {cs:Array Value} {iv:Value} {L:Option Addr} {c:Nat} {es:List Entry} (h:Bu w W g cs iv L c es):W.cell? ⟨g,9,none⟩=some iv:=by
  rw [h.blk.cell,zef,Array.getElem?_append,if_neg (by rw [h.sz];omega),h.sz];rfl
theorem Bu.c10 {w W:World} {g:Nat} {cs:Array Value} {iv:Value} {L:Option Addr} {c:Nat} {es:List Entry} (h:Bu w W g cs iv L c es):W.cell? ⟨g,10,none⟩=some (.slice L es.length c):=by
  rw [h.blk.cell,zef,Array.getElem?_append,if_neg (by rw [h.sz];omega),h.sz];rfl
structure OnlyB (g:Nat) (W W':World):Prop where
  os:W'.os=W.os
  tape:W'.tape=W.tape
  output:W'.output=W.output
  size:W.heap.size≤W'.heap.size
  block:∀ k,k < W.heap.size→k ≠ g→W'.heap[k]? = W.heap[k]?
theorem OnlyB.of {g:Nat} {W W':World} (b:Below W.heap.size W W'):OnlyB g W W':=⟨b.os,b.tape,b.output,b.size,fun k hk _=>b.block k hk⟩
theorem OnlyB.refl (g:Nat) (W:World):OnlyB g W W:=OnlyB.of (Below.refl _ _)
theorem OnlyB.trans {g:Nat} {a b c:World} (h:OnlyB g a b) (k:OnlyB g b c):OnlyB g a c:=
  ⟨k.os.trans h.os,k.tape.trans h.tape,k.output.trans h.output,Nat.le_trans h.size k.size,fun i hi hg=>(k.block i (Nat.lt_of_lt_of_le hi h.size) hg).trans (h.block i hi hg)⟩
theorem OnlyB.setCell (g j:Nat) (W:World) (v:Value):OnlyB g W (W.setCell ⟨g,j,none⟩ v):=
  ⟨rfl,rfl,rfl,by simp [World.setCell],fun k _ hk=>Below.heap_setCell _ _ _ _ hk⟩
theorem OnlyB.below {g:Nat} {w W W':World} (h:OnlyB g W W') (b:Below w.heap.size w W) (hg:w.heap.size≤g):Below w.heap.size w W':=
  ⟨h.os.trans b.os,h.tape.trans b.tape,h.output.trans b.output,Nat.le_trans b.size h.size,fun k hk=>(h.block k (Nat.lt_of_lt_of_le hk b.size) (by omega)).trans (b.block k hk)⟩
theorem Ents.only {g:Nat} {W W':World} {L:Option Addr} {es:List Entry} (h:Ents W L es) (o:OnlyB g W W') (hf:∀ a,L=some a→a.block ≠ g):Ents W' L es where
  at_ hne:=by
    obtain ⟨b,off,rfl,hb,hc⟩:=h.at_ hne
    have hbg:=hf _ rfl
    refine ⟨b,off,rfl,Nat.lt_of_lt_of_le hb o.size,fun i x hx j hj=>?_⟩
    rw [← hc i x hx j hj]
    exact World.cell?_of_block (o.block b hb hbg)
def RetBu (w W:World) (g:Nat) (cs:Array Value) (iv:Value) (r:List Entry × Int) (e:Ending) (W':World):Prop:=
  ∃ L c,e=.returned (.int .i64 r.2)∧Bu w W' g cs iv L c r.1∧OnlyB g W W'
theorem zch {P:Program} {f:FuncId} {args:Array Value} {w W:World} {g:Nat} {cs:Array Value} {iv:Value} {r:List Entry × Int} {K:Ending→World→Prop} (h:Calls P f args W (RetBu w W g cs iv r))
    (k:∀ L c W',Bu w W' g cs iv L c r.1→OnlyB g W W'→K (.returned (.int .i64 r.2)) W'):Calls P f args W K:=
  h.mono fun e W' ⟨L,c,he,h1,h2⟩=>by subst he;exact k L c W' h1 h2
def zw6 (pt:List UInt8→(Int × Int) × Int) (l:List Entry) (legs:List Leg) (s:Int) (via:List UInt8):List Entry × Int:=
  if (zbL pt legs s via).2 ≠ 0 then (l,(zbL pt legs s via).2) else (zcO (l ++ (zbL pt legs s via).1),0)
theorem zrc:(Tryz.prog.info? 41).map (fun i=>(i.zero,i.size,i.bytes))=some (some (.slice none 0 0),1,24):=by kernel_rfl
def zyo (parts:Array (Nat × Value)):Sem Value:=Instr.buildSlice 203 2 parts
theorem ztU (parts:Array (Nat × Value)):Instr.buildSlice 203 2 parts=zyo parts:=rfl
theorem zuM (w:World) (A B:Option Addr) (n m a b:Nat):(zyo #[(0, .slice A n a),(1, .slice B m b)]).run Tryz.prog w=.ok (.slice (some ⟨w.heap.size,0,none⟩) 2 2) (w.alloc (.cells #[.slice A n a, .slice B m b] 41)):=by
  obtain ⟨i0,hi,hz0,hz1,hz2⟩:=info_parts zrc
  refine run_buildSlice w 203 41 2 #[(0, .slice A n a),(1, .slice B m b)] #[.slice A n a, .slice B m b] i0 _ Tryz.underlying203 hi hz0 (by rw [hz1];decide) (by rw [hz1];decide) ?_
  rw [hz1]
  kernel_rfl
end Go.Proofs.YtgoeedohgomodaaGreatDoor
namespace Go.Proofs.YtgoeedohgomodaaGreatDoor
open Go.RowKit Go.Sort
set_option maxRecDepth 100000
attribute [local go_sem] zuM
attribute [local go_sem ↓] ztU
theorem zlt (pt:List UInt8→(Int × Int) × Int) (legs:List Leg) (sec:Int) (via:List UInt8):(zbL pt legs sec via).1.length≤legs.length:=by
  by_cases h:(zbL pt legs sec via).2=0
  · unfold zbL at h ⊢
    repeat' split
    all_goals simp_all
  · rw [zod h];simp
theorem ztO {P:Program} {f:FuncId} {args:Array Value} {W:World} {r:List Entry × Int} {K:Ending→World→Prop} (h:Calls P f args W (RetBd W r))
    (k:∀ A c w',r.1.length≤c→Ents w' A r.1→Below W.heap.size W w'→K (.returned (.tuple #[.slice A r.1.length c, .int .i64 r.2])) w'):Calls P f args W K:=
  h.mono fun e w' ⟨A,c,he,h1,h2,h3⟩=>by subst he;exact k A c w' h1 h2 h3
theorem zmG {P:Program} {f:FuncId} {args:Array Value} {W:World} {es:List Entry} {K:Ending→World→Prop} (h:Calls P f args W (zlz W es))
    (k:∀ A c w',es.length≤c→Ents w' A es→(∀ a,A=some a→W.heap.size≤a.block)→Below W.heap.size W w'→K (.returned (.slice A es.length c)) w'):Calls P f args W K:=
  h.mono fun e w' ⟨v,he,hO,hB⟩=>by
    subst he
    obtain ⟨A,c,rfl,h1,h2,h3⟩:=hO.form
    exact k A c w' h1 h2 h3 hB
theorem zob (cs:Array Value) (iv lv v:Value) (h:cs.size=9):(zef cs iv lv).setIfInBounds 10 v=zef cs iv v:=by
  unfold zef
  refine Array.ext_getElem? fun i=>?_
  rw [Array.getElem?_setIfInBounds]
  by_cases h1:10=i
  · subst h1;simp [h]
  · rw [if_neg h1,Array.getElem?_append,Array.getElem?_append]
    by_cases h2:i < cs.size
    · simp [h2]
    · rw [if_neg h2,if_neg h2]
      obtain ⟨j,rfl⟩:∃ j,i=9+j:=⟨i - 9,by omega⟩
      rw [h,Nat.add_sub_cancel_left]
      match j with
      | 0=>rfl
      | 1=>omega
      | j+2=>rfl
set_option maxHeartbeats 4000000 in
theorem zvK (d:DBs) (l:List FixV) (es:List Entry) (L:Option Addr) (c g:Nat) (iv:Value) (legs:List Leg) (A:Option Addr) (ca:Nat) (sec:Int) (via:List UInt8) (w W:World)
    (hB:Bu w W g d.cells iv L c es) (hL:Laid W) (hD:DbAt W d l) (hI:Items W A 13 (legs.map Leg.arr)) (hlc:legs.length≤ca) (hn:legs.length≤100000) (hs:∀ x ∈ legs,x.small) (hv:via.length≤4000000000) (he:es.length≤300000):
    Calls Tryz.prog 70 #[.pointer (some ⟨g,0,none⟩), .slice A legs.length ca, .int .u8 sec, .string ⟨via.toArray⟩] W (RetBu w W g d.cells iv (zw6 (zcK d.lat d.lon l) es legs sec via)):=by
  have KB:=Lib.hid (fun W' (b:Below W.heap.size W W')=>zvJ d l legs A ca sec via W' (hL.below b) (hD.below b) (hI.below b) hlc (Nat.le_trans hn (by omega)) hs hv)
  generalize zcK d.lat d.lon l=pt at *
  have hbl:=zlt pt legs sec via
  have HO:=Lib.hid (show zw6 pt es legs sec via=if (zbL pt legs sec via).2 ≠ 0 then (es,(zbL pt legs sec via).2) else (zcO (es ++ (zbL pt legs sec via).1),0) from rfl)
  generalize zw6 pt es legs sec via=OUT at *
  generalize zbL pt legs sec via=r at *
  obtain ⟨r1,r2⟩:=r
  simp only at hbl
  generalize d.cells=cs at *
  clear hI hs hD
  have i1:za7 W g 0:=⟨_,hB.db⟩
  have i2:zbQ W g 0=cs:=zaL hB.db
  have HB:=Lib.hid hB
  clear hB
  go_enter Tryz.func70,Tryz.ntmps70
  go_upto_region 2 with (go_at_call 112;refine ztO (KB.out _ (Below.refl _ _)) ?_;intro A3 c3 w3 h3 E3 b3)
  clear i1 i2 KB
  have B3:=HB.out.step b3
  have P3:=OnlyB.of (g:=g) b3
  clear HB b3
  by_cases h0:r2=0
  · subst h0
    have HE:=Lib.hid (show OUT=(zcO (es ++ r1),0) from HO.out.trans (if_neg (by simp)))
    clear HO
    have e10:=B3.c10
    have f10:=B3.blk.frozen 10
    have hel:=B3.cap
    have HB:=Lib.hid B3
    have D4:=zac w3 (.cells #[.slice L es.length c, .slice A3 r1.length c3] 41)
    have KC:=Lib.hid (zro es r1 L A3 c c3 w3.heap.size (w3.alloc (.cells #[.slice L es.length c, .slice A3 r1.length c3] 41)) (Blk.new w3 _ _) (HB.out.ents.below (B:=0) D4) (E3.below (B:=0) D4) (by omega) (by omega))
    clear B3
    go_upto_region 4 with (fail)
    have KJ:=Lib.hid (fun A5 c5 w5 (h5:(es ++ r1).length≤c5) (E5:Ents w5 A5 (es ++ r1))=>show Calls Tryz.prog 113 #[.slice A5 (es.length+r1.length) c5] w5 (zlz w5 (zcO (es ++ r1))) from by
      rw [← List.length_append];exact zvd (es ++ r1) A5 c5 w5 (by simp;omega) h5 E5)
    have HFR:=Lib.hid (fun w6 (b:Below w3.heap.size w3 w6)=>show w6.frozen? ⟨g,10,none⟩=false∧w6.cell? ⟨g,10,none⟩=some (.slice L es.length c) from ⟨(HB.out.blk.step b).frozen 10,(HB.out.step b).c10⟩)
    go_wp2_with (first
      | (go_at_call 114;(with_reducible refine zmG KC.out ?_);intro A5 c5 w5 h5 E5 _ b5)
      | (go_at_call 113;(with_reducible refine zmG (KJ.out A5 c5 w5 h5 E5) ?_);intro A6 c6 w6 h6 E6 g6 b6;obtain ⟨f6,e6⟩:=HFR.out w6 (zaa (zaa D4 b5) b6)))
    go_ret
    have X6:=(HB.out.step (zaa (zaa D4 b5) b6))
    have hg6:∀ a,A6=some a→a.block ≠ g:=fun a ha=>by
      have h1:=g6 a ha
      have h2:=HB.out.lt
      have h3:=b5.size
      simp at h3
      omega
    have O6:=OnlyB.setCell g 10 w6 (.slice A6 (zcO (es ++ r1)).length c6)
    refine ⟨A6,c6,by rw [HE.out];rfl,?_,P3.trans ((OnlyB.of (zaa (zaa D4 b5) b6)).trans O6)⟩
    rw [HE.out]
    refine ⟨?_,X6.sz,E6.only O6 hg6,hg6,h6,O6.below X6.bel X6.ge,X6.ge⟩
    have:=X6.blk.setCell 10 (.slice A6 (zcO (es ++ r1)).length c6)
    rwa [zob _ _ _ _ X6.sz] at this
  · have HE:=Lib.hid (show OUT=(es,r2) from HO.out.trans (if_pos h0))
    have h1:(r2 != 0)=true:=by simpa using h0
    have HB:=Lib.hid B3
    clear HO h0 B3
    go_wp2
    go_ret
    exact ⟨L,c,by rw [HE.out];rfl,by rw [HE.out];exact HB.out,P3⟩
end Go.Proofs.YtgoeedohgomodaaGreatDoor
namespace Go.Proofs.YtgoeedohgomodaaGreatDoor
open Go.RowKit Go.Sort
set_option maxRecDepth 100000
attribute [local go_sem ↓] zeM zfy
attribute [local go_sem] zi5 zgS
theorem zfk (w:World):Calls Tryz.prog 72 #[] w (Ret w (.agg (Win.arr ⟨-200000,6000000⟩))):=by
  go_enter Tryz.func72,Tryz.ntmps72
  go_wp2
  exact bodyPost_ret (zbM Tryz.results72 _ _ w.heap.size (Win.arr ⟨-200000,6000000⟩) 2 _ rfl rfl (Blk.new _ _ _).cell Tryz.underlying62 rfl zfL) rfl ⟨rfl,zac _ _⟩
def zol (t:Int) (f:List UInt8) (a b:Int):Leg:=⟨t,f,[],0,false,0,0,0,0,a,b,0,0⟩
def zx2 (w:World) (x:Leg) (e:Ending) (w':World):Prop:=∃ A,e=.returned (.slice A 1 1)∧Items w' A 13 ([x].map Leg.arr)∧Below w.heap.size w w'
theorem zlo {P:Program} {f:FuncId} {args:Array Value} {W:World} {x:Leg} {K:Ending→World→Prop} (h:Calls P f args W (zx2 W x))
    (k:∀ A w',Items w' A 13 ([x].map Leg.arr)→Below W.heap.size W w'→K (.returned (.slice A 1 1)) w'):Calls P f args W K:=
  h.mono fun e w' ⟨A,he,h1,h2⟩=>by subst he;exact k A w' h1 h2
theorem zhn (t:Int) (f:List UInt8) (a b:Int) (w:World):Calls Tryz.prog 71 #[.int .u8 t, .string ⟨f.toArray⟩, .agg (Win.arr ⟨a,b⟩)] w (zx2 w (zol t f a b)):=by
  go_enter Tryz.func71,Tryz.ntmps71
  go_wp2
  go_ret
  refine ⟨_,rfl,Blk.legItems (x:=zol t f a b) ?_,zaa (zac _ _) (zac _ _)⟩
  have:=Blk.new (w.alloc (.cells (Win.arr ⟨a,b⟩) 62)) (zol t f a b).arr 64
  rwa [World.size_alloc] at this
def zec (es:List Entry):List UInt8 × Bool:=match es.getLast? with | none=>([],false) | some y=>(y.leg.fix,zdq y.leg.ty)
theorem zmO (W:World) (b o:Nat):zaJ W.drew b o=zaJ W b o:=propext ⟨fun h=>h,fun h=>h⟩
theorem znK (W:World) (b o:Nat):za6 W.drew b o=za6 W b o:=rfl
theorem zbv (W:World) (g:Nat):Plain W.drew g=Plain W g:=propext ⟨fun h=>h,fun h=>h⟩
theorem zbu (W:World) (g:Nat):zbN W.drew g=zbN W g:=by unfold zbN;rfl
theorem zfS (W:World) (cs:Array Value) (t:TypeId):Plain (W.alloc (.cells cs t)) W.heap.size=True:=eq_true (Blk.new W cs t).plain
theorem zfR (W:World) (cs:Array Value) (t:TypeId):zbN (W.alloc (.cells cs t)) W.heap.size=cs:=(Blk.new W cs t).of
attribute [local go_sem] zmO znK zbv zbu zfS zfR
set_option maxHeartbeats 2000000 in
theorem zrK (es:List Entry) (L:Option Addr) (c g:Nat) (cs:Array Value) (iv:Value) (w W:World) (h:Bu w W g cs iv L c es) (he:es.length≤1000000):
    Calls Tryz.prog 119 #[.pointer (some ⟨g,0,none⟩)] W (Ret W (.tuple #[.string ⟨(zec es).1.toArray⟩, .bool (zec es).2])):=by
  have e10:=h.c10
  by_cases h0:es=[]
  · have HS:zec es=([],false):=by rw [h0];rfl
    rw [HS]
    have h1:es.length=0:=by rw [h0];rfl
    rw [h1] at e10
    clear h0 HS h1 h
    go_enter Tryz.func119,Tryz.ntmps119
    go_wp2
    go_ret2
    exact ⟨rfl,Below.refl _ _⟩
  · have hp:0 < es.length:=List.length_pos_iff.2 h0
    obtain ⟨b,off,hL,hb,hc⟩:=h.ents.get (k:=es.length - 1) (by omega)
    have hlast:es.getLast? = some es[es.length - 1]:=by rw [List.getLast?_eq_getElem?,List.getElem?_eq_getElem (by omega)]
    have HS:=Lib.hid (show zec es=(es[es.length - 1].leg.fix,zdq es[es.length - 1].leg.ty) by unfold zec;rw [hlast])
    have hcap:=h.cap
    have hgl:=h.lt
    generalize es[es.length - 1]=y at *
    have HI:Is_leg W b (off+(es.length - 1) * 20+1) y.leg:=fun j hj=>by
      rw [Nat.add_assoc,hc (1+j) (by omega)]
      exact y.leg_sub j hj
    subst hL
    obtain ⟨n,hn⟩:∃ n,n=es.length - 1:=⟨_,rfl⟩
    have hl:es.length=n+1:=by omega
    rw [hl] at e10 hcap hp he
    rw [← hn] at HI
    clear hc h0 hlast hn hl h
    have hcast:(((n+1:Nat):Int) - 1).toNat=n:=by omega
    have i1:zaJ W b (off+n * 20+1):=⟨_,HI⟩
    have i2:za6 W b (off+n * 20+1)=y.leg:=zaz HI
    generalize zec es=out at *
    obtain ⟨o1,o2⟩:=out
    have hwr:IntKind.i64.wrap (n:Int)=(n:Int):=by rw [IntKind.wrap_i64];omega
    have hlt1:(n:Int) < (n:Int)+1:=by omega
    have hlc1:n < c:=by omega
    go_enter Tryz.func119,Tryz.ntmps119
    go_upto_region 3 with (fail)
    go_region
    generalize hw4:World.setRow _ _ _=w4
    have Z:Blk w4 W.heap.size y.leg.arr:=by
      rw [← hw4]
      exact ((Blk.new W _ _).step (Below.refl _ _).drew).set _
    have B3:Below W.heap.size W w4:=by
      rw [← hw4]
      exact zab (zac W _).drew (Nat.le_refl _) _
    clear hw4 i1 i2 e10
    have HB3:=Lib.hid B3
    clear B3
    generalize W.heap.size=q at Z ⊢
    have z0:w4.cell? ⟨q,0,none⟩=some (.int .u8 y.leg.ty):=Z.cell 0
    have z1:w4.cell? ⟨q,1,none⟩=some (.string ⟨y.leg.fix.toArray⟩):=Z.cell 1
    go_upto_region 4 with (fail)
    go_quiet ((go_at_call 47;exact zv7 (Calls.mono (ziy _ _) fun _ _ h=>RetP.quiet h)))
    go_wp2
    go_ret2
    exact ⟨by injection HS.out with a1 a2;rw [a1,a2];rfl,below_drewN HB3.out _⟩
end Go.Proofs.YtgoeedohgomodaaGreatDoor
