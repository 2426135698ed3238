/- Lemmas and walks. -/
import Derived.Test.YtgoeedohgomodaaGreatDoorQk41
import Derived.Test.YtgoeedohgomodaaGreatDoorQk45
import Derived.Test.YtgoeedohgomodaaGreatDoorQk48
import Derived.Test.YtgoeedohgomodaaGreatDoorQk32
import Derived.Test.YtgoeedohgomodaaGreatDoorQk10
import Derived.Deep.RegionHeld3
import Derived.Test.YtgoeedohgomodaaGreatDoorQk14
import Derived.Test.YtgoeedohgomodaaGreatDoorQk20
import Derived.Test.YtgoeedohgomodaaGreatDoorQk34
import Derived.Test.YtgoeedohgomodaaGreatDoorQk37
import Derived.Test.YtgoeedohgomodaaGreatDoorQk11
import Derived.Test.YtgoeedohgomodaaGreatDoorQk35
set_option linter.unusedSimpArgs false
set_option linter.unusedVariables false
namespace Go.Proofs.YtgoeedohgomodaaGreatDoor
open Go.RowKit Go.Sort
theorem ztr {R:zbS} {items:List ItemV} {ws:List (List UInt8)} {f i:Nat} {l:List Entry} (hi:i < items.length) (he:(zah R items (ws.getD i []) i l).2.2 ≠ 0):
    za2 R items ws (f+1) i l=zah R items (ws.getD i []) i l:=by
  conv=>lhs;unfold za2
  rw [if_pos hi,if_pos he]
theorem zwe {R:zbS} {items:List ItemV} {ws:List (List UInt8)} {f i:Nat} {l:List Entry} (hi:i < items.length) (he:(zah R items (ws.getD i []) i l).2.2=0):
    za2 R items ws (f+1) i l=za2 R items ws f ((zah R items (ws.getD i []) i l).2.1.toNat+1) (zah R items (ws.getD i []) i l).1:=by
  conv=>lhs;unfold za2
  rw [if_pos hi,if_neg (not_not_intro he)]
theorem zts {R:zbS} {items:List ItemV} {ws:List (List UInt8)}:∀ {f i:Nat} {l:List Entry},items.length≤i→za2 R items ws f i l=(l,(0,0))
  | 0,_,_,_=>rfl
  | f+1,i,l,h=>by
    conv=>lhs;unfold za2
    rw [if_neg (by omega)]
structure zut (xs:List ItemV) (i:Nat):Prop where
  lo:1≤(xs.getD i noItem).kind
  hi:(xs.getD i noItem).kind≤8
  k1:(xs.getD i noItem).kind=1→1 < xs.length
  k3:(xs.getD i noItem).kind=3→i+1 < xs.length
  k8:(xs.getD i noItem).kind=8→1≤i
theorem zjH {s:List UInt8} {x:ItemV} (h:zc5 s=some x):2≤x.kind∧x.kind≤7:=by
  unfold zc5 at h
  split at h
  · split at h
    · cases h
    · rename_i h1
      injection h with h
      subst h
      have h2:zbk (s.getD 0 0) ≠ 0:=fun q=>h1 (.inl q)
      show 2≤zbk (s.getD 0 0)∧zbk (s.getD 0 0)≤7
      revert h2
      unfold zbk
      split
      · intro _;omega
      · split
        · intro _;omega
        · split
          · intro _;omega
          · intro h;exact absurd rfl h
  · split at h
    · injection h with h;subst h;exact ⟨by dsimp only;omega,by dsimp only;omega⟩
    · split at h
      · injection h with h;subst h;exact ⟨by dsimp only;omega,by dsimp only;omega⟩
      · split at h
        · injection h with h;subst h;exact ⟨by dsimp only;omega,by dsimp only;omega⟩
        · cases h
theorem zth {ws:List (List UInt8)} {xs:List ItemV} (h:zhI ws xs) (h1:ws.length ≠ 1) {i:Nat} (hi:i < xs.length):zut xs i:=by
  have hw:i < ws.length:=h.1 ▸ hi
  have a:=(h.2 i hw hi).1
  have e:xs.getD i noItem=xs[i]:=by rw [List.getD_eq_getElem?_getD,List.getElem?_eq_getElem hi];rfl
  have hl:=h.1
  generalize xs[i]=x at a e
  unfold zd0 at a
  split at a
  · rename_i hc
    split at a
    · injection a with a
      have hk:x.kind=if i=0 then 1 else 8:=by rw [← a]
      refine ⟨?_,?_,?_,?_,?_⟩
      all_goals rw [e,hk]
      · split <;> omega
      · split <;> omega
      · intro _;omega
      · intro q;split at q <;> omega
      · intro q;split at q <;> omega
    · cases a
  · rename_i hc
    have hk:=zjH a
    refine ⟨?_,?_,?_,?_,?_⟩
    all_goals rw [e]
    · exact Int.le_trans (by decide) hk.1
    · exact Int.le_trans hk.2 (by decide)
    · intro q;omega
    · intro _;omega
    · intro q;omega
theorem ztQ {w:World} {d:DBs} {G:GDB} {iA:Option Addr} {ic:Nat} {xs:List ItemV} (hS:RS w d G iA ic xs) (es:List Entry) (L:Option Addr) (c g:Nat) (W:World) (h:Bu w W g d.cells (.slice iA xs.length ic) L c es) (hE:LOk 247000 es) (i:Nat) (hi:i < xs.length) (hn:xs.length≤124) (word:List UInt8) (hw:word.length≤4000000000)
    (hk:zut xs i) (hne:1≤i→es ≠ []):
    Calls Tryz.prog 41 #[.pointer (some ⟨g,0,none⟩), .int .i64 i, .string ⟨word.toArray⟩] W (RetSt w W g d.cells (.slice iA xs.length ic) (zah (zai G) xs word i es)):=by
  have he:es.length≤250000:=Nat.le_trans hE.len (by omega)
  have:=hk.lo
  have:=hk.hi
  have hc:(xs.getD i noItem).kind=1∨(xs.getD i noItem).kind=2∨(xs.getD i noItem).kind=3∨(xs.getD i noItem).kind=4∨(xs.getD i noItem).kind=5∨(xs.getD i noItem).kind=6∨(xs.getD i noItem).kind=7∨(xs.getD i noItem).kind=8:=by omega
  rcases hc with k | k | k | k | k | k | k | k
  · exact zrD hS es L c g W h he i hi hn word hw k (hk.k1 k)
  · exact zrC hS es L c g W h he i hi hn word hw k
  · exact zrB hS es L c g W h he i hi hn word hw k (hk.k3 k)
  · exact zrA hS es L c g W h he i hi hn word hw k
  · exact zrz hS es L c g W h he i hi hn word hw k
  · exact zry hS es L c g W h he i hi hn word hw k
  · exact zrx hS es L c g W h he i hi hn word hw k
  · exact zrw hS es L c g W h he i hi hn word hw k hE (hne (hk.k8 k)) (hk.k8 k)
theorem zrZ {G:GDB} (hG:G.short) (hN:∀ a ∈ G.airways,a.small) {ws:List (List UInt8)} {xs:List ItemV} (h:zhI ws xs) (h1:ws.length ≠ 1) (hs:∀ x ∈ xs,x.short) {i:Nat} (hi:i < xs.length) {es:List Entry} (hE:LOk (2000 * i) es) (hne:1≤i→es ≠ []) (word:List UInt8)
    (he:(zah (zai G) xs word i es).2.2=0) (h0:i=0→es=[]):
    ∃ j,i≤j∧(zah (zai G) xs word i es).2.1=((j:Nat):Int)∧j < xs.length∧LOk (2000 * (j+1)) (zah (zai G) xs word i es).1∧(zah (zai G) xs word i es).1 ≠ []:=by
  have g:=zkM (R:=zai G) hE.chain xs word i
  have hk:=zpD hG hN hE hs word i
  have hne2:(zah (zai G) xs word i es).1 ≠ []:=by
    by_cases h0':i=0
    · have k1:=zpW h (show 0 < xs.length by omega)
      have hs0:zah (zai G) xs word i es=atI i (zcM (zai G) es (xs.getD 1 noItem) word):=by
        unfold zah
        rw [h0',if_pos k1]
      rw [hs0,zw4]
      rw [hs0] at he
      rw [h0 h0'] at he ⊢
      obtain ⟨_,s,via,e⟩:=zl5 (R:=zai G) (x:=xs.getD 1 noItem) (w:=word) he
      rw [e]
      exact List.cons_ne_nil _ _
    · obtain ⟨_,n,e⟩:=g
      rw [e]
      intro q
      exact hne (by omega) (List.append_eq_nil_iff.1 q).1
  rcases zr0 (zai G) xs word i es he with e | ⟨e,k⟩
  · exact ⟨i,Nat.le_refl _,e,hi,hk.mono (by omega),hne2⟩
  · have hlt:i+1 < xs.length:=by
      rcases Nat.lt_or_ge (i+1) xs.length with q | q
      · exact q
      · have:xs.getD (i+1) noItem=noItem:=by rw [List.getD_eq_getElem?_getD,List.getElem?_eq_none q];rfl
        rw [this] at k
        rcases k with k | k <;> exact absurd k (by decide)
    exact ⟨i+1,by omega,by rw [e];rfl,hlt,hk.mono (by omega),hne2⟩
end Go.Proofs.YtgoeedohgomodaaGreatDoor
namespace Go.Proofs.YtgoeedohgomodaaGreatDoor
open Go.RowKit Go.Sort
set_option maxRecDepth 100000
def RetEx (w:World) (r:(Plan × Int) × Int) (e:Ending) (w':World):Prop:=
  ∃ A c,e=.returned (.tuple #[.agg (r.1.1.arr A c), .int .i64 r.1.2, .int .i64 r.2])∧r.1.1.es.length≤c∧Ents w' A r.1.1.es∧Below w.heap.size w w'
theorem ztN {P:Program} {f:FuncId} {args:Array Value} {W:World} {r:(Plan × Int) × Int} {K:Ending→World→Prop} (h:Calls P f args W (RetEx W r))
    (k:∀ A c w',r.1.1.es.length≤c→Ents w' A r.1.1.es→Below W.heap.size W w'→K (.returned (.tuple #[.agg (r.1.1.arr A c), .int .i64 r.1.2, .int .i64 r.2])) w'):Calls P f args W K:=
  h.mono fun e w' ⟨A,c,he,h1,h2,h3⟩=>by subst he;exact k A c w' h1 h2 h3
def ztW (parts:Array (Nat × Value)):Sem Value:=Instr.build 43 parts
theorem zjX (parts:Array (Nat × Value)):Instr.build 43 parts=ztW parts:=rfl
theorem zi4 (w:World):(ztW #[]).run Tryz.prog w=.ok (.agg (plan0.arr none 0)) w:=run_build w _ _ _ (by kernel_rfl)
theorem zi3 (w:World) (a b:List UInt8) (n:Int) (es:List Entry) (A:Option Addr) (c:Nat):(ztW #[(0, .string ⟨a.toArray⟩),(1, .string ⟨b.toArray⟩),(2, .slice A es.length c),(3, .int .i64 n)]).run Tryz.prog w=.ok (.agg ((⟨a,b,es,n⟩:Plan).arr A c)) w:=run_build w _ _ _ (by kernel_rfl)
def zyu (parts:Array (Nat × Value)):Sem Value:=Instr.build 90 parts
theorem zt7 (parts:Array (Nat × Value)):Instr.build 90 parts=zyu parts:=rfl
theorem zwa {l:List Value} (h:l.length=9):∃ a b c d e f g h' i,l=[a,b,c,d,e,f,g,h',i]:=by
  match l,h with
  | [a,b,c,d,e,f,g,h',i],_=>exact ⟨a,b,c,d,e,f,g,h',i,rfl⟩
theorem zuQ (w:World) (cs:Array Value) (h:cs.size=9) (A:Option Addr) (n c:Nat):(zyu #[(0, .agg cs),(1, .slice A n c)]).run Tryz.prog w=.ok (.agg (zef cs (.slice A n c) (.slice none 0 0))) w:=by
  obtain ⟨l⟩:=cs
  obtain ⟨x0,x1,x2,x3,x4,x5,x6,x7,x8,rfl⟩:=zwa (l:=l) h
  exact run_build w _ _ _ (by kernel_rfl)
theorem ze8 (W:World) (g o:Nat) (v:Array Value) (hv:zdg v 4) (h1:zdQ v) (hp:Plain W g) (hn:Fits o 4 (zbN W g)):
    (zhl (.pointer (some ⟨g,o,none⟩)) (.agg v)).run Tryz.prog W=.ok () (W.setRow g (splice (zbN W g) o v)):=zaX W g o 4 _ v zcE hv h1 hp hn
theorem zhL (p q:Plan) (A B:Option Addr) (c d:Nat):splice (p.arr A c) 0 (q.arr B d)=q.arr B d:=rfl
theorem zlD (p:Plan) (A:Option Addr) (c o n:Nat):Fits o n (p.arr A c)=(o+n≤4):=propext ⟨fun h=>h,fun h=>h⟩
theorem Ents.setRow4R {w:World} {A:Option Addr} {es:List Entry} {g:Nat} {cs:Array Value} (h:Ents w A es) (hb:Blk w g cs) (hs:cs.size=4) (cs':Array Value):Ents (w.setRow g cs') A es:=by
  refine ⟨fun hne=>?_⟩
  obtain ⟨b,o,h1,h2,h3⟩:=h.at_ hne
  have hbg:b ≠ g:=by
    rintro rfl
    obtain ⟨x,t,rfl⟩:=List.exists_cons_of_ne_nil hne
    have:=h3 0 x rfl 19 (by omega)
    rw [hb.cell,Array.getElem?_eq_none (by omega)] at this
    simp [Entry.arr] at this
  refine ⟨b,o,h1,by simpa [World.setRow] using h2,fun i x hx j hj=>?_⟩
  rw [World.cell?_of_block (w:=w) (setRow_other w g b cs' hbg)]
  exact h3 i x hx j hj
attribute [local go_sem ↓] zjX zt7
attribute [local go_sem] zi4 zi3 zuQ ze8 zhL zlD zbv zbu zfS zfR zbV
theorem zop {n i:Nat} {s:List UInt8} {x:ItemV} (h:zd0 n i s=some x) (hs:s.length≤8000000):x.short:=by
  unfold zd0 at h
  split at h
  · split at h
    · injection h with h
      subst h
      have:=zcF 47 s
      exact ⟨by show (cutAt 47 s).1.length≤_;omega,by show (cutAt 47 s).2.1.length≤_;omega⟩
    · cases h
  · unfold zc5 at h
    split at h
    · split at h
      · cases h
      · injection h with h
        subst h
        have:=zcF 46 (s.drop 2)
        rw [List.length_drop] at this
        exact ⟨by show (cutAt 46 (s.drop 2)).1.length≤_;omega,by show (cutAt 46 (s.drop 2)).2.1.length≤_;omega⟩
    · split at h
      · injection h with h;subst h;exact ⟨by decide,by decide⟩
      · split at h
        · injection h with h;subst h;exact ⟨hs,by simp⟩
        · split at h
          · injection h with h;subst h;exact ⟨hs,by simp⟩
          · cases h
theorem zh8 (ws:List (List UInt8)):∀ (l:List (List UInt8)) (i:Nat) (out:List ItemV),(zaC ws l i out).2 ≠ 0→(zaC ws l i out).1.1=[]
  | [],i,out,h=>absurd rfl h
  | w :: r,i,out,h=>by
    unfold zaC at h ⊢
    split
    · rfl
    · rename_i x hx
      rw [hx] at h
      dsimp only at h
      split
      · rfl
      · rename_i hm
        rw [if_neg hm] at h
        exact zh8 ws r _ _ h
theorem zja {s:List UInt8} (h:(zag s).2 ≠ 0):(zag s).1.1=[]:=by
  unfold zag at h ⊢
  split
  · rfl
  · rename_i h1
    rw [if_neg h1] at h
    split
    · rename_i h2
      exact zh8 _ _ _ _ h2
    · rename_i h2
      rw [if_neg h2] at h
      split
      · rfl
      · rename_i h3
        rw [if_neg h3] at h
        exact absurd h h2
theorem zgm {s:List UInt8} (hs:s.length≤4000000):∀ x ∈ (zag s).1.1,x.short:=by
  intro x hx
  by_cases h:(zag s).2=0
  · obtain ⟨ok,_,_,hw⟩:=zg6 h
    obtain ⟨i,hi,rfl⟩:=List.mem_iff_getElem.1 hx
    have hi':i < (zap 32 s).length:=ok.1 ▸ hi
    have a:=(ok.2 i hi' hi).1
    have hl:=zcZ 32 s _ (List.getElem_mem hi')
    have:=zkL a
    exact zop a (by omega)
  · have:(zag s).1.1=[]:=zja h
    rw [this] at hx
    cases hx
def zdE (ws:List (List UInt8)) (es:List Entry):Plan:=⟨ws.headD [],ws.getLastD [],es, -1⟩
theorem znX (R:zbS) (s:List UInt8):zbR R s=if (zag s).2 ≠ 0 then ((plan0,(zag s).1.2),(zag s).2) else
    if (za2 R (zag s).1.1 (zap 32 s) (zag s).1.1.length 0 []).2.2 ≠ 0 then ((plan0,(za2 R (zag s).1.1 (zap 32 s) (zag s).1.1.length 0 []).2.1),(za2 R (zag s).1.1 (zap 32 s) (zag s).1.1.length 0 []).2.2) else
    if zaq (zdE (zap 32 s) (za2 R (zag s).1.1 (zap 32 s) (zag s).1.1.length 0 []).1) ≠ 0 then
      ((plan0,((zap 32 s).length:Int)),zaq (zdE (zap 32 s) (za2 R (zag s).1.1 (zap 32 s) (zag s).1.1.length 0 []).1))
    else ((zdE (zap 32 s) (za2 R (zag s).1.1 (zap 32 s) (zag s).1.1.length 0 []).1,0),0):=rfl
theorem RetEx.err {w w':World} {r:(Plan × Int) × Int} {i n:Int} (h:r=((plan0,i),n)) (b:Below w.heap.size w w'):RetEx w r (.returned (.tuple #[.agg (plan0.arr none 0), .int .i64 i, .int .i64 n])) w':=by
  subst h
  exact ⟨none,0,rfl,Nat.le_refl _,Ents.nil _ _,b⟩
set_option maxHeartbeats 16000000 in
theorem zjg (d:DBs) (G:GDB) (s:List UInt8) (hs:s.length≤4000000) (w:World) (hL:Laid w) (hD:GdAt w d G) (hG:G.short):
    Calls Tryz.prog 17 #[.agg d.cells, .string ⟨s.toArray⟩] w (RetEx w (zbR (zai G) s)):=by
  have HO:=Lib.hid (znX (zai G) s)
  have KP:=Lib.hid (fun W' (b:Below w.heap.size w W')=>zeA s (by omega) W' (hL.below b))
  have HSH:=Lib.hid (zgm hs)
  have HPO:=Lib.hid (fun h=>@zg6 s h)
  have HWL:=Lib.hid (fun x hx=>Nat.le_trans (zcZ 32 s x hx) hs)
  have HWN:=Lib.hid (List.length_pos_iff.2 (zey 32 s))
  have KS:=Lib.hid (fun W' (b:Below w.heap.size w W')=>zkQ 32 s W' (hL.below b) (by omega))
  have HD:=Lib.hid hD
  have HGS:=Lib.hid hG
  have HLW:=Lib.hid (fun W' (b:Below w.heap.size w W')=>hL.below b)
  have h9:=hD.db.ok.size
  generalize zbR (zai G) s=OUT at *
  generalize zap 32 s=ws at *
  generalize zag s=pr at *
  obtain ⟨⟨xs,pi⟩,pe⟩:=pr
  dsimp only at HO HSH HPO
  clear hL hD hG
  go_enter Tryz.func17,Tryz.ntmps17
  go_upto_region 1 with (fail)
  obtain ⟨D0,R0,B0⟩:=zvI w d.cells (plan0.arr none 0) 37 43
  generalize hW:World.alloc (World.alloc w _) _=W
  have hW':(w.alloc (.cells d.cells 37)).alloc (.cells (plan0.arr none 0) 43)=W:=hW
  rw [hW'] at D0 R0 B0
  clear hW hW'
  obtain ⟨gr,hgr⟩:∃ g,g=w.heap.size+1:=⟨_,rfl⟩
  rw [← hgr] at R0 ⊢
  have hge:w.heap.size≤gr:=by omega
  clear hgr
  obtain ⟨gd,hgd⟩:∃ g,g=w.heap.size:=⟨_,rfl⟩
  rw [← hgd] at D0 ⊢
  clear hgd
  have kp:=Lib.hid (KP.out W B0)
  by_cases hz:pe=0
  rotate_left
  · have hz':(pe != 0)=true:=by simpa using hz
    have HE:=Lib.hid (HO.out.trans (if_pos hz))
    have HR:=Lib.hid R0
    have HB:=Lib.hid B0
    clear HO hz R0 D0 B0
    go_wp2_with (go_at_call 11;(with_reducible refine zen kp.out ?_);intro A1 c1 w1 hc1 I1 g1 b1;have R1:=HR.out.step b1;have d2:=R1.plain;have d3:=R1.of)
    exact bodyPost_ret (zbW Tryz.results17 _ _ gr (plan0.arr none 0) 4 _ rfl rfl (R1.set _).cell Tryz.underlying43 rfl zcE) rfl (RetEx.err HE.out (zab (zaa HB.out b1) hge _))
  subst hz
  have HO2:=Lib.hid (HO.out.trans (if_neg (not_not_intro rfl)))
  clear HO
  obtain ⟨ok,h124,hw1,hwt⟩:=HPO.out rfl
  have hlen:=ok.1
  have HOK:=Lib.hid ok
  have HW1:=Lib.hid hw1
  have hx124:xs.length≤124:=by omega
  have HLN:=Lib.hid hlen
  clear ok hwt hw1 HPO hlen
  go_upto_region 4 with (go_at_call 11;(with_reducible refine zen kp.out ?_);intro A1 c1 w1 hc1 I1 g1 b1)
  have D1:=D0.step b1
  have R1:=R0.step b1
  have B1:=Lib.hid (zaa B0 b1)
  clear D0 R0 B0 kp b1 KP g1
  have ks:=Lib.hid (KS.out w1 B1.out)
  clear KS
  go_upto_region 5 with (refine ks.out.mono ?_;rintro e w2 ⟨rfl,hw2⟩;replace hw2:=Lib.hid hw2)
  replace hw2:=hw2.out
  have b2:Below w1.heap.size w1 w2:=by rw [hw2];exact zac _ _
  have hs2:w1.heap.size < w2.heap.size:=by rw [hw2];simp
  have S2:∀ k x,ws[k]? = some x→w2.cell? ⟨w1.heap.size,k,none⟩=some (.string ⟨x.toArray⟩):=fun k x hx=>by
    rw [hw2,cell_of_row _ _ k _ _ (0,0) (heap_alloc_new w1 _)]
    unfold ziK
    rw [List.getElem?_toArray,List.getElem?_map,hx]
    rfl
  have D2:=D1.step b2
  have R2:=R1.step b2
  have B2:=Lib.hid (zaa B1.out b2)
  have I2:=I1.below b2
  clear hw2 D1 R1 I1 b2 ks
  obtain ⟨sb,hsb⟩:∃ b,b=w1.heap.size:=⟨_,rfl⟩
  rw [← hsb] at hs2 S2 ⊢
  clear hsb B1
  have k1:za7 w2 gd 0:=⟨_,D2.is_db h9⟩
  have k2:zbQ w2 gd 0=d.cells:=zaL (D2.is_db h9)
  have HRS:=Lib.hid (show RS w2 d G A1 c1 xs from ⟨HLW.out w2 B2.out,HD.out.below B2.out,HGS.out,I2,hc1,HSH.out⟩)
  go_upto_region 6 with (fail)
  have X3:Bu w2 (w2.alloc (.cells (zef d.cells (.slice A1 xs.length c1) (.slice none 0 0)) 90)) w2.heap.size d.cells (.slice A1 xs.length c1) none 0 []:=
    ⟨Blk.new _ _ _,h9,Ents.nil _ _,(fun _ h=>by cases h),Nat.le_refl _,zac _ _,Nat.le_refl _⟩
  have D3:=zac w2 (.cells (zef d.cells (.slice A1 xs.length c1) (.slice none 0 0)) 90)
  have HS2:=Lib.hid (fun W' (b:Below w2.heap.size w2 W') k x (hx:ws[k]? = some x)=>show W'.cell? ⟨sb,k,none⟩=some (.string ⟨x.toArray⟩) from by rw [b.cell (p:=⟨sb,k,none⟩) hs2];exact S2 k x hx)
  have HR2:=Lib.hid (fun W' (b:Below w2.heap.size w2 W')=>R2.step b)
  have hgr2:=R2.lt
  clear k1 k2 D2 I2 S2 hc1 R2
  generalize hw3:World.alloc w2 _=w3
  have hw3':w2.alloc (.cells (zef d.cells (.slice A1 xs.length c1) (.slice none 0 0)) 90)=w3:=hw3
  rw [hw3'] at X3 D3
  clear hw3 hw3'
  obtain ⟨g,hg⟩:∃ g,g=w2.heap.size:=⟨_,rfl⟩
  rw [← hg] at X3 ⊢
  have HG:=Lib.hid hg
  clear hg
  have HX3:=Lib.hid X3
  have HB3:=Lib.hid (zaa B2.out D3)
  have HD3:=Lib.hid D3
  clear X3 D3
  go_upto_region 7 with (fail)
  go_loopw [9,12] (fun ev iv wr=>∃ (i:Nat) (es:List Entry) (L:Option Addr) (c f:Nat),ev=.int .i64 0∧iv=.int .i64 i∧i≤xs.length∧xs.length≤i+f∧za2 (zai G) xs ws xs.length 0 []=za2 (zai G) xs ws f i es∧LOk (2000 * i) es∧(1≤i→es ≠ [])∧(i=0→es=[])∧Bu w2 wr g d.cells (.slice A1 xs.length c1) L c es∧OnlyB g w3 wr) (fun _ iv _=>xs.length - (intOf iv).toNat)
  case atStart=>exact ⟨0,[],none,0,xs.length,rfl,rfl,Nat.zero_le _,by omega,rfl,LOk.nil,(fun h=>absurd h (by omega)),(fun _=>rfl),HX3.out,OnlyB.refl _ _⟩
  case round=>
    obtain ⟨i,es,L,c,f,rfl,rfl,hi,hf,hgo,hE,hne,h0,X,O⟩:=hrel
    have HGO:=Lib.hid hgo
    have HE:=Lib.hid hE
    have HNE:=Lib.hid hne
    have HZ0:=Lib.hid h0
    have HX:=Lib.hid X
    have HO:=Lib.hid O
    clear hgo hE hne h0 X O
    by_cases hlt:i < xs.length
    · have hlt':(i:Int) < (xs.length:Int):=by omega
      have hiw:i < ws.length:=by have:=HLN.out;omega
      obtain ⟨x,hx⟩:∃ x,ws[i]? = some x:=⟨_,List.getElem?_eq_getElem hiw⟩
      have hxg:ws.getD i []=x:=by rw [List.getD_eq_getElem?_getD,hx];rfl
      have hxl:=HWL.out x (List.mem_of_getElem? hx)
      have hcx:=HS2.out wr HX.out.bel i x hx
      have kst:=Lib.hid (ztQ HRS.out es L c g wr HX.out (HE.out.mono (by omega)) i hlt hx124 x (by omega) (zth HOK.out HW1.out hlt) HNE.out)
      obtain ⟨f',rfl⟩:∃ f',f=f'+1:=⟨f - 1,by omega⟩
      have HER:=Lib.hid (fun he=>HGO.out.trans (ztr (R:=zai G) (ws:=ws) (f:=f') (l:=es) hlt he))
      have HOKS:=Lib.hid (fun he=>HGO.out.trans (zwe (R:=zai G) (ws:=ws) (f:=f') (l:=es) hlt he))
      rw [hxg] at HER HOKS
      have HON:=Lib.hid (fun he=>zrZ HGS.out HD.out.airS HOK.out HW1.out HSH.out hlt HE.out HNE.out x he HZ0.out)
      clear hx hxg
      generalize zah (zai G) xs x i es=r at *
      obtain ⟨rl,rj,re⟩:=r
      dsimp only at HER HOKS HON kst
      by_cases hz:re=0
      · subst hz
        obtain ⟨j,hj1,rfl,hj2,hj3,hj4⟩:=HON.out rfl
        have HGN:=Lib.hid (HOKS.out rfl)
        have HJ3:=Lib.hid hj3
        have HJ4:=Lib.hid hj4
        have hj5:j≤124:=by omega
        clear HER HOKS HON hj3 hj4
        go_wp2_with (go_at_call 41;(with_reducible refine zwh kst.out ?_);intro w5 O5 h5;obtain ⟨L5,c5,B5⟩:=h5 rfl)
        go_roundw
        case rel=>exact ⟨j+1,rl,L5,c5,f',rfl,by go_num,by omega,by omega,by rw [HGN.out,Int.toNat_natCast],HJ3.out,(fun _=>HJ4.out),(fun h=>absurd h (by omega)),B5,HO.out.trans O5⟩
        case measure=>simp [intOf];omega
      · have hz':(re != 0)=true:=by simpa using hz
        have HGE:=Lib.hid (HER.out hz)
        have HOE:=Lib.hid (show OUT=((plan0,rj),re) by rw [HO2.out,HGE.out,if_pos hz])
        clear HER HOKS HON hz
        go_wp2_with (go_at_call 41;(with_reducible refine zwh kst.out ?_);intro w5 O5 _;have b5:=(HO.out.trans O5).below HD3.out (by have:=HG.out;omega);have R5:=HR2.out _ b5;have d2:=R5.plain;have d3:=R5.of)
        exact bodyPost_ret (zbW Tryz.results17 _ _ gr (plan0.arr none 0) 4 _ rfl rfl (R5.set _).cell Tryz.underlying43 rfl zcE) rfl (RetEx.err HOE.out (zab (zaa B2.out b5) hge _))
    · obtain rfl:i=xs.length:=by omega
      have hlt':¬ (xs.length:Int) < (xs.length:Int):=by omega
      have HGN:=Lib.hid (show za2 (zai G) xs ws xs.length 0 []=(es,(0,0)) from HGO.out.trans (zts (Nat.le_refl _)))
      have HO3:=Lib.hid (show OUT=if zaq (zdE ws es) ≠ 0 then ((plan0,(ws.length:Int)),zaq (zdE ws es)) else ((zdE ws es,0),0) by rw [HO2.out,HGN.out];exact if_neg (not_not_intro rfl))
      have b4:Below w2.heap.size w2 wr:=HX.out.bel
      obtain ⟨n,hn⟩:∃ n,ws.length=n+1:=⟨ws.length - 1,by have:=HWN.out;omega⟩
      have hwh:ws[0]? = some (ws.headD []):=by rw [zmx,List.getElem?_eq_getElem (by omega)];rfl
      have hwl:ws[n]? = some (ws.getLastD []):=by rw [zgw,show ws.length - 1=n by omega,List.getElem?_eq_getElem (by omega)];rfl
      have IS:=Lib.hid (fun W' (D:Below wr.heap.size wr W')=>show W'.cell? ⟨sb,0,none⟩=some (.string ⟨(ws.headD []).toArray⟩)∧W'.cell? ⟨sb,n,none⟩=some (.string ⟨(ws.getLastD []).toArray⟩)∧W'.cell? ⟨g,10,none⟩=some (.slice L es.length c) from
        ⟨HS2.out W' (zaa b4 D) 0 _ hwh,HS2.out W' (zaa b4 D) n _ hwl,(HX.out.step D).c10⟩)
      have hsm:(zdE ws es).small:=⟨Nat.le_trans (HWL.out _ (List.mem_of_getElem? hwh)) (by omega),Nat.le_trans (HWL.out _ (List.mem_of_getElem? hwl)) (by omega),Nat.le_trans HE.out.len (by omega),HE.out.small⟩
      have HP:=Lib.hid (show zdE ws es=⟨ws.headD [],ws.getLastD [],es, -1⟩ from rfl)
      have HPE:=Lib.hid (show (zdE ws es).es=es from rfl)
      have HO4:=Lib.hid (show OUT=if zaq (zdE ws es) ≠ 0 then ((plan0,(n:Int)+1),zaq (zdE ws es)) else ((zdE ws es,0),0) by rw [HO3.out,hn];rfl)
      have hcap:(zdE ws es).es.length≤c:=HX.out.cap
      have hents:Ents wr L (zdE ws es).es:=HX.out.ents
      have hws:ws.length≤124:=h124
      rw [hn] at hws
      rw [hn]
      generalize ws.headD []=hd at *
      generalize ws.getLastD []=lt at *
      generalize zdE ws es=p at *
      have HR4:=Lib.hid (HR2.out wr b4)
      have HB4:=Lib.hid (zaa B2.out b4)
      have HC:=Lib.hid hcap
      have HEn:=Lib.hid hents
      have HSM:=Lib.hid hsm
      have hwn:IntKind.i64.wrap (n:Int)=(n:Int):=by rw [IntKind.wrap_i64];omega
      have hnn:(n:Int) < (n:Int)+1:=by omega
      have hn0:(0:Int) < (n:Int)+1:=by omega
      have hnl:n < n+1:=by omega
      have hnz:0 < n+1:=by omega
      clear hwh hwl hsm hcap hents HO2 HO3 hn hlt HX3 h124
      go_upto_region 12 with (fail)
      go_cut [13] (fun v wx=>∃ gq,v=.pointer (some ⟨gq,0,none⟩)∧Blk wx gq (p.arr L c)∧Below wr.heap.size wr wx)
      case first=>
        have D2:Below wr.heap.size wr wr.drew:=(Below.refl _ _).drew
        go_region_held3 (fun w'=>w'.cell? ⟨sb,0,none⟩=some (.string ⟨hd.toArray⟩)∧w'.cell? ⟨sb,n,none⟩=some (.string ⟨lt.toArray⟩)∧w'.cell? ⟨g,10,none⟩=some (.slice L es.length c))
          ((refine IS.out _ ?_;repeat' (first | assumption | omega | (refine zab ?_ ?_ _) | (refine Below.alloc ?_ ?_ _) | (refine Below.drew ?_) | exact Below.refl _ _ | (simp;done) | (simp;omega))))
          (fail)
        all_goals
          go_wp2
          go_meet
          rw [HP.out]
          first
            | exact ⟨_,rfl,(zcl wr (plan0.arr none 0) ((⟨hd,lt,es, -1⟩:Plan).arr L c) 43).1.step (Below.refl _ _).drew,(zcl wr (plan0.arr none 0) ((⟨hd,lt,es, -1⟩:Plan).arr L c) 43).2.drew⟩
            | exact ⟨_,rfl,Blk.new _ _ _,zaa (Below.refl _ _).drew (zac _ _)⟩
      case rest=>
      obtain ⟨gq,rfl,Q,BC⟩:=hcut
      have R5:=Lib.hid (HR4.out.step BC)
      have B5:=Lib.hid (zaa HB4.out BC)
      have i1:zcB wc gq 0:=⟨_,Q.is_plan rfl⟩
      have i2:zcN wc gq 0=p.arr L c:=zb9 (Q.is_plan rfl)
      have k0:=Lib.hid (show Calls Tryz.prog 23 #[.agg (p.arr L c)] wc (Ret wc (.int .i64 (zaq p))) from zg3 p L c wc (HLW.out wc B5.out) HSM.out HC.out (HEn.out.below (B:=0) BC))
      have HEc:=Lib.hid (HEn.out.below (B:=0) BC)
      have HQ:=Lib.hid Q
      clear Q BC HR4 HB4 IS HX HR2 HRS
      by_cases h1:zaq p=0
      rotate_left
      · have HS:=Lib.hid (show OUT=((plan0,(n:Int)+1),zaq p) from HO4.out.trans (if_pos h1))
        generalize zaq p=z at k0 HS h1
        have h1':(z != 0)=true:=by simpa using h1
        clear HO4 h1
        go_wp2_with (go_at_call 23;(with_reducible refine zaj k0.out ?_);intro w6 b6 _ _ _;have R6:=R5.out.step b6;have d2:=R6.plain;have d3:=R6.of)
        exact bodyPost_ret (zbW Tryz.results17 _ _ gr (plan0.arr none 0) 4 _ rfl rfl (R6.set _).cell Tryz.underlying43 rfl zcE) rfl (RetEx.err HS.out (zab (zaa B5.out b6) hge _))
      · have HS:=Lib.hid (show OUT=((p,0),0) from HO4.out.trans (if_neg (not_not_intro h1)))
        rw [h1] at k0
        clear HO4 h1
        go_wp2_with (go_at_call 23;(with_reducible refine zaj k0.out ?_);intro w6 b6 _ _ _;have R6:=R5.out.step b6;have d2:=R6.plain;have d3:=R6.of;have j1:zcB w6 gq 0:=⟨_,(HQ.out.step b6).is_plan rfl⟩;have j2:zcN w6 gq 0=p.arr L c:=zb9 ((HQ.out.step b6).is_plan rfl))
        exact bodyPost_ret (zbW Tryz.results17 _ _ gr (p.arr L c) 4 _ rfl rfl (R6.set _).cell Tryz.underlying43 rfl zcE) rfl ⟨L,c,by rw [HS.out];rfl,by rw [HS.out];exact HC.out,by rw [HS.out];exact (HEc.out.below (B:=0) b6).setRow4R R6 rfl _,zab (zaa B5.out b6) hge _⟩
end Go.Proofs.YtgoeedohgomodaaGreatDoor
namespace Go.Proofs.YtgoeedohgomodaaGreatDoor
open Go.RowKit
def zj6 (ks:List Int):List Entry→List UInt8
  | []=>[]
  | x :: r=>if x.gap=false∧x.via ≠ []∧x.sec ∈ ks then x.via else zj6 ks r
def zkw (i:Nat) (x:Entry):List (List UInt8):=
  if i=0∨x.gap=true∨x.sec ≠ 2∨zdq x.leg.ty=false then [] else (if x.via=[] then [] else [x.via]) ++ [x.leg.fix]
def zbX:Nat→List Entry→List (List UInt8)
  | _,[]=>[]
  | i,x :: r=>zkw i x ++ zbX (i+1) r
def zgD (k:UInt8) (v:List UInt8):List (List UInt8):=if v=[] then [] else [k :: 61 :: v]
def zqV (p:Plan):List (List UInt8):=[p.from_] ++ zgD 68 (zj6 [1] p.es) ++ zbX 0 p.es ++ zgD 65 (zj6 [3] p.es) ++ zgD 80 (zj6 [4,5] p.es) ++ [p.to_]
def znx (p:Plan):List UInt8:=if zaq p ≠ 0∨p.from_=[]∨p.to_=[] then [] else Lib.join (zqV p) [32]
theorem zim {ks:List Int}:∀ {l:List Entry},(∀ x ∈ l,x.small)→(zj6 ks l).length≤4000000000
  | [],_=>by simp [zj6]
  | x :: r,h=>by
    unfold zj6
    split
    · exact (h x (by simp)).via
    · exact zim fun y hy=>h y (by simp [hy])
theorem zrV {ks:List Int} {l:List Entry} {k:Nat} (h:k < l.length):zj6 ks (l.drop k)=if l[k].gap=false∧l[k].via ≠ []∧l[k].sec ∈ ks then l[k].via else zj6 ks (l.drop (k+1)):=by
  rw [List.drop_eq_getElem_cons h];rfl
theorem zl2 {l:List Entry} {k:Nat} (h:k < l.length):zbX k (l.drop k)=zkw k l[k] ++ zbX (k+1) (l.drop (k+1)):=by
  rw [List.drop_eq_getElem_cons h];rfl
theorem zva {i:Nat} {x:Entry} (h:i=0∨x.gap=true∨x.sec ≠ 2∨zdq x.leg.ty=false):zkw i x=[]:=if_pos h
theorem zs7 {i:Nat} {x:Entry} (h1:i ≠ 0) (h2:x.gap=false) (h3:x.sec=2) (h4:zdq x.leg.ty=true):zkw i x=(if x.via=[] then [] else [x.via]) ++ [x.leg.fix]:=
  if_neg (by rintro (h | h | h | h);exact h1 h;rw [h2] at h;cases h;exact h h3;rw [h4] at h;cases h)
theorem zhr {k:UInt8} {v:List UInt8} {n:Nat} (h:v.length≤n):∀ s ∈ zgD k v,s.length≤n+2:=by
  intro s hs
  unfold zgD at hs
  split at hs
  · cases hs
  · obtain rfl:s=k :: 61 :: v:=by simpa using hs
    simp;omega
theorem zf8:∀ {l:List Entry} {i:Nat},(∀ x ∈ l,x.small)→∀ s ∈ zbX i l,s.length≤4000000000
  | [],_,_,s,hs=>by cases hs
  | x :: r,i,h,s,hs=>by
    rcases List.mem_append.1 hs with hs | hs
    · unfold zkw at hs
      split at hs
      · cases hs
      · rcases List.mem_append.1 hs with hs | hs
        · split at hs
          · cases hs
          · obtain rfl:s=x.via:=by simpa using hs
            exact (h x (by simp)).via
        · obtain rfl:s=x.leg.fix:=by simpa using hs
          exact (h x (by simp)).leg.fix
    · exact zf8 (fun y hy=>h y (by simp [hy])) s hs
theorem zhV:∀ (l:List Entry) (i:Nat),(zbX i l).length≤2 * l.length
  | [],_=>by simp [zbX]
  | x :: r,i=>by
    have:=zhV r (i+1)
    have h2:(zkw i x).length≤2:=by
      unfold zkw
      split
      · simp
      · split <;> simp
    show (zkw i x ++ zbX (i+1) r).length≤_
    rw [List.length_append,List.length_cons]
    omega
end Go.Proofs.YtgoeedohgomodaaGreatDoor
namespace Go.Proofs.YtgoeedohgomodaaGreatDoor
open Go.RowKit Go.Sort
set_option maxRecDepth 100000
theorem zqA (ks:List Int) (A:Option Addr) (m c:Nat) (k:Int) (w:World) (hK:KindsAt w A ks) (hm:ks.length=m) (hn:m≤1000):
    Calls Tryz.prog 144 #[.slice A m c, .int .u8 k] w (RetP w (.int .i64 (zdk k ks 0))):=by
  have HM:=Lib.hid hm
  clear hm
  go_enter Tryz.func144,Tryz.ntmps144
  go_wp2
  go_loopw [8] (fun iv wr=>∃ i:Nat,i≤m∧iv=.int .i64 i∧zdk k ks 0=zdk k (ks.drop i) i∧wr=w) (fun iv _=>m - (intOf iv).toNat)
  case atStart=>exact ⟨0,by omega,rfl,rfl,rfl⟩
  case round=>
    obtain ⟨i,hi,rfl,hf,rfl⟩:=hrel
    have HF:=Lib.hid hf
    clear hf
    by_cases hlt:i < m
    · have hlk:i < ks.length:=by rw [HM.out];exact hlt
      obtain ⟨b,rfl,hb,hc⟩:=hK.at_ (by rintro rfl;simp at hlk)
      have e1:=hc i _ (List.getElem?_eq_getElem hlk)
      have HD:=Lib.hid (HF.out.trans (zkV k ks hlk))
      generalize ks[i]=x at e1 HD
      have hlt':(i:Int) < (m:Int):=by omega
      clear HF hc
      by_cases hx:x=k
      · have h1:(k == x)=true:=by simp [hx]
        have HO:=Lib.hid (HD.out.trans (if_pos (by simp [hx])))
        clear HD hx
        go_wp2
        go_ret
        exact RetP.int HO.out.symm rfl
      · have h1:(k == x)=false:=by simp;omega
        have HO:=Lib.hid (HD.out.trans (if_neg (by simpa using hx)))
        clear HD hx
        go_wp2
        go_roundw
        case rel=>exact ⟨i+1,by omega,by go_num,HO.out,by first | trivial | rfl⟩
        case measure=>simp [intOf];omega
    · have HO:=Lib.hid (show zdk k ks 0=-1 by rw [HF.out,List.drop_of_length_le (by rw [HM.out];omega)];rfl)
      have hlt':¬ (i:Int) < (m:Int):=by omega
      go_wp2
      go_ret
      exact RetP.int HO.out.symm rfl
theorem zns (k:Int):∀ (l:List Int) (i:Nat),decide (0≤zdk k l i)=decide (k ∈ l)
  | [],i=>by simp [zdk]
  | x :: t,i=>by
    unfold zdk
    by_cases h:(x == k)=true
    · have:x=k:=by simpa using h
      subst this
      simp
    · have h':x ≠ k:=by simpa using h
      rw [if_neg h,zns k t (i+1)]
      simp [Ne.symm h']
theorem zoz (ks:List Int) (A:Option Addr) (m c:Nat) (k:Int) (w:World) (hK:KindsAt w A ks) (hm:ks.length=m) (hn:m≤1000):
    Calls Tryz.prog 93 #[.slice A m c, .int .u8 k] w (RetP w (.bool (decide (k ∈ ks)))):=by
  have K:=Lib.hid (zqA ks A m c k w hK hm hn)
  have HR:=Lib.hid (zns k ks 0)
  generalize zdk k ks 0=r at *
  clear hK hm
  go_enter Tryz.func93,Tryz.ntmps93
  go_wp2_with (go_at_call 144;(with_reducible refine zae K.out ?_))
  go_ret
  exact RetP.bool HR.out rfl
set_option maxHeartbeats 4000000 in
theorem zno (ks:List Int) (B:Option Addr) (m cb:Nat) (p:Plan) (A:Option Addr) (c:Nat) (w:World) (hK:KindsAt w B ks) (hm:ks.length=m) (hn:m≤1000) (hE:Ents w A p.es) (hc:p.es.length≤c) (hl:p.es.length≤1000000):
    Calls Tryz.prog 46 #[.agg (p.arr A c), .slice B m cb] w (Ret w (.string ⟨(zj6 ks p.es).toArray⟩)):=by
  have KC:=Lib.hid (fun k W' (b:Below w.heap.size w W')=>zoz ks B m cb k W' (hK.below b) hm hn)
  have HEn:=Lib.hid (fun W' (b:Below w.heap.size w W')=>hE.below (B:=0) b)
  have HV:=Lib.hid (fun k (h:k < p.es.length)=>zrV (ks:=ks) h)
  clear hK hm hE
  go_enter Tryz.func46,Tryz.ntmps46
  go_upto_region 1 with (fail)
  have X0:=Blk.new w (p.arr A c) 43
  have B0:=zac w (.cells (p.arr A c) 43)
  generalize w.alloc _=W at X0 B0 ⊢
  obtain ⟨g0,hg0⟩:∃ g,g=w.heap.size:=⟨_,rfl⟩
  rw [← hg0] at X0 ⊢
  clear hg0
  have c2:W.cell? ⟨g0,2,none⟩=some (.slice A p.es.length c):=X0.cell 2
  have HB:=Lib.hid B0
  go_upto_region 2 with (fail)
  clear X0 B0 c2
  generalize p.es=l at *
  go_loopw [10] (fun iv wr=>∃ k:Nat,k≤l.length∧iv=.int .i64 k∧zj6 ks l=zj6 ks (l.drop k)∧Below W.heap.size W wr) (fun iv _=>l.length - (intOf iv).toNat)
  case atStart=>exact ⟨0,Nat.zero_le _,rfl,rfl,Below.refl _ _⟩
  case round=>
    obtain ⟨k,hk,rfl,hf,BW⟩:=hrel
    have HF:=Lib.hid hf
    clear hf
    have BB:=Lib.hid (zaa HB.out BW)
    by_cases hlt:k < l.length
    · obtain ⟨b,off,hA,hb,hcl⟩:=(HEn.out wr BB.out).get (k:=k) hlt
      have HD:=Lib.hid (HF.out.trans (HV.out k hlt))
      have HI:zfB wr b (off+k * 20) l[k]:=fun j hj=>hcl j hj
      generalize l[k]=y at *
      subst hA
      have i1:za4 wr b (off+k * 20):=⟨_,HI⟩
      have i2:zbE wr b (off+k * 20)=y:=zaS HI
      have hlt':(k:Int) < (l.length:Int):=by omega
      have hkc:k < c:=by omega
      clear hcl HI HF
      go_upto_region 4 with (fail)
      have Y:=Blk.new wr y.arr 69
      have B1:=zaa BW (zac wr (.cells y.arr 69))
      clear i1 i2 hb BW
      generalize wr.alloc _=w1 at Y B1 ⊢
      generalize wr.heap.size=g6 at Y ⊢
      have z0:w1.cell? ⟨g6,0,none⟩=some (.bool y.gap):=Y.cell 0
      have z18:w1.cell? ⟨g6,18,none⟩=some (.int .u8 y.sec):=Y.cell 18
      have z19:w1.cell? ⟨g6,19,none⟩=some (.string ⟨y.via.toArray⟩):=Y.cell 19
      have kc:=Lib.hid (KC.out y.sec w1 (zaa HB.out B1))
      cases hg:y.gap with
      | true=>
        have HN:=Lib.hid (HD.out.trans (if_neg (by rw [hg];simp)))
        rw [hg] at z0
        clear hg HD
        go_wp2
        go_roundw
        case rel=>exact ⟨k+1,by omega,by go_num,HN.out,B1⟩
        case measure=>simp [intOf];omega
      | false=>
        rw [hg] at z0
        by_cases hv:y.via=[]
        · have ev:(y.via == [])=true:=by simpa using hv
          have HN:=Lib.hid (HD.out.trans (if_neg (by rw [hv];simp)))
          clear hg HD hv
          go_wp2
          go_roundw
          case rel=>exact ⟨k+1,by omega,by go_num,HN.out,B1⟩
          case measure=>simp [intOf];omega
        · have ev:(y.via == [])=false:=by simpa using hv
          by_cases hs:y.sec ∈ ks
          · have HY:=Lib.hid (HD.out.trans (if_pos ⟨hg,hv,hs⟩))
            rw [decide_eq_true hs] at kc
            clear hg HD hv hs
            go_wp2_with (go_at_call 93;(with_reducible refine zae kc.out ?_))
            go_ret
            exact Ret.str (by rw [HY.out]) (zaa HB.out B1)
          · have HN:=Lib.hid (HD.out.trans (if_neg (fun q=>hs q.2.2)))
            rw [decide_eq_false hs] at kc
            clear hg HD hv hs
            go_wp2_with (go_at_call 93;(with_reducible refine zae kc.out ?_))
            go_roundw
            case rel=>exact ⟨k+1,by omega,by go_num,HN.out,B1⟩
            case measure=>simp [intOf];omega
    · have hlt':¬ (k:Int) < (l.length:Int):=by omega
      have HE:=Lib.hid (show zj6 ks l=[] by rw [HF.out,List.drop_of_length_le (by omega)];rfl)
      go_wp2
      go_ret
      exact Ret.str (by rw [HE.out]) BB.out
end Go.Proofs.YtgoeedohgomodaaGreatDoor
namespace Go.Proofs.YtgoeedohgomodaaGreatDoor
open Go.RowKit Go.Sort
set_option maxRecDepth 100000
theorem ztg (w:World) (a:Int) (t:TypeId):KindsAt (w.alloc (.cells #[.int .u8 a] t)) (some ⟨w.heap.size,0,none⟩) [a]:=
  ⟨fun _=>⟨w.heap.size,rfl,by simp,fun i x hx=>by
    rw [cell_of_row _ _ i _ t (0,0) (heap_alloc_new w _)]
    match i,hx with
    | 0,hx=>simpa using hx
    | i+1,hx=>simp at hx⟩⟩
theorem zwN (w:World) (a b:Int) (t:TypeId):KindsAt (w.alloc (.cells #[.int .u8 a, .int .u8 b] t)) (some ⟨w.heap.size,0,none⟩) [a,b]:=
  ⟨fun _=>⟨w.heap.size,rfl,by simp,fun i x hx=>by
    rw [cell_of_row _ _ i _ t (0,0) (heap_alloc_new w _)]
    match i,hx with
    | 0,hx=>simpa using hx
    | 1,hx=>simpa using hx
    | i+2,hx=>simp at hx⟩⟩
theorem zuC (w0 W:World) (s:List UInt8) (h:w0.heap.size≤W.heap.size):SOut w0 (W.alloc (.cells #[zlG s] 9)) (.slice (some ⟨W.heap.size,0,none⟩) 1 1) [s]:=
  World.ownsRow_lit (e:=9) (base:=w0.heap.size) (size:=1) W #[zlG s] 1 h (by unfold maxLen;omega) (by simp)
theorem SOut.ne_new {w0 W:World} {v:Value} {ss:List (List UInt8)} (h:SOut w0 W v ss):some W.heap.size ≠ v.ownBlock:=by
  intro he
  obtain ⟨hl,h⟩:=h
  rcases h with ⟨rfl,h1⟩ | ⟨g',cap,cur,rfl,hg,hb,hn,_,hsz,hc⟩
  · simp [Value.ownBlock] at he
  · have e:W.heap.size=g':=by simpa [Value.ownBlock] using he
    rw [← e,Array.getElem?_eq_none (Nat.le_refl _)] at hb
    cases hb
theorem zuX {p:Plan} (h:zaq p ≠ 0∨p.from_=[]∨p.to_=[]):znx p=[]:=if_pos h
theorem zsD {p:Plan} (h1:zaq p=0) (h2:p.from_ ≠ []) (h3:p.to_ ≠ []):znx p=Lib.join (([p.from_] ++ zgD 68 (zj6 [1] p.es) ++ zbX 0 p.es ++ zgD 65 (zj6 [3] p.es) ++ zgD 80 (zj6 [4,5] p.es)) ++ [p.to_]) [32]:=
  if_neg (by rintro (h | h | h);exact h h1;exact h2 h;exact h3 h)
theorem zl6 (k:UInt8) (v:List UInt8):(zgD k v).length≤1:=by unfold zgD;split <;> simp
attribute [local go_sem] zdp
set_option maxHeartbeats 16000000 in
theorem zqJ (p:Plan) (A:Option Addr) (c:Nat) (w:World) (hL:Laid w) (hp:p.small) (hc:p.es.length≤c) (hE:Ents w A p.es):
    Calls Tryz.prog 20 #[.agg (p.arr A c)] w (Ret w (.string ⟨(znx p).toArray⟩)):=by
  have KC:=Lib.hid (fun W' (b:Below w.heap.size w W')=>show Calls Tryz.prog 23 #[.agg (p.arr A c)] W' (Ret W' (.int .i64 (zaq p))) from zg3 p A c W' (hL.below b) hp hc (hE.below (B:=0) b))
  have HEn:=Lib.hid (fun W' (b:Below w.heap.size w W')=>hE.below (B:=0) b)
  have HN:=Lib.hid (fun h=>@zuX p h)
  have HY:=Lib.hid (fun h1 h2 h3=>@zsD p h1 h2 h3)
  have H60:=Lib.hid (fun h=>(@zqW p h).2.1)
  generalize znx p=out at *
  clear hL hE
  go_enter Tryz.func20,Tryz.ntmps20
  go_upto_region 1 with (fail)
  have X0:=Blk.new w (p.arr A c) 43
  have B0:=zac w (.cells (p.arr A c) 43)
  generalize w.alloc _=W at X0 B0 ⊢
  obtain ⟨g0,hg0⟩:∃ g,g=w.heap.size:=⟨_,rfl⟩
  rw [← hg0] at X0 ⊢
  clear hg0
  have kc:=Lib.hid (KC.out W B0)
  have i1:zcB W g0 0:=⟨_,X0.is_plan rfl⟩
  have i2:zcN W g0 0=p.arr A c:=zb9 (X0.is_plan rfl)
  have HX0:=Lib.hid X0
  have HB0:=Lib.hid B0
  clear X0 B0 KC
  by_cases h1:zaq p=0
  rotate_left
  · have h1':(zaq p != 0)=true:=by simpa using h1
    have HO:=Lib.hid (HN.out (.inl h1))
    clear HN HY H60 h1
    generalize zaq p=z at *
    go_wp2_with (go_at_call 23;(with_reducible refine zaj kc.out ?_);intro w1 b1 _ _ _)
    go_ret
    exact Ret.str (by rw [HO.out]) (zaa HB0.out b1)
  have HL60:=Lib.hid (H60.out h1)
  have HY1:=Lib.hid (HY.out h1)
  rw [h1] at kc
  clear h1 H60 HY
  obtain ⟨fr,to_,es,act⟩:=p
  dsimp only at HY1 HN HL60
  have hsm:=hp.each
  have hfr:fr.length≤4000000000:=hp.from_
  have hto:to_.length≤4000000000:=hp.to_
  dsimp only at hsm hc HEn
  by_cases hf:fr=[]
  · have ef:(fr == [])=true:=by simpa using hf
    have HO:=Lib.hid (HN.out (.inr (.inl hf)))
    clear HN HY1 hf
    go_wp2_with (go_at_call 23;(with_reducible refine zaj kc.out ?_);intro w1 b1 _ _ _;have z0:w1.cell? ⟨g0,0,none⟩=some (.string ⟨fr.toArray⟩):=(HX0.out.step b1).cell 0)
    go_ret
    exact Ret.str (by rw [HO.out]) (zaa HB0.out b1)
  have ef:(fr == [])=false:=by simpa using hf
  by_cases ht:to_=[]
  · have et:(to_ == [])=true:=by simpa using ht
    have HO:=Lib.hid (HN.out (.inr (.inr ht)))
    clear HN HY1 hf ht
    go_wp2_with (go_at_call 23;(with_reducible refine zaj kc.out ?_);intro w1 b1 _ _ _;have z0:w1.cell? ⟨g0,0,none⟩=some (.string ⟨fr.toArray⟩):=(HX0.out.step b1).cell 0;have z1:w1.cell? ⟨g0,1,none⟩=some (.string ⟨to_.toArray⟩):=(HX0.out.step b1).cell 1)
    go_ret
    exact Ret.str (by rw [HO.out]) (zaa HB0.out b1)
  have et:(to_ == [])=false:=by simpa using ht
  have HO:=Lib.hid (HY1.out hf ht)
  clear HN HY1 hf ht
  have hv1:=zim (ks:=[1]) hsm
  have hv3:=zim (ks:=[3]) hsm
  have hv4:=zim (ks:=[4,5]) hsm
  have HMS:=Lib.hid (fun s hs=>zf8 (l:=es) (i:=0) hsm s hs)
  have HML:=Lib.hid (zhV es 0)
  have KV:=Lib.hid (fun ks B m cb W' (hK:KindsAt W' B ks) (hm:ks.length=m) (hn:m≤1000) (b:Below w.heap.size w W')=>zno ks B m cb ⟨fr,to_,es,act⟩ A c W' hK hm hn (HEn.out W' b) hc (by have:=HL60.out;show es.length≤_;omega))
  have HSM:=Lib.hid hsm
  clear hsm
  have HXB:=Lib.hid (fun W' (B:Below W.heap.size W W')=>HX0.out.step B)
  clear HX0
  go_upto_region 3 with (go_at_call 23;(with_reducible refine zaj kc.out ?_);intro w1 b1 _ _ _;have z0:w1.cell? ⟨g0,0,none⟩=some (.string ⟨fr.toArray⟩):=(HXB.out _ b1).cell 0;have z1:w1.cell? ⟨g0,1,none⟩=some (.string ⟨to_.toArray⟩):=(HXB.out _ b1).cell 1)
  clear i1 i2 kc
  go_upto_region 4 with (fail)
  have O2:=zuC W w1 fr b1.size
  have B2:=zaa b1 (zac w1 (.cells #[zlG fr] 9))
  clear z0 z1 b1
  generalize hw2:World.alloc w1 _=w2
  have hw2':w1.alloc (.cells #[zlG fr] 9)=w2:=hw2
  rw [hw2'] at O2 B2
  clear hw2 hw2'
  generalize Value.slice (some ⟨w1.heap.size,0,none⟩) 1 1=v2 at O2 ⊢
  obtain ⟨v1,hv1e⟩:∃ v,zj6 [1] es=v:=⟨_,rfl⟩
  obtain ⟨v3,hv3e⟩:∃ v,zj6 [3] es=v:=⟨_,rfl⟩
  have i1:zcB w2 g0 0:=⟨_,(HXB.out w2 B2).is_plan rfl⟩
  have i2:zcN w2 g0 0=(⟨fr,to_,es,act⟩:Plan).arr A c:=zb9 ((HXB.out w2 B2).is_plan rfl)
  have kv:=Lib.hid (KV.out [1] (some ⟨w2.heap.size,0,none⟩) 1 1 (w2.alloc (.cells #[.int .u8 1] 67)) (ztg w2 1 _) rfl (by omega) (zaa HB0.out (zaa B2 (zac _ _))))
  obtain ⟨vv,hvv⟩:∃ v,zj6 [1] es=v:=⟨_,rfl⟩
  have hvl:vv.length≤4000000000:=by rw [← hvv];exact hv1
  rw [hvv] at kv
  have HVV:=Lib.hid hvv
  clear hvv
  go_upto_if 29 with (go_at_call 46;(with_reducible refine zaj kv.out ?_);intro wx b4 _ _ _)
  have D4:=zaa (zac w2 (.cells #[.int .u8 1] 67)) b4
  have O4:=O2.below D4
  have B4:=zaa B2 D4
  clear i1 i2 kv b4 D4 O2 B2
  go_cut [3] (fun v wy=>SOut W wy v ([fr] ++ zgD 68 vv)∧Below W.heap.size W wy)
  case first=>
    by_cases hv:vv=[]
    · have ev:vv.isEmpty=true:=by simpa using hv
      rw [ev]
      have HR:=Lib.hid (show [fr] ++ zgD 68 vv=[fr] by rw [hv];simp [zgD])
      clear hv ev
      go_wp2
      go_meet
      rw [HR.out]
      exact ⟨O4,B4⟩
    · have ev:vv.isEmpty=false:=by simpa using hv
      rw [ev]
      have HR:=Lib.hid (show zgD 68 vv=[68 :: 61 :: vv] from if_neg hv)
      have hbb:¬ 9223372036854775807 < 2+vv.length:=by omega
      have HLL:=Lib.hid (show ([fr]).length+1≤10000000 by simp)
      clear hv ev
      go_wp2_with (at_builtin;refine zaQ rfl (.tmp 30) (.tmp 33) rfl (O4.alloc _) rfl (68 :: 61 :: vv) wx.heap.size 1 rfl (cell_of_row _ _ 0 _ _ _ (heap_alloc_new wx _)) HLL.out (zaa B4 (zac _ _)).size ?_;intro v5 W5 O5 hg5)
      go_meet
      rw [HR.out]
      exact ⟨O5,zbz (zaa B4 (zac _ _)) (O4.alloc _) hg5⟩
  case rest=>
  obtain ⟨O6,B6⟩:=hcut
  generalize wc=w6 at *
  clear O4 B4
  obtain rfl:vv=v1:=HVV.out.symm.trans hv1e
  have c2:w6.cell? ⟨g0,2,none⟩=some (.slice A es.length c):=(HXB.out w6 B6).cell 2
  go_upto_region 8 with (fail)
  have HC:=Lib.hid hc
  have HHV:=Lib.hid hv1e
  have HHV3:=Lib.hid hv3e
  clear c2 hv1e hv3e hc
  go_loopw [3,38] (fun v iv wr=>∃ (k:Nat) (ss:List (List UInt8)),k≤es.length∧iv=.int .i64 k∧([fr] ++ zgD 68 vv) ++ zbX 0 es=ss ++ zbX k (es.drop k)∧ss.length≤2+2 * k∧SOut W wr v ss∧Below W.heap.size W wr) (fun _ iv _=>es.length - (intOf iv).toNat)
  case atStart=>exact ⟨0,_,Nat.zero_le _,rfl,rfl,by have:=zl6 68 vv;simp only [List.length_append,List.length_singleton];omega,O6,B6⟩
  case round=>
    obtain ⟨k,ss,hk,rfl,hss,hsl,O,BW⟩:=hrel
    have HSS:=Lib.hid hss
    clear hss
    have h60:es.length≤60:=HL60.out
    by_cases hlt:k < es.length
    · obtain ⟨b,off,hA,hb,hcl⟩:=(HEn.out wr (zaa HB0.out BW)).get (k:=k) hlt
      have HD:=Lib.hid (HSS.out.trans (congrArg (ss ++ ·) (zl2 hlt)))
      have HI:zfB wr b (off+k * 20) es[k]:=fun j hj=>hcl j hj
      have hys:=HSM.out _ (List.getElem_mem hlt)
      generalize es[k]=y at *
      subst hA
      have i1:za4 wr b (off+k * 20):=⟨_,HI⟩
      have i2:zbE wr b (off+k * 20)=y:=zaS HI
      have hlt':(k:Int) < (es.length:Int):=by omega
      have hkc:k < c:=by have:=HC.out;omega
      clear hcl HI HSS
      go_upto_region 10 with (fail)
      have Y:=Blk.new wr y.arr 69
      have B1:=zaa BW (zac wr (.cells y.arr 69))
      have O1:=O.alloc (.cells y.arr 69)
      have hne6:=O.ne_new
      clear i1 i2 hb BW O
      generalize wr.alloc _=w7 at Y B1 O1 ⊢
      generalize wr.heap.size=g6 at Y hne6 ⊢
      have z0:w7.cell? ⟨g6,0,none⟩=some (.bool y.gap):=Y.cell 0
      have z1:w7.cell? ⟨g6,1,none⟩=some (.int .u8 y.leg.ty):=Y.cell 1
      have z2:w7.cell? ⟨g6,2,none⟩=some (.string ⟨y.leg.fix.toArray⟩):=Y.cell 2
      have z18:w7.cell? ⟨g6,18,none⟩=some (.int .u8 y.sec):=Y.cell 18
      have z19:w7.cell? ⟨g6,19,none⟩=some (.string ⟨y.via.toArray⟩):=Y.cell 19
      have ke:=Lib.hid (ziy y.leg.ty w7)
      have HM0:=Lib.hid (fun h=>@zva k y h)
      have HM1:=Lib.hid (fun h1 h2 h3 h4=>@zs7 k y h1 h2 h3 h4)
      by_cases hk0:k=0
      · have e0:((k:Int) == 0)=true:=by simp;omega
        have HN2:=Lib.hid (HD.out.trans (by rw [HM0.out (.inl hk0),List.nil_append]))
        clear HD HM0 HM1 hk0
        go_wp2
        go_roundw
        case rel=>exact ⟨k+1,ss,by omega,by go_num,HN2.out,by omega,O1,B1⟩
        case measure=>simp [intOf];omega
      have e0:((k:Int) == 0)=false:=by simp;omega
      cases hg:y.gap with
      | true=>
        have HN2:=Lib.hid (HD.out.trans (by rw [HM0.out (.inr (.inl hg)),List.nil_append]))
        rw [hg] at z0
        clear HD HM0 HM1 hk0 hg
        go_wp2
        go_roundw
        case rel=>exact ⟨k+1,ss,by omega,by go_num,HN2.out,by omega,O1,B1⟩
        case measure=>simp [intOf];omega
      | false=>
      rw [hg] at z0
      by_cases hs2:y.sec=2
      rotate_left
      · have e2:(y.sec != 2)=true:=by simpa using hs2
        have HN2:=Lib.hid (HD.out.trans (by rw [HM0.out (.inr (.inr (.inl hs2))),List.nil_append]))
        clear HD HM0 HM1 hk0 hg hs2
        go_wp2
        go_roundw
        case rel=>exact ⟨k+1,ss,by omega,by go_num,HN2.out,by omega,O1,B1⟩
        case measure=>simp [intOf];omega
      have e2:(y.sec != 2)=false:=by simpa using hs2
      cases hen:zdq y.leg.ty with
      | false=>
        rw [hen] at ke
        have HN2:=Lib.hid (HD.out.trans (by rw [HM0.out (.inr (.inr (.inr hen))),List.nil_append]))
        clear HD HM0 HM1 hk0 hg hs2 hen
        go_wp2_with (go_at_call 47;(with_reducible refine zae ke.out ?_))
        go_roundw
        case rel=>exact ⟨k+1,ss,by omega,by go_num,HN2.out,by omega,O1,B1⟩
        case measure=>simp [intOf];omega
      | true=>
      rw [hen] at ke
      have HMY:=Lib.hid (HM1.out hk0 hg hs2 hen)
      clear HM0 HM1 hk0 hg hs2 hen
      by_cases hv:y.via=[]
      · have ev:(y.via == [])=true:=by simpa using hv
        have HN2:=Lib.hid (HD.out.trans (show ss ++ (zkw k y ++ zbX (k+1) (es.drop (k+1)))=(ss ++ [y.leg.fix]) ++ zbX (k+1) (es.drop (k+1)) by rw [HMY.out,if_pos hv];simp))
        clear HD HMY hv
        go_wp2_with (first
          | (go_at_call 47;(with_reducible refine zae ke.out ?_))
          | (at_builtin;refine zaQ rfl (.tmp 69) (.tmp 73) rfl (O1.alloc _) rfl y.leg.fix w7.heap.size 1 rfl (cell_of_row _ _ 0 _ _ _ (heap_alloc_new w7 _)) (by omega) (zaa B1 (zac _ _)).size ?_;intro v8 W8 O8 hg8;have B8:=zbz (zaa B1 (zac _ _)) (O1.alloc _) hg8))
        go_roundw
        case rel=>exact ⟨k+1,ss ++ [y.leg.fix],by omega,by go_num,HN2.out,by simp only [List.length_append,List.length_singleton];omega,O8,B8⟩
        case measure=>simp [intOf];omega
      · have ev:(y.via == [])=false:=by simpa using hv
        have HN2:=Lib.hid (HD.out.trans (show ss ++ (zkw k y ++ zbX (k+1) (es.drop (k+1)))=((ss ++ [y.via]) ++ [y.leg.fix]) ++ zbX (k+1) (es.drop (k+1)) by rw [HMY.out,if_neg hv];simp))
        have hsl1:(ss ++ [y.via]).length+1≤10000000:=by simp only [List.length_append,List.length_singleton];omega
        have HYB:=Lib.hid Y
        clear HD HMY hv
        go_upto_region 12 with (go_at_call 47;(with_reducible refine zae ke.out ?_))
        go_upto_region 13 with (at_builtin;refine zaQ rfl (.tmp 64) (.tmp 67) rfl (O1.alloc _) rfl y.via w7.heap.size 1 rfl (cell_of_row _ _ 0 _ _ _ (heap_alloc_new w7 _)) (by omega) (zaa B1 (zac _ _)).size ?_;intro v8 W8 O8 hg8)
        have B8:=zbz (zaa B1 (zac _ _)) (O1.alloc _) hg8
        have z2':W8.cell? ⟨g6,2,none⟩=some (.string ⟨y.leg.fix.toArray⟩):=World.grownBy.cell hg8 (a:=⟨g6,2,none⟩) (by rw [World.cell?_alloc_lt w7 _ ⟨g6,2,none⟩ HYB.out.lt];exact z2) hne6
        clear z0 z1 z2 z18 z19 ke hg8 O1 B1 HYB
        go_wp2_with (at_builtin;refine zaQ rfl (.tmp 69) (.tmp 73) rfl (O8.alloc _) rfl y.leg.fix W8.heap.size 1 rfl (cell_of_row _ _ 0 _ _ _ (heap_alloc_new W8 _)) hsl1 (zaa B8 (zac _ _)).size ?_;intro v9 W9 O9 hg9;have B9:=zbz (zaa B8 (zac _ _)) (O8.alloc _) hg9)
        go_roundw
        case rel=>exact ⟨k+1,(ss ++ [y.via]) ++ [y.leg.fix],by omega,by go_num,HN2.out,by simp only [List.length_append,List.length_singleton];omega,O9,B9⟩
        case measure=>simp [intOf];omega
    · obtain rfl:k=es.length:=by omega
      have hlt':¬ (es.length:Int) < (es.length:Int):=by omega
      have HSE:=Lib.hid (show ([fr] ++ zgD 68 vv) ++ zbX 0 es=ss by rw [HSS.out,List.drop_length];simp [zbX])
      clear HSS hlt
      go_upto_region 15 with (fail)
      have HHH:=Lib.hid hv3
      have i1:zcB wr g0 0:=⟨_,(HXB.out wr BW).is_plan rfl⟩
      have i2:zcN wr g0 0=(⟨fr,to_,es,act⟩:Plan).arr A c:=zb9 ((HXB.out wr BW).is_plan rfl)
      have kv:=Lib.hid (KV.out [3] (some ⟨wr.heap.size,0,none⟩) 1 1 (wr.alloc (.cells #[.int .u8 3] 67)) (ztg wr 3 _) rfl (by omega) (zaa HB0.out (zaa BW (zac _ _))))
      obtain ⟨vb,hvb⟩:∃ v,zj6 [3] es=v:=⟨_,rfl⟩
      have hvl:vb.length≤4000000000:=by rw [← hvb];exact hv3
      rw [hvb] at kv
      have HVV:=Lib.hid hvb
      clear hvb
      go_upto_if 80 with (go_at_call 46;(with_reducible refine zaj kv.out ?_);intro wx b4 _ _ _)
      have D4:=zaa (zac wr (.cells #[.int .u8 3] 67)) b4
      have O4:=O.below D4
      have B4:=zaa BW D4
      clear i1 i2 kv b4 D4 O BW
      go_cut [3] (fun v wy=>SOut W wy v (ss ++ zgD 65 vb)∧Below W.heap.size W wy)
      case first=>
        by_cases hv:vb=[]
        · have ev:vb.isEmpty=true:=by simpa using hv
          rw [ev]
          have HR:=Lib.hid (show ss ++ zgD 65 vb=ss by rw [hv];simp [zgD])
          clear hv ev
          go_wp2
          go_meet
          rw [HR.out]
          exact ⟨O4,B4⟩
        · have ev:vb.isEmpty=false:=by simpa using hv
          rw [ev]
          have HR:=Lib.hid (show zgD 65 vb=[65 :: 61 :: vb] from if_neg hv)
          have hbb:¬ 9223372036854775807 < 2+vb.length:=by omega
          have HLL:=Lib.hid (show (ss).length+1≤10000000 by omega)
          clear hv ev
          go_wp2_with (at_builtin;refine zaQ rfl (.tmp 81) (.tmp 84) rfl (O4.alloc _) rfl (65 :: 61 :: vb) wx.heap.size 1 rfl (cell_of_row _ _ 0 _ _ _ (heap_alloc_new wx _)) HLL.out (zaa B4 (zac _ _)).size ?_;intro v5 W5 O5 hg5)
          go_meet
          rw [HR.out]
          exact ⟨O5,zbz (zaa B4 (zac _ _)) (O4.alloc _) hg5⟩
      case rest=>
      obtain ⟨O10,B10⟩:=hcut
      generalize wc=w10 at *
      clear O4 B4
      have HV3:=Lib.hid HVV.out
      clear HVV
      have hsl2:(ss ++ zgD 65 vb).length≤3+2 * es.length:=by have:=zl6 65 vb;simp only [List.length_append];omega
      obtain ⟨s2,hs2⟩:∃ s,ss ++ zgD 65 vb=s:=⟨_,rfl⟩
      rw [hs2] at O10 hsl2
      have HS2:=Lib.hid hs2
      clear hs2
      obtain ⟨w3v,hw3v⟩:∃ v,v=vb:=⟨_,rfl⟩
      rw [← hw3v] at HS2 HV3
      clear hw3v hvl
      have i1:zcB w10 g0 0:=⟨_,(HXB.out w10 B10).is_plan rfl⟩
      have i2:zcN w10 g0 0=(⟨fr,to_,es,act⟩:Plan).arr A c:=zb9 ((HXB.out w10 B10).is_plan rfl)
      have kv:=Lib.hid (KV.out [4,5] (some ⟨w10.heap.size,0,none⟩) 2 2 (w10.alloc (.cells #[.int .u8 4, .int .u8 5] 67)) (zwN w10 4 5 _) rfl (by omega) (zaa HB0.out (zaa B10 (zac _ _))))
      obtain ⟨vv,hvv⟩:∃ v,zj6 [4,5] es=v:=⟨_,rfl⟩
      have hvl:vv.length≤4000000000:=by rw [← hvv];exact hv4
      rw [hvv] at kv
      have HVV:=Lib.hid hvv
      clear hvv
      go_upto_if 90 with (go_at_call 46;(with_reducible refine zaj kv.out ?_);intro wx b4 _ _ _)
      have D4:=zaa (zac w10 (.cells #[.int .u8 4, .int .u8 5] 67)) b4
      have O4:=O10.below D4
      have B4:=zaa B10 D4
      clear i1 i2 kv b4 D4 O10 B10
      go_cut [3] (fun v wy=>SOut W wy v (s2 ++ zgD 80 vv)∧Below W.heap.size W wy)
      case first=>
        by_cases hv:vv=[]
        · have ev:vv.isEmpty=true:=by simpa using hv
          rw [ev]
          have HR:=Lib.hid (show s2 ++ zgD 80 vv=s2 by rw [hv];simp [zgD])
          clear hv ev
          go_wp2
          go_meet
          rw [HR.out]
          exact ⟨O4,B4⟩
        · have ev:vv.isEmpty=false:=by simpa using hv
          rw [ev]
          have HR:=Lib.hid (show zgD 80 vv=[80 :: 61 :: vv] from if_neg hv)
          have hbb:¬ 9223372036854775807 < 2+vv.length:=by omega
          have HLL:=Lib.hid (show (s2).length+1≤10000000 by omega)
          clear hv ev
          go_wp2_with (at_builtin;refine zaQ rfl (.tmp 91) (.tmp 94) rfl (O4.alloc _) rfl (80 :: 61 :: vv) wx.heap.size 1 rfl (cell_of_row _ _ 0 _ _ _ (heap_alloc_new wx _)) HLL.out (zaa B4 (zac _ _)).size ?_;intro v5 W5 O5 hg5)
          go_meet
          rw [HR.out]
          exact ⟨O5,zbz (zaa B4 (zac _ _)) (O4.alloc _) hg5⟩
      case rest=>
      obtain ⟨O11,B11⟩:=hcut
      generalize wc=w11 at *
      clear O4 B4
      have HV4:=Lib.hid HVV.out
      have HE:=Lib.hid (show out=Lib.join ((s2 ++ zgD 80 vv) ++ [to_]) [32] by
        rw [HO.out,HHV.out,HSE.out,HV3.out,HS2.out,HV4.out])
      have z1:w11.cell? ⟨g0,1,none⟩=some (.string ⟨to_.toArray⟩):=(HXB.out w11 B11).cell 1
      have hsl3:(s2 ++ zgD 80 vv).length≤4+2 * es.length:=by have:=zl6 80 vv;simp only [List.length_append];omega
      have hws:∀ s ∈ (s2 ++ zgD 80 vv) ++ [to_],s.length≤4000000002:=by
        intro s hs
        rcases List.mem_append.1 hs with hs | hs
        · rcases List.mem_append.1 hs with hs | hs
          · rw [← HS2.out] at hs
            rcases List.mem_append.1 hs with hs | hs
            · rw [← HSE.out] at hs
              rcases List.mem_append.1 hs with hs | hs
              · rcases List.mem_append.1 hs with hs | hs
                · obtain rfl:s=fr:=by simpa using hs
                  omega
                · exact zhr (n:=4000000000) (by rw [← HHV.out];exact hv1) s hs
              · exact Nat.le_trans (HMS.out s hs) (by omega)
            · exact zhr (n:=4000000000) (by rw [← HV3.out];exact hv3) s hs
          · exact zhr (n:=4000000000) hvl s hs
        · obtain rfl:s=to_:=by simpa using hs
          omega
      have HWS:=Lib.hid hws
      generalize s2 ++ zgD 80 vv=s3 at *
      have KJ:=Lib.hid (fun W' v' (O':SOut W W' v' (s3 ++ [to_]))=>show ∃ A' c',v'=.slice A' (s3.length+1) c'∧Calls Tryz.prog 48 #[.slice A' (s3.length+1) c', .string ⟨#[32]⟩] W' (Ret W' (.string ⟨(Lib.join (s3 ++ [to_]) [32]).toArray⟩)) from by
        obtain ⟨A',c',e',hl',hS'⟩:=O'.form
        rw [show s3.length+1=(s3 ++ [to_]).length by simp]
        exact ⟨A',c',e',zr9 (s3 ++ [to_]) A' c' [32] W' (by simp) hS' hl' (by simp only [List.length_append,List.length_singleton];omega) 4000000002 HWS.out (by simp)⟩)
      clear hws
      go_wp2_with (first
        | (at_builtin;refine zaQ rfl (.tmp 96) (.tmp 99) rfl (O11.alloc _) rfl to_ w11.heap.size 1 rfl (cell_of_row _ _ 0 _ _ _ (heap_alloc_new w11 _)) (by omega) (zaa B11 (zac _ _)).size ?_;intro v12 W12 O12 hg12;have B12:=zbz (zaa B11 (zac _ _)) (O11.alloc _) hg12;obtain ⟨A12,c12,hv12,kj⟩:=KJ.out _ _ O12;subst hv12;replace kj:=Lib.hid kj)
        | (go_at_call 48;(with_reducible refine zaj kj.out ?_);intro w13 b13 _ _ _))
      go_ret
      exact Ret.str (by rw [HE.out]) (zaa HB0.out (zaa B12 b13))
end Go.Proofs.YtgoeedohgomodaaGreatDoor
namespace Go.Proofs.YtgoeedohgomodaaGreatDoor
open Go.RowKit Go.Sort
set_option maxRecDepth 100000
def zyi:Array Value:=#[.string ⟨#[]⟩, .int .i64 0, .int .i64 0, .int .i64 0, .int .i64 16920000, .int .i64 (-43920000)]
def dbM (v6 v7:Value):Array Value:=#[.string ⟨#[]⟩, .int .i64 0, .int .i64 0, .int .i64 0, .int .i64 16920000, .int .i64 (-43920000),v6,v7, .slice none 0 0]
def zxJ (parts:Array (Nat × Value)):Sem Value:=Instr.build 30 parts
theorem zrF (parts:Array (Nat × Value)):Instr.build 30 parts=zxJ parts:=rfl
theorem zsk (w:World) (a b:Int):(zxJ #[(0, .int .i64 a),(1, .int .i64 b)]).run Tryz.prog w=.ok (.agg (Pos.arr ⟨a,b⟩)) w:=run_build w _ _ _ (by kernel_rfl)
def zxO (parts:Array (Nat × Value)):Sem Value:=Instr.build 32 parts
theorem zrI (parts:Array (Nat × Value)):Instr.build 32 parts=zxO parts:=rfl
theorem zsm (w:World):(zxO #[(4, .agg (Pos.arr ⟨16920000, -43920000⟩))]).run Tryz.prog w=.ok (.agg zyi) w:=run_build w _ _ _ (by kernel_rfl)
def zyt (parts:Array (Nat × Value)):Sem Value:=Instr.build 37 parts
theorem zt6 (parts:Array (Nat × Value)):Instr.build 37 parts=zyt parts:=rfl
theorem zuP (w:World):(zyt #[(0, .agg zyi)]).run Tryz.prog w=.ok (.agg (dbM (.slice none 0 0) (.slice none 0 0))) w:=run_build w _ _ _ (by kernel_rfl)
def zvq (s:List UInt8) (k lon:Int):FixV:=⟨s,[75,49],k,16920000,lon,0,0⟩
theorem zso (w:World) (s:List UInt8) (k lat lon:Int):(zya #[(0, .string ⟨s.toArray⟩),(1, .string ⟨#[75,49]⟩),(2, .int .u8 k),(3, .agg (Pos.arr ⟨lat,lon⟩))]).run Tryz.prog w=.ok (.agg (FixV.arr ⟨s,[75,49],k,lat,lon,0,0⟩)) w:=run_build w _ _ _ (by kernel_rfl)
theorem zhA:(Tryz.prog.info? 84).map (fun i=>(i.zero,i.size,i.bytes))=some (some (.agg noFix.arr),7,72):=by kernel_rfl
def zym (parts:Array (Nat × Value)):Sem Value:=Instr.buildSlice 33 1 parts
theorem ztT (parts:Array (Nat × Value)):Instr.buildSlice 33 1 parts=zym parts:=rfl
theorem zuL (w:World) (x:FixV):(zym #[(0, .agg x.arr)]).run Tryz.prog w=.ok (.slice (some ⟨w.heap.size,0,none⟩) 1 1) (w.alloc (.cells x.arr 84)):=by
  obtain ⟨i0,hi,hz0,hz1,hz2⟩:=info_parts zhA
  refine run_buildSlice w 33 84 1 #[(0, .agg x.arr)] x.arr i0 _ Tryz.underlying33 hi hz0 (by rw [hz1];decide) (by rw [hz1];decide) ?_
  rw [hz1]
  kernel_rfl
def zx5 (a b c:List UInt8 × Int × Int):Array Value:=zfc a ++ zfc b ++ zfc c
def zxG (parts:Array (Nat × Value)):Sem Value:=Instr.buildSlice 79 3 parts
theorem zrE (parts:Array (Nat × Value)):Instr.buildSlice 79 3 parts=zxG parts:=rfl
theorem zsi (w:World) (a b c:List UInt8 × Int × Int):(zxG #[(0, .agg (zfc a)),(1, .agg (zfc b)),(2, .agg (zfc c))]).run Tryz.prog w=.ok (.slice (some ⟨w.heap.size,0,none⟩) 3 3) (w.alloc (.cells (zx5 a b c) 107)):=by
  obtain ⟨i0,hi,hz0,hz1,hz2⟩:=info_parts zd9
  refine run_buildSlice w 79 107 3 #[(0, .agg (zfc a)),(1, .agg (zfc b)),(2, .agg (zfc c))] (zx5 a b c) i0 _ Tryz.underlying79 hi hz0 (by rw [hz1];decide) (by rw [hz1];decide) ?_
  rw [hz1]
  kernel_rfl
theorem zqU {W:World} {g:Nat} {a b c:List UInt8 × Int × Int} (h:Blk W g (zx5 a b c)):Items W (some ⟨g,0,none⟩) 4 ([wpt a,wpt b,wpt c].map APt.arr) where
  at_ _:=⟨g,0,rfl,h.lt,fun i x hx j hj=>by
    rw [Nat.zero_add,h.cell]
    match i,hx with
    | 0,hx=>
      obtain rfl:(wpt a).arr=x:=by simpa using hx
      match j,hj with
      | 0,_ | 1,_ | 2,_ | 3,_=>rfl
    | 1,hx=>
      obtain rfl:(wpt b).arr=x:=by simpa using hx
      match j,hj with
      | 0,_ | 1,_ | 2,_ | 3,_=>rfl
    | 2,hx=>
      obtain rfl:(wpt c).arr=x:=by simpa using hx
      match j,hj with
      | 0,_ | 1,_ | 2,_ | 3,_=>rfl
    | i+3,hx=>simp at hx⟩
theorem zu6 {W:World} {g n:Nat} {cs:Array Value} (h:Blk W g cs) (hn:cs.size=n):Items W (some ⟨g,0,none⟩) n [cs] where
  at_ _:=⟨g,0,rfl,h.lt,fun i x hx j hj=>by
    match i,hx with
    | 0,hx=>
      obtain rfl:cs=x:=by simpa using hx
      rw [← h.cell];simp
    | i+1,hx=>simp at hx⟩
def zwo:AwyV:=⟨[86,50,51],[⟨[65,47,75,49], -200000,6000000,0⟩,⟨[66,47,75,49], -200000,6000000,0⟩,⟨[67,47,75,49], -200000,6000000,0⟩]⟩
theorem zsp (w:World) (g:Nat):(zw1 #[(0, .string ⟨#[86,50,51]⟩),(1, .slice (some ⟨g,0,none⟩) 3 3)]).run Tryz.prog w=.ok (.agg (zao zwo (some ⟨g,0,none⟩) 3)) w:=run_build w _ _ _ (by kernel_rfl)
theorem zrd:(Tryz.prog.info? 81).map (fun i=>(i.zero,i.size,i.bytes))=some (some (.agg (zao zcg none 0)),2,40):=by kernel_rfl
def zyl (parts:Array (Nat × Value)):Sem Value:=Instr.buildSlice 34 1 parts
theorem ztS (parts:Array (Nat × Value)):Instr.buildSlice 34 1 parts=zyl parts:=rfl
theorem zuK (w:World) (a:AwyV) (A:Option Addr) (c:Nat):(zyl #[(0, .agg (zao a A c))]).run Tryz.prog w=.ok (.slice (some ⟨w.heap.size,0,none⟩) 1 1) (w.alloc (.cells (zao a A c) 81)):=by
  obtain ⟨i0,hi,hz0,hz1,hz2⟩:=info_parts zrd
  refine run_buildSlice w 34 81 1 #[(0, .agg (zao a A c))] (zao a A c) i0 _ Tryz.underlying34 hi hz0 (by rw [hz1];decide) (by rw [hz1];decide) ?_
  rw [hz1]
  kernel_rfl
def zxD (parts:Array (Nat × Value)):Sem Value:=Instr.build 62 parts
theorem zru (parts:Array (Nat × Value)):Instr.build 62 parts=zxD parts:=rfl
theorem zsg (w:World) (a b:Int):(zxD #[(0, .int .i64 a),(1, .int .i64 b)]).run Tryz.prog w=.ok (.agg (Win.arr ⟨a,b⟩)) w:=run_build w _ _ _ (by kernel_rfl)
def fixesM:List FixV:=[zvq [65] 1 (-43820000),zvq [66] 1 (-43720000),zvq [67] 1 (-43620000),zvq [75,83,69,65] 5 (-43920000)]
def gM:GDB:=⟨16920000, -43920000,fixesM,[zwo],[]⟩
theorem OnlyB.grown {g:Nat} {W0 W W':World} {t:TypeId} {n:Nat} {v:Value} {l:List (Array Value)} (o:OnlyB g W0 W) (h:GOut W0.heap.size W t n v l) (hg:W.grownBy W' v.ownBlock):OnlyB g W0 W':=by
  refine ⟨hg.os.trans o.os,hg.tape.trans o.tape,hg.output.trans o.output,Nat.le_trans o.size hg.size,fun k hk hne=>?_⟩
  refine (hg.block k (Nat.lt_of_lt_of_le hk o.size) fun e=>?_).trans (o.block k hk hne)
  have:=(h.own_lt k e.symm).2
  omega
theorem GOut.ne_far {B:Nat} {W W':World} {t:TypeId} {n:Nat} {v:Value} {l:List (Array Value)} {q:Nat} {cs:Array Value} (h:GOut B W t n v l) (hg:W.grownBy W' v.ownBlock) (b:Blk W q cs) (hq:q < B):Blk W' q cs:=by
  have hl:=b.lt
  obtain ⟨ty,e⟩:=b
  exact ⟨ty,(h.grown hg q hq hl).trans e⟩
theorem GOut.setFar {B:Nat} {W:World} {t:TypeId} {n:Nat} {v:Value} {l:List (Array Value)} (h:GOut B W t n v l) (q j:Nat) (hq:q < B) (u:Value):GOut B (W.setCell ⟨q,j,none⟩ u) t n v l:=
  h.below fun k hk _=>Below.heap_setCell _ _ _ _ (show k ≠ q by omega)
theorem zle:∀ f ∈ fixesM,f.small:=by
  intro f hf
  simp only [fixesM,List.mem_cons,List.not_mem_nil,or_false] at hf
  rcases hf with rfl | rfl | rfl | rfl <;> exact ⟨by decide,by decide⟩
end Go.Proofs.YtgoeedohgomodaaGreatDoor
namespace Go.Proofs.YtgoeedohgomodaaGreatDoor
open Go.RowKit Go.Sort
set_option maxRecDepth 100000
def zx3 (w:World) (e:Ending) (w':World):Prop:=∃ d:DBs,e=.returned (.agg d.cells)∧GdAt w' d gM∧Below w.heap.size w w'
theorem zxC {P:Program} {f:FuncId} {args:Array Value} {W:World} {K:Ending→World→Prop} (h:Calls P f args W (zx3 W))
    (k:∀ d W',GdAt W' d gM→Below W.heap.size W W'→K (.returned (.agg d.cells)) W'):Calls P f args W K:=
  h.mono fun e W' ⟨d,he,h1,h2⟩=>by subst he;exact k d W' h1 h2
theorem zvS (a b:Value):zdg (dbM a b) 9:=rfl
theorem zvY (A B:Option Addr) (n c m e:Nat):zdQ (dbM (.slice A n c) (.slice B m e)):=by simp [zdQ,dbM,Value.oneCell']
def dbZ:Array Value:=#[.string ⟨#[]⟩, .int .i64 0, .int .i64 0, .int .i64 0, .int .i64 0, .int .i64 0, .slice none 0 0, .slice none 0 0, .slice none 0 0]
theorem zv5 (o n:Nat):Fits o n dbZ=(o+n≤9):=propext ⟨fun h=>h,fun h=>h⟩
theorem zqv (a b:Value):splice dbZ 0 (dbM a b)=dbM a b:=rfl
theorem zvy (a b v:Value):(dbM a b).setIfInBounds 6 v=dbM v b:=rfl
theorem zvx (a b v:Value):(dbM a b).setIfInBounds 7 v=dbM a v:=rfl
def wsM:List (List UInt8):=[[65],[66],[67]]
theorem zrY {k:Nat} (h:k < 3) {x:List UInt8} (hx:wsM[k]? = some x):fixesM.take (k+1)=fixesM.take k ++ [zvq x 1 (-43920000+((k:Int)+1) * 100000)]:=by
  match k,h with
  | 0,_=>obtain rfl:[65]=x:=by simpa [wsM] using hx
         rfl
  | 1,_=>obtain rfl:[66]=x:=by simpa [wsM] using hx
         rfl
  | 2,_=>obtain rfl:[67]=x:=by simpa [wsM] using hx
         rfl
theorem zwR (l:List FixV):∀ y ∈ l.map FixV.arr,y.size=7:=fun y hy=>by obtain ⟨f,_,rfl⟩:=List.mem_map.1 hy;rfl
attribute [local go_sem ↓] zrF zrI zt6 zdI ztT zrE zde ztS zru zhE
attribute [local go_sem] zsk zsm zuP zso zuL zsi zsp zuK zsg zi6 zvS zvY zv5 zqv
set_option maxHeartbeats 8000000 in
theorem zox (w:World):Calls Tryz.prog 28 #[] w (zx3 w):=by
  go_enter Tryz.func28,Tryz.ntmps28
  go_upto_region 1 with (fail)
  have Z0:Blk (w.alloc (.cells #[.string ⟨#[]⟩, .int .i64 0, .int .i64 0, .int .i64 0, .int .i64 0, .int .i64 0, .slice none 0 0, .slice none 0 0, .slice none 0 0] 37)) w.heap.size dbZ:=Blk.new w _ _
  have B0:=zac w (.cells #[.string ⟨#[]⟩, .int .i64 0, .int .i64 0, .int .i64 0, .int .i64 0, .int .i64 0, .slice none 0 0, .slice none 0 0, .slice none 0 0] 37)
  generalize w.alloc _=W0 at Z0 B0 ⊢
  obtain ⟨q0,hq0⟩:∃ q,q=w.heap.size:=⟨_,rfl⟩
  rw [← hq0] at Z0 ⊢
  have hq0w:w.heap.size≤q0:=by omega
  clear hq0
  go_upto_region 2 with (fail)
  have X1:=Blk.new W0 (dbM (.slice none 0 0) (.slice none 0 0)) 37
  have D1:=zac W0 (.cells (dbM (.slice none 0 0) (.slice none 0 0)) 37)
  have Z1:=Z0.step D1
  have B1:=zaa B0 D1
  have hlt0:=Z0.lt
  have hsz0:=B0.size
  generalize hw1:World.alloc W0 _=W1
  have hw1':W0.alloc (.cells (dbM (.slice none 0 0) (.slice none 0 0)) 37)=W1:=hw1
  rw [hw1'] at X1 Z1 B1
  clear hw1 hw1' D1 Z0 B0
  obtain ⟨q1,hq1⟩:∃ q,q=W0.heap.size:=⟨_,rfl⟩
  rw [← hq1] at X1 ⊢
  have hq01:q0 ≠ q1:=by omega
  have hq1w:w.heap.size≤q1:=by omega
  clear hq1 hlt0 hsz0
  go_upto_region 3 with (fail)
  have S2:∀ k x,wsM[k]? = some x→(W1.alloc (.cells #[.string ⟨#[65]⟩, .string ⟨#[66]⟩, .string ⟨#[67]⟩] 9)).cell? ⟨W1.heap.size,k,none⟩=some (.string ⟨x.toArray⟩):=by
    intro k x hx
    rw [cell_of_row _ _ k _ 9 (0,0) (heap_alloc_new W1 _)]
    match k,hx with
    | 0,hx=>obtain rfl:[65]=x:=by simpa [wsM] using hx
            rfl
    | 1,hx=>obtain rfl:[66]=x:=by simpa [wsM] using hx
            rfl
    | 2,hx=>obtain rfl:[67]=x:=by simpa [wsM] using hx
            rfl
    | k+3,hx=>simp [wsM] at hx
  have D2:=zac W1 (.cells #[.string ⟨#[65]⟩, .string ⟨#[66]⟩, .string ⟨#[67]⟩] 9)
  have X2:=X1.step D2
  have Z2:=Z1.step D2
  have B2:=zaa B1 D2
  have hqs:W1.heap.size < (W1.alloc (.cells #[.string ⟨#[65]⟩, .string ⟨#[66]⟩, .string ⟨#[67]⟩] 9)).heap.size:=by simp
  have hq1s:=X1.lt
  clear X1 Z1 B1 D2
  generalize hw2:World.alloc W1 _=W2
  have hw2':W1.alloc (.cells #[.string ⟨#[65]⟩, .string ⟨#[66]⟩, .string ⟨#[67]⟩] 9)=W2:=hw2
  rw [hw2'] at S2 X2 Z2 B2 hqs
  clear hw2 hw2'
  generalize W1.heap.size=sb at S2 hqs hq1s ⊢
  have HS:=Lib.hid (fun W' (o:OnlyB q1 W2 W') k x (hx:wsM[k]? = some x)=>show W'.cell? ⟨sb,k,none⟩=some (.string ⟨x.toArray⟩) by
    rw [World.cell?_of_block (w:=W2) (o.block sb hqs (by omega))];exact S2 k x hx)
  have hq1W:=X2.lt
  have HX2:=Lib.hid X2
  have HZ2:=Lib.hid Z2
  have HB2:=Lib.hid B2
  clear S2 X2 Z2 B2
  go_loopw [10] (fun iv wr=>∃ (k:Nat) (v:Value),k≤3∧iv=.int .i64 k∧Blk wr q1 (dbM v (.slice none 0 0))∧GOut W2.heap.size wr 84 7 v ((fixesM.take k).map FixV.arr)∧OnlyB q1 W2 wr) (fun iv _=>3 - (intOf iv).toNat)
  case atStart=>exact ⟨0,_,by omega,rfl,HX2.out,GOut.nil _ _ _ _,OnlyB.refl _ _⟩
  case round=>
    obtain ⟨k,v,hk,rfl,X,O,OB⟩:=hrel
    by_cases hlt:k < 3
    · obtain ⟨x,hx⟩:∃ x,wsM[k]? = some x:=⟨_,List.getElem?_eq_getElem (show k < wsM.length from hlt)⟩
      have hs:=HS.out wr OB k x hx
      have HT:=Lib.hid (zrY hlt hx)
      have c6:wr.cell? ⟨q1,6,none⟩=some v:=X.cell 6
      have f6:=X.frozen 6
      have hlt':(k:Int) < 3:=by omega
      have hk0:(0:Int)≤(k:Int):=by omega
      have HXX:=Lib.hid X
      have HO:=Lib.hid O
      have HOB:=Lib.hid OB
      have hll:((fixesM.take k).map FixV.arr).length≤4:=by rw [List.length_map];exact Nat.le_trans (List.length_take_le' _ _) (by decide)
      have HLN:=Lib.hid (show ((fixesM.take k).map FixV.arr ++ [(zvq x 1 (-43920000+((k:Int)+1) * 100000)).arr]).length=k+1 by simp [fixesM];omega)
      clear hx X O OB
      go_wp2_with (at_builtin;refine zaK rfl (.tmp 16) (.tmp 24) _ 84 7 72 _ zhA rfl (by omega) Tryz.underlying33 rfl (HO.out.alloc _) rfl (zvq x 1 (-43920000+((k:Int)+1) * 100000)).arr wr.heap.size 1 (FixV.arr_size _) (FixV.arr_one _) rfl (Blk.new wr _ _).cell (by unfold maxLen;omega) (by omega) (by have:=HOB.out.size;simp;omega) ?_;intro v5 W5 O5 g5;obtain ⟨A5,c5,hv5⟩:=O5.len;rw [HLN.out] at hv5;subst hv5;have X5:=GOut.ne_far (HO.out.alloc _) g5 (HXX.out.alloc _) hq1W;have f5:=X5.frozen 6;have e5:W5.cell? ⟨q1,6,none⟩=some v:=X5.cell 6;have OB5:=((HOB.out.trans (OnlyB.of (zac _ _))).grown (HO.out.alloc _) g5))
      go_roundw
      case rel=>exact ⟨k+1,_,by omega,by go_num,X5.setCell 6 _,by rw [HT.out,List.map_append];exact O5.setFar q1 6 hq1W _,OB5.trans (OnlyB.setCell _ _ _ _)⟩
      case measure=>simp [intOf];omega
    · obtain rfl:k=3:=by omega
      have c6:wr.cell? ⟨q1,6,none⟩=some v:=X.cell 6
      have f6:=X.frozen 6
      have i1:za3 wr q1 4:=⟨⟨16920000, -43920000⟩,fun j hj=>by match j,hj with | 0,_=>exact X.cell 4 | 1,_=>exact X.cell 5⟩
      have i2:zbm wr q1 4=⟨16920000, -43920000⟩:=zaH (fun j hj=>by match j,hj with | 0,_=>exact X.cell 4 | 1,_=>exact X.cell 5)
      have HXX:=Lib.hid X
      have HO:=Lib.hid O
      have HOB:=Lib.hid OB
      have HLN:=Lib.hid (show ((fixesM.take 3).map FixV.arr ++ [(zvq [75,83,69,65] 5 (-43920000)).arr]).length=4 from rfl)
      clear X O OB hlt
      go_upto_region 8 with (at_builtin;refine zaK rfl (.tmp 29) (.tmp 34) _ 84 7 72 _ zhA rfl (by omega) Tryz.underlying33 rfl (HO.out.alloc _) rfl (zvq [75,83,69,65] 5 (-43920000)).arr wr.heap.size 1 (FixV.arr_size _) (FixV.arr_one _) rfl (Blk.new wr _ _).cell (by rw [List.length_map];unfold maxLen;decide) (by rw [List.length_map];decide) (by have:=HOB.out.size;simp;omega) ?_;intro v5 W5 O5 g5;obtain ⟨A5,c5,hv5⟩:=O5.len;rw [HLN.out] at hv5;subst hv5;have X5:=GOut.ne_far (HO.out.alloc _) g5 (HXX.out.alloc _) hq1W;have f5:=X5.frozen 6;have e5:W5.cell? ⟨q1,6,none⟩=some v:=X5.cell 6;have OB5:=((HOB.out.trans (OnlyB.of (zac _ _))).grown (HO.out.alloc _) g5))
      have X6:=X5.setCell 6 (.slice A5 4 c5)
      rw [zvy] at X6
      have O6:=O5.setFar q1 6 hq1W (.slice A5 4 c5)
      have OB6:=OB5.trans (OnlyB.setCell q1 6 W5 (.slice A5 4 c5))
      clear HX2 HO HOB HXX c6 f6 i1 i2 g5 O5 X5 OB5 e5 f5 HS
      generalize W5.setCell _ _=W6 at X6 O6 OB6 ⊢
      go_upto_region 9 with (fail)
      have Y4:=Blk.new W6 (Win.arr ⟨-200000,6000000⟩) 62
      have D7:=zac W6 (.cells (Win.arr ⟨-200000,6000000⟩) 62)
      have X7:=X6.step D7
      have O7:=O6.step D7
      have OB7:=OB6.trans (OnlyB.of D7)
      clear X6 O6 OB6
      generalize hw7:World.alloc W6 _=W7
      have hw7':W6.alloc (.cells (Win.arr ⟨-200000,6000000⟩) 62)=W7:=hw7
      rw [hw7'] at Y4 X7 O7 OB7
      clear hw7 hw7' D7
      generalize W6.heap.size=q4 at Y4 ⊢
      have i1:zcR W7 q4 0:=⟨_,Y4.is_win⟩
      have i2:zcL W7 q4 0=⟨-200000,6000000⟩:=zb8 Y4.is_win
      obtain ⟨aw,haw⟩:∃ aw,aw=zao zwo (some ⟨W7.heap.size,0,none⟩) 3:=⟨_,rfl⟩
      obtain ⟨pts,hpts⟩:∃ p,p=zx5 ([65,47,75,49], -200000,6000000) ([66,47,75,49], -200000,6000000) ([67,47,75,49], -200000,6000000):=⟨_,rfl⟩
      have e7:W7.cell? ⟨q1,7,none⟩=some (.slice none 0 0):=X7.cell 7
      have f7:=X7.frozen 7
      have hs7:q1 < W7.heap.size:=X7.lt
      have hs8:=OB7.size
      have hs9:=HZ2.out.lt
      have hsz:(W7.setCell ⟨q1,7,none⟩ (.slice (some ⟨W7.heap.size+1,0,none⟩) 1 1)).heap.size=W7.heap.size:=by simp [World.setCell]
      have S7:=X7.setCell 7 (.slice (some ⟨W7.heap.size+1,0,none⟩) 1 1)
      rw [zvx] at S7
      have X9:=(S7.alloc (.cells pts 107)).alloc (.cells aw 81)
      have P9:=(Blk.new (W7.setCell ⟨q1,7,none⟩ (.slice (some ⟨W7.heap.size+1,0,none⟩) 1 1)) pts 107).alloc (.cells aw 81)
      have A9:=Blk.new ((W7.setCell ⟨q1,7,none⟩ (.slice (some ⟨W7.heap.size+1,0,none⟩) 1 1)).alloc (.cells pts 107)) aw 81
      rw [World.size_alloc,hsz] at A9
      rw [hsz] at P9
      have O9:=((O7.setFar q1 7 hq1W (.slice (some ⟨W7.heap.size+1,0,none⟩) 1 1)).alloc (.cells pts 107)).alloc (.cells aw 81)
      have OB9:=((OB7.trans (OnlyB.setCell q1 7 W7 (.slice (some ⟨W7.heap.size+1,0,none⟩) 1 1))).trans (OnlyB.of (zac _ (.cells pts 107)))).trans (OnlyB.of (zac _ (.cells aw 81)))
      have HAW:=Lib.hid haw
      have HPT:=Lib.hid hpts
      have HX9:=Lib.hid X9
      have HP9:=Lib.hid P9
      have HA9:=Lib.hid A9
      have HO9:=Lib.hid O9
      have HOB9:=Lib.hid OB9
      clear X7 O7 OB7 haw hpts S7 X9 P9 A9 O9 OB9 hsz
      go_upto_region 10 with (fail)
      rw [← HAW.out,← HPT.out]
      clear e7 f7
      have X9:=HX9.out
      have P9:=HP9
      have A9:=HA9
      have O9:=HO9
      have OB9:=HOB9
      clear HX9 HP9 HA9 HO9 HOB9
      generalize World.alloc (World.alloc _ _) _=W9 at X9 P9 A9 O9 OB9 ⊢
      have h7:q0 < W7.heap.size:=by omega
      have h27:W2.heap.size≤W7.heap.size:=hs8
      obtain ⟨gp,hgp⟩:∃ g,g=W7.heap.size:=⟨_,rfl⟩
      rw [← hgp] at X9 P9 A9 h7 HAW h27 ⊢
      clear hs8 hs7 hgp
      have Z9:=HZ2.out.only OB9.out hq01
      have d2:=Z9.plain
      have d3:=Z9.of
      have j1:za7 W9 q1 0:=⟨_,X9.is_db rfl⟩
      have j2:zbQ W9 q1 0=dbM (.slice A5 4 c5) (.slice (some ⟨gp+1,0,none⟩) 1 1):=zaL (X9.is_db rfl)
      have B9:=OB9.out.below HB2.out hq1w
      have O10:=O9.out.below (W':=W9.setRow q0 (dbM (.slice A5 4 c5) (.slice (some ⟨gp+1,0,none⟩) 1 1))) (fun k hk _=>setRow_other W9 q0 k _ (by omega))
      have P10:=P9.out.far (g':=q0) (by omega) (dbM (.slice A5 4 c5) (.slice (some ⟨gp+1,0,none⟩) 1 1))
      have A10:=A9.out.far (g':=q0) (by omega) (dbM (.slice A5 4 c5) (.slice (some ⟨gp+1,0,none⟩) 1 1))
      have HZ9:=Lib.hid Z9
      have HB9:=Lib.hid B9
      have HO10:=Lib.hid O10
      have HP10:=Lib.hid P10
      have HA10:=Lib.hid A10
      clear X9 O10 P10 A10 Z9 B9 P9 A9 O9
      go_wp2
      refine bodyPost_ret (zbM Tryz.results28 _ _ q0 (dbM (.slice A5 4 c5) (.slice (some ⟨gp+1,0,none⟩) 1 1)) 9 _ rfl rfl (HZ9.out.set _).cell Tryz.underlying37 rfl zmw) rfl ⟨⟨dbM (.slice A5 4 c5) (.slice (some ⟨gp+1,0,none⟩) 1 1),16920000, -43920000,A5,4,c5⟩,rfl,?_,zab HB9.out hq0w _⟩
      obtain ⟨A3,c3,e3,hl3,hI3,_,_⟩:=HO10.out.form (fun y hy=>(List.mem_append.1 hy).elim (zwR _ y) (fun h=>by rw [List.mem_singleton.1 h];rfl))
      rw [HLN.out] at e3 hl3
      injection e3 with e4 e5 e6
      subst e4
      subst e6
      refine ⟨⟨⟨rfl,rfl,rfl,rfl⟩,rfl,hl3,hI3,by decide,zle⟩,rfl,rfl,⟨some ⟨gp+1,0,none⟩,1,rfl,Nat.le_refl _,⟨⟨[aw],rfl,zu6 HA10.out (by rw [HAW.out];rfl),?_⟩⟩⟩,⟨none,0,rfl,Nat.le_refl _,⟨⟨[],rfl,Items.nil _ _ _,fun i cs x h=>by simp at h⟩⟩⟩,by decide,by decide,?_,fun p hp=>by cases hp⟩
      · intro i cs x hcs hx
        match i,hcs,hx with
        | 0,hcs,hx=>
          obtain rfl:aw=cs:=by simpa using hcs
          obtain rfl:zwo=x:=by simpa [gM] using hx
          exact ⟨⟨some ⟨gp,0,none⟩,3,HAW.out,Nat.le_refl _,zqU (by have:=HP10.out;rw [HPT.out] at this;exact this)⟩⟩
        | i+1,hcs,hx=>simp at hcs
      · intro a ha
        obtain rfl:a=zwo:=by simpa [gM] using ha
        exact ⟨by decide,by decide,fun p hp=>by
          simp only [zwo,List.mem_cons,List.not_mem_nil,or_false] at hp
          rcases hp with rfl | rfl | rfl <;> decide⟩
end Go.Proofs.YtgoeedohgomodaaGreatDoor
namespace Go.Proofs.YtgoeedohgomodaaGreatDoor
open Go.RowKit Go.Sort
set_option maxRecDepth 100000
def zyh:List UInt8:=[75,83,69,65,47,82,87,49,54,76,32,68,61,83,85,77,77,65,50,46,66,84,71,32,86,50,51,32,66,84,71,47,75,49,32,75,80,68,88]
def zyg:List UInt8:=[75,83,69,65]
def zyf:List UInt8:=[75,83,69,65,32,68,61,65,32,66,84,71,32,68,61,66,32,75,80,68,88]
def zye:List UInt8:=[75,83,69,65,32,32,75,80,68,88]
def zyd:List UInt8:=[75,83,69,65,32,65,47,75,49,32,86,50,51,32,67,32,75,83,69,65]
def s22f:List UInt8:=[75,83,69,65,32,65,47,75,49,32,86,50,51,32,66,47,75,49,32,86,50,51,32,67,47,75,49,32,75,83,69,65,47,75,49,32,75,83,69,65]
def l22a:List ItemV:=[⟨1,[75,83,69,65],[82,87,49,54,76]⟩,⟨2,[83,85,77,77,65,50],[66,84,71]⟩,⟨3,[86,50,51],[]⟩,⟨4,[66,84,71,47,75,49],[]⟩,⟨8,[75,80,68,88],[]⟩]
def ztc (t:Int) (f:List UInt8):Leg:=⟨t,f,[],0,false,0,0,0,0, -200000,6000000,0,0⟩
def p22:Plan:=⟨[75,83,69,65],[75,83,69,65],
  [⟨false,ztc 1 [75,83,69,65,47,75,49],0,0,0,0,2,[]⟩,⟨false,ztc 2 [65,47,75,49],68200,121,0,0,2,[]⟩,⟨false,ztc 2 [66,47,75,49],136401,484,0,0,2,[86,50,51]⟩,
   ⟨false,ztc 2 [67,47,75,49],204602,1088,0,0,2,[86,50,51]⟩,⟨false,ztc 2 [75,83,69,65,47,75,49],0,0,0,0,2,[]⟩], -1⟩
theorem zxX:zag zyh=((l22a,0),0):=by kernel_rfl
theorem zxW:zag zyg=(([],1),4):=by kernel_rfl
theorem zxV:zag zyf=(([],3),9):=by kernel_rfl
theorem zxU:zag zye=(([],1),4):=by kernel_rfl
theorem zxT:zbR (zai gM) zyd=((p22,0),0):=by kernel_rfl
theorem zxS:znx p22=s22f:=by kernel_rfl
theorem zvo:gM.short:=by
  refine ⟨?_,?_,fun p hp=>by cases hp⟩
  · intro f hf
    have:=zle f hf
    simp only [gM,fixesM,List.mem_cons,List.not_mem_nil,or_false] at hf
    rcases hf with rfl | rfl | rfl | rfl <;> exact ⟨by decide,by decide⟩
  · intro a ha p hp
    obtain rfl:a=zwo:=by simpa [gM] using ha
    simp only [zwo,List.mem_cons,List.not_mem_nil,or_false] at hp
    rcases hp with rfl | rfl | rfl <;> decide
theorem zsJ:p22.small:=by
  refine ⟨by decide,by decide,by decide,?_⟩
  intro x hx
  simp only [p22,List.mem_cons,List.not_mem_nil,or_false] at hx
  rcases hx with rfl | rfl | rfl | rfl | rfl <;> exact ⟨⟨by decide,by decide⟩,by decide⟩
attribute [local go_sem ↓] zhj zoB
attribute [local go_sem] zgT s22f
set_option maxHeartbeats 2000000 in
theorem zpx (w:World) (hL:Laid w):Calls Tryz.prog 10 #[] w (Ret w (.bool true)):=by
  have ka:=Lib.hid (fun W (b:Below w.heap.size w W)=>show Calls Tryz.prog 11 #[.string ⟨#[75,83,69,65,47,82,87,49,54,76,32,68,61,83,85,77,77,65,50,46,66,84,71,32,86,50,51,32,66,84,71,47,75,49,32,75,80,68,88]⟩] W (RetItms W ((l22a,0),0)) from zxX ▸ zeA zyh (by decide) W (hL.below b))
  have kb:=Lib.hid (fun W (b:Below w.heap.size w W)=>show Calls Tryz.prog 11 #[.string ⟨#[75,83,69,65]⟩] W (RetItms W (([],1),4)) from zxW ▸ zeA zyg (by decide) W (hL.below b))
  have kc:=Lib.hid (fun W (b:Below w.heap.size w W)=>show Calls Tryz.prog 11 #[.string ⟨#[75,83,69,65,32,68,61,65,32,66,84,71,32,68,61,66,32,75,80,68,88]⟩] W (RetItms W (([],3),9)) from zxV ▸ zeA zyf (by decide) W (hL.below b))
  have kd:=Lib.hid (fun W (b:Below w.heap.size w W)=>show Calls Tryz.prog 11 #[.string ⟨#[75,83,69,65,32,32,75,80,68,88]⟩] W (RetItms W (([],1),4)) from zxU ▸ zeA zye (by decide) W (hL.below b))
  have ke:=Lib.hid (fun (d:DBs) W (b:Below w.heap.size w W) (hD:GdAt W d gM)=>show Calls Tryz.prog 17 #[.agg d.cells, .string ⟨#[75,83,69,65,32,65,47,75,49,32,86,50,51,32,67,32,75,83,69,65]⟩] W (RetEx W ((p22,0),0)) from zxT ▸ zjg d gM zyd (by decide) W (hL.below b) hD zvo)
  have kf:=Lib.hid (fun A c W (b:Below w.heap.size w W) (hc:p22.es.length≤c) (hE:Ents W A p22.es)=>show Calls Tryz.prog 20 #[.agg (p22.arr A c)] W (Ret W (.string ⟨s22f.toArray⟩)) from zxS ▸ zqJ p22 A c W (hL.below b) zsJ hc hE)
  clear hL
  go_enter Tryz.func10,Tryz.ntmps10
  go_upto_region 2 with (go_at_call 11;(with_reducible refine zen (ka.out _ (Below.refl _ _)) ?_);intro A1 c1 w1 hc1 I1 _ b1)
  obtain ⟨b,off,hA,_,hcl⟩:=I1.get (k:=0) (by decide)
  have HI:∀ k (h:k < l22a.length),zfA w1 b (off+k * 3) l22a[k]:=fun k h=>by
    obtain ⟨b',off',hA',_,hIs⟩:=I1.itm h
    rw [hA] at hA'
    injection hA' with e
    injection e with e1 e2
    subst e1
    subst e2
    exact hIs w1 (Below.refl _ _)
  subst hA
  have hl5:l22a.length=5:=rfl
  rw [hl5] at hc1 ⊢
  have i1:zak w1 b (off+3):=⟨_,HI 1 (by decide)⟩
  have i2:zar w1 b (off+3)=⟨2,[83,85,77,77,65,50],[66,84,71]⟩:=zam (HI 1 (by decide))
  have i3:w1.cell? ⟨b,off+6,none⟩=some (.int .u8 3):=HI 2 (by decide) 0 (by decide)
  have i4:w1.cell? ⟨b,off+9,none⟩=some (.int .u8 4):=HI 3 (by decide) 0 (by decide)
  have hq:ItemV.eqB ⟨2,[83,85,77,77,65,50],[66,84,71]⟩ ⟨2,[83,85,77,77,65,50],[66,84,71]⟩=true:=by decide
  have hn1:(1:Nat) < c1:=by omega
  have hn2:(2:Nat) < c1:=by omega
  have hn3:(3:Nat) < c1:=by omega
  have B1:=Lib.hid b1
  clear HI hcl I1 b1 hl5
  go_upto_region 9 with (first
    | (go_at_call 11;(with_reducible refine zen (kb.out _ B1.out) ?_);intro A2 c2 w2 _ _ _ b2)
    | (go_at_call 11;(with_reducible refine zen (kc.out _ (zaa B1.out b2)) ?_);intro A3 c3 w3 _ _ _ b3)
    | (go_at_call 11;(with_reducible refine zen (kd.out _ (zaa (zaa B1.out b2) b3)) ?_);intro A4 c4 w4 _ _ _ b4))
  have B4:=Lib.hid (zaa (zaa (zaa B1.out b2) b3) b4)
  clear i1 i2 i3 i4 hq hn1 hn2 hn3 b2 b3 b4 B1 hc1
  go_upto_region 10 with (first
    | (go_at_call 28;(with_reducible refine zxC (zox _) ?_);intro d w5 D5 b5)
    | (go_at_call 17;(with_reducible refine ztN (ke.out d _ (zaa B4.out b5) D5) ?_);intro A6 c6 w6 hc6 E6 b6))
  have bA:=zac w6 (.cells (p22.arr A6 c6) 43)
  have Q:=Blk.new w6 (p22.arr A6 c6) 43
  have E7:=E6.below (B:=0) bA
  have B7:=Lib.hid (zaa (zaa (zaa B4.out b5) b6) bA)
  clear b5 b6 bA D5 E6 B4
  generalize hw7:World.alloc w6 _=w7
  have hw7':w6.alloc (.cells (p22.arr A6 c6) 43)=w7:=hw7
  rw [hw7'] at Q E7 B7
  clear hw7 hw7'
  generalize w6.heap.size=gq at Q ⊢
  have i1:zcB w7 gq 0:=⟨_,Q.is_plan rfl⟩
  have i2:zcN w7 gq 0=p22.arr A6 c6:=zb9 (Q.is_plan rfl)
  have kp:=Lib.hid (kf.out A6 c6 w7 B7.out hc6 E7)
  have hc5:5≤c6:=hc6
  have c2:w7.cell? ⟨gq,2,none⟩=some (.slice A6 5 c6):=Q.cell 2
  obtain ⟨bl,ol,hL,hbl,hc3⟩:=E7.get (k:=3) (by decide)
  obtain ⟨bl',ol',hL',_,hc4⟩:=E7.get (k:=4) (by decide)
  rw [hL] at hL'
  injection hL' with e
  injection e with e1 e2
  subst e1
  subst e2
  subst hL
  have k1:w7.cell? ⟨bl,ol+60+1+1,none⟩=some (.string ⟨#[67,47,75,49]⟩):=hc3 2 (by decide)
  have k2:w7.cell? ⟨bl,ol+60+19,none⟩=some (.string ⟨#[86,50,51]⟩):=hc3 19 (by decide)
  have k3:w7.cell? ⟨bl,ol+80+1+1,none⟩=some (.string ⟨#[75,83,69,65,47,75,49]⟩):=hc4 2 (by decide)
  have k1':w7.cell? ⟨bl,ol+62,none⟩=some (.string ⟨#[67,47,75,49]⟩):=hc3 2 (by decide)
  have k2':w7.cell? ⟨bl,ol+79,none⟩=some (.string ⟨#[86,50,51]⟩):=hc3 19 (by decide)
  have k3':w7.cell? ⟨bl,ol+82,none⟩=some (.string ⟨#[75,83,69,65,47,75,49]⟩):=hc4 2 (by decide)
  clear hc3 hc4 hbl E7 hc6 Q
  go_wp2_with (go_at_call 20;(with_reducible refine zaj kp.out ?_);intro w8 b8 _ _ _)
  go_ret
  exact Ret.bool rfl (zaa B7.out b8)
end Go.Proofs.YtgoeedohgomodaaGreatDoor
