/- Lemmas and walks. -/
import Derived.Test.YtgoeedohgomodaaGreatDoorQk36
import Derived.Test.YtgoeedohgomodaaGreatDoorQk37
import Derived.Test.YtgoeedohgomodaaGreatDoorQk32
import Derived.Test.YtgoeedohgomodaaGreatDoorQk27
set_option linter.unusedSimpArgs false
set_option linter.unusedVariables false
namespace Go.Proofs.YtgoeedohgomodaaGreatDoor
open Go.RowKit Go.Sort
set_option maxRecDepth 100000
theorem zet (a:AwyV) (f t:List UInt8) (h:∀ p ∈ a.pts,p.ref.length≤4000000000):(zaG a f t).1.length≤40:=by
  unfold zaG
  split
  · simp
  rename_i h1
  have h1:zbl a=0:=by simpa using h1
  have hl:=zeo h1
  split
  · simp
  rename_i h2
  split
  · simp
  have i1:=ze2 f a.pts 0 (by omega)
  have i2:=ze2 t a.pts 0 (by omega)
  split
  · obtain ⟨k1,k2⟩:=zlE h ((zbT t a.pts 0).toNat - (zbT f a.pts 0).toNat) (zbT f a.pts 0).toNat [] (fun q hq=>by cases hq)
    simp only [List.length_nil] at k1;omega
  · obtain ⟨k1,k2⟩:=zlF h ((zbT f a.pts 0).toNat - (zbT t a.pts 0).toNat) (zbT f a.pts 0).toNat [] (fun q hq=>by cases hq)
    simp only [List.length_nil] at k1;omega
theorem zej {p:ProcV} (h:∀ x ∈ p.parts,∀ l ∈ x.legs,l.small):(zbf p).length≤24∧∀ l ∈ zbf p,l.small:=by
  unfold zbf
  split
  · exact ⟨by simp,fun q hq=>by cases hq⟩
  rename_i h1
  have h1:zay p=0:=by simpa using h1
  cases hq:zaY 4 [] p.parts with
  | none=>exact ⟨by simp,fun q hq=>by cases hq⟩
  | some x=>exact ⟨(zg2 h1 x (zfp hq)).1,h x (zfp hq)⟩
structure LOk (n:Nat) (l:List Entry):Prop where
  chain:ChainR l
  len:l.length≤n
  small:∀ x ∈ l,x.small
theorem LOk.mono {n m:Nat} {l:List Entry} (h:LOk n l) (k:n≤m):LOk m l:=⟨h.chain,Nat.le_trans h.len k,h.small⟩
theorem LOk.nil:LOk 0 []:=⟨.nil,Nat.le_refl _,fun x h=>by cases h⟩
theorem zev {R:zbS} {n k:Nat} {l:List Entry} (h:LOk n l) {legs:List Leg} (s:Int) {via:List UInt8} (hl:legs.length≤k) (hs:∀ x ∈ legs,x.small) (hv:via.length≤4000000000):LOk (n+2 * k) (zcn R l legs s via).1:=by
  have hn:=zvM R l legs s via h.chain.again
  have hc:=(zdf (R:=R) h.chain legs s via).1
  refine ⟨hc,by have:=h.len;omega,?_⟩
  unfold zcn
  split
  · exact h.small
  · have hb:=zpv (pt:=R.pt) (s:=s) hl hs hv
    exact (zpa (n:=l.length+k) ⟨by rw [List.length_append];have:=hb.1;omega,fun x hx=>(List.mem_append.1 hx).elim (h.small x) (hb.2 x)⟩).2
theorem zci {x:ItemV} (h:x.short) (c:UInt8):(zbC x.name c x.trans).length≤4000000000:=by
  have:=zfC x.name c x.trans
  have:=h.1
  have:=h.2
  omega
theorem znQ:noItem.short:=⟨by simp [noItem],by simp [noItem]⟩
theorem zaM {xs:List ItemV} (h:∀ x ∈ xs,x.short) (i:Nat):(xs.getD i noItem).short:=by
  rw [List.getD_eq_getElem?_getD]
  cases hq:xs[i]? with
  | none=>exact znQ
  | some x=>exact h x (List.mem_of_getElem? hq)
theorem zcJ {t:Int} {r:List UInt8} (h:r.length≤4000000000):∀ x ∈ [zaI t r],x.small:=fun x hx=>by
  obtain rfl:x=zaI t r:=by simpa using hx
  exact zos h
theorem zgo {q:List UInt8 × Int × Int} (h:q.1.length≤4000000000):(zfb q).small:=⟨h,by simp [zfb,zaI]⟩
theorem zmr {G:GDB} (hG:G.short) {n:Nat} {l:List Entry} (h:LOk n l) {x y:ItemV} (hx:x.short) (k s:Int):LOk (n+2000) (zeY (zai G) l x y k s).1:=by
  unfold zeY
  cases hp:(zai G).proc y.name k x.name with
  | none=>exact h.mono (by omega)
  | some p=>
    have hm:p ∈ G.procs:=zbh (show zas y.name k x.name G.procs=some p from hp)
    dsimp only
    split
    · exact h.mono (by omega)
    · have e:=zeq (hG.prc p hm) y.trans x.trans
      exact zev h s e.1 e.2 (zci hx 46)
theorem zua {G:GDB} (hG:G.short) {n:Nat} {l:List Entry} (h:LOk n l) {a:AwyV} (ha:∀ p ∈ a.pts,p.ref.length≤4000000000) (hn:a.name.length≤4000000000) (y:ItemV) (i:Nat):LOk (n+2000) (zbb (zai G) l a y i).1:=by
  unfold zbb
  rcases zfW (zai G) a y i with ⟨_ | e,je⟩
  · exact h.mono (by omega)
  · dsimp only
    cases l.getLast? with
    | none=>exact h.mono (by omega)
    | some z=>
      dsimp only
      split
      · exact h.mono (by omega)
      · split
        · exact h.mono (by omega)
        · have e1:=zet a z.leg.fix e ha
          have e2:=(zfz ha z.leg.fix e).2
          exact (zev h (k:=40) 2 (by rw [List.length_map];exact e1) (fun q hq=>by
            obtain ⟨p,hp,rfl⟩:=List.mem_map.1 hq
            exact zgo (e2 p hp)) hn).mono (by omega)
theorem zhu {G:GDB} (hG:G.short) (pt:List UInt8→(Int × Int) × Int) (at_:Int × Int) (n:List UInt8):∀ (l:List FixV) (best:List UInt8) (far:Int),(∀ f ∈ l,f ∈ G.fixes)→best.length≤4000000000→(zcA pt at_ n l best far).1.length≤4000000000
  | [],best,far,_,hb=>by
    unfold zcA
    split
    · simp
    · exact hb
  | f :: r,best,far,hm,hb=>by
    have hf:=hG.fix f (hm f (by simp))
    have hr:f.ref.length≤4000000000:=by
      unfold FixV.ref
      rw [List.length_append,List.length_cons]
      omega
    unfold zcA
    split
    · exact zhu hG pt at_ n r _ _ (fun x hx=>hm x (by simp [hx])) hr
    · exact zhu hG pt at_ n r _ _ (fun x hx=>hm x (by simp [hx])) hb
theorem zjx {G:GDB} (hG:G.short) (l:List Entry) (n:List UInt8):(zd7 G l n).1.length≤4000000000:=
  zhu hG _ _ n G.fixes [] 0 (fun _ h=>h) (by simp)
theorem zoX {G:GDB} (hG:G.short) {n:Nat} {l:List Entry} (h:LOk n l) {x:ItemV} (hx:x.short) (w:List UInt8):LOk (n+2000) (zcM (zai G) l x w).1:=by
  have hp:((zai G).place w).1.length≤4000000000:=zdW hG w
  unfold zcM
  split
  · exact h.mono (by omega)
  · split
    · exact (zev h (k:=1) 1 (by simp) (zcJ hp) (zci hx 46)).mono (by omega)
    · exact (zev h (k:=1) 2 (by simp) (zcJ hp) (by simp)).mono (by omega)
theorem zs5 {G:GDB} (hG:G.short) (hN:∀ a ∈ G.airways,a.small) {n:Nat} {l:List Entry} (h:LOk n l) (x y:ItemV) (i:Nat):LOk (n+2000) (zfV (zai G) l x y i).1:=by
  unfold zfV
  cases hp:(zai G).awy x.name with
  | none=>
    dsimp only [atI]
    split
    · exact h.mono (by omega)
    · exact (zev h (k:=1) 2 (by simp) (zcJ (zjx hG l x.name)) (by simp)).mono (by omega)
  | some a=>
    have hm:a ∈ G.airways:=ze5 (show zaU x.name G.airways=some a from hp)
    exact zua hG h (hG.air a hm) (Nat.le_trans (hN a hm).name (by omega)) y i
theorem ztD {G:GDB} (hG:G.short) {n:Nat} {l:List Entry} (h:LOk n l) {x y:ItemV} (hy:y.short) (w:List UInt8) (i:Nat):LOk (n+2000) (zdH (zai G) l x y w i).1:=by
  have hp:((zai G).place w).1.length≤4000000000:=zdW hG w
  unfold zdH
  split
  · exact h.mono (by omega)
  · split
    · exact h.mono (by omega)
    · have g:=zev (R:=zai G) h (k:=1) (legs:=[zaI 2 ((zai G).place w).1]) (via:=[]) (l.getLast?.getD gapE).sec (by simp) (zcJ hp) (by simp)
      split
      · have hm:(zbf (((zai G).proc x.name 3 y.name).getD zaA)).length≤24∧∀ l ∈ zbf (((zai G).proc x.name 3 y.name).getD zaA),l.small:=by
          cases hq:(zai G).proc x.name 3 y.name with
          | none=>exact zej (fun z hz=>by cases hz)
          | some p=>exact zej (hG.prc p (zbh (show zas x.name 3 y.name G.procs=some p from hq)))
        split
        · exact h.mono (by omega)
        · exact (zev g 5 hm.1 hm.2 (zci hy 46)).mono (by omega)
      · exact g.mono (by omega)
theorem zpD {G:GDB} (hG:G.short) (hN:∀ a ∈ G.airways,a.small) {n:Nat} {l:List Entry} (h:LOk n l) {items:List ItemV} (hs:∀ x ∈ items,x.short) (w:List UInt8) (i:Nat):LOk (n+2000) (zah (zai G) items w i l).1:=by
  unfold zah
  split
  · exact zoX hG h (zaM hs _) _
  · split
    · exact zmr hG h (zaM hs _) _ _
    · split
      · exact (zev h (k:=1) 2 (by simp) (zcJ (Nat.le_trans (zaM hs i).1 (by omega))) (by simp)).mono (by omega)
      · split
        · exact zs5 hG hN h _ _ _
        · split
          · exact zmr hG h (zaM hs _) _ _
          · split
            · exact zmr hG h (zaM hs _) _ _
            · split
              · exact ztD hG h (zaM hs _) _ _
              · exact h.mono (by omega)
structure RS (w:World) (d:DBs) (G:GDB) (iA:Option Addr) (ic:Nat) (xs:List ItemV):Prop where
  laid:Laid w
  gd:GdAt w d G
  sh:G.short
  its:Items w iA 3 (xs.map ItemV.arr)
  cap:xs.length≤ic
  xsS:∀ x ∈ xs,x.short
def RetBI (w W:World) (g:Nat) (cs:Array Value) (iv:Value) (r:List Entry × (Int × Int)) (e:Ending) (W':World):Prop:=
  ∃ L c,e=.returned (.tuple #[.int .i64 r.2.1, .int .i64 r.2.2])∧Bu w W' g cs iv L c r.1∧OnlyB g W W'
theorem zwk {P:Program} {f:FuncId} {args:Array Value} {w W:World} {g:Nat} {cs:Array Value} {iv:Value} {r:List Entry × (Int × Int)} {K:Ending→World→Prop} (h:Calls P f args W (RetBI w W g cs iv r))
    (k:∀ L c W',Bu w W' g cs iv L c r.1→OnlyB g W W'→K (.returned (.tuple #[.int .i64 r.2.1, .int .i64 r.2.2])) W'):Calls P f args W K:=
  h.mono fun e W' ⟨L,c,he,h1,h2⟩=>by subst he;exact k L c W' h1 h2
theorem RS.itm {w:World} {d:DBs} {G:GDB} {iA:Option Addr} {ic:Nat} {xs:List ItemV} (h:RS w d G iA ic xs) {i:Nat} (hi:i < xs.length):∃ b off,iA=some ⟨b,off,none⟩∧i < ic∧∀ W,Below w.heap.size w W→zfA W b (off+i * 3) (xs.getD i noItem):=by
  obtain ⟨b,off,e,_,hc⟩:=h.its.itm hi
  refine ⟨b,off,e,Nat.lt_of_lt_of_le hi h.cap,fun W hB=>?_⟩
  have:=hc W hB
  rwa [List.getD_eq_getElem?_getD,List.getElem?_eq_getElem hi]
theorem RetBI.same {w W W':World} {g:Nat} {cs:Array Value} {iv:Value} {L:Option Addr} {c:Nat} {es:List Entry} {r:List Entry × (Int × Int)} {i n:Int} (hr:r=(es,(i,n))) (h:Bu w W' g cs iv L c es) (o:OnlyB g W W'):
    RetBI w W g cs iv r (.returned (.tuple #[.int .i64 i, .int .i64 n])) W':=by
  subst hr
  exact ⟨L,c,rfl,h,o⟩
theorem RetBu.same {w W W':World} {g:Nat} {cs:Array Value} {iv:Value} {L:Option Addr} {c:Nat} {es:List Entry} {r:List Entry × Int} {n:Int} (hr:r=(es,n)) (h:Bu w W' g cs iv L c es) (o:OnlyB g W W'):
    RetBu w W g cs iv r (.returned (.int .i64 n)) W':=by
  subst hr
  exact ⟨L,c,rfl,h,o⟩
theorem RS.add {w:World} {d:DBs} {G:GDB} {iA:Option Addr} {ic:Nat} {xs:List ItemV} (hS:RS w d G iA ic xs) {W:World} {g:Nat} {iv:Value} {L:Option Addr} {c:Nat} {es:List Entry} (h:Bu w W g d.cells iv L c es)
    (legs:List Leg) (A:Option Addr) (ca:Nat) (sec:Int) (via:List UInt8) (hI:Items W A 13 (legs.map Leg.arr)) (hlc:legs.length≤ca) (hn:legs.length≤100000) (hs:∀ x ∈ legs,x.small) (hv:via.length≤4000000000) (he:es.length≤300000):
    Calls Tryz.prog 70 #[.pointer (some ⟨g,0,none⟩), .slice A legs.length ca, .int .u8 sec, .string ⟨via.toArray⟩] W (RetBu w W g d.cells iv (zcn (zai G) es legs sec via)):=by
  have:=zvK d G.fixes es L c g iv legs A ca sec via w W h (hS.laid.below h.bel) (hS.gd.db.below h.bel) hI hlc hn hs hv he
  rw [hS.gd.lat,hS.gd.lon] at this
  exact this
theorem zvI (w:World) (a b:Array Value) (s t:TypeId):Blk ((w.alloc (.cells a s)).alloc (.cells b t)) w.heap.size a∧Blk ((w.alloc (.cells a s)).alloc (.cells b t)) (w.heap.size+1) b∧Below w.heap.size w ((w.alloc (.cells a s)).alloc (.cells b t)):=by
  refine ⟨(Blk.new w a s).alloc _,?_,zaa (zac _ _) (zac _ _)⟩
  have:=Blk.new (w.alloc (.cells a s)) b t
  rwa [World.size_alloc] at this
theorem zba (W:World) (b o:Nat):za7 W.drew b o=za7 W b o:=propext ⟨fun h=>h,fun h=>h⟩
theorem zbs (W:World) (b o:Nat):zbQ W.drew b o=zbQ W b o:=rfl
theorem zgd (W:World) (b o:Nat):za1 W.drew b o=za1 W b o:=propext ⟨fun h=>h,fun h=>h⟩
theorem zg8 (W:World) (b o:Nat):zbe W.drew b o=zbe W b o:=rfl
theorem zie (W:World) (b o:Nat):zbw W.drew b o=zbw W b o:=propext ⟨fun h=>h,fun h=>h⟩
theorem zjp (W:World) (b o:Nat):zcr W.drew b o=zcr W b o:=rfl
theorem zei (W:World) (b o:Nat):za9 W.drew b o=za9 W b o:=rfl
theorem zcm {n:Nat} {W W':World} (b:Below n W.drew W'):Below n W W':=(Below.refl _ _).drew.trans b
end Go.Proofs.YtgoeedohgomodaaGreatDoor
namespace Go.Proofs.YtgoeedohgomodaaGreatDoor
open Go.RowKit Go.Sort
set_option maxRecDepth 100000
theorem zbY (W:World) (b o:Nat):zar W.drew b o=zar W b o:=rfl
theorem zbV (w:World) (g:Nat) (cs:Array Value):w.drew.setRow g cs=(w.setRow g cs).drew:=rfl
theorem zaP (w:World) (a b a' b':Array Value) (s t:TypeId):Blk ((((w.alloc (.cells a s)).alloc (.cells b t)).setRow (w.heap.size+1) b').setRow w.heap.size a') w.heap.size a' ∧
    Blk ((((w.alloc (.cells a s)).alloc (.cells b t)).setRow (w.heap.size+1) b').setRow w.heap.size a') (w.heap.size+1) b' ∧
    Below w.heap.size w ((((w.alloc (.cells a s)).alloc (.cells b t)).setRow (w.heap.size+1) b').setRow w.heap.size a'):=by
  have h2:Blk ((w.alloc (.cells a s)).alloc (.cells b t)) (w.heap.size+1) b:=by have:=Blk.new (w.alloc (.cells a s)) b t;rwa [World.size_alloc] at this
  refine ⟨(((Blk.new w a s).alloc _).far (by omega) _).set a',(h2.set b').far (by omega) _,?_⟩
  exact zab (zab (zaa (zac _ _) (zac _ _)) (by omega) _) (Nat.le_refl _) _
theorem zcl (w:World) (z v:Array Value) (t:TypeId):Blk ((w.alloc (.cells z t)).setRow w.heap.size v) w.heap.size v∧Below w.heap.size w ((w.alloc (.cells z t)).setRow w.heap.size v):=
  ⟨(Blk.new w z t).set v,zab (zac _ _) (Nat.le_refl _) _⟩
theorem Blk.only {g:Nat} {W W':World} {q:Nat} {cs:Array Value} (h:Blk W q cs) (o:OnlyB g W W') (hne:q ≠ g):Blk W' q cs:=by
  have hl:=h.lt
  obtain ⟨t,e⟩:=h
  exact ⟨t,(o.block q hl hne).trans e⟩
def RetSt (w W:World) (g:Nat) (cs:Array Value) (iv:Value) (r:List Entry × (Int × Int)) (e:Ending) (W':World):Prop:=
  e=.returned (.tuple #[.int .i64 r.2.1, .int .i64 r.2.2])∧OnlyB g W W'∧(r.2.2=0→∃ L c,Bu w W' g cs iv L c r.1)
theorem zwh {P:Program} {f:FuncId} {args:Array Value} {w W:World} {g:Nat} {cs:Array Value} {iv:Value} {r:List Entry × (Int × Int)} {K:Ending→World→Prop} (h:Calls P f args W (RetSt w W g cs iv r))
    (k:∀ W',OnlyB g W W'→(r.2.2=0→∃ L c,Bu w W' g cs iv L c r.1)→K (.returned (.tuple #[.int .i64 r.2.1, .int .i64 r.2.2])) W'):Calls P f args W K:=
  h.mono fun e W' ⟨he,h1,h2⟩=>by subst he;exact k W' h1 h2
theorem RetSt.of {w W W':World} {g:Nat} {cs:Array Value} {iv:Value} {L:Option Addr} {c:Nat} {r:List Entry × (Int × Int)} {q:List Entry × Int} {i:Int} (hr:r=(q.1,(i,q.2))) (h:Bu w W' g cs iv L c q.1) (o:OnlyB g W W'):
    RetSt w W g cs iv r (.returned (.tuple #[.int .i64 i, .int .i64 q.2])) W':=by
  subst hr
  exact ⟨rfl,o,fun _=>⟨L,c,h⟩⟩
theorem RetSt.err {w W W':World} {g:Nat} {cs:Array Value} {iv:Value} {r:List Entry × (Int × Int)} {i n:Int} (hr:r.2=(i,n)) (hn:n ≠ 0) (o:OnlyB g W W'):
    RetSt w W g cs iv r (.returned (.tuple #[.int .i64 i, .int .i64 n])) W':=by
  obtain ⟨l,j,m⟩:=r
  obtain ⟨rfl,rfl⟩:j=i∧m=n:=by simpa using hr
  exact ⟨rfl,o,fun h=>absurd h hn⟩
theorem RS.add1 {w:World} {d:DBs} {G:GDB} {iA:Option Addr} {ic:Nat} {xs:List ItemV} (hS:RS w d G iA ic xs) {W:World} {g:Nat} {iv:Value} {L:Option Addr} {c:Nat} {es:List Entry} (h:Bu w W g d.cells iv L c es)
    (t:Int) (f:List UInt8) (A:Option Addr) (sec:Int) (via:List UInt8) (hI:Items W A 13 ([zol t f (-200000) 6000000].map Leg.arr)) (hf:f.length≤4000000000) (hv:via.length≤4000000000) (he:es.length≤300000):
    Calls Tryz.prog 70 #[.pointer (some ⟨g,0,none⟩), .slice A 1 1, .int .u8 sec, .string ⟨via.toArray⟩] W (RetBu w W g d.cells iv (zcn (zai G) es [zaI t f] sec via)):=
  hS.add h [zaI t f] A 1 sec via hI (Nat.le_refl _) (by simp) (zcJ hf) hv he
theorem RS.add1e {w:World} {d:DBs} {G:GDB} {iA:Option Addr} {ic:Nat} {xs:List ItemV} (hS:RS w d G iA ic xs) {W:World} {g:Nat} {iv:Value} {L:Option Addr} {c:Nat} {es:List Entry} (h:Bu w W g d.cells iv L c es)
    (t:Int) (f:List UInt8) (A:Option Addr) (sec:Int) (hI:Items W A 13 ([zol t f (-200000) 6000000].map Leg.arr)) (hf:f.length≤4000000000) (he:es.length≤300000):
    Calls Tryz.prog 70 #[.pointer (some ⟨g,0,none⟩), .slice A 1 1, .int .u8 sec, .string ⟨#[]⟩] W (RetBu w W g d.cells iv (zcn (zai G) es [zaI t f] sec [])):=
  hS.add1 h t f A sec [] hI hf (by simp) he
attribute [local go_sem] zbY zbv zbu zdh zdd zdb zc9 zda zbV zaO zaT zba zbs
set_option maxHeartbeats 16000000 in
theorem zrA {w:World} {d:DBs} {G:GDB} {iA:Option Addr} {ic:Nat} {xs:List ItemV} (hS:RS w d G iA ic xs) (es:List Entry) (L:Option Addr) (c g:Nat) (W:World) (h:Bu w W g d.cells (.slice iA xs.length ic) L c es) (he:es.length≤250000) (i:Nat) (hi:i < xs.length) (hn:xs.length≤124) (word:List UInt8) (hw:word.length≤4000000000)
    (hk:(xs.getD i noItem).kind=4):
    Calls Tryz.prog 41 #[.pointer (some ⟨g,0,none⟩), .int .i64 i, .string ⟨word.toArray⟩] W (RetSt w W g d.cells (.slice iA xs.length ic) (zah (zai G) xs word i es)):=by
  have HS:=Lib.hid hS
  have HB:=Lib.hid h
  have HXS:=Lib.hid (zaM hS.xsS)
  obtain ⟨m,hm⟩:∃ m,xs.length=m+1:=⟨xs.length - 1,by omega⟩
  obtain ⟨b,off,hiA,hic,hcl⟩:=hS.itm hi
  obtain ⟨b',off',hiA',hmc,hcl'⟩:=hS.itm (i:=m) (by omega)
  obtain ⟨rfl,rfl⟩:b'=b∧off'=off:=by
    rw [hiA] at hiA'
    injection hiA' with e1
    injection e1 with e2 e3
    exact ⟨e2.symm,e3.symm⟩
  have IS:=Lib.hid (fun W' (D:Below W.heap.size W W')=>show W'.cell? ⟨g,9,none⟩=some (.slice (some ⟨b',off',none⟩) (m+1) ic)∧zak W' b' (off'+i * 3)∧zar W' b' (off'+i * 3)=xs.getD i noItem∧zak W' b' (off'+m * 3)∧zar W' b' (off'+m * 3)=xs.getD m noItem from
    ⟨by have:=(HB.out.step D).c9;rw [hiA,hm] at this;exact this,⟨_,hcl W' (HB.out.step D).bel⟩,zam (hcl W' (HB.out.step D).bel),⟨_,hcl' W' (HB.out.step D).bel⟩,zam (hcl' W' (HB.out.step D).bel)⟩)
  have HM:=Lib.hid hm
  have HIA:=Lib.hid hiA
  have HK:=Lib.hid hk
  generalize hx:xs.getD i noItem=x at *
  generalize hz:xs.getD m noItem=z at *
  have HX:=Lib.hid hx
  have HZ:=Lib.hid hz
  have him:i < m+1:=by omega
  have hm124:m≤124:=by omega
  have hlt1:(i:Int) < ((m:Int)+1):=by omega
  have hwr:IntKind.i64.wrap (m:Int)=(m:Int):=by rw [IntKind.wrap_i64];omega
  have hlt2:(m:Int) < ((m:Int)+1):=by omega
  clear hS h hiA hiA' hcl hcl' hx hz hk hm hi hn
  go_enter Tryz.func41,Tryz.ntmps41
  go_upto_region 1 with (fail)
  go_cut [8,9] from 24 to 42 (fun u v wx=>∃ q8 q9,u=.pointer (some ⟨q8,0,none⟩)∧v=.pointer (some ⟨q9,0,none⟩)∧Blk wx q8 x.arr∧Blk wx q9 z.arr∧g < q8∧Below W.heap.size W wx)
  case first=>
    have D2:Below W.heap.size W W.drew:=(Below.refl _ _).drew
    go_region_held3 (fun w'=>w'.cell? ⟨g,9,none⟩=some (.slice (some ⟨b',off',none⟩) (m+1) ic)∧zak w' b' (off'+i * 3)∧zar w' b' (off'+i * 3)=x∧zak w' b' (off'+m * 3)∧zar w' b' (off'+m * 3)=z)
      ((refine IS.out _ ?_;repeat' (first | assumption | omega | (refine zab ?_ ?_ _) | (refine Below.alloc ?_ ?_ _) | (refine Below.drew ?_) | exact Below.refl _ _ | (simp;done) | (simp;omega))))
      (fail)
    all_goals
      go_wp2
      go_meet
      first
        | (obtain ⟨a1,a2,a3⟩:=za5 W noItem.arr x.arr noItem.arr z.arr 57 57;exact ⟨_,_,rfl,rfl,a1.step (Below.refl _ _).drew,a2.step (Below.refl _ _).drew,(by have:=HB.out.lt;omega),a3.drew⟩)
        | (obtain ⟨a1,a2,a3⟩:=zaP W noItem.arr noItem.arr x.arr z.arr 57 57;exact ⟨_,_,rfl,rfl,a1.step (Below.refl _ _).drew,a2.step (Below.refl _ _).drew,(by have:=HB.out.lt;omega),a3.drew⟩)
        | (obtain ⟨a1,a2,a3⟩:=za5 W noItem.arr z.arr noItem.arr x.arr 57 57;exact ⟨_,_,rfl,rfl,a2.step (Below.refl _ _).drew,a1.step (Below.refl _ _).drew,(by have:=HB.out.lt;omega),a3.drew⟩)
        | (obtain ⟨a1,a2,a3⟩:=zaP W noItem.arr noItem.arr z.arr x.arr 57 57;exact ⟨_,_,rfl,rfl,a2.step (Below.refl _ _).drew,a1.step (Below.refl _ _).drew,(by have:=HB.out.lt;omega),a3.drew⟩)
  case rest=>
  obtain ⟨q8,q9,rfl,rfl,X8,X9,hgq,BC⟩:=hcut
  have B1:=HB.out.step BC
  have O1:=Lib.hid (OnlyB.of (g:=g) BC)
  obtain ⟨xk,xn,xt⟩:=x
  obtain rfl:xk=4:=HK.out
  have c0:wc.cell? ⟨q8,0,none⟩=some (.int .u8 4):=X8.cell 0
  have HC:=Lib.hid (show zah (zai G) xs word i es=atI i (zcn (zai G) es [zaI 2 xn] 2 []) by
    unfold zah;rw [HX.out];rfl)
  have hxn:xn.length≤4000000000:=by have:=(HXS.out i).small.1;rw [HX.out] at this;exact this
  have c1:wc.cell? ⟨q8,1,none⟩=some (.string ⟨xn.toArray⟩):=X8.cell 1
  generalize zah (zai G) xs word i es=out at *
  have HB1:=Lib.hid B1
  have HX8:=Lib.hid X8
  clear HX HZ IS HXS X9 B1 X8
  go_upto_region 14 with (fail)
  go_region_with (first
    | (go_at_call 72;(with_reducible refine zaj (zfk _) ?_);intro w2 b2 _ _ _;have f2:Below wc.heap.size wc w2:=zcm b2;have m1:w2.cell? ⟨q8,1,none⟩=some (.string ⟨xn.toArray⟩):=(HX8.out.step f2).cell 1)
    | (go_at_call 71;(with_reducible refine zlo (zhn 2 xn (-200000) 6000000 _) ?_);intro A3 w3 I3 b3;have f3:Below wc.heap.size wc w3:=zaa f2 b3)
    | (go_at_call 70;(with_reducible refine zch (HS.out.add1e (HB1.out.step f3) 2 xn A3 2 I3 hxn (by omega)) ?_);intro L4 c4 w4 B4 O4))
  all_goals
    go_wp2
    go_ret2
    exact RetSt.of HC.out B4 (O1.out.trans ((OnlyB.of f3).trans O4))
end Go.Proofs.YtgoeedohgomodaaGreatDoor
