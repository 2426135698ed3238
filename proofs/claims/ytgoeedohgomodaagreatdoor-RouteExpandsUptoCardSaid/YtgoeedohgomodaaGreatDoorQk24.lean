/- Lemmas and walks. -/
import Derived.Test.YtgoeedohgomodaaGreatDoorQk23
import Derived.Test.YtgoeedohgomodaaGreatDoorQk13
import Derived.Lib.SlBy
set_option linter.unusedSimpArgs false
set_option linter.unusedVariables false
namespace Go.Proofs.YtgoeedohgomodaaGreatDoor
open Go.RowKit
def FixV.arr (x:FixV):Array Value:=#[.string ⟨x.ident.toArray⟩, .string ⟨x.region.toArray⟩, .int .u8 x.kind, .int .i64 x.lat, .int .i64 x.lon, .int .i64 x.elev, .int .i64 x.range]
theorem FixV.arr_size (x:FixV):x.arr.size=7:=rfl
theorem FixV.arr_sz (x:FixV):x.arr.size=7:=by simp [FixV.arr]
theorem FixV.arr_one (x:FixV):x.arr.all (·.oneCell')=true:=by simp [FixV.arr,Value.oneCell']
theorem FixV.arr0 (x:FixV):x.arr[0]? = some (.string ⟨x.ident.toArray⟩):=rfl
theorem FixV.arr1 (x:FixV):x.arr[1]? = some (.string ⟨x.region.toArray⟩):=rfl
theorem FixV.arr2 (x:FixV):x.arr[2]? = some (.int .u8 x.kind):=rfl
theorem FixV.arr3 (x:FixV):x.arr[3]? = some (.int .i64 x.lat):=rfl
theorem FixV.arr4 (x:FixV):x.arr[4]? = some (.int .i64 x.lon):=rfl
theorem FixV.arr5 (x:FixV):x.arr[5]? = some (.int .i64 x.elev):=rfl
theorem FixV.arr6 (x:FixV):x.arr[6]? = some (.int .i64 x.range):=rfl
attribute [go_sem] FixV.arr0 FixV.arr1 FixV.arr2 FixV.arr3 FixV.arr4 FixV.arr5 FixV.arr6
def FixV.eqB (a b:FixV):Bool:=decide (a.ident=b.ident) && (decide (a.region=b.region) && (decide (a.kind=b.kind) && (decide (a.lat=b.lat) && (decide (a.lon=b.lon) && (decide (a.elev=b.elev) && (decide (a.range=b.range)))))))
theorem FixV.eqB_iff (a b:FixV):a.eqB b=true ↔ a=b:=by
  obtain ⟨_,_,_,_,_,_,_⟩:=a
  obtain ⟨_,_,_,_,_,_,_⟩:=b
  simp [FixV.eqB]
theorem zcV:(Tryz.prog.info? 84).map (·.size)=some 7:=by kernel_rfl
def Is_fixv (w:World) (b o:Nat) (x:FixV):Prop:=∀ j,j < 7→w.cell? ⟨b,o+j,none⟩=x.arr[j]?
def za1 (w:World) (b o:Nat):Prop:=∃ x,Is_fixv w b o x
theorem FixV.arr_inj {x y:FixV} (h:∀ j,j < 7→x.arr[j]? = y.arr[j]?):x=y:=by
  refine (FixV.eqB_iff x y).1 ?_
  have hh:∀ j,j < 7→x.arr[j]? = y.arr[j]?:=h
  have e0:=h 0 (by omega)
  have e1:=h 1 (by omega)
  have e2:=h 2 (by omega)
  have e3:=h 3 (by omega)
  have e4:=h 4 (by omega)
  have e5:=h 5 (by omega)
  have e6:=h 6 (by omega)
  simp [FixV.arr0,FixV.arr1,FixV.arr2,FixV.arr3,FixV.arr4,FixV.arr5,FixV.arr6] at e0 e1 e2 e3 e4 e5 e6
  simp [FixV.eqB, *]
open Classical in
noncomputable def zbe (w:World) (b o:Nat):FixV:=if h:za1 w b o then h.choose else ⟨[],[],0,0,0,0,0⟩
theorem zfs {w:World} {b o:Nat} (h:za1 w b o):Is_fixv w b o (zbe w b o):=by
  unfold zbe
  rw [dif_pos h]
  exact h.choose_spec
theorem za0 {w:World} {b o:Nat} {x:FixV} (h:Is_fixv w b o x):zbe w b o=x:=
  FixV.arr_inj fun j hj=>(zfs ⟨x,h⟩ j hj).symm.trans (h j hj)
theorem zl7 (w:World) (b o n:Nat):zbe (w.drewN n) b o=zbe w b o:=rfl
theorem Is_fixv.below {w w':World} {B b o:Nat} {x:FixV} (h:Is_fixv w b o x) (hb:Below B w w') (hlt:b < B):Is_fixv w' b o x:=fun j hj=>by rw [hb.cell (p:=⟨b,_,none⟩) hlt];exact h j hj
theorem zkH (w:World) (b o:Nat) (ob:Obj) (h:b < w.heap.size):za1 (w.alloc ob) b o=za1 w b o:=by
  have e:∀ j,(w.alloc ob).cell? ⟨b,o+j,none⟩=w.cell? ⟨b,o+j,none⟩:=fun j=>World.cell?_alloc_lt w ob ⟨b,o+j,none⟩ h
  simp only [za1,Is_fixv,e]
theorem zl8 (w:World) (b o:Nat) (ob:Obj) (h:b < w.heap.size) (hh:za1 w b o):zbe (w.alloc ob) b o=zbe w b o:=
  za0 fun j hj=>by rw [World.cell?_alloc_lt w ob ⟨b,o+j,none⟩ h];exact zfs hh j hj
def zjB (v:Value):Sem Value:=Instr.loadAt 84 v
theorem zky (v:Value):Instr.loadAt 84 v=zjB v:=rfl
theorem zlT (w:World) (b o:Nat) (h:za1 w b o):(zjB (.pointer (some ⟨b,o,none⟩))).run Tryz.prog w=.ok (.agg (zbe w b o).arr) w:=by
  have hs:=zfs h
  generalize zbe w b o=x at hs
  have:=zaE (P:=Tryz.prog) w ⟨b,o,none⟩ 84 x.arr.toList _ (fun j v hv=>by
    rw [addr_add,hs j (by have:=(List.getElem?_eq_some_iff.1 hv).1;simpa [FixV.arr_size] using this)]
    simpa using hv) Tryz.underlying84 rfl zcV
  simp only [zjB,Instr.loadAt,Instr.sureAddr,Sem.run_bind,Sem.run_pure,Result.andThen_ok]
  simpa using this
def zfE (p v:Value):Sem Unit:=Instr.storeAt 84 p v
theorem ziO (p v:Value):Instr.storeAt 84 p v=zfE p v:=rfl
theorem zf2 (w:World) (c c':Array Value) (hc:c.size=7) (hc':c'.size=7) (h1:c'.all (·.oneCell')=true):
    (zfE (.pointer (some ⟨w.heap.size,0,none⟩)) (.agg c')).run Tryz.prog (w.alloc (.cells c 84))=.ok () (w.alloc (.cells c' 84)):=
  run_storeAt_new (P:=Tryz.prog) w 84 c c' (by rw [hc'];exact zcV) (by rw [hc,hc']) h1
attribute [go_sem ↓] zky ziO
attribute [go_sem] zlT zf2 zl7 zkH zl8
theorem FixV.arr_oneL (x:FixV):x.arr.toList.all (·.oneCell')=true:=by simp [FixV.arr,Value.oneCell']
theorem zui (x:FixV) (n:Nat):zdg x.arr n=(7=n):=propext ⟨fun h=>h,fun h=>h⟩
theorem zuu (x:FixV) (o n:Nat):Fits o n x.arr=(o+n≤7):=propext ⟨fun h=>h,fun h=>h⟩
theorem zus (x:FixV):zdQ x.arr=True:=eq_true (FixV.arr_oneL x)
theorem zow (a b:FixV):splice a.arr 0 b.arr=b.arr:=rfl
theorem zi0 (W:World) (g o:Nat) (v:Array Value) (hv:zdg v 7) (h1:zdQ v) (hp:Plain W g) (hn:Fits o 7 (zbN W g)):
    (zfE (.pointer (some ⟨g,o,none⟩)) (.agg v)).run Tryz.prog W=.ok () (W.setRow g (splice (zbN W g) o v)):=zaX W g o 7 _ v zcV hv h1 hp hn
theorem ziZ (w:World) (c c':Array Value) (hc:zdg c 7) (hc':zdg c' 7) (h1:zdQ c'):
    (zfE (.pointer (some ⟨w.heap.size,0,none⟩)) (.agg c')).run Tryz.prog (w.alloc (.cells c 84))=.ok () (w.alloc (.cells c' 84)):=
  zf2 w c c' hc hc' (Array.all_eq_true_iff_forall_mem.2 fun v hv=>(List.all_eq_true.1 (show c'.toList.all (·.oneCell')=true from h1)) v (by simpa using hv))
theorem Blk.is_fixv {W:World} {g:Nat} {x:FixV} (h:Blk W g x.arr):Is_fixv W g 0 x:=fun j _=>by rw [Nat.zero_add];exact h.cell j
theorem FixV.pos (x:FixV) {W:World} {g o:Nat} (h:Is_fixv W g o x):Is_pos W g (o+3) ⟨x.lat,x.lon⟩:=fun j hj=>by
  rw [Nat.add_assoc]
  refine (h (3+j) (by omega)).trans ?_
  match j,hj with
  | 0,_=>rfl
  | 1,_=>rfl
attribute [go_sem] zui zuu zus zow zi0 ziZ
def zya (parts:Array (Nat × Value)):Sem Value:=Instr.build 84 parts
theorem zdI (parts:Array (Nat × Value)):Instr.build 84 parts=zya parts:=rfl
theorem zd3 (w:World):(zya #[]).run Tryz.prog w=.ok (.agg noFix.arr) w:=run_build w _ _ _ (by kernel_rfl)
theorem zmw:(Tryz.prog.info? 37).map (·.size)=some 9:=by kernel_rfl
def Is_db (w:World) (b o:Nat) (x:Array Value):Prop:=x.size=9∧∀ j,j < 9→w.cell? ⟨b,o+j,none⟩=x[j]?
def za7 (w:World) (b o:Nat):Prop:=∃ x,Is_db w b o x
open Classical in
noncomputable def zbQ (w:World) (b o:Nat):Array Value:=if h:za7 w b o then h.choose else #[]
theorem zfK {w:World} {b o:Nat} (h:za7 w b o):Is_db w b o (zbQ w b o):=by
  unfold zbQ
  rw [dif_pos h]
  exact h.choose_spec
theorem zaL {w:World} {b o:Nat} {x:Array Value} (h:Is_db w b o x):zbQ w b o=x:=by
  have hs:=zfK ⟨x,h⟩
  apply Array.ext_getElem?
  intro j
  rcases Nat.lt_or_ge j 9 with hj | hj
  · exact (hs.2 j hj).symm.trans (h.2 j hj)
  · rw [Array.getElem?_eq_none (by rw [hs.1];exact hj),Array.getElem?_eq_none (by rw [h.1];exact hj)]
theorem zo0 (w:World) (b o n:Nat):zbQ (w.drewN n) b o=zbQ w b o:=rfl
theorem Is_db.below {w w':World} {B b o:Nat} {x:Array Value} (h:Is_db w b o x) (hb:Below B w w') (hlt:b < B):Is_db w' b o x:=⟨h.1,fun j hj=>by rw [hb.cell (p:=⟨b,_,none⟩) hlt];exact h.2 j hj⟩
theorem Blk.is_db {W:World} {g:Nat} {x:Array Value} (h:Blk W g x) (hx:x.size=9):Is_db W g 0 x:=⟨hx,fun j _=>by rw [Nat.zero_add];exact h.cell j⟩
def zo6 (v:Value):Sem Value:=Instr.loadAt 37 v
theorem znT (v:Value):Instr.loadAt 37 v=zo6 v:=rfl
theorem zoC (w:World) (b o:Nat) (h:za7 w b o):(zo6 (.pointer (some ⟨b,o,none⟩))).run Tryz.prog w=.ok (.agg (zbQ w b o)) w:=by
  have hs:=zfK h
  generalize zbQ w b o=x at hs
  have hl:=zaE (P:=Tryz.prog) w ⟨b,o,none⟩ 37 x.toList _ (fun j v hv=>by
    rw [addr_add,hs.2 j (by have:=(List.getElem?_eq_some_iff.1 hv).1;rw [← hs.1];simpa using this)]
    simpa using hv) Tryz.underlying37 rfl (by rw [zmw];simp [hs.1])
  simp only [zo6,Instr.loadAt,Instr.sureAddr,Sem.run_bind,Sem.run_pure,Result.andThen_ok]
  simpa using hl
attribute [go_sem ↓] znT
attribute [go_sem] zoC zo0
def zlI (p v:Value):Sem Unit:=Instr.storeAt 37 p v
theorem zlH (p v:Value):Instr.storeAt 37 p v=zlI p v:=rfl
theorem zlQ (w:World) (c c':Array Value) (hc:zdg c 9) (hc':zdg c' 9) (h1:zdQ c'):
    (zlI (.pointer (some ⟨w.heap.size,0,none⟩)) (.agg c')).run Tryz.prog (w.alloc (.cells c 37))=.ok () (w.alloc (.cells c' 37)):=
  run_storeAt_new (P:=Tryz.prog) w 37 c c' (by rw [show c'.size=9 from hc'];exact zmw) (by rw [show c'.size=9 from hc',show c.size=9 from hc]) (Array.all_eq_true_iff_forall_mem.2 fun v hv=>(List.all_eq_true.1 (show c'.toList.all (·.oneCell')=true from h1)) v (by simpa using hv))
theorem zlR (W:World) (g o:Nat) (v:Array Value) (hv:zdg v 9) (h1:zdQ v) (hp:Plain W g) (hn:Fits o 9 (zbN W g)):
    (zlI (.pointer (some ⟨g,o,none⟩)) (.agg v)).run Tryz.prog W=.ok () (W.setRow g (splice (zbN W g) o v)):=zaX W g o 9 _ v zmw hv h1 hp hn
attribute [go_sem ↓] zlH
attribute [go_sem] zlQ zlR
structure DBs where
  cells:Array Value
  lat:Int
  lon:Int
  fa:Option Addr
  fn:Nat
  fc:Nat
structure DBs.Ok (d:DBs):Prop where
  size:d.cells.size=9
  c4:d.cells[4]? = some (.int .i64 d.lat)
  c5:d.cells[5]? = some (.int .i64 d.lon)
  c6:d.cells[6]? = some (.slice d.fa d.fn d.fc)
end Go.Proofs.YtgoeedohgomodaaGreatDoor
namespace Go.Proofs.YtgoeedohgomodaaGreatDoor
open Go.RowKit
instance:Inhabited FixV:=⟨noFix⟩
end Go.Proofs.YtgoeedohgomodaaGreatDoor
