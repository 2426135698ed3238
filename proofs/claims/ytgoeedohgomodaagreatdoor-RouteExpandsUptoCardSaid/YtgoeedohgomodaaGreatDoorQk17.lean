/- Lemmas and walks. -/
import Derived.Test.YtgoeedohgomodaaGreatDoorQk16
import Derived.Test.YtgoeedohgomodaaGreatDoorQk08
import Derived.Laws.StructEq
set_option linter.unusedSimpArgs false
set_option linter.unusedVariables false
namespace Go.Proofs.YtgoeedohgomodaaGreatDoor
open Go.RowKit
def ItemV.arr (x:ItemV):Array Value:=#[.int .u8 x.kind, .string ⟨x.name.toArray⟩, .string ⟨x.trans.toArray⟩]
theorem ItemV.arr_size (x:ItemV):x.arr.size=3:=rfl
theorem ItemV.arr_one (x:ItemV):x.arr.all (·.oneCell')=true:=by simp [ItemV.arr,Value.oneCell']
theorem ItemV.arr0 (x:ItemV):x.arr[0]? = some (.int .u8 x.kind):=rfl
theorem ItemV.arr1 (x:ItemV):x.arr[1]? = some (.string ⟨x.name.toArray⟩):=rfl
theorem ItemV.arr2 (x:ItemV):x.arr[2]? = some (.string ⟨x.trans.toArray⟩):=rfl
attribute [go_sem] ItemV.arr0 ItemV.arr1 ItemV.arr2
def ItemV.eqB (a b:ItemV):Bool:=decide (a.kind=b.kind) && (decide (a.name=b.name) && (decide (a.trans=b.trans)))
theorem ItemV.eqB_iff (a b:ItemV):a.eqB b=true ↔ a=b:=by
  obtain ⟨_,_,_⟩:=a
  obtain ⟨_,_,_⟩:=b
  simp [ItemV.eqB]
set_option maxHeartbeats 1000000 in
set_option maxRecDepth 100000 in
theorem zqG (d:Nat) (a b:ItemV) (w:World):(Op.equalIn (d+3) 57 (.agg a.arr) (.agg b.arr)).run Tryz.prog w=.ok (a.eqB b) w:=by
  unfold ItemV.arr
  simp [go_sem]
  simp only [ztn,Bool.and_true]
  rfl
theorem zoB (a b:ItemV) (w:World):(binOp .neq 57 (.agg a.arr) (.agg b.arr)).run Tryz.prog w=.ok (.bool (!a.eqB b)) w:=by
  simp only [binOp]
  simp [Op.equal,Op.maxDepth,zqG 9997]
theorem ziw:(Tryz.prog.info? 57).map (·.size)=some 3:=by kernel_rfl
def zfA (w:World) (b o:Nat) (x:ItemV):Prop:=∀ j,j < 3→w.cell? ⟨b,o+j,none⟩=x.arr[j]?
def zak (w:World) (b o:Nat):Prop:=∃ x,zfA w b o x
theorem ItemV.arr_inj {x y:ItemV} (h:∀ j,j < 3→x.arr[j]? = y.arr[j]?):x=y:=by
  refine (ItemV.eqB_iff x y).1 ?_
  have hh:∀ j,j < 3→x.arr[j]? = y.arr[j]?:=h
  have e0:=h 0 (by omega)
  have e1:=h 1 (by omega)
  have e2:=h 2 (by omega)
  simp [ItemV.arr0,ItemV.arr1,ItemV.arr2] at e0 e1 e2
  simp [ItemV.eqB, *]
open Classical in
noncomputable def zar (w:World) (b o:Nat):ItemV:=if h:zak w b o then h.choose else ⟨0,[],[]⟩
theorem zju {w:World} {b o:Nat} (h:zak w b o):zfA w b o (zar w b o):=by
  unfold zar
  rw [dif_pos h]
  exact h.choose_spec
theorem zam {w:World} {b o:Nat} {x:ItemV} (h:zfA w b o x):zar w b o=x:=
  ItemV.arr_inj fun j hj=>(zju ⟨x,h⟩ j hj).symm.trans (h j hj)
theorem znL (w:World) (b o n:Nat):zar (w.drewN n) b o=zar w b o:=rfl
def zml (v:Value):Sem Value:=Instr.loadAt 57 v
theorem zmk (v:Value):Instr.loadAt 57 v=zml v:=rfl
theorem zm5 (w:World) (b o:Nat) (h:zak w b o):(zml (.pointer (some ⟨b,o,none⟩))).run Tryz.prog w=.ok (.agg (zar w b o).arr) w:=by
  have hs:=zju h
  generalize zar w b o=x at hs
  have:=zaE (P:=Tryz.prog) w ⟨b,o,none⟩ 57 x.arr.toList _ (fun j v hv=>by
    rw [addr_add,hs j (by have:=(List.getElem?_eq_some_iff.1 hv).1;simpa [ItemV.arr_size] using this)]
    simpa using hv) Tryz.underlying57 rfl ziw
  simp only [zml,Instr.loadAt,Instr.sureAddr,Sem.run_bind,Sem.run_pure,Result.andThen_ok]
  simpa using this
def zgJ (p v:Value):Sem Unit:=Instr.storeAt 57 p v
theorem zkb (p v:Value):Instr.storeAt 57 p v=zgJ p v:=rfl
theorem zgO (w:World) (c c':Array Value) (hc:c.size=3) (hc':c'.size=3) (h1:c'.all (·.oneCell')=true):
    (zgJ (.pointer (some ⟨w.heap.size,0,none⟩)) (.agg c')).run Tryz.prog (w.alloc (.cells c 57))=.ok () (w.alloc (.cells c' 57)):=
  run_storeAt_new (P:=Tryz.prog) w 57 c c' (by rw [hc'];exact ziw) (by rw [hc,hc']) h1
attribute [go_sem ↓] zmk zkb
attribute [go_sem] zm5 zgO znL
theorem ItemV.arr_oneL (x:ItemV):x.arr.toList.all (·.oneCell')=true:=by simp [ItemV.arr,Value.oneCell']
theorem zvQ (x:ItemV) (n:Nat):zdg x.arr n=(3=n):=propext ⟨fun h=>h,fun h=>h⟩
theorem zv3 (x:ItemV) (o n:Nat):Fits o n x.arr=(o+n≤3):=propext ⟨fun h=>h,fun h=>h⟩
theorem zvW (x:ItemV):zdQ x.arr=True:=eq_true (ItemV.arr_oneL x)
theorem zqs (a b:ItemV):splice a.arr 0 b.arr=b.arr:=rfl
theorem zkp (W:World) (g o:Nat) (v:Array Value) (hv:zdg v 3) (h1:zdQ v) (hp:Plain W g) (hn:Fits o 3 (zbN W g)):
    (zgJ (.pointer (some ⟨g,o,none⟩)) (.agg v)).run Tryz.prog W=.ok () (W.setRow g (splice (zbN W g) o v)):=zaX W g o 3 _ v ziw hv h1 hp hn
theorem zki (w:World) (c c':Array Value) (hc:zdg c 3) (hc':zdg c' 3) (h1:zdQ c'):
    (zgJ (.pointer (some ⟨w.heap.size,0,none⟩)) (.agg c')).run Tryz.prog (w.alloc (.cells c 57))=.ok () (w.alloc (.cells c' 57)):=
  zgO w c c' hc hc' (Array.all_eq_true_iff_forall_mem.2 fun v hv=>(List.all_eq_true.1 (show c'.toList.all (·.oneCell')=true from h1)) v (by simpa using hv))
theorem Blk.is_itm {W:World} {g:Nat} {x:ItemV} (h:Blk W g x.arr):zfA W g 0 x:=fun j _=>by rw [Nat.zero_add];exact h.cell j
attribute [go_sem] zvQ zv3 zvW zqs zkp zki
def ItemV.small (x:ItemV):Prop:=x.name.length≤4000000000∧x.trans.length≤4000000000
theorem zfw:(Tryz.prog.info? 57).map (fun i=>(i.zero,i.size,i.bytes))=some (some (.agg noItem.arr),3,40):=by kernel_rfl
theorem zhe (l:List ItemV):∀ y ∈ l.map ItemV.arr,y.size=3:=fun y hy=>by
  obtain ⟨s,_,rfl⟩:=List.mem_map.1 hy
  rfl
theorem Items.itm {w:World} {A:Option Addr} {l:List ItemV} (h:Items w A 3 (l.map ItemV.arr)) {i:Nat} (hi:i < l.length):∃ b off,A=some ⟨b,off,none⟩∧b < w.heap.size∧∀ W,Below w.heap.size w W→zfA W b (off+i * 3) l[i]:=by
  obtain ⟨b,off,e,hb,hc⟩:=h.get (k:=i) (by simpa using hi)
  refine ⟨b,off,e,hb,fun W hB j hj=>?_⟩
  rw [hB.cell (p:=⟨b,_,none⟩) hb,hc j hj,List.getElem_map]
def zxM (parts:Array (Nat × Value)):Sem Value:=Instr.build 57 parts
theorem zhj (parts:Array (Nat × Value)):Instr.build 57 parts=zxM parts:=rfl
theorem zni (w:World):(zxM #[]).run Tryz.prog w=.ok (.agg noItem.arr) w:=run_build w _ _ _ (by kernel_rfl)
theorem znh (w:World) (k:Int):(zxM #[(0, .int .u8 k)]).run Tryz.prog w=.ok (.agg (ItemV.arr ⟨k,[],[]⟩)) w:=run_build w _ _ _ (by kernel_rfl)
theorem zng (w:World) (k:Int) (s:List UInt8):(zxM #[(0, .int .u8 k),(1, .string ⟨s.toArray⟩)]).run Tryz.prog w=.ok (.agg (ItemV.arr ⟨k,s,[]⟩)) w:=run_build w _ _ _ (by kernel_rfl)
theorem zgT (w:World) (k:Int) (s t:List UInt8):(zxM #[(0, .int .u8 k),(1, .string ⟨s.toArray⟩),(2, .string ⟨t.toArray⟩)]).run Tryz.prog w=.ok (.agg (ItemV.arr ⟨k,s,t⟩)) w:=run_build w _ _ _ (by kernel_rfl)
def zxL (parts:Array (Nat × Value)):Sem Value:=Instr.buildSlice 23 1 parts
theorem zlr (parts:Array (Nat × Value)):Instr.buildSlice 23 1 parts=zxL parts:=rfl
theorem znf (w:World) (x:ItemV):(zxL #[(0, .agg x.arr)]).run Tryz.prog w=.ok (.slice (some ⟨w.heap.size,0,none⟩) 1 1) (w.alloc (.cells x.arr 57)):=by
  obtain ⟨i0,hi,hz0,hz1,hz2⟩:=info_parts zfw
  refine run_buildSlice w 23 57 1 #[(0, .agg x.arr)] x.arr i0 _ Tryz.underlying23 hi hz0 (by rw [hz1];decide) (by rw [hz1];decide) ?_
  rw [hz1]
  kernel_rfl
def RetItms (w:World) (r:(List ItemV × Int) × Int) (e:Ending) (w':World):Prop:=∃ A c,e=.returned (.tuple #[.slice A r.1.1.length c, .int .i64 r.1.2, .int .i64 r.2])∧r.1.1.length≤c∧Items w' A 3 (r.1.1.map ItemV.arr)∧(∀ a,A=some a→w.heap.size≤a.block)∧Below w.heap.size w w'
theorem zen {P:Program} {f:FuncId} {args:Array Value} {W:World} {r:(List ItemV × Int) × Int} {K:Ending→World→Prop} (h:Calls P f args W (RetItms W r))
    (k:∀ A c w',r.1.1.length≤c→Items w' A 3 (r.1.1.map ItemV.arr)→(∀ a,A=some a→W.heap.size≤a.block)→Below W.heap.size W w'→K (.returned (.tuple #[.slice A r.1.1.length c, .int .i64 r.1.2, .int .i64 r.2])) w'):Calls P f args W K:=
  h.mono fun e w' ⟨A,c,he,h1,h2,h3,h4⟩=>by subst he;exact k A c w' h1 h2 h3 h4
end Go.Proofs.YtgoeedohgomodaaGreatDoor
