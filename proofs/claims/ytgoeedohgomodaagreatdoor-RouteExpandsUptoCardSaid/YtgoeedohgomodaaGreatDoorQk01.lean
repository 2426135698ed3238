/- Lemmas and walks. -/
import Derived.Lib.ItoaNum
import Derived.Lib.ItoaLen
import Derived.Lib.ParseIntBTie
import Derived.Lib.ParseIntBCases
import Derived.Test.YtgoeedohgomodaaGreatDoorRows
import Derived.Test.YtgoeedohgomodaaGreatDoorShelf
import Derived.WalkKit
import Derived.ProofKit
import Derived.WalkLawsBesides
import Derived.WalkSpells
import Derived.Outline
import Derived.Handy
import Derived.Lib.Hide
import Derived.Laws.Rows
import Derived.Deep.QuietTactic
import Derived.BigQuiet
import Derived.Lib.LaidTab
import Derived.Deep.DeepCutAuto
import Derived.Lib.IndexMore
import Derived.Lib.IndexLaws
import Derived.Lib.CutLaws
set_option linter.unusedSimpArgs false
set_option linter.unusedVariables false
namespace Go.Proofs.YtgoeedohgomodaaGreatDoor
def zyy (a:Nat) (l:List UInt8):Nat:=l.foldl (fun n c=>10 * n+(c.toNat - 48)) a
def val (l:List UInt8):Nat:=zyy 0 l
end Go.Proofs.YtgoeedohgomodaaGreatDoor
namespace Go.Proofs.YtgoeedohgomodaaGreatDoor
open Go.RowKit
def Ret (w:World) (v:Value) (e:Ending) (w':World):Prop:=e=.returned v∧Below w.heap.size w w'
def RetP (w:World) (v:Value) (e:Ending) (w':World):Prop:=e=.returned v∧w=w'
theorem RetP.bool {w w':World} {a b:Bool} (h:a=b) (hw:w=w'):RetP w (.bool b) (.returned (.bool a)) w':=⟨by rw [h],hw⟩
theorem RetP.int {w w':World} {k:IntKind} {a b:Int} (h:a=b) (hw:w=w'):RetP w (.int k b) (.returned (.int k a)) w':=⟨by rw [h],hw⟩
theorem RetP.str {w w':World} {a b:List UInt8} (h:a=b) (hw:w=w'):RetP w (.string ⟨b.toArray⟩) (.returned (.string ⟨a.toArray⟩)) w':=⟨by rw [h],hw⟩
theorem Ret.bool {w w':World} {a b:Bool} (h:a=b) (hw:Below w.heap.size w w'):Ret w (.bool b) (.returned (.bool a)) w':=⟨by rw [h],hw⟩
theorem Ret.int {w w':World} {k:IntKind} {a b:Int} (h:a=b) (hw:Below w.heap.size w w'):Ret w (.int k b) (.returned (.int k a)) w':=⟨by rw [h],hw⟩
theorem Ret.str {w w':World} {a b:List UInt8} (h:a=b) (hw:Below w.heap.size w w'):Ret w (.string ⟨b.toArray⟩) (.returned (.string ⟨a.toArray⟩)) w':=⟨by rw [h],hw⟩
def RetQ (w:World) (v:Value) (e:Ending) (w':World):Prop:=e=.returned v∧∃ n,w'=w.drewN n
theorem RetQ.bool {w w':World} {a b:Bool} (h:a=b) (hw:∃ n,w'=w.drewN n):RetQ w (.bool b) (.returned (.bool a)) w':=⟨by rw [h],hw⟩
theorem RetQ.int {w w':World} {k:IntKind} {a b:Int} (h:a=b) (hw:∃ n,w'=w.drewN n):RetQ w (.int k b) (.returned (.int k a)) w':=⟨by rw [h],hw⟩
theorem RetP.quiet {w w':World} {v:Value} {e:Ending} (h:RetP w v e w'):RetQ w v e w':=⟨h.1,0,h.2.symm⟩
theorem RetQ.ret {w w':World} {v:Value} {e:Ending} (h:RetQ w v e w'):Ret w v e w':=⟨h.1,by obtain ⟨_,n,rfl⟩:=h;exact below_drewN (Below.refl _ _) n⟩
theorem RetP.ret {w w':World} {v:Value} {e:Ending} (h:RetP w v e w'):Ret w v e w':=⟨h.1,by obtain ⟨_,rfl⟩:=h;exact Below.refl _ _⟩
theorem zwn (l:List UInt8) (k:Nat) (h:k < (ByteArray.mk l.toArray).size):(ByteArray.mk l.toArray)[k]'h=l[k]'(by simpa [ByteArray.size] using h):=by rfl
theorem zlv (l:List UInt8) (a b:Nat):(ByteArray.mk l.toArray).extract a b=⟨((l.take b).drop a).toArray⟩:=by
  apply ByteArray.ext
  rw [ByteArray.data_extract]
  simp [List.extract_eq_take_drop,List.drop_take]
attribute [go_sem] zwn zlv
theorem zj7 {c d:UInt8} (h:¬ c=d):((c.toNat:Int) == (d.toNat:Int))=false:=by
  rw [beq_eq_false_iff_ne]
  intro e
  exact h (UInt8.toNat_inj.1 (by omega))
theorem zwt {c d:UInt8} (h:c=d):((c.toNat:Int) == (d.toNat:Int))=true:=by rw [h];simp
theorem zxQ {W w1:World} (hb:Below W.heap.size W w1):(∀ b o,b < W.heap.size→w1.cell? ⟨b,o,none⟩=W.cell? ⟨b,o,none⟩)∧(∀ b o,b < W.heap.size→w1.frozen? ⟨b,o,none⟩=W.frozen? ⟨b,o,none⟩):=
  ⟨fun b o h=>hb.cell (p:=⟨b,o,none⟩) h,fun b o h=>hb.frozen (p:=⟨b,o,none⟩) h⟩
structure Own1 (w:World) (cs:Array Value) (wx:World):Prop where
  below:Below w.heap.size w wx
  lt:w.heap.size < wx.heap.size
  cell:∀ j,wx.cell? ⟨w.heap.size,j,none⟩=cs[j]?
theorem Own1.mk0 (w:World) (cs:Array Value) (t:TypeId):Own1 w cs (w.alloc (.cells cs t)):=
  ⟨(Below.refl _ _).alloc (Nat.le_refl _) _,by simp,fun j=>cell_of_row _ _ j cs t (0,0) (heap_alloc_new w _)⟩
theorem Own1.step {w W w1:World} {cs:Array Value} (h:Own1 w cs W) (hb:Below W.heap.size W w1):Own1 w cs w1:=
  ⟨h.below.trans (hb.mono h.below.size),Nat.lt_of_lt_of_le h.lt hb.size,fun j=>by rw [hb.cell (p:=⟨w.heap.size,j,none⟩) h.lt];exact h.cell j⟩
theorem Own1.drewN {w W:World} {cs:Array Value} (h:Own1 w cs W) (n:Nat):Own1 w cs (W.drewN n):=h.step (below_drewN (Below.refl _ _) n)
theorem Own1.alloc {w W:World} {cs:Array Value} (h:Own1 w cs W) (o:Obj):Own1 w cs (W.alloc o):=h.step ((Below.refl _ _).alloc (Nat.le_refl _) _)
section
variable {P:Program}
theorem zae {f:FuncId} {args:Array Value} {W:World} {v:Value} {K:Ending→World→Prop} (h:Calls P f args W (RetP W v)) (k:K (.returned v) W):Calls P f args W K:=
  h.mono fun e w' ⟨he,hw⟩=>by subst he;subst hw;exact k
theorem zes {f:FuncId} {args:Array Value} {W:World} {v:Value} {K:Ending→World→Prop} (h:Calls P f args W (RetQ W v)) (k:∀ n,K (.returned v) (W.drewN n)):Calls P f args W K:=
  h.mono fun e w' ⟨he,n,hw⟩=>by subst he;subst hw;exact k n
theorem zv7 {f:FuncId} {args:Array Value} {w:World} {n:Nat} {v:Value} (h:Calls P f args (w.drewN n) (RetQ (w.drewN n) v)):Calls P f args (w.drewN n) fun e w''=>e=.returned v∧∃ m,w''=w.drewN m:=
  h.mono fun _ _ ⟨he,m,hw⟩=>⟨he,n+m,by rw [hw,World.drewN_drewN]⟩
theorem zaj {f:FuncId} {args:Array Value} {W:World} {v:Value} {K:Ending→World→Prop} (h:Calls P f args W (Ret W v))
    (k:∀ w',Below W.heap.size W w'→(∀ b o,b < W.heap.size→w'.cell? ⟨b,o,none⟩=W.cell? ⟨b,o,none⟩)→(∀ b o,b < W.heap.size→w'.frozen? ⟨b,o,none⟩=W.frozen? ⟨b,o,none⟩)→W.heap.size≤w'.heap.size→K (.returned v) w'):Calls P f args W K:=
  h.mono fun e w' ⟨he,hw⟩=>by subst he;exact k w' hw (zxQ hw).1 (zxQ hw).2 hw.size
theorem zaE (w:World) (ad:Addr) (ty:TypeId) (cs:List Value) (d:TypeDesc) (hc:∀ j v,cs[j]? = some v→w.cell? (ad.add j)=some v)
    (hu:P.underlying ty=some d) (hd:(match d with | .struct _ | .array _ _=>true | _=>false)=true) (hi:(P.info? ty).map (·.size)=some cs.length):
    (loadVar ty ad).run P w=.ok (.agg cs.toArray) w:=by
  have hl:=run_loadCells_list (P:=P) w ad cs hc
  cases hq:P.info? ty with
  | none=>simp [hq] at hi
  | some i=>
    have hs:i.size=cs.length:=by simpa [hq] using hi
    have hagg:(isAgg ty).run P w=.ok true w:=by
      unfold isAgg
      rw [Sem.run_bind,run_underlying hu w]
      cases d <;> simp_all
    simp [loadVar,Sem.run_bind,hagg,sizeOf,typeInfo,hq,hs,hl]
theorem zon {o:Oper} {a:Act} {w:World} {K:Act→World→Prop} {Q:Exit→Act→World→Prop} (ty:TypeId) (x:Operand) (ho:o.op=.load ty x)
    (ad:Addr) (hx:a.eval x=.pointer (some ad)) (cs:List Value) (d:TypeDesc) (hc:∀ j v,cs[j]? = some v→w.cell? (ad.add j)=some v)
    (hu:P.underlying ty=some d) (hd:(match d with | .struct _ | .array _ _=>true | _=>false)=true) (hi:(P.info? ty).map (·.size)=some cs.length)
    (h:K (a.put o.dst (.agg cs.toArray)) w):o.wp P a w K Q:=by
  unfold Oper.wp execOp
  simp only [ho,hx,Instr.loadAt,Instr.sureAddr,Sem.run_bind,Sem.run_pure,Result.andThen_ok,zaE w ad ty cs d hc hu hd hi]
  exact h
theorem ziG {ops:Array Oper} {rest:List Oper} {o:Oper} {a:Act} {w:World} {Q:Exit→Act→World→Prop} (hgd:o.guard=none) (ty:TypeId) (x:Operand) (ho:o.op=.load ty x)
    (ad:Addr) (hx:a.eval x=.pointer (some ad)) (cs:List Value) (d:TypeDesc) (hc:∀ j v,cs[j]? = some v→w.cell? (ad.add j)=some v)
    (hu:P.underlying ty=some d) (hd:(match d with | .struct _ | .array _ _=>true | _=>false)=true) (hi:(P.info? ty).map (·.size)=some cs.length)
    (h:wpList P ops Q rest (a.put o.dst (.agg cs.toArray)) w):wpList P ops Q (o :: rest) a w:=
  wpList_plain hgd fun _ hK=>zon ty x ho ad hx cs d hc hu hd hi (hK _ _ h)
end
end Go.Proofs.YtgoeedohgomodaaGreatDoor
namespace Go.Proofs.YtgoeedohgomodaaGreatDoor
open Go.RowKit
def usesTab:List Int:=[0,1,9,25,9,71,71,16,50,16,146,17,49,17,53,53,53,53]
structure Laid (w:World):Prop where
  uses:∀ k,k < 18→w.cell? ⟨0,k,none⟩=some (.int .u16 (usesTab.getD k 0))
  maxLen:∃ m,w.cell? ⟨1,0,none⟩=some (.int .i64 m)
theorem Laid.lt_uses {w:World} (h:Laid w):0 < w.heap.size:=block_lt_of_cell (h.uses 0 (by omega))
theorem Laid.lt_maxLen {w:World} (h:Laid w):1 < w.heap.size:=by obtain ⟨m,hm⟩:=h.maxLen;exact block_lt_of_cell hm
theorem Laid.below {w w':World} (h:Laid w) (hb:Below w.heap.size w w'):Laid w' where
  uses k hk:=by rw [hb.cell (p:=⟨_,k,none⟩) h.lt_uses];exact h.uses k hk
  maxLen:=by obtain ⟨m,hm⟩:=h.maxLen;exact ⟨m,by rw [hb.cell (p:=⟨_,0,none⟩) h.lt_maxLen];exact hm⟩
theorem Laid.drewN {w:World} (h:Laid w) (n:Nat):Laid (w.drewN n):=h.below ⟨rfl,rfl,rfl,Nat.le_refl _,fun _ _=>rfl⟩
end Go.Proofs.YtgoeedohgomodaaGreatDoor
namespace Go.Proofs.YtgoeedohgomodaaGreatDoor
def cutAt (c:UInt8):List UInt8→List UInt8 × List UInt8 × Bool
  | []=>([],[],false)
  | x :: r=>if x=c then ([],r,true) else (x :: (cutAt c r).1,(cutAt c r).2.1,(cutAt c r).2.2)
theorem ziA (c:UInt8):∀ (l:List UInt8) (k:Nat) (h:k < l.length),(l.take k).all (· != c)=true→l[k]=c→cutAt c l=(l.take k,l.drop (k+1),true)
  | [],k,h,_,_=>by simp at h
  | x :: r,0,h,_,hc=>by simp at hc;simp [cutAt,hc]
  | x :: r,k+1,h,ha,hc=>by
    simp at ha
    have hx:¬ x=c:=ha.1
    have ih:=ziA c r k (by simpa using h) (by simpa using ha.2) (by simpa using hc)
    simp [cutAt,hx,ih]
theorem zfO (c:UInt8):∀ (l:List UInt8),l.all (· != c)=true→cutAt c l=(l,[],false)
  | [],_=>rfl
  | x :: r,ha=>by
    simp at ha
    have ih:=zfO c r (by simpa using ha.2)
    simp [cutAt,ha.1,ih]
theorem zeQ (p:UInt8→Bool) (l:List UInt8) (k:Nat) (h:k < l.length) (ha:(l.take k).all p=true) (hk:p l[k]=true):(l.take (k+1)).all p=true:=by
  rw [List.take_succ_eq_append_getElem h,List.all_append,ha];simp [hk]
theorem zcF (c:UInt8):∀ l:List UInt8,(cutAt c l).1.length≤l.length∧(cutAt c l).2.1.length≤l.length
  | []=>by simp [cutAt]
  | x :: r=>by have ih:=zcF c r;unfold cutAt;split <;> simp <;> omega
theorem zc6 (c:UInt8):∀ l:List UInt8,Lib.index l [c]=if (cutAt c l).2.2 then ((cutAt c l).1.length:Int) else -1
  | []=>by simp [Lib.index,cutAt]
  | x :: r=>by
    have ih:=zc6 c r
    by_cases hx:x=c
    · simp [Lib.index,cutAt,hx]
    · have hx':¬ c=x:=fun e=>hx e.symm
      cases hf:(cutAt c r).2.2
      · simp [hf] at ih
        simp [Lib.index,cutAt,hx,hx',hf,ih]
      · simp [hf] at ih
        simp [Lib.index,cutAt,hx,hx',hf,ih]
theorem zdx (c:UInt8):∀ l:List UInt8,(cutAt c l).2.2=true→l=(cutAt c l).1 ++ c :: (cutAt c l).2.1
  | [],h=>by simp [cutAt] at h
  | x :: r,h=>by
    by_cases hx:x=c
    · simp [cutAt,hx]
    · simp [cutAt,hx] at h ⊢
      exact zdx c r h
theorem zfP (c:UInt8):∀ l:List UInt8,(cutAt c l).2.2=false→(cutAt c l).1=l∧(cutAt c l).2.1=[]
  | [],h=>by simp [cutAt]
  | x :: r,h=>by
    by_cases hx:x=c
    · simp [cutAt,hx] at h
    · simp [cutAt,hx] at h ⊢
      exact zfP c r h
theorem ztF (c:UInt8) (l:List UInt8):Lib.cut l [c]=cutAt c l:=by
  unfold Lib.cut
  rw [zc6 c l]
  cases hf:(cutAt c l).2.2
  · obtain ⟨h1,h2⟩:=zfP c l hf
    simp
    exact Prod.ext h1.symm (Prod.ext h2.symm hf.symm)
  · have hp:=zdx c l hf
    generalize hA:(cutAt c l).1=A at hp ⊢
    generalize hB:(cutAt c l).2.1=B at hp ⊢
    simp only [if_true]
    rw [if_pos (by omega)]
    subst hp
    refine Prod.ext ?_ (Prod.ext ?_ ?_)
    · simp [hA]
    · simp [hB]
    · simp [hf]
end Go.Proofs.YtgoeedohgomodaaGreatDoor
namespace Go.Proofs.YtgoeedohgomodaaGreatDoor
open Go.RowKit
def up (c:UInt8):Bool:=decide (65≤c.toNat) && decide (c.toNat≤90)
def zeu (c:UInt8):Bool:=up c || (decide (48≤c.toNat) && decide (c.toNat≤57))
def zbF (l:List UInt8) (most:Int):Bool:=
  match l with
  | []=>false
  | c :: _=>decide ((l.length:Int)≤most) && up c && l.all zeu
theorem znR (l:List UInt8) (most:Int) (h:0 < l.length):zbF l most=(decide ((l.length:Int)≤most) && up l[0] && l.all zeu):=by
  cases l with
  | nil=>simp at h
  | cons a r=>simp [zbF]
theorem ziF (p:UInt8→Bool) (l:List UInt8) (k:Nat) (h:k < l.length):(l.drop k).all p=(p l[k] && (l.drop (k+1)).all p):=by
  rw [List.drop_eq_getElem_cons h,List.all_cons]
set_option maxHeartbeats 400000 in
theorem zdl (l:List UInt8) (most:Int) (w:World) (hl:l.length≤4611686018427387904):Calls Tryz.prog 61 #[.string ⟨l.toArray⟩, .int .i64 most] w (RetP w (.bool (zbF l most))):=by
  by_cases h0:0 < l.length
  · have hs:=Lib.hid (znR l most h0)
    have hne:¬ l=[]:=by rintro rfl;simp at h0
    have h1:((l.length:Int) == 0)=false:=by simp [hne]
    go_enter Tryz.func61,Tryz.ntmps61
    go_wp2
    all_goals try (go_ret;exact RetP.bool (by rw [hs.out];grind [up]) rfl)
    go_loop [27] (fun i=>∃ k:Nat,k≤l.length∧i=.int .i64 k∧zbF l most=(l.drop k).all zeu) (fun i=>l.length - (intOf i).toNat)
    case atStart=>exact ⟨0,by omega,rfl,by rw [hs.out];grind [up]⟩
    case round=>
      obtain ⟨k,hk,rfl,hq⟩:=hrel
      have HQ:=Lib.hid hq;clear hq
      by_cases hlt:k < l.length
      · have hd:=Lib.hid (ziF zeu l k hlt)
        go_wp2
        all_goals first
          | (go_ret;exact RetP.bool (by rw [HQ.out,hd.out];grind [up,zeu]) rfl)
          | (go_round
             case rel=>exact ⟨k+1,by omega,by go_num,by rw [HQ.out,hd.out];grind [up,zeu]⟩
             case measure=>simp [intOf];omega)
      · go_wp2
        go_ret
        exact RetP.bool (by rw [HQ.out,List.drop_of_length_le (by omega)];rfl) rfl
  · obtain rfl:l=[]:=by cases l <;> simp_all
    go_enter Tryz.func61,Tryz.ntmps61
    go_wp2
    go_ret
    exact RetP.bool (by simp [zbF]) rfl
set_option maxHeartbeats 400000 in
theorem zcU (l:List UInt8) (most:Int) (w:World) (hl:l.length≤4611686018427387904):Calls Tryz.prog 65 #[.string ⟨l.toArray⟩, .int .i64 most] w (RetP w (.bool (zbF l most))):=by
  by_cases h0:0 < l.length
  · have hs:=Lib.hid (znR l most h0)
    have hne:¬ l=[]:=by rintro rfl;simp at h0
    have h1:((l.length:Int) == 0)=false:=by simp [hne]
    have h2:¬ ((l.length:Int) < 1):=by omega
    go_enter Tryz.func65,Tryz.ntmps65
    go_wp2
    all_goals try (go_ret;exact RetP.bool (by rw [hs.out];grind [up]) rfl)
    go_loop [5] (fun i=>∃ k:Nat,k≤l.length∧i=.int .i64 k∧zbF l most=(l.drop k).all zeu) (fun i=>l.length - (intOf i).toNat)
    case atStart=>exact ⟨0,by omega,rfl,by rw [hs.out];grind [up]⟩
    case round=>
      obtain ⟨k,hk,rfl,hq⟩:=hrel
      have HQ:=Lib.hid hq;clear hq
      by_cases hlt:k < l.length
      · have hd:=Lib.hid (ziF zeu l k hlt)
        go_wp2
        all_goals first
          | (go_ret;exact RetP.bool (by rw [HQ.out,hd.out];grind [up,zeu]) rfl)
          | (go_round
             case rel=>exact ⟨k+1,by omega,by go_num,by rw [HQ.out,hd.out];grind [up,zeu]⟩
             case measure=>simp [intOf];omega)
      · go_wp2
        go_ret
        exact RetP.bool (by rw [HQ.out,List.drop_of_length_le (by omega)];rfl) rfl
  · obtain rfl:l=[]:=by cases l <;> simp_all
    go_enter Tryz.func65,Tryz.ntmps65
    go_wp2
    go_ret
    exact RetP.bool (by simp [zbF]) rfl
def zfh (l:List UInt8):Bool:=l.length == 2 && l.all zeu
end Go.Proofs.YtgoeedohgomodaaGreatDoor
