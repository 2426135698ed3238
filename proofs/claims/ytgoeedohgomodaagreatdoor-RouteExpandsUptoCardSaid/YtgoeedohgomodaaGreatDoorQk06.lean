/- Lemmas and walks. -/
import Derived.Test.YtgoeedohgomodaaGreatDoorQk02
import Derived.Test.YtgoeedohgomodaaGreatDoorQk03
import Derived.Deep.MidRow
import Derived.Deep.WholeRow
import Derived.Deep.Light
import Derived.Test.YtgoeedohgomodaaGreatDoorQk05
set_option linter.unusedSimpArgs false
set_option linter.unusedVariables false
namespace Go.Proofs.YtgoeedohgomodaaGreatDoor
open Go.RowKit
def zjj (x:Entry):Bool:=(x.leg.fix.isEmpty && !(x.ex == 0 && x.ey == 0)) || (x.leg.center.isEmpty && !(x.mx == 0 && x.my == 0))
def zoh (x:Entry):Int:=
  if !zdS x.sec then 17 else if !zuw x.via then 5 else if !zaV x.ex x.ey || !zaV x.mx x.my then 2 else if zjj x then 1 else 0
def zfa (x:Entry):Int:=orE (zaN x.leg) (zoh x)
set_option maxHeartbeats 2000000 in
set_option maxRecDepth 100000 in
theorem zog (x:Entry) (w:World) (hL:Laid w) (hx:x.small):Calls Tryz.prog 52 #[x.val] w (Ret w (.int .i64 (zfa x))):=by
  have hO0:=Own1.mk0 w x.arr 69
  go_enter Tryz.func52,Tryz.ntmps52
  go_upto_region 1 with (fail)
  generalize w.alloc _=W at hO0 ⊢
  have hc0:=hO0.cell
  have hlt0:=hO0.lt
  go_wp2_with (first
    | (go_at_call 98;refine ztK (by assumption) (zjT x.leg _ (hL.below (Own1.below (by assumption))) hx.leg) ?_;intro w1 hO1 hc1 hlt1)
    | (go_at_call 99;refine zae (ziU _ _) ?_)
    | (go_at_call 100;refine zwi (by assumption) (zrU _ _ (hL.below (Own1.below (by assumption))) hx.via) ?_;intro w2 hO2 hc2 hlt2)
    | (go_at_call 101;refine ztK (by assumption) (zmU _ _ _) ?_;intro w3 hO3 hc3 hlt3))
  all_goals (go_ret;refine Ret.int ?_ (Own1.below (cs:=x.arr) (by first | assumption | exact Own1.drewN (by assumption) _ | exact Own1.alloc (by assumption) _));go_light;first | (simp [zfa,zoh,zjj,orE, *];done) | grind [zfa,zoh,zjj,orE])
end Go.Proofs.YtgoeedohgomodaaGreatDoor
namespace Go.Proofs.YtgoeedohgomodaaGreatDoor
open Go.RowKit
theorem Entry.leg_sub (x:Entry):∀ j,j < 13→x.arr[1+j]? = x.leg.arr[j]?:=by
  intro j hj
  match j,hj with
  | 0,_ | 1,_ | 2,_ | 3,_ | 4,_ | 5,_ | 6,_ | 7,_ | 8,_ | 9,_ | 10,_ | 11,_ | 12,_=>rfl
theorem zct:(Tryz.prog.info? 69).map (·.size)=some 20:=by kernel_rfl
theorem zfv:(Tryz.prog.info? 64).map (·.size)=some 13:=by kernel_rfl
structure Ents (w:World) (A:Option Addr) (es:List Entry):Prop where
  at_:es ≠ []→∃ b off,A=some ⟨b,off,none⟩∧b < w.heap.size∧∀ i x,es[i]? = some x→∀ j,j < 20→w.cell? ⟨b,off+i * 20+j,none⟩=x.arr[j]?
theorem Ents.get {w:World} {A:Option Addr} {es:List Entry} (h:Ents w A es) {k:Nat} (hk:k < es.length):
    ∃ b off,A=some ⟨b,off,none⟩∧b < w.heap.size∧∀ j,j < 20→w.cell? ⟨b,off+k * 20+j,none⟩=es[k].arr[j]?:=by
  obtain ⟨b,off,rfl,hb,hc⟩:=h.at_ (by rintro rfl;simp at hk)
  exact ⟨b,off,rfl,hb,hc k _ (List.getElem?_eq_getElem hk)⟩
theorem Ents.below {w w':World} {A:Option Addr} {es:List Entry} {B:Nat} (h:Ents w A es) (hb:Below w.heap.size w w'):Ents w' A es where
  at_ hne:=by
    obtain ⟨b,off,rfl,hlt,hc⟩:=h.at_ hne
    exact ⟨b,off,rfl,Nat.lt_of_lt_of_le hlt hb.size,fun i x hx j hj=>by rw [hb.cell (p:=⟨b,_,none⟩) hlt];exact hc i x hx j hj⟩
theorem Ents.cells {w W:World} {b off:Nat} {es:List Entry} (h:Ents w (some ⟨b,off,none⟩) es) (hB:Below w.heap.size w W) {k:Nat} (hk:k < es.length):
    ∀ j,j < 20→W.cell? ⟨b,off+k * 20+j,none⟩=es[k].arr[j]?:=by
  obtain ⟨b',off',hA,hb,hc⟩:=h.get hk
  obtain ⟨rfl,rfl⟩:b=b'∧off=off':=by simpa using hA
  exact fun j hj=>by rw [hB.cell (p:=⟨b,_,none⟩) hb];exact hc j hj
theorem Ents.nil (w:World) (A:Option Addr):Ents w A []:=⟨fun h=>absurd rfl h⟩
structure Plan where
  from_:List UInt8
  to_:List UInt8
  es:List Entry
  active:Int
def Plan.arr (p:Plan) (A:Option Addr) (c:Nat):Array Value:=#[.string ⟨p.from_.toArray⟩, .string ⟨p.to_.toArray⟩, .slice A p.es.length c, .int .i64 p.active]
abbrev Plan.val (p:Plan) (A:Option Addr) (c:Nat):Value:=.agg (p.arr A c)
theorem Plan.arr0 (p:Plan) (A:Option Addr) (c:Nat):(p.arr A c)[0]? = some (.string ⟨p.from_.toArray⟩):=rfl
theorem Plan.arr1 (p:Plan) (A:Option Addr) (c:Nat):(p.arr A c)[1]? = some (.string ⟨p.to_.toArray⟩):=rfl
theorem Plan.arr2 (p:Plan) (A:Option Addr) (c:Nat):(p.arr A c)[2]? = some (.slice A p.es.length c):=rfl
theorem Plan.arr3 (p:Plan) (A:Option Addr) (c:Nat):(p.arr A c)[3]? = some (.int .i64 p.active):=rfl
attribute [go_sem] Plan.arr0 Plan.arr1 Plan.arr2 Plan.arr3
structure Plan.small (p:Plan):Prop where
  from_:p.from_.length≤4000000000
  to_:p.to_.length≤4000000000
  len:p.es.length≤4000000000
  each:∀ x ∈ p.es,x.small
end Go.Proofs.YtgoeedohgomodaaGreatDoor
namespace Go.Proofs.YtgoeedohgomodaaGreatDoor
open Go.RowKit
end Go.Proofs.YtgoeedohgomodaaGreatDoor
