/- Lemmas and walks. -/
import Derived.Test.YtgoeedohgomodaaGreatDoorQk02
import Derived.Test.YtgoeedohgomodaaGreatDoorQk03
import Derived.Deep.MidRow
import Derived.Deep.WholeRow
import Derived.Deep.Light
import Derived.Laws.StructEq
set_option linter.unusedSimpArgs false
set_option linter.unusedVariables false
namespace Go.Proofs.YtgoeedohgomodaaGreatDoor
open Go.RowKit
structure Pt where
  x:Int
  y:Int
def Pt.arr (x:Pt):Array Value:=#[.int .i64 x.x, .int .i64 x.y]
theorem Pt.arr_size (x:Pt):x.arr.size=2:=rfl
theorem Pt.arr0 (x:Pt):x.arr[0]? = some (.int .i64 x.x):=rfl
theorem Pt.arr1 (x:Pt):x.arr[1]? = some (.int .i64 x.y):=rfl
attribute [go_sem] Pt.arr0 Pt.arr1
structure Win where
  lo:Int
  hi:Int
def Win.arr (x:Win):Array Value:=#[.int .i64 x.lo, .int .i64 x.hi]
theorem Win.arr_size (x:Win):x.arr.size=2:=rfl
theorem Win.arr0 (x:Win):x.arr[0]? = some (.int .i64 x.lo):=rfl
theorem Win.arr1 (x:Win):x.arr[1]? = some (.int .i64 x.hi):=rfl
attribute [go_sem] Win.arr0 Win.arr1
def Pt.eqB (a b:Pt):Bool:=decide (a.x=b.x) && (decide (a.y=b.y))
theorem Pt.eqB_iff (a b:Pt):a.eqB b=true ↔ a=b:=by
  obtain ⟨_,_⟩:=a
  obtain ⟨_,_⟩:=b
  simp [Pt.eqB]
def Win.eqB (a b:Win):Bool:=decide (a.lo=b.lo) && (decide (a.hi=b.hi))
theorem Win.eqB_iff (a b:Win):a.eqB b=true ↔ a=b:=by
  obtain ⟨_,_⟩:=a
  obtain ⟨_,_⟩:=b
  simp [Win.eqB]
set_option maxHeartbeats 1000000 in
set_option maxRecDepth 100000 in
theorem zqF (d:Nat) (a b:Win) (w:World):(Op.equalIn (d+2) 62 (.agg a.arr) (.agg b.arr)).run Tryz.prog w=.ok (a.eqB b) w:=by
  unfold Win.arr
  simp [go_sem]
  simp only [ztn,Bool.and_true]
  rfl
theorem zdv (a b:Win) (w:World):(binOp .neq 62 (.agg a.arr) (.agg b.arr)).run Tryz.prog w=.ok (.bool (!a.eqB b)) w:=by
  simp only [binOp]
  simp [Op.equal,Op.maxDepth,zqF 9998]
def Leg.eqB (a b:Leg):Bool:=decide (a.ty=b.ty) && (decide (a.fix=b.fix) && (decide (a.center=b.center) && (decide (a.turn=b.turn) && (decide (a.over=b.over) && (decide (a.course=b.course) && (decide (a.dist=b.dist) && (decide (a.radius=b.radius) && (decide (a.theta=b.theta) && (decide (a.lo=b.lo) && (decide (a.hi=b.hi) && (decide (a.speed=b.speed) && (decide (a.rnp=b.rnp)))))))))))))
theorem Leg.eqB_iff (a b:Leg):a.eqB b=true ↔ a=b:=by
  obtain ⟨_,_,_,_,_,_,_,_,_,_,_,_,_⟩:=a
  obtain ⟨_,_,_,_,_,_,_,_,_,_,_,_,_⟩:=b
  simp [Leg.eqB]
def Entry.eqB (a b:Entry):Bool:=decide (a.gap=b.gap) && (decide (a.leg.ty=b.leg.ty) && (decide (a.leg.fix=b.leg.fix) && (decide (a.leg.center=b.leg.center) && (decide (a.leg.turn=b.leg.turn) && (decide (a.leg.over=b.leg.over) && (decide (a.leg.course=b.leg.course) && (decide (a.leg.dist=b.leg.dist) && (decide (a.leg.radius=b.leg.radius) && (decide (a.leg.theta=b.leg.theta) && (decide (a.leg.lo=b.leg.lo) && (decide (a.leg.hi=b.leg.hi) && (decide (a.leg.speed=b.leg.speed) && (decide (a.leg.rnp=b.leg.rnp) && (decide (a.ex=b.ex) && (decide (a.ey=b.ey) && (decide (a.mx=b.mx) && (decide (a.my=b.my) && (decide (a.sec=b.sec) && (decide (a.via=b.via))))))))))))))))))))
theorem Entry.eqB_iff (a b:Entry):a.eqB b=true ↔ a=b:=by
  obtain ⟨_,⟨_,_,_,_,_,_,_,_,_,_,_,_,_⟩,_,_,_,_,_,_⟩:=a
  obtain ⟨_,⟨_,_,_,_,_,_,_,_,_,_,_,_,_⟩,_,_,_,_,_,_⟩:=b
  simp [Entry.eqB,and_assoc]
set_option maxHeartbeats 1000000 in
set_option maxRecDepth 100000 in
theorem zqH (d:Nat) (a b:Entry) (w:World):(Op.equalIn (d+4) 69 (.agg a.arr) (.agg b.arr)).run Tryz.prog w=.ok (a.eqB b) w:=by
  unfold Entry.arr
  simp [go_sem]
  simp only [ztn,Bool.and_true]
  rfl
theorem zgj (a b:Entry) (w:World):(binOp .neq 69 (.agg a.arr) (.agg b.arr)).run Tryz.prog w=.ok (.bool (!a.eqB b)) w:=by
  simp only [binOp]
  simp [Op.equal,Op.maxDepth,zqH 9996]
end Go.Proofs.YtgoeedohgomodaaGreatDoor
