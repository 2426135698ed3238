/- Lemmas and walks. -/
import Derived.Test.YtgoeedohgomodaaGreatDoorQk04
import Derived.Test.YtgoeedohgomodaaGreatDoorQk06
set_option linter.unusedSimpArgs false
set_option linter.unusedVariables false
namespace Go.Proofs.YtgoeedohgomodaaGreatDoor
open Go.RowKit
def gapE:Entry:=⟨true,⟨0,[],[],0,false,0,0,0,0,0,0,0,0⟩,0,0,0,0,0,[]⟩
def Leg.arrivedB (y x:Leg):Bool:=zdq y.ty && y.fix == x.fix
def zdr (prev:Option Entry) (x:Entry):Int:=
  match prev with
  | none=>if zcu x.leg.ty then 0 else 9
  | some y=>if y.gap then (if zcu x.leg.ty then 0 else 9) else if y.leg.joinsB x.leg then (if (x.leg.ty == 2 || x.leg.ty == 4) && y.leg.arrivedB x.leg then 7 else 0) else 9
def zea (prev:Option Entry) (last:Bool):Int:=
  match prev with
  | none=>9
  | some y=>if last || y.gap then 9 else 0
def zeR (prev:Option Entry) (s:Int) (last:Bool) (x:Entry):Int:=
  if x.gap then (if x.eqB gapE then zea prev last else 1) else orE (zfa x) (orE (zdr prev x) (if x.sec < s then 9 else 0))
def zbt:Option Entry→Int→List Entry→Int
  | _,_,[]=>0
  | prev,s,x :: r=>orE (zeR prev s r.isEmpty x) (zbt (some x) (if x.gap then s else x.sec) r)
def zcd (p:Plan):Int:=
  if p.active=-1 then 0 else if p.active < 0∨(p.es.length:Int)≤p.active then 2 else if ((p.es[p.active.toNat]?).map (·.gap)).getD true then 2 else 0
def zaq (p:Plan):Int:=
  if !zf9 p.from_ || !zf9 p.to_ then 5 else if 60 < p.es.length then 3 else orE (zbt none 0 p.es) (zcd p)
def zpL (es:List Entry):Nat→Option Entry
  | 0=>none
  | k+1=>es[k]?
theorem zsf (x:Entry):∀ w,(binOp .neq 69 (.agg x.arr) (.agg #[.bool true, .int .u8 0, .string ⟨#[]⟩, .string ⟨#[]⟩, .int .u8 0, .bool false, .int .i64 0, .int .i64 0, .int .i64 0, .int .i64 0, .int .i64 0, .int .i64 0, .int .i64 0, .int .i64 0, .int .i64 0, .int .i64 0, .int .i64 0, .int .i64 0, .int .u8 0, .string ⟨#[]⟩])).run Tryz.prog w=.ok (.bool (!x.eqB gapE)) w:=fun w=>zgj x gapE w
theorem zlM {prev:Option Entry} {s:Int} {l:Bool} {x:Entry} {R T:Int} (h:x.gap=true) (he:(!x.eqB gapE)=true):1=orE (orE (zeR prev s l x) R) T:=by grind [zeR,orE]
theorem zhm {prev:Option Entry} {s:Int} {l:Bool} {x:Entry} {R T:Int} (h:x.gap=true) (he:(!x.eqB gapE)=false) (hp:zea prev l=9):9=orE (orE (zeR prev s l x) R) T:=by grind [zeR,orE]
theorem zlN {prev:Option Entry} {s:Int} {l:Bool} {x:Entry} {R T:Int} (h:x.gap=true) (he:(!x.eqB gapE)=false) (hp:zea prev l=0):orE (orE (zeR prev s l x) R) T=orE R T:=by grind [zeR,orE]
theorem zkP {prev:Option Entry} {s:Int} {l:Bool} {x:Entry} {R T:Int} (h:x.gap=false) (he:(zfa x != 0)=true):zfa x=orE (orE (zeR prev s l x) R) T:=by grind [zeR,orE]
theorem zhK {prev:Option Entry} {s:Int} {l:Bool} {x:Entry} {R T v:Int} (h:x.gap=false) (he:(zfa x != 0)=false) (ho:zdr prev x=v) (hv:v ≠ 0):v=orE (orE (zeR prev s l x) R) T:=by grind [zeR,orE]
theorem zkO {prev:Option Entry} {s:Int} {l:Bool} {x:Entry} {R T:Int} (h:x.gap=false) (he:(zfa x != 0)=false) (ho:zdr prev x=0) (hs:x.sec < s):9=orE (orE (zeR prev s l x) R) T:=by grind [zeR,orE]
theorem zig {prev:Option Entry} {s:Int} {l:Bool} {x:Entry} {R T:Int} (h:x.gap=false) (he:(zfa x != 0)=false) (ho:zdr prev x=0) (hs:¬ x.sec < s):orE (orE (zeR prev s l x) R) T=orE R T:=by grind [zeR,orE]
theorem zn1 (es:List Entry) (k:Nat) (h:k < es.length):(es.drop (k+1)).isEmpty=decide ((k:Int)=(es.length:Int) - 1):=by
  rw [Bool.eq_iff_iff]
  simp
  omega
theorem znB {y:Entry} {x:Entry} (hy:y.gap=true) (h:(!zcu x.leg.ty)=true):zdr (some y) x=9:=by grind [zdr]
theorem zdX {y:Entry} {x:Entry} (hy:y.gap=true) (h:(!zcu x.leg.ty)=false):zdr (some y) x=0:=by grind [zdr]
theorem zpO {x:Entry} (h:(!zcu x.leg.ty)=true):zdr none x=9:=by grind [zdr]
theorem zeD {x:Entry} (h:(!zcu x.leg.ty)=false):zdr none x=0:=by grind [zdr]
theorem zpP {y:Entry} {x:Entry} (hy:y.gap=false) (h:(!y.leg.joinsB x.leg)=true):zdr (some y) x=9:=by grind [zdr]
def tdB (t:Int):Bool:=t == 2 || t == 4
def Leg.dupB (y x:Leg):Bool:=tdB x.ty && y.arrivedB x
theorem zsL {y:Entry} {x:Entry} (hy:y.gap=false) (h:(!y.leg.joinsB x.leg)=false) (ha:y.leg.dupB x.leg=true):zdr (some y) x=7:=by grind [zdr,tdB,Leg.dupB]
theorem zk0 {y:Entry} {x:Entry} (hy:y.gap=false) (h:(!y.leg.joinsB x.leg)=false) (ha:y.leg.dupB x.leg=false):zdr (some y) x=0:=by grind [zdr,tdB,Leg.dupB]
end Go.Proofs.YtgoeedohgomodaaGreatDoor
