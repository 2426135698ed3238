/- Lemmas and walks. -/
import Derived.Test.YtgoeedohgomodaaGreatDoorQk29
import Derived.Test.YtgoeedohgomodaaGreatDoorQk28
import Derived.Test.YtgoeedohgomodaaGreatDoorQk11
import Derived.Test.YtgoeedohgomodaaGreatDoorQk30
set_option linter.unusedSimpArgs false
set_option linter.unusedVariables false
namespace Go.Proofs.YtgoeedohgomodaaGreatDoor
open Go.RowKit Go.Sort
set_option maxRecDepth 100000
attribute [local go_sem] zaO zaT zgu
theorem zbW {P:Program} {fn:Func} {p t u:Tmp} {ty:TypeId} (h:fn.results=#[.cell p ty, .tmp t, .tmp u]) (tmps:Array Value) (w:World) (g:Nat) (arr:Array Value) (n:Nat) (d:TypeDesc) (hp:tmps.getD p undef=.pointer (some ⟨g,0,none⟩)) (hn:arr.size=n) (hc:∀ j,w.cell? ⟨g,j,none⟩=arr[j]?)
    (hu:P.underlying ty=some d) (hd:(match d with | .struct _ | .array _ _=>true | _=>false)=true) (hi:(P.info? ty).map (·.size)=some n):
    (results fn tmps).run P w=.ok (.tuple #[.agg arr,tmps.getD t undef,tmps.getD u undef]) w:=by
  subst hn
  have hp':tmps[p]?.getD undef=.pointer (some ⟨g,0,none⟩):=by simpa using hp
  have hl:=zaE (P:=P) w ⟨g,0,none⟩ ty arr.toList _ (fun j v hv=>by
    rw [addr_add,Nat.zero_add,hc]
    simpa using hv) hu hd (by simpa using hi)
  simp [results,h,hp',asAddr,hl]
end Go.Proofs.YtgoeedohgomodaaGreatDoor
namespace Go.Proofs.YtgoeedohgomodaaGreatDoor
open Go.RowKit Go.Sort
set_option maxRecDepth 100000
attribute [local go_sem] zdp
set_option maxHeartbeats 1000000 in
theorem zkI (s:List UInt8) (w:World) (hL:Laid w) (hs:s.length≤4000000000):Calls Tryz.prog 30 #[.string ⟨s.toArray⟩] w
    (Ret w (.tuple #[.string ⟨(if zcf s 47 6 then (cutAt 47 s).1 else []).toArray⟩, .string ⟨(if zcf s 47 6 then (cutAt 47 s).2.1 else []).toArray⟩, .bool (zcf s 47 6)])):=by
  have hc:=zcF 47 s
  have kc:=Lib.hid (ztE s 47 w hL hs)
  have HP:=Lib.hid (show zcf s 47 6=zgr (cutAt 47 s) 6 from rfl)
  generalize zcf s 47 6=ok at HP ⊢
  generalize cutAt 47 s=q at *
  obtain ⟨a,b,f⟩:=q
  simp only at hc
  obtain ⟨ha,hb⟩:=hc
  have ka:=Lib.hid (fun w'=>zdl a 6 w' (by omega))
  have kb:=Lib.hid (fun w'=>zdl b 6 w' (by omega))
  have HP:=Lib.hid (show ok=(zbF a 6 && (!f || zbF b 6)) from HP.out)
  generalize zbF a 6=na at *
  generalize zbF b 6=nb at *
  cases f <;> cases na <;> cases nb
  all_goals
    obtain rfl:=HP.out
    clear HP
    go_enter Tryz.func30,Tryz.ntmps30
    go_wp2_with (first
      | (go_at_call 60;(with_reducible refine zaj kc.out ?_);intro w1 b1 _ _ _)
      | (go_at_call 61;(with_reducible first | refine zae (ka.out _) ?_ | refine zae (kb.out _) ?_)))
    go_ret3
    exact ⟨rfl,b1⟩
attribute [local go_sem ↓] zdI
attribute [local go_sem] zd3
attribute [local go_sem] zaO zaT zgu
end Go.Proofs.YtgoeedohgomodaaGreatDoor
