/- The empty database: what it gives. The empty database: the lookups and the methods that ask it; walks. Printed by wip/mkedz1.py. The empty database: the places, and the methods of an edit that ask it; walks. route.Place over any database; walk. -/
import Derived.Test.YtlggdgpdfepppaaGreatDoorPk36
import Derived.Test.YtlggdgpdfepppaaGreatDoorPk29
import Derived.Test.YtlggdgpdfepppaaGreatDoorPk01
import Derived.Test.YtlggdgpdfepppaaGreatDoorPk12
import Derived.Test.YtlggdgpdfepppaaGreatDoorPk03
import Derived.Laws.OwnMore
import Derived.Lib.AppendStr
import Derived.Lib.AtoiErrMem
import Derived.Test.YtlggdgpdfepppaaGreatDoorPk25
import Derived.Test.YtlggdgpdfepppaaGreatDoorPk44
namespace Go.Proofs.YtlggdgpdfepppaaGreatDoor
open Go.RowKit Go.Sort
set_option linter.unusedVariables false
set_option linter.unusedSimpArgs false
set_option maxRecDepth 100000
def cells0 : Array Value := #[.string ⟨#[]⟩, .int .i64 0, .int .i64 0, .int .i64 0, .int .i64 0, .int .i64 0, .slice none 0 0, .slice none 0 0, .slice none 0 0]
def db0 : DBs := ⟨cells0, 0, 0, none, 0, 0⟩
theorem db0_at (w : World) : DbAt w db0 [] := ⟨⟨rfl, rfl, rfl, rfl⟩, rfl, Nat.le_refl _, Items.nil _ _ _, by decide, fun f h => by cases h⟩
def look0 : Look := ⟨pointV 0 0 [], fun s => ([], if pairB s 47 6 then 6 else 4), fun _ _ _ => ([], 6), fun _ _ _ _ => (([], []), 6)⟩
theorem look0_ok : look0.ok := ⟨fun s => by simp [look0], fun n a b => ⟨by simp [look0], fun q h => by cases h⟩, fun a k n t => ⟨⟨by simp [look0], fun l h => by cases h⟩, by simp [look0], fun l h => by cases h⟩⟩
theorem eapply0_any (p : Plan) (A : Option Addr) (c : Nat) (e : EditV) (w : World) (hL : Laid w) (hF : FormsAt w) (hG : GapAt w)
    (hp : p.small) (hc : p.es.length ≤ c) (hE : Ents w A p.es) (hpf : p.from_.length ≤ 1000000000) (hpt2 : p.to_.length ≤ 1000000000) (he : e.ref.length ≤ 1000000000 ∧ e.name.length ≤ 1000000000 ∧ e.rway.length ≤ 1000000000 ∧ e.trans.length ≤ 1000000000)
    (ho : e.op < 8) : Calls Tryz.prog 33 #[.agg cells0, .agg (p.arr A c), .agg e.arr] w (RetAp w (applyS look0 p e)) :=
  eapply_any db0 [] look0 p A c e w hL hF hG (db0_at w) rfl look0_ok hp hc hE hpf hpt2 he fun wb g _ _ _ =>
    ⟨fun _ _ h => absurd (show e.op = 8 from h) (by omega), fun _ _ h => absurd (show e.op = 9 from h) (by omega), fun _ _ h => absurd (show e.op = 10 from h) (by omega), fun _ _ h => absurd (show e.op = 11 from h) (by omega), fun _ _ h => absurd (show e.op = 12 from h) (by omega)⟩
end Go.Proofs.YtlggdgpdfepppaaGreatDoor
namespace Go.Proofs.YtlggdgpdfepppaaGreatDoor
open Go.RowKit Go.Sort
set_option linter.unusedVariables false
set_option linter.unusedSimpArgs false
set_option maxRecDepth 100000

attribute [local go_sem] Has_db_alloc5 of_db_alloc5 Has_db_drew5 of_db_drew5 
end Go.Proofs.YtlggdgpdfepppaaGreatDoor
namespace Go.Proofs.YtlggdgpdfepppaaGreatDoor
open Go.RowKit Go.Sort
set_option linter.unusedVariables false
set_option linter.unusedSimpArgs false
set_option maxRecDepth 100000
attribute [local go_sem ↓] bfix_fold
attribute [local go_sem] run_bfix0
attribute [local go_sem] Has_db_alloc5 of_db_alloc5 Has_db_drew5 of_db_drew5 
end Go.Proofs.YtlggdgpdfepppaaGreatDoor
namespace Go.Proofs.YtlggdgpdfepppaaGreatDoor
open Go.RowKit Go.Sort
set_option linter.unusedVariables false
set_option linter.unusedSimpArgs false
set_option maxRecDepth 100000
attribute [local go_sem ↓] bfix_fold
attribute [local go_sem] run_bfix0
end Go.Proofs.YtlggdgpdfepppaaGreatDoor
