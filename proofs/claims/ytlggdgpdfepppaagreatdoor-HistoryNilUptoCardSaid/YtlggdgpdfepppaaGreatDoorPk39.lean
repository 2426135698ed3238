/- What a database gives is short. No program in sight. procedure.Part; walk (turned from navdb.Airway's). procedure.Names, the closure of procedure.Find, slices.IndexFunc over procedures; walks. procedure.Find, navdb.Procedure; walks. Printed by wip/mkgdh.py. -/
import Derived.Test.YtlggdgpdfepppaaGreatDoorPk18
import Derived.Test.YtlggdgpdfepppaaGreatDoorPk25
import Derived.Test.YtlggdgpdfepppaaGreatDoorPk38
import Derived.Test.YtlggdgpdfepppaaGreatDoorPk10
import Derived.Deep.RegionHeld3
namespace Go.Proofs.YtlggdgpdfepppaaGreatDoor
open Go.RowKit
set_option linter.unusedVariables false
set_option linter.unusedSimpArgs false
structure GDB.short (G : GDB) : Prop where
  fix : ∀ f ∈ G.fixes, f.ident.length ≤ 1000000000 ∧ f.region.length ≤ 1000000000
  air : ∀ a ∈ G.airways, ∀ p ∈ a.pts, p.ref.length ≤ 4000000000
  prc : ∀ p ∈ G.procs, ∀ x ∈ p.parts, ∀ l ∈ x.legs, l.small
end Go.Proofs.YtlggdgpdfepppaaGreatDoor
namespace Go.Proofs.YtlggdgpdfepppaaGreatDoor
open Go.RowKit Go.Sort
set_option linter.unusedVariables false
set_option linter.unusedSimpArgs false
set_option maxRecDepth 100000
theorem prtArr_splice (a b : PartV) (A B : Option Addr) (c d : Nat) : splice (prtArr a A c) 0 (prtArr b B d) = prtArr b B d := rfl
attribute [local go_sem] prtArr_splice
end Go.Proofs.YtlggdgpdfepppaaGreatDoor
namespace Go.Proofs.YtlggdgpdfepppaaGreatDoor
open Go.RowKit Go.Sort
set_option linter.unusedVariables false
set_option linter.unusedSimpArgs false
set_option maxRecDepth 100000
attribute [local go_sem] prtArr_splice
end Go.Proofs.YtlggdgpdfepppaaGreatDoor
namespace Go.Proofs.YtlggdgpdfepppaaGreatDoor
open Go.RowKit Go.Sort
set_option linter.unusedVariables false
set_option linter.unusedSimpArgs false
set_option maxRecDepth 100000
theorem cellsIn_set (n : Nat) : ∀ (l : List (Array Value)) (k j : Nat) (u : Value) (x : Array Value), (∀ y ∈ l, y.size = n) → l[k]? = some x → j < n → (cellsIn l).set (k * n + j) u = cellsIn (l.set k (x.setIfInBounds j u))
  | [], k, j, u, x, _, h, _ => by simp at h
  | y :: r, 0, j, u, x, hs, h, hj => by
    obtain rfl : y = x := by simpa using h
    have hy : y.toList.length = n := by simpa using hs y (by simp)
    simp only [cellsIn, List.flatMap_cons, List.set_cons_zero, Nat.zero_mul, Nat.zero_add, Array.toList_setIfInBounds]
    rw [List.set_append_left _ _ (by omega)]
  | y :: r, k + 1, j, u, x, hs, h, hj => by
    have ih := cellsIn_set n r k j u x (fun z hz => hs z (List.mem_cons_of_mem _ hz)) (by simpa using h) hj
    have hy : y.toList.length = n := by simpa using hs y (by simp)
    simp only [cellsIn, List.flatMap_cons, List.set_cons_succ] at ih ⊢
    have e : (k + 1) * n + j - y.toList.length = k * n + j := by rw [hy, Nat.add_mul, Nat.one_mul]; omega
    rw [List.set_append_right _ _ (by rw [hy, Nat.add_mul, Nat.one_mul]; omega), e, ih]
theorem GOut.setAt {B : Nat} {W : World} {t : TypeId} {n m q c : Nat} {l : List (Array Value)} (h : GOut B W t n (.slice (some ⟨q, 0, none⟩) m c) l) (hm : l.length = m) (hl : ∀ y ∈ l, y.size = n) {k j : Nat} {x : Array Value} (hk : l[k]? = some x) (hj : j < n) (u : Value) :
    GOut B (W.setCell ⟨q, k * n + j, none⟩ u) t n (.slice (some ⟨q, 0, none⟩) m c) (l.set k (x.setIfInBounds j u)) := by
  subst hm
  have := (World.ownsRow.stored h (k * n + j) u).1
  unfold GOut
  rw [← cellsIn_set n l k j u x hl hk hj, List.length_set]
  exact this
theorem prcArr_splice (a b : ProcV) (A B : Option Addr) (c d : Nat) : splice (prcArr a A c) 0 (prcArr b B d) = prcArr b B d := rfl
attribute [local go_sem] prcArr_splice
end Go.Proofs.YtlggdgpdfepppaaGreatDoor
