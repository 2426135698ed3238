/- The plain laws of Join: a joined list is joined to itself, is valid, keeps its legs. No program in sight. The plain laws of edits applied: a field set; a direct-to. No program in sight. -/
import Derived.Test.YtlggdgpdfepppaaGreatDoorPk10
import Derived.Test.YtlggdgpdfepppaaGreatDoorPk16
import Derived.Test.YtlggdgpdfepppaaGreatDoorPk15
namespace Go.Proofs.YtlggdgpdfepppaaGreatDoor
open Go.RowKit
set_option linter.unusedVariables false
set_option linter.unusedSimpArgs false
def joinSt (st : List Entry × Bool) (x : Entry) : List Entry × Bool := joinStep st.1 st.2 x
theorem joinGo_foldl : ∀ (r : List Entry) (out : List Entry) (pb : Bool), joinGo out pb r = (r.foldl joinSt (out, pb)).1
  | [], _, _ => rfl
  | x :: r, out, pb => by rw [joinGo, joinGo_foldl r]; rfl
theorem startOf_ok {x : Entry} (h : (startOf x).2 = true) : (startOf x).1.gap = x.gap ∧ startsB (startOf x).1.leg.ty = true := by
  unfold startOf at h ⊢
  split
  · rename_i h1; exact ⟨rfl, h1⟩
  · rename_i h1
    split
    · exact ⟨rfl, rfl⟩
    · rename_i h2; simp [h1, h2] at h
theorem orE_zeroJ {a b : Int} (h : orE a b = 0) : a = 0 ∧ b = 0 := by grind [orE]
def comesB (x y : Entry) : Bool := !x.gap && (x.eqB y || (y.leg.ty == 1 && decide (x.leg.fix = y.leg.fix) && (decide (x.ex = y.ex) && decide (x.ey = y.ey))))
inductive Emb : List Entry → List Entry → Prop
  | nil (l : List Entry) : Emb l []
  | gap (l m : List Entry) (y : Entry) : y.gap = true → Emb l m → Emb l (y :: m)
  | skip (l m : List Entry) (x : Entry) : Emb l m → Emb (x :: l) m
  | take (l m : List Entry) (x y : Entry) : comesB x y = true → y.gap = false → Emb l m → Emb (x :: l) (y :: m)
theorem startOf_comes {x : Entry} (hg : x.gap = false) (h : (startOf x).2 = true) : comesB x (startOf x).1 = true := by
  unfold startOf at h ⊢
  split
  · simp [comesB, hg, (Entry.eqB_iff x x).2 rfl]
  · rename_i h1
    split
    · simp [comesB, hg, startForm]
    · rename_i h2; simp [h1, h2] at h
theorem new_emb (out : List Entry) (pb : Bool) (x : Entry) (hg : x.gap = false) : ∃ n, (joinNew out pb x).1 = out ++ n ∧ Emb [x] n := by
  unfold joinNew
  split
  · rename_i hs
    have hc := startOf_comes hg hs
    have h1 := (startOf_ok hs).1
    rw [hg] at h1
    cases ho : out.isEmpty
    · exact ⟨[gapE, (startOf x).1], by simp, .gap _ _ _ rfl (.take _ _ _ _ hc h1 (.nil _))⟩
    · exact ⟨[(startOf x).1], by simp, .take _ _ _ _ hc h1 (.nil _)⟩
  · exact ⟨[], by simp, .nil _⟩
theorem step_emb (out : List Entry) (pb : Bool) (x : Entry) : ∃ n, (joinStep out pb x).1 = out ++ n ∧ Emb [x] n := by
  unfold joinStep
  split
  · exact ⟨[], by simp, .nil _⟩
  · rename_i hg
    have hg : x.gap = false := by simpa using hg
    split
    · exact new_emb out pb x hg
    · split
      · exact new_emb out pb x hg
      · split
        · exact ⟨[], by simp, .nil _⟩
        · split
          · exact ⟨[x], rfl, .take _ _ _ _ (by simp [comesB, hg, (Entry.eqB_iff x x).2 rfl]) hg (.nil _)⟩
          · exact new_emb out pb x hg
theorem step_len (out : List Entry) (pb : Bool) (x : Entry) : (joinStep out pb x).1.length ≤ out.length + 2 := by
  obtain ⟨n, h, e⟩ := step_emb out pb x
  unfold joinStep joinNew
  split
  · simp
  · split
    · split
      · split <;> simp
      · simp
    · split
      · split
        · split <;> simp
        · simp
      · split
        · simp
        · split
          · simp
          · split
            · split <;> simp
            · simp
theorem joinGo_len : ∀ (r out : List Entry) (pb : Bool), (joinGo out pb r).length ≤ out.length + 2 * r.length
  | [], _, _ => by simp [joinGo]
  | x :: r, out, pb => by
    have h1 := step_len out pb x
    have h2 := joinGo_len r (joinStep out pb x).1 (joinStep out pb x).2
    rw [joinGo, List.length_cons]; omega
theorem joinE_len (l : List Entry) : (joinE l).length ≤ 2 * l.length := by simpa [joinE] using joinGo_len l [] false
end Go.Proofs.YtlggdgpdfepppaaGreatDoor
namespace Go.Proofs.YtlggdgpdfepppaaGreatDoor
open Go.RowKit
set_option linter.unusedVariables false
set_option linter.unusedSimpArgs false
theorem planChk_ok {p : Plan} (h : planCheck p = 0) : checkGo none 0 p.es = 0 ∧ p.es.length ≤ 60 ∧ -1 ≤ p.active ∧ p.active < p.es.length := by
  unfold planCheck at h
  split at h
  · simp at h
  · split at h
    · simp at h
    · obtain ⟨h1, h2⟩ := orE_zeroJ h
      refine ⟨h1, by omega, ?_⟩
      unfold activeE at h2
      split at h2
      · omega
      · split at h2
        · simp at h2
        · omega
theorem entAt_get {p : Plan} {k : Nat} (h : k < p.es.length) : p.es[k]? = some (entAt p k) := by
  unfold entAt
  rw [List.getD_eq_getElem?_getD, List.getElem?_eq_getElem h]; rfl
theorem edit_at {e : EditV} (h : editCheck e = 0) : 0 ≤ e.at_ ∧ e.at_ ≤ 60 := by
  have h1 := (edit_ok h).2 97 (by decide)
  cases hu : (formF e.op).contains 97 with
  | true => exact betE (st_used h1 hu)
  | false => have := z97 (st_zero h1 hu); omega
end Go.Proofs.YtlggdgpdfepppaaGreatDoor
