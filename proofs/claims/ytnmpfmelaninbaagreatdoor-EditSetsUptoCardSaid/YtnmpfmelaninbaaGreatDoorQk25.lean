/- Lemmas and walks. -/
import Derived.Test.YtnmpfmelaninbaaGreatDoorQk12
import Derived.Test.YtnmpfmelaninbaaGreatDoorQk15
import Derived.Test.YtnmpfmelaninbaaGreatDoorQk21
set_option linter.unusedSimpArgs false
set_option linter.unusedVariables false
namespace Go.Proofs.YtnmpfmelaninbaaGreatDoor
open Go.RowKit
theorem betE {n lo hi : Int} (h : betweenS n lo hi = 0) : lo ≤ n ∧ n ≤ hi := by
  unfold betweenS at h
  split at h <;> omega
theorem orE_both {a b : Int} (h : orE a b = 0) : a = 0 ∧ b = 0 := by
  unfold orE at h
  split at h
  · rename_i h1; subst h; exact absurd h1 (by decide)
  · rename_i h1; exact ⟨by simpa using h1, h⟩
theorem chk_all {e : EditV} : ∀ {l : List UInt8}, chkGo e l = 0 → ∀ c ∈ l, stE e c = 0
  | [], _, c, hc => absurd hc List.not_mem_nil
  | c0 :: r, h, c, hc => by
      obtain ⟨h1, h2⟩ := orE_both h
      rcases List.mem_cons.1 hc with rfl | hc
      · exact h1
      · exact chk_all h2 c hc
theorem edit_ok {e : EditV} (h : editCheck e = 0) : (1 ≤ e.op ∧ e.op ≤ 12) ∧ ∀ c ∈ edOrder, stE e c = 0 := by
  unfold editCheck at h
  split at h
  · omega
  · exact ⟨by omega, chk_all h⟩
theorem st_used {e : EditV} {c : UInt8} (h : stE e c = 0) (hu : (formF e.op).contains c = true) : checkF e c = 0 := by
  unfold stE at h; rw [if_pos hu] at h; exact h
theorem st_zero {e : EditV} {c : UInt8} (h : stE e c = 0) (hu : (formF e.op).contains c = false) : zeroF e c = true := by
  unfold stE at h
  rw [if_neg (by rw [hu]; decide)] at h
  cases hz : zeroF e c
  · rw [hz] at h; exact absurd h (by decide)
  · rfl
theorem formW_no {op : Int} (h : 1 ≤ op ∧ op ≤ 12) : (32 : UInt8) ∉ formW op ∧ formW op ≠ [] := by
  obtain ⟨k, rfl⟩ : ∃ k : Nat, op = k := ⟨op.toNat, by omega⟩
  have : k = 1 ∨ k = 2 ∨ k = 3 ∨ k = 4 ∨ k = 5 ∨ k = 6 ∨ k = 7 ∨ k = 8 ∨ k = 9 ∨ k = 10 ∨ k = 11 ∨ k = 12 := by omega
  rcases this with rfl | rfl | rfl | rfl | rfl | rfl | rfl | rfl | rfl | rfl | rfl | rfl <;> decide
theorem formF_in {op : Int} (h : 1 ≤ op ∧ op ≤ 12) : (∀ c ∈ formF op, c ∈ edOrder) ∧ formF op ≠ [] := by
  obtain ⟨k, rfl⟩ : ∃ k : Nat, op = k := ⟨op.toNat, by omega⟩
  have : k = 1 ∨ k = 2 ∨ k = 3 ∨ k = 4 ∨ k = 5 ∨ k = 6 ∨ k = 7 ∨ k = 8 ∨ k = 9 ∨ k = 10 ∨ k = 11 ∨ k = 12 := by omega
  rcases this with rfl | rfl | rfl | rfl | rfl | rfl | rfl | rfl | rfl | rfl | rfl | rfl <;> decide
theorem used_check {e : EditV} (h : editCheck e = 0) : ∀ c ∈ formF e.op, checkF e c = 0 := fun c hc => by
  obtain ⟨ho, hs⟩ := edit_ok h
  exact st_used (hs c ((formF_in ho).1 c hc)) (List.contains_iff_mem.2 hc)
theorem text_of {e : EditV} (h : editCheck e = 0) : editText e = formW e.op ++ tailT e (formF e.op) := by
  unfold editText; rw [h]; rfl
theorem win_okE {e : EditV} (h : checkF e 104 = 0) : winOk e.lo e.hi := by
  have h : (if e.lo < -200000 ∨ e.hi < e.lo ∨ 6000000 < e.hi then (2 : Int) else 0) = 0 := h
  split at h
  · omega
  · unfold winOk; omega
theorem dist_okE {e : EditV} (h : checkF e 100 = 0) : 0 ≤ e.dist ∧ e.dist ≤ 8000000 := by
  have h : (if e.op = 6 then betweenS e.dist 0 120000 else betweenS e.dist 1 2000000) = 0 := h
  split at h
  · have := betE h; omega
  · have := betE h; omega
/-! What is not used is zero. -/
theorem z97 {e : EditV} (h : zeroF e 97 = true) : e.at_ = 0 := by simpa using (show (e.at_ == 0) = true from h)
theorem z114 {e : EditV} (h : zeroF e 114 = true) : e.ref = [] := by simpa using (show e.ref.isEmpty = true from h)
theorem z110 {e : EditV} (h : zeroF e 110 = true) : e.name = [] := by simpa using (show e.name.isEmpty = true from h)
theorem z119 {e : EditV} (h : zeroF e 119 = true) : e.rway = [] := by simpa using (show e.rway.isEmpty = true from h)
theorem z116 {e : EditV} (h : zeroF e 116 = true) : e.trans = [] := by simpa using (show e.trans.isEmpty = true from h)
theorem z115 {e : EditV} (h : zeroF e 115 = true) : e.speed = 0 := by simpa using (show (e.speed == 0) = true from h)
theorem z99 {e : EditV} (h : zeroF e 99 = true) : e.course = 0 := by simpa using (show (e.course == 0) = true from h)
theorem z100 {e : EditV} (h : zeroF e 100 = true) : e.dist = 0 := by simpa using (show (e.dist == 0) = true from h)
theorem z117 {e : EditV} (h : zeroF e 117 = true) : e.turn = 0 := by simpa using (show (e.turn == 0) = true from h)
theorem z104 {e : EditV} (h : zeroF e 104 = true) : e.lo = 0 ∧ e.hi = 0 := by simpa using (show (e.lo == 0 && e.hi == 0) = true from h)
end Go.Proofs.YtnmpfmelaninbaaGreatDoor
namespace Go.Proofs.YtnmpfmelaninbaaGreatDoor
open Go.RowKit
structure LikeE (x y : Entry) : Prop where
  gap : y.gap = x.gap
  ty : y.leg.ty = x.leg.ty
  fix : y.leg.fix = x.leg.fix
  same : x.gap = true → y = x
inductive LikeL : List Entry → List Entry → Prop
  | nil : LikeL [] []
  | cons {x y : Entry} {r s : List Entry} : LikeE x y → LikeL r s → LikeL (x :: r) (y :: s)
theorem LikeE.refl (x : Entry) : LikeE x x := ⟨rfl, rfl, rfl, fun _ => rfl⟩
theorem LikeL.refl : ∀ l : List Entry, LikeL l l
  | [] => .nil
  | x :: r => .cons (.refl x) (LikeL.refl r)
theorem LikeL.split : ∀ {p q m : List Entry}, LikeL (p ++ q) m → ∃ p' q', m = p' ++ q' ∧ LikeL p p' ∧ LikeL q q'
  | [], q, m, h => ⟨[], m, rfl, .nil, h⟩
  | x :: p, q, m, h => by
    cases h with
    | cons h1 h2 =>
      obtain ⟨p', q', rfl, a, b⟩ := LikeL.split h2
      exact ⟨_ :: p', q', rfl, .cons h1 a, b⟩
theorem LikeL.last {p p' : List Entry} (h : LikeL p p') : ∀ {y : Entry}, p.getLast? = some y → ∃ y', p'.getLast? = some y' ∧ LikeE y y' := by
  induction h with
  | nil => intro y hy; simp at hy
  | @cons a b r s h1 h2 ih =>
    intro y hy
    cases h2 with
    | nil => obtain rfl : a = y := by simpa using hy
             exact ⟨b, rfl, h1⟩
    | cons h3 h4 =>
      rw [List.getLast?_cons_cons] at hy
      obtain ⟨y', e, l⟩ := ih hy
      exact ⟨y', by rw [List.getLast?_cons_cons]; exact e, l⟩
theorem LikeE.joins {a a' b b' : Entry} (h : LikeE a a') (k : LikeE b b') : a'.leg.joinsB b'.leg = a.leg.joinsB b.leg := by simp [Leg.joinsB, h.ty, h.fix, k.ty, k.fix]
theorem LikeE.dup {a a' b b' : Entry} (h : LikeE a a') (k : LikeE b b') : a'.leg.dupB b'.leg = a.leg.dupB b.leg := by simp [Leg.dupB, Leg.arrivedB, h.ty, h.fix, k.ty, k.fix]
theorem ChainR.like {m : List Entry} (h : ChainR m) : ∀ {m' : List Entry}, LikeL m m' → ChainR m' := by
  induction h with
  | nil => intro m' hm; cases hm; exact .nil
  | first x hg hs =>
    intro m' hm
    cases hm with
    | cons h1 h2 => cases h2; exact .first _ (by rw [h1.gap, hg]) (by rw [h1.ty]; exact hs)
  | join p y x hp hy hg hj hd ih =>
    intro m' hm
    obtain ⟨p', q', rfl, a, b⟩ := hm.split
    cases b with
    | cons h1 h2 =>
      cases h2
      obtain ⟨y', hy', ly⟩ := a.last hy
      exact .join _ y' _ (ih a) hy' (by rw [h1.gap, hg]) (by rw [ly.joins h1]; exact hj) (by rw [ly.dup h1]; exact hd)
  | gap p x hp hne hg hs ih =>
    intro m' hm
    obtain ⟨p', q', rfl, a, b⟩ := hm.split
    cases b with
    | cons h1 h2 =>
      cases h2 with
      | cons h3 h4 =>
        cases h4
        obtain rfl := h1.same rfl
        refine .gap _ _ (ih a) ?_ (by rw [h3.gap, hg]) (by rw [h3.ty]; exact hs)
        rintro rfl
        cases a
        exact hne rfl
theorem LikeL.set : ∀ {l : List Entry} {k : Nat} {x y : Entry}, l[k]? = some x → LikeE x y → LikeL l (l.set k y)
  | [], _, _, _, h, _ => by simp at h
  | a :: l, 0, x, y, h, k => by
    obtain rfl : a = x := by simpa using h
    exact .cons k (.refl l)
  | a :: l, n + 1, x, y, h, k => .cons (.refl a) (LikeL.set (by simpa using h) k)
theorem setLeg_like (e : EditV) (x : Entry) (hg : x.gap = false) : LikeE x (setLeg e x) := by
  unfold setLeg
  split
  · exact ⟨rfl, rfl, rfl, fun h => by rw [hg] at h; cases h⟩
  · split
    · exact ⟨rfl, rfl, rfl, fun h => by rw [hg] at h; cases h⟩
    · exact ⟨rfl, rfl, rfl, fun h => by rw [hg] at h; cases h⟩
theorem planChk_ok {p : Plan} (h : planCheck p = 0) : checkGo none 0 p.es = 0 ∧ p.es.length ≤ 60 ∧ -1 ≤ p.active ∧ p.active < p.es.length := by
  unfold planCheck at h
  split at h
  · simp at h
  · split at h
    · simp at h
    · obtain ⟨h1, h2⟩ := orE_zeroJ h
      refine ⟨h1, by omega, ?_⟩
      unfold activeE at h2
      split at h2
      · omega
      · split at h2
        · simp at h2
        · omega
theorem applyS_ok {L : Look} {p : Plan} {e : EditV} (h : (applyS L p e).2 = 0) : planCheck p = 0 ∧ editCheck e = 0 ∧ (runS L p e).err = 0 ∧ (applyS L p e).1 = ⟨(runS L p e).from_, (runS L p e).to_, joinE (runS L p e).list, (runS L p e).active⟩ := by
  unfold applyS at h ⊢
  by_cases h1 : planCheck p = 0
  · by_cases h2 : editCheck e = 0
    · by_cases h3 : (runS L p e).err = 0
      · refine ⟨h1, h2, h3, ?_⟩
        simp only [h1, h2, h3, ne_eq, not_true_eq_false, if_false] at h ⊢
        split at h
        · rename_i h4; exact absurd h h4
        · rename_i h4; rw [if_neg h4]
      · simp [h1, h2, h3] at h
    · simp [h1, h2] at h
  · simp [h1] at h
theorem entAt_get {p : Plan} {k : Nat} (h : k < p.es.length) : p.es[k]? = some (entAt p k) := by
  unfold entAt
  rw [List.getD_eq_getElem?_getD, List.getElem?_eq_getElem h]; rfl
theorem edit_at {e : EditV} (h : editCheck e = 0) : 0 ≤ e.at_ ∧ e.at_ ≤ 60 := by
  have h1 := (edit_ok h).2 97 (by decide)
  cases hu : (formF e.op).contains 97 with
  | true => exact betE (st_used h1 hu)
  | false => have := z97 (st_zero h1 hu); omega
theorem formF_at {op : Int} (h : op = 3 ∨ op = 4 ∨ op = 5 ∨ op = 6) : (formF op).contains 97 = true := by
  rcases h with rfl | rfl | rfl | rfl <;> decide
theorem sets_law {L : Look} {p : Plan} {e : EditV} (h : (applyS L p e).2 = 0) (ho : e.op = 4 ∨ e.op = 5 ∨ e.op = 6) :
    (applyS L p e).1 = ⟨p.from_, p.to_, p.es.set e.at_.toNat (setLeg e (entAt p e.at_.toNat)), p.active⟩ := by
  obtain ⟨hp, he, hr, hq⟩ := applyS_ok h
  obtain ⟨hv, hl, ha0, ha1⟩ := planChk_ok hp
  obtain ⟨t0, _⟩ := edit_at he
  have hf := formF_at (Or.inr ho)
  have hrun : runS L p e = setS p e ∧ e.at_ < p.es.length := by
    unfold runS at hr ⊢
    by_cases hc : (formF e.op).contains 97 ∧ ((p.es.length : Int) < e.at_ ∨ e.at_ = p.es.length ∧ e.op ≠ 1)
    · rw [if_pos hc] at hr; simp [EdR.bad] at hr
    · rw [if_neg hc]
      have n1 : e.op ≠ 1 := by omega
      have n2 : e.op ≠ 2 := by omega
      have n3 : e.op ≠ 3 := by omega
      rw [if_neg n1, if_neg n2, if_neg n3, if_pos ho]
      refine ⟨rfl, ?_⟩
      rcases Int.lt_trichotomy e.at_ p.es.length with h | h | h
      · exact h
      · exact absurd ⟨hf, .inr ⟨h, n1⟩⟩ hc
      · exact absurd ⟨hf, .inl h⟩ hc
  obtain ⟨hrun, hlt⟩ := hrun
  rw [hrun] at hq hr
  unfold setS at hq hr
  by_cases h1 : e.at_ < p.active
  · rw [if_pos h1] at hr; simp [EdR.bad] at hr
  · rw [if_neg h1] at hq hr
    cases hg : (entAt p e.at_.toNat).gap with
    | true => rw [hg] at hr; simp [EdR.bad] at hr
    | false =>
      rw [hg] at hq
      simp only [Bool.false_eq_true, if_false, keepR] at hq
      rw [hq]
      have hget := entAt_get (p := p) (k := e.at_.toNat) (by omega)
      have hc := (check_chain p.es [] 0 .nil (by simpa using hv))
      have := (ChainR.like hc (LikeL.set hget (setLeg_like e _ hg))).again
      rw [List.nil_append] at this
      rw [this]
theorem joinGo_pre (out : List Entry) (pb : Bool) (r : List Entry) : ∃ n, joinGo out pb r = out ++ n := by
  obtain ⟨n, h, _⟩ := joinGo_emb r out pb
  exact ⟨n, h⟩
theorem joinE_head {D : Entry} {r : List Entry} (hD : D.gap = false) (hs : startsB D.leg.ty = true) : ∃ n, joinE (D :: r) = D :: n := by
  unfold joinE
  rw [joinGo]
  have : joinStep [] false D = ([D], false) := by simp [joinStep, hD, joinNew, startOf_starts hs]
  rw [this]
  exact joinGo_pre [D] false r
end Go.Proofs.YtnmpfmelaninbaaGreatDoor
