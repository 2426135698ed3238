/- What a database gives is short. No program in sight. procedure.order, opens, Names, Part; walks. procedure.Part; walk (turned from navdb.Airway's). procedure.Names, the closure of procedure.Find, slices.IndexFunc over procedures; walks. procedure.Find, navdb.Procedure; walks. Printed by wip/mkgdh.py. -/
import Derived.Test.YtlggdgpdfepppaaGreatDoorQk18
import Derived.Test.YtlggdgpdfepppaaGreatDoorQk25
import Derived.Test.YtlggdgpdfepppaaGreatDoorQk38
import Derived.Test.YtlggdgpdfepppaaGreatDoorQk10
import Derived.Deep.RegionHeld3
namespace Go.Proofs.YtlggdgpdfepppaaGreatDoor
open Go.RowKit
set_option linter.unusedVariables false
set_option linter.unusedSimpArgs false
theorem nameB_le {l : List UInt8} {most : Int} (h : nameB l most = true) : (l.length : Int) ≤ most := by
  unfold nameB at h
  split at h
  · cases h
  · simp only [Bool.and_eq_true, decide_eq_true_eq] at h
    exact h.1.1
structure GDB.short (G : GDB) : Prop where
  fix : ∀ f ∈ G.fixes, f.ident.length ≤ 1000000000 ∧ f.region.length ≤ 1000000000
  air : ∀ a ∈ G.airways, ∀ p ∈ a.pts, p.ref.length ≤ 4000000000
  prc : ∀ p ∈ G.procs, ∀ x ∈ p.parts, ∀ l ∈ x.legs, l.small
theorem portV_mem {a : List UInt8} : ∀ {l : List FixV} {f : FixV}, portV a l = some f → f ∈ l
  | [], f, h => by cases h
  | g :: t, f, h => by
    unfold portV at h
    split at h
    · obtain rfl : g = f := by simpa using h
      simp
    · exact List.mem_cons_of_mem _ (portV_mem h)
theorem placeG_len {G : GDB} (hs : G.short) (s : List UInt8) : (placeG G.fixes s).1.length ≤ 4000000000 := by
  unfold placeG
  split
  · simp
  · rename_i h0
    split
    · rename_i h1
      split
      · have hp : pair3 (cutAt 47 s) 6 = true := by simpa [pairB] using h0
        unfold pair3 at hp
        simp only [Bool.and_eq_true, Bool.or_eq_true, Bool.not_eq_true'] at hp
        have h2 := nameB_le hp.1
        have h3 : ((cutAt 47 s).2.1.length : Int) ≤ 6 := by
          rcases hp.2 with h | h
          · exfalso
            apply h1
            have : ∀ l : List UInt8, (cutAt 47 l).2.2 = false → (cutAt 47 l).2.1 = [] := by
              intro l
              induction l with
              | nil => intro _; rfl
              | cons x r ih =>
                intro h
                unfold cutAt at h ⊢
                split at h
                · cases h
                · rename_i hx
                  rw [if_neg hx]
                  exact ih h
            exact this s h
          · exact nameB_le h
        simp only [List.length_append, List.length_cons]
        omega
      · simp
    · split
      · simp
      · rename_i f hf
        have := hs.fix f (portV_mem hf)
        show f.ref.length ≤ _
        unfold FixV.ref
        rw [List.length_append, List.length_cons]
        omega
theorem awyFind_mem {n : List UInt8} : ∀ {l : List AwyV} {f : AwyV}, awyFind n l = some f → f ∈ l
  | [], f, h => by cases h
  | g :: t, f, h => by
    unfold awyFind at h
    split at h
    · obtain rfl : g = f := by simpa using h
      simp
    · exact List.mem_cons_of_mem _ (awyFind_mem h)
theorem procFind_mem {a : List UInt8} {k : Int} {n : List UInt8} : ∀ {l : List ProcV} {f : ProcV}, procFind a k n l = some f → f ∈ l
  | [], f, h => by cases h
  | g :: t, f, h => by
    unfold procFind at h
    split at h
    · obtain rfl : g = f := by simpa using h
      simp
    · exact List.mem_cons_of_mem _ (procFind_mem h)
theorem partV_mem {k : Int} {n : List UInt8} : ∀ {l : List PartV} {f : PartV}, partV k n l = some f → f ∈ l
  | [], f, h => by cases h
  | g :: t, f, h => by
    unfold partV at h
    split at h
    · obtain rfl : g = f := by simpa using h
      simp
    · exact List.mem_cons_of_mem _ (partV_mem h)
theorem ptAt_len {pts : List APt} (h : ∀ p ∈ pts, p.ref.length ≤ 4000000000) (k : Nat) : (ptAt pts k).ref.length ≤ 4000000000 := by
  unfold ptAt
  rw [List.getD_eq_getElem?_getD]
  cases hq : pts[k]? with
  | none => simp [noPt]
  | some x => exact h x (List.mem_of_getElem? hq)
theorem wayUp_ok {pts : List APt} (h : ∀ p ∈ pts, p.ref.length ≤ 4000000000) : ∀ (n i : Nat) (acc : List (List UInt8 × Int × Int)), (∀ q ∈ acc, q.1.length ≤ 4000000000) →
    (wayUp pts i n acc).1.length ≤ acc.length + n ∧ ∀ q ∈ (wayUp pts i n acc).1, q.1.length ≤ 4000000000
  | 0, i, acc, ha => ⟨Nat.le_refl _, ha⟩
  | n + 1, i, acc, ha => by
    unfold wayUp
    split
    · exact ⟨by simp, fun q hq => by cases hq⟩
    · obtain ⟨h1, h2⟩ := wayUp_ok h n (i + 1) (acc ++ [((ptAt pts (i + 1)).ref, (ptAt pts i).lo, (ptAt pts i).hi)]) (fun q hq => by
        rcases List.mem_append.1 hq with hq | hq
        · exact ha q hq
        · obtain rfl : q = _ := by simpa using hq
          exact ptAt_len h _)
      rw [List.length_append, List.length_singleton] at h1
      exact ⟨by omega, h2⟩
theorem wayDn_ok {pts : List APt} (h : ∀ p ∈ pts, p.ref.length ≤ 4000000000) : ∀ (n i : Nat) (acc : List (List UInt8 × Int × Int)), (∀ q ∈ acc, q.1.length ≤ 4000000000) →
    (wayDn pts i n acc).1.length ≤ acc.length + n ∧ ∀ q ∈ (wayDn pts i n acc).1, q.1.length ≤ 4000000000
  | 0, i, acc, ha => ⟨Nat.le_refl _, ha⟩
  | n + 1, i, acc, ha => by
    unfold wayDn
    split
    · exact ⟨by simp, fun q hq => by cases hq⟩
    · obtain ⟨h1, h2⟩ := wayDn_ok h n (i - 1) (acc ++ [((ptAt pts (i - 1)).ref, (ptAt pts (i - 1)).lo, (ptAt pts (i - 1)).hi)]) (fun q hq => by
        rcases List.mem_append.1 hq with hq | hq
        · exact ha q hq
        · obtain rfl : q = _ := by simpa using hq
          exact ptAt_len h _)
      rw [List.length_append, List.length_singleton] at h1
      exact ⟨by omega, h2⟩
theorem idxA_lt (r : List UInt8) : ∀ (l : List APt) (k : Nat), 0 ≤ idxA r l k → (k : Int) ≤ idxA r l k ∧ idxA r l k < k + l.length
  | [], k, h => by simp [idxA] at h
  | p :: t, k, h => by
    unfold idxA at h ⊢
    split
    · exact ⟨Int.le_refl _, by simp; omega⟩
    · rename_i hc
      rw [if_neg hc] at h
      have := idxA_lt r t (k + 1) h
      exact ⟨by omega, by simp; omega⟩
theorem awyCheck_len {a : AwyV} (h : awyCheck a = 0) : 2 ≤ a.pts.length ∧ a.pts.length ≤ 40 := by
  unfold awyCheck at h
  split at h
  · simp at h
  split at h
  · simp at h
  split at h
  · simp at h
  omega
theorem awyExpand_ok {a : AwyV} (h : ∀ p ∈ a.pts, p.ref.length ≤ 4000000000) (f t : List UInt8) : (awyExpand a f t).1.length ≤ 100000 ∧ ∀ q ∈ (awyExpand a f t).1, q.1.length ≤ 4000000000 := by
  unfold awyExpand
  split
  · exact ⟨by simp, fun q hq => by cases hq⟩
  rename_i h1
  have h1 : awyCheck a = 0 := by simpa using h1
  have hl := awyCheck_len h1
  split
  · exact ⟨by simp, fun q hq => by cases hq⟩
  rename_i h2
  split
  · exact ⟨by simp, fun q hq => by cases hq⟩
  have i1 := idxA_lt f a.pts 0 (by omega)
  have i2 := idxA_lt t a.pts 0 (by omega)
  split
  · obtain ⟨k1, k2⟩ := wayUp_ok h ((idxA t a.pts 0).toNat - (idxA f a.pts 0).toNat) (idxA f a.pts 0).toNat [] (fun q hq => by cases hq)
    exact ⟨by simp only [List.length_nil] at k1; omega, k2⟩
  · obtain ⟨k1, k2⟩ := wayDn_ok h ((idxA f a.pts 0).toNat - (idxA t a.pts 0).toNat) (idxA f a.pts 0).toNat [] (fun q hq => by cases hq)
    exact ⟨by simp only [List.length_nil] at k1; omega, k2⟩
theorem wayG_ok {G : GDB} (hs : G.short) (n a b : List UInt8) : (wayG G.airways n a b).1.length ≤ 100000 ∧ ∀ q ∈ (wayG G.airways n a b).1, q.1.length ≤ 4000000000 := by
  unfold wayG
  split
  · exact ⟨by simp, fun q hq => by cases hq⟩
  · rename_i w hw
    exact awyExpand_ok (hs.air w (awyFind_mem hw)) a b
theorem partE_len {pk : Int} {prev : Option PartV} {x : PartV} (h : partE pk prev x = 0) : x.legs.length ≤ 24 ∧ 1 ≤ x.legs.length := by
  unfold partE at h
  split at h
  · simp at h
  obtain ⟨_, h⟩ := orE_eq0.1 h
  obtain ⟨h, _⟩ := orE_eq0.1 h
  unfold shapeE at h
  split at h
  · simp at h
  split at h
  · simp at h
  split at h
  · simp at h
  omega
theorem partsE_len {pk : Int} : ∀ {l : List PartV} {prev : Option PartV}, partsE pk prev l = 0 → ∀ x ∈ l, x.legs.length ≤ 24 ∧ 1 ≤ x.legs.length
  | [], _, _, x, hx => by cases hx
  | y :: r, prev, h, x, hx => by
    unfold partsE at h
    obtain ⟨h1, h2⟩ := orE_eq0.1 h
    rcases List.mem_cons.1 hx with rfl | hx
    · exact partE_len h1
    · exact partsE_len h2 x hx
theorem procCheck_len {p : ProcV} (h : procCheck p = 0) : ∀ x ∈ p.parts, x.legs.length ≤ 24 ∧ 1 ≤ x.legs.length := by
  unfold procCheck at h
  split at h
  · simp at h
  split at h
  · simp at h
  split at h
  · simp at h
  exact partsE_len (orE_eq0.1 h).1
def ShL (n : Nat) (l : List Leg) : Prop := l.length ≤ n ∧ ∀ x ∈ l, x.small
theorem ShL.joint {n m : Nat} {a b : List Leg} (ha : ShL n a) (hb : ShL m b) : ShL (n + m) (jointG a b) := by
  unfold jointG
  split
  · refine ⟨?_, fun x hx => ?_⟩
    · rw [List.length_append, List.length_drop]; have := ha.1; have := hb.1; omega
    · rcases List.mem_append.1 hx with h | h
      · exact ha.2 x h
      · exact hb.2 x (List.mem_of_mem_drop h)
  · refine ⟨?_, fun x hx => ?_⟩
    · rw [List.length_append]; have := ha.1; have := hb.1; omega
    · rcases List.mem_append.1 hx with h | h
      · exact ha.2 x h
      · exact hb.2 x h
theorem expandLegs_ok {pk : Int} {f : Int → List Leg} (hf : ∀ k, ShL 24 (f k)) : ShL 1000 (expandLegs pk f) := by
  have h0 : ShL 0 [] := ⟨Nat.le_refl _, fun x hx => by cases hx⟩
  have m : ∀ {n : Nat} {l : List Leg}, ShL n l → n ≤ 1000 → ShL 1000 l := fun h k => ⟨Nat.le_trans h.1 k, h.2⟩
  unfold expandLegs orderK
  split
  · exact m (((h0.joint (hf 1)).joint (hf 2)).joint (hf 3)) (by omega)
  · split
    · exact m (((h0.joint (hf 3)).joint (hf 2)).joint (hf 1)) (by omega)
    · split
      · exact m (((h0.joint (hf 3)).joint (hf 2)).joint (hf 4)) (by omega)
      · exact m h0 (by omega)
theorem procExpand_ok {p : ProcV} (h : ∀ x ∈ p.parts, ∀ l ∈ x.legs, l.small) (r t : List UInt8) : (procExpand p r t).1.length ≤ 100000 ∧ ∀ l ∈ (procExpand p r t).1, l.small := by
  unfold procExpand
  split
  · exact ⟨by simp, fun q hq => by cases hq⟩
  rename_i h1
  have h1 : procCheck p = 0 := by simpa using h1
  have hl := procCheck_len h1
  have hP : ∀ k n f, (partV k n p.parts).map PartV.legs = some f → ShL 24 f := by
    intro k n f hf
    cases hq : partV k n p.parts with
    | none => rw [hq] at hf; cases hf
    | some x =>
      rw [hq] at hf
      obtain rfl : x.legs = f := by simpa using hf
      exact ⟨(hl x (partV_mem hq)).1, h x (partV_mem hq)⟩
  have hnil : ShL 24 [] := ⟨Nat.zero_le _, fun x hx => by cases hx⟩
  split
  · exact ⟨by simp, fun q hq => by cases hq⟩
  rename_i lr hr
  have h2 : ShL 24 lr := by
    unfold chooseR at hr
    split at hr
    · obtain rfl : [] = lr := by simpa using hr
      exact hnil
    · exact hP _ _ _ hr
  split
  · exact ⟨by simp, fun q hq => by cases hq⟩
  rename_i lt ht
  have h3 : ShL 24 lt := by
    unfold chooseT at ht
    split at ht
    · obtain rfl : [] = lt := by simpa using ht
      exact hnil
    · exact hP _ _ _ ht
  have h4 : ShL 24 (chooseC p) := by
    unfold chooseC
    cases hq : partV 2 [] p.parts with
    | none => exact hnil
    | some x => exact hP 2 [] _ (by rw [hq]; rfl)
  have h5 : ∀ k, ShL 24 (chosenK lr lt (chooseC p) k) := by
    intro k
    unfold chosenK
    split
    · exact h2
    · split
      · exact h3
      · split
        · exact h4
        · exact hnil
  have h6 := expandLegs_ok (pk := p.kind) h5
  split
  · exact ⟨by simp, fun q hq => by cases hq⟩
  · exact ⟨by have := h6.1; show (expandLegs _ _).length ≤ _; omega, h6.2⟩
theorem missedG_ok {p : ProcV} (h : ∀ x ∈ p.parts, ∀ l ∈ x.legs, l.small) : (missedG p).length ≤ 100000 ∧ ∀ l ∈ missedG p, l.small := by
  unfold missedG
  split
  · exact ⟨by simp, fun q hq => by cases hq⟩
  rename_i h1
  have h1 : procCheck p = 0 := by simpa using h1
  cases hq : partV 4 [] p.parts with
  | none => exact ⟨by simp, fun q hq => by cases hq⟩
  | some x =>
    have := (procCheck_len h1 x (partV_mem hq)).1
    exact ⟨by show x.legs.length ≤ _; omega, h x (partV_mem hq)⟩
theorem lookG_ok {G : GDB} (hs : G.short) : (lookG G).ok where
  place := placeG_len hs
  way := wayG_ok hs
  proc := fun a k n t => by
    show (((procG G.procs a k n t).1.1.length ≤ 100000 ∧ _) ∧ _)
    unfold lookG procG
    dsimp only
    split
    · exact ⟨⟨by simp, fun l h => by cases h⟩, by simp, fun l h => by cases h⟩
    · rename_i p hp
      have hm := hs.prc p (procFind_mem hp)
      exact ⟨procExpand_ok hm _ _, missedG_ok hm⟩
end Go.Proofs.YtlggdgpdfepppaaGreatDoor
namespace Go.Proofs.YtlggdgpdfepppaaGreatDoor
open Go.RowKit Go.Sort
set_option linter.unusedVariables false
set_option linter.unusedSimpArgs false
set_option maxRecDepth 100000
structure KindsAt (w : World) (A : Option Addr) (ks : List Int) : Prop where
  at_ : ks ≠ [] → ∃ b, A = some ⟨b, 0, none⟩ ∧ b < w.heap.size ∧ ∀ i x, ks[i]? = some x → w.cell? ⟨b, i, none⟩ = some (.int .u8 x)
theorem KindsAt.below {w w' : World} {A : Option Addr} {ks : List Int} (h : KindsAt w A ks) (hb : Below w.heap.size w w') : KindsAt w' A ks := by
  refine ⟨fun hne => ?_⟩
  obtain ⟨b, rfl, hlt, hc⟩ := h.at_ hne
  exact ⟨b, rfl, Nat.lt_of_lt_of_le hlt hb.size, fun i x hx => by rw [hb.cell (p := ⟨b, _, none⟩) hlt]; exact hc i x hx⟩
def RetOrd (w : World) (ks : List Int) (e : Ending) (w' : World) : Prop := ∃ A c, e = .returned (.slice A ks.length c) ∧ KindsAt w' A ks ∧ (A = none ↔ ks = []) ∧ Below w.heap.size w w'
theorem callOrd {P : Program} {f : FuncId} {args : Array Value} {W : World} {ks : List Int} {K : Ending → World → Prop} (h : Calls P f args W (RetOrd W ks))
    (k : ∀ A c w', KindsAt w' A ks → (A = none ↔ ks = []) → Below W.heap.size W w' → K (.returned (.slice A ks.length c)) w') : Calls P f args W K :=
  h.mono fun e w' ⟨A, c, he, h1, h2, h3⟩ => by subst he; exact k A c w' h1 h2 h3
theorem kinds3 (w : World) (a b c : Int) (t : TypeId) : KindsAt (w.alloc (.cells #[.int .u8 a, .int .u8 b, .int .u8 c] t)) (some ⟨w.heap.size, 0, none⟩) [a, b, c] :=
  ⟨fun _ => ⟨w.heap.size, rfl, by simp, fun i x hx => by
    rw [cell_of_row _ _ i _ t (0, 0) (heap_alloc_new w _)]
    match i, hx with
    | 0, hx => simpa using hx
    | 1, hx => simpa using hx
    | 2, hx => simpa using hx
    | i + 3, hx => simp at hx⟩⟩
theorem order_any (k : Int) (w : World) : Calls Tryz.prog 175 #[.int .u8 k] w (RetOrd w (orderK k)) := by
  by_cases h1 : k = 1
  · subst h1
    go_enter Tryz.func175, Tryz.ntmps175
    go_wp2
    go_ret
    exact ⟨_, 3, rfl, kinds3 w 1 2 3 _, by simp [orderK], alloc_below3 _ _⟩
  by_cases h2 : k = 2
  · subst h2
    go_enter Tryz.func175, Tryz.ntmps175
    go_wp2
    go_ret
    exact ⟨_, 3, rfl, kinds3 w 3 2 1 _, by simp [orderK], alloc_below3 _ _⟩
  by_cases h3 : k = 3
  · subst h3
    go_enter Tryz.func175, Tryz.ntmps175
    go_wp2
    go_ret
    exact ⟨_, 3, rfl, kinds3 w 3 2 4 _, by simp [orderK], alloc_below3 _ _⟩
  have e1 : (k == 1) = false := by simpa using h1
  have e2 : (k == 2) = false := by simpa using h2
  have e3 : (k == 3) = false := by simpa using h3
  have HO : orderK k = [] := by simp [orderK, h1, h2, h3]
  rw [HO]
  clear HO h1 h2 h3
  go_enter Tryz.func175, Tryz.ntmps175
  go_wp2
  go_ret
  exact ⟨none, 0, rfl, ⟨fun h => absurd rfl h⟩, by simp, Below.refl _ _⟩
theorem rankI_drop (k : Int) (l : List Int) {i : Nat} (h : i < l.length) : rankI k (l.drop i) i = if l[i] == k then (i : Int) else rankI k (l.drop (i + 1)) (i + 1) := by
  rw [List.drop_eq_getElem_cons h]; rfl
theorem kindex_any (ks : List Int) (A : Option Addr) (m c : Nat) (k : Int) (w : World) (hK : KindsAt w A ks) (hm : ks.length = m) (hn : m ≤ 1000) :
    Calls Tryz.prog 191 #[.slice A m c, .int .u8 k] w (RetP w (.int .i64 (rankI k ks 0))) := by
  have HM := Lib.hid hm
  clear hm
  go_enter Tryz.func191, Tryz.ntmps191
  go_wp2
  go_loopw [8] (fun iv wr => ∃ i : Nat, i ≤ m ∧ iv = .int .i64 i ∧ rankI k ks 0 = rankI k (ks.drop i) i ∧ wr = w) (fun iv _ => m - (intOf iv).toNat)
  case atStart => exact ⟨0, by omega, rfl, rfl, rfl⟩
  case round =>
    obtain ⟨i, hi, rfl, hf, rfl⟩ := hrel
    have HF := Lib.hid hf
    clear hf
    by_cases hlt : i < m
    · have hlk : i < ks.length := by rw [HM.out]; exact hlt
      obtain ⟨b, rfl, hb, hc⟩ := hK.at_ (by rintro rfl; simp at hlk)
      have e1 := hc i _ (List.getElem?_eq_getElem hlk)
      have HD := Lib.hid (HF.out.trans (rankI_drop k ks hlk))
      generalize ks[i] = x at e1 HD
      have hlt' : (i : Int) < (m : Int) := by omega
      clear HF hc
      by_cases hx : x = k
      · have h1 : (k == x) = true := by simp [hx]
        have HO := Lib.hid (HD.out.trans (if_pos (by simp [hx])))
        clear HD hx
        go_wp2
        go_ret
        exact RetP.int HO.out.symm rfl
      · have h1 : (k == x) = false := by simp; omega
        have HO := Lib.hid (HD.out.trans (if_neg (by simpa using hx)))
        clear HD hx
        go_wp2
        go_roundw
        case rel => exact ⟨i + 1, by omega, by go_num, HO.out, by first | trivial | rfl⟩
        case measure => simp [intOf]; omega
    · have HO := Lib.hid (show rankI k ks 0 = -1 by rw [HF.out, List.drop_of_length_le (by rw [HM.out]; omega)]; rfl)
      have hlt' : ¬ (i : Int) < (m : Int) := by omega
      go_wp2
      go_ret
      exact RetP.int HO.out.symm rfl
theorem prcArr_ones (p : ProcV) (A : Option Addr) (c : Nat) : Ones (prcArr p A c) := by simp [Ones, prcArr, Value.oneCell']
set_option maxHeartbeats 2000000 in
theorem opens_any (p : ProcV) (A : Option Addr) (c : Nat) (k t : Int) (w : World) : Calls Tryz.prog 192 #[.agg (prcArr p A c), .int .u8 k, .int .u8 t] w (Ret w (.bool (opensK p.kind k t))) := by
  go_enter Tryz.func192, Tryz.ntmps192
  go_upto_region 1 with (fail)
  have X0 := Blk.new w (prcArr p A c) 186
  have B0 := alloc_below3 w (.cells (prcArr p A c) 186)
  generalize w.alloc _ = W at X0 B0 ⊢
  obtain ⟨g0, hg0⟩ : ∃ g, g = w.heap.size := ⟨_, rfl⟩
  rw [← hg0] at X0 ⊢
  clear hg0
  have c2 : W.cell? ⟨g0, 2, none⟩ = some (.int .u8 p.kind) := X0.cell 2
  go_wp2
  all_goals
    go_ret
    refine Ret.bool ?_ B0
    grind [opensK]
end Go.Proofs.YtlggdgpdfepppaaGreatDoor
namespace Go.Proofs.YtlggdgpdfepppaaGreatDoor
open Go.RowKit Go.Sort
set_option linter.unusedVariables false
set_option linter.unusedSimpArgs false
set_option maxRecDepth 100000
def RetPrt (w : World) (r : Option PartV) (e : Ending) (w' : World) : Prop := ∃ cs, e = .returned (.tuple #[.agg cs, .bool r.isSome]) ∧ PrtAt w' cs (r.getD noPart) ∧ Below w.heap.size w w'
theorem callPrt {P : Program} {f : FuncId} {args : Array Value} {W : World} {r : Option PartV} {K : Ending → World → Prop} (h : Calls P f args W (RetPrt W r))
    (k : ∀ cs w', PrtAt w' cs (r.getD noPart) → Below W.heap.size W w' → K (.returned (.tuple #[.agg cs, .bool r.isSome])) w') : Calls P f args W K :=
  h.mono fun e w' ⟨cs, he, h1, h2⟩ => by subst he; exact k cs w' h1 h2
theorem prtArr_ones (a : PartV) (A : Option Addr) (c : Nat) : Ones (prtArr a A c) := by simp [Ones, prtArr, Value.oneCell']
theorem prtArr_sz (a : PartV) (A : Option Addr) (c : Nat) : SzIs (prtArr a A c) 3 := rfl
theorem prtArr_fits (a : PartV) (A : Option Addr) (c o n : Nat) : Fits o n (prtArr a A c) = (o + n ≤ 3) := propext ⟨fun h => h, fun h => h⟩
theorem prtArr_splice (a b : PartV) (A B : Option Addr) (c d : Nat) : splice (prtArr a A c) 0 (prtArr b B d) = prtArr b B d := rfl
theorem leg_ones (l : List Leg) : ∀ y ∈ l.map Leg.arr, y.toList.all (·.oneCell') = true := by
  intro y hy
  obtain ⟨p, _, rfl⟩ := List.mem_map.1 hy
  have := p.arr_one
  exact List.all_eq_true.2 fun v hv => (Array.all_eq_true_iff_forall_mem.1 this) v (by simpa using hv)
theorem leg_sizes (l : List Leg) : ∀ y ∈ l.map Leg.arr, y.size = 13 := by
  intro y hy
  obtain ⟨p, _, rfl⟩ := List.mem_map.1 hy
  rfl
def bprtG (parts : Array (Nat × Value)) : Sem Value := Instr.build 225 parts
theorem bprtG_fold (parts : Array (Nat × Value)) : Instr.build 225 parts = bprtG parts := rfl
theorem run_bprtG (w : World) : (bprtG #[]).run Tryz.prog w = .ok (.agg (prtArr noPart none 0)) w := run_build w _ _ _ (by kernel_rfl)
attribute [local go_sem ↓] bprtG_fold
attribute [local go_sem] run_bprtG prtArr_ones prtArr_sz prtArr_fits prtArr_splice
set_option maxHeartbeats 4000000 in
theorem part_any (p : ProcV) (A : Option Addr) (c : Nat) (hlc : p.parts.length ≤ c) (hn : p.parts.length ≤ 4000000) (kd : Int) (n : List UInt8) (w : World) (hA : PrtsAt w A p.parts) (hs : ∀ x ∈ p.parts, x.small) :
    Calls Tryz.prog 156 #[.agg (prcArr p A c), .int .u8 kd, .string ⟨n.toArray⟩] w (RetPrt w (partV kd n p.parts)) := by
  go_enter Tryz.func156, Tryz.ntmps156
  go_upto_region 1 with (fail)
  have X0 : Blk (w.alloc (.cells (prcArr p A c) 186)) w.heap.size (prcArr p A c) := Blk.new w _ _
  have B0 := alloc_below3 w (.cells (prcArr p A c) 186)
  have hsz : (w.alloc (.cells (prcArr p A c) 186)).heap.size = w.heap.size + 1 := World.size_alloc _ _
  generalize w.alloc _ = W0 at X0 B0 hsz ⊢
  rw [← hsz]
  have Y1 : Blk (W0.alloc (.cells (prtArr noPart none 0) 225)) W0.heap.size (prtArr noPart none 0) := Blk.new W0 _ _
  have B1 := below_step B0 (alloc_below3 W0 (.cells (prtArr noPart none 0) 225))
  have X1 := X0.alloc (.cells (prtArr noPart none 0) 225)
  have hgle : w.heap.size ≤ W0.heap.size := B0.size
  generalize hW : W0.alloc _ = W
  have hE : W0.alloc (.cells (prtArr noPart none 0) 225) = W := hW
  rw [hE] at Y1 B1 X1
  clear hW hE
  generalize W0.heap.size = g1 at Y1 hgle ⊢
  generalize w.heap.size = g0 at X1 ⊢
  have k7 : W.cell? ⟨g0, 3, none⟩ = some (.slice A p.parts.length c) := X1.cell 3
  have HA := Lib.hid (fun (W' : World) (B : Below W.heap.size W W') => hA.below (below_step B1 B))
  generalize p.parts = l at *
  have HY := Lib.hid Y1
  have HB := Lib.hid B1
  have HLC := Lib.hid hlc
  clear X0 hsz X1 B0 hA Y1 B1
  go_wp2
  clear k7
  go_loopw [13] (fun iv wr => ∃ k : Nat, k ≤ l.length ∧ iv = .int .i64 k ∧ partV kd n l = partV kd n (l.drop k) ∧ Below W.heap.size W wr) (fun iv _ => l.length - (intOf iv).toNat)
  case atStart => exact ⟨0, by omega, rfl, rfl, Below.refl _ _⟩
  case round =>
    obtain ⟨k, hk, rfl, hf, BW⟩ := hrel
    have HG := Lib.hid hf
    clear hf
    by_cases hlt : k < l.length
    · obtain ⟨b, off, cs', hAe, hb, hIs, hAt⟩ := (HA.out wr BW).get (Below.refl _ _) hlt
      obtain ⟨A2, c2, rfl, hl2, hI2⟩ := hAt.ex
      have hsm := hs _ (List.getElem_mem hlt)
      have HD := Lib.hid (show partV kd n l = if l[k].kind == kd && l[k].name == n then some l[k] else partV kd n (l.drop (k + 1)) by rw [HG.out, List.drop_eq_getElem_cons hlt]; rfl)
      clear hAt HG
      generalize l[k] = a at *
      subst hAe
      have i1 : Has_prt wr b (off + k * 3) := ⟨_, hIs⟩
      have i2 : of_prt wr b (off + k * 3) = prtArr a A2 c2 := of_prt_eq hIs
      have hlt' : (k : Int) < (l.length : Int) := by omega
      have hkc : k < c := by have := HLC.out; omega
      go_upto_region 4 with (fail)
      have Z := Blk.new wr (prtArr a A2 c2) 225
      have D := alloc_below3 wr (.cells (prtArr a A2 c2) 225)
      have hI3 := hI2.below D
      have hgw : g1 < wr.heap.size := Nat.lt_of_lt_of_le HY.out.lt BW.size
      have hWw : W.heap.size ≤ wr.heap.size := BW.size
      clear i1 i2 hIs hI2 hb
      generalize wr.alloc _ = W2 at Z D hI3 ⊢
      obtain ⟨g7, hg7⟩ : ∃ g, g = wr.heap.size := ⟨_, rfl⟩
      rw [← hg7] at Z ⊢
      have hne : g7 ≠ g1 := by omega
      have h7W : W.heap.size ≤ g7 := by omega
      have h7r : wr.heap.size ≤ g7 := by omega
      have h71 : g1 < g7 := by omega
      clear hg7 hgw hWw
      have z0 : W2.cell? ⟨g7, 0, none⟩ = some (.int .u8 a.kind) := Z.cell 0
      have z1 : W2.cell? ⟨g7, 1, none⟩ = some (.string ⟨a.name.toArray⟩) := Z.cell 1
      have z2 : W2.cell? ⟨g7, 2, none⟩ = some (.slice A2 a.legs.length c2) := Z.cell 2
      by_cases hnm : a.kind = kd ∧ a.name = n
      · have h0 : (a.kind == kd) = true := by simpa using hnm.1
        have h1 : (a.name == n) = true := by simpa using hnm.2
        have HO := Lib.hid (show partV kd n l = some a by rw [HD.out, h0, h1]; rfl)
        have kc := Lib.hid (clone_leg (a.legs.map Leg.arr) A2 a.legs.length c2 W2 hI3 (by simp) (by have := hsm.len; omega) (leg_sizes _) (leg_ones _))
        clear HD hnm
        go_upto_region 6 with (go_at_call 173; (with_reducible refine callCl kc.out ?_); intro A3 c3 w3 O3 b3; have Z3 := Z.step b3; have f1 := Z3.frozen 2; have f2 : w3.cell? ⟨g7, 2, none⟩ = some (.slice A2 a.legs.length c2) := Z3.cell 2)
        have Z4 : Blk (w3.setCell ⟨g7, 2, none⟩ (.slice A3 a.legs.length c3)) g7 (prtArr a A3 c3) := Z3.setCell 2 _
        have D4 : Below wr.heap.size wr (w3.setCell ⟨g7, 2, none⟩ (.slice A3 a.legs.length c3)) := below_setCell (below_step D b3) h7r 2 _
        obtain ⟨A4, c4, e4, hl4, hI4, hA4, _⟩ := O3.form (leg_sizes _)
        injection e4 with e4 _ e5
        subst e4 e5
        rw [List.length_map] at hl4
        have hg7lt := Z.lt
        have hI5 : Items (w3.setCell ⟨g7, 2, none⟩ (.slice A3 a.legs.length c3)) A3 13 (a.legs.map Leg.arr) := hI4.keepB (fun q hq => Below.heap_setCell _ _ _ _ (by have := hA4 q hq; show q.block ≠ g7; omega)) (by simp [World.setCell])
        have Y4 := (HY.out.step BW).step D4
        have B4 := below_step (below_step HB.out BW) D4
        clear f1 f2 z0 z1 Z3 O3 D Z kc hI3 hI4
        generalize w3.setCell _ _ = w4 at *
        have i1 : Has_prt w4 g7 0 := ⟨_, Z4.is_prt rfl⟩
        have i2 : of_prt w4 g7 0 = prtArr a A3 c3 := of_prt_eq (Z4.is_prt rfl)
        have d2 := Y4.plain
        have d3 := Y4.of
        go_wp2
        exact bodyPost_ret (results_agg Tryz.results156 _ _ g1 (prtArr a A3 c3) 3 _ rfl rfl (Y4.set _).cell Tryz.underlying225 rfl info_prt) rfl ⟨_, by rw [HO.out]; rfl, by rw [HO.out]; exact ⟨⟨A3, c3, rfl, hl4, hI5.keepB (fun q hq => setRow_other _ _ _ _ (by have := hA4 q hq; omega)) (by simp [World.setRow])⟩⟩, below_setRow' B4 hgle _⟩
      · have HD := Lib.hid (show partV kd n l = partV kd n (l.drop (k + 1)) by
          rw [HD.out, if_neg]
          intro h
          simp only [Bool.and_eq_true, beq_iff_eq] at h
          exact hnm h)
        by_cases h0 : a.kind = kd
        · have h0' : (a.kind == kd) = true := by simpa using h0
          have h1 : (a.name == n) = false := by
            have : a.name ≠ n := fun h => hnm ⟨h0, h⟩
            simpa using this
          clear hnm h0
          go_wp2
          go_roundw
          case rel => exact ⟨k + 1, by omega, by go_num, HD.out, below_step BW D⟩
          case measure => simp [intOf]; omega
        · have h0' : (a.kind == kd) = false := by simpa using h0
          clear hnm h0
          go_wp2
          go_roundw
          case rel => exact ⟨k + 1, by omega, by go_num, HD.out, below_step BW D⟩
          case measure => simp [intOf]; omega
    · have HO := Lib.hid (show partV kd n l = none by rw [HG.out, List.drop_of_length_le (by omega)]; rfl)
      have hlt' : ¬ (k : Int) < (l.length : Int) := by omega
      have Y2 := HY.out.step BW
      have d2 := Y2.plain
      have d3 := Y2.of
      have B2 := below_step HB.out BW
      clear hlt
      go_wp2
      exact bodyPost_ret (results_agg Tryz.results156 _ _ g1 (prtArr noPart none 0) 3 _ rfl rfl (Y2.set _).cell Tryz.underlying225 rfl info_prt) rfl ⟨_, by rw [HO.out]; rfl, by rw [HO.out]; exact PrtAt.no _, below_setRow' B2 hgle _⟩
end Go.Proofs.YtlggdgpdfepppaaGreatDoor
namespace Go.Proofs.YtlggdgpdfepppaaGreatDoor
open Go.RowKit Go.Sort
set_option linter.unusedVariables false
set_option linter.unusedSimpArgs false
set_option maxRecDepth 100000
attribute [local go_sem] prtArr_ones prtArr_sz prtArr_fits prtArr_splice
def RetNms (w : World) (m : Nat) (e : Ending) (w' : World) : Prop := ∃ A c, e = .returned (.slice A m c) ∧ Below w.heap.size w w'
theorem callNms {P : Program} {f : FuncId} {args : Array Value} {W : World} {m : Nat} {K : Ending → World → Prop} (h : Calls P f args W (RetNms W m))
    (k : ∀ A c w', Below W.heap.size W w' → K (.returned (.slice A m c)) w') : Calls P f args W K :=
  h.mono fun e w' ⟨A, c, he, h1⟩ => by subst he; exact k A c w' h1
theorem names_snoc (kd : Int) (l : List PartV) {k : Nat} (h : k < l.length) : partNames kd (l.take (k + 1)) = if l[k].kind == kd then partNames kd (l.take k) ++ [l[k].name] else partNames kd (l.take k) := by
  unfold partNames
  rw [List.take_succ_eq_append_getElem h, List.filter_append]
  by_cases hk : (l[k].kind == kd) = true
  · rw [if_pos hk]; simp [List.filter_cons, hk]
  · rw [if_neg hk]; simp [List.filter_cons, hk]
set_option maxHeartbeats 4000000 in
theorem names_any (p : ProcV) (A : Option Addr) (c : Nat) (hlc : p.parts.length ≤ c) (hn : p.parts.length ≤ 4000000) (kd : Int) (w : World) (hA : PrtsAt w A p.parts) :
    Calls Tryz.prog 174 #[.agg (prcArr p A c), .int .u8 kd] w (RetNms w (partNames kd p.parts).length) := by
  go_enter Tryz.func174, Tryz.ntmps174
  go_upto_region 1 with (fail)
  have X0 : Blk (w.alloc (.cells (prcArr p A c) 186)) w.heap.size (prcArr p A c) := Blk.new w _ _
  have B0 := alloc_below3 w (.cells (prcArr p A c) 186)
  generalize w.alloc _ = W at X0 B0 ⊢
  obtain ⟨g0, hg0⟩ : ∃ g, g = w.heap.size := ⟨_, rfl⟩
  rw [← hg0] at X0 ⊢
  clear hg0
  have k7 : W.cell? ⟨g0, 3, none⟩ = some (.slice A p.parts.length c) := X0.cell 3
  have HA := Lib.hid (fun (W' : World) (B : Below W.heap.size W W') => hA.below (below_step B0 B))
  generalize p.parts = l at *
  have HB := Lib.hid B0
  have HLC := Lib.hid hlc
  clear X0 hA B0
  go_wp2
  clear k7
  go_loopw [5, 11] (fun v iv wr => ∃ (k : Nat) (ss : List (List UInt8)), k ≤ l.length ∧ iv = .int .i64 k ∧ ss.length = (partNames kd (l.take k)).length ∧ ss.length ≤ k ∧ SOut W wr v ss ∧ Below W.heap.size W wr) (fun _ iv _ => l.length - (intOf iv).toNat)
  case atStart => exact ⟨0, [], by omega, rfl, rfl, Nat.le_refl _, SOut.nil _ _, Below.refl _ _⟩
  case round =>
    obtain ⟨k, ss, hk, rfl, hsl, hsk, O, BW⟩ := hrel
    have HS := Lib.hid hsl
    have HSK := Lib.hid hsk
    clear hsl hsk
    by_cases hlt : k < l.length
    · obtain ⟨b, off, cs', hAe, hb, hIs, hAt⟩ := (HA.out wr BW).get (Below.refl _ _) hlt
      obtain ⟨A2, c2, rfl, hl2, hI2⟩ := hAt.ex
      have HD := Lib.hid (names_snoc kd l hlt)
      clear hAt
      generalize l[k] = a at *
      subst hAe
      have i1 : Has_prt wr b (off + k * 3) := ⟨_, hIs⟩
      have i2 : of_prt wr b (off + k * 3) = prtArr a A2 c2 := of_prt_eq hIs
      have hlt' : (k : Int) < (l.length : Int) := by omega
      have hkc : k < c := by have := HLC.out; omega
      go_upto_region 5 with (fail)
      have Z := Blk.new wr (prtArr a A2 c2) 225
      have D := alloc_below3 wr (.cells (prtArr a A2 c2) 225)
      have O2 := O.below D
      clear i1 i2 hIs hI2 hb O
      generalize wr.alloc _ = W2 at Z D O2 ⊢
      generalize wr.heap.size = g7 at Z ⊢
      have z0 : W2.cell? ⟨g7, 0, none⟩ = some (.int .u8 a.kind) := Z.cell 0
      have z1 : W2.cell? ⟨g7, 1, none⟩ = some (.string ⟨a.name.toArray⟩) := Z.cell 1
      by_cases h0 : a.kind = kd
      · have h0' : (a.kind == kd) = true := by simpa using h0
        have HD := Lib.hid (HD.out.trans (if_pos h0'))
        have O4 := O2.alloc (.cells #[sval a.name] 9)
        have B4 := below_step (below_step BW D) (alloc_below3 W2 (.cells #[sval a.name] 9))
        clear h0 O2 Z
        go_wp2_with (at_builtin; refine wpList_append_sout rfl (.tmp 19) (.tmp 22) rfl O4 rfl a.name W2.heap.size 1 rfl (cell_of_row _ _ 0 _ _ _ (heap_alloc_new W2 _)) (by have := HSK.out; omega) B4.size ?_; intro v5 W5 O5 hg5)
        go_roundw
        case rel => exact ⟨k + 1, ss ++ [a.name], by omega, by go_num, by rw [HD.out]; simp [HS.out], by have := HSK.out; simp; omega, O5, below_sgrown B4 O4 hg5⟩
        case measure => simp [intOf]; omega
      · have h0' : (a.kind == kd) = false := by simpa using h0
        have HD := Lib.hid (HD.out.trans (if_neg (by simpa using h0)))
        clear h0 Z
        go_wp2
        go_roundw
        case rel => exact ⟨k + 1, ss, by omega, by go_num, by rw [HD.out]; exact HS.out, by have := HSK.out; omega, O2, below_step BW D⟩
        case measure => simp [intOf]; omega
    · have HO := Lib.hid (show ss.length = (partNames kd l).length by rw [HS.out, List.take_of_length_le (by omega)])
      have hlt' : ¬ (k : Int) < (l.length : Int) := by omega
      obtain ⟨A3, c3, e3, _, _⟩ := O.form
      subst e3
      have B2 := below_step HB.out BW
      clear hlt O
      go_wp2
      go_ret
      exact ⟨A3, c3, by rw [HO.out]; rfl, B2⟩
theorem pfind1_any (x : ProcV) (A : Option Addr) (c : Nat) (a n : List UInt8) (kd : Int) (q1 q2 q3 : Nat) (w : World) (h1 : w.cell? ⟨q1, 0, none⟩ = some (.string ⟨a.toArray⟩)) (h2 : w.cell? ⟨q2, 0, none⟩ = some (.int .u8 kd)) (h3 : w.cell? ⟨q3, 0, none⟩ = some (.string ⟨n.toArray⟩)) :
    Calls Tryz.prog 188 #[.agg (prcArr x A c), .pointer (some ⟨q1, 0, none⟩), .pointer (some ⟨q2, 0, none⟩), .pointer (some ⟨q3, 0, none⟩)] w (Ret w (.bool (x.airport == a && x.kind == kd && x.name == n))) := by
  go_enter Tryz.func188, Tryz.ntmps188
  go_upto_region 1 with (fail)
  have X0 := Blk.new w (prcArr x A c) 186
  have B0 := alloc_below3 w (.cells (prcArr x A c) 186)
  have g1 : (w.alloc (.cells (prcArr x A c) 186)).cell? ⟨q1, 0, none⟩ = some (.string ⟨a.toArray⟩) := by rw [B0.cell (p := ⟨q1, 0, none⟩) (block_lt_of_cell h1)]; exact h1
  have g2 : (w.alloc (.cells (prcArr x A c) 186)).cell? ⟨q2, 0, none⟩ = some (.int .u8 kd) := by rw [B0.cell (p := ⟨q2, 0, none⟩) (block_lt_of_cell h2)]; exact h2
  have g3 : (w.alloc (.cells (prcArr x A c) 186)).cell? ⟨q3, 0, none⟩ = some (.string ⟨n.toArray⟩) := by rw [B0.cell (p := ⟨q3, 0, none⟩) (block_lt_of_cell h3)]; exact h3
  generalize w.alloc _ = W at X0 B0 g1 g2 g3 ⊢
  obtain ⟨g0, hg0⟩ : ∃ g, g = w.heap.size := ⟨_, rfl⟩
  rw [← hg0] at X0 ⊢
  clear hg0 h1 h2 h3
  have c0 : W.cell? ⟨g0, 0, none⟩ = some (.string ⟨x.airport.toArray⟩) := X0.cell 0
  have c1 : W.cell? ⟨g0, 1, none⟩ = some (.string ⟨x.name.toArray⟩) := X0.cell 1
  have c2 : W.cell? ⟨g0, 2, none⟩ = some (.int .u8 x.kind) := X0.cell 2
  clear X0
  obtain ⟨t1, ht1⟩ : ∃ t, (x.airport == a) = t := ⟨_, rfl⟩
  obtain ⟨t2, ht2⟩ : ∃ t, (x.kind == kd) = t := ⟨_, rfl⟩
  obtain ⟨t3, ht3⟩ : ∃ t, (x.name == n) = t := ⟨_, rfl⟩
  cases t1 <;> cases t2 <;> cases t3
  all_goals
    go_wp2
    go_ret
    exact Ret.bool (by first | rfl | simp_all) B0
def findP (a : List UInt8) (k : Int) (n : List UInt8) : List ProcV → Nat → Int
  | [], _ => -1
  | p :: t, i => if p.airport == a && p.kind == k && p.name == n then (i : Int) else findP a k n t (i + 1)
theorem findP_cases (a : List UInt8) (kd : Int) (n : List UInt8) : ∀ (l : List ProcV) (i : Nat), (procFind a kd n l = none ∧ findP a kd n l i = -1) ∨ (∃ k f, l[k]? = some f ∧ procFind a kd n l = some f ∧ findP a kd n l i = ((i + k : Nat) : Int))
  | [], i => .inl ⟨rfl, rfl⟩
  | f :: l, i => by
      by_cases h : (f.airport == a && f.kind == kd && f.name == n) = true
      · exact .inr ⟨0, f, rfl, by simp only [procFind, h, if_true], by simp only [findP, h, if_true, Nat.add_zero]⟩
      · have h' : (f.airport == a && f.kind == kd && f.name == n) = false := by simpa using h
        have e1 : procFind a kd n (f :: l) = procFind a kd n l := by simp only [procFind, h', Bool.false_eq_true, if_false]
        have e2 : findP a kd n (f :: l) i = findP a kd n l (i + 1) := by simp only [findP, h', Bool.false_eq_true, if_false]
        rw [e1, e2]
        rcases findP_cases a kd n l (i + 1) with ⟨a, b⟩ | ⟨k, g, a, b, c⟩
        · exact .inl ⟨a, b⟩
        · refine .inr ⟨k + 1, g, a, b, ?_⟩
          rw [c]
          congr 1
          omega
set_option maxHeartbeats 2000000 in
theorem pidxf_any (l : List ProcV) (a n : List UInt8) (kd : Int) (A : Option Addr) (c q1 q2 q3 : Nat) (w : World) (hI : PrcsAt w A l) (hlc : l.length ≤ c) (hn : l.length ≤ 9000000000)
    (h1 : w.cell? ⟨q1, 0, none⟩ = some (.string ⟨a.toArray⟩)) (h2 : w.cell? ⟨q2, 0, none⟩ = some (.int .u8 kd)) (h3 : w.cell? ⟨q3, 0, none⟩ = some (.string ⟨n.toArray⟩)) :
    Calls Tryz.prog 187 #[.slice A l.length c, .func (.func 188) #[] #[.pointer (some ⟨q1, 0, none⟩), .pointer (some ⟨q2, 0, none⟩), .pointer (some ⟨q3, 0, none⟩)]] w (Ret w (.int .i64 (findP a kd n l 0))) := by
  have H1 := Lib.hid (fun (W : World) (B : Below w.heap.size w W) => show W.cell? ⟨q1, 0, none⟩ = some (.string ⟨a.toArray⟩) by rw [B.cell (p := ⟨q1, 0, none⟩) (block_lt_of_cell h1)]; exact h1)
  have H2 := Lib.hid (fun (W : World) (B : Below w.heap.size w W) => show W.cell? ⟨q2, 0, none⟩ = some (.int .u8 kd) by rw [B.cell (p := ⟨q2, 0, none⟩) (block_lt_of_cell h2)]; exact h2)
  have H3 := Lib.hid (fun (W : World) (B : Below w.heap.size w W) => show W.cell? ⟨q3, 0, none⟩ = some (.string ⟨n.toArray⟩) by rw [B.cell (p := ⟨q3, 0, none⟩) (block_lt_of_cell h3)]; exact h3)
  clear h1 h2 h3
  have HLC := Lib.hid hlc
  go_enter Tryz.func187, Tryz.ntmps187
  go_wp2
  go_loopw [5, 8] (fun _ i wr => ∃ k : Nat, k ≤ l.length ∧ i = .int .i64 k ∧ findP a kd n l 0 = findP a kd n (l.drop k) k ∧ Below w.heap.size w wr) (fun _ i _ => l.length - (intOf i).toNat)
  case atStart => exact ⟨0, by omega, rfl, rfl, Below.refl _ _⟩
  case round =>
    obtain ⟨k, hk, rfl, hf, hB⟩ := hrel
    have HF := Lib.hid hf
    clear hf
    by_cases hlt : k < l.length
    · obtain ⟨b, off, cs', hA, hb, hIs, hAt⟩ := hI.get hB hlt
      obtain ⟨A2, c2, rfl, _, _⟩ := hAt.ex
      have hd := Lib.hid (List.drop_eq_getElem_cons hlt)
      clear hAt
      generalize l[k] = f at *
      subst hA
      have i1 : Has_prc wr b (off + k * 4) := ⟨_, hIs⟩
      have i2 : of_prc wr b (off + k * 4) = prcArr f A2 c2 := of_prc_eq hIs
      have hcall := Lib.hid (pfind1_any f A2 c2 a n kd q1 q2 q3 wr (H1.out wr hB) (H2.out wr hB) (H3.out wr hB))
      have HD := Lib.hid (show findP a kd n l 0 = if f.airport == a && f.kind == kd && f.name == n then (k : Int) else findP a kd n (l.drop (k + 1)) (k + 1) by rw [HF.out, hd.out]; rfl)
      have hkc : k < c := by have := HLC.out; omega
      have hlt' : (k : Int) < (l.length : Int) := by omega
      clear HF hd hIs hb
      generalize (f.airport == a && f.kind == kd && f.name == n) = t at hcall HD
      cases t with
      | true =>
        go_wp2_with (go_at_call 188; (with_reducible refine callR hcall.out ?_); intro w1 b1 _ _ _)
        go_ret
        exact Ret.int (HD.out.trans (if_pos trivial)).symm (hB.trans (b1.mono hB.size))
      | false =>
        go_wp2_with (go_at_call 188; (with_reducible refine callR hcall.out ?_); intro w1 b1 _ _ _)
        go_roundw
        case rel => exact ⟨k + 1, by omega, by go_num, HD.out, hB.trans (b1.mono hB.size)⟩
        case measure => simp [intOf]; omega
    · have hlt' : ¬ (k : Int) < (l.length : Int) := by omega
      go_wp2
      go_ret
      exact Ret.int (by rw [HF.out, List.drop_of_length_le (by omega)]; rfl) hB
end Go.Proofs.YtlggdgpdfepppaaGreatDoor
namespace Go.Proofs.YtlggdgpdfepppaaGreatDoor
open Go.RowKit Go.Sort
set_option linter.unusedVariables false
set_option linter.unusedSimpArgs false
set_option maxRecDepth 100000
theorem Blk.farSet {W : World} {g q : Nat} {cs : Array Value} (h : Blk W g cs) (hne : g ≠ q) (k : Nat) (v : Value) : Blk (W.setCell ⟨q, k, none⟩ v) g cs := by
  obtain ⟨t, h⟩ := h
  exact ⟨t, (Below.heap_setCell _ _ _ _ hne).trans h⟩
theorem cellsIn_set (n : Nat) : ∀ (l : List (Array Value)) (k j : Nat) (u : Value) (x : Array Value), (∀ y ∈ l, y.size = n) → l[k]? = some x → j < n → (cellsIn l).set (k * n + j) u = cellsIn (l.set k (x.setIfInBounds j u))
  | [], k, j, u, x, _, h, _ => by simp at h
  | y :: r, 0, j, u, x, hs, h, hj => by
    obtain rfl : y = x := by simpa using h
    have hy : y.toList.length = n := by simpa using hs y (by simp)
    simp only [cellsIn, List.flatMap_cons, List.set_cons_zero, Nat.zero_mul, Nat.zero_add, Array.toList_setIfInBounds]
    rw [List.set_append_left _ _ (by omega)]
  | y :: r, k + 1, j, u, x, hs, h, hj => by
    have ih := cellsIn_set n r k j u x (fun z hz => hs z (List.mem_cons_of_mem _ hz)) (by simpa using h) hj
    have hy : y.toList.length = n := by simpa using hs y (by simp)
    simp only [cellsIn, List.flatMap_cons, List.set_cons_succ] at ih ⊢
    have e : (k + 1) * n + j - y.toList.length = k * n + j := by rw [hy, Nat.add_mul, Nat.one_mul]; omega
    rw [List.set_append_right _ _ (by rw [hy, Nat.add_mul, Nat.one_mul]; omega), e, ih]
theorem GOut.setAt {B : Nat} {W : World} {t : TypeId} {n m q c : Nat} {l : List (Array Value)} (h : GOut B W t n (.slice (some ⟨q, 0, none⟩) m c) l) (hm : l.length = m) (hl : ∀ y ∈ l, y.size = n) {k j : Nat} {x : Array Value} (hk : l[k]? = some x) (hj : j < n) (u : Value) :
    GOut B (W.setCell ⟨q, k * n + j, none⟩ u) t n (.slice (some ⟨q, 0, none⟩) m c) (l.set k (x.setIfInBounds j u)) := by
  subst hm
  have := (World.ownsRow.stored h (k * n + j) u).1
  unfold GOut
  rw [← cellsIn_set n l k j u x hl hk hj, List.length_set]
  exact this
structure PrtIn (W : World) (P : Nat → Prop) (cs : Array Value) (x : PartV) : Prop where
  ex : ∃ A c, cs = prtArr x A c ∧ x.legs.length ≤ c ∧ Items W A 13 (x.legs.map Leg.arr) ∧ (x.legs ≠ [] → ∀ q, A = some q → P q.block ∧ q.block < W.heap.size)
theorem PrtIn.at_ {W : World} {P : Nat → Prop} {cs : Array Value} {x : PartV} (h : PrtIn W P cs x) : PrtAt W cs x := by
  obtain ⟨A, c, h1, h2, h3, _⟩ := h.ex
  exact ⟨⟨A, c, h1, h2, h3⟩⟩
theorem PrtIn.keep {W W' : World} {P Q : Nat → Prop} {cs : Array Value} {x : PartV} (h : PrtIn W P cs x) (hk : ∀ b, P b → b < W.heap.size → W'.heap[b]? = W.heap[b]? ∧ Q b) (hs : W.heap.size ≤ W'.heap.size) : PrtIn W' Q cs x := by
  obtain ⟨A, c, h1, h2, h3, h4⟩ := h.ex
  refine ⟨⟨A, c, h1, h2, h3.keepN (fun hne q hq hb => (hk _ (h4 (by rintro e; rw [e] at hne; exact hne rfl) q hq).1 hb).1) hs, fun hne q hq => ?_⟩⟩
  have := h4 hne q hq
  exact ⟨(hk _ this.1 this.2).2, Nat.lt_of_lt_of_le this.2 hs⟩
theorem PrtAt.in_ {W : World} {cs : Array Value} {x : PartV} (h : PrtAt W cs x) : PrtIn W (fun b => b < W.heap.size) cs x := by
  obtain ⟨A, c, h1, h2, h3⟩ := h.ex
  refine ⟨⟨A, c, h1, h2, h3, fun hne q hq => ?_⟩⟩
  obtain ⟨b, off, e, hb, _⟩ := h3.at_ (by simpa using hne)
  rw [e] at hq
  obtain rfl : (⟨b, off, none⟩ : Addr) = q := by simpa using hq
  exact ⟨hb, hb⟩
structure PrcFar (W : World) (B : Nat) (cs : Array Value) (p : ProcV) : Prop where
  ex : ∃ A c css, cs = prcArr p A c ∧ p.parts.length ≤ c ∧ css.length = p.parts.length ∧ Items W A 3 css ∧ (p.parts ≠ [] → ∀ q, A = some q → B ≤ q.block) ∧ ∀ (i : Nat) (cs : Array Value) (x : PartV), css[i]? = some cs → p.parts[i]? = some x → PrtIn W (fun b => B ≤ b) cs x
theorem PrcFar.at_ {W : World} {B : Nat} {cs : Array Value} {p : ProcV} (h : PrcFar W B cs p) : PrcAt W cs p := by
  obtain ⟨A, c, css, h1, h2, h3, h4, _, h6⟩ := h.ex
  exact ⟨⟨A, c, h1, h2, ⟨css, h3, h4, fun i cs x a b => (h6 i cs x a b).at_⟩⟩⟩
theorem PrcFar.keep {W W' : World} {B : Nat} {cs : Array Value} {p : ProcV} (h : PrcFar W B cs p) (hk : ∀ b, B ≤ b → b < W.heap.size → W'.heap[b]? = W.heap[b]?) (hs : W.heap.size ≤ W'.heap.size) : PrcFar W' B cs p := by
  obtain ⟨A, c, css, h1, h2, h3, h4, h5, h6⟩ := h.ex
  refine ⟨⟨A, c, css, h1, h2, h3, h4.keepN (fun hne q hq hb => hk _ (h5 (by rintro e; rw [e] at h3; exact hne (List.eq_nil_of_length_eq_zero h3)) q hq) hb) hs, h5, fun i cs x a b => (h6 i cs x a b).keep (fun b hb hlt => ⟨hk b hb hlt, hb⟩) hs⟩⟩
theorem PrcFar.mono {W : World} {B B' : Nat} {cs : Array Value} {p : ProcV} (h : PrcFar W B cs p) (hB : B' ≤ B) : PrcFar W B' cs p := by
  obtain ⟨A, c, css, h1, h2, h3, h4, h5, h6⟩ := h.ex
  exact ⟨⟨A, c, css, h1, h2, h3, h4, fun a b d => Nat.le_trans hB (h5 a b d), fun i cs x a b => (h6 i cs x a b).keep (fun b hb hlt => ⟨rfl, Nat.le_trans hB hb⟩) (Nat.le_refl _)⟩⟩
theorem PrcFar.no (w : World) (B : Nat) : PrcFar w B (prcArr noProc none 0) noProc := ⟨⟨none, 0, [], rfl, Nat.le_refl _, rfl, Items.nil _ _ _, fun h => absurd rfl h, fun i cs x h => by simp at h⟩⟩
structure RowAt (B k : Nat) (bad : Nat → Prop) (W : World) (q m c : Nat) (l : List PartV) (b0 : Nat) : Prop where
  ex : ∃ css, css.length = l.length ∧ GOut B W 225 3 (.slice (some ⟨q, 0, none⟩) m c) css ∧ ∀ (i : Nat) (cs : Array Value) (x : PartV), css[i]? = some cs → l[i]? = some x → PrtIn W (fun b => ¬ bad b ∧ (i < k → b0 ≤ b)) cs x
theorem prt_sizes {W : World} {P : Nat → Nat → Prop} {css : List (Array Value)} {l : List PartV} (h0 : css.length = l.length) (h : ∀ (i : Nat) (cs : Array Value) (x : PartV), css[i]? = some cs → l[i]? = some x → PrtIn W (P i) cs x) : ∀ y ∈ css, y.size = 3 := by
  intro y hy
  obtain ⟨i, hi, rfl⟩ := List.mem_iff_getElem.1 hy
  obtain ⟨A, c, e, _⟩ := (h i _ _ (List.getElem?_eq_getElem hi) (List.getElem?_eq_getElem (by omega))).ex
  rw [e]; rfl
theorem prt_onesL {W : World} {P : Nat → Nat → Prop} {css : List (Array Value)} {l : List PartV} (h0 : css.length = l.length) (h : ∀ (i : Nat) (cs : Array Value) (x : PartV), css[i]? = some cs → l[i]? = some x → PrtIn W (P i) cs x) : ∀ y ∈ css, y.toList.all (·.oneCell') = true := by
  intro y hy
  obtain ⟨i, hi, rfl⟩ := List.mem_iff_getElem.1 hy
  obtain ⟨A, c, e, _⟩ := (h i _ _ (List.getElem?_eq_getElem hi) (List.getElem?_eq_getElem (by omega))).ex
  rw [e]; exact prtArr_ones _ _ _
theorem RowAt.get {B k : Nat} {bad : Nat → Prop} {W : World} {q m c b0 : Nat} {l : List PartV} (h : RowAt B k bad W q m c l b0) (hm : l.length = m) {i : Nat} (hi : i < m) :
    ∃ A d, B ≤ q ∧ q < W.heap.size ∧ m ≤ c ∧ (∀ j, j < 3 → W.cell? ⟨q, i * 3 + j, none⟩ = (prtArr (l[i]'(by omega)) A d)[j]?) ∧ W.frozen? ⟨q, i * 3 + 2, none⟩ = false ∧ (l[i]'(by omega)).legs.length ≤ d ∧ Items W A 13 ((l[i]'(by omega)).legs.map Leg.arr) := by
  obtain ⟨css, h1, O, h2⟩ := h.ex
  have hic : i < css.length := by omega
  obtain ⟨A, d, e, h3, h4, _⟩ := (h2 i _ _ (List.getElem?_eq_getElem hic) (List.getElem?_eq_getElem (by omega))).ex
  have hs := prt_sizes h1 h2
  obtain ⟨A', c', e', h5, h6, h7, _⟩ := O.form hs
  rw [h1, hm] at e'
  injection e' with e1 _ e3
  subst e1 e3
  obtain ⟨b, off, e2, hb, hc⟩ := h6.get hic
  injection e2 with e2
  injection e2 with e2 e4 _
  subst e2 e4
  refine ⟨A, d, h7 _ rfl, hb, by omega, fun j hj => ?_, ?_, h3, h4⟩
  · have := hc j hj
    rw [Nat.zero_add, e] at this
    exact this
  · have hcm : m = css.length := by omega
    subst hcm
    exact World.ownsRow.frozenAt O _
theorem RowAt.below {B k : Nat} {bad : Nat → Prop} {W W' : World} {q m c b0 : Nat} {l : List PartV} (h : RowAt B k bad W q m c l b0) (hb : Below W.heap.size W W') : RowAt B k bad W' q m c l b0 := by
  obtain ⟨css, h1, O, h2⟩ := h.ex
  exact ⟨⟨css, h1, O.step hb, fun i cs x a b => (h2 i cs x a b).keep (fun b hp hlt => ⟨hb.block b hlt, hp⟩) hb.size⟩⟩
theorem RowAt.start {B : Nat} {bad : Nat → Prop} {W : World} {q m c b0 : Nat} {l : List PartV} {css : List (Array Value)} (h1 : css.length = l.length) (O : GOut B W 225 3 (.slice (some ⟨q, 0, none⟩) m c) css)
    (h2 : ∀ (i : Nat) (cs : Array Value) (x : PartV), css[i]? = some cs → l[i]? = some x → PrtIn W (fun b => ¬ bad b) cs x) : RowAt B 0 bad W q m c l b0 :=
  ⟨⟨css, h1, O, fun i cs x a b => (h2 i cs x a b).keep (fun b hp hlt => ⟨rfl, hp, fun h => by omega⟩) (Nat.le_refl _)⟩⟩
theorem RowAt.step {B k : Nat} {bad : Nat → Prop} {W : World} {q m c b0 : Nat} {l : List PartV} (h : RowAt B k bad W q m c l b0) (hm : l.length = m) (hk : k < m) (hq : bad q) {A5 : Option Addr} {c5 : Nat} {x : PartV} (hx : l[k]? = some x)
    (h5 : x.legs.length ≤ c5) (hI : Items W A5 13 (x.legs.map Leg.arr)) (hA : x.legs ≠ [] → ∀ a, A5 = some a → ¬ bad a.block ∧ b0 ≤ a.block ∧ a.block < W.heap.size) :
    RowAt B (k + 1) bad (W.setCell ⟨q, k * 3 + 2, none⟩ (.slice A5 x.legs.length c5)) q m c l b0 := by
  obtain ⟨css, h1, O, h2⟩ := h.ex
  have hkc : k < css.length := by omega
  obtain ⟨A, d, e, _⟩ := (h2 k _ _ (List.getElem?_eq_getElem hkc) hx).ex
  have hs := prt_sizes h1 h2
  have O2 := O.setAt (by omega) hs (List.getElem?_eq_getElem hkc) (show 2 < 3 by omega) (.slice A5 x.legs.length c5)
  have e2 : (css[k]).setIfInBounds 2 (.slice A5 x.legs.length c5) = prtArr x A5 c5 := by rw [e]; rfl
  rw [e2] at O2
  have hkeep : ∀ b, b ≠ q → (W.setCell ⟨q, k * 3 + 2, none⟩ (.slice A5 x.legs.length c5)).heap[b]? = W.heap[b]? := fun b hb => Below.heap_setCell _ _ _ _ hb
  have hsz : W.heap.size ≤ (W.setCell ⟨q, k * 3 + 2, none⟩ (.slice A5 x.legs.length c5)).heap.size := by simp [World.setCell]
  refine ⟨⟨_, by rw [List.length_set]; exact h1, O2, fun i cs y hi hy => ?_⟩⟩
  rw [List.getElem?_set] at hi
  by_cases hik : k = i
  · subst hik
    rw [if_pos rfl, if_pos hkc] at hi
    obtain rfl : prtArr x A5 c5 = cs := by simpa using hi
    obtain rfl : x = y := by rw [hx] at hy; simpa using hy
    refine ⟨⟨A5, c5, rfl, h5, hI.keepN (fun hne a ha _ => hkeep _ (fun h => ((hA (by rintro e; rw [e] at hne; exact hne rfl) a ha).1) (by rw [h]; exact hq))) hsz, fun hne a ha => ?_⟩⟩
    have := hA hne a ha
    exact ⟨⟨this.1, fun _ => this.2.1⟩, Nat.lt_of_lt_of_le this.2.2 hsz⟩
  · rw [if_neg hik] at hi
    exact (h2 i cs y hi hy).keep (fun b hp hlt => ⟨hkeep b (fun h => hp.1 (by rw [h]; exact hq)), hp.1, fun h => hp.2 (by omega)⟩) hsz
theorem RowAt.done {B : Nat} {bad : Nat → Prop} {W : World} {q m c b0 : Nat} {p : ProcV} (h : RowAt B m bad W q m c p.parts b0) (hm : p.parts.length = m) (hB : b0 ≤ B) : PrcFar W b0 (prcArr p (some ⟨q, 0, none⟩) c) p := by
  obtain ⟨css, h1, O, h2⟩ := h.ex
  have hs := prt_sizes h1 h2
  obtain ⟨A', c', e', h5, h6, h7, _⟩ := O.form hs
  injection e' with e1 _ e3
  subst e1 e3
  refine ⟨⟨_, _, css, rfl, by omega, h1, h6, fun _ a ha => Nat.le_trans hB (h7 a ha), fun i cs x a b => ?_⟩⟩
  have hi : i < m := by have := (List.getElem?_eq_some_iff.1 b).1; omega
  exact (h2 i cs x a b).keep (fun b hp hlt => ⟨rfl, hp.2 hi⟩) (Nat.le_refl _)
def RetPrcB (w : World) (r : Option ProcV) (e : Ending) (w' : World) : Prop := ∃ cs, e = .returned (.tuple #[.agg cs, .bool r.isSome]) ∧ PrcFar w' w.heap.size cs (r.getD noProc) ∧ Below w.heap.size w w'
theorem callPrcB {P : Program} {f : FuncId} {args : Array Value} {W : World} {r : Option ProcV} {K : Ending → World → Prop} (h : Calls P f args W (RetPrcB W r))
    (k : ∀ cs w', PrcFar w' W.heap.size cs (r.getD noProc) → Below W.heap.size W w' → K (.returned (.tuple #[.agg cs, .bool r.isSome])) w') : Calls P f args W K :=
  h.mono fun e w' ⟨cs, he, h1, h2⟩ => by subst he; exact k cs w' h1 h2
def RetPrcE (w : World) (r : ProcV × Int) (e : Ending) (w' : World) : Prop := ∃ cs, e = .returned (.tuple #[.agg cs, .int .i64 r.2]) ∧ PrcFar w' w.heap.size cs r.1 ∧ Below w.heap.size w w'
theorem callPrcE {P : Program} {f : FuncId} {args : Array Value} {W : World} {r : ProcV × Int} {K : Ending → World → Prop} (h : Calls P f args W (RetPrcE W r))
    (k : ∀ cs w', PrcFar w' W.heap.size cs r.1 → Below W.heap.size W w' → K (.returned (.tuple #[.agg cs, .int .i64 r.2])) w') : Calls P f args W K :=
  h.mono fun e w' ⟨cs, he, h1, h2⟩ => by subst he; exact k cs w' h1 h2
theorem prcArr_sz (a : ProcV) (A : Option Addr) (c : Nat) : SzIs (prcArr a A c) 4 := rfl
theorem prcArr_fits (a : ProcV) (A : Option Addr) (c o n : Nat) : Fits o n (prcArr a A c) = (o + n ≤ 4) := propext ⟨fun h => h, fun h => h⟩
theorem prcArr_splice (a b : ProcV) (A B : Option Addr) (c d : Nat) : splice (prcArr a A c) 0 (prcArr b B d) = prcArr b B d := rfl
def bprcG (parts : Array (Nat × Value)) : Sem Value := Instr.build 186 parts
theorem bprcG_fold (parts : Array (Nat × Value)) : Instr.build 186 parts = bprcG parts := rfl
theorem run_bprcG (w : World) : (bprcG #[]).run Tryz.prog w = .ok (.agg (prcArr noProc none 0)) w := run_build w _ _ _ (by kernel_rfl)
attribute [local go_sem ↓] bprcG_fold
attribute [local go_sem] run_bprcG prcArr_ones prcArr_sz prcArr_fits prcArr_splice
set_option maxHeartbeats 8000000 in
theorem pfind_any (l : List ProcV) (a n : List UInt8) (kd : Int) (A : Option Addr) (c : Nat) (w : World) (hI : PrcsAt w A l) (hlc : l.length ≤ c) (hn : l.length ≤ 9000000000) (hs : ∀ p ∈ l, p.small) :
    Calls Tryz.prog 171 #[.slice A l.length c, .string ⟨a.toArray⟩, .int .u8 kd, .string ⟨n.toArray⟩] w (RetPrcB w (procFind a kd n l)) := by
  go_enter Tryz.func171, Tryz.ntmps171
  go_upto_region 1 with (fail)
  generalize hW : (((w.alloc _).alloc _).alloc _).alloc _ = W
  have Q1 : Blk W w.heap.size #[.string ⟨a.toArray⟩] := by rw [← hW]; exact (((Blk.new w _ _).alloc _).alloc _).alloc _
  have Q2 : Blk W (w.heap.size + 1) #[.int .u8 kd] := by rw [← hW, ← World.size_alloc w (.cells #[.string ⟨a.toArray⟩] 9)]; exact ((Blk.new _ _ _).alloc _).alloc _
  have Q3 : Blk W (w.heap.size + 1 + 1) #[.string ⟨n.toArray⟩] := by rw [← hW, ← World.size_alloc w (.cells #[.string ⟨a.toArray⟩] 9), ← World.size_alloc (w.alloc (.cells #[.string ⟨a.toArray⟩] 9)) (.cells #[.int .u8 kd] 148)]; exact (Blk.new _ _ _).alloc _
  have R0 : Blk W (w.heap.size + 1 + 1 + 1) (prcArr noProc none 0) := by rw [← hW, ← World.size_alloc w (.cells #[.string ⟨a.toArray⟩] 9), ← World.size_alloc (w.alloc (.cells #[.string ⟨a.toArray⟩] 9)) (.cells #[.int .u8 kd] 148), ← World.size_alloc ((w.alloc (.cells #[.string ⟨a.toArray⟩] 9)).alloc (.cells #[.int .u8 kd] 148)) (.cells #[.string ⟨n.toArray⟩] 9)]; exact Blk.new _ _ _
  have B0 : Below w.heap.size w W := by rw [← hW]; go_grown
  clear hW
  obtain ⟨g8, hg8⟩ : ∃ g, g = w.heap.size + 1 + 1 + 1 := ⟨_, rfl⟩
  rw [← hg8] at R0 ⊢
  have hge : w.heap.size ≤ g8 := by omega
  clear hg8
  have hcall := Lib.hid (pidxf_any l a n kd A c _ _ _ W (hI.below B0) hlc hn (Q1.cell 0) (Q2.cell 0) (Q3.cell 0))
  have HR := Lib.hid R0
  have HLC := Lib.hid hlc
  generalize w.heap.size + 1 + 1 = q3 at *
  generalize w.heap.size + 1 = q2 at *
  obtain ⟨q1, hq1⟩ : ∃ g, g = w.heap.size := ⟨_, rfl⟩
  rw [← hq1] at hcall ⊢
  clear hq1 Q1 Q2 Q3 R0
  rcases findP_cases a kd n l 0 with ⟨h1, h2⟩ | ⟨k, f, h1, h2, h3⟩
  · rw [h2] at hcall
    have HO := Lib.hid h1
    clear h1 h2
    go_upto_region 3 with (go_at_call 187; (with_reducible refine callR hcall.out ?_); intro w2 b2 _ _ _)
    have Y2 := HR.out.step b2
    have B2 := below_step B0 b2
    have d2 := Y2.plain
    have d3 := Y2.of
    go_wp2
    exact bodyPost_ret (results_agg Tryz.results171 _ _ g8 (prcArr noProc none 0) 4 _ rfl rfl (Y2.set _).cell Tryz.underlying186 rfl info_prc) rfl ⟨_, by rw [HO.out]; rfl, by rw [HO.out]; exact PrcFar.no _ _, below_setRow' B2 hge _⟩
  · rw [h3, Nat.zero_add] at hcall
    have HO := Lib.hid h2
    have hk : k < l.length := by
      rcases Nat.lt_or_ge k l.length with h | h
      · exact h
      · rw [List.getElem?_eq_none h] at h1; cases h1
    have hf : l[k] = f := by rw [List.getElem?_eq_getElem hk] at h1; exact Option.some.inj h1
    have hsm := hs _ (List.getElem_mem hk)
    rw [hf] at hsm
    have hkc : k < c := by omega
    have hlt' : (k : Int) < (l.length : Int) := by omega
    obtain ⟨b, off, cs', hA, hb, hIs, hAt⟩ := hI.get (Below.refl _ _) hk
    subst hA
    obtain ⟨A2, c2, rfl, hl2, hP2⟩ := (hf ▸ hAt).ex
    have hgw : g8 < W.heap.size := HR.out.lt
    have HX := Lib.hid (fun (W' : World) (B : Below W.heap.size W W') => show Is_prc W' b (off + k * 4) (prcArr f A2 c2) from ⟨rfl, fun j hj => by rw [(below_step B0 B).cell (p := ⟨b, _, none⟩) hb]; exact hIs.2 j hj⟩)
    clear h1 h2 h3 hf hIs hAt hI
    go_upto_region 4 with (go_at_call 187; (with_reducible refine callR hcall.out ?_); intro w2 b2 _ _ _)
    have i1 : Has_prc w2 b (off + k * 4) := ⟨_, HX.out w2 b2⟩
    have i2 : of_prc w2 b (off + k * 4) = prcArr f A2 c2 := of_prc_eq (HX.out w2 b2)
    go_upto_region 5 with (fail)
    have hP3 := Lib.hid (fun (W' : World) (B : Below w.heap.size w W') => hP2.below B)
    obtain ⟨css, hcl, hIt, hPr⟩ := hP2.ex
    have Z := Blk.new w2 (prcArr f A2 c2) 186
    have D := below_step (below_step B0 b2) (alloc_below3 w2 (.cells (prcArr f A2 c2) 186))
    have R2 := (HR.out.step b2).alloc (.cells (prcArr f A2 c2) 186)
    have hg2 : W.heap.size ≤ w2.heap.size := b2.size
    clear i1 i2 HX
    generalize w2.alloc _ = W3 at Z D R2 ⊢
    obtain ⟨g11, hg11⟩ : ∃ g, g = w2.heap.size := ⟨_, rfl⟩
    rw [← hg11] at Z ⊢
    have h8 : g8 < g11 := by omega
    clear hg11 b2 hg2 hgw
    have hg11lt := Z.lt
    obtain ⟨m, hm⟩ : ∃ m, m = f.parts.length := ⟨_, rfl⟩
    have z3 : W3.cell? ⟨g11, 3, none⟩ = some (.slice A2 m c2) := by rw [hm]; exact Z.cell 3
    have hPr' := fun (i : Nat) (cs : Array Value) (x : PartV) (a : css[i]? = some cs) (b : f.parts[i]? = some x) => (hPr i cs x a b).in_
    have kc := Lib.hid (clone_prt css A2 m c2 W3 (hIt.below D) (by omega) (by have := hsm.len; omega) (prt_sizes (P := fun _ b => b < w.heap.size) hcl hPr') (prt_onesL (P := fun _ b => b < w.heap.size) hcl hPr'))
    have HSM := Lib.hid hsm
    have HM := Lib.hid hm
    have HCL := Lib.hid hcl
    clear hsm hl2 hPr hIt hP2 hcl hm
    by_cases hp0 : m = 0
    · have HP0 := Lib.hid hp0
      have hz := Lib.hid z3
      clear z3
      rw [hp0] at kc hz
      subst hp0
      have z3 := hz.out
      go_upto_region 6 with (go_at_call 172; (with_reducible refine callCl kc.out ?_); intro A3 c3 w4 O4 b4; have Z4 := Z.step b4; have f1 := Z4.frozen 3; have f2 : w4.cell? ⟨g11, 3, none⟩ = some (.slice A2 0 c2) := (show w4.cell? ⟨g11, 3, none⟩ = some (.slice A2 f.parts.length c2) from Z4.cell 3).trans (by rw [HM.out]))
      have hnil : f.parts = [] := List.eq_nil_of_length_eq_zero HM.out.symm
      have Z5 : Blk (w4.setCell ⟨g11, 3, none⟩ (.slice A3 0 c3)) g11 (prcArr f A3 c3) := by
        have := Z4.setCell 3 (.slice A3 0 c3)
        have e : (prcArr f A2 c2).setIfInBounds 3 (.slice A3 0 c3) = prcArr f A3 c3 := by simp [prcArr, hnil]
        rwa [e] at this
      have R5 := (R2.step b4).farSet (Nat.ne_of_lt h8) 3 (.slice A3 0 c3)
      have B5 := below_setCell (below_step D b4) (Nat.le_of_lt (Nat.lt_of_le_of_lt hge h8)) 3 (.slice A3 0 c3)
      clear f1 f2 z3 Z4 O4 kc
      generalize w4.setCell _ _ = w5 at *
      have z3 : w5.cell? ⟨g11, 3, none⟩ = some (.slice A3 0 c3) := by have := Z5.cell 3; rw [this]; show some (Value.slice A3 f.parts.length c3) = _; rw [← HM.out]
      go_wp2
      go_loopw [30] (fun iv wr => iv = .int .i64 0 ∧ wr = w5) (fun _ _ => 0)
      case atStart => exact ⟨rfl, rfl⟩
      case round =>
        obtain ⟨rfl, rfl⟩ := hrel
        have i1 : Has_prc wr g11 0 := ⟨_, Z5.is_prc rfl⟩
        have i2 : of_prc wr g11 0 = prcArr f A3 c3 := of_prc_eq (Z5.is_prc rfl)
        have d2 := R5.plain
        have d3 := R5.of
        go_wp2
        exact bodyPost_ret (results_agg Tryz.results171 _ _ g8 (prcArr f A3 c3) 4 _ rfl rfl (R5.set _).cell Tryz.underlying186 rfl info_prc) rfl ⟨_, by rw [HO.out]; rfl, by rw [HO.out]; exact ⟨⟨A3, c3, [], rfl, by show f.parts.length ≤ c3; rw [hnil]; exact Nat.zero_le _, by show 0 = f.parts.length; rw [hnil]; rfl, Items.nil _ _ _, fun h => absurd hnil h, fun i cs x h => by simp at h⟩⟩, below_setRow' B5 hge _⟩
    · go_upto_region 6 with (go_at_call 172; (with_reducible refine callCl kc.out ?_); intro A3 c3 w4 O4 b4; have Z4 := Z.step b4; have f1 := Z4.frozen 3; have f2 : w4.cell? ⟨g11, 3, none⟩ = some (.slice A2 m c2) := (show w4.cell? ⟨g11, 3, none⟩ = some (.slice A2 f.parts.length c2) from Z4.cell 3).trans (by rw [HM.out]))
      obtain ⟨q, hA3, hq3, hq4⟩ : ∃ q, A3 = some ⟨q, 0, none⟩ ∧ W3.heap.size ≤ q ∧ q < w4.heap.size := by
        rcases O4.2 with ⟨e, h0⟩ | ⟨q, cap, cur, e, hq, hbk, _⟩
        · exact absurd (show m = 0 by have := HCL.out; have := HM.out; omega) hp0
        · injection e with e _ _
          refine ⟨q, e, hq, ?_⟩
          rcases Nat.lt_or_ge q w4.heap.size with h | h
          · exact h
          · rw [Array.getElem?_eq_none h] at hbk; cases hbk
      subst hA3
      have hWc : Below W3.heap.size W3 (w4.setCell ⟨g11, 3, none⟩ (.slice (some ⟨q, 0, none⟩) m c3)) ∨ True := .inr trivial
      have Z5 : Blk (w4.setCell ⟨g11, 3, none⟩ (.slice (some ⟨q, 0, none⟩) m c3)) g11 (prcArr f (some ⟨q, 0, none⟩) c3) := by
        have := Z4.setCell 3 (.slice (some ⟨q, 0, none⟩) m c3)
        have e : (prcArr f A2 c2).setIfInBounds 3 (.slice (some ⟨q, 0, none⟩) m c3) = prcArr f (some ⟨q, 0, none⟩) c3 := by rw [HM.out]; rfl
        rwa [e] at this
      have R5 := (R2.step b4).farSet (Nat.ne_of_lt h8) 3 (.slice (some ⟨q, 0, none⟩) m c3)
      have B5 := below_setCell (below_step D b4) (Nat.le_of_lt (Nat.lt_of_le_of_lt hge h8)) 3 (.slice (some ⟨q, 0, none⟩) m c3)
      have O5 := O4.below (W' := w4.setCell ⟨g11, 3, none⟩ (.slice (some ⟨q, 0, none⟩) m c3)) (fun k hk _ => Below.heap_setCell _ _ _ _ (by show k ≠ g11; omega))
      obtain ⟨bad, hbad⟩ : ∃ bad : Nat → Prop, bad = fun b => b = g8 ∨ b = g11 ∨ b = q := ⟨_, rfl⟩
      have hbadq : bad q := by rw [hbad]; exact .inr (.inr rfl)
      have Row5 : RowAt W3.heap.size 0 bad (w4.setCell ⟨g11, 3, none⟩ (.slice (some ⟨q, 0, none⟩) m c3)) q m c3 f.parts W3.heap.size :=
        RowAt.start HCL.out O5 fun i cs x a b => (hPr' i cs x a b).keep (fun b hb _ => ⟨B5.block b hb, by rw [hbad]; rintro (h | h | h) <;> omega⟩) B5.size
      clear f1 f2 z3 Z4 O4 kc O5 hWc hPr' hP3
      have hB0 : w.heap.size ≤ W3.heap.size := D.size
      generalize w4.setCell _ _ = w5 at *
      have z3 : w5.cell? ⟨g11, 3, none⟩ = some (.slice (some ⟨q, 0, none⟩) m c3) := by have := Z5.cell 3; rw [this]; show some (Value.slice _ f.parts.length c3) = _; rw [← HM.out]
      go_wp2
      clear z3
      go_loopw [30] (fun iv wr => ∃ k : Nat, k ≤ m ∧ iv = .int .i64 k ∧ Blk wr g11 (prcArr f (some ⟨q, 0, none⟩) c3) ∧ Blk wr g8 (prcArr noProc none 0) ∧ RowAt W3.heap.size k bad wr q m c3 f.parts W3.heap.size ∧ Below w.heap.size w wr) (fun iv _ => m - (intOf iv).toNat)
      case atStart => exact ⟨0, by omega, rfl, Z5, R5, Row5, B5⟩
      case round =>
        obtain ⟨k2, hk2, rfl, Z6, R6, Row6, B6⟩ := hrel
        by_cases hlt : k2 < m
        · have hk3 : k2 < f.parts.length := by rw [← HM.out]; exact hlt
          obtain ⟨A4, d4, hBq, hqlt, hmc, hc3, hfr, hl4, hI4⟩ := Row6.get HM.out.symm hlt
          have hx := List.getElem?_eq_getElem hk3
          have hxs := HSM.out.each _ (List.getElem_mem hk3)
          generalize f.parts[k2] = x at *
          have hm4 : m ≤ 4000000 := by have := HSM.out.len; have := HM.out; omega
          have hlt' : (k2 : Int) < (m : Int) := by omega
          have hkc : k2 < c3 := by omega
          have e1 : wr.cell? ⟨g11, 3, none⟩ = some (.slice (some ⟨q, 0, none⟩) m c3) := by have := Z6.cell 3; rw [this]; show some (Value.slice _ f.parts.length c3) = _; rw [← HM.out]
          have e2 : wr.cell? ⟨q, k2 * 3 + 2, none⟩ = some (.slice A4 x.legs.length d4) := hc3 2 (by omega)
          have kl := Lib.hid (fun (W' : World) (B : Below wr.heap.size wr W') => clone_leg (x.legs.map Leg.arr) A4 x.legs.length d4 W' (hI4.below B) (by simp) (by have := hxs.len; omega) (leg_sizes _) (leg_ones _))
          have HE := Lib.hid (fun (W' : World) (B : Below wr.heap.size wr W') => show W'.cell? ⟨g11, 3, none⟩ = some (.slice (some ⟨q, 0, none⟩) m c3) ∧ W'.cell? ⟨q, k2 * 3 + 2, none⟩ = some (.slice A4 x.legs.length d4) from ⟨by rw [B.cell (p := ⟨g11, 3, none⟩) Z6.lt]; exact e1, by rw [B.cell (p := ⟨q, _, none⟩) hqlt]; exact e2⟩)
          have HFR := Lib.hid (fun (W' : World) (B : Below wr.heap.size wr W') => show W'.frozen? ⟨q, k2 * 3 + 2, none⟩ = false from by rw [B.frozen (p := ⟨q, _, none⟩) hqlt]; exact hfr)
          have HX := Lib.hid hx
          have HZ := Lib.hid Z6
          have HRR := Lib.hid R6
          have HRO := Lib.hid Row6
          have e2d : wr.drew.cell? ⟨q, k2 * 3 + 2, none⟩ = some (.slice A4 x.legs.length d4) := e2
          have hgq : g11 ≠ q := by omega
          have h8q : g8 ≠ q := by omega
          have hg8l := R6.lt
          have hg11l := Z6.lt
          clear hc3 hI4 hx Z6 R6 Row6 hfr e1
          go_upto_region 9 with (fail)
          have e1 := (HE.out wr (Below.refl _ _)).1
          have e1d : wr.drew.cell? ⟨g11, 3, none⟩ = some (.slice (some ⟨q, 0, none⟩) m c3) := e1
          go_region_with (go_at_call 173; (with_reducible refine callCl (kl.out _ (by first | exact Below.refl _ _ | exact (Below.refl _ _).drew)) ?_); intro A5 c5 w7 O7 b7; have B7 : Below wr.heap.size wr w7 := (by first | exact b7 | exact below_step (Below.refl _ _).drew b7); have f1 := HFR.out w7 B7; have f2 := (HE.out w7 B7).2; have f3 := (HE.out w7 B7).1)
          all_goals
            go_wp2
            obtain ⟨A6, c6, e6, hl6, hI6, hA6, _⟩ := O7.form (leg_sizes _)
            injection e6 with e6 _ e7
            subst e6 e7
            rw [List.length_map] at hl6
            have hbl : wr.heap.size ≤ (World.heap wr.drew).size := Nat.le_refl _
            have hAA : x.legs ≠ [] → ∀ a, A5 = some a → ¬ bad a.block ∧ W3.heap.size ≤ a.block ∧ a.block < w7.heap.size := fun hne a ha => by
              have h1 : wr.heap.size ≤ a.block := hA6 a ha
              obtain ⟨b9, o9, e9, hb9, _⟩ := hI6.at_ (by simpa using hne)
              rw [e9] at ha
              obtain rfl : (⟨b9, o9, none⟩ : Addr) = a := by simpa using ha
              have h1 : wr.heap.size ≤ b9 := h1
              exact ⟨by rw [hbad]; show ¬ (b9 = g8 ∨ b9 = g11 ∨ b9 = q); omega, by show W3.heap.size ≤ b9; omega, hb9⟩
            go_roundw
            case rel => exact ⟨k2 + 1, by omega, by go_num, (HZ.out.step B7).farSet hgq _ _, (HRR.out.step B7).farSet h8q _ _, (HRO.out.below B7).step HM.out.symm hlt hbadq HX.out hl6 hI6 hAA, below_setCell (below_step B6 B7) (by omega) _ _⟩
            case measure => simp [intOf]; omega
        · have hlt' : ¬ (k2 : Int) < (m : Int) := by omega
          obtain rfl : k2 = m := by omega
          have F6 := Row6.done HM.out.symm (Nat.le_refl _)
          have i1 : Has_prc wr g11 0 := ⟨_, Z6.is_prc rfl⟩
          have i2 : of_prc wr g11 0 = prcArr f (some ⟨q, 0, none⟩) c3 := of_prc_eq (Z6.is_prc rfl)
          have d2 := R6.plain
          have d3 := R6.of
          have hg8 : g8 < W3.heap.size := by omega
          clear Row6
          go_wp2
          exact bodyPost_ret (results_agg Tryz.results171 _ _ g8 (prcArr f (some ⟨q, 0, none⟩) c3) 4 _ rfl rfl (R6.set _).cell Tryz.underlying186 rfl info_prc) rfl ⟨_, by rw [HO.out]; rfl, by rw [HO.out]; exact (F6.keep (fun b hb _ => setRow_other _ _ _ _ (by omega)) (by simp [World.setRow])).mono hB0, below_setRow' B6 hge _⟩
end Go.Proofs.YtlggdgpdfepppaaGreatDoor
