/- Edits in plain Lean: a valid edit's text is read back. No program in sight. Edits in plain Lean: both readings of a text are one; the laws of EditText and EditParses. No program in sight. The plain laws of edits applied: a field set; a direct-to. No program in sight. -/
import Derived.Test.YtcgmemkkcaipfaaGreatDoorPk15
import Derived.Test.YtcgmemkkcaipfaaGreatDoorPk14
import Derived.Test.YtcgmemkkcaipfaaGreatDoorPk18
import Derived.Test.YtcgmemkkcaipfaaGreatDoorPk24
namespace Go.Proofs.YtcgmemkkcaipfaaGreatDoor
open Go.RowKit
set_option linter.unusedVariables false
set_option linter.unusedSimpArgs false
theorem numE0 {b : Bool} (h : namedS b = 0) : b = true := by cases b <;> simp_all [namedS]
theorem betE {n lo hi : Int} (h : betweenS n lo hi = 0) : lo ≤ n ∧ n ≤ hi := by
  unfold betweenS at h
  split at h <;> omega
theorem orE_both {a b : Int} (h : orE a b = 0) : a = 0 ∧ b = 0 := by
  unfold orE at h
  split at h
  · rename_i h1; subst h; exact absurd h1 (by decide)
  · rename_i h1; exact ⟨by simpa using h1, h⟩
theorem chk_all {e : EditV} : ∀ {l : List UInt8}, chkGo e l = 0 → ∀ c ∈ l, stE e c = 0
  | [], _, c, hc => absurd hc List.not_mem_nil
  | c0 :: r, h, c, hc => by
      obtain ⟨h1, h2⟩ := orE_both h
      rcases List.mem_cons.1 hc with rfl | hc
      · exact h1
      · exact chk_all h2 c hc
/-- What a valid edit is. -/
theorem edit_ok {e : EditV} (h : editCheck e = 0) : (1 ≤ e.op ∧ e.op ≤ 12) ∧ ∀ c ∈ edOrder, stE e c = 0 := by
  unfold editCheck at h
  split at h
  · omega
  · exact ⟨by omega, chk_all h⟩
theorem st_used {e : EditV} {c : UInt8} (h : stE e c = 0) (hu : (formF e.op).contains c = true) : checkF e c = 0 := by
  unfold stE at h; rw [if_pos hu] at h; exact h
theorem st_zero {e : EditV} {c : UInt8} (h : stE e c = 0) (hu : (formF e.op).contains c = false) : zeroF e c = true := by
  unfold stE at h
  rw [if_neg (by rw [hu]; decide)] at h
  cases hz : zeroF e c
  · rw [hz] at h; exact absurd h (by decide)
  · rfl
theorem name_no {l : List UInt8} {m : Int} (h : nameB l m = true) {c : UInt8} (hc : alnum c = false) : c ∉ l := alnum_not (nameB_all h) hc
theorem opt_no {l : List UInt8} {m : Int} (h : (l.isEmpty || nameB l m) = true) {c : UInt8} (hc : alnum c = false) : c ∉ l := by
  rcases Bool.or_eq_true_iff.1 h with h | h
  · have : l = [] := by simpa using h
    rw [this]; simp
  · exact name_no h hc
theorem pair_no {l : List UInt8} {d : UInt8} {m : Int} (h : pairB l d m = true) {c : UInt8} (hc : alnum c = false) (hd : c ≠ d) : c ∉ l := fun hm => by
  rcases pairB_parts h c hm with h2 | h2
  · rw [hc] at h2; cases h2
  · exact hd h2
theorem digits_no {l : List UInt8} (h : l.all isD = true) {c : UInt8} (hc : isD c = false) : c ∉ l := fun hm => by
  have := (List.all_eq_true.1 h) c hm
  rw [hc] at this; cases this
theorem winS_no (lo hi : Int) : (32 : UInt8) ∉ winS lo hi := by
  have a := altS_not (c := 32) (by decide) lo
  have b := altS_not (c := 32) (by decide) hi
  unfold winS
  repeat' split
  all_goals simp [a, b]
theorem distS_no (d : Nat) : (32 : UInt8) ∉ distS d := by
  have a := digits_no (dec_all (d / 6000)) (c := 32) (by decide)
  have b := digits_no (dec_all (d % 6000)) (c := 32) (by decide)
  unfold distS
  split <;> simp [a, b]
/-- No word of a valid edit holds a blank. -/
theorem write_no {e : EditV} {c : UInt8} (hc : c ∈ edOrder) (h : checkF e c = 0) : (32 : UInt8) ∉ writeF e c := by
  simp only [edOrder, List.mem_cons, List.not_mem_nil, or_false] at hc
  rcases hc with rfl | rfl | rfl | rfl | rfl | rfl | rfl | rfl | rfl | rfl
  · exact itoa_not (by decide) (by decide) _
  · exact ref_no (numE0 h)
  · have h : (if e.op = 12 then namedS (pairB e.name 47 6) else namedS (nameB e.name 8)) = 0 := h
    split at h
    · exact pair_no (numE0 h) (by decide) (by decide)
    · exact name_no (numE0 h) (by decide)
  · exact dash_not (opt_no (numE0 h) (by decide)) (by decide)
  · exact dash_not (opt_no (numE0 h) (by decide)) (by decide)
  · show (32 : UInt8) ∉ (winT e.lo e.hi).1
    unfold winT
    split
    · exact winS_no _ _
    · simp
  · exact itoa_not (by decide) (by decide) _
  · exact digits_no (exactS_all _) (by decide)
  · show (32 : UInt8) ∉ (distT e.dist).1
    unfold distT
    split
    · exact distS_no _
    · simp
  · show (32 : UInt8) ∉ (if e.turn = 1 then [76] else [82])
    split <;> decide
/-- The words of a text. -/
theorem split_tail {e : EditV} : ∀ (fs : List UInt8) (w : List UInt8), (32 : UInt8) ∉ w → (∀ c ∈ fs, (32 : UInt8) ∉ writeF e c) → splitC 32 (w ++ tailT e fs) = w :: fs.map (writeF e)
  | [], w, hw, _ => by simpa [tailT] using splitC_one 32 w hw
  | c :: r, w, hw, h => by
      show splitC 32 (w ++ 32 :: (writeF e c ++ tailT e r)) = _
      rw [splitC_append 32 w _ hw, split_tail r (writeF e c) (h c (by simp)) fun d hd => h d (by simp [hd])]
      rfl
theorem formW_no {op : Int} (h : 1 ≤ op ∧ op ≤ 12) : (32 : UInt8) ∉ formW op ∧ formW op ≠ [] := by
  obtain ⟨k, rfl⟩ : ∃ k : Nat, op = k := ⟨op.toNat, by omega⟩
  have : k = 1 ∨ k = 2 ∨ k = 3 ∨ k = 4 ∨ k = 5 ∨ k = 6 ∨ k = 7 ∨ k = 8 ∨ k = 9 ∨ k = 10 ∨ k = 11 ∨ k = 12 := by omega
  rcases this with rfl | rfl | rfl | rfl | rfl | rfl | rfl | rfl | rfl | rfl | rfl | rfl <;> decide
theorem formF_in {op : Int} (h : 1 ≤ op ∧ op ≤ 12) : (∀ c ∈ formF op, c ∈ edOrder) ∧ formF op ≠ [] := by
  obtain ⟨k, rfl⟩ : ∃ k : Nat, op = k := ⟨op.toNat, by omega⟩
  have : k = 1 ∨ k = 2 ∨ k = 3 ∨ k = 4 ∨ k = 5 ∨ k = 6 ∨ k = 7 ∨ k = 8 ∨ k = 9 ∨ k = 10 ∨ k = 11 ∨ k = 12 := by omega
  rcases this with rfl | rfl | rfl | rfl | rfl | rfl | rfl | rfl | rfl | rfl | rfl | rfl <;> decide
theorem used_check {e : EditV} (h : editCheck e = 0) : ∀ c ∈ formF e.op, checkF e c = 0 := fun c hc => by
  obtain ⟨ho, hs⟩ := edit_ok h
  exact st_used (hs c ((formF_in ho).1 c hc)) (List.contains_iff_mem.2 hc)
theorem text_of {e : EditV} (h : editCheck e = 0) : editText e = formW e.op ++ tailT e (formF e.op) := by
  unfold editText; rw [h]; rfl
/-- The words of a valid edit's text. -/
theorem text_words {e : EditV} (h : editCheck e = 0) : splitC 32 (editText e) = formW e.op :: (formF e.op).map (writeF e) := by
  obtain ⟨ho, hs⟩ := edit_ok h
  rw [text_of h]
  exact split_tail _ _ (formW_no ho).1 fun c hc => write_no ((formF_in ho).1 c hc) (used_check h c hc)
theorem text_ne {e : EditV} (h : editCheck e = 0) : editText e ≠ [] := by
  obtain ⟨ho, hs⟩ := edit_ok h
  rw [text_of h]
  have := (formW_no ho).2
  simp [this]
theorem text_valid {e : EditV} (h : editText e ≠ []) : editCheck e = 0 := by
  unfold editText at h
  split at h
  · exact absurd rfl h
  · rename_i h1; simpa using h1
theorem parseEx_back {a : Int} (h0 : 0 ≤ a) (h : a ≤ 129599999) : parseExS (exactS a.toNat) = (a, 0) := by
  have := angP_exactS a.toNat (by omega)
  unfold parseExS
  rw [this]
  simp only [if_true]
  rw [if_pos (by omega), show ((a.toNat : Nat) : Int) = a by omega]
/-! Each word is read back. -/
theorem rb97 {e : EditV} (x : EditV) (h : checkF e 97 = 0) : readF x 97 (writeF e 97) = { x with at_ := e.at_ } := by
  have := betE (show betweenS e.at_ 0 60 = 0 from h)
  show { x with at_ := atoiP (Lib.itoa e.at_) } = _
  rw [atoiP_itoa (by omega) (by omega)]
theorem rb114 {e : EditV} (x : EditV) (h : checkF e 114 = 0) : readF x 114 (writeF e 114) = { x with ref := e.ref } := rfl
theorem rb110 {e : EditV} (x : EditV) (h : checkF e 110 = 0) : readF x 110 (writeF e 110) = { x with name := e.name } := rfl
theorem dash_45 {s : List UInt8} (h : (45 : UInt8) ∉ s) : (dashB s = [45] ↔ s = []) := by
  unfold dashB
  cases s with
  | nil => simp
  | cons c r =>
    have : c :: r ≠ [45] := by intro e; rw [e] at h; simp at h
    simp [this]
theorem rb119 {e : EditV} (x : EditV) (hx : x.rway = []) (h : checkF e 119 = 0) : readF x 119 (writeF e 119) = { x with rway := e.rway } := by
  have hn := opt_no (c := 45) (numE0 (show namedS (e.rway.isEmpty || nameB e.rway 6) = 0 from h)) (by decide)
  show (if dashB e.rway = [45] then x else { x with rway := dashB e.rway }) = _
  by_cases he : e.rway = []
  · rw [if_pos ((dash_45 hn).2 he), he, ← hx]
  · rw [if_neg (fun h => he ((dash_45 hn).1 h))]
    have : dashB e.rway = e.rway := by unfold dashB; cases hq : e.rway with | nil => exact absurd hq he | cons c r => rfl
    rw [this]
theorem rb116 {e : EditV} (x : EditV) (hx : x.trans = []) (h : checkF e 116 = 0) : readF x 116 (writeF e 116) = { x with trans := e.trans } := by
  have hn := opt_no (c := 45) (numE0 (show namedS (e.trans.isEmpty || nameB e.trans 8) = 0 from h)) (by decide)
  show (if dashB e.trans = [45] then x else { x with trans := dashB e.trans }) = _
  by_cases he : e.trans = []
  · rw [if_pos ((dash_45 hn).2 he), he, ← hx]
  · rw [if_neg (fun h => he ((dash_45 hn).1 h))]
    have : dashB e.trans = e.trans := by unfold dashB; cases hq : e.trans with | nil => exact absurd hq he | cons c r => rfl
    rw [this]
theorem win_okE {e : EditV} (h : checkF e 104 = 0) : winOk e.lo e.hi := by
  have h : (if e.lo < -200000 ∨ e.hi < e.lo ∨ 6000000 < e.hi then (2 : Int) else 0) = 0 := h
  split at h
  · omega
  · unfold winOk; omega
theorem rb104 {e : EditV} (x : EditV) (h : checkF e 104 = 0) : readF x 104 (writeF e 104) = { x with lo := e.lo, hi := e.hi } := by
  show { x with lo := (parseWinS (winT e.lo e.hi).1).1.1, hi := (parseWinS (winT e.lo e.hi).1).1.2 } = _
  rw [winT_in (win_okE h), parseWin_winS (win_okE h)]
theorem rb115 {e : EditV} (x : EditV) (h : checkF e 115 = 0) : readF x 115 (writeF e 115) = { x with speed := e.speed } := by
  have := betE (show betweenS e.speed 0 1000 = 0 from h)
  show { x with speed := numP (Lib.itoa e.speed) } = _
  rw [numP_itoa (by omega) (by omega)]
theorem rb99 {e : EditV} (x : EditV) (h : checkF e 99 = 0) : readF x 99 (writeF e 99) = { x with course := e.course } := by
  have := betE (show betweenS e.course 0 129599999 = 0 from h)
  show { x with course := (parseExS (exactS e.course.toNat)).1 } = _
  rw [parseEx_back this.1 this.2]
theorem dist_okE {e : EditV} (h : checkF e 100 = 0) : 0 ≤ e.dist ∧ e.dist ≤ 8000000 := by
  have h : (if e.op = 6 then betweenS e.dist 0 120000 else betweenS e.dist 1 2000000) = 0 := h
  split at h
  · have := betE h; omega
  · have := betE h; omega
theorem rb100 {e : EditV} (x : EditV) (h : checkF e 100 = 0) : readF x 100 (writeF e 100) = { x with dist := e.dist } := by
  have hd := dist_okE h
  show { x with dist := (distP (distT e.dist).1).1 } = _
  rw [distT_in hd, distP_distS (by omega)]
  simp only
  rw [show ((e.dist.toNat : Nat) : Int) = e.dist by omega]
theorem turn_okE {e : EditV} (h : checkF e 117 = 0) : e.turn = 1 ∨ e.turn = 2 := by
  have h : (if e.turn = 1 ∨ e.turn = 2 then (0 : Int) else 1) = 0 := h
  split at h
  · assumption
  · exact absurd h (by decide)
theorem rb117 {e : EditV} (x : EditV) (h : checkF e 117 = 0) : readF x 117 (writeF e 117) = { x with turn := e.turn } := by
  show { x with turn := if (if e.turn = 1 then [76] else [82] : List UInt8) = [76] then 1 else 2 } = _
  rcases turn_okE h with h1 | h1 <;> rw [h1] <;> rfl
/-! What is not used is zero. -/
theorem z97 {e : EditV} (h : zeroF e 97 = true) : e.at_ = 0 := by simpa using (show (e.at_ == 0) = true from h)
theorem z114 {e : EditV} (h : zeroF e 114 = true) : e.ref = [] := by simpa using (show e.ref.isEmpty = true from h)
theorem z110 {e : EditV} (h : zeroF e 110 = true) : e.name = [] := by simpa using (show e.name.isEmpty = true from h)
theorem z119 {e : EditV} (h : zeroF e 119 = true) : e.rway = [] := by simpa using (show e.rway.isEmpty = true from h)
theorem z116 {e : EditV} (h : zeroF e 116 = true) : e.trans = [] := by simpa using (show e.trans.isEmpty = true from h)
theorem z115 {e : EditV} (h : zeroF e 115 = true) : e.speed = 0 := by simpa using (show (e.speed == 0) = true from h)
theorem z99 {e : EditV} (h : zeroF e 99 = true) : e.course = 0 := by simpa using (show (e.course == 0) = true from h)
theorem z100 {e : EditV} (h : zeroF e 100 = true) : e.dist = 0 := by simpa using (show (e.dist == 0) = true from h)
theorem z117 {e : EditV} (h : zeroF e 117 = true) : e.turn = 0 := by simpa using (show (e.turn == 0) = true from h)
theorem z104 {e : EditV} (h : zeroF e 104 = true) : e.lo = 0 ∧ e.hi = 0 := by simpa using (show (e.lo == 0 && e.hi == 0) = true from h)
theorem EditV.ext {a b : EditV} (h1 : a.op = b.op) (h2 : a.at_ = b.at_) (h3 : a.ref = b.ref) (h4 : a.name = b.name) (h5 : a.rway = b.rway) (h6 : a.trans = b.trans) (h7 : a.lo = b.lo) (h8 : a.hi = b.hi) (h9 : a.speed = b.speed) (h10 : a.course = b.course) (h11 : a.dist = b.dist) (h12 : a.turn = b.turn) : a = b := by
  cases a; cases b; simp_all
/-- The loose reading of a valid edit's words is the edit. -/
theorem edit_back {e : EditV} (h : editCheck e = 0) : readGo { edit0 with op := e.op } (formF e.op) ((formF e.op).map (writeF e)) = e := by
  obtain ⟨ho, hs⟩ := edit_ok h
  obtain ⟨k, hk⟩ : ∃ k : Nat, e.op = k := ⟨e.op.toNat, by omega⟩
  have hk12 : k = 1 ∨ k = 2 ∨ k = 3 ∨ k = 4 ∨ k = 5 ∨ k = 6 ∨ k = 7 ∨ k = 8 ∨ k = 9 ∨ k = 10 ∨ k = 11 ∨ k = 12 := by omega
  clear ho
  have s97 := hs 97 (by decide)
  have s114 := hs 114 (by decide)
  have s110 := hs 110 (by decide)
  have s119 := hs 119 (by decide)
  have s116 := hs 116 (by decide)
  have s104 := hs 104 (by decide)
  have s115 := hs 115 (by decide)
  have s99 := hs 99 (by decide)
  have s100 := hs 100 (by decide)
  have s117 := hs 117 (by decide)
  clear hs h
  rcases hk12 with rfl | rfl | rfl | rfl | rfl | rfl | rfl | rfl | rfl | rfl | rfl | rfl
  · rw [hk]
    have hf : ∀ c, (formF e.op).contains c = (formF 1).contains c := fun c => by rw [hk]; rfl
    have t97 := st_used s97 (by rw [hf]; decide)
    have t114 := st_used s114 (by rw [hf]; decide)
    have t110 := z110 (st_zero s110 (by rw [hf]; decide))
    have t119 := z119 (st_zero s119 (by rw [hf]; decide))
    have t116 := z116 (st_zero s116 (by rw [hf]; decide))
    have t104 := z104 (st_zero s104 (by rw [hf]; decide))
    have t115 := z115 (st_zero s115 (by rw [hf]; decide))
    have t99 := z99 (st_zero s99 (by rw [hf]; decide))
    have t100 := z100 (st_zero s100 (by rw [hf]; decide))
    have t117 := z117 (st_zero s117 (by rw [hf]; decide))
    show (readF (readF { edit0 with op := ((1 : Nat) : Int) } 97 (writeF e 97)) 114 (writeF e 114)) = e
    rw [rb97 _ t97, rb114 _ t114]
    exact EditV.ext hk.symm rfl rfl t110.symm t119.symm t116.symm t104.1.symm t104.2.symm t115.symm t99.symm t100.symm t117.symm
  · rw [hk]
    have hf : ∀ c, (formF e.op).contains c = (formF 2).contains c := fun c => by rw [hk]; rfl
    have t97 := st_used s97 (by rw [hf]; decide)
    have t114 := z114 (st_zero s114 (by rw [hf]; decide))
    have t110 := z110 (st_zero s110 (by rw [hf]; decide))
    have t119 := z119 (st_zero s119 (by rw [hf]; decide))
    have t116 := z116 (st_zero s116 (by rw [hf]; decide))
    have t104 := z104 (st_zero s104 (by rw [hf]; decide))
    have t115 := z115 (st_zero s115 (by rw [hf]; decide))
    have t99 := z99 (st_zero s99 (by rw [hf]; decide))
    have t100 := z100 (st_zero s100 (by rw [hf]; decide))
    have t117 := z117 (st_zero s117 (by rw [hf]; decide))
    show (readF { edit0 with op := ((2 : Nat) : Int) } 97 (writeF e 97)) = e
    rw [rb97 _ t97]
    exact EditV.ext hk.symm rfl t114.symm t110.symm t119.symm t116.symm t104.1.symm t104.2.symm t115.symm t99.symm t100.symm t117.symm
  · rw [hk]
    have hf : ∀ c, (formF e.op).contains c = (formF 3).contains c := fun c => by rw [hk]; rfl
    have t97 := st_used s97 (by rw [hf]; decide)
    have t114 := z114 (st_zero s114 (by rw [hf]; decide))
    have t110 := z110 (st_zero s110 (by rw [hf]; decide))
    have t119 := z119 (st_zero s119 (by rw [hf]; decide))
    have t116 := z116 (st_zero s116 (by rw [hf]; decide))
    have t104 := z104 (st_zero s104 (by rw [hf]; decide))
    have t115 := z115 (st_zero s115 (by rw [hf]; decide))
    have t99 := z99 (st_zero s99 (by rw [hf]; decide))
    have t100 := z100 (st_zero s100 (by rw [hf]; decide))
    have t117 := z117 (st_zero s117 (by rw [hf]; decide))
    show (readF { edit0 with op := ((3 : Nat) : Int) } 97 (writeF e 97)) = e
    rw [rb97 _ t97]
    exact EditV.ext hk.symm rfl t114.symm t110.symm t119.symm t116.symm t104.1.symm t104.2.symm t115.symm t99.symm t100.symm t117.symm
  · rw [hk]
    have hf : ∀ c, (formF e.op).contains c = (formF 4).contains c := fun c => by rw [hk]; rfl
    have t97 := st_used s97 (by rw [hf]; decide)
    have t114 := z114 (st_zero s114 (by rw [hf]; decide))
    have t110 := z110 (st_zero s110 (by rw [hf]; decide))
    have t119 := z119 (st_zero s119 (by rw [hf]; decide))
    have t116 := z116 (st_zero s116 (by rw [hf]; decide))
    have t104 := st_used s104 (by rw [hf]; decide)
    have t115 := z115 (st_zero s115 (by rw [hf]; decide))
    have t99 := z99 (st_zero s99 (by rw [hf]; decide))
    have t100 := z100 (st_zero s100 (by rw [hf]; decide))
    have t117 := z117 (st_zero s117 (by rw [hf]; decide))
    show (readF (readF { edit0 with op := ((4 : Nat) : Int) } 97 (writeF e 97)) 104 (writeF e 104)) = e
    rw [rb97 _ t97, rb104 _ t104]
    exact EditV.ext hk.symm rfl t114.symm t110.symm t119.symm t116.symm rfl rfl t115.symm t99.symm t100.symm t117.symm
  · rw [hk]
    have hf : ∀ c, (formF e.op).contains c = (formF 5).contains c := fun c => by rw [hk]; rfl
    have t97 := st_used s97 (by rw [hf]; decide)
    have t114 := z114 (st_zero s114 (by rw [hf]; decide))
    have t110 := z110 (st_zero s110 (by rw [hf]; decide))
    have t119 := z119 (st_zero s119 (by rw [hf]; decide))
    have t116 := z116 (st_zero s116 (by rw [hf]; decide))
    have t104 := z104 (st_zero s104 (by rw [hf]; decide))
    have t115 := st_used s115 (by rw [hf]; decide)
    have t99 := z99 (st_zero s99 (by rw [hf]; decide))
    have t100 := z100 (st_zero s100 (by rw [hf]; decide))
    have t117 := z117 (st_zero s117 (by rw [hf]; decide))
    show (readF (readF { edit0 with op := ((5 : Nat) : Int) } 97 (writeF e 97)) 115 (writeF e 115)) = e
    rw [rb97 _ t97, rb115 _ t115]
    exact EditV.ext hk.symm rfl t114.symm t110.symm t119.symm t116.symm t104.1.symm t104.2.symm rfl t99.symm t100.symm t117.symm
  · rw [hk]
    have hf : ∀ c, (formF e.op).contains c = (formF 6).contains c := fun c => by rw [hk]; rfl
    have t97 := st_used s97 (by rw [hf]; decide)
    have t114 := z114 (st_zero s114 (by rw [hf]; decide))
    have t110 := z110 (st_zero s110 (by rw [hf]; decide))
    have t119 := z119 (st_zero s119 (by rw [hf]; decide))
    have t116 := z116 (st_zero s116 (by rw [hf]; decide))
    have t104 := z104 (st_zero s104 (by rw [hf]; decide))
    have t115 := z115 (st_zero s115 (by rw [hf]; decide))
    have t99 := z99 (st_zero s99 (by rw [hf]; decide))
    have t100 := st_used s100 (by rw [hf]; decide)
    have t117 := z117 (st_zero s117 (by rw [hf]; decide))
    show (readF (readF { edit0 with op := ((6 : Nat) : Int) } 97 (writeF e 97)) 100 (writeF e 100)) = e
    rw [rb97 _ t97, rb100 _ t100]
    exact EditV.ext hk.symm rfl t114.symm t110.symm t119.symm t116.symm t104.1.symm t104.2.symm t115.symm t99.symm rfl t117.symm
  · rw [hk]
    have hf : ∀ c, (formF e.op).contains c = (formF 7).contains c := fun c => by rw [hk]; rfl
    have t97 := st_used s97 (by rw [hf]; decide)
    have t114 := z114 (st_zero s114 (by rw [hf]; decide))
    have t110 := z110 (st_zero s110 (by rw [hf]; decide))
    have t119 := z119 (st_zero s119 (by rw [hf]; decide))
    have t116 := z116 (st_zero s116 (by rw [hf]; decide))
    have t104 := z104 (st_zero s104 (by rw [hf]; decide))
    have t115 := z115 (st_zero s115 (by rw [hf]; decide))
    have t99 := st_used s99 (by rw [hf]; decide)
    have t100 := st_used s100 (by rw [hf]; decide)
    have t117 := st_used s117 (by rw [hf]; decide)
    show (readF (readF (readF (readF { edit0 with op := ((7 : Nat) : Int) } 97 (writeF e 97)) 99 (writeF e 99)) 100 (writeF e 100)) 117 (writeF e 117)) = e
    rw [rb97 _ t97, rb99 _ t99, rb100 _ t100, rb117 _ t117]
    exact EditV.ext hk.symm rfl t114.symm t110.symm t119.symm t116.symm t104.1.symm t104.2.symm t115.symm rfl rfl rfl
  · rw [hk]
    have hf : ∀ c, (formF e.op).contains c = (formF 8).contains c := fun c => by rw [hk]; rfl
    have t97 := st_used s97 (by rw [hf]; decide)
    have t114 := st_used s114 (by rw [hf]; decide)
    have t110 := st_used s110 (by rw [hf]; decide)
    have t119 := z119 (st_zero s119 (by rw [hf]; decide))
    have t116 := z116 (st_zero s116 (by rw [hf]; decide))
    have t104 := z104 (st_zero s104 (by rw [hf]; decide))
    have t115 := z115 (st_zero s115 (by rw [hf]; decide))
    have t99 := z99 (st_zero s99 (by rw [hf]; decide))
    have t100 := z100 (st_zero s100 (by rw [hf]; decide))
    have t117 := z117 (st_zero s117 (by rw [hf]; decide))
    show (readF (readF (readF { edit0 with op := ((8 : Nat) : Int) } 97 (writeF e 97)) 114 (writeF e 114)) 110 (writeF e 110)) = e
    rw [rb97 _ t97, rb114 _ t114, rb110 _ t110]
    exact EditV.ext hk.symm rfl rfl rfl t119.symm t116.symm t104.1.symm t104.2.symm t115.symm t99.symm t100.symm t117.symm
  · rw [hk]
    have hf : ∀ c, (formF e.op).contains c = (formF 9).contains c := fun c => by rw [hk]; rfl
    have t97 := z97 (st_zero s97 (by rw [hf]; decide))
    have t114 := z114 (st_zero s114 (by rw [hf]; decide))
    have t110 := st_used s110 (by rw [hf]; decide)
    have t119 := st_used s119 (by rw [hf]; decide)
    have t116 := st_used s116 (by rw [hf]; decide)
    have t104 := z104 (st_zero s104 (by rw [hf]; decide))
    have t115 := z115 (st_zero s115 (by rw [hf]; decide))
    have t99 := z99 (st_zero s99 (by rw [hf]; decide))
    have t100 := z100 (st_zero s100 (by rw [hf]; decide))
    have t117 := z117 (st_zero s117 (by rw [hf]; decide))
    show (readF (readF (readF { edit0 with op := ((9 : Nat) : Int) } 110 (writeF e 110)) 119 (writeF e 119)) 116 (writeF e 116)) = e
    rw [rb110 _ t110, rb119 _ rfl t119, rb116 _ rfl t116]
    exact EditV.ext hk.symm t97.symm t114.symm rfl rfl rfl t104.1.symm t104.2.symm t115.symm t99.symm t100.symm t117.symm
  · rw [hk]
    have hf : ∀ c, (formF e.op).contains c = (formF 10).contains c := fun c => by rw [hk]; rfl
    have t97 := z97 (st_zero s97 (by rw [hf]; decide))
    have t114 := z114 (st_zero s114 (by rw [hf]; decide))
    have t110 := st_used s110 (by rw [hf]; decide)
    have t119 := st_used s119 (by rw [hf]; decide)
    have t116 := st_used s116 (by rw [hf]; decide)
    have t104 := z104 (st_zero s104 (by rw [hf]; decide))
    have t115 := z115 (st_zero s115 (by rw [hf]; decide))
    have t99 := z99 (st_zero s99 (by rw [hf]; decide))
    have t100 := z100 (st_zero s100 (by rw [hf]; decide))
    have t117 := z117 (st_zero s117 (by rw [hf]; decide))
    show (readF (readF (readF { edit0 with op := ((10 : Nat) : Int) } 110 (writeF e 110)) 119 (writeF e 119)) 116 (writeF e 116)) = e
    rw [rb110 _ t110, rb119 _ rfl t119, rb116 _ rfl t116]
    exact EditV.ext hk.symm t97.symm t114.symm rfl rfl rfl t104.1.symm t104.2.symm t115.symm t99.symm t100.symm t117.symm
  · rw [hk]
    have hf : ∀ c, (formF e.op).contains c = (formF 11).contains c := fun c => by rw [hk]; rfl
    have t97 := z97 (st_zero s97 (by rw [hf]; decide))
    have t114 := z114 (st_zero s114 (by rw [hf]; decide))
    have t110 := st_used s110 (by rw [hf]; decide)
    have t119 := z119 (st_zero s119 (by rw [hf]; decide))
    have t116 := st_used s116 (by rw [hf]; decide)
    have t104 := z104 (st_zero s104 (by rw [hf]; decide))
    have t115 := z115 (st_zero s115 (by rw [hf]; decide))
    have t99 := z99 (st_zero s99 (by rw [hf]; decide))
    have t100 := z100 (st_zero s100 (by rw [hf]; decide))
    have t117 := z117 (st_zero s117 (by rw [hf]; decide))
    show (readF (readF { edit0 with op := ((11 : Nat) : Int) } 110 (writeF e 110)) 116 (writeF e 116)) = e
    rw [rb110 _ t110, rb116 _ rfl t116]
    exact EditV.ext hk.symm t97.symm t114.symm rfl t119.symm rfl t104.1.symm t104.2.symm t115.symm t99.symm t100.symm t117.symm
  · rw [hk]
    have hf : ∀ c, (formF e.op).contains c = (formF 12).contains c := fun c => by rw [hk]; rfl
    have t97 := st_used s97 (by rw [hf]; decide)
    have t114 := z114 (st_zero s114 (by rw [hf]; decide))
    have t110 := st_used s110 (by rw [hf]; decide)
    have t119 := z119 (st_zero s119 (by rw [hf]; decide))
    have t116 := z116 (st_zero s116 (by rw [hf]; decide))
    have t104 := z104 (st_zero s104 (by rw [hf]; decide))
    have t115 := z115 (st_zero s115 (by rw [hf]; decide))
    have t99 := z99 (st_zero s99 (by rw [hf]; decide))
    have t100 := z100 (st_zero s100 (by rw [hf]; decide))
    have t117 := z117 (st_zero s117 (by rw [hf]; decide))
    show (readF (readF { edit0 with op := ((12 : Nat) : Int) } 97 (writeF e 97)) 110 (writeF e 110)) = e
    rw [rb97 _ t97, rb110 _ t110]
    exact EditV.ext hk.symm rfl t114.symm rfl t119.symm t116.symm t104.1.symm t104.2.symm t115.symm t99.symm t100.symm t117.symm
end Go.Proofs.YtcgmemkkcaipfaaGreatDoor
namespace Go.Proofs.YtcgmemkkcaipfaaGreatDoor
open Go.RowKit
set_option linter.unusedVariables false
set_option linter.unusedSimpArgs false
theorem formW_inj : ∀ i j : Fin 13, formW (i.val : Int) = formW (j.val : Int) → i = j := by decide
theorem formW_eq {a b : Nat} (ha : a ≤ 12) (hb : b ≤ 12) (h : formW (a : Int) = formW (b : Int)) : a = b := by
  have := formW_inj ⟨a, by omega⟩ ⟨b, by omega⟩ h
  exact congrArg Fin.val this
theorem formF_len {e : EditV} (h : editCheck e = 0) : (formF e.op).length = (splitC 32 (editText e)).length - 1 := by
  rw [text_words h]; simp
theorem try_own {e : EditV} (h : editCheck e = 0) : tryOp (editText e) (splitC 32 (editText e)) e.op = some e := by
  obtain ⟨ho, hs⟩ := edit_ok h
  have hw := text_words h
  unfold tryOp
  rw [hw]
  simp only [List.headD_cons, List.length_cons, List.length_map, List.tail_cons]
  rw [if_neg (by simp; omega), edit_back h]
  exact if_pos rfl
theorem try_other {s : List UInt8} {ws : List (List UInt8)} {k : Int} (h : formW k ≠ ws.headD []) : tryOp s ws k = none := by
  unfold tryOp; rw [if_pos (.inr (.inl h))]
theorem parse_from {e : EditV} (h : editCheck e = 0) : ∀ (n k : Nat), (k : Int) ≤ e.op → e.op < k + n → parseFrom (editText e) (splitC 32 (editText e)) k n = (e, 0)
  | 0, k, h1, h2 => by omega
  | n + 1, k, h1, h2 => by
      obtain ⟨ho, hs⟩ := edit_ok h
      unfold parseFrom
      by_cases hk : (k : Int) = e.op
      · rw [hk, try_own h]
      · have hne : formW (k : Int) ≠ (splitC 32 (editText e)).headD [] := by
          rw [text_words h, List.headD_cons]
          intro hq
          have e1 : e.op = (e.op.toNat : Int) := by omega
          rw [e1] at hq
          have := formW_eq (by omega) (by omega) hq
          omega
        rw [try_other hne]
        exact parse_from h n (k + 1) (by omega) (by omega)
/-- Parse gives a valid edit back. -/
theorem editParse_ok {e : EditV} (h : editCheck e = 0) : editParse (editText e) = (e, 0) := by
  obtain ⟨ho, hs⟩ := edit_ok h
  exact parse_from h 13 0 (by omega) (by omega)
theorem try_some {s : List UInt8} {k : Nat} {e : EditV} (hk : k ≤ 12) (h : tryOp s (splitC 32 s) k = some e) : editCheck e = 0 ∧ editText e = s := by
  unfold tryOp at h
  split at h
  · cases h
  · rename_i h1
    simp only [not_or, Decidable.not_not] at h1
    obtain ⟨h0, hw, hl⟩ := h1
    unfold okP at h
    split at h
    · rename_i h2
      have h3 := Option.some.inj h
      rw [h3] at h2
      refine ⟨text_valid (fun hn => ?_), h2⟩
      rw [hn] at h2
      rw [← h2] at hw
      have := (formW_no (op := (k : Int)) (by omega)).2
      exact this hw
    · cases h
theorem parseFrom_cases (s : List UInt8) : ∀ (n k : Nat), k + n ≤ 13 → (parseFrom s (splitC 32 s) k n = (edit0, 4) ∨ ∃ e, editCheck e = 0 ∧ editText e = s ∧ parseFrom s (splitC 32 s) k n = (e, 0))
  | 0, k, h => .inl rfl
  | n + 1, k, h => by
      unfold parseFrom
      cases ht : tryOp s (splitC 32 s) k with
      | none => exact parseFrom_cases s n (k + 1) (by omega)
      | some e =>
        obtain ⟨h1, h2⟩ := try_some (by omega) ht
        exact .inr ⟨e, h1, h2, rfl⟩
theorem editParse_cases (s : List UInt8) : editParse s = (edit0, 4) ∨ ∃ e, editCheck e = 0 ∧ editText e = s ∧ editParse s = (e, 0) := parseFrom_cases s 13 0 (by omega)
/-! The reference's reading. -/
theorem small_itoa {n : Int} (h0 : 0 ≤ n) (h : n ≤ 1000) : smallS (Lib.itoa n) = n := by
  obtain ⟨u, rfl⟩ : ∃ u : Nat, n = u := ⟨n.toNat, by omega⟩
  rw [Lib.itoa_nonneg]
  have h1 : (Lib.decDigits u).length ≤ 4 := dec_len (by decide) (by omega)
  unfold smallS
  rw [if_pos ⟨h1, dec_all u⟩, val_dec]
theorem rb_win {e : EditV} (h : checkF e 104 = 0) : rparseWinS (winT e.lo e.hi).1 = ((e.lo, e.hi), 0) := by
  rw [winT_in (win_okE h)]
  have h1 := parseWin_winS (win_okE h)
  obtain ⟨a, b⟩ := rwin_same (winS e.lo e.hi)
  have h2 : (rparseWinS (winS e.lo e.hi)).2 = 0 := a.2 (by rw [h1])
  have h3 := b h2
  rw [h1] at h3
  exact Prod.ext h3 h2
theorem rrb {e : EditV} (x : EditV) {c : UInt8} (hc : c ∈ edOrder) (h : checkF e c = 0) (hr : c = 119 → x.rway = []) (ht : c = 116 → x.trans = []) : rreadF x c (writeF e c) = readF x c (writeF e c) := by
  simp only [edOrder, List.mem_cons, List.not_mem_nil, or_false] at hc
  rcases hc with rfl | rfl | rfl | rfl | rfl | rfl | rfl | rfl | rfl | rfl
  · rw [rb97 x h]
    have := betE (show betweenS e.at_ 0 60 = 0 from h)
    show { x with at_ := smallS (Lib.itoa e.at_) } = _
    rw [small_itoa (by omega) (by omega)]
  · rfl
  · rfl
  · rw [rb119 x (hr rfl) h]
    show { x with rway := undashB (dashB e.rway) } = _
    rw [undash_dash (opt_no (c := 45) (numE0 (show namedS (e.rway.isEmpty || nameB e.rway 6) = 0 from h)) (by decide))]
  · rw [rb116 x (ht rfl) h]
    show { x with trans := undashB (dashB e.trans) } = _
    rw [undash_dash (opt_no (c := 45) (numE0 (show namedS (e.trans.isEmpty || nameB e.trans 8) = 0 from h)) (by decide))]
  · rw [rb104 x h]
    show { x with lo := (rparseWinS (winT e.lo e.hi).1).1.1, hi := (rparseWinS (winT e.lo e.hi).1).1.2 } = _
    rw [rb_win h]
  · rw [rb115 x h]
    have := betE (show betweenS e.speed 0 1000 = 0 from h)
    show { x with speed := smallS (Lib.itoa e.speed) } = _
    rw [small_itoa (by omega) (by omega)]
  · rfl
  · rfl
  · rw [rb117 x h]
    show { x with turn := if (if e.turn = 1 then [76] else [82] : List UInt8) = [82] then 2 else 1 } = _
    rcases turn_okE h with h1 | h1 <;> rw [h1] <;> rfl
/-- The words behind a text's first one. -/
theorem cut_tail (e : EditV) (fs : List UInt8) (w : List UInt8) (hw : (32 : UInt8) ∉ w) : head32 (w ++ tailT e fs) = w ∧ tail32 (w ++ tailT e fs) = (tailT e fs).tail := by
  unfold head32 tail32
  cases fs with
  | nil => simp only [tailT, List.append_nil, cutAt_not hw, List.tail_nil, and_self]
  | cons c r =>
    show (cutAt 32 (w ++ 32 :: (writeF e c ++ tailT e r))).1 = w ∧ (cutAt 32 (w ++ 32 :: (writeF e c ++ tailT e r))).2.1 = (32 :: (writeF e c ++ tailT e r)).tail
    rw [cutAt_app 32 _ _ hw]
    exact ⟨rfl, rfl⟩
theorem rreadGo_cons {e : EditV} (x : EditV) (c : UInt8) (fs : List UInt8) (hc : c ∈ edOrder) (h : checkF e c = 0) : rreadGo x (c :: fs) (tailT e (c :: fs)).tail = rreadGo (rreadF x c (writeF e c)) fs (tailT e fs).tail := by
  obtain ⟨h1, h2⟩ := cut_tail e fs (writeF e c) (write_no hc h)
  show rreadGo (rreadF x c (head32 (writeF e c ++ tailT e fs))) fs (tail32 (writeF e c ++ tailT e fs)) = _
  rw [h1, h2]
/-- The reference's reading of a valid edit's words. -/
theorem redit_back {e : EditV} (h : editCheck e = 0) : rreadGo { edit0 with op := e.op } (formF e.op) (tailT e (formF e.op)).tail = e := by
  have hb := edit_back h
  obtain ⟨ho, hs⟩ := edit_ok h
  have hu := used_check h
  obtain ⟨k, hk⟩ : ∃ k : Nat, e.op = k := ⟨e.op.toNat, by omega⟩
  have hk12 : k = 1 ∨ k = 2 ∨ k = 3 ∨ k = 4 ∨ k = 5 ∨ k = 6 ∨ k = 7 ∨ k = 8 ∨ k = 9 ∨ k = 10 ∨ k = 11 ∨ k = 12 := by omega
  clear ho hs
  rcases hk12 with rfl | rfl | rfl | rfl | rfl | rfl | rfl | rfl | rfl | rfl | rfl | rfl
  · rw [hk] at hb hu ⊢
    have hf : formF ((1 : Nat) : Int) = [97, 114] := rfl
    rw [hf] at hb hu ⊢
    have t97 := hu 97 (by decide)
    have t114 := hu 114 (by decide)
    rw [rreadGo_cons _ 97 _ (by decide) t97, rreadGo_cons _ 114 _ (by decide) t114]
    have q0 := rrb (e := e) { edit0 with op := ((1 : Nat) : Int) } (c := 97) (by decide) t97 (fun h => absurd h (by decide)) (fun h => absurd h (by decide))
    have q1 := rrb (e := e) (readF { edit0 with op := ((1 : Nat) : Int) } 97 (writeF e 97)) (c := 114) (by decide) t114 (fun h => absurd h (by decide)) (fun h => absurd h (by decide))
    rw [q0, q1]
    exact hb
  · rw [hk] at hb hu ⊢
    have hf : formF ((2 : Nat) : Int) = [97] := rfl
    rw [hf] at hb hu ⊢
    have t97 := hu 97 (by decide)
    rw [rreadGo_cons _ 97 _ (by decide) t97]
    have q0 := rrb (e := e) { edit0 with op := ((2 : Nat) : Int) } (c := 97) (by decide) t97 (fun h => absurd h (by decide)) (fun h => absurd h (by decide))
    rw [q0]
    exact hb
  · rw [hk] at hb hu ⊢
    have hf : formF ((3 : Nat) : Int) = [97] := rfl
    rw [hf] at hb hu ⊢
    have t97 := hu 97 (by decide)
    rw [rreadGo_cons _ 97 _ (by decide) t97]
    have q0 := rrb (e := e) { edit0 with op := ((3 : Nat) : Int) } (c := 97) (by decide) t97 (fun h => absurd h (by decide)) (fun h => absurd h (by decide))
    rw [q0]
    exact hb
  · rw [hk] at hb hu ⊢
    have hf : formF ((4 : Nat) : Int) = [97, 104] := rfl
    rw [hf] at hb hu ⊢
    have t97 := hu 97 (by decide)
    have t104 := hu 104 (by decide)
    rw [rreadGo_cons _ 97 _ (by decide) t97, rreadGo_cons _ 104 _ (by decide) t104]
    have q0 := rrb (e := e) { edit0 with op := ((4 : Nat) : Int) } (c := 97) (by decide) t97 (fun h => absurd h (by decide)) (fun h => absurd h (by decide))
    have q1 := rrb (e := e) (readF { edit0 with op := ((4 : Nat) : Int) } 97 (writeF e 97)) (c := 104) (by decide) t104 (fun h => absurd h (by decide)) (fun h => absurd h (by decide))
    rw [q0, q1]
    exact hb
  · rw [hk] at hb hu ⊢
    have hf : formF ((5 : Nat) : Int) = [97, 115] := rfl
    rw [hf] at hb hu ⊢
    have t97 := hu 97 (by decide)
    have t115 := hu 115 (by decide)
    rw [rreadGo_cons _ 97 _ (by decide) t97, rreadGo_cons _ 115 _ (by decide) t115]
    have q0 := rrb (e := e) { edit0 with op := ((5 : Nat) : Int) } (c := 97) (by decide) t97 (fun h => absurd h (by decide)) (fun h => absurd h (by decide))
    have q1 := rrb (e := e) (readF { edit0 with op := ((5 : Nat) : Int) } 97 (writeF e 97)) (c := 115) (by decide) t115 (fun h => absurd h (by decide)) (fun h => absurd h (by decide))
    rw [q0, q1]
    exact hb
  · rw [hk] at hb hu ⊢
    have hf : formF ((6 : Nat) : Int) = [97, 100] := rfl
    rw [hf] at hb hu ⊢
    have t97 := hu 97 (by decide)
    have t100 := hu 100 (by decide)
    rw [rreadGo_cons _ 97 _ (by decide) t97, rreadGo_cons _ 100 _ (by decide) t100]
    have q0 := rrb (e := e) { edit0 with op := ((6 : Nat) : Int) } (c := 97) (by decide) t97 (fun h => absurd h (by decide)) (fun h => absurd h (by decide))
    have q1 := rrb (e := e) (readF { edit0 with op := ((6 : Nat) : Int) } 97 (writeF e 97)) (c := 100) (by decide) t100 (fun h => absurd h (by decide)) (fun h => absurd h (by decide))
    rw [q0, q1]
    exact hb
  · rw [hk] at hb hu ⊢
    have hf : formF ((7 : Nat) : Int) = [97, 99, 100, 117] := rfl
    rw [hf] at hb hu ⊢
    have t97 := hu 97 (by decide)
    have t99 := hu 99 (by decide)
    have t100 := hu 100 (by decide)
    have t117 := hu 117 (by decide)
    rw [rreadGo_cons _ 97 _ (by decide) t97, rreadGo_cons _ 99 _ (by decide) t99, rreadGo_cons _ 100 _ (by decide) t100, rreadGo_cons _ 117 _ (by decide) t117]
    have q0 := rrb (e := e) { edit0 with op := ((7 : Nat) : Int) } (c := 97) (by decide) t97 (fun h => absurd h (by decide)) (fun h => absurd h (by decide))
    have q1 := rrb (e := e) (readF { edit0 with op := ((7 : Nat) : Int) } 97 (writeF e 97)) (c := 99) (by decide) t99 (fun h => absurd h (by decide)) (fun h => absurd h (by decide))
    have q2 := rrb (e := e) (readF (readF { edit0 with op := ((7 : Nat) : Int) } 97 (writeF e 97)) 99 (writeF e 99)) (c := 100) (by decide) t100 (fun h => absurd h (by decide)) (fun h => absurd h (by decide))
    have q3 := rrb (e := e) (readF (readF (readF { edit0 with op := ((7 : Nat) : Int) } 97 (writeF e 97)) 99 (writeF e 99)) 100 (writeF e 100)) (c := 117) (by decide) t117 (fun h => absurd h (by decide)) (fun h => absurd h (by decide))
    rw [q0, q1, q2, q3]
    exact hb
  · rw [hk] at hb hu ⊢
    have hf : formF ((8 : Nat) : Int) = [97, 114, 110] := rfl
    rw [hf] at hb hu ⊢
    have t97 := hu 97 (by decide)
    have t114 := hu 114 (by decide)
    have t110 := hu 110 (by decide)
    rw [rreadGo_cons _ 97 _ (by decide) t97, rreadGo_cons _ 114 _ (by decide) t114, rreadGo_cons _ 110 _ (by decide) t110]
    have q0 := rrb (e := e) { edit0 with op := ((8 : Nat) : Int) } (c := 97) (by decide) t97 (fun h => absurd h (by decide)) (fun h => absurd h (by decide))
    have q1 := rrb (e := e) (readF { edit0 with op := ((8 : Nat) : Int) } 97 (writeF e 97)) (c := 114) (by decide) t114 (fun h => absurd h (by decide)) (fun h => absurd h (by decide))
    have q2 := rrb (e := e) (readF (readF { edit0 with op := ((8 : Nat) : Int) } 97 (writeF e 97)) 114 (writeF e 114)) (c := 110) (by decide) t110 (fun h => absurd h (by decide)) (fun h => absurd h (by decide))
    rw [q0, q1, q2]
    exact hb
  · rw [hk] at hb hu ⊢
    have hf : formF ((9 : Nat) : Int) = [110, 119, 116] := rfl
    rw [hf] at hb hu ⊢
    have t110 := hu 110 (by decide)
    have t119 := hu 119 (by decide)
    have t116 := hu 116 (by decide)
    rw [rreadGo_cons _ 110 _ (by decide) t110, rreadGo_cons _ 119 _ (by decide) t119, rreadGo_cons _ 116 _ (by decide) t116]
    have q0 := rrb (e := e) { edit0 with op := ((9 : Nat) : Int) } (c := 110) (by decide) t110 (fun h => absurd h (by decide)) (fun h => absurd h (by decide))
    have q1 := rrb (e := e) (readF { edit0 with op := ((9 : Nat) : Int) } 110 (writeF e 110)) (c := 119) (by decide) t119 (fun _ => rfl) (fun h => absurd h (by decide))
    have q2 := rrb (e := e) (readF (readF { edit0 with op := ((9 : Nat) : Int) } 110 (writeF e 110)) 119 (writeF e 119)) (c := 116) (by decide) t116 (fun h => absurd h (by decide)) (fun _ => by rw [rb119 _ rfl t119]; rfl)
    rw [q0, q1, q2]
    exact hb
  · rw [hk] at hb hu ⊢
    have hf : formF ((10 : Nat) : Int) = [110, 119, 116] := rfl
    rw [hf] at hb hu ⊢
    have t110 := hu 110 (by decide)
    have t119 := hu 119 (by decide)
    have t116 := hu 116 (by decide)
    rw [rreadGo_cons _ 110 _ (by decide) t110, rreadGo_cons _ 119 _ (by decide) t119, rreadGo_cons _ 116 _ (by decide) t116]
    have q0 := rrb (e := e) { edit0 with op := ((10 : Nat) : Int) } (c := 110) (by decide) t110 (fun h => absurd h (by decide)) (fun h => absurd h (by decide))
    have q1 := rrb (e := e) (readF { edit0 with op := ((10 : Nat) : Int) } 110 (writeF e 110)) (c := 119) (by decide) t119 (fun _ => rfl) (fun h => absurd h (by decide))
    have q2 := rrb (e := e) (readF (readF { edit0 with op := ((10 : Nat) : Int) } 110 (writeF e 110)) 119 (writeF e 119)) (c := 116) (by decide) t116 (fun h => absurd h (by decide)) (fun _ => by rw [rb119 _ rfl t119]; rfl)
    rw [q0, q1, q2]
    exact hb
  · rw [hk] at hb hu ⊢
    have hf : formF ((11 : Nat) : Int) = [110, 116] := rfl
    rw [hf] at hb hu ⊢
    have t110 := hu 110 (by decide)
    have t116 := hu 116 (by decide)
    rw [rreadGo_cons _ 110 _ (by decide) t110, rreadGo_cons _ 116 _ (by decide) t116]
    have q0 := rrb (e := e) { edit0 with op := ((11 : Nat) : Int) } (c := 110) (by decide) t110 (fun h => absurd h (by decide)) (fun h => absurd h (by decide))
    have q1 := rrb (e := e) (readF { edit0 with op := ((11 : Nat) : Int) } 110 (writeF e 110)) (c := 116) (by decide) t116 (fun h => absurd h (by decide)) (fun _ => rfl)
    rw [q0, q1]
    exact hb
  · rw [hk] at hb hu ⊢
    have hf : formF ((12 : Nat) : Int) = [97, 110] := rfl
    rw [hf] at hb hu ⊢
    have t97 := hu 97 (by decide)
    have t110 := hu 110 (by decide)
    rw [rreadGo_cons _ 97 _ (by decide) t97, rreadGo_cons _ 110 _ (by decide) t110]
    have q0 := rrb (e := e) { edit0 with op := ((12 : Nat) : Int) } (c := 97) (by decide) t97 (fun h => absurd h (by decide)) (fun h => absurd h (by decide))
    have q1 := rrb (e := e) (readF { edit0 with op := ((12 : Nat) : Int) } 97 (writeF e 97)) (c := 110) (by decide) t110 (fun h => absurd h (by decide)) (fun h => absurd h (by decide))
    rw [q0, q1]
    exact hb
theorem opOf_word {op : Int} (h : 1 ≤ op ∧ op ≤ 12) : opOf (formW op) = op := by
  obtain ⟨k, rfl⟩ : ∃ k : Nat, op = k := ⟨op.toNat, by omega⟩
  have : k = 1 ∨ k = 2 ∨ k = 3 ∨ k = 4 ∨ k = 5 ∨ k = 6 ∨ k = 7 ∨ k = 8 ∨ k = 9 ∨ k = 10 ∨ k = 11 ∨ k = 12 := by omega
  rcases this with rfl | rfl | rfl | rfl | rfl | rfl | rfl | rfl | rfl | rfl | rfl | rfl <;> decide
theorem reditParse_ok {e : EditV} (h : editCheck e = 0) : reditParse (editText e) = (e, 0) := by
  obtain ⟨ho, hs⟩ := edit_ok h
  have ht := text_of h
  obtain ⟨h1, h2⟩ := cut_tail e (formF e.op) (formW e.op) (formW_no ho).1
  have hne := text_ne h
  unfold reditParse
  rw [← ht] at h1 h2
  rw [h1, h2, opOf_word ho, redit_back h]
  unfold okR
  rw [if_neg (by simp [hne])]
/-- Both readings are one. -/
theorem edit_parse_same (s : List UInt8) : reditParse s = editParse s := by
  rcases editParse_cases s with h | ⟨e, h1, h2, h3⟩
  · rw [h]
    unfold reditParse okR
    split
    · rfl
    · rename_i hn
      simp only [not_or, ne_eq, Decidable.not_not] at hn
      have hv := text_valid hn.1
      have := editParse_ok hv
      rw [hn.2, h] at this
      have h4 : (4 : Int) = 0 := congrArg Prod.snd this
      exact absurd h4 (by decide)
  · rw [h3, ← h2]
    exact reditParse_ok h1
end Go.Proofs.YtcgmemkkcaipfaaGreatDoor
namespace Go.Proofs.YtcgmemkkcaipfaaGreatDoor
open Go.RowKit
set_option linter.unusedVariables false
set_option linter.unusedSimpArgs false
/-- Two entries join and are joined alike. -/
structure LikeE (x y : Entry) : Prop where
  gap : y.gap = x.gap
  ty : y.leg.ty = x.leg.ty
  fix : y.leg.fix = x.leg.fix
  same : x.gap = true → y = x
inductive LikeL : List Entry → List Entry → Prop
  | nil : LikeL [] []
  | cons {x y : Entry} {r s : List Entry} : LikeE x y → LikeL r s → LikeL (x :: r) (y :: s)
theorem LikeE.refl (x : Entry) : LikeE x x := ⟨rfl, rfl, rfl, fun _ => rfl⟩
theorem LikeL.refl : ∀ l : List Entry, LikeL l l
  | [] => .nil
  | x :: r => .cons (.refl x) (LikeL.refl r)
theorem LikeL.split : ∀ {p q m : List Entry}, LikeL (p ++ q) m → ∃ p' q', m = p' ++ q' ∧ LikeL p p' ∧ LikeL q q'
  | [], q, m, h => ⟨[], m, rfl, .nil, h⟩
  | x :: p, q, m, h => by
    cases h with
    | cons h1 h2 =>
      obtain ⟨p', q', rfl, a, b⟩ := LikeL.split h2
      exact ⟨_ :: p', q', rfl, .cons h1 a, b⟩
theorem LikeL.last {p p' : List Entry} (h : LikeL p p') : ∀ {y : Entry}, p.getLast? = some y → ∃ y', p'.getLast? = some y' ∧ LikeE y y' := by
  induction h with
  | nil => intro y hy; simp at hy
  | @cons a b r s h1 h2 ih =>
    intro y hy
    cases h2 with
    | nil => obtain rfl : a = y := by simpa using hy
             exact ⟨b, rfl, h1⟩
    | cons h3 h4 =>
      rw [List.getLast?_cons_cons] at hy
      obtain ⟨y', e, l⟩ := ih hy
      exact ⟨y', by rw [List.getLast?_cons_cons]; exact e, l⟩
theorem LikeE.joins {a a' b b' : Entry} (h : LikeE a a') (k : LikeE b b') : a'.leg.joinsB b'.leg = a.leg.joinsB b.leg := by simp [Leg.joinsB, h.ty, h.fix, k.ty, k.fix]
theorem LikeE.dup {a a' b b' : Entry} (h : LikeE a a') (k : LikeE b b') : a'.leg.dupB b'.leg = a.leg.dupB b.leg := by simp [Leg.dupB, Leg.arrivedB, h.ty, h.fix, k.ty, k.fix]
theorem ChainR.like {m : List Entry} (h : ChainR m) : ∀ {m' : List Entry}, LikeL m m' → ChainR m' := by
  induction h with
  | nil => intro m' hm; cases hm; exact .nil
  | first x hg hs =>
    intro m' hm
    cases hm with
    | cons h1 h2 => cases h2; exact .first _ (by rw [h1.gap, hg]) (by rw [h1.ty]; exact hs)
  | join p y x hp hy hg hj hd ih =>
    intro m' hm
    obtain ⟨p', q', rfl, a, b⟩ := hm.split
    cases b with
    | cons h1 h2 =>
      cases h2
      obtain ⟨y', hy', ly⟩ := a.last hy
      exact .join _ y' _ (ih a) hy' (by rw [h1.gap, hg]) (by rw [ly.joins h1]; exact hj) (by rw [ly.dup h1]; exact hd)
  | gap p x hp hne hg hs ih =>
    intro m' hm
    obtain ⟨p', q', rfl, a, b⟩ := hm.split
    cases b with
    | cons h1 h2 =>
      cases h2 with
      | cons h3 h4 =>
        cases h4
        obtain rfl := h1.same rfl
        refine .gap _ _ (ih a) ?_ (by rw [h3.gap, hg]) (by rw [h3.ty]; exact hs)
        rintro rfl
        cases a
        exact hne rfl
theorem LikeL.set : ∀ {l : List Entry} {k : Nat} {x y : Entry}, l[k]? = some x → LikeE x y → LikeL l (l.set k y)
  | [], _, _, _, h, _ => by simp at h
  | a :: l, 0, x, y, h, k => by
    obtain rfl : a = x := by simpa using h
    exact .cons k (.refl l)
  | a :: l, n + 1, x, y, h, k => .cons (.refl a) (LikeL.set (by simpa using h) k)
theorem setLeg_like (e : EditV) (x : Entry) (hg : x.gap = false) : LikeE x (setLeg e x) := by
  unfold setLeg
  split
  · exact ⟨rfl, rfl, rfl, fun h => by rw [hg] at h; cases h⟩
  · split
    · exact ⟨rfl, rfl, rfl, fun h => by rw [hg] at h; cases h⟩
    · exact ⟨rfl, rfl, rfl, fun h => by rw [hg] at h; cases h⟩
theorem planChk_ok {p : Plan} (h : planCheck p = 0) : checkGo none 0 p.es = 0 ∧ p.es.length ≤ 60 ∧ -1 ≤ p.active ∧ p.active < p.es.length := by
  unfold planCheck at h
  split at h
  · simp at h
  · split at h
    · simp at h
    · obtain ⟨h1, h2⟩ := orE_zeroJ h
      refine ⟨h1, by omega, ?_⟩
      unfold activeE at h2
      split at h2
      · omega
      · split at h2
        · simp at h2
        · omega
theorem applyS_ok {L : Look} {p : Plan} {e : EditV} (h : (applyS L p e).2 = 0) : planCheck p = 0 ∧ editCheck e = 0 ∧ (runS L p e).err = 0 ∧ (applyS L p e).1 = ⟨(runS L p e).from_, (runS L p e).to_, joinE (runS L p e).list, (runS L p e).active⟩ := by
  unfold applyS at h ⊢
  by_cases h1 : planCheck p = 0
  · by_cases h2 : editCheck e = 0
    · by_cases h3 : (runS L p e).err = 0
      · refine ⟨h1, h2, h3, ?_⟩
        simp only [h1, h2, h3, ne_eq, not_true_eq_false, if_false] at h ⊢
        split at h
        · rename_i h4; exact absurd h h4
        · rename_i h4; rw [if_neg h4]
      · simp [h1, h2, h3] at h
    · simp [h1, h2] at h
  · simp [h1] at h
theorem entAt_get {p : Plan} {k : Nat} (h : k < p.es.length) : p.es[k]? = some (entAt p k) := by
  unfold entAt
  rw [List.getD_eq_getElem?_getD, List.getElem?_eq_getElem h]; rfl
theorem edit_at {e : EditV} (h : editCheck e = 0) : 0 ≤ e.at_ ∧ e.at_ ≤ 60 := by
  have h1 := (edit_ok h).2 97 (by decide)
  cases hu : (formF e.op).contains 97 with
  | true => exact betE (st_used h1 hu)
  | false => have := z97 (st_zero h1 hu); omega
theorem formF_at {op : Int} (h : op = 3 ∨ op = 4 ∨ op = 5 ∨ op = 6) : (formF op).contains 97 = true := by
  rcases h with rfl | rfl | rfl | rfl <;> decide
/-- A field set: the plan that comes of it. -/
theorem sets_law {L : Look} {p : Plan} {e : EditV} (h : (applyS L p e).2 = 0) (ho : e.op = 4 ∨ e.op = 5 ∨ e.op = 6) :
    (applyS L p e).1 = ⟨p.from_, p.to_, p.es.set e.at_.toNat (setLeg e (entAt p e.at_.toNat)), p.active⟩ := by
  obtain ⟨hp, he, hr, hq⟩ := applyS_ok h
  obtain ⟨hv, hl, ha0, ha1⟩ := planChk_ok hp
  obtain ⟨t0, _⟩ := edit_at he
  have hf := formF_at (Or.inr ho)
  have hrun : runS L p e = setS p e ∧ e.at_ < p.es.length := by
    unfold runS at hr ⊢
    by_cases hc : (formF e.op).contains 97 ∧ ((p.es.length : Int) < e.at_ ∨ e.at_ = p.es.length ∧ e.op ≠ 1)
    · rw [if_pos hc] at hr; simp [EdR.bad] at hr
    · rw [if_neg hc]
      have n1 : e.op ≠ 1 := by omega
      have n2 : e.op ≠ 2 := by omega
      have n3 : e.op ≠ 3 := by omega
      rw [if_neg n1, if_neg n2, if_neg n3, if_pos ho]
      refine ⟨rfl, ?_⟩
      rcases Int.lt_trichotomy e.at_ p.es.length with h | h | h
      · exact h
      · exact absurd ⟨hf, .inr ⟨h, n1⟩⟩ hc
      · exact absurd ⟨hf, .inl h⟩ hc
  obtain ⟨hrun, hlt⟩ := hrun
  rw [hrun] at hq hr
  unfold setS at hq hr
  by_cases h1 : e.at_ < p.active
  · rw [if_pos h1] at hr; simp [EdR.bad] at hr
  · rw [if_neg h1] at hq hr
    cases hg : (entAt p e.at_.toNat).gap with
    | true => rw [hg] at hr; simp [EdR.bad] at hr
    | false =>
      rw [hg] at hq
      simp only [Bool.false_eq_true, if_false, keepR] at hq
      rw [hq]
      have hget := entAt_get (p := p) (k := e.at_.toNat) (by omega)
      have hc := (check_chain p.es [] 0 .nil (by simpa using hv))
      have := (ChainR.like hc (LikeL.set hget (setLeg_like e _ hg))).again
      rw [List.nil_append] at this
      rw [this]
/-- The rest of a valid list behind an entry that is no gap. -/
theorem check_drop : ∀ (l : List Entry) (k : Nat) (prev : Option Entry) (s : Int) (x : Entry), checkGo prev s l = 0 → l[k]? = some x → ∃ prev' s', checkGo prev' s' (x :: l.drop (k + 1)) = 0
  | [], k, _, _, x, _, h => by simp at h
  | a :: l, 0, prev, s, x, hc, h => by
    obtain rfl : a = x := by simpa using h
    exact ⟨prev, s, hc⟩
  | a :: l, k + 1, prev, s, x, hc, h => by
    rw [checkGo] at hc
    have := (orE_zeroJ hc).2
    obtain ⟨q, t, ht⟩ := check_drop l k _ _ x this (by simpa using h)
    exact ⟨q, t, by simpa using ht⟩
theorem check_alone {prev : Option Entry} {s : Int} {x : Entry} {r : List Entry} (h : checkGo prev s (x :: r) = 0) (hg : x.gap = false) : aloneE x = 0 ∧ checkGo (some x) x.sec r = 0 := by
  rw [checkGo] at h
  obtain ⟨h1, h2⟩ := orE_zeroJ h
  simp only [stepE, hg, Bool.false_eq_true, if_false] at h1 h2
  exact ⟨(orE_zeroJ h1).1, h2⟩
theorem alone_known {x : Entry} (h : aloneE x = 0) : knownB x.leg.ty = true := by
  have h1 := (orE_zeroJ h).1
  unfold legCheck at h1
  split at h1
  · assumption
  · simp at h1
/-- What stands behind a leg to the fix x of a valid list keeps its form behind the leg D to the same fix. -/
theorem direct_chain {D x z : Entry} {r : List Entry} {s : Int} (hD : D.gap = false) (hty : D.leg.ty = 4) (hfix : D.leg.fix = x.leg.fix) (hx : x.gap = false) (he : endsB x.leg.ty = true)
    (h : checkGo (some x) s (z :: r) = 0) (hz : z.gap = false) : joinE (D :: z :: r) = D :: z :: r := by
  have hs : startsB D.leg.ty = true := by rw [hty]; decide
  have h1 := ChainR.first D hD hs
  rw [checkGo] at h
  obtain ⟨ha, hr⟩ := orE_zeroJ h
  simp only [hz, Bool.false_eq_true, if_false] at hr
  unfold stepE at ha
  rw [hz] at ha
  simp only [Bool.false_eq_true, if_false] at ha
  obtain ⟨hal, ha⟩ := orE_zeroJ ha
  obtain ⟨ho, _⟩ := orE_zeroJ ha
  obtain ⟨hj, hd⟩ := orderE_some hx ho
  have hk := alone_known hal
  have j1 : D.leg.joinsB z.leg = true := by
    simp only [Leg.joinsB, Bool.and_eq_true] at hj ⊢
    refine ⟨?_, by rw [hfix]; exact hj.2⟩
    have hb : (z.leg.ty != 1) = true := by
      have h2 := hj.1
      simp only [followsB, Bool.and_eq_true] at h2
      exact h2.1.2
    rw [hty]
    simp only [followsB, Bool.and_eq_true]
    exact ⟨⟨⟨by decide, hk⟩, hb⟩, by simp⟩
  have d1 : D.leg.dupB z.leg = false := by
    simp only [Leg.dupB, Leg.arrivedB, he, Bool.true_and] at hd
    simp only [Leg.dupB, Leg.arrivedB, hty, hfix, show endsB 4 = true by decide, Bool.true_and]
    exact hd
  have h2 := ChainR.join [D] D z h1 rfl hz j1 d1
  have h3 := check_chain r [D, z] _ h2 (by simpa using hr)
  exact h3.again
theorem joinGo_pre (out : List Entry) (pb : Bool) (r : List Entry) : ∃ n, joinGo out pb r = out ++ n := by
  obtain ⟨n, h, _⟩ := joinGo_emb r out pb
  exact ⟨n, h⟩
theorem joinE_head {D : Entry} {r : List Entry} (hD : D.gap = false) (hs : startsB D.leg.ty = true) : ∃ n, joinE (D :: r) = D :: n := by
  unfold joinE
  rw [joinGo]
  have : joinStep [] false D = ([D], false) := by simp [joinStep, hD, joinNew, startOf_starts hs]
  rw [this]
  exact joinGo_pre [D] false r
def editTo (i : Int) : EditV := ⟨3, i, [], [], [], [], 0, 0, 0, 0, 0, 0⟩
/-- A direct-to: the plan begins with a leg to the fix of its entry, and what stood behind it stands behind it. -/
theorem direct_law {L : Look} {p : Plan} {i : Nat} (h : (applyS L p (editTo i)).2 = 0) :
    i < p.es.length ∧ (applyS L p (editTo i)).1.es.length ≤ 1000000 ∧ ∃ D m, (applyS L p (editTo i)).1.es = D :: m ∧ D.leg.fix = (entAt p i).leg.fix ∧ D.ex = (entAt p i).ex ∧ D.ey = (entAt p i).ey ∧
      ∀ z r, p.es.drop (if 14 ≤ (entAt p i).leg.ty then i else i + 1) = z :: r → z.gap = false → m = z :: r := by
  obtain ⟨hp, he, hr, hq⟩ := applyS_ok h
  obtain ⟨hv, hl, ha0, ha1⟩ := planChk_ok hp
  have hrun : runS L p (editTo i) = directS p (editTo i) ∧ i < p.es.length := by
    unfold runS at hr ⊢
    have hf : (formF (editTo i).op).contains 97 = true := by show (formF 3).contains 97 = true; decide
    have hat : (editTo i).at_ = (i : Int) := rfl
    have hop : (editTo i).op = 3 := rfl
    rw [hat, hop] at hr ⊢
    by_cases hc : (formF 3).contains 97 ∧ ((p.es.length : Int) < i ∨ (i : Int) = p.es.length ∧ (3 : Int) ≠ 1)
    · rw [if_pos hc] at hr; simp [EdR.bad] at hr
    · rw [if_neg hc, if_neg (by decide), if_neg (by decide), if_pos rfl]
      refine ⟨rfl, ?_⟩
      rcases Nat.lt_trichotomy i p.es.length with h | h | h
      · exact h
      · exact absurd ⟨by decide, .inr ⟨by omega, by decide⟩⟩ hc
      · exact absurd ⟨by decide, .inl (by omega)⟩ hc
  obtain ⟨hrun, hlt⟩ := hrun
  rw [hrun] at hq hr
  have hat : (editTo i).at_ = (i : Int) := rfl
  unfold directS at hq hr
  rw [hat] at hq hr
  simp only [Int.toNat_natCast] at hq hr
  by_cases h1 : (i : Int) < p.active
  · rw [if_pos h1] at hr; simp [EdR.bad] at hr
  · rw [if_neg h1] at hq hr
    cases hE : endsE (entAt p i) with
    | false => rw [hE] at hr; simp [EdR.bad] at hr
    | true =>
      rw [hE] at hq
      simp only [Bool.not_true, Bool.false_eq_true, if_false] at hq
      have hget := entAt_get hlt
      obtain ⟨pv, s, hc⟩ := check_drop p.es i none 0 _ hv hget
      have hdrop : p.es.drop i = entAt p i :: p.es.drop (i + 1) := by
        rw [List.drop_eq_getElem_cons hlt]
        congr 1
        have := hget
        rw [List.getElem?_eq_getElem hlt] at this
        exact Option.some.inj this
      rw [hdrop] at hq
      generalize hX : entAt p i = x at *
      unfold endsE at hE
      simp only [Bool.and_eq_true, Bool.not_eq_true'] at hE
      obtain ⟨hg, hb⟩ := hE
      obtain ⟨hal, hrest⟩ := check_alone hc hg
      have hk := alone_known hal
      have hh : holdLike x.leg.ty = decide (14 ≤ x.leg.ty) := by
        simp only [knownB, Bool.and_eq_true, decide_eq_true_eq] at hk
        obtain ⟨k1, k2⟩ := hk
        generalize x.leg.ty = t at k1 k2
        unfold holdLike
        rcases Int.lt_or_le t 14 with h | h
        · have e : decide (14 ≤ t) = false := by simp; omega
          rw [e]
          simp only [Bool.or_eq_false_iff, beq_eq_false_iff_ne]
          omega
        · have : t = 14 ∨ t = 15 ∨ t = 16 ∨ t = 17 := by omega
          rcases this with rfl | rfl | rfl | rfl <;> rfl
      have hlen : (applyS L p (editTo i)).1.es.length ≤ 1000000 := by
        rw [hq]
        refine Nat.le_trans (joinE_len _) ?_
        show 2 * (List.length (if holdLike x.leg.ty = true then _ else _)) ≤ _
        split <;> simp <;> omega
      refine ⟨hlt, hlen, ?_⟩
      by_cases h14 : 14 ≤ x.leg.ty
      · rw [hh] at hq
        simp only [h14, decide_true, if_true] at hq ⊢
        obtain ⟨n, hn⟩ := joinE_head (D := ⟨false, toLeg 4 x.leg.fix, x.ex, x.ey, 0, 0, x.sec, x.via⟩) (r := x :: p.es.drop (i + 1)) rfl (show startsB 4 = true by decide)
        refine ⟨⟨false, toLeg 4 x.leg.fix, x.ex, x.ey, 0, 0, x.sec, x.via⟩, n, by rw [hq]; exact hn, rfl, rfl, rfl, fun z r hzr hz => ?_⟩
        rw [hdrop] at hzr
        injection hzr with e1 e2
        subst e1
        rw [e2] at hn
        have hj : joinE (⟨false, toLeg 4 x.leg.fix, x.ex, x.ey, 0, 0, x.sec, x.via⟩ :: x :: r) = ⟨false, toLeg 4 x.leg.fix, x.ex, x.ey, 0, 0, x.sec, x.via⟩ :: x :: r := by
          have c1 := ChainR.first (⟨false, toLeg 4 x.leg.fix, x.ex, x.ey, 0, 0, x.sec, x.via⟩ : Entry) rfl (show startsB 4 = true by decide)
          have hne : (x.leg.ty != 1) = true := by simp [bne]; omega
          have c2 := ChainR.join _ _ x c1 rfl hg (by
            simp only [Leg.joinsB, followsB, Bool.and_eq_true]
            exact ⟨⟨⟨⟨by show knownB 4 = true; decide, hk⟩, hne⟩, by show (if (4 : Int) ≤ 6 then true else _) = true; rfl⟩, by show (!fromB x.leg.ty || x.leg.fix == x.leg.fix) = true; simp⟩) (by
            have : tdB x.leg.ty = false := by simp [tdB]; omega
            simp [Leg.dupB, this])
          have c3 := check_chain r _ _ c2 (by rw [← e2]; simpa using hrest)
          exact c3.again
        rw [hj] at hn
        injection hn with _ hn
        exact hn.symm
      · rw [hh] at hq
        simp only [h14, decide_false, Bool.false_eq_true, if_false] at hq ⊢
        have hDg : (directE x).gap = false := hg
        obtain ⟨n, hn⟩ := joinE_head (D := directE x) (r := p.es.drop (i + 1)) hDg (by show startsB 4 = true; decide)
        refine ⟨directE x, n, by rw [hq]; exact hn, rfl, rfl, rfl, fun z r hzr hz => ?_⟩
        rw [hzr] at hn hrest
        have hj := direct_chain (D := directE x) (x := x) hDg rfl rfl hg hb hrest hz
        rw [hj] at hn
        injection hn with _ hn
        exact hn.symm
end Go.Proofs.YtcgmemkkcaipfaaGreatDoor
