/- The reference's Text of an edit is the program's; walk (printed by mkedrt.py). -/
import Derived.Test.YtnmpfmelaninbaaGreatDoorPk41
import Derived.Test.YtnmpfmelaninbaaGreatDoorPk27
import Derived.Test.YtnmpfmelaninbaaGreatDoorPk42
import Derived.Test.YtnmpfmelaninbaaGreatDoorPk44
import Derived.Test.YtnmpfmelaninbaaGreatDoorPk37
namespace Go.Proofs.YtnmpfmelaninbaaGreatDoor
open Go.RowKit Go.Sort
set_option linter.unusedVariables false
set_option linter.unusedSimpArgs false
set_option maxRecDepth 100000
theorem erdash_any (l : List UInt8) (w : World) : Calls Tryz.prog 43 #[.string ⟨l.toArray⟩] w (RetP w (.string ⟨(dashB l).toArray⟩)) := by
  cases l with
  | nil =>
    go_enter Tryz.func43, Tryz.ntmps43
    go_wp2
    go_ret
    exact ⟨rfl, rfl⟩
  | cons c r =>
    have h : ¬ (c :: r = ([] : List UInt8)) := by simp
    go_enter Tryz.func43, Tryz.ntmps43
    go_wp2
    go_ret
    exact ⟨rfl, rfl⟩
def wordsR : Array Value := #[.string ⟨#[]⟩, .string ⟨#[73, 78, 83, 69, 82, 84]⟩, .string ⟨#[68, 69, 76, 69, 84, 69]⟩, .string ⟨#[68, 73, 82, 69, 67, 84]⟩, .string ⟨#[65, 76, 84]⟩, .string ⟨#[83, 80, 68]⟩, .string ⟨#[82, 78, 80]⟩, .string ⟨#[72, 79, 76, 68]⟩, .string ⟨#[65, 73, 82, 87, 65, 89]⟩, .string ⟨#[68, 69, 80, 65, 82, 84, 85, 82, 69]⟩, .string ⟨#[65, 82, 82, 73, 86, 65, 76]⟩, .string ⟨#[65, 80, 80, 82, 79, 65, 67, 72]⟩, .string ⟨#[68, 73, 86, 69, 82, 84]⟩]
theorem wordsR_one : wordsR.all (·.oneCell') = true := by simp [wordsR, Value.oneCell']
theorem wordsR_at (k : Nat) (hk : k ≤ 12) : wordsR[k]? = some (.string ⟨(formW (k : Int)).toArray⟩) := by
  have : k = 0 ∨ k = 1 ∨ k = 2 ∨ k = 3 ∨ k = 4 ∨ k = 5 ∨ k = 6 ∨ k = 7 ∨ k = 8 ∨ k = 9 ∨ k = 10 ∨ k = 11 ∨ k = 12 := by omega
  rcases this with rfl | rfl | rfl | rfl | rfl | rfl | rfl | rfl | rfl | rfl | rfl | rfl | rfl <;> rfl
theorem info_words : (Tryz.prog.info? 151).map (·.size) = some 13 := by kernel_rfl
def bwords (parts : Array (Nat × Value)) : Sem Value := Instr.build 151 parts
theorem bwords_fold (parts : Array (Nat × Value)) : Instr.build 151 parts = bwords parts := rfl
theorem run_bwords (w : World) : (bwords #[(0, .string ⟨#[]⟩), (1, .string ⟨#[73, 78, 83, 69, 82, 84]⟩), (2, .string ⟨#[68, 69, 76, 69, 84, 69]⟩), (3, .string ⟨#[68, 73, 82, 69, 67, 84]⟩), (4, .string ⟨#[65, 76, 84]⟩), (5, .string ⟨#[83, 80, 68]⟩), (6, .string ⟨#[82, 78, 80]⟩), (7, .string ⟨#[72, 79, 76, 68]⟩), (8, .string ⟨#[65, 73, 82, 87, 65, 89]⟩), (9, .string ⟨#[68, 69, 80, 65, 82, 84, 85, 82, 69]⟩), (10, .string ⟨#[65, 82, 82, 73, 86, 65, 76]⟩), (11, .string ⟨#[65, 80, 80, 82, 79, 65, 67, 72]⟩), (12, .string ⟨#[68, 73, 86, 69, 82, 84]⟩)]).run Tryz.prog w = .ok (.agg wordsR) w := run_build w _ _ _ (by kernel_rfl)
attribute [local go_sem ↓] bwords_fold
attribute [local go_sem] run_bwords
theorem erword_any (op : Int) (h : ¬ (op < 1 ∨ 12 < op)) (w : World) : Calls Tryz.prog 41 #[.int .u8 op] w (Ret w (.string ⟨(formW op).toArray⟩)) := by
  obtain ⟨k, rfl⟩ : ∃ k : Nat, op = k := ⟨op.toNat, by omega⟩
  have hk : k ≤ 12 := by omega
  have h12 : ¬ (12 : Int) < (k : Int) := by omega
  have hc : (w.alloc (.cells wordsR 151)).cell? ⟨w.heap.size, k, none⟩ = some (.string ⟨(formW (k : Int)).toArray⟩) := by
    rw [cell_of_row _ _ k wordsR _ (0, 0) (heap_alloc_new w _)]; exact wordsR_at k hk
  have B := (Below.refl w.heap.size w).alloc (Nat.le_refl _) (.cells wordsR 151)
  clear h
  generalize formW (k : Int) = out at hc ⊢
  go_enter Tryz.func41, Tryz.ntmps41
  go_upto_region 2 with (refine wpList_store_new rfl 151 (.tmp 3) (.tmp 4) rfl _ wordsR rfl rfl 13 info_words rfl rfl wordsR_one ?_)
  generalize w.alloc _ = W at hc B ⊢
  generalize w.heap.size = g at hc ⊢
  go_wp2
  go_ret
  exact Ret.str rfl B
theorem ad_lenB {p w : List UInt8} {n m : Nat} (b : Bool) (hp : p.length ≤ n) (hw : b = true → w.length ≤ m) : (ad b p w).length ≤ n + (m + 1) := by
  cases b
  · exact Nat.le_trans hp (by omega)
  · have := hw rfl
    show (p ++ 32 :: w).length ≤ _
    simp only [List.length_append, List.length_cons]; omega
theorem text_ad {e : EditV} (hk : editCheck e = 0) : editText e = ad ((formF e.op).contains 117 && (e.turn == 2)) (ad ((formF e.op).contains 117 && (e.turn == 1)) (ad ((formF e.op).contains 100) (ad ((formF e.op).contains 99) (ad ((formF e.op).contains 115) (ad ((formF e.op).contains 104) (ad ((formF e.op).contains 116) (ad ((formF e.op).contains 119) (ad ((formF e.op).contains 110) (ad ((formF e.op).contains 114) (ad ((formF e.op).contains 97) (formW e.op) (writeF e 97)) (writeF e 114)) (writeF e 110)) (writeF e 119)) (writeF e 116)) (writeF e 104)) (writeF e 115)) (writeF e 99)) (writeF e 100)) [76]) [82] := by
  obtain ⟨ho, _⟩ := edit_ok hk
  have ht := text_of hk
  have hu := used_check hk
  rw [ht]
  clear ht hk
  rcases ops12 (op := e.op) (by omega) with h | h | h | h | h | h | h | h | h | h | h | h
  all_goals rw [h] at hu ⊢
  case inr.inr.inr.inr.inr.inr.inl =>
    have ht := hu 117 (by decide)
    have htt : e.turn = 1 ∨ e.turn = 2 := turn_okE ht
    rcases htt with q | q
    all_goals
      have e1 : writeF e 117 = if e.turn = 1 then [76] else [82] := rfl
      rw [q] at e1 ⊢
      simp (config := { decide := true }) [formF, tailT, ad, e1]
  all_goals simp (config := { decide := true }) [formF, tailT, ad]
set_option maxHeartbeats 16000000 in
theorem reditText_ok (e : EditV) (hs : e.small) (w : World) (h : editCheck e = 0) : Calls Tryz.prog 16 #[.agg e.arr] w (Ret w (.string ⟨(editText e).toArray⟩)) := by
  have hop : ¬ (e.op < 1 ∨ 12 < e.op) := by have := (edit_ok h).1; omega
  have k0 := Lib.hid (reditCheck_any e hs (w.alloc (.cells e.arr 26)))
  rw [h] at k0
  have HJ := Lib.hid (text_ad h)
  have hU := used_check h
  have hwl : ∀ c ∈ formF e.op, (writeF e c).length ≤ 4000000000 := fun c hc => write_len hs ((formF_in (edit_ok h).1).1 c hc) (hU c hc)
  have hnl := (form_len (edit_ok h).1).1
  obtain ⟨_, hul, u97, u114, u110, u119, u116, u104, u115, u99, u100, u117⟩ := uses_in hop
  have ku := Lib.hid (euses_any e.op hop)
  have kW := Lib.hid (erword_any e.op hop)
  have hm : ∀ c : UInt8, (formF e.op).contains c = true → c ∈ formF e.op := fun c hc => by simpa using hc
  have kA := Lib.hid (fun (hb : (formF e.op).contains 97 = true) W => have q := betE (show betweenS e.at_ 0 60 = 0 from hU 97 (hm 97 hb)); show Calls Tryz.prog 42 #[.int .i64 e.at_] W (Ret W (.string ⟨(writeF e 97).toArray⟩)) from rNumber_any e.at_ W (by omega) (by omega))
  have kS := Lib.hid (fun (hb : (formF e.op).contains 115 = true) W => have q := betE (show betweenS e.speed 0 1000 = 0 from hU 115 (hm 115 hb)); show Calls Tryz.prog 42 #[.int .i64 e.speed] W (Ret W (.string ⟨(writeF e 115).toArray⟩)) from rNumber_any e.speed W (by omega) (by omega))
  have kC := Lib.hid (fun (hb : (formF e.op).contains 99 = true) W => have q := betE (show betweenS e.course 0 129599999 = 0 from hU 99 (hm 99 hb)); show Calls Tryz.prog 45 #[.int .i64 e.course] W (Ret W (.string ⟨(writeF e 99).toArray⟩)) from rexact_any e.course W (by omega) (by omega))
  have kD := Lib.hid (fun W => show Calls Tryz.prog 46 #[.int .i64 e.dist] W (RetP W (.tuple #[.string ⟨(writeF e 100).toArray⟩, .int .i64 (distT e.dist).2])) from rdistText_any e.dist W)
  have kH := Lib.hid (fun (hb : (formF e.op).contains 104 = true) W => show Calls Tryz.prog 44 #[.agg (Win.arr ⟨e.lo, e.hi⟩)] W (Ret W (.tuple #[.string ⟨(writeF e 104).toArray⟩, .int .i64 0])) from by
    have q := win_okE (hU 104 (hm 104 hb))
    show Calls _ _ _ _ (Ret W (.tuple #[.string ⟨(winT e.lo e.hi).1.toArray⟩, .int .i64 0]))
    rw [winT_in q]
    exact rwinText_in e.lo e.hi W q)
  have kdw := Lib.hid (fun W => show Calls Tryz.prog 43 #[.string ⟨e.rway.toArray⟩] W (RetP W (.string ⟨(writeF e 119).toArray⟩)) from erdash_any e.rway W)
  have kdt := Lib.hid (fun W => show Calls Tryz.prog 43 #[.string ⟨e.trans.toArray⟩] W (RetP W (.string ⟨(writeF e 116).toArray⟩)) from erdash_any e.trans W)
  have HR := Lib.hid (show writeF e 114 = e.ref from rfl)
  have HN := Lib.hid (show writeF e 110 = e.name from rfl)
  have kh97 := Lib.hid (fun w => ehas_any (usesR e.op) 105 w (by omega))
  rw [u97] at kh97
  clear u97
  have kh114 := Lib.hid (fun w => ehas_any (usesR e.op) 102 w (by omega))
  rw [u114] at kh114
  clear u114
  have kh110 := Lib.hid (fun w => ehas_any (usesR e.op) 110 w (by omega))
  rw [u110] at kh110
  clear u110
  have kh119 := Lib.hid (fun w => ehas_any (usesR e.op) 114 w (by omega))
  rw [u119] at kh119
  clear u119
  have kh116 := Lib.hid (fun w => ehas_any (usesR e.op) 116 w (by omega))
  rw [u116] at kh116
  clear u116
  have kh104 := Lib.hid (fun w => ehas_any (usesR e.op) 97 w (by omega))
  rw [u104] at kh104
  clear u104
  have kh115 := Lib.hid (fun w => ehas_any (usesR e.op) 115 w (by omega))
  rw [u115] at kh115
  clear u115
  have kh99 := Lib.hid (fun w => ehas_any (usesR e.op) 99 w (by omega))
  rw [u99] at kh99
  clear u99
  have kh100 := Lib.hid (fun w => ehas_any (usesR e.op) 100 w (by omega))
  rw [u100] at kh100
  clear u100
  have kh117 := Lib.hid (fun w => ehas_any (usesR e.op) 117 w (by omega))
  rw [u117] at kh117
  clear u117
  have lA := Lib.hid (fun (hb : (formF e.op).contains 97 = true) => hwl 97 (hm 97 hb))
  have lR := Lib.hid (fun (hb : (formF e.op).contains 114 = true) => hwl 114 (hm 114 hb))
  have lN := Lib.hid (fun (hb : (formF e.op).contains 110 = true) => hwl 110 (hm 110 hb))
  have lW := Lib.hid (fun (hb : (formF e.op).contains 119 = true) => hwl 119 (hm 119 hb))
  have lT := Lib.hid (fun (hb : (formF e.op).contains 116 = true) => hwl 116 (hm 116 hb))
  have lH := Lib.hid (fun (hb : (formF e.op).contains 104 = true) => hwl 104 (hm 104 hb))
  have lS := Lib.hid (fun (hb : (formF e.op).contains 115 = true) => hwl 115 (hm 115 hb))
  have lC := Lib.hid (fun (hb : (formF e.op).contains 99 = true) => hwl 99 (hm 99 hb))
  have lD := Lib.hid (fun (hb : (formF e.op).contains 100 = true) => hwl 100 (hm 100 hb))
  clear hwl hm hU h hop
  generalize (formF e.op).contains 97 = b97 at *
  generalize writeF e 97 = tA at *
  generalize (formF e.op).contains 114 = b114 at *
  generalize writeF e 114 = tR at *
  generalize (formF e.op).contains 110 = b110 at *
  generalize writeF e 110 = tN at *
  generalize (formF e.op).contains 119 = b119 at *
  generalize writeF e 119 = tW at *
  generalize (formF e.op).contains 116 = b116 at *
  generalize writeF e 116 = tT at *
  generalize (formF e.op).contains 104 = b104 at *
  generalize writeF e 104 = tH at *
  generalize (formF e.op).contains 115 = b115 at *
  generalize writeF e 115 = tS at *
  generalize (formF e.op).contains 99 = b99 at *
  generalize writeF e 99 = tC at *
  generalize (formF e.op).contains 100 = b100 at *
  generalize writeF e 100 = tD at *
  generalize (formF e.op).contains 117 = b117 at *
  generalize editText e = TT at HJ ⊢
  generalize usesR e.op = u at *
  generalize formW e.op = wd at *
  obtain ⟨X0, B0⟩ := edt_box w e
  go_enter Tryz.func16, Tryz.ntmps16
  go_upto_region 1 with (fail)
  generalize w.alloc _ = W at X0 B0 k0 ⊢
  obtain ⟨g, hg⟩ : ∃ g, g = w.heap.size := ⟨_, rfl⟩
  rw [← hg] at X0 ⊢
  clear hg
  have i1 : Has_edt W g 0 := ⟨_, X0.is_edt⟩
  have i2 : of_edt W g 0 = e := of_edt_eq X0.is_edt
  go_upto_region 3 with (go_at_call 14; (with_reducible refine callR k0.out ?_); intro w1 b1 _ _ _)
  clear i1 i2 k0
  have X1 := X0.step b1
  have B1 := below_step B0 b1
  clear X0 B0 b1
  have c0 := X1.cell
  go_upto_region 5 with (first | (go_at_call 33; (with_reducible refine callP (ku.out _) ?_)) | (go_at_call 41; (with_reducible refine callR (kW.out _) ?_); intro w2 b2 _ _ _; clear c0; have c1 := (X1.step b2).cell))
  have X2 := X1.step b2
  have B2 := below_step B1 b2
  clear X1 B1 b2 ku kW c1
  have B := Below.refl w2.heap.size w2
  generalize hpn : wd = p at hnl ⊢
  have HP := Lib.hid hpn
  clear hpn
  have X := X2.step B
  have c0 := X.cell
  go_upto_if 19 with (go_at_call 35; (with_reducible refine callP (kh97.out _) ?_))
  go_cut [4] (fun v wx => v = .string ⟨(ad b97 p tA).toArray⟩ ∧ Below w2.heap.size w2 wx)
  case first =>
    cases b97
    · go_wp2
      go_meet
      exact ⟨by rw [ad_no rfl], B⟩
    · have hl := lA.out rfl
      go_wp2_with (go_at_call 42; (with_reducible refine callR (kA.out rfl _) ?_); intro w3 b3 _ _ _)
      go_meet
      exact ⟨by rw [ad_yes rfl]; rfl, below_step B b3⟩
  case rest =>
  have hp2 := ad_lenB b97 hnl (show b97 = true → (tA).length ≤ 4000000000 from fun hb => lA.out hb)
  clear B c0 X hnl
  obtain ⟨rfl, B⟩ := hcut
  have HP2 := Lib.hid (show ad b97 wd tA = ad b97 p tA by rw [HP.out])
  clear HP
  generalize hq0 : ad b97 p tA = p at HP2 hp2 ⊢
  clear hq0
  have HP := HP2
  have hnl := hp2
  clear HP2 hp2
  as_aux_lemma =>
  have X := X2.step B
  have c0 := X.cell
  go_upto_if 27 with (go_at_call 35; (with_reducible refine callP (kh114.out _) ?_))
  go_cut [4] (fun v wx => v = .string ⟨(ad b114 p e.ref).toArray⟩ ∧ Below w2.heap.size w2 wx)
  case first =>
    cases b114
    · go_wp2
      go_meet
      exact ⟨by rw [ad_no rfl], B⟩
    · have hl := lR.out rfl
      rw [HR.out] at hl
      go_wp2
      go_meet
      exact ⟨by rw [ad_yes rfl]; rfl, B⟩
  case rest =>
  have hp2 := ad_lenB b114 hnl (show b114 = true → (e.ref).length ≤ 4000000000 from fun hb => by have := lR.out hb; rw [HR.out] at this; exact this)
  clear B c0 X hnl
  obtain ⟨rfl, B⟩ := hcut
  have HP2 := Lib.hid (show ad b114 (ad b97 wd tA) e.ref = ad b114 p e.ref by rw [HP.out])
  clear HP
  generalize hq1 : ad b114 p e.ref = p at HP2 hp2 ⊢
  clear hq1
  have HP := HP2
  have hnl := hp2
  clear HP2 hp2
  as_aux_lemma =>
  have X := X2.step B
  have c0 := X.cell
  go_upto_if 34 with (go_at_call 35; (with_reducible refine callP (kh110.out _) ?_))
  go_cut [4] (fun v wx => v = .string ⟨(ad b110 p e.name).toArray⟩ ∧ Below w2.heap.size w2 wx)
  case first =>
    cases b110
    · go_wp2
      go_meet
      exact ⟨by rw [ad_no rfl], B⟩
    · have hl := lN.out rfl
      rw [HN.out] at hl
      go_wp2
      go_meet
      exact ⟨by rw [ad_yes rfl]; rfl, B⟩
  case rest =>
  have hp2 := ad_lenB b110 hnl (show b110 = true → (e.name).length ≤ 4000000000 from fun hb => by have := lN.out hb; rw [HN.out] at this; exact this)
  clear B c0 X hnl
  obtain ⟨rfl, B⟩ := hcut
  have HP2 := Lib.hid (show ad b110 (ad b114 (ad b97 wd tA) e.ref) e.name = ad b110 p e.name by rw [HP.out])
  clear HP
  generalize hq2 : ad b110 p e.name = p at HP2 hp2 ⊢
  clear hq2
  have HP := HP2
  have hnl := hp2
  clear HP2 hp2
  as_aux_lemma =>
  have X := X2.step B
  have c0 := X.cell
  go_upto_if 41 with (go_at_call 35; (with_reducible refine callP (kh119.out _) ?_))
  go_cut [4] (fun v wx => v = .string ⟨(ad b119 p tW).toArray⟩ ∧ Below w2.heap.size w2 wx)
  case first =>
    cases b119
    · go_wp2
      go_meet
      exact ⟨by rw [ad_no rfl], B⟩
    · have hl := lW.out rfl
      go_wp2_with (go_at_call 43; (with_reducible refine callP (kdw.out _) ?_))
      go_meet
      exact ⟨by rw [ad_yes rfl]; rfl, B⟩
  case rest =>
  have hp2 := ad_lenB b119 hnl (show b119 = true → (tW).length ≤ 4000000000 from fun hb => lW.out hb)
  clear B c0 X hnl
  obtain ⟨rfl, B⟩ := hcut
  have HP2 := Lib.hid (show ad b119 (ad b110 (ad b114 (ad b97 wd tA) e.ref) e.name) tW = ad b119 p tW by rw [HP.out])
  clear HP
  generalize hq3 : ad b119 p tW = p at HP2 hp2 ⊢
  clear hq3
  have HP := HP2
  have hnl := hp2
  clear HP2 hp2
  as_aux_lemma =>
  have X := X2.step B
  have c0 := X.cell
  go_upto_if 49 with (go_at_call 35; (with_reducible refine callP (kh116.out _) ?_))
  go_cut [4] (fun v wx => v = .string ⟨(ad b116 p tT).toArray⟩ ∧ Below w2.heap.size w2 wx)
  case first =>
    cases b116
    · go_wp2
      go_meet
      exact ⟨by rw [ad_no rfl], B⟩
    · have hl := lT.out rfl
      go_wp2_with (go_at_call 43; (with_reducible refine callP (kdt.out _) ?_))
      go_meet
      exact ⟨by rw [ad_yes rfl]; rfl, B⟩
  case rest =>
  have hp2 := ad_lenB b116 hnl (show b116 = true → (tT).length ≤ 4000000000 from fun hb => lT.out hb)
  clear B c0 X hnl
  obtain ⟨rfl, B⟩ := hcut
  have HP2 := Lib.hid (show ad b116 (ad b119 (ad b110 (ad b114 (ad b97 wd tA) e.ref) e.name) tW) tT = ad b116 p tT by rw [HP.out])
  clear HP
  generalize hq4 : ad b116 p tT = p at HP2 hp2 ⊢
  clear hq4
  have HP := HP2
  have hnl := hp2
  clear HP2 hp2
  as_aux_lemma =>
  have X := X2.step B
  have c0 := X.cell
  have j1 : Has_win wc g 6 := ⟨_, X.edt_win⟩
  have j2 : of_win wc g 6 = ⟨e.lo, e.hi⟩ := of_win_eq X.edt_win
  go_upto_if 57 with (go_at_call 35; (with_reducible refine callP (kh104.out _) ?_))
  go_cut [4, 5, 6] (fun v _ _ wx => v = .string ⟨(ad b104 p tH).toArray⟩ ∧ Below w2.heap.size w2 wx)
  case first =>
    cases b104
    · go_wp2
      go_meet
      exact ⟨by rw [ad_no rfl], B⟩
    · have hl := lH.out rfl
      go_wp2_with (go_at_call 44; (with_reducible refine callR (kH.out rfl _) ?_); intro w3 b3 _ _ _)
      go_meet
      exact ⟨by rw [ad_yes rfl]; rfl, below_step B b3⟩
  case rest =>
  have hp2 := ad_lenB b104 hnl (show b104 = true → (tH).length ≤ 4000000000 from fun hb => lH.out hb)
  clear B c0 X hnl j1 j2
  obtain ⟨rfl, B⟩ := hcut
  have HP2 := Lib.hid (show ad b104 (ad b116 (ad b119 (ad b110 (ad b114 (ad b97 wd tA) e.ref) e.name) tW) tT) tH = ad b104 p tH by rw [HP.out])
  clear HP
  generalize hq5 : ad b104 p tH = p at HP2 hp2 ⊢
  clear hq5
  have HP := HP2
  have hnl := hp2
  clear HP2 hp2
  as_aux_lemma =>
  have X := X2.step B
  have c0 := X.cell
  go_upto_if 69 with (go_at_call 35; (with_reducible refine callP (kh115.out _) ?_))
  go_cut [4] (fun v wx => v = .string ⟨(ad b115 p tS).toArray⟩ ∧ Below w2.heap.size w2 wx)
  case first =>
    cases b115
    · go_wp2
      go_meet
      exact ⟨by rw [ad_no rfl], B⟩
    · have hl := lS.out rfl
      go_wp2_with (go_at_call 42; (with_reducible refine callR (kS.out rfl _) ?_); intro w3 b3 _ _ _)
      go_meet
      exact ⟨by rw [ad_yes rfl]; rfl, below_step B b3⟩
  case rest =>
  have hp2 := ad_lenB b115 hnl (show b115 = true → (tS).length ≤ 4000000000 from fun hb => lS.out hb)
  clear B c0 X hnl
  obtain ⟨rfl, B⟩ := hcut
  have HP2 := Lib.hid (show ad b115 (ad b104 (ad b116 (ad b119 (ad b110 (ad b114 (ad b97 wd tA) e.ref) e.name) tW) tT) tH) tS = ad b115 p tS by rw [HP.out])
  clear HP
  generalize hq6 : ad b115 p tS = p at HP2 hp2 ⊢
  clear hq6
  have HP := HP2
  have hnl := hp2
  clear HP2 hp2
  as_aux_lemma =>
  have X := X2.step B
  have c0 := X.cell
  go_upto_if 77 with (go_at_call 35; (with_reducible refine callP (kh99.out _) ?_))
  go_cut [4] (fun v wx => v = .string ⟨(ad b99 p tC).toArray⟩ ∧ Below w2.heap.size w2 wx)
  case first =>
    cases b99
    · go_wp2
      go_meet
      exact ⟨by rw [ad_no rfl], B⟩
    · have hl := lC.out rfl
      go_wp2_with (go_at_call 45; (with_reducible refine callR (kC.out rfl _) ?_); intro w3 b3 _ _ _)
      go_meet
      exact ⟨by rw [ad_yes rfl]; rfl, below_step B b3⟩
  case rest =>
  have hp2 := ad_lenB b99 hnl (show b99 = true → (tC).length ≤ 4000000000 from fun hb => lC.out hb)
  clear B c0 X hnl
  obtain ⟨rfl, B⟩ := hcut
  have HP2 := Lib.hid (show ad b99 (ad b115 (ad b104 (ad b116 (ad b119 (ad b110 (ad b114 (ad b97 wd tA) e.ref) e.name) tW) tT) tH) tS) tC = ad b99 p tC by rw [HP.out])
  clear HP
  generalize hq7 : ad b99 p tC = p at HP2 hp2 ⊢
  clear hq7
  have HP := HP2
  have hnl := hp2
  clear HP2 hp2
  as_aux_lemma =>
  have X := X2.step B
  have c0 := X.cell
  go_upto_if 85 with (go_at_call 35; (with_reducible refine callP (kh100.out _) ?_))
  go_cut [4, 7, 8] (fun v _ _ wx => v = .string ⟨(ad b100 p tD).toArray⟩ ∧ Below w2.heap.size w2 wx)
  case first =>
    cases b100
    · go_wp2
      go_meet
      exact ⟨by rw [ad_no rfl], B⟩
    · have hl := lD.out rfl
      go_wp2_with (go_at_call 46; (with_reducible refine callP (kD.out _) ?_))
      go_meet
      exact ⟨by rw [ad_yes rfl]; rfl, B⟩
  case rest =>
  have hp2 := ad_lenB b100 hnl (show b100 = true → (tD).length ≤ 4000000000 from fun hb => lD.out hb)
  clear B c0 X hnl
  obtain ⟨rfl, B⟩ := hcut
  have HP2 := Lib.hid (show ad b100 (ad b99 (ad b115 (ad b104 (ad b116 (ad b119 (ad b110 (ad b114 (ad b97 wd tA) e.ref) e.name) tW) tT) tH) tS) tC) tD = ad b100 p tD by rw [HP.out])
  clear HP
  generalize hq8 : ad b100 p tD = p at HP2 hp2 ⊢
  clear hq8
  have HP := HP2
  have hnl := hp2
  clear HP2 hp2
  as_aux_lemma =>
  have X := X2.step B
  have c0 := X.cell
  obtain ⟨a1, h1⟩ : ∃ a, (e.turn == 1) = a := ⟨_, rfl⟩
  obtain ⟨a2, h2⟩ : ∃ a, (e.turn == 2) = a := ⟨_, rfl⟩
  have HJ2 := Lib.hid (show TT = ad (b117 && a2) (ad (b117 && a1) p [76]) [82] by rw [HJ.out, HR.out, HN.out, HP.out, h1, h2])
  clear HJ HP X
  cases b117
  · go_wp2_with (go_at_call 35; (with_reducible refine callP (kh117.out _) ?_))
    go_ret
    exact Ret.str (by rw [HJ2.out]; rfl) (below_step B2 B)
  · cases a1 <;> cases a2
    all_goals
      go_wp2_with (go_at_call 35; (with_reducible refine callP (kh117.out _) ?_))
      go_ret
      exact Ret.str (by rw [HJ2.out]; first | rfl | (simp [ad, cat]; done)) (below_step B2 B)
theorem reditText_any (e : EditV) (hs : e.small) (w : World) : Calls Tryz.prog 16 #[.agg e.arr] w (Ret w (.string ⟨(editText e).toArray⟩)) := by
  by_cases h : editCheck e = 0
  · exact reditText_ok e hs w h
  · have HO := Lib.hid (show editText e = [] by unfold editText; rw [if_pos (by simpa using h)])
    have k0 := Lib.hid (reditCheck_any e hs (w.alloc (.cells e.arr 26)))
    obtain ⟨X0, B0⟩ := edt_box w e
    generalize editCheck e = z at *
    go_enter Tryz.func16, Tryz.ntmps16
    go_upto_region 1 with (fail)
    generalize w.alloc _ = W at X0 B0 k0 ⊢
    generalize w.heap.size = g at X0 ⊢
    have i1 : Has_edt W g 0 := ⟨_, X0.is_edt⟩
    have i2 : of_edt W g 0 = e := of_edt_eq X0.is_edt
    go_wp2_with (go_at_call 14; (with_reducible refine callR k0.out ?_); intro w1 b1 _ _ _)
    go_ret
    exact Ret.str (by rw [HO.out]) (below_step B0 b1)
end Go.Proofs.YtnmpfmelaninbaaGreatDoor
