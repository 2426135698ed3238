/- edit.Parse; walk. -/
import Derived.Test.YtcgmemkkcaipfaaGreatDoorPk40
import Derived.Test.YtcgmemkkcaipfaaGreatDoorPk20
namespace Go.Proofs.YtcgmemkkcaipfaaGreatDoor
open Go.RowKit Go.Sort
set_option linter.unusedVariables false
set_option linter.unusedSimpArgs false
set_option maxRecDepth 100000
theorem splitC_memE (c : UInt8) : ∀ (l : List UInt8), ∀ x ∈ splitC c l, x.length ≤ l.length
  | [], x, hx => by
    have : x = [] := by simpa [splitC] using hx
    rw [this]; simp
  | y :: r, x, hx => by
    have ih := splitC_memE c r
    unfold splitC at hx
    split at hx
    · rcases List.mem_cons.1 hx with rfl | hx
      · simp
      · have := ih x hx; simp; omega
    · revert hx
      have hne := splitC_ne c r
      match hm : splitC c r with
      | [] => exact absurd hm hne
      | a :: q =>
        intro hx
        rw [hm] at ih
        rcases List.mem_cons.1 hx with rfl | hx
        · have := ih a (by simp); simp; omega
        · have := ih x (by simp [hx]); simp; omega
/-- The strings lie one behind the other from the block's beginning. -/
def StrsAtE (w : World) (b : Nat) (ss : List (List UInt8)) : Prop := ∀ k x, ss[k]? = some x → w.cell? ⟨b, k, none⟩ = some (.string ⟨x.toArray⟩)
theorem alloc_belowP (w : World) (o : Obj) : Below w.heap.size w (w.alloc o) := (Below.refl _ _).alloc (Nat.le_refl _) _
/-- One form, all forms as they lie in memory. -/
def formArr (k : Nat) : Array Value := #[.string ⟨(formW (k : Int)).toArray⟩, .string ⟨(formF (k : Int)).toArray⟩]
theorem formArr_one (k : Nat) : (formArr k).all (·.oneCell') = true := by simp [formArr, Value.oneCell']
def formsArr : Array Value := ((List.range 13).flatMap fun (k : Nat) => (formArr k).toList).toArray
theorem formsArr_size : formsArr.size = 26 := rfl
theorem formsArr_at : ∀ k : Nat, k ≤ 12 → formsArr[k * 2]? = some (.string ⟨(formW (k : Int)).toArray⟩) ∧ formsArr[k * 2 + 1]? = some (.string ⟨(formF (k : Int)).toArray⟩) := by
  intro k hk
  have : k = 0 ∨ k = 1 ∨ k = 2 ∨ k = 3 ∨ k = 4 ∨ k = 5 ∨ k = 6 ∨ k = 7 ∨ k = 8 ∨ k = 9 ∨ k = 10 ∨ k = 11 ∨ k = 12 := by omega
  rcases this with rfl | rfl | rfl | rfl | rfl | rfl | rfl | rfl | rfl | rfl | rfl | rfl | rfl <;> exact ⟨rfl, rfl⟩
theorem FormsAt.arr {w : World} (h : FormsAt w) : ∀ j, j < 26 → w.cell? ⟨0, 0 + j, none⟩ = formsArr[j]? := by
  intro j hj
  rw [Nat.zero_add]
  obtain ⟨k, hk, e⟩ : ∃ k, k ≤ 12 ∧ (j = k * 2 ∨ j = k * 2 + 1) := ⟨j / 2, by omega, by omega⟩
  rcases e with rfl | rfl
  · rw [h.word k hk, (formsArr_at k hk).1]
  · rw [h.flds k hk, (formsArr_at k hk).2]
theorem info_forms : (Tryz.prog.info? 86).map (·.size) = some 26 := by kernel_rfl
theorem info_form : (Tryz.prog.info? 85).map (·.size) = some 2 := by kernel_rfl
theorem run_index_forms (k : Nat) (hk : k ≤ 12) (w : World) : (Instr.index 86 (.agg formsArr) (.int .i64 (k : Int))).run Tryz.prog w = .ok (.agg (formArr k)) w := by
  have : k = 0 ∨ k = 1 ∨ k = 2 ∨ k = 3 ∨ k = 4 ∨ k = 5 ∨ k = 6 ∨ k = 7 ∨ k = 8 ∨ k = 9 ∨ k = 10 ∨ k = 11 ∨ k = 12 := by omega
  rcases this with rfl | rfl | rfl | rfl | rfl | rfl | rfl | rfl | rfl | rfl | rfl | rfl | rfl <;> rfl
def bedt (parts : Array (Nat × Value)) : Sem Value := Instr.build 38 parts
theorem bedt_fold (parts : Array (Nat × Value)) : Instr.build 38 parts = bedt parts := rfl
theorem run_bedt0 (w : World) : (bedt #[]).run Tryz.prog w = .ok (.agg edit0.arr) w := run_build w _ _ _ (by kernel_rfl)
/-- An edit of one operation, else empty. -/
def editOp (n : Int) : EditV := ⟨n, 0, [], [], [], [], 0, 0, 0, 0, 0, 0⟩
theorem run_bedt1 (w : World) (n : Int) : (bedt #[(0, .int .u8 n)]).run Tryz.prog w = .ok (.agg (editOp n).arr) w := run_build w _ _ _ (by kernel_rfl)
attribute [local go_sem ↓] bedt_fold
attribute [local go_sem] run_bedt0 run_bedt1
theorem edit0_arr : edit0.arr = #[.int .u8 0, .int .i64 0, .string ⟨#[]⟩, .string ⟨#[]⟩, .string ⟨#[]⟩, .string ⟨#[]⟩, .int .i64 0, .int .i64 0, .int .i64 0, .int .i64 0, .int .i64 0, .int .u8 0] := rfl
theorem ed_parse_skip {s : List UInt8} {W : List (List UInt8)} {k : Nat} (hk : k < 13) (h : tryOp s W k = none) : parseFrom s W k (13 - k) = parseFrom s W (k + 1) (13 - (k + 1)) := by
  obtain ⟨m, hm⟩ : ∃ m, 13 - k = m + 1 := ⟨12 - k, by omega⟩
  rw [hm, show 13 - (k + 1) = m by omega, parseFrom, h]
theorem ed_parse_hit {s : List UInt8} {W : List (List UInt8)} {k : Nat} {e : EditV} (hk : k < 13) (h : tryOp s W k = some e) : parseFrom s W k (13 - k) = (e, 0) := by
  obtain ⟨m, hm⟩ : ∃ m, 13 - k = m + 1 := ⟨12 - k, by omega⟩
  rw [hm, parseFrom, h]
theorem ed_try_zero (s : List UInt8) (W : List (List UInt8)) : tryOp s W ((0 : Nat) : Int) = none := by unfold tryOp; rw [if_pos (.inl rfl)]
theorem ed_try_word {s w0 : List UInt8} {ws : List (List UInt8)} {k : Nat} (h : formW (k : Int) ≠ w0) : tryOp s (w0 :: ws) k = none := by unfold tryOp; rw [if_pos (.inr (.inl h))]
theorem ed_try_len {s w0 : List UInt8} {ws : List (List UInt8)} {k : Nat} (h : (formF (k : Int)).length ≠ ws.length) : tryOp s (w0 :: ws) k = none := by unfold tryOp; rw [if_pos (.inr (.inr (by simpa using h)))]
theorem ed_try_some {s w0 : List UInt8} {ws : List (List UInt8)} {k : Nat} (h0 : k ≠ 0) (h1 : formW (k : Int) = w0) (h2 : (formF (k : Int)).length = ws.length) : tryOp s (w0 :: ws) k = okP s (readGo (editOp (k : Int)) (formF (k : Int)) ws) := by
  unfold tryOp
  rw [if_neg]
  · rfl
  · rintro (h | h | h)
    · exact h0 (by omega)
    · exact h h1
    · exact h (by simpa using h2)
theorem form_lenK : ∀ k : Nat, k ≤ 12 → (formW (k : Int)).length ≤ 9 ∧ (formF (k : Int)).length ≤ 4 := by
  intro k hk
  have : k = 0 ∨ k = 1 ∨ k = 2 ∨ k = 3 ∨ k = 4 ∨ k = 5 ∨ k = 6 ∨ k = 7 ∨ k = 8 ∨ k = 9 ∨ k = 10 ∨ k = 11 ∨ k = 12 := by omega
  rcases this with rfl | rfl | rfl | rfl | rfl | rfl | rfl | rfl | rfl | rfl | rfl | rfl | rfl <;> decide
theorem formF_inK (k : Nat) (hk : k ≤ 12) (h0 : k ≠ 0) : ∀ c ∈ formF (k : Int), c ∈ edOrder := (formF_in (op := (k : Int)) ⟨by omega, by omega⟩).1
def edVal (r : EditV × Int) : Value := .tuple #[.agg r.1.arr, .int .i64 r.2]
theorem editOp_small (n : Int) : (editOp n).small := ⟨Nat.zero_le _, Nat.zero_le _, Nat.zero_le _, Nat.zero_le _⟩
theorem edit0_small : edit0.small := ⟨by decide, by decide, by decide, by decide⟩
set_option maxHeartbeats 16000000 in
theorem editParse_any (s : List UInt8) (w : World) (hL : Laid w) (hR : ErrsAt w) (hF : FormsAt w) (hs : s.length ≤ 100000) : Calls Tryz.prog 16 #[.string ⟨s.toArray⟩] w (Ret w (edVal (editParse s))) := by
  obtain ⟨w0, ws, hws⟩ : ∃ w0 ws, splitC 32 s = w0 :: ws := by
    match h : splitC 32 s with
    | [] => exact absurd h (splitC_ne 32 s)
    | a :: q => exact ⟨a, q, rfl⟩
  have hmem := splitC_memE 32 s
  have hcnt : ws.length ≤ s.length := by
    have h1 := splitC_len 32 s
    have h2 := List.count_le_length (a := (32 : UInt8)) (l := s)
    rw [hws] at h1; simp at h1; omega
  rw [hws] at hmem
  have hl0 := hmem w0 (by simp)
  have HR := Lib.hid (fun x hx => hmem x (List.mem_cons_of_mem _ hx) : ∀ x ∈ ws, x.length ≤ s.length)
  have HO := Lib.hid (show editParse s = parseFrom s (w0 :: ws) 0 13 by unfold editParse; rw [hws])
  have hsp := Lib.hid (fun W hL' => splitC_any 32 s W hL' (by omega))
  rw [hws] at hsp
  clear hmem hws
  generalize editParse s = OUT at HO ⊢
  go_enter Tryz.func16, Tryz.ntmps16
  go_upto_region 1 with (fail)
  have X0 : Blk (w.alloc (.cells edit0.arr 38)) w.heap.size edit0.arr := Blk.new w _ _
  have B0 := alloc_belowP w (.cells edit0.arr 38)
  have L0 := hL.below B0
  rw [edit0_arr] at X0 B0 L0
  generalize w.alloc _ = W at X0 B0 L0 ⊢
  rw [← edit0_arr] at X0
  obtain ⟨g, hg0⟩ : ∃ g, g = w.heap.size := ⟨_, rfl⟩
  rw [← hg0] at X0 ⊢
  have hg := Nat.le_of_eq hg0.symm
  clear hg0
  go_wp2_with fail
  refine (hsp.out W L0).mono ?_
  rintro e w1 ⟨rfl, hw1⟩
  have A1 : Below W.heap.size W w1 := by rw [hw1]; exact alloc_belowP _ _
  have hs1 : W.heap.size < w1.heap.size := by rw [hw1]; simp
  have S1 : StrsAtE w1 W.heap.size (w0 :: ws) := fun k x hx => by
    rw [hw1, cell_of_row _ _ k _ _ (0, 0) (heap_alloc_new W _)]
    unfold strCellsC
    rw [List.getElem?_toArray, List.getElem?_map, hx]
    rfl
  have X1 := X0.step A1
  have B1 := below_step B0 A1
  have F1 := hF.below B1
  clear hw1 A1 X0 B0 L0 hsp
  generalize W.heap.size = sb at *
  rw [List.length_cons]
  have HFA := Lib.hid F1.arr
  go_wp2_with (refine wpList_load_arr rfl 86 (.global 0) rfl 0 0 rfl formsArr 26 _ formsArr_size HFA.out Tryz.underlying86 rfl info_forms ?_)
  have HX := Lib.hid X1
  have HB := Lib.hid B1
  have HS := Lib.hid (fun (wr : World) (BW : Below w1.heap.size w1 wr) k x (hx : (w0 :: ws)[k]? = some x) => show wr.cell? ⟨sb, k, none⟩ = some (.string ⟨x.toArray⟩) from by rw [BW.cell (p := ⟨sb, k, none⟩) hs1]; exact S1 k x hx)
  have HLR := Lib.hid (fun (wr : World) (BW : Below w1.heap.size w1 wr) => (⟨hL.below (below_step B1 BW), hR.below (below_step B1 BW), hF.below (below_step B1 BW)⟩ : Laid wr ∧ ErrsAt wr ∧ FormsAt wr))
  have hgl : g < w1.heap.size := X1.lt
  clear X1 B1 F1 S1 HFA
  go_loopw [13] (fun i wr => ∃ k : Nat, k ≤ 13 ∧ i = .int .i64 k ∧ OUT = parseFrom s (w0 :: ws) k (13 - k) ∧ Below w1.heap.size w1 wr) (fun i _ => 13 - (intOf i).toNat)
  case atStart => exact ⟨0, by omega, rfl, HO.out, Below.refl _ _⟩
  case round =>
    clear HO
    obtain ⟨k, hk, rfl, hq, BW⟩ := hrel
    have HQ := Lib.hid hq
    clear hq
    by_cases hlt : k < 13
    · have hix := run_index_forms k (by omega)
      go_upto_region 5 with (refine wpList_store_new rfl 85 (.tmp 6) (.tmp 16) rfl _ (formArr k) rfl rfl 2 info_form rfl rfl (formArr_one k) ?_)
      have P0 : Blk (wr.alloc (.cells (formArr k) 85)) wr.heap.size (formArr k) := Blk.new wr _ _
      have A0 := alloc_belowP wr (.cells (formArr k) 85)
      have B2 := BW.trans (A0.mono BW.size)
      have HWR := Lib.hid BW.size
      generalize wr.alloc _ = W2 at P0 A0 B2 ⊢
      generalize wr.heap.size = gf at P0 A0 HWR ⊢
      have P2 := HS.out wr BW
      have c0 : W2.cell? ⟨gf, 0, none⟩ = some (.string ⟨(formW (k : Int)).toArray⟩) := P0.cell 0
      have c1 : W2.cell? ⟨gf, 1, none⟩ = some (.string ⟨(formF (k : Int)).toArray⟩) := P0.cell 1
      have cw : W2.cell? ⟨sb, 0, none⟩ = some (.string ⟨w0.toArray⟩) := HS.out W2 B2 0 w0 rfl
      have fl := form_lenK k (by omega)
      have hwsl : ws.length ≤ 100000 := by omega
      have q0 : IntKind.i64.wrap ((ws.length : Nat) : Int) = ((ws.length : Nat) : Int) := IntWalk.i64_in _ (by omega)
      clear P2 hix
      by_cases hk0 : k = 0
      · subst hk0
        have HN := Lib.hid (show OUT = parseFrom s (w0 :: ws) 1 12 by rw [HQ.out, ed_parse_skip hlt (ed_try_zero s _)])
        clear HQ c0 c1
        go_quiet (fail)
        go_wp2
        go_roundw
        case rel => exact ⟨1, by omega, by go_num, HN.out, below_drewN B2 _⟩
        case measure => simp [intOf]
      have hk1 : ((k : Int) == 0) = false := by rw [beq_eq_false_iff_ne]; omega
      by_cases hw : formW (k : Int) = w0
      rotate_left
      · have HN := Lib.hid (show OUT = parseFrom s (w0 :: ws) (k + 1) (13 - (k + 1)) by rw [HQ.out, ed_parse_skip hlt (ed_try_word hw)])
        have h0 : (formW (k : Int) == w0) = false := by simpa using hw
        generalize formW (k : Int) = FW at *
        generalize formF (k : Int) = FF at *
        clear HQ hw
        go_quiet (fail)
        go_wp2
        go_roundw
        case rel => exact ⟨k + 1, by omega, by go_num, HN.out, below_drewN B2 _⟩
        case measure => simp [intOf]; omega
      have h0 : (formW (k : Int) == w0) = true := by simpa using hw
      by_cases hn : (formF (k : Int)).length = ws.length
      rotate_left
      · have HN := Lib.hid (show OUT = parseFrom s (w0 :: ws) (k + 1) (13 - (k + 1)) by rw [HQ.out, ed_parse_skip hlt (ed_try_len hn)])
        generalize formW (k : Int) = FW at *
        generalize formF (k : Int) = FF at *
        have h1 : (((FF.length : Nat) : Int) == ((ws.length : Nat) : Int)) = false := by rw [beq_eq_false_iff_ne]; omega
        clear HQ hw hn
        go_quiet (fail)
        go_wp2
        go_roundw
        case rel => exact ⟨k + 1, by omega, by go_num, HN.out, below_drewN B2 _⟩
        case measure => simp [intOf]; omega
      have HT := Lib.hid (ed_try_some (s := s) hk0 hw hn)
      have hfo := Lib.hid (formF_inK k (by omega) hk0)
      have HFF := Lib.hid (show (formArr k)[1]? = some (.string ⟨(formF (k : Int)).toArray⟩) from rfl)
      generalize formW (k : Int) = FW at *
      generalize formF (k : Int) = FF at *
      have h1 : (((FF.length : Nat) : Int) == ((ws.length : Nat) : Int)) = true := by rw [beq_iff_eq]; omega
      go_quiet (fail)
      have B3 := below_drewN B2 nq
      have P3 := P0.step (below_drewN (Below.refl _ _) nq)
      have hgf3 : gf < (W2.drewN nq).heap.size := P3.lt
      clear c0 c1 cw h0 h1 hk1 q0 P0 A0 B2
      generalize W2.drewN nq = W3 at *
      have c1 : W3.cell? ⟨gf, 1, none⟩ = some (.string ⟨FF.toArray⟩) := by have := P3.cell 1; rw [this]; exact HFF.out
      have q0 : IntKind.u8.wrap (k : Int) = (k : Int) := by simp only [IntKind.wrap, IntKind.bits, IntKind.signed]; simp; omega
      go_upto_region 7 with (fail)
      have E4 := Blk.new W3 (editOp (k : Int)).arr 38
      have P4 := P3.alloc (.cells (editOp (k : Int)).arr 38)
      have B4 := below_step B3 (alloc_belowP W3 (.cells (editOp (k : Int)).arr 38))
      have HGE := Lib.hid B3.size
      have hlt4 : W3.heap.size < (W3.alloc (.cells (editOp (k : Int)).arr 38)).heap.size := by simp
      clear c1 P3 B3 q0
      generalize W3.alloc _ = W4 at *
      generalize W3.heap.size = ge at *
      have c1 : W4.cell? ⟨gf, 1, none⟩ = some (.string ⟨FF.toArray⟩) := by have := P4.cell 1; rw [this]; exact HFF.out
      have cv := Lib.run_convert_string_bytes (P := Tryz.prog) W4 9 87 5 ⟨FF.toArray⟩ Tryz.underlying9 Tryz.underlying87 Tryz.underlying5
      have cb := Lib.bytesWorld_below W4 5 ⟨FF.toArray⟩
      have cc := Lib.hid (fun j hj => Lib.bytesWorld_cell W4 5 ⟨FF.toArray⟩ j hj)
      have cz := Lib.bytesWorld_size W4 5 ⟨FF.toArray⟩
      generalize hW5 : Lib.bytesWorld W4 5 ⟨FF.toArray⟩ = W5 at cv cb cc cz
      clear hW5
      go_wp2
      clear cv c1 P4
      have E5 := E4.step cb
      have B5 := below_step B4 cb
      have hgb : W4.heap.size < W5.heap.size := by omega
      have hgbe : W4.heap.size ≠ ge := by omega
      clear E4 B4 cb cz hlt4
      generalize W4.heap.size = gb at *
      have HE5 := Lib.hid E5
      clear E5
      go_loopw [43] (fun i wr => ∃ (j : Nat) (x : EditV), j ≤ FF.length ∧ i = .int .i64 j ∧ readGo (editOp (k : Int)) FF ws = readGo x (FF.drop j) (ws.drop j) ∧ x.small ∧ Blk wr ge x.arr ∧ Touch [ge] W5 wr) (fun i _ => FF.length - (intOf i).toNat)
      case atStart => exact ⟨0, editOp (k : Int), by omega, rfl, rfl, editOp_small _, HE5.out, Touch.refl _ _⟩
      case round =>
        clear HE5
        obtain ⟨j, x, hj, rfl, hgo, hsm, X, T⟩ := hrel
        have HGO := Lib.hid hgo
        clear hgo
        have BR := T.below B5 (by simp; exact HGE.out)
        obtain ⟨Lr, Rr, Fr⟩ := HLR.out _ BR
        by_cases hlt2 : j < FF.length
        · have hcb := cc.out j (by simp [ByteArray.size]; omega)
          have hgd : FF.getD j 0 = FF[j] := by simp [List.getD, hlt2]
          rw [hgd, ← T.cell (g := gb) (by simpa using hgbe) hgb] at hcb
          have hwl : j < ws.length := by omega
          have hwd := HS.out _ BR (j + 1) ws[j] (by simp [hwl])
          have hwn := HR.out ws[j] (List.getElem_mem hwl)
          have HN := Lib.hid (show readGo (editOp (k : Int)) FF ws = readGo (readF x FF[j] ws[j]) (FF.drop (j + 1)) (ws.drop (j + 1)) by rw [HGO.out, List.drop_eq_getElem_cons hlt2, List.drop_eq_getElem_cons hwl]; rfl)
          have hcm := hfo.out _ (List.getElem_mem hlt2)
          clear HGO hgd
          generalize FF[j] = c at hcb hcm HN
          generalize ws[j] = wd at hwd hwn HN
          have kr := Lib.hid (eread_any x c hcm wd ge _ Lr Rr X (by omega))
          have hxs := Lib.hid (readF_small (c := c) hsm (show wd.length ≤ 4000000000 by omega))
          generalize readF x c wd = y at kr HN hxs
          have q1 : IntKind.i64.wrap ((j : Int) + 1) = (j : Int) + 1 := IntWalk.i64_in _ (by omega)
          have q2 : (0 : Int) ≤ (j : Int) + 1 := by omega
          have q3 : ((j : Int) + 1).toNat = j + 1 := by omega
          have q4 : (j : Int) + 1 < (ws.length : Int) + 1 := by omega
          have HB5 := Lib.hid B5
          have HT0 := Lib.hid T
          clear hcm Lr Rr Fr BR X B5 T hsm
          go_wp2_with (go_at_call 46; (refine kr.out.mono ?_); rintro e w6 ⟨rfl, T6, X6⟩)
          go_roundw
          case rel => exact ⟨j + 1, y, by omega, by go_num, HN.out, hxs.out, X6, HT0.out.trans T6⟩
          case measure => simp [intOf]; omega
        · have HXX := Lib.hid (show readGo (editOp (k : Int)) FF ws = x by rw [HGO.out, List.drop_of_length_le (by omega)]; cases ws.drop j <;> rfl)
          have kt := Lib.hid (editText_any x hsm _ Lr Fr)
          have i1 : Has_edt wr ge 0 := ⟨_, X.is_edt⟩
          have i2 : of_edt wr ge 0 = x := of_edt_eq X.is_edt
          have XG := HX.out.step BR
          have HTT := Lib.hid (show tryOp s (w0 :: ws) (k : Int) = if editText x = s then some x else none by rw [HT.out, HXX.out]; rfl)
          have HXb := Lib.hid X
          have BR2 := Lib.hid BR
          have hgge : g ≠ ge := by have := HGE.out; omega
          clear HT HXX HGO Lr Rr Fr X T BR
          generalize editText x = TX at kt HTT
          by_cases hts : TX = s
          · have HN := Lib.hid (show OUT = (x, 0) by rw [HQ.out, ed_parse_hit hlt (HTT.out.trans (if_pos hts))])
            have h1 : (TX == s) = true := by simpa using hts
            clear hts HTT HQ
            go_wp2_with (go_at_call 15; (with_reducible refine callR kt.out ?_); intro w7 b7 _ _ _
                         have X7 := HXb.out.step b7
                         have G7 := XG.step b7
                         have j1 : Has_edt w7 ge 0 := ⟨_, X7.is_edt⟩
                         have j2 : of_edt w7 ge 0 = x := of_edt_eq X7.is_edt
                         have d2 := G7.plain
                         have d3 : blkOf w7 g = edit0.arr := G7.of
                         have d4 := splice_edt edit0 x)
            exact bodyPost_ret (results_agg Tryz.results16 _ _ g x.arr 12 _ rfl rfl (G7.set _).cell Tryz.underlying38 rfl info_edt) rfl ⟨by rw [HN.out]; rfl, below_setRow' (below_step (below_step HB.out BR2.out) b7) hg _⟩
          · have HN := Lib.hid (show OUT = parseFrom s (w0 :: ws) (k + 1) (13 - (k + 1)) by rw [HQ.out, ed_parse_skip hlt (HTT.out.trans (if_neg hts))])
            have h1 : (TX == s) = false := by simpa using hts
            clear hts HTT HQ
            go_wp2_with (go_at_call 15; (with_reducible refine callR kt.out ?_); intro w7 b7 _ _ _)
            go_roundw
            case rel => exact ⟨k + 1, by omega, by go_num, HN.out, below_step BR2.out b7⟩
            case measure => simp [intOf]; omega
    · have HN := Lib.hid (show OUT = (edit0, 4) by rw [HQ.out, show 13 - k = 0 by omega]; rfl)
      have X2 := HX.out.step BW
      have d2 := X2.plain
      have d3 : blkOf wr g = edit0.arr := X2.of
      have d4 := splice_edt edit0 edit0
      go_wp2
      exact bodyPost_ret (results_agg Tryz.results16 _ _ g edit0.arr 12 _ rfl rfl (X2.set _).cell Tryz.underlying38 rfl info_edt) rfl ⟨by rw [HN.out]; rfl, below_setRow' (below_step HB.out BW) hg _⟩
end Go.Proofs.YtcgmemkkcaipfaaGreatDoor
