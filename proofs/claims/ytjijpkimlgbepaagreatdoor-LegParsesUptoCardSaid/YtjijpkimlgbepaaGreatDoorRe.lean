/- The reference's Parse returns what the program's returns. -/
import Derived.Test.YtjijpkimlgbepaaGreatDoorRd
import Derived.Lib.SlBytesConst
namespace Go.Proofs.YtjijpkimlgbepaaGreatDoor
open Go.RowKit Go.Sort
set_option linter.unusedVariables false
set_option linter.unusedSimpArgs false
set_option linter.unnecessarySimpa false
set_option maxRecDepth 100000
theorem touch_new {S : List Nat} {a b c : World} {m : Nat} (h : Touch S a b) (k : Touch [m] b c) (hm : a.heap.size ≤ m) : Touch S a c :=
  ⟨k.os.trans h.os, k.tape.trans h.tape, k.output.trans h.output, Nat.le_trans h.size k.size, fun i hi hn => (k.block i (Nat.lt_of_lt_of_le hi h.size) (by simp; omega)).trans (h.block i hi hn)⟩
theorem touch_setRow {g : Nat} (w : World) (cs : Array Value) : Touch [g] w (w.setRow g cs) :=
  ⟨rfl, rfl, rfl, by simp [World.setRow], fun k _ hn => setRow_other w g k _ (fun e => hn (by simp [e]))⟩
theorem wcol_get : ∀ (l : List (List UInt8)) (c : Int) (k : Nat) (h : k < l.length), ∃ col, (wcol c l)[k]? = some (l[k], col)
  | a :: q, c, 0, _ => ⟨c, rfl⟩
  | a :: q, c, k + 1, h => by
    obtain ⟨col, e⟩ := wcol_get q (c + (a.length + 1)) k (by simpa using h)
    exact ⟨col, by simpa [wcol] using e⟩
abbrev Z13 : Array Value := #[.int .u8 0, .string ⟨#[]⟩, .string ⟨#[]⟩, .int .u8 0, .bool false, .int .i64 0, .int .i64 0, .int .i64 0, .int .i64 0, .int .i64 0, .int .i64 0, .int .i64 0, .int .i64 0]
def fb7 (parts : Array (Nat × Value)) : Sem Value := Instr.buildSlice 73 7 parts
theorem fb7_fold (parts : Array (Nat × Value)) : Instr.buildSlice 73 7 parts = fb7 parts := rfl
abbrev F7 : Array Value := #[.int .u8 70, .int .u8 67, .int .u8 84, .int .u8 75, .int .u8 68, .int .u8 82, .int .u8 72]
theorem run_fb7 (w : World) : (fb7 #[(0, .int .u8 70), (1, .int .u8 67), (2, .int .u8 84), (3, .int .u8 75), (4, .int .u8 68), (5, .int .u8 82), (6, .int .u8 72)]).run Tryz.prog w = .ok (.slice (some ⟨w.heap.size, 0, none⟩) 7 7) (w.alloc (.cells F7 5)) := by
  obtain ⟨i0, hi, hz0, hz1, hz2⟩ := info_parts info_u8
  refine run_buildSlice w 73 5 7 #[(0, .int .u8 70), (1, .int .u8 67), (2, .int .u8 84), (3, .int .u8 75), (4, .int .u8 68), (5, .int .u8 82), (6, .int .u8 72)] F7 i0 _ Tryz.underlying73 hi hz0 (by rw [hz1]; decide) (by rw [hz1]; decide) ?_
  rw [hz1]
  kernel_rfl
attribute [local go_sem ↓] fb7_fold
attribute [local go_sem] run_fb7
set_option maxHeartbeats 16000000 in
theorem rparse_any (s : List UInt8) (w : World) (hl : s.length ≤ 100000) : Calls Tryz.prog 17 #[.string ⟨s.toArray⟩] w (Ret w (parseVal (parseS s))) := by
  have hwl : (words s).length ≤ 100001 := by
    have h1 := words_len s
    have h2 := List.count_le_length (a := (32 : UInt8)) (l := s)
    omega
  have hww : ∀ x ∈ words s, x.length ≤ 4000000000 := fun x hx => by have := mem_words_len s x hx; omega
  have hwlen := wcol_len 1 (words s)
  obtain ⟨w0, q0, hw0⟩ : ∃ a q, words s = a :: q := by
    match h : words s with
    | [] => exact absurd h (words_ne s)
    | a :: q => exact ⟨a, q, rfl⟩
  have hpos : 0 < (words s).length := by rw [hw0]; simp
  have hw0l : w0.length ≤ 4000000000 := hww w0 (by rw [hw0]; simp)
  have HNO := Lib.hid (fun h => begin_no hw0 h)
  have HYES := Lib.hid (fun h => begin_yes hw0 h)
  have HW0 := Lib.hid (show (wcol 1 (words s))[0]? = some (w0, 1) from by rw [hw0]; rfl)
  have HWW := Lib.hid hww
  clear hww hw0
  obtain ⟨out, hout⟩ : ∃ o, o = parseS s := ⟨_, rfl⟩
  rw [← hout]
  have HOUT := Lib.hid hout
  clear hout
  go_enter Tryz.func17, Tryz.ntmps17
  go_upto_region 1 with (fail)
  have R : Blk (w.alloc (.cells Z13 26)) w.heap.size leg0.arr := Blk.new w Z13 26
  have B := alloc_below w (.cells Z13 26)
  generalize w.alloc _ = W0 at R B ⊢
  obtain ⟨g, hg0⟩ : ∃ g, g = w.heap.size := ⟨_, rfl⟩
  rw [← hg0] at R ⊢
  have hg := Nat.le_of_eq hg0.symm
  clear hg0
  go_wp2_with fail
  refine (rsplit_any s W0 (by omega)).mono ?_
  rintro e w1 ⟨v, rfl, hO, hB1⟩
  obtain ⟨A, c, rfl, hc, hS, hA⟩ := hO.form
  obtain ⟨b, rfl, hb, hcell⟩ := hS.at_ (by intro h; rw [h] at hwlen; simp at hwlen; omega)
  have hAb : W0.heap.size ≤ b := hA _ rfl
  rw [hwlen]
  have hwlen' := Lib.hid hwlen
  rw [hwlen] at hc
  have R1 := R.step hB1
  have B1 := below_step B hB1
  have hgb : g < b := by have := R.lt; omega
  have h00 : w1.cell? ⟨b, 0, none⟩ = some (.string ⟨w0.toArray⟩) := by have := hcell 0 _ HW0.out 0 (by omega); simpa [WC.arr] using this
  clear R B hB1 hO hS hA hwlen hAb
  go_wp2_with fail
  with_reducible refine callP (rkind_any w0 w1) ?_
  have HK0 := Lib.hid (fun h => HNO.out h)
  have HK1 := Lib.hid (fun h => HYES.out h)
  clear HNO HYES
  generalize kindS w0 = t at HK0 HK1 ⊢
  go_upto_region 3 with (fail)
  have X : Blk (w1.alloc (.cells #[.int .u8 t, .string ⟨#[]⟩, .string ⟨#[]⟩, .int .u8 0, .bool false, .int .i64 0, .int .i64 0, .int .i64 0, .int .i64 0, .int .i64 (-200000), .int .i64 6000000, .int .i64 0, .int .i64 0] 26)) w1.heap.size ({ legOpen with ty := t } : Leg).arr := Blk.new w1 _ 26
  have R2 := R1.alloc (.cells #[.int .u8 t, .string ⟨#[]⟩, .string ⟨#[]⟩, .int .u8 0, .bool false, .int .i64 0, .int .i64 0, .int .i64 0, .int .i64 0, .int .i64 (-200000), .int .i64 6000000, .int .i64 0, .int .i64 0] 26)
  have A2 := alloc_below w1 (.cells #[.int .u8 t, .string ⟨#[]⟩, .string ⟨#[]⟩, .int .u8 0, .bool false, .int .i64 0, .int .i64 0, .int .i64 0, .int .i64 0, .int .i64 (-200000), .int .i64 6000000, .int .i64 0, .int .i64 0] 26)
  have B2 := below_step B1 A2
  have hcell2 : ∀ i x, (wcol 1 (words s))[i]? = some x → ∀ j, j < 2 → (w1.alloc (.cells #[.int .u8 t, .string ⟨#[]⟩, .string ⟨#[]⟩, .int .u8 0, .bool false, .int .i64 0, .int .i64 0, .int .i64 0, .int .i64 0, .int .i64 (-200000), .int .i64 6000000, .int .i64 0, .int .i64 0] 26)).cell? ⟨b, i * 2 + j, none⟩ = x.arr[j]? := fun i x hx j hj => by rw [A2.cell (p := ⟨b, _, none⟩) hb]; exact hcell i x hx j hj
  have hglt : g < w1.heap.size := R1.lt
  have hb2 : b < w1.heap.size + 1 := by omega
  have hlbw : w.heap.size ≤ w1.heap.size := B1.size
  have hsz2 : (w1.alloc (.cells #[.int .u8 t, .string ⟨#[]⟩, .string ⟨#[]⟩, .int .u8 0, .bool false, .int .i64 0, .int .i64 0, .int .i64 0, .int .i64 0, .int .i64 (-200000), .int .i64 6000000, .int .i64 0, .int .i64 0] 26)).heap.size = w1.heap.size + 1 := by simp
  clear R1 B1 A2 hcell h00
  generalize w1.alloc _ = w2 at X R2 B2 hcell2 hsz2 ⊢
  generalize w1.heap.size = lb at X hb hglt hb2 hlbw hsz2 ⊢
  have HC := Lib.hid hcell2
  clear hcell2
  have c6 := X.cell 0
  by_cases ht : t = 0
  · subst ht
    have HO := Lib.hid (HOUT.out.trans (HK0.out rfl))
    clear HK0 HK1 HOUT HC
    have d2 := R2.plain
    have d3 : blkOf w2 g = leg0.arr := R2.of
    rw [leg0_arr] at d3
    go_wp2
    refine bodyPost_ret (results_leg3 Tryz.results17 _ _ g leg0 rfl (is_leg0 R2)) rfl ?_
    have Bf := below_setRow' B2 hg leg0.arr
    rw [leg0_arr] at Bf
    exact Ret.parse HO.out Bf
  · have ht0 : (t == 0) = false := by simpa using ht
    have hky := HK1.out ht
    have kn := hky.1
    have HF := Lib.hid hky.2
    have KN := Lib.hid kn
    clear HK0 HK1 hky kn ht
    have hus := usesStr_len t
    go_upto_region 7 with (go_at_call 33; ((with_reducible refine callP (ruses_any _ _) ?_)))
    generalize hu : usesStr t = u at hus ⊢
    have HU := Lib.hid hu
    clear hu c6
    have kc := Lib.run_convert_bytes_const (P := Tryz.prog) w2 73 5 F7 7 7 Tryz.underlying73 Tryz.underlying5
    rw [hsz2] at kc
    have hcell7 : ∀ j, (w2.alloc (.cells F7 5 (7, 8))).cell? ⟨lb + 1, j, none⟩ = F7[j]? := fun j => by
      rw [← hsz2]; exact cell_of_row _ _ j F7 5 (7, 8) (heap_alloc_new w2 _)
    have H7 := Lib.hid hcell7
    clear hcell7
    go_wp2
    clear kc
    have X3 := X.alloc (.cells F7 5 (7, 8))
    have R3 := R2.alloc (.cells F7 5 (7, 8))
    have A3 := alloc_below w2 (.cells F7 5 (7, 8))
    have B3 := below_step B2 A3
    have HC3 : Hid (∀ i x, (wcol 1 (words s))[i]? = some x → ∀ j, j < 2 → (w2.alloc (.cells F7 5 (7, 8))).cell? ⟨b, i * 2 + j, none⟩ = x.arr[j]?) := Lib.hid (fun i x hx j hj => by rw [A3.cell (p := ⟨b, _, none⟩) (by show b < _; omega)]; exact HC.out i x hx j hj)
    have hsz3 : (w2.alloc (.cells F7 5 (7, 8))).heap.size = lb + 1 + 1 := by simp [hsz2]
    clear X R2 B2 A3 HC hsz2
    generalize w2.alloc _ = w3 at X3 R3 B3 HC3 hsz3 H7 ⊢
    go_loopw [8, 34] (fun kv jv wr => ∃ (k j : Nat) (l : Leg), kv = .int .i64 k ∧ jv = .int .i64 j ∧ j ≤ 7 ∧ k ≤ (words s).length ∧ F1 s t j k l ∧ Blk wr lb l.arr ∧ Blk wr g leg0.arr ∧ Touch [lb] w3 wr) (fun _ jv _ => 7 - (intOf jv).toNat)
    case atStart => exact ⟨1, 0, _, rfl, rfl, by omega, by omega, HF.out, X3, R3, Touch.refl _ _⟩
    case round =>
      obtain ⟨k, j, l, rfl, rfl, hj, hk, hF, Xl, Rl, T⟩ := hrel
      rename_i wr
      have hBw := T.below B3 (by simp; omega)
      by_cases hj7 : j < 7
      · obtain ⟨cc, m, f, hFL, hput, hfok, hkp, hhas, hcc⟩ := letter_at s.length j hj7
        have q1 : wr.cell? ⟨lb + 1, j, none⟩ = some (.int .u8 cc) := by
          rw [T.cell (by simp) (by omega), H7.out]
          match j, hj7, hcc with
          | 0, _, h | 1, _, h | 2, _, h | 3, _, h | 4, _, h | 5, _, h | 6, _, h => simp at h; subst h; rfl
        have kh := Lib.hid (fun W => rhas_any u cc W (by omega))
        have hbit : hasI u cc = uB t m := by rw [← HU.out]; exact hhas t KN.out
        rw [hbit] at kh
        have HF1 := Lib.hid hF
        have HFL := Lib.hid hFL
        have HKP := Lib.hid hkp
        have HFO := Lib.hid hfok
        clear hF hFL hkp hfok hhas hcc hbit
        cases hu : uB t m
        · have HUB := Lib.hid hu
          rw [hu] at kh
          clear hu
          go_wp2_with (go_at_call 35; ((with_reducible refine callP (kh.out _) ?_)))
          go_roundw
          case rel => exact ⟨k, j + 1, l, rfl, by go_num, by omega, hk, F1.skip HF1.out HFL.out HUB.out, Xl, Rl, T⟩
          case measure => simp [intOf]; omega
        · have HUB := Lib.hid hu
          rw [hu] at kh
          clear hu
          by_cases hkk : k = (words s).length
          · have HO := Lib.hid (HOUT.out.trans (F1.out HF1.out HFL.out HUB.out hkk))
            subst hkk
            have d2 := Rl.plain
            have d3 : blkOf wr g = leg0.arr := Rl.of
            rw [leg0_arr] at d3
            go_wp2_with (go_at_call 35; ((with_reducible refine callP (kh.out _) ?_)))
            refine bodyPost_ret (results_leg3 Tryz.results17 _ _ g leg0 rfl (is_leg0 Rl)) rfl ?_
            have Bf := below_setRow' hBw hg leg0.arr
            rw [leg0_arr] at Bf
            exact Ret.parse HO.out Bf
          · have hkl : k < (words s).length := by omega
            obtain ⟨col, hent⟩ := wcol_get (words s) 1 k hkl
            have hcs := HC3.out k _ hent
            have q2 : wr.cell? ⟨b, k * 2, none⟩ = some (.string ⟨(words s)[k].toArray⟩) := by
              have := hcs 0 (by omega)
              rw [T.cell (by simp; omega) (by omega)]
              simpa [WC.arr] using this
            have hq3 : wr.cell? ⟨b, k * 2 + 1, none⟩ = some (.int .i64 col) := by
              have := hcs 1 (by omega)
              rw [T.cell (by simp; omega) (by omega)]
              simpa [WC.arr] using this
            have hbwr : b < wr.heap.size := by have := T.size; omega
            have HENT := Lib.hid hent
            have hwd := HWW.out (words s)[k] (List.getElem_mem hkl)
            have kp := Lib.hid (hput wr lb (words s)[k] l Xl hwd)
            clear hcs hent hput
            cases hy : (f (words s)[k] l).2
            · have HO := Lib.hid (show out = (leg0, col, 4) from by
                obtain ⟨col', h1, h2⟩ := F1.not HF1.out HFL.out HUB.out hkl hy
                rw [HENT.out] at h1
                injection h1 with h1
                injection h1 with _ h1
                rw [HOUT.out, h2, h1])
              have HY := Lib.hid hy
              clear hy
              generalize (words s)[k] = wd at q2 kp HY hwd
              go_wp2_with (go_at_call 35; ((with_reducible refine callP (kh.out _) ?_)))
              refine kp.out.mono ?_
              rintro e w4 ⟨l', rfl, T4, X4, hl'⟩
              rw [HY.out]
              have R4 := T4.blk (by simp; omega) Rl
              have B4 := T4.below hBw (by simp; omega)
              have q3 : w4.cell? ⟨b, k * 2 + 1, none⟩ = some (.int .i64 col) := by rw [T4.cell (by simp; omega) hbwr]; exact hq3
              clear hq3 q2 q1 hl' kp
              go_upto_region 14 with (fail)
              have R4d : Blk w4.drew g leg0.arr := R4
              have d2 := R4.plain
              have d3 : blkOf w4 g = leg0.arr := R4.of
              have d4 := R4d.plain
              have d5 := R4d.of
              rw [leg0_arr] at d3 d5
              have nbg : ¬ b = g := by omega
              go_region
              rename_i hK
              refine hK _ _ (wp_ret ?_)
              show bodyPost Tryz.prog _ _ Exit.ret _ _
              refine bodyPost_ret (results_leg3 Tryz.results17 _ _ g leg0 rfl (is_leg0 R4d)) rfl ?_
              have Bf := below_setRow' B4.drew hg leg0.arr
              rw [leg0_arr] at Bf
              exact Ret.parse HO.out Bf
            · have HN := Lib.hid (F1.yes HF1.out HFL.out HUB.out hkl HFO.out HKP.out hy)
              have HY := Lib.hid hy
              clear hy
              generalize (words s)[k] = wd at q2 kp HY hwd HN
              go_wp2_with (go_at_call 35; ((with_reducible refine callP (kh.out _) ?_)))
              refine kp.out.mono ?_
              rintro e w4 ⟨l', rfl, T4, X4, hl'⟩
              rw [HY.out]
              have hl2 := Lib.hid (hl' HY.out)
              have R4 := T4.blk (by simp; omega) Rl
              clear hq3 q2 q1 hl' kp
              go_wp2
              go_roundw
              case rel => exact ⟨k + 1, j + 1, l', by go_num, by go_num, by omega, by omega, by rw [hl2.out]; exact HN.out, X4, R4, T.trans T4⟩
              case measure => simp [intOf]; omega
      · have hj77 : j = 7 := by omega
        subst hj77
        rw [show ((7 : Nat) : Int) = 7 from rfl]
        have HF2 := Lib.hid (F1.end hF)
        clear hF HF
        have hws : wr.heap.size = wr.heap.size := rfl
        have HC4 : Hid (∀ i x, (wcol 1 (words s))[i]? = some x → ∀ j, j < 2 → wr.cell? ⟨b, i * 2 + j, none⟩ = x.arr[j]?) := Lib.hid (fun i x hx j hj => by rw [T.cell (by simp; omega) (by omega)]; exact HC3.out i x hx j hj)
        have hbwr : b < wr.heap.size := by have := T.size; omega
        have hlbr : lb < wr.heap.size := by have := T.size; omega
        clear H7 HC3 X3 R3 B3 T hsz3 hws
        generalize hwv : wr = w5 at Xl Rl hBw HC4 hbwr hlbr ⊢
        clear hwv
        go_wp2
        go_loopw [8, 11] (fun kv nv wr => ∃ (k nx : Nat) (l : Leg), kv = .int .i64 k ∧ nv = .int .i64 nx ∧ nx ≤ 4 ∧ k ≤ (words s).length ∧ F2 s nx k l ∧ Blk wr lb l.arr ∧ Blk wr g leg0.arr ∧ Touch [lb] w5 wr) (fun kv _ _ => (words s).length - (intOf kv).toNat)
        case atStart => exact ⟨k, 0, l, rfl, rfl, by omega, hk, HF2.out, Xl, Rl, Touch.refl _ _⟩
        case round =>
          clear HF2 Xl Rl
          obtain ⟨k, nx, l, rfl, rfl, hnx, hk, hF, Xl, Rl, T⟩ := hrel
          rename World => wo
          have hBo := T.below hBw (by simp; omega)
          by_cases hkl : k < (words s).length
          · obtain ⟨col, hent⟩ := wcol_get (words s) 1 k hkl
            have hcs := HC4.out k _ hent
            have q2 : wo.cell? ⟨b, k * 2, none⟩ = some (.string ⟨(words s)[k].toArray⟩) := by
              rw [T.cell (by simp; omega) hbwr]
              simpa [WC.arr] using hcs 0 (by omega)
            have q3 : wo.cell? ⟨b, k * 2 + 1, none⟩ = some (.int .i64 col) := by
              rw [T.cell (by simp; omega) hbwr]
              simpa [WC.arr] using hcs 1 (by omega)
            have hbwo : b < wo.heap.size := by have := T.size; omega
            have hlwo : lb < wo.heap.size := Xl.lt
            have hgwo : g < wo.heap.size := Rl.lt
            have HENT := Lib.hid hent
            have hwd := HWW.out (words s)[k] (List.getElem_mem hkl)
            have HF2 := Lib.hid hF
            have HQ := Lib.hid (And.intro q2 q3)
            clear hcs hent hF q2 q3
            go_wp2
            go_loopw [11, 12] (fun nv fv wr => ∃ (nx : Nat) (fi : Bool) (l : Leg), nv = .int .i64 nx ∧ fv = .bool fi ∧ nx ≤ 4 ∧ F2 s nx (if fi then k + 1 else k) l ∧ Blk wr lb l.arr ∧ Blk wr g leg0.arr ∧ Touch [lb] wo wr) (fun nv _ _ => 4 - (intOf nv).toNat)
            case atStart => exact ⟨nx, false, l, rfl, rfl, hnx, HF2.out, Xl, Rl, Touch.refl _ _⟩
            case round =>
              clear HF2 Xl Rl
              obtain ⟨nx, fi, l, rfl, rfl, hnx, hF, Xl, Rl, T3⟩ := hrel
              rename World => wi
              have hBi := T3.below hBo (by simp; omega)
              have hbwi : b < wi.heap.size := by have := T3.size; omega
              have hwoi := T3.size
              have q2 : wi.cell? ⟨b, k * 2, none⟩ = some (.string ⟨(words s)[k].toArray⟩) := by
                rw [T3.cell (by simp; omega) hbwo]; exact HQ.out.1
              have q3 : wi.cell? ⟨b, k * 2 + 1, none⟩ = some (.int .i64 col) := by
                rw [T3.cell (by simp; omega) hbwo]; exact HQ.out.2
              cases fi
              · have hFk : F2 s nx k l := hF
                clear hF
                by_cases h4 : nx < 4
                · obtain ⟨cc, f, hOL, hput, hfok, hsame, hcc⟩ := option_at s.length nx h4
                  have HN0 := Lib.hid (fun h1 h2 => F2.not hFk hOL hkl h1 h2)
                  have HY0 := Lib.hid (fun h1 => F2.yes hFk hOL hkl hfok h1)
                  have HSM := Lib.hid (fun (h1 : (f (words s)[k] l).2 = false) h2 => hsame (words s)[k] l h1 h2)
                  have HCC := Lib.hid hcc
                  clear hFk hOL hfok hsame hcc q3
                  have i1 : Has_leg wi lb 0 := ⟨_, Xl.is_leg⟩
                  have i2 : of_leg wi lb 0 = l := of_leg_eq Xl.is_leg
                  generalize (words s)[k] = wd at q2 hwd HN0 HY0 HSM HENT HQ
                  go_upto_region 24 with (fail)
                  have Xm := Blk.new wi l.arr 26
                  have X4 := Xl.alloc (.cells l.arr 26)
                  have R4 := Rl.alloc (.cells l.arr 26)
                  have A4 := alloc_below wi (.cells l.arr 26)
                  have T4 : Touch [lb] wo (wi.alloc (.cells l.arr 26)) := T3.trans (Touch.of A4)
                  have q4 : (wi.alloc (.cells l.arr 26)).cell? ⟨b, k * 2, none⟩ = some (.string ⟨wd.toArray⟩) := by rw [A4.cell (p := ⟨b, _, none⟩) hbwi]; exact q2
                  have hlm : lb < wi.heap.size := Xl.lt
                  have hgm : g < wi.heap.size := Rl.lt
                  clear i1 i2 q2 Xl Rl A4 T3
                  generalize wi.alloc _ = w6 at Xm X4 R4 T4 q4 ⊢
                  generalize wi.heap.size = mb at Xm hlm hgm hwoi ⊢
                  have kp : Hid (∀ W, Blk W mb l.arr → Calls Tryz.prog 64 #[.pointer (some ⟨mb, 0, none⟩), .int .u8 cc, .string ⟨wd.toArray⟩] W (RetPut mb W (f wd l))) := Lib.hid (fun W h => hput W mb wd l h hwd)
                  clear hput
                  have Xmd : Blk w6.drew mb l.arr := Xm
                  go_cut [89] (fun v wx => ∃ l' : Leg, v = .bool (f wd l).2 ∧ Touch [mb] w6 wx ∧ Blk wx mb l'.arr ∧ ((f wd l).2 = true → l' = (f wd l).1))
                  case first =>
                    have hcc := HCC.out
                    rcases (by omega : nx = 0 ∨ nx = 1 ∨ nx = 2 ∨ nx = 3) with rfl | rfl | rfl | rfl
                    all_goals
                      simp at hcc
                      subst hcc
                      go_region_with (go_at_call 64; refine (kp.out _ Xmd).mono ?_; rintro e w7 ⟨l', rfl, t7, x7, hl7⟩)
                      all_goals (go_wp2; go_meet; exact ⟨l', rfl, ((Touch.refl [mb] w6).drew).trans t7, x7, hl7⟩)
                  case rest =>
                    obtain ⟨l', rfl, t7, x7, hl7⟩ := hcut
                    have X7 := t7.blk (by simp; omega) X4
                    have R7 := t7.blk (by simp; omega) R4
                    have T7 := touch_new T4 t7 hwoi
                    clear q4 Xm Xmd X4 R4 T4 t7
                    cases hy : (f wd l).2
                    · have HN1 := Lib.hid (HN0.out hy)
                      have HS1 := Lib.hid (HSM.out hy)
                      clear hy hl7
                      go_wp2
                      go_roundw
                      case rel => exact ⟨nx + 1, false, l, by go_num, rfl, by omega, HN1.out (fun h => HS1.out h), X7, R7, T7⟩
                      case measure => simp [intOf]; omega
                    · have HY1 := Lib.hid (HY0.out hy)
                      have hl8 := Lib.hid (hl7 hy)
                      clear hy hl7
                      have i1 : Has_leg wc mb 0 := ⟨_, x7.is_leg⟩
                      have i2 : of_leg wc mb 0 = l' := of_leg_eq x7.is_leg
                      have d2 := X7.plain
                      have d3 : blkOf wc lb = l.arr := X7.of
                      go_wp2
                      go_roundw
                      case rel =>
                        refine ⟨nx + 1, true, l', by go_num, rfl, by omega, by rw [hl8.out]; exact HY1.out, X7.set _, R7.far (by omega) _, ?_⟩
                        exact T7.trans (touch_setRow _ _)
                      case measure => simp [intOf]; omega
                · have h44 : nx = 4 := by omega
                  subst h44
                  have HO := Lib.hid (show out = (leg0, col, 4) from by
                    obtain ⟨col', h1, h2⟩ := F2.left hFk hkl
                    rw [HENT.out] at h1
                    injection h1 with h1
                    injection h1 with _ h1
                    rw [HOUT.out, h2, h1])
                  clear hFk q2
                  go_upto_region 27 with (fail)
                  have R4d : Blk wi.drew g leg0.arr := Rl
                  have d2 := Rl.plain
                  have d3 : blkOf wi g = leg0.arr := Rl.of
                  have d4 := R4d.plain
                  have d5 := R4d.of
                  rw [leg0_arr] at d3 d5
                  have nbg : ¬ b = g := by omega
                  go_region
                  rename_i hK
                  refine hK _ _ (wp_ret ?_)
                  show bodyPost Tryz.prog _ _ Exit.ret _ _
                  refine bodyPost_ret (results_leg3 Tryz.results17 _ _ g leg0 rfl (is_leg0 R4d)) rfl ?_
                  have Bf := below_setRow' hBi.drew hg leg0.arr
                  rw [leg0_arr] at Bf
                  exact Ret.parse HO.out Bf
              · have HF3 : Hid (F2 s nx (k + 1) l) := Lib.hid hF
                clear hF q2 q3
                by_cases h4 : nx < 4
                all_goals
                  go_wp2
                  go_roundw
                  case rel => exact ⟨k + 1, nx, l, by go_num, rfl, hnx, by omega, HF3.out, Xl, Rl, T.trans T3⟩
                  case measure => simp [intOf]; omega
          · have hkk : k = (words s).length := by omega
            have HO := Lib.hid (HOUT.out.trans (F2.fin hF hkk))
            have hsm := F2.small hF (by omega)
            have kc := Lib.hid (fun W => rcheck_any l W hsm)
            clear hF hsm
            subst hkk
            have i1 : Has_leg wo lb 0 := ⟨_, Xl.is_leg⟩
            have i2 : of_leg wo lb 0 = l := of_leg_eq Xl.is_leg
            go_wp2_with fail
            with_reducible refine callR (kc.out _) ?_
            intro w6 b6 _ _ _
            have R6 := Rl.step b6
            have B6 := below_step hBo b6
            have X6 := Xl.step b6
            clear i1 i2
            have i1 : Has_leg w6 lb 0 := ⟨_, X6.is_leg⟩
            have i2 : of_leg w6 lb 0 = l := of_leg_eq X6.is_leg
            have d2 := R6.plain
            have d3 : blkOf w6 g = leg0.arr := R6.of
            rw [leg0_arr] at d3
            by_cases he : legCheck l = 0
            · have HO2 := Lib.hid (HO.out.trans (if_neg (by simp [he])))
              have f4 : splice leg0.arr 0 l.arr = l.arr := rfl
              rw [leg0_arr] at f4
              rw [he]
              clear he HO
              go_wp2
              refine bodyPost_ret (results_leg3 Tryz.results17 _ _ g l rfl (Blk.is_leg (x := l) (R6.set _))) rfl ?_
              exact Ret.parse HO2.out (below_setRow' B6 hg _)
            · have HO2 := Lib.hid (HO.out.trans (if_pos he))
              have he1 : (legCheck l == 0) = false := by simpa using he
              clear he HO
              generalize legCheck l = ec at he1 HO2 ⊢
              go_wp2
              refine bodyPost_ret (results_leg3 Tryz.results17 _ _ g leg0 rfl (is_leg0 R6)) rfl ?_
              have Bf := below_setRow' B6 hg leg0.arr
              rw [leg0_arr] at Bf
              exact Ret.parse HO2.out Bf
end Go.Proofs.YtjijpkimlgbepaaGreatDoor
