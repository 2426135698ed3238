/- Lemmas and walks. -/
import Derived.Test.YtnmpfmelaninbaaGreatDoorQk35
import Derived.Test.YtnmpfmelaninbaaGreatDoorQk33
import Derived.Test.YtnmpfmelaninbaaGreatDoorQk12
import Derived.Test.YtnmpfmelaninbaaGreatDoorQk38
import Derived.Test.YtnmpfmelaninbaaGreatDoorQk40
set_option linter.unusedSimpArgs false
set_option linter.unusedVariables false
namespace Go.Proofs.YtnmpfmelaninbaaGreatDoor
open Go.RowKit Go.Sort
set_option maxRecDepth 100000

def bawy (parts : Array (Nat × Value)) : Sem Value := Instr.build 118 parts
theorem bawy_fold (parts : Array (Nat × Value)) : Instr.build 118 parts = bawy parts := rfl
theorem run_bawy0 (w : World) : (bawy #[]).run Tryz.prog w = .ok (.agg #[.string ⟨#[]⟩, .slice none 0 0]) w := run_build w _ _ _ (by kernel_rfl)
def bprc (parts : Array (Nat × Value)) : Sem Value := Instr.build 188 parts
theorem bprc_fold (parts : Array (Nat × Value)) : Instr.build 188 parts = bprc parts := rfl
theorem run_bprc0 (w : World) : (bprc #[]).run Tryz.prog w = .ok (.agg #[.string ⟨#[]⟩, .string ⟨#[]⟩, .int .u8 0, .slice none 0 0]) w := run_build w _ _ _ (by kernel_rfl)
attribute [local go_sem ↓] bawy_fold bprc_fold
attribute [local go_sem] Has_db_alloc5 of_db_alloc5 Has_db_drew5 of_db_drew5 run_bawy0 run_bprc0 
set_option maxHeartbeats 2000000 in
theorem eawy0 (cs : Array Value) (c7 : cs[7]? = some (.slice none 0 0)) (n : List UInt8) (w : World) : Calls Tryz.prog 185 #[.agg cs, .string ⟨n.toArray⟩] w (Ret w (.tuple #[.agg #[.string ⟨#[]⟩, .slice none 0 0], .int .i64 6])) := by
  go_enter Tryz.func185, Tryz.ntmps185
  go_upto_region 1 with (fail)
  have X0 : Blk (w.alloc (.cells cs 43)) w.heap.size cs := Blk.new w _ _
  have B0 := alloc_below5 w (.cells cs 43)
  have hsz : (w.alloc (.cells cs 43)).heap.size = w.heap.size + 1 := World.size_alloc _ _
  generalize w.alloc _ = W0 at X0 B0 hsz ⊢
  rw [← hsz]
  have Y1 : Blk (W0.alloc (.cells #[.string ⟨#[]⟩, .slice none 0 0] 118)) W0.heap.size #[.string ⟨#[]⟩, .slice none 0 0] := Blk.new W0 _ _
  have B1 := below_step B0 (alloc_below5 W0 (.cells #[.string ⟨#[]⟩, .slice none 0 0] 118))
  have X1 := X0.alloc (.cells #[.string ⟨#[]⟩, .slice none 0 0] 118)
  have hgle : w.heap.size ≤ W0.heap.size := B0.size
  generalize W0.alloc _ = W at Y1 B1 X1 ⊢
  generalize W0.heap.size = g1 at Y1 hgle ⊢
  generalize w.heap.size = g0 at X1 ⊢
  have k7 : W.cell? ⟨g0, 7, none⟩ = some (.slice none 0 0) := (X1.cell 7).trans c7
  have d2 := Y1.plain
  have d3 := Y1.of
  clear X0 hsz
  go_wp2
  go_loopw [11] (fun i wr => i = .int .i64 0 ∧ wr = W) (fun _ _ => 0)
  case atStart => exact ⟨rfl, rfl⟩
  case round =>
    obtain ⟨rfl, rfl⟩ := hrel
    have f3 : splice #[.string ⟨#[]⟩, .slice none 0 0] 0 #[.string ⟨#[]⟩, .slice none 0 0] = #[.string ⟨#[]⟩, .slice none 0 0] := rfl
    go_wp2
    exact bodyPost_ret (results_agg Tryz.results185 _ _ g1 #[.string ⟨#[]⟩, .slice none 0 0] 2 _ rfl rfl (Y1.set _).cell Tryz.underlying118 rfl info_awy) rfl ⟨rfl, below_setRow' B1 hgle _⟩
set_option maxHeartbeats 2000000 in
theorem eidx0 (f : Value) (w : World) : Calls Tryz.prog 318 #[.slice none 0 0, f] w (RetP w (.int .i64 (-1))) := by
  go_enter Tryz.func318, Tryz.ntmps318
  go_wp2
  go_loopw [8] (fun i wr => i = .int .i64 0 ∧ wr = w) (fun _ _ => 0)
  case atStart => exact ⟨rfl, rfl⟩
  case round =>
    obtain ⟨rfl, rfl⟩ := hrel
    go_wp2
    go_ret
    exact RetP.int rfl rfl
set_option maxHeartbeats 2000000 in
theorem epfind0 (a n : List UInt8) (k : Int) (w : World) : Calls Tryz.prog 291 #[.slice none 0 0, .string ⟨a.toArray⟩, .int .u8 k, .string ⟨n.toArray⟩] w (Ret w (.tuple #[.agg #[.string ⟨#[]⟩, .string ⟨#[]⟩, .int .u8 0, .slice none 0 0], .bool false])) := by
  go_enter Tryz.func291, Tryz.ntmps291
  go_upto_region 1 with (fail)
  generalize hW : (((w.alloc _).alloc _).alloc _) = W
  have B0 : Below w.heap.size w W := by rw [← hW]; go_grown
  have hz : W.heap.size = w.heap.size + 1 + 1 + 1 := by rw [← hW]; simp
  try rw [← hz]
  clear hW
  have Y1 : Blk (W.alloc (.cells #[.string ⟨#[]⟩, .string ⟨#[]⟩, .int .u8 0, .slice none 0 0] 188)) W.heap.size #[.string ⟨#[]⟩, .string ⟨#[]⟩, .int .u8 0, .slice none 0 0] := Blk.new W _ _
  have B1 := below_step B0 (alloc_below5 W (.cells #[.string ⟨#[]⟩, .string ⟨#[]⟩, .int .u8 0, .slice none 0 0] 188))
  have hgle : w.heap.size ≤ W.heap.size := B0.size
  generalize W.alloc _ = W1 at Y1 B1 ⊢
  generalize W.heap.size = g1 at Y1 hgle ⊢
  have d2 := Y1.plain
  have d3 := Y1.of
  have f3 : splice #[.string ⟨#[]⟩, .string ⟨#[]⟩, .int .u8 0, .slice none 0 0] 0 #[.string ⟨#[]⟩, .string ⟨#[]⟩, .int .u8 0, .slice none 0 0] = #[.string ⟨#[]⟩, .string ⟨#[]⟩, .int .u8 0, .slice none 0 0] := rfl
  go_wp2_with (go_at_call 318; (with_reducible refine callP (eidx0 _ _) ?_))
  exact bodyPost_ret (results_agg Tryz.results291 _ _ g1 #[.string ⟨#[]⟩, .string ⟨#[]⟩, .int .u8 0, .slice none 0 0] 4 _ rfl rfl (Y1.set _).cell Tryz.underlying188 rfl info_prc) rfl ⟨rfl, below_setRow' B1 hgle _⟩
set_option maxHeartbeats 2000000 in
theorem eproc0 (cs : Array Value) (c8 : cs[8]? = some (.slice none 0 0)) (a n : List UInt8) (k : Int) (w : World) : Calls Tryz.prog 246 #[.agg cs, .string ⟨a.toArray⟩, .int .u8 k, .string ⟨n.toArray⟩] w (Ret w (.tuple #[.agg #[.string ⟨#[]⟩, .string ⟨#[]⟩, .int .u8 0, .slice none 0 0], .int .i64 6])) := by
  go_enter Tryz.func246, Tryz.ntmps246
  go_upto_region 1 with (fail)
  have X0 : Blk (w.alloc (.cells cs 43)) w.heap.size cs := Blk.new w _ _
  have B0 := alloc_below5 w (.cells cs 43)
  have hsz : (w.alloc (.cells cs 43)).heap.size = w.heap.size + 1 := World.size_alloc _ _
  generalize w.alloc _ = W0 at X0 B0 hsz ⊢
  rw [← hsz]
  have Y1 : Blk (W0.alloc (.cells #[.string ⟨#[]⟩, .string ⟨#[]⟩, .int .u8 0, .slice none 0 0] 188)) W0.heap.size #[.string ⟨#[]⟩, .string ⟨#[]⟩, .int .u8 0, .slice none 0 0] := Blk.new W0 _ _
  have B1 := below_step B0 (alloc_below5 W0 (.cells #[.string ⟨#[]⟩, .string ⟨#[]⟩, .int .u8 0, .slice none 0 0] 188))
  have X1 := X0.alloc (.cells #[.string ⟨#[]⟩, .string ⟨#[]⟩, .int .u8 0, .slice none 0 0] 188)
  have hgle : w.heap.size ≤ W0.heap.size := B0.size
  generalize W0.alloc _ = W at Y1 B1 X1 ⊢
  generalize W0.heap.size = g1 at Y1 hgle ⊢
  generalize w.heap.size = g0 at X1 ⊢
  have k8 : W.cell? ⟨g0, 8, none⟩ = some (.slice none 0 0) := (X1.cell 8).trans c8
  have kf := Lib.hid (epfind0 a n k W)
  have f3 : splice #[.string ⟨#[]⟩, .string ⟨#[]⟩, .int .u8 0, .slice none 0 0] 0 #[.string ⟨#[]⟩, .string ⟨#[]⟩, .int .u8 0, .slice none 0 0] = #[.string ⟨#[]⟩, .string ⟨#[]⟩, .int .u8 0, .slice none 0 0] := rfl
  clear X0 hsz
  go_upto_region 3 with (go_at_call 291; (with_reducible refine callR kf.out ?_); intro w2 b2 _ _ _)
  have Y2 := (Y1.step b2).alloc (.cells #[.string ⟨#[]⟩, .string ⟨#[]⟩, .int .u8 0, .slice none 0 0] 188)
  have B2 := below_step (below_step B1 b2) (alloc_below5 w2 (.cells #[.string ⟨#[]⟩, .string ⟨#[]⟩, .int .u8 0, .slice none 0 0] 188))
  generalize w2.alloc _ = W2 at Y2 B2 ⊢
  generalize w2.heap.size = g2 at ⊢
  have d2 := Y2.plain
  have d3 := Y2.of
  clear k8 X1 Y1 B1 b2
  go_wp2
  exact bodyPost_ret (results_agg Tryz.results246 _ _ g1 #[.string ⟨#[]⟩, .string ⟨#[]⟩, .int .u8 0, .slice none 0 0] 4 _ rfl rfl (Y2.set _).cell Tryz.underlying188 rfl info_prc) rfl ⟨rfl, below_setRow' B2 hgle _⟩
theorem results_agg3E {P : Program} {fn : Func} {p t u : Tmp} {ty : TypeId} (h : fn.results = #[.cell p ty, .tmp t, .tmp u]) (tmps : Array Value) (w : World) (g : Nat) (arr : Array Value) (n : Nat) (d : TypeDesc) (hp : tmps.getD p undef = .pointer (some ⟨g, 0, none⟩)) (hn : arr.size = n) (hc : ∀ j, w.cell? ⟨g, j, none⟩ = arr[j]?)
    (hu : P.underlying ty = some d) (hd : (match d with | .struct _ | .array _ _ => true | _ => false) = true) (hi : (P.info? ty).map (·.size) = some n) :
    (results fn tmps).run P w = .ok (.tuple #[.agg arr, tmps.getD t undef, tmps.getD u undef]) w := by
  subst hn
  have hp' : tmps[p]?.getD undef = .pointer (some ⟨g, 0, none⟩) := by simpa using hp
  have hl := run_load_agg (P := P) w ⟨g, 0, none⟩ ty arr.toList _ (fun j v hv => by
    rw [addr_add, Nat.zero_add, hc]
    simpa using hv) hu hd (by simpa using hi)
  simp [results, h, hp', asAddr, hl]
theorem Ed.c16 {w W : World} {g : Nat} {x : Edr} {es : List Entry} (h : Ed w W g x es) : W.cell? ⟨g, 16, none⟩ = some (.string ⟨x.e.name.toArray⟩) := h.blk.cell 16
theorem Ed.c17 {w W : World} {g : Nat} {x : Edr} {es : List Entry} (h : Ed w W g x es) : W.cell? ⟨g, 17, none⟩ = some (.string ⟨x.e.rway.toArray⟩) := h.blk.cell 17
theorem Ed.c18 {w W : World} {g : Nat} {x : Edr} {es : List Entry} (h : Ed w W g x es) : W.cell? ⟨g, 18, none⟩ = some (.string ⟨x.e.trans.toArray⟩) := h.blk.cell 18
set_option maxHeartbeats 4000000 in
theorem elegs0 (x : Edr) (es : List Entry) (g : Nat) (w W : World) (h : Ed w W g x es) (hL : Laid w) (c8 : x.db[8]? = some (.slice none 0 0)) (s : List UInt8) (k : Int) (hs : s.length ≤ 4000000000) :
    Calls Tryz.prog 189 #[.pointer (some ⟨g, 0, none⟩), .string ⟨s.toArray⟩, .int .u8 k] W (Ret W (.tuple #[.agg #[.string ⟨#[]⟩, .string ⟨#[]⟩, .int .u8 0, .slice none 0 0], .slice none 0 0, .int .i64 6])) := by
  have HL := Lib.hid (fun (W' : World) (b : Below w.heap.size w W') => hL.below b)
  go_enter Tryz.func189, Tryz.ntmps189
  go_upto_region 1 with (fail)
  have R0 := Blk.new W #[.string ⟨#[]⟩, .string ⟨#[]⟩, .int .u8 0, .slice none 0 0] 188
  have X0 := h.alloc (.cells #[.string ⟨#[]⟩, .string ⟨#[]⟩, .int .u8 0, .slice none 0 0] 188)
  have B0 := alloc_below5 W (.cells #[.string ⟨#[]⟩, .string ⟨#[]⟩, .int .u8 0, .slice none 0 0] 188)
  generalize W.alloc _ = W0 at R0 X0 B0 ⊢
  obtain ⟨g9, hg9⟩ : ∃ g9, g9 = W.heap.size := ⟨_, rfl⟩
  rw [← hg9] at R0 ⊢
  have hge : W.heap.size ≤ g9 := by omega
  clear hg9 h
  have kc := Lib.hid (cut_ret s 47 W0 (HL.out W0 X0.bel) hs)
  generalize (cutAt 47 s).1 = a at kc
  generalize (cutAt 47 s).2.1 = b at kc
  generalize (cutAt 47 s).2.2 = f at kc
  go_upto_region 2 with (go_at_call 161; (with_reducible refine callR kc.out ?_); intro w1 b1 _ _ _)
  have R1 := R0.step b1
  have X1 := X0.step b1
  have B1 := below_step B0 b1
  have k1 : Has_db w1 g 0 := ⟨_, X1.is_db⟩
  have k2 : of_db w1 g 0 = x.db := of_db_eq X1.is_db
  have c16 := X1.c16
  have hlt := X1.lt
  clear kc X0 R0 B0 b1
  go_cut [12, 13] (fun a e wx => ∃ q, a = .pointer (some ⟨q, 0, none⟩) ∧ e = .int .i64 6 ∧ Blk wx q #[.string ⟨#[]⟩, .string ⟨#[]⟩, .int .u8 0, .slice none 0 0] ∧ Below w1.heap.size w1 wx)
  case first =>
    have kp := Lib.hid (fun w' => eproc0 x.db c8 a x.e.name k w')
    generalize x.db = cs at *
    generalize x.e.name = nm at *
    clear R1 X1 B1
    go_region_with (go_at_call 246; (with_reducible refine callR (kp.out _) ?_); intro w2 b2 _ _ _; first | (have Y2 : Blk w2 w1.heap.size #[.string ⟨#[]⟩, .string ⟨#[]⟩, .int .u8 0, .slice none 0 0] := (((Blk.new w1 _ 188).step (Below.refl _ _).drew)).step b2; have e2 := below_step (alloc_below5 w1 (.cells #[.string ⟨#[]⟩, .string ⟨#[]⟩, .int .u8 0, .slice none 0 0] 188)).drew b2; have d2 := Y2.plain; have d3 := Y2.of; have d4 : splice #[.string ⟨#[]⟩, .string ⟨#[]⟩, .int .u8 0, .slice none 0 0] 0 #[.string ⟨#[]⟩, .string ⟨#[]⟩, .int .u8 0, .slice none 0 0] = #[.string ⟨#[]⟩, .string ⟨#[]⟩, .int .u8 0, .slice none 0 0] := rfl) | skip)
    all_goals
      go_wp2
      go_meet
      first
        | exact ⟨_, rfl, rfl, Blk.new _ _ _, below_step (Below.refl _ _).drew (below_step b2 (alloc_below5 _ _))⟩
        | exact ⟨_, rfl, rfl, Y2.set _, below_setRow' e2 (Nat.le_refl _) _⟩
  case rest =>
    obtain ⟨q, rfl, rfl, Q, BC⟩ := hcut
    have R2 := R1.step BC
    have B2 := below_step B1 BC
    clear X1 R1 B1 BC k1 k2 c16 hlt
    have i1 : Has_prc wc q 0 := ⟨_, Q.is_prc rfl⟩
    have i2 : of_prc wc q 0 = #[.string ⟨#[]⟩, .string ⟨#[]⟩, .int .u8 0, .slice none 0 0] := of_prc_eq (Q.is_prc rfl)
    have d2 := R2.plain
    have d3 := R2.of
    have d4 : splice #[.string ⟨#[]⟩, .string ⟨#[]⟩, .int .u8 0, .slice none 0 0] 0 #[.string ⟨#[]⟩, .string ⟨#[]⟩, .int .u8 0, .slice none 0 0] = #[.string ⟨#[]⟩, .string ⟨#[]⟩, .int .u8 0, .slice none 0 0] := rfl
    go_wp2
    exact bodyPost_ret (results_agg3E Tryz.results189 _ _ g9 #[.string ⟨#[]⟩, .string ⟨#[]⟩, .int .u8 0, .slice none 0 0] 4 _ rfl rfl (R2.set _).cell Tryz.underlying188 rfl info_prc) rfl ⟨rfl, below_setRow' B2 hge _⟩
end Go.Proofs.YtnmpfmelaninbaaGreatDoor
namespace Go.Proofs.YtnmpfmelaninbaaGreatDoor
open Go.RowKit Go.Sort
set_option maxRecDepth 100000
attribute [local go_sem] ba_append
set_option maxHeartbeats 1000000 in
theorem zplace_any (s : List UInt8) (w : World) (hL : Laid w) (hs : s.length ≤ 4000000000) : Calls Tryz.prog 248 #[.string ⟨s.toArray⟩] w
    (Ret w (.tuple #[.string ⟨(if pairB s 47 6 then (cutAt 47 s).1 else []).toArray⟩, .string ⟨(if pairB s 47 6 then (cutAt 47 s).2.1 else []).toArray⟩, .bool (pairB s 47 6)])) := by
  have hc := cutAt_len 47 s
  have kc := Lib.hid (cut_ret s 47 w hL hs)
  have HP := Lib.hid (show pairB s 47 6 = pair3 (cutAt 47 s) 6 from rfl)
  generalize pairB s 47 6 = ok at HP ⊢
  generalize cutAt 47 s = q at *
  obtain ⟨a, b, f⟩ := q
  simp only at hc
  obtain ⟨ha, hb⟩ := hc
  have ka := Lib.hid (fun w' => name_any a 6 w' (by omega))
  have kb := Lib.hid (fun w' => name_any b 6 w' (by omega))
  have HP := Lib.hid (show ok = (nameB a 6 && (!f || nameB b 6)) from HP.out)
  generalize nameB a 6 = na at *
  generalize nameB b 6 = nb at *
  cases f <;> cases na <;> cases nb
  all_goals
    obtain rfl := HP.out
    clear HP
    go_enter Tryz.func248, Tryz.ntmps248
    go_wp2_with (first
      | (go_at_call 161; (with_reducible refine callR kc.out ?_); intro w1 b1 _ _ _)
      | (go_at_call 88; (with_reducible first | refine callP (ka.out _) ?_ | refine callP (kb.out _) ?_)))
    go_ret3
    exact ⟨rfl, b1⟩
attribute [local go_sem ↓] bfix_fold
attribute [local go_sem] run_bfix0
set_option maxHeartbeats 2000000 in
theorem ePlace0 (s : List UInt8) (w : World) (hL : Laid w) (hs : s.length ≤ 4000000000) : Calls Tryz.prog 190 #[.agg cells0, .string ⟨s.toArray⟩] w
    (Ret w (.tuple #[.string ⟨#[]⟩, .int .i64 (if pairB s 47 6 then 6 else 4)])) := by
  have hc := cutAt_len 47 s
  have kp := Lib.hid (fun (W' : World) (b : Below w.heap.size w W') => zplace_any s W' (hL.below b) hs)
  have kf := Lib.hid (fun (r : List UInt8) w' => show Calls Tryz.prog 249 #[.agg cells0, .string ⟨r.toArray⟩] w' (Ret w' (.tuple #[.agg noFix.arr, .int .i64 6])) from navfix_any db0 [] r w' (db0_at w'))
  generalize cutAt 47 s = q at *
  obtain ⟨a, b, f⟩ := q
  simp only at hc
  obtain ⟨ha, hb⟩ := hc
  generalize pairB s 47 6 = ok at *
  go_enter Tryz.func190, Tryz.ntmps190
  go_upto_region 1 with (fail)
  have X0 : Blk (w.alloc (.cells cells0 43)) w.heap.size cells0 := Blk.new w _ _
  have B0 := alloc_below5 w (.cells cells0 43)
  generalize w.alloc _ = W at X0 B0 ⊢
  generalize w.heap.size = g0 at X0 ⊢
  cases ok
  · go_wp2_with (go_at_call 248; (with_reducible refine callR (kp.out _ B0) ?_); intro w1 b1 _ _ _)
    go_ret2
    exact ⟨rfl, below_step B0 b1⟩
  · by_cases h : b = []
    · subst h
      go_upto_region 9 with (go_at_call 248; (with_reducible refine callR (kp.out _ B0) ?_); intro w1 b1 _ _ _)
      have X1 := X0.step b1
      have B1 := below_step B0 b1
      have k6 : w1.cell? ⟨g0, 6, none⟩ = some (.slice none 0 0) := X1.cell 6
      go_wp2
      go_loopw [41] (fun i wr => i = .int .i64 0 ∧ wr = w1) (fun _ _ => 0)
      case atStart => exact ⟨rfl, rfl⟩
      case round =>
        obtain ⟨rfl, rfl⟩ := hrel
        go_wp2
        go_ret2
        exact ⟨rfl, B1⟩
    · have h0 : (b == []) = false := by simpa using h
      have l1 : ¬ 9223372036854775807 < b.length + 1 := by omega
      have l2 : ¬ 9223372036854775807 < b.length + 1 + a.length := by omega
      clear h
      go_upto_region 5 with (go_at_call 248; (with_reducible refine callR (kp.out _ B0) ?_); intro w1 b1 _ _ _)
      have X1 := X0.step b1
      have B1 := below_step B0 b1
      have i1 : Has_db w1 g0 0 := ⟨_, X1.is_db rfl⟩
      have i2 : of_db w1 g0 0 = cells0 := of_db_eq (X1.is_db rfl)
      go_wp2_with (go_at_call 249; (with_reducible refine callR (kf.out _ _) ?_); intro w2 b2 _ _ _)
      go_ret2
      exact ⟨rfl, below_step (below_step B1 b2) (alloc_below5 _ _)⟩
theorem Ed.setFrom {w W : World} {g : Nat} {x : Edr} {es : List Entry} (h : Ed w W g x es) (f : List UInt8) : Ed w (W.setCell ⟨g, 9, none⟩ (.string ⟨f.toArray⟩)) g { x with p := { x.p with from_ := f } } es :=
  ⟨h.blk.setCell 9 _, h.out.keepE fun q hq => Below.heap_setCell _ _ _ _ (by show q ≠ g; rintro rfl; exact h.far hq), h.far, below_setCell h.bel h.ge _ _, h.ge⟩
theorem Ed.setTo {w W : World} {g : Nat} {x : Edr} {es : List Entry} (h : Ed w W g x es) (f : List UInt8) : Ed w (W.setCell ⟨g, 10, none⟩ (.string ⟨f.toArray⟩)) g { x with p := { x.p with to_ := f } } es :=
  ⟨h.blk.setCell 10 _, h.out.keepE fun q hq => Below.heap_setCell _ _ _ _ (by show q ≠ g; rintro rfl; exact h.far hq), h.far, below_setCell h.bel h.ge _ _, h.ge⟩
set_option maxHeartbeats 2000000 in
theorem erunway_any (x : Edr) (es : List Entry) (g : Nat) (w W : World) (h : Ed w W g x es) (hL : Laid w) (s : List UInt8) (hs : s.length ≤ 1000000000) (hr : x.e.rway.length ≤ 1000000000) :
    Calls Tryz.prog 188 #[.pointer (some ⟨g, 0, none⟩), .string ⟨s.toArray⟩] W (Ret W (.string ⟨(rwayS s x.e.rway).toArray⟩)) := by
  have kc := Lib.hid (cut_ret s 47 W (hL.below h.bel) (by omega))
  have hc := (cutAt_len 47 s).1
  have HX := Lib.hid h
  have c17 := h.c17
  have HR := Lib.hid (show rwayS s x.e.rway = if x.e.rway.isEmpty then s else (cutAt 47 s).1 ++ 47 :: x.e.rway from rfl)
  generalize rwayS s x.e.rway = out at *
  generalize (cutAt 47 s).1 = a at *
  generalize (cutAt 47 s).2.1 = b at *
  generalize (cutAt 47 s).2.2 = f at *
  clear h
  by_cases hr0 : x.e.rway = []
  · rw [hr0] at c17 HR
    go_enter Tryz.func188, Tryz.ntmps188
    go_wp2
    go_ret
    exact Ret.str HR.out.symm (Below.refl _ _)
  · have h0 : (x.e.rway == []) = false := by simpa using hr0
    have HR := Lib.hid (show out = a ++ 47 :: x.e.rway by rw [HR.out, if_neg (by simpa using hr0)])
    generalize hw : x.e.rway = r at *
    have l1 : ¬ 9223372036854775807 < a.length + 1 := by omega
    have l2 : ¬ 9223372036854775807 < a.length + 1 + r.length := by omega
    go_enter Tryz.func188, Tryz.ntmps188
    go_wp2_with (go_at_call 161; (with_reducible refine callR kc.out ?_); intro w1 b1 _ _ _; have c17 := (HX.out.step b1).c17; rw [hw] at c17)
    go_ret
    exact Ret.str (by rw [HR.out]; try simp) b1
structure ZPre (w : World) (x : Edr) : Prop where
  laid : Laid w
  db : x.db = cells0
  ents : Ents w x.A x.p.es
  cap : x.p.es.length ≤ x.c
  len : x.p.es.length ≤ 60
  act0 : -1 ≤ x.p.active
  act1 : x.p.active < x.p.es.length
  at0 : 0 ≤ x.e.at_
  fr : x.p.from_.length ≤ 1000000000
  to_ : x.p.to_.length ≤ 1000000000
  rw_ : x.e.rway.length ≤ 1000000000
  nm : x.e.name.length ≤ 4000000000
theorem ZPre.c8 {w : World} {x : Edr} (h : ZPre w x) : x.db[8]? = some (.slice none 0 0) := by rw [h.db]; rfl
theorem ZPre.c7 {w : World} {x : Edr} (h : ZPre w x) : x.db[7]? = some (.slice none 0 0) := by rw [h.db]; rfl
theorem rwayS_lenZ {s r : List UInt8} (h1 : s.length ≤ 1000000000) (h2 : r.length ≤ 1000000000) : (rwayS s r).length ≤ 4000000000 := by
  have := (cutAt_len 47 s).1
  unfold rwayS; split
  · omega
  · simp; omega
attribute [local go_sem] Has_db_alloc5 of_db_alloc5 Has_db_drew5 of_db_drew5 
set_option maxHeartbeats 4000000 in
theorem edepart0 (x : Edr) (g : Nat) (w W : World) (h : Ed w W g x []) (P : ZPre w x) : Calls Tryz.prog 117 #[.pointer (some ⟨g, 0, none⟩)] W (RetRun w g x (departS look0 x.p x.e)) := by
  have c9 := h.c9
  have c12 := h.c12
  by_cases h1 : x.p.active = -1
  case neg =>
    have HS := Lib.hid (show departS look0 x.p x.e = .bad 8 from if_pos h1)
    have hz : (x.p.active != -1) = true := by simpa using h1
    have hz2 : (x.p.active == -1) = false := by simpa using h1
    have HX := Lib.hid h
    clear h P h1
    go_enter Tryz.func117, Tryz.ntmps117
    go_wp2
    go_ret
    exact RetRun.bad HS.out (by decide) HX.out.bel
  rw [h1] at c12
  by_cases h2 : x.p.from_ = []
  · have HS := Lib.hid (show departS look0 x.p x.e = .bad 6 by unfold departS; rw [if_neg (by simpa using h1), if_pos (by simpa using h2)])
    rw [h2] at c9
    have HX := Lib.hid h
    clear h P h1
    go_enter Tryz.func117, Tryz.ntmps117
    go_wp2
    go_ret
    exact RetRun.bad HS.out (by decide) HX.out.bel
  · have HS := Lib.hid (show departS look0 x.p x.e = .bad 6 by unfold departS; rw [if_neg (by simpa using h1), if_neg (by simpa using h2)]; rfl)
    have h0 : (x.p.from_ == []) = false := by simpa using h2
    have HX := Lib.hid h
    have kr := Lib.hid (erunway_any x [] g w W h P.laid x.p.from_ P.fr P.rw_)
    have hl := rwayS_lenZ P.fr P.rw_
    generalize rwayS x.p.from_ x.e.rway = f at *
    have kl := Lib.hid (fun (W' : World) (b : Ed w W' g { x with p := { x.p with from_ := f } } []) => elegs0 _ [] g w W' b P.laid P.c8 f 1 hl)
    clear h P h1 h2
    go_enter Tryz.func117, Tryz.ntmps117
    go_wp2_with (first
      | (go_at_call 188; (with_reducible refine callR kr.out ?_); intro w1 b1 _ _ _; have X1 := HX.out.step b1; have f9 := X1.blk.frozen 9; have k9 := X1.c9; have X2 := Lib.hid (X1.setFrom f); clear X1)
      | (go_at_call 189; (with_reducible refine callR (kl.out _ X2.out) ?_); intro w3 b3 _ _ _))
    go_ret
    exact RetRun.bad HS.out (by decide) ((X2.out.step b3).alloc _).bel
set_option maxHeartbeats 4000000 in
theorem edivert0 (x : Edr) (g : Nat) (w W : World) (h : Ed w W g x []) (P : ZPre w x) (hat : x.e.at_ < x.p.es.length) : Calls Tryz.prog 119 #[.pointer (some ⟨g, 0, none⟩)] W (RetRun w g x (divertS look0 x.p x.e)) := by
  have c11 := h.c11
  have c14 := h.c14
  go_enter Tryz.func119, Tryz.ntmps119
  go_upto_region 1 with (fail)
  go_region
  replace h := h.drw
  clear c11 c14
  generalize W.drew = W1 at h ⊢
  clear W
  have c12 := h.c12
  by_cases h1 : x.e.at_ < x.p.active
  · have HS := Lib.hid (show divertS look0 x.p x.e = .bad 8 from if_pos h1)
    have HX := Lib.hid h
    clear h P hat
    go_wp2
    go_ret
    exact RetRun.bad HS.out (by decide) HX.out.bel
  · have h0 := P.at0
    obtain ⟨k, hk⟩ : ∃ k : Nat, x.e.at_ = k := ⟨x.e.at_.toNat, by omega⟩
    have hkl : k < x.p.es.length := by omega
    obtain ⟨b, off, hA, hcl⟩ := P.ents.ent hkl
    have HC := Lib.hid P.cap
    have hlt : (k : Int) < (x.p.es.length : Int) := by omega
    have HS0 : divertS look0 x.p x.e = if !endsE (entAt x.p k) then .bad 17 else .bad (if pairB x.e.name 47 6 then 6 else 4) := by
      unfold divertS; rw [if_neg h1, hk, Int.toNat_natCast]
      congr 1
      rw [if_pos (by show (if pairB x.e.name 47 6 then (6 : Int) else 4) ≠ 0; split <;> decide)]
      rfl
    rw [hk] at h1 ⊢
    have AH := Lib.hid hA
    have hI := hcl W1 h.bel
    generalize entAt x.p k = y at HS0 hI
    have i1 : Has_ent W1 b (off + k * 20) := ⟨_, hI⟩
    have i2 : of_ent W1 b (off + k * 20) = y := of_ent_eq hI
    have HX := Lib.hid h
    have kE := Lib.hid (eends_any y W1)
    have c16 := h.c16
    have kP := Lib.hid (fun (W' : World) (b : Below w.heap.size w W') => ePlace0 x.e.name W' (P.laid.below b) P.nm)
    have k2 : of_db W1 g 0 = cells0 := by rw [of_db_eq h.is_db]; exact P.db
    have k1 : Has_db W1 g 0 := ⟨_, h.is_db⟩
    have HDB := Lib.hid P.db
    clear h hcl hk hat h0 hI P
    cases hen : endsE y with
    | false =>
      rw [hen] at kE HS0
      have HS := Lib.hid (show divertS look0 x.p x.e = .bad 17 from HS0)
      clear HS0
      go_wp2_with (go_at_call 184; (with_reducible refine callR kE.out ?_); intro w3 b3 _ _ _)
      go_ret
      exact RetRun.bad HS.out (by decide) (HX.out.step b3).bel
    | true =>
      rw [hen] at kE HS0
      have HS := Lib.hid (show divertS look0 x.p x.e = .bad (if pairB x.e.name 47 6 then 6 else 4) from HS0)
      clear HS0 hen
      generalize pairB x.e.name 47 6 = pb at *
      go_upto_region 6 with (go_at_call 184; (with_reducible refine callR kE.out ?_); intro w3 b3 _ _ _)
      have X3 := HX.out.step b3
      have c16 := X3.c16
      have k2 : of_db w3 g 0 = cells0 := by rw [of_db_eq X3.is_db]; exact HDB.out
      have k1 : Has_db w3 g 0 := ⟨_, X3.is_db⟩
      have HX3 := Lib.hid X3
      generalize x.e.name = nm at *
      clear X3 HX b3 i1 i2 kE c12
      have hp : ((if pb then (6 : Int) else 4) != 0) = true := by cases pb <;> rfl
      have hp0 : (if pb then (6 : Int) else 4) ≠ 0 := by cases pb <;> decide
      generalize (if pb then (6 : Int) else 4) = z at *
      go_region_with (go_at_call 190; (with_reducible refine callR (kP.out _ HX3.out.drw.bel) ?_); intro w4 b4 _ _ _)
      all_goals
        go_wp2
        go_ret
        exact RetRun.bad HS.out hp0 (HX3.out.drw.step b4).bel
set_option maxHeartbeats 8000000 in
theorem ejoin0 (x : Edr) (g : Nat) (w W : World) (h : Ed w W g x []) (P : ZPre w x) (hat : x.e.at_ < x.p.es.length) : Calls Tryz.prog 116 #[.pointer (some ⟨g, 0, none⟩)] W (RetRun w g x (joinS look0 x.p x.e)) := by
  have c11 := h.c11
  have c14 := h.c14
  go_enter Tryz.func116, Tryz.ntmps116
  go_upto_region 1 with (fail)
  go_region
  replace h := h.drw
  clear c11 c14
  generalize W.drew = W1 at h ⊢
  clear W
  have c12 := h.c12
  by_cases h1 : x.e.at_ < x.p.active
  · have HS := Lib.hid (show joinS look0 x.p x.e = .bad 8 from if_pos h1)
    have HX := Lib.hid h
    clear h P hat
    go_wp2
    go_ret
    exact RetRun.bad HS.out (by decide) HX.out.bel
  · have h0 := P.at0
    obtain ⟨k, hk⟩ : ∃ k : Nat, x.e.at_ = k := ⟨x.e.at_.toNat, by omega⟩
    have hkl : k < x.p.es.length := by omega
    obtain ⟨b, off, hA, hcl⟩ := P.ents.ent hkl
    have HC := Lib.hid P.cap
    have hlt : (k : Int) < (x.p.es.length : Int) := by omega
    have HS0 : joinS look0 x.p x.e = if !endsE (entAt x.p k) then .bad 17 else .bad 6 := by
      unfold joinS; rw [if_neg h1, hk, Int.toNat_natCast]
      rfl
    rw [hk] at h1 ⊢
    have AH := Lib.hid hA
    have hI := hcl W1 h.bel
    generalize entAt x.p k = y at HS0 hI
    have i1 : Has_ent W1 b (off + k * 20) := ⟨_, hI⟩
    have i2 : of_ent W1 b (off + k * 20) = y := of_ent_eq hI
    have HX := Lib.hid h
    have HDB := Lib.hid P.db
    have kw := Lib.hid (fun w' => eawy0 x.db P.c7 x.e.name w')
    clear h hcl hk hat h0 hI P
    go_upto_region 5 with (fail)
    have Y := Blk.new W1 y.arr 57
    have X := HX.out.alloc (.cells y.arr 57)
    clear HX i1 i2 c12
    generalize W1.alloc _ = W2 at Y X ⊢
    generalize W1.heap.size = gy at Y ⊢
    clear W1
    have j1 : Has_ent W2 gy 0 := ⟨_, Y.is_ent⟩
    have j2 : of_ent W2 gy 0 = y := of_ent_eq Y.is_ent
    have kE := Lib.hid (eends_any y W2)
    cases hen : endsE y with
    | false =>
      rw [hen] at kE HS0
      have HS := Lib.hid (show joinS look0 x.p x.e = .bad 17 from HS0)
      have HX := Lib.hid X
      clear X HS0
      go_wp2_with (go_at_call 184; (with_reducible refine callR kE.out ?_); intro w3 b3 _ _ _)
      go_ret
      exact RetRun.bad HS.out (by decide) (HX.out.step b3).bel
    | true =>
      rw [hen] at kE HS0
      have HS := Lib.hid (show joinS look0 x.p x.e = .bad 6 from HS0)
      have HX := Lib.hid X
      clear X HS0 hen
      go_upto_region 7 with (go_at_call 184; (with_reducible refine callR kE.out ?_); intro w3 b3 _ _ _)
      have X3 := HX.out.step b3
      have c16 := X3.c16
      have k2 : of_db w3 g 0 = x.db := of_db_eq X3.is_db
      have k1 : Has_db w3 g 0 := ⟨_, X3.is_db⟩
      have hlt := X3.lt
      have HX3 := Lib.hid X3
      generalize x.e.name = nm at *
      generalize x.db = cs at *
      clear X3 HX b3 Y j1 j2 kE
      go_cut [7] (fun e wx => e = .int .i64 6 ∧ Below w3.heap.size w3 wx)
      case first =>
        go_region_with (go_at_call 185; (with_reducible refine callR (kw.out _) ?_); intro w4 b4 _ _ _; first | (have Y2 : Blk w4 w3.heap.size #[.string ⟨#[]⟩, .slice none 0 0] := (((Blk.new w3 _ 118).step (Below.refl _ _).drew)).step b4; have e2 := below_step (alloc_below5 w3 (.cells #[.string ⟨#[]⟩, .slice none 0 0] 118)).drew b4; have d2 := Y2.plain; have d3 := Y2.of; have d4 : splice #[.string ⟨#[]⟩, .slice none 0 0] 0 #[.string ⟨#[]⟩, .slice none 0 0] = #[.string ⟨#[]⟩, .slice none 0 0] := rfl) | skip)
        all_goals
          go_wp2
          go_meet
          first
            | exact ⟨rfl, below_step (Below.refl _ _).drew (below_step b4 (alloc_below5 _ _))⟩
            | exact ⟨rfl, below_setRow' e2 (Nat.le_refl _) _⟩
      case rest =>
        obtain ⟨rfl, BC⟩ := hcut
        go_wp2
        go_ret
        exact RetRun.bad HS.out (by decide) (HX3.out.step BC).bel
end Go.Proofs.YtnmpfmelaninbaaGreatDoor
namespace Go.Proofs.YtnmpfmelaninbaaGreatDoor
open Go.RowKit Go.Sort
set_option maxRecDepth 100000
theorem RetPl {w w' : World} {r : List UInt8 × Int} {a : List UInt8} {n : Int} (h : r = (a, n)) (B : Below w.heap.size w w') : Ret w (.tuple #[.string ⟨r.1.toArray⟩, .int .i64 r.2]) (.returned (.tuple #[.string ⟨a.toArray⟩, .int .i64 n])) w' := by
  subst h
  exact ⟨rfl, B⟩
def placeT (l : List FixV) (a : List UInt8) : List UInt8 × Int := match portV a l with
  | none => ([], 6)
  | some f => (f.ref, 0)
theorem placeG_eq (l : List FixV) (s : List UInt8) : placeG l s = if !pairB s 47 6 then ([], 4) else
    if (cutAt 47 s).2.1 ≠ [] then (if (findV l ((cutAt 47 s).2.1 ++ 47 :: (cutAt 47 s).1)).isSome then ((cutAt 47 s).2.1 ++ 47 :: (cutAt 47 s).1, 0) else ([], 6)) else placeT l (cutAt 47 s).1 := rfl
theorem portV_drop (a : List UInt8) (l : List FixV) {k : Nat} (h : k < l.length) : portV a (l.drop k) = if l[k].kind == 5 && l[k].ident == a then some l[k] else portV a (l.drop (k + 1)) := by
  rw [List.drop_eq_getElem_cons h]; rfl
attribute [local go_sem] ba_append
attribute [local go_sem ↓] bfix_fold
attribute [local go_sem] run_bfix0
set_option maxHeartbeats 4000000 in
theorem placeg_any (d : DBs) (l : List FixV) (s : List UInt8) (w : World) (hL : Laid w) (hs : s.length ≤ 4000000000) (hD : DbAt w d l) :
    Calls Tryz.prog 190 #[.agg d.cells, .string ⟨s.toArray⟩] w (Ret w (.tuple #[.string ⟨(placeG l s).1.toArray⟩, .int .i64 (placeG l s).2])) := by
  have hc := cutAt_len 47 s
  have kp := Lib.hid (fun (W' : World) (b : Below w.heap.size w W') => zplace_any s W' (hL.below b) hs)
  have kf := Lib.hid (fun (r : List UInt8) (W' : World) (b : Below w.heap.size w W') => navfix_any d l r W' (hD.below b))
  have HC := Lib.hid (placeG_eq l s)
  have HI := Lib.hid (fun (W' : World) (b : Below w.heap.size w W') => hD.items.below b)
  have hsz := hD.ok.size
  have h6 := hD.ok.c6
  rw [hD.fn] at h6
  have HCAP := Lib.hid hD.cap
  have hln := hD.len
  have HSM := Lib.hid hD.small
  generalize placeG l s = out at *
  generalize cutAt 47 s = q at *
  obtain ⟨a, b, f⟩ := q
  simp only at hc
  obtain ⟨ha, hb⟩ := hc
  generalize pairB s 47 6 = ok at *
  clear hD hL
  go_enter Tryz.func190, Tryz.ntmps190
  go_upto_region 1 with (fail)
  have X0 : Blk (w.alloc (.cells d.cells 43)) w.heap.size d.cells := Blk.new w _ _
  have B0 := alloc_below5 w (.cells d.cells 43)
  generalize w.alloc _ = W at X0 B0 ⊢
  obtain ⟨g0, hg0⟩ : ∃ g, g = w.heap.size := ⟨_, rfl⟩
  rw [← hg0] at X0 ⊢
  clear hg0
  cases ok with
  | false =>
    have HO := Lib.hid (HC.out.trans (if_pos rfl))
    clear HC
    go_wp2_with (go_at_call 248; (with_reducible refine callR (kp.out _ B0) ?_); intro w1 b1 _ _ _)
    go_ret2
    exact RetPl HO.out (below_step B0 b1)
  | true =>
  have HC := Lib.hid (HC.out.trans (if_neg (by decide)))
  by_cases h : b = []
  · subst h
    have HC := Lib.hid (show out = placeT l a from HC.out.trans (if_neg (by simp)))
    go_upto_region 9 with (go_at_call 248; (with_reducible refine callR (kp.out _ B0) ?_); intro w1 b1 _ _ _)
    have X1 := X0.step b1
    have B1 := below_step B0 b1
    have k6 : w1.cell? ⟨g0, 6, none⟩ = some (.slice d.fa l.length d.fc) := by rw [X1.cell 6]; exact h6
    go_upto_region 10 with (fail)
    have HB := Lib.hid B1
    clear X0 X1 B0 B1 k6 kp kf h6 hsz b1
    go_loopw [41] (fun iv wr => ∃ k : Nat, k ≤ l.length ∧ iv = .int .i64 k ∧ portV a l = portV a (l.drop k) ∧ Below w1.heap.size w1 wr) (fun iv _ => l.length - (intOf iv).toNat)
    case atStart => exact ⟨0, by omega, rfl, rfl, Below.refl _ _⟩
    case round =>
      obtain ⟨k, hk, rfl, hf, BW⟩ := hrel
      have HF := Lib.hid hf
      clear hf
      have BB := Lib.hid (below_step HB.out BW)
      by_cases hlt : k < l.length
      · have hlt' : (k : Int) < (l.length : Int) := by omega
        have hkc : k < d.fc := by have := HCAP.out; omega
        obtain ⟨b2, o2, hA, hb2, _⟩ := (HI.out wr BB.out).get (k := k) (by simpa using hlt)
        have hx := fixItem (by have := HI.out wr BB.out; rw [hA] at this; exact this) (Below.refl _ _) hlt
        have hsm := HSM.out _ (List.getElem_mem hlt)
        have HD := Lib.hid (HF.out.trans (portV_drop a l hlt))
        generalize l[k] = y at *
        have i1 : Has_fixv wr b2 (o2 + k * 7) := ⟨_, hx⟩
        have i2 : of_fixv wr b2 (o2 + k * 7) = y := of_fixv_eq hx
        rw [hA]
        clear hx HF
        go_upto_region 12 with (fail)
        have Z := Blk.new wr y.arr 247
        have D := alloc_below3 wr (.cells y.arr 247)
        have B5 := below_step BB.out D
        have B6 := below_step BW D
        clear i1 i2
        generalize wr.alloc _ = W5 at Z B5 B6 ⊢
        generalize wr.heap.size = g7 at Z ⊢
        have z0 : W5.cell? ⟨g7, 0, none⟩ = some (.string ⟨y.ident.toArray⟩) := Z.cell 0
        have z2 : W5.cell? ⟨g7, 2, none⟩ = some (.int .u8 y.kind) := Z.cell 2
        by_cases hm : y.kind = 5 ∧ y.ident = a
        · have e1 : (y.kind == 5) = true := by simpa using hm.1
          have e2 : (y.ident == a) = true := by simpa using hm.2
          have HO := Lib.hid (show out = (y.ref, 0) by rw [HC.out]; unfold placeT; rw [HD.out, e1, e2]; rfl)
          have kr := Lib.hid (fixref_any y hsm W5)
          have j1 : Has_fixv W5 g7 0 := ⟨_, Z.is_fixv⟩
          have j2 : of_fixv W5 g7 0 = y := of_fixv_eq Z.is_fixv
          clear hm HD
          go_wp2_with (go_at_call 250; (with_reducible refine callR kr.out ?_); intro w6 b6 _ _ _)
          go_ret2
          exact RetPl HO.out (below_step B5 b6)
        · have HD := Lib.hid (show portV a l = portV a (l.drop (k + 1)) by
            rw [HD.out, if_neg]
            intro h
            simp only [Bool.and_eq_true, beq_iff_eq] at h
            exact hm h)
          by_cases h1 : y.kind = 5
          · have e1 : (y.kind == 5) = true := by simpa using h1
            have e2 : (y.ident == a) = false := by
              have : y.ident ≠ a := fun h => hm ⟨h1, h⟩
              simpa using this
            clear hm h1
            go_wp2
            go_roundw
            case rel => exact ⟨k + 1, by omega, by go_num, HD.out, B6⟩
            case measure => simp [intOf]; omega
          · have e1 : (y.kind == 5) = false := by simpa using h1
            clear hm h1
            go_wp2
            go_roundw
            case rel => exact ⟨k + 1, by omega, by go_num, HD.out, B6⟩
            case measure => simp [intOf]; omega
      · have hlt' : ¬ (k : Int) < (l.length : Int) := by omega
        have HO := Lib.hid (show out = ([], 6) by rw [HC.out]; unfold placeT; rw [HF.out, List.drop_eq_nil_of_le (by omega)]; rfl)
        clear HF
        go_wp2
        go_ret2
        exact RetPl HO.out BB.out
  · have h0 : (b == []) = false := by simpa using h
    have HC := Lib.hid (HC.out.trans (if_pos h))
    have l1 : ¬ 9223372036854775807 < b.length + 1 := by omega
    have l2 : ¬ 9223372036854775807 < b.length + 1 + a.length := by omega
    clear h
    go_upto_region 5 with (go_at_call 248; (with_reducible refine callR (kp.out _ B0) ?_); intro w1 b1 _ _ _)
    have X1 := X0.step b1
    have B1 := below_step B0 b1
    have i1 : Has_db w1 g0 0 := ⟨_, X1.is_db hsz⟩
    have i2 : of_db w1 g0 0 = d.cells := of_db_eq (X1.is_db hsz)
    have kf2 := Lib.hid (kf.out (b ++ 47 :: a) w1 B1)
    have HFV := Lib.hid (fixV_find l (b ++ 47 :: a))
    generalize fixV l (b ++ 47 :: a) = fx at *
    obtain ⟨fv, fe⟩ := fx
    cases hf : (findV l (b ++ 47 :: a)).isSome with
    | true =>
      have HO := Lib.hid (HC.out.trans (if_pos hf))
      have hfe : fe = 0 := by have := congrArg Prod.snd HFV.out; simp only [hf] at this; simpa using this
      subst hfe
      clear HC HFV hf kf
      go_wp2_with (first | (go_at_call 249; (with_reducible refine callR kf2.out ?_); intro w2 b2 _ _ _))
      go_ret2
      exact RetPl HO.out (below_step (below_step B1 b2) (alloc_below3 _ _))
    | false =>
      have HO := Lib.hid (HC.out.trans (if_neg (by rw [hf]; decide)))
      have hfe : fe = 6 := by have := congrArg Prod.snd HFV.out; simp only [hf] at this; simpa using this
      subst hfe
      clear HC HFV hf kf
      go_wp2_with (first | (go_at_call 249; (with_reducible refine callR kf2.out ?_); intro w2 b2 _ _ _))
      go_ret2
      exact RetPl HO.out (below_step (below_step B1 b2) (alloc_below3 _ _))
end Go.Proofs.YtnmpfmelaninbaaGreatDoor
