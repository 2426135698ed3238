/- The empty database: the lookups and the methods that ask it; walks. Printed by wip/mkedz1.py. -/
import Derived.Test.YtcgmemkkcaipfaaGreatDoorPk39
import Derived.Test.YtcgmemkkcaipfaaGreatDoorPk36
import Derived.Test.YtcgmemkkcaipfaaGreatDoorPk15
import Derived.Test.YtcgmemkkcaipfaaGreatDoorPk43
namespace Go.Proofs.YtcgmemkkcaipfaaGreatDoor
open Go.RowKit Go.Sort
set_option linter.unusedVariables false
set_option linter.unusedSimpArgs false
set_option maxRecDepth 100000

def bawy (parts : Array (Nat × Value)) : Sem Value := Instr.build 64 parts
theorem bawy_fold (parts : Array (Nat × Value)) : Instr.build 64 parts = bawy parts := rfl
theorem run_bawy0 (w : World) : (bawy #[]).run Tryz.prog w = .ok (.agg #[.string ⟨#[]⟩, .slice none 0 0]) w := run_build w _ _ _ (by kernel_rfl)
def bprc (parts : Array (Nat × Value)) : Sem Value := Instr.build 126 parts
theorem bprc_fold (parts : Array (Nat × Value)) : Instr.build 126 parts = bprc parts := rfl
theorem run_bprc0 (w : World) : (bprc #[]).run Tryz.prog w = .ok (.agg #[.string ⟨#[]⟩, .string ⟨#[]⟩, .int .u8 0, .slice none 0 0]) w := run_build w _ _ _ (by kernel_rfl)
theorem awy_sz : SzIs #[.string ⟨#[]⟩, .slice none 0 0] 2 := rfl
theorem prc_sz : SzIs #[.string ⟨#[]⟩, .string ⟨#[]⟩, .int .u8 0, .slice none 0 0] 4 := rfl
theorem awy_ones : Ones #[.string ⟨#[]⟩, .slice none 0 0] := by simp [Ones, Value.oneCell']
theorem prc_ones : Ones #[.string ⟨#[]⟩, .string ⟨#[]⟩, .int .u8 0, .slice none 0 0] := by simp [Ones, Value.oneCell']
attribute [local go_sem ↓] bawy_fold bprc_fold
attribute [local go_sem] Has_db_alloc5 of_db_alloc5 Has_db_drew5 of_db_drew5 run_bawy0 run_bprc0 awy_sz prc_sz awy_ones prc_ones
set_option maxHeartbeats 2000000 in
theorem eawy0 (cs : Array Value) (c7 : cs[7]? = some (.slice none 0 0)) (n : List UInt8) (w : World) : Calls Tryz.prog 116 #[.agg cs, .string ⟨n.toArray⟩] w (Ret w (.tuple #[.agg #[.string ⟨#[]⟩, .slice none 0 0], .int .i64 6])) := by
  go_enter Tryz.func116, Tryz.ntmps116
  go_upto_region 1 with (fail)
  have X0 : Blk (w.alloc (.cells cs 30)) w.heap.size cs := Blk.new w _ _
  have B0 := alloc_below5 w (.cells cs 30)
  have hsz : (w.alloc (.cells cs 30)).heap.size = w.heap.size + 1 := World.size_alloc _ _
  generalize w.alloc _ = W0 at X0 B0 hsz ⊢
  rw [← hsz]
  have Y1 : Blk (W0.alloc (.cells #[.string ⟨#[]⟩, .slice none 0 0] 64)) W0.heap.size #[.string ⟨#[]⟩, .slice none 0 0] := Blk.new W0 _ _
  have B1 := below_step B0 (alloc_below5 W0 (.cells #[.string ⟨#[]⟩, .slice none 0 0] 64))
  have X1 := X0.alloc (.cells #[.string ⟨#[]⟩, .slice none 0 0] 64)
  have hgle : w.heap.size ≤ W0.heap.size := B0.size
  generalize W0.alloc _ = W at Y1 B1 X1 ⊢
  generalize W0.heap.size = g1 at Y1 hgle ⊢
  generalize w.heap.size = g0 at X1 ⊢
  have k7 : W.cell? ⟨g0, 7, none⟩ = some (.slice none 0 0) := (X1.cell 7).trans c7
  have d2 := Y1.plain
  have d3 := Y1.of
  clear X0 hsz
  go_wp2
  go_loopw [11] (fun i wr => i = .int .i64 0 ∧ wr = W) (fun _ _ => 0)
  case atStart => exact ⟨rfl, rfl⟩
  case round =>
    obtain ⟨rfl, rfl⟩ := hrel
    have f3 : splice #[.string ⟨#[]⟩, .slice none 0 0] 0 #[.string ⟨#[]⟩, .slice none 0 0] = #[.string ⟨#[]⟩, .slice none 0 0] := rfl
    go_wp2
    exact bodyPost_ret (results_agg Tryz.results116 _ _ g1 #[.string ⟨#[]⟩, .slice none 0 0] 2 _ rfl rfl (Y1.set _).cell Tryz.underlying64 rfl info_awy) rfl ⟨rfl, below_setRow' B1 hgle _⟩
set_option maxHeartbeats 2000000 in
theorem eidx0 (f : Value) (w : World) : Calls Tryz.prog 246 #[.slice none 0 0, f] w (RetP w (.int .i64 (-1))) := by
  go_enter Tryz.func246, Tryz.ntmps246
  go_wp2
  go_loopw [8] (fun i wr => i = .int .i64 0 ∧ wr = w) (fun _ _ => 0)
  case atStart => exact ⟨rfl, rfl⟩
  case round =>
    obtain ⟨rfl, rfl⟩ := hrel
    go_wp2
    go_ret
    exact RetP.int rfl rfl
set_option maxHeartbeats 2000000 in
theorem epfind0 (a n : List UInt8) (k : Int) (w : World) : Calls Tryz.prog 213 #[.slice none 0 0, .string ⟨a.toArray⟩, .int .u8 k, .string ⟨n.toArray⟩] w (Ret w (.tuple #[.agg #[.string ⟨#[]⟩, .string ⟨#[]⟩, .int .u8 0, .slice none 0 0], .bool false])) := by
  go_enter Tryz.func213, Tryz.ntmps213
  go_upto_region 1 with (fail)
  generalize hW : (((w.alloc _).alloc _).alloc _) = W
  have B0 : Below w.heap.size w W := by rw [← hW]; go_grown
  have hz : W.heap.size = w.heap.size + 1 + 1 + 1 := by rw [← hW]; simp
  try rw [← hz]
  clear hW
  have Y1 : Blk (W.alloc (.cells #[.string ⟨#[]⟩, .string ⟨#[]⟩, .int .u8 0, .slice none 0 0] 126)) W.heap.size #[.string ⟨#[]⟩, .string ⟨#[]⟩, .int .u8 0, .slice none 0 0] := Blk.new W _ _
  have B1 := below_step B0 (alloc_below5 W (.cells #[.string ⟨#[]⟩, .string ⟨#[]⟩, .int .u8 0, .slice none 0 0] 126))
  have hgle : w.heap.size ≤ W.heap.size := B0.size
  generalize W.alloc _ = W1 at Y1 B1 ⊢
  generalize W.heap.size = g1 at Y1 hgle ⊢
  have d2 := Y1.plain
  have d3 := Y1.of
  have f3 : splice #[.string ⟨#[]⟩, .string ⟨#[]⟩, .int .u8 0, .slice none 0 0] 0 #[.string ⟨#[]⟩, .string ⟨#[]⟩, .int .u8 0, .slice none 0 0] = #[.string ⟨#[]⟩, .string ⟨#[]⟩, .int .u8 0, .slice none 0 0] := rfl
  go_wp2_with (go_at_call 246; (with_reducible refine callP (eidx0 _ _) ?_))
  exact bodyPost_ret (results_agg Tryz.results213 _ _ g1 #[.string ⟨#[]⟩, .string ⟨#[]⟩, .int .u8 0, .slice none 0 0] 4 _ rfl rfl (Y1.set _).cell Tryz.underlying126 rfl info_prc) rfl ⟨rfl, below_setRow' B1 hgle _⟩
set_option maxHeartbeats 2000000 in
theorem eproc0 (cs : Array Value) (c8 : cs[8]? = some (.slice none 0 0)) (a n : List UInt8) (k : Int) (w : World) : Calls Tryz.prog 172 #[.agg cs, .string ⟨a.toArray⟩, .int .u8 k, .string ⟨n.toArray⟩] w (Ret w (.tuple #[.agg #[.string ⟨#[]⟩, .string ⟨#[]⟩, .int .u8 0, .slice none 0 0], .int .i64 6])) := by
  go_enter Tryz.func172, Tryz.ntmps172
  go_upto_region 1 with (fail)
  have X0 : Blk (w.alloc (.cells cs 30)) w.heap.size cs := Blk.new w _ _
  have B0 := alloc_below5 w (.cells cs 30)
  have hsz : (w.alloc (.cells cs 30)).heap.size = w.heap.size + 1 := World.size_alloc _ _
  generalize w.alloc _ = W0 at X0 B0 hsz ⊢
  rw [← hsz]
  have Y1 : Blk (W0.alloc (.cells #[.string ⟨#[]⟩, .string ⟨#[]⟩, .int .u8 0, .slice none 0 0] 126)) W0.heap.size #[.string ⟨#[]⟩, .string ⟨#[]⟩, .int .u8 0, .slice none 0 0] := Blk.new W0 _ _
  have B1 := below_step B0 (alloc_below5 W0 (.cells #[.string ⟨#[]⟩, .string ⟨#[]⟩, .int .u8 0, .slice none 0 0] 126))
  have X1 := X0.alloc (.cells #[.string ⟨#[]⟩, .string ⟨#[]⟩, .int .u8 0, .slice none 0 0] 126)
  have hgle : w.heap.size ≤ W0.heap.size := B0.size
  generalize W0.alloc _ = W at Y1 B1 X1 ⊢
  generalize W0.heap.size = g1 at Y1 hgle ⊢
  generalize w.heap.size = g0 at X1 ⊢
  have k8 : W.cell? ⟨g0, 8, none⟩ = some (.slice none 0 0) := (X1.cell 8).trans c8
  have kf := Lib.hid (epfind0 a n k W)
  have f3 : splice #[.string ⟨#[]⟩, .string ⟨#[]⟩, .int .u8 0, .slice none 0 0] 0 #[.string ⟨#[]⟩, .string ⟨#[]⟩, .int .u8 0, .slice none 0 0] = #[.string ⟨#[]⟩, .string ⟨#[]⟩, .int .u8 0, .slice none 0 0] := rfl
  clear X0 hsz
  go_upto_region 3 with (go_at_call 213; (with_reducible refine callR kf.out ?_); intro w2 b2 _ _ _)
  have Y2 := (Y1.step b2).alloc (.cells #[.string ⟨#[]⟩, .string ⟨#[]⟩, .int .u8 0, .slice none 0 0] 126)
  have B2 := below_step (below_step B1 b2) (alloc_below5 w2 (.cells #[.string ⟨#[]⟩, .string ⟨#[]⟩, .int .u8 0, .slice none 0 0] 126))
  generalize w2.alloc _ = W2 at Y2 B2 ⊢
  generalize w2.heap.size = g2 at ⊢
  have d2 := Y2.plain
  have d3 := Y2.of
  clear k8 X1 Y1 B1 b2
  go_wp2
  exact bodyPost_ret (results_agg Tryz.results172 _ _ g1 #[.string ⟨#[]⟩, .string ⟨#[]⟩, .int .u8 0, .slice none 0 0] 4 _ rfl rfl (Y2.set _).cell Tryz.underlying126 rfl info_prc) rfl ⟨rfl, below_setRow' B2 hgle _⟩
theorem results_agg3E {P : Program} {fn : Func} {p t u : Tmp} {ty : TypeId} (h : fn.results = #[.cell p ty, .tmp t, .tmp u]) (tmps : Array Value) (w : World) (g : Nat) (arr : Array Value) (n : Nat) (d : TypeDesc) (hp : tmps.getD p undef = .pointer (some ⟨g, 0, none⟩)) (hn : arr.size = n) (hc : ∀ j, w.cell? ⟨g, j, none⟩ = arr[j]?)
    (hu : P.underlying ty = some d) (hd : (match d with | .struct _ | .array _ _ => true | _ => false) = true) (hi : (P.info? ty).map (·.size) = some n) :
    (results fn tmps).run P w = .ok (.tuple #[.agg arr, tmps.getD t undef, tmps.getD u undef]) w := by
  subst hn
  have hp' : tmps[p]?.getD undef = .pointer (some ⟨g, 0, none⟩) := by simpa using hp
  have hl := run_load_agg (P := P) w ⟨g, 0, none⟩ ty arr.toList _ (fun j v hv => by
    rw [addr_add, Nat.zero_add, hc]
    simpa using hv) hu hd (by simpa using hi)
  simp [results, h, hp', asAddr, hl]
theorem Ed.c16 {w W : World} {g : Nat} {x : Edr} {es : List Entry} (h : Ed w W g x es) : W.cell? ⟨g, 16, none⟩ = some (.string ⟨x.e.name.toArray⟩) := h.blk.cell 16
theorem Ed.c17 {w W : World} {g : Nat} {x : Edr} {es : List Entry} (h : Ed w W g x es) : W.cell? ⟨g, 17, none⟩ = some (.string ⟨x.e.rway.toArray⟩) := h.blk.cell 17
theorem Ed.c18 {w W : World} {g : Nat} {x : Edr} {es : List Entry} (h : Ed w W g x es) : W.cell? ⟨g, 18, none⟩ = some (.string ⟨x.e.trans.toArray⟩) := h.blk.cell 18
set_option maxHeartbeats 4000000 in
theorem elegs0 (x : Edr) (es : List Entry) (g : Nat) (w W : World) (h : Ed w W g x es) (hL : Laid w) (c8 : x.db[8]? = some (.slice none 0 0)) (s : List UInt8) (k : Int) (hs : s.length ≤ 4000000000) :
    Calls Tryz.prog 120 #[.pointer (some ⟨g, 0, none⟩), .string ⟨s.toArray⟩, .int .u8 k] W (Ret W (.tuple #[.agg #[.string ⟨#[]⟩, .string ⟨#[]⟩, .int .u8 0, .slice none 0 0], .slice none 0 0, .int .i64 6])) := by
  have HL := Lib.hid (fun (W' : World) (b : Below w.heap.size w W') => hL.below b)
  go_enter Tryz.func120, Tryz.ntmps120
  go_upto_region 1 with (fail)
  have R0 := Blk.new W #[.string ⟨#[]⟩, .string ⟨#[]⟩, .int .u8 0, .slice none 0 0] 126
  have X0 := h.alloc (.cells #[.string ⟨#[]⟩, .string ⟨#[]⟩, .int .u8 0, .slice none 0 0] 126)
  have B0 := alloc_below5 W (.cells #[.string ⟨#[]⟩, .string ⟨#[]⟩, .int .u8 0, .slice none 0 0] 126)
  generalize W.alloc _ = W0 at R0 X0 B0 ⊢
  obtain ⟨g9, hg9⟩ : ∃ g9, g9 = W.heap.size := ⟨_, rfl⟩
  rw [← hg9] at R0 ⊢
  have hge : W.heap.size ≤ g9 := by omega
  clear hg9 h
  have kc := Lib.hid (cut_ret s 47 W0 (HL.out W0 X0.bel) hs)
  generalize (cutAt 47 s).1 = a at kc
  generalize (cutAt 47 s).2.1 = b at kc
  generalize (cutAt 47 s).2.2 = f at kc
  go_upto_region 2 with (go_at_call 147; (with_reducible refine callR kc.out ?_); intro w1 b1 _ _ _)
  have R1 := R0.step b1
  have X1 := X0.step b1
  have B1 := below_step B0 b1
  have k1 : Has_db w1 g 0 := ⟨_, X1.is_db⟩
  have k2 : of_db w1 g 0 = x.db := of_db_eq X1.is_db
  have c16 := X1.c16
  have hlt := X1.lt
  clear kc X0 R0 B0 b1
  go_cut [12, 13] (fun a e wx => ∃ q, a = .pointer (some ⟨q, 0, none⟩) ∧ e = .int .i64 6 ∧ Blk wx q #[.string ⟨#[]⟩, .string ⟨#[]⟩, .int .u8 0, .slice none 0 0] ∧ Below w1.heap.size w1 wx)
  case first =>
    have kp := Lib.hid (fun w' => eproc0 x.db c8 a x.e.name k w')
    generalize x.db = cs at *
    generalize x.e.name = nm at *
    clear R1 X1 B1
    go_region_with (go_at_call 172; (with_reducible refine callR (kp.out _) ?_); intro w2 b2 _ _ _; first | (have Y2 : Blk w2 w1.heap.size #[.string ⟨#[]⟩, .string ⟨#[]⟩, .int .u8 0, .slice none 0 0] := (((Blk.new w1 _ 126).step (Below.refl _ _).drew)).step b2; have e2 := below_step (alloc_below5 w1 (.cells #[.string ⟨#[]⟩, .string ⟨#[]⟩, .int .u8 0, .slice none 0 0] 126)).drew b2; have d2 := Y2.plain; have d3 := Y2.of; have d4 : splice #[.string ⟨#[]⟩, .string ⟨#[]⟩, .int .u8 0, .slice none 0 0] 0 #[.string ⟨#[]⟩, .string ⟨#[]⟩, .int .u8 0, .slice none 0 0] = #[.string ⟨#[]⟩, .string ⟨#[]⟩, .int .u8 0, .slice none 0 0] := rfl) | skip)
    all_goals
      go_wp2
      go_meet
      first
        | exact ⟨_, rfl, rfl, Blk.new _ _ _, below_step (Below.refl _ _).drew (below_step b2 (alloc_below5 _ _))⟩
        | exact ⟨_, rfl, rfl, Y2.set _, below_setRow' e2 (Nat.le_refl _) _⟩
  case rest =>
    obtain ⟨q, rfl, rfl, Q, BC⟩ := hcut
    have R2 := R1.step BC
    have B2 := below_step B1 BC
    clear X1 R1 B1 BC k1 k2 c16 hlt
    have i1 : Has_prc wc q 0 := ⟨_, Q.is_prc rfl⟩
    have i2 : of_prc wc q 0 = #[.string ⟨#[]⟩, .string ⟨#[]⟩, .int .u8 0, .slice none 0 0] := of_prc_eq (Q.is_prc rfl)
    have d2 := R2.plain
    have d3 := R2.of
    have d4 : splice #[.string ⟨#[]⟩, .string ⟨#[]⟩, .int .u8 0, .slice none 0 0] 0 #[.string ⟨#[]⟩, .string ⟨#[]⟩, .int .u8 0, .slice none 0 0] = #[.string ⟨#[]⟩, .string ⟨#[]⟩, .int .u8 0, .slice none 0 0] := rfl
    go_wp2
    exact bodyPost_ret (results_agg3E Tryz.results120 _ _ g9 #[.string ⟨#[]⟩, .string ⟨#[]⟩, .int .u8 0, .slice none 0 0] 4 _ rfl rfl (R2.set _).cell Tryz.underlying126 rfl info_prc) rfl ⟨rfl, below_setRow' B2 hge _⟩
end Go.Proofs.YtcgmemkkcaipfaaGreatDoor
