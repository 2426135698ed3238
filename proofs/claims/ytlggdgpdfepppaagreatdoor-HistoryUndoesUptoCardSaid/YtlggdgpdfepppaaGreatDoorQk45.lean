/- The empty database: what it gives. The empty database: the lookups and the methods that ask it; walks. Printed by wip/mkedz1.py. The empty database: the places, and the methods of an edit that ask it; walks. route.Place over any database; walk. -/
import Derived.Test.YtlggdgpdfepppaaGreatDoorQk36
import Derived.Test.YtlggdgpdfepppaaGreatDoorQk29
import Derived.Test.YtlggdgpdfepppaaGreatDoorQk14
import Derived.Test.YtlggdgpdfepppaaGreatDoorQk25
import Derived.Test.YtlggdgpdfepppaaGreatDoorQk44
namespace Go.Proofs.YtlggdgpdfepppaaGreatDoor
open Go.RowKit Go.Sort
set_option linter.unusedVariables false
set_option linter.unusedSimpArgs false
set_option maxRecDepth 100000
def cells0 : Array Value := #[.string ⟨#[]⟩, .int .i64 0, .int .i64 0, .int .i64 0, .int .i64 0, .int .i64 0, .slice none 0 0, .slice none 0 0, .slice none 0 0]
def db0 : DBs := ⟨cells0, 0, 0, none, 0, 0⟩
theorem db0_at (w : World) : DbAt w db0 [] := ⟨⟨rfl, rfl, rfl, rfl⟩, rfl, Nat.le_refl _, Items.nil _ _ _, by decide, fun f h => by cases h⟩
def look0 : Look := ⟨pointV 0 0 [], fun s => ([], if pairB s 47 6 then 6 else 4), fun _ _ _ => ([], 6), fun _ _ _ _ => (([], []), 6)⟩
theorem look0_ok : look0.ok := ⟨fun s => by simp [look0], fun n a b => ⟨by simp [look0], fun q h => by cases h⟩, fun a k n t => ⟨⟨by simp [look0], fun l h => by cases h⟩, by simp [look0], fun l h => by cases h⟩⟩
theorem eapply0_any (p : Plan) (A : Option Addr) (c : Nat) (e : EditV) (w : World) (hL : Laid w) (hF : FormsAt w) (hG : GapAt w)
    (hp : p.small) (hc : p.es.length ≤ c) (hE : Ents w A p.es) (hpf : p.from_.length ≤ 1000000000) (hpt2 : p.to_.length ≤ 1000000000) (he : e.ref.length ≤ 1000000000 ∧ e.name.length ≤ 1000000000 ∧ e.rway.length ≤ 1000000000 ∧ e.trans.length ≤ 1000000000)
    (ho : e.op < 8) : Calls Tryz.prog 33 #[.agg cells0, .agg (p.arr A c), .agg e.arr] w (RetAp w (applyS look0 p e)) :=
  eapply_any db0 [] look0 p A c e w hL hF hG (db0_at w) rfl look0_ok hp hc hE hpf hpt2 he fun wb g _ _ _ =>
    ⟨fun _ _ h => absurd (show e.op = 8 from h) (by omega), fun _ _ h => absurd (show e.op = 9 from h) (by omega), fun _ _ h => absurd (show e.op = 10 from h) (by omega), fun _ _ h => absurd (show e.op = 11 from h) (by omega), fun _ _ h => absurd (show e.op = 12 from h) (by omega)⟩
end Go.Proofs.YtlggdgpdfepppaaGreatDoor
namespace Go.Proofs.YtlggdgpdfepppaaGreatDoor
open Go.RowKit Go.Sort
set_option linter.unusedVariables false
set_option linter.unusedSimpArgs false
set_option maxRecDepth 100000

attribute [local go_sem] Has_db_alloc5 of_db_alloc5 Has_db_drew5 of_db_drew5 
theorem results_agg3E {P : Program} {fn : Func} {p t u : Tmp} {ty : TypeId} (h : fn.results = #[.cell p ty, .tmp t, .tmp u]) (tmps : Array Value) (w : World) (g : Nat) (arr : Array Value) (n : Nat) (d : TypeDesc) (hp : tmps.getD p undef = .pointer (some ⟨g, 0, none⟩)) (hn : arr.size = n) (hc : ∀ j, w.cell? ⟨g, j, none⟩ = arr[j]?)
    (hu : P.underlying ty = some d) (hd : (match d with | .struct _ | .array _ _ => true | _ => false) = true) (hi : (P.info? ty).map (·.size) = some n) :
    (results fn tmps).run P w = .ok (.tuple #[.agg arr, tmps.getD t undef, tmps.getD u undef]) w := by
  subst hn
  have hp' : tmps[p]?.getD undef = .pointer (some ⟨g, 0, none⟩) := by simpa using hp
  have hl := run_load_agg (P := P) w ⟨g, 0, none⟩ ty arr.toList _ (fun j v hv => by
    rw [addr_add, Nat.zero_add, hc]
    simpa using hv) hu hd (by simpa using hi)
  simp [results, h, hp', asAddr, hl]
theorem Ed.c16 {w W : World} {g : Nat} {x : Edr} {es : List Entry} (h : Ed w W g x es) : W.cell? ⟨g, 16, none⟩ = some (.string ⟨x.e.name.toArray⟩) := h.blk.cell 16
theorem Ed.c17 {w W : World} {g : Nat} {x : Edr} {es : List Entry} (h : Ed w W g x es) : W.cell? ⟨g, 17, none⟩ = some (.string ⟨x.e.rway.toArray⟩) := h.blk.cell 17
theorem Ed.c18 {w W : World} {g : Nat} {x : Edr} {es : List Entry} (h : Ed w W g x es) : W.cell? ⟨g, 18, none⟩ = some (.string ⟨x.e.trans.toArray⟩) := h.blk.cell 18
end Go.Proofs.YtlggdgpdfepppaaGreatDoor
namespace Go.Proofs.YtlggdgpdfepppaaGreatDoor
open Go.RowKit Go.Sort
set_option linter.unusedVariables false
set_option linter.unusedSimpArgs false
set_option maxRecDepth 100000
attribute [local go_sem] ba_append
set_option maxHeartbeats 1000000 in
theorem zplace_any (s : List UInt8) (w : World) (hL : Laid w) (hs : s.length ≤ 4000000000) : Calls Tryz.prog 152 #[.string ⟨s.toArray⟩] w
    (Ret w (.tuple #[.string ⟨(if pairB s 47 6 then (cutAt 47 s).1 else []).toArray⟩, .string ⟨(if pairB s 47 6 then (cutAt 47 s).2.1 else []).toArray⟩, .bool (pairB s 47 6)])) := by
  have hc := cutAt_len 47 s
  have kc := Lib.hid (cut_ret s 47 w hL hs)
  have HP := Lib.hid (show pairB s 47 6 = pair3 (cutAt 47 s) 6 from rfl)
  generalize pairB s 47 6 = ok at HP ⊢
  generalize cutAt 47 s = q at *
  obtain ⟨a, b, f⟩ := q
  simp only at hc
  obtain ⟨ha, hb⟩ := hc
  have ka := Lib.hid (fun w' => name_any a 6 w' (by omega))
  have kb := Lib.hid (fun w' => name_any b 6 w' (by omega))
  have HP := Lib.hid (show ok = (nameB a 6 && (!f || nameB b 6)) from HP.out)
  generalize nameB a 6 = na at *
  generalize nameB b 6 = nb at *
  cases f <;> cases na <;> cases nb
  all_goals
    obtain rfl := HP.out
    clear HP
    go_enter Tryz.func152, Tryz.ntmps152
    go_wp2_with (first
      | (go_at_call 80; (with_reducible refine callR kc.out ?_); intro w1 b1 _ _ _)
      | (go_at_call 81; (with_reducible first | refine callP (ka.out _) ?_ | refine callP (kb.out _) ?_)))
    go_ret3
    exact ⟨rfl, b1⟩
attribute [local go_sem ↓] bfix_fold
attribute [local go_sem] run_bfix0
theorem Ed.setFrom {w W : World} {g : Nat} {x : Edr} {es : List Entry} (h : Ed w W g x es) (f : List UInt8) : Ed w (W.setCell ⟨g, 9, none⟩ (.string ⟨f.toArray⟩)) g { x with p := { x.p with from_ := f } } es :=
  ⟨h.blk.setCell 9 _, h.out.keepE fun q hq => Below.heap_setCell _ _ _ _ (by show q ≠ g; rintro rfl; exact h.far hq), h.far, below_setCell h.bel h.ge _ _, h.ge⟩
theorem Ed.setTo {w W : World} {g : Nat} {x : Edr} {es : List Entry} (h : Ed w W g x es) (f : List UInt8) : Ed w (W.setCell ⟨g, 10, none⟩ (.string ⟨f.toArray⟩)) g { x with p := { x.p with to_ := f } } es :=
  ⟨h.blk.setCell 10 _, h.out.keepE fun q hq => Below.heap_setCell _ _ _ _ (by show q ≠ g; rintro rfl; exact h.far hq), h.far, below_setCell h.bel h.ge _ _, h.ge⟩
set_option maxHeartbeats 2000000 in
theorem erunway_any (x : Edr) (es : List Entry) (g : Nat) (w W : World) (h : Ed w W g x es) (hL : Laid w) (s : List UInt8) (hs : s.length ≤ 1000000000) (hr : x.e.rway.length ≤ 1000000000) :
    Calls Tryz.prog 125 #[.pointer (some ⟨g, 0, none⟩), .string ⟨s.toArray⟩] W (Ret W (.string ⟨(rwayS s x.e.rway).toArray⟩)) := by
  have kc := Lib.hid (cut_ret s 47 W (hL.below h.bel) (by omega))
  have hc := (cutAt_len 47 s).1
  have HX := Lib.hid h
  have c17 := h.c17
  have HR := Lib.hid (show rwayS s x.e.rway = if x.e.rway.isEmpty then s else (cutAt 47 s).1 ++ 47 :: x.e.rway from rfl)
  generalize rwayS s x.e.rway = out at *
  generalize (cutAt 47 s).1 = a at *
  generalize (cutAt 47 s).2.1 = b at *
  generalize (cutAt 47 s).2.2 = f at *
  clear h
  by_cases hr0 : x.e.rway = []
  · rw [hr0] at c17 HR
    go_enter Tryz.func125, Tryz.ntmps125
    go_wp2
    go_ret
    exact Ret.str HR.out.symm (Below.refl _ _)
  · have h0 : (x.e.rway == []) = false := by simpa using hr0
    have HR := Lib.hid (show out = a ++ 47 :: x.e.rway by rw [HR.out, if_neg (by simpa using hr0)])
    generalize hw : x.e.rway = r at *
    have l1 : ¬ 9223372036854775807 < a.length + 1 := by omega
    have l2 : ¬ 9223372036854775807 < a.length + 1 + r.length := by omega
    go_enter Tryz.func125, Tryz.ntmps125
    go_wp2_with (go_at_call 80; (with_reducible refine callR kc.out ?_); intro w1 b1 _ _ _; have c17 := (HX.out.step b1).c17; rw [hw] at c17)
    go_ret
    exact Ret.str (by rw [HR.out]; try simp) b1
theorem rwayS_lenZ {s r : List UInt8} (h1 : s.length ≤ 1000000000) (h2 : r.length ≤ 1000000000) : (rwayS s r).length ≤ 4000000000 := by
  have := (cutAt_len 47 s).1
  unfold rwayS; split
  · omega
  · simp; omega
attribute [local go_sem] Has_db_alloc5 of_db_alloc5 Has_db_drew5 of_db_drew5 
end Go.Proofs.YtlggdgpdfepppaaGreatDoor
namespace Go.Proofs.YtlggdgpdfepppaaGreatDoor
open Go.RowKit Go.Sort
set_option linter.unusedVariables false
set_option linter.unusedSimpArgs false
set_option maxRecDepth 100000
theorem RetPl {w w' : World} {r : List UInt8 × Int} {a : List UInt8} {n : Int} (h : r = (a, n)) (B : Below w.heap.size w w') : Ret w (.tuple #[.string ⟨r.1.toArray⟩, .int .i64 r.2]) (.returned (.tuple #[.string ⟨a.toArray⟩, .int .i64 n])) w' := by
  subst h
  exact ⟨rfl, B⟩
def placeT (l : List FixV) (a : List UInt8) : List UInt8 × Int := match portV a l with
  | none => ([], 6)
  | some f => (f.ref, 0)
theorem placeG_eq (l : List FixV) (s : List UInt8) : placeG l s = if !pairB s 47 6 then ([], 4) else
    if (cutAt 47 s).2.1 ≠ [] then (if (findV l ((cutAt 47 s).2.1 ++ 47 :: (cutAt 47 s).1)).isSome then ((cutAt 47 s).2.1 ++ 47 :: (cutAt 47 s).1, 0) else ([], 6)) else placeT l (cutAt 47 s).1 := rfl
theorem portV_drop (a : List UInt8) (l : List FixV) {k : Nat} (h : k < l.length) : portV a (l.drop k) = if l[k].kind == 5 && l[k].ident == a then some l[k] else portV a (l.drop (k + 1)) := by
  rw [List.drop_eq_getElem_cons h]; rfl
attribute [local go_sem] ba_append
attribute [local go_sem ↓] bfix_fold
attribute [local go_sem] run_bfix0
set_option maxHeartbeats 4000000 in
theorem placeg_any (d : DBs) (l : List FixV) (s : List UInt8) (w : World) (hL : Laid w) (hs : s.length ≤ 4000000000) (hD : DbAt w d l) :
    Calls Tryz.prog 127 #[.agg d.cells, .string ⟨s.toArray⟩] w (Ret w (.tuple #[.string ⟨(placeG l s).1.toArray⟩, .int .i64 (placeG l s).2])) := by
  have hc := cutAt_len 47 s
  have kp := Lib.hid (fun (W' : World) (b : Below w.heap.size w W') => zplace_any s W' (hL.below b) hs)
  have kf := Lib.hid (fun (r : List UInt8) (W' : World) (b : Below w.heap.size w W') => navfix_any d l r W' (hD.below b))
  have HC := Lib.hid (placeG_eq l s)
  have HI := Lib.hid (fun (W' : World) (b : Below w.heap.size w W') => hD.items.below b)
  have hsz := hD.ok.size
  have h6 := hD.ok.c6
  rw [hD.fn] at h6
  have HCAP := Lib.hid hD.cap
  have hln := hD.len
  have HSM := Lib.hid hD.small
  generalize placeG l s = out at *
  generalize cutAt 47 s = q at *
  obtain ⟨a, b, f⟩ := q
  simp only at hc
  obtain ⟨ha, hb⟩ := hc
  generalize pairB s 47 6 = ok at *
  clear hD hL
  go_enter Tryz.func127, Tryz.ntmps127
  go_upto_region 1 with (fail)
  have X0 : Blk (w.alloc (.cells d.cells 48)) w.heap.size d.cells := Blk.new w _ _
  have B0 := alloc_below5 w (.cells d.cells 48)
  generalize w.alloc _ = W at X0 B0 ⊢
  obtain ⟨g0, hg0⟩ : ∃ g, g = w.heap.size := ⟨_, rfl⟩
  rw [← hg0] at X0 ⊢
  clear hg0
  cases ok with
  | false =>
    have HO := Lib.hid (HC.out.trans (if_pos rfl))
    clear HC
    go_wp2_with (go_at_call 152; (with_reducible refine callR (kp.out _ B0) ?_); intro w1 b1 _ _ _)
    go_ret2
    exact RetPl HO.out (below_step B0 b1)
  | true =>
  have HC := Lib.hid (HC.out.trans (if_neg (by decide)))
  by_cases h : b = []
  · subst h
    have HC := Lib.hid (show out = placeT l a from HC.out.trans (if_neg (by simp)))
    go_upto_region 9 with (go_at_call 152; (with_reducible refine callR (kp.out _ B0) ?_); intro w1 b1 _ _ _)
    have X1 := X0.step b1
    have B1 := below_step B0 b1
    have k6 : w1.cell? ⟨g0, 6, none⟩ = some (.slice d.fa l.length d.fc) := by rw [X1.cell 6]; exact h6
    go_upto_region 10 with (fail)
    have HB := Lib.hid B1
    clear X0 X1 B0 B1 k6 kp kf h6 hsz b1
    go_loopw [41] (fun iv wr => ∃ k : Nat, k ≤ l.length ∧ iv = .int .i64 k ∧ portV a l = portV a (l.drop k) ∧ Below w1.heap.size w1 wr) (fun iv _ => l.length - (intOf iv).toNat)
    case atStart => exact ⟨0, by omega, rfl, rfl, Below.refl _ _⟩
    case round =>
      obtain ⟨k, hk, rfl, hf, BW⟩ := hrel
      have HF := Lib.hid hf
      clear hf
      have BB := Lib.hid (below_step HB.out BW)
      by_cases hlt : k < l.length
      · have hlt' : (k : Int) < (l.length : Int) := by omega
        have hkc : k < d.fc := by have := HCAP.out; omega
        obtain ⟨b2, o2, hA, hb2, _⟩ := (HI.out wr BB.out).get (k := k) (by simpa using hlt)
        have hx := fixItem (by have := HI.out wr BB.out; rw [hA] at this; exact this) (Below.refl _ _) hlt
        have hsm := HSM.out _ (List.getElem_mem hlt)
        have HD := Lib.hid (HF.out.trans (portV_drop a l hlt))
        generalize l[k] = y at *
        have i1 : Has_fixv wr b2 (o2 + k * 7) := ⟨_, hx⟩
        have i2 : of_fixv wr b2 (o2 + k * 7) = y := of_fixv_eq hx
        rw [hA]
        clear hx HF
        go_upto_region 12 with (fail)
        have Z := Blk.new wr y.arr 218
        have D := alloc_below3 wr (.cells y.arr 218)
        have B5 := below_step BB.out D
        have B6 := below_step BW D
        clear i1 i2
        generalize wr.alloc _ = W5 at Z B5 B6 ⊢
        generalize wr.heap.size = g7 at Z ⊢
        have z0 : W5.cell? ⟨g7, 0, none⟩ = some (.string ⟨y.ident.toArray⟩) := Z.cell 0
        have z2 : W5.cell? ⟨g7, 2, none⟩ = some (.int .u8 y.kind) := Z.cell 2
        by_cases hm : y.kind = 5 ∧ y.ident = a
        · have e1 : (y.kind == 5) = true := by simpa using hm.1
          have e2 : (y.ident == a) = true := by simpa using hm.2
          have HO := Lib.hid (show out = (y.ref, 0) by rw [HC.out]; unfold placeT; rw [HD.out, e1, e2]; rfl)
          have kr := Lib.hid (fixref_any y hsm W5)
          have j1 : Has_fixv W5 g7 0 := ⟨_, Z.is_fixv⟩
          have j2 : of_fixv W5 g7 0 = y := of_fixv_eq Z.is_fixv
          clear hm HD
          go_wp2_with (go_at_call 154; (with_reducible refine callR kr.out ?_); intro w6 b6 _ _ _)
          go_ret2
          exact RetPl HO.out (below_step B5 b6)
        · have HD := Lib.hid (show portV a l = portV a (l.drop (k + 1)) by
            rw [HD.out, if_neg]
            intro h
            simp only [Bool.and_eq_true, beq_iff_eq] at h
            exact hm h)
          by_cases h1 : y.kind = 5
          · have e1 : (y.kind == 5) = true := by simpa using h1
            have e2 : (y.ident == a) = false := by
              have : y.ident ≠ a := fun h => hm ⟨h1, h⟩
              simpa using this
            clear hm h1
            go_wp2
            go_roundw
            case rel => exact ⟨k + 1, by omega, by go_num, HD.out, B6⟩
            case measure => simp [intOf]; omega
          · have e1 : (y.kind == 5) = false := by simpa using h1
            clear hm h1
            go_wp2
            go_roundw
            case rel => exact ⟨k + 1, by omega, by go_num, HD.out, B6⟩
            case measure => simp [intOf]; omega
      · have hlt' : ¬ (k : Int) < (l.length : Int) := by omega
        have HO := Lib.hid (show out = ([], 6) by rw [HC.out]; unfold placeT; rw [HF.out, List.drop_eq_nil_of_le (by omega)]; rfl)
        clear HF
        go_wp2
        go_ret2
        exact RetPl HO.out BB.out
  · have h0 : (b == []) = false := by simpa using h
    have HC := Lib.hid (HC.out.trans (if_pos h))
    have l1 : ¬ 9223372036854775807 < b.length + 1 := by omega
    have l2 : ¬ 9223372036854775807 < b.length + 1 + a.length := by omega
    clear h
    go_upto_region 5 with (go_at_call 152; (with_reducible refine callR (kp.out _ B0) ?_); intro w1 b1 _ _ _)
    have X1 := X0.step b1
    have B1 := below_step B0 b1
    have i1 : Has_db w1 g0 0 := ⟨_, X1.is_db hsz⟩
    have i2 : of_db w1 g0 0 = d.cells := of_db_eq (X1.is_db hsz)
    have kf2 := Lib.hid (kf.out (b ++ 47 :: a) w1 B1)
    have HFV := Lib.hid (fixV_find l (b ++ 47 :: a))
    generalize fixV l (b ++ 47 :: a) = fx at *
    obtain ⟨fv, fe⟩ := fx
    cases hf : (findV l (b ++ 47 :: a)).isSome with
    | true =>
      have HO := Lib.hid (HC.out.trans (if_pos hf))
      have hfe : fe = 0 := by have := congrArg Prod.snd HFV.out; simp only [hf] at this; simpa using this
      subst hfe
      clear HC HFV hf kf
      go_wp2_with (first | (go_at_call 153; (with_reducible refine callR kf2.out ?_); intro w2 b2 _ _ _))
      go_ret2
      exact RetPl HO.out (below_step (below_step B1 b2) (alloc_below3 _ _))
    | false =>
      have HO := Lib.hid (HC.out.trans (if_neg (by rw [hf]; decide)))
      have hfe : fe = 6 := by have := congrArg Prod.snd HFV.out; simp only [hf] at this; simpa using this
      subst hfe
      clear HC HFV hf kf
      go_wp2_with (first | (go_at_call 153; (with_reducible refine callR kf2.out ?_); intro w2 b2 _ _ _))
      go_ret2
      exact RetPl HO.out (below_step (below_step B1 b2) (alloc_below3 _ _))
end Go.Proofs.YtlggdgpdfepppaaGreatDoor
