/- A slice of strings that came in: opened. PageCommands: the statement walked. From the rows' premises to the walks': what the listed variables hold; a plan among the arguments. From the rows' premises to the walks': the sentinels of strconv; a string among the arguments. From the rows' premises to the walks' of layer 23: the forms, the discontinuity, no restriction. Layer 58: the ranges of the numbers that a view holds, out of its reading; strings opened. -/
import Derived.Test.YtlleijickhifmaaGreatDoorPk27
import Derived.Test.YtlleijickhifmaaGreatDoorPk37
import Derived.Test.YtlleijickhifmaaGreatDoorPk39
import Derived.Test.YtlleijickhifmaaGreatDoorPk45
import Derived.Deep.DeepHandedRow
import Derived.Carry
import Derived.LaidSub
import Derived.Test.YtlleijickhifmaaGreatDoorPk43
import Derived.Test.YtlleijickhifmaaGreatDoorPk42
import Derived.Test.YtlleijickhifmaaGreatDoorPk07
import Derived.Test.YtlleijickhifmaaGreatDoorPk19
namespace Go.Proofs.YtlleijickhifmaaGreatDoor
open Go.RowKit Go.ChangeShapes Go.WideShapes Go.Deep
set_option linter.unusedVariables false
set_option linter.unusedSimpArgs false
set_option maxRecDepth 100000
/-- The slice at A holds the strings l. -/
structure Rs (w : World) (A : Option Addr) (l : List (List UInt8)) : Prop where
  at_ : l ≠ [] → ∃ b o, A = some ⟨b, o, none⟩ ∧ b < w.heap.size ∧ ∀ i s, l[i]? = some s → w.cell? ⟨b, o + i, none⟩ = some (.string ⟨s.toArray⟩)
section
variable {H : Type} {enc : TypeId × Value → H} {w : World} {base : Nat} {spare : Nat → Bool} {held : Bool}
theorem open_strCR {fuel : Nat} {cs : List Value} {y : DataW H × List MemPlace} (h : DataW.trod enc Tryz.prog w base spare held fuel 9 cs = some y) : ∃ s : List UInt8, cs = (#[.string ⟨s.toArray⟩] : Array Value).toList ∧ s.length ≤ Rows.uptoBulk y.1 := by
  obtain ⟨s, e, hx, _⟩ := DataW.trod_string Tryz.underlying9 h
  refine ⟨s.data.toList, by rw [e], ?_⟩
  rw [hx]; simp [Rows.uptoBulk]
theorem open_strsR {r : Reach} {b0 : Nat} {v : Value} {d : DataW H} {ps : List MemPlace} (hv : Value.okWide Tryz.prog w r b0 41 v) (h : DataW.Trod enc Tryz.prog w base spare held 41 v d ps) :
    ∃ (l : List (List UInt8)) (A : Option Addr) (c : Nat), v = .slice A l.length c ∧ l.length ≤ c ∧ c ≤ maxLen ∧ Rs w A l ∧ l.length ≤ Rows.uptoBulk d ∧ ∀ s ∈ l, s.length ≤ Rows.uptoBulk d := by
  obtain ⟨fuel, hf⟩ := h
  obtain ⟨a0, l0, c0, rfl⟩ := okWide_slice Tryz.underlying41 hv
  have hc1 : (Value.slice a0 l0 c0).cells.toList = [.slice a0 l0 c0] := rfl
  rw [hc1] at hf
  obtain ⟨l, A, c, h1, h2, h3, h4, h5, h6⟩ := open_items (fun s : List UInt8 => (#[.string ⟨s.toArray⟩] : Array Value)) (fun s N => s.length ≤ N) (fun _ _ _ h k => Nat.le_trans k h) Tryz.underlying41 cells_str (by decide) (fun x => rfl) (fun h => open_strCR h) hf
  refine ⟨l, A, c, h1, h2, h3, ⟨fun hne => ?_⟩, h5, h6⟩
  obtain ⟨b, o, hA, hb, hc⟩ := h4.at_ (by simpa using hne)
  refine ⟨b, o, hA, hb, fun i s hs => ?_⟩
  have := hc i #[.string ⟨s.toArray⟩] (by rw [List.getElem?_map, hs]; rfl) 0 (by omega)
  rw [Nat.mul_one, Nat.add_zero] at this
  exact this
end
end Go.Proofs.YtlleijickhifmaaGreatDoor
namespace Go.Proofs.YtlleijickhifmaaGreatDoor
open Go.RowKit Go.Sort
set_option linter.unusedVariables false
set_option linter.unusedSimpArgs false
set_option maxRecDepth 100000
attribute [local go_sem] run_storeN_term run_storeB_term splice_term SzIs_term Fits_term Ones_term
set_option maxHeartbeats 16000000 in
theorem lawCommands_any (t : Term) (v : Vw) (d : VAd) (arr : Array Value) (ks : List (List UInt8)) (A : Option Addr) (c n : Nat) (w : World) (hv : v.At d arr) (hO : Open58 w) (hR : ErrsAt w) (hF : FormsAt w) (hok : v.ok w d) (hp : t.pad.length ≤ 4000000000)
    (hK : Rs w A ks) (hkn : ks.length = n) (hkc : n ≤ c) (hkl : ∀ s ∈ ks, s.length ≤ 2000000) :
    Calls Tryz.prog 3 #[.agg t.arr, .agg arr, .slice A n c] w (Ret w (.bool true)) := by
  have hfx : ∀ x ∈ (shownS v).es, x.leg.fix.length ≤ 4000000000 := by
    intro x hx
    unfold shownS at hx
    split at hx
    · exact (hok.temp.each x hx).leg.fix
    · exact (hok.active.each x hx).leg.fix
  go_enter Tryz.func3, Tryz.ntmps3
  go_upto_region 1 with (fail)
  generalize hW : (w.alloc _).alloc _ = W
  have X0 : Blk W w.heap.size t.arr := by rw [← hW]; exact (Blk.new w t.arr _).alloc _
  have V0 : Blk W (w.heap.size + 1) arr := by rw [← hW, ← World.size_alloc w (.cells t.arr 23)]; exact Blk.new _ _ _
  have B0 : Below w.heap.size w W := by rw [← hW]; go_grown
  clear hW
  have hvt : w.heap.size + 1 ≠ w.heap.size := by omega
  generalize w.heap.size + 1 = gv at V0 hvt ⊢
  obtain ⟨gt, hgt⟩ : ∃ g, g = w.heap.size := ⟨_, rfl⟩
  rw [← hgt] at X0 hvt ⊢
  have hge : w.heap.size ≤ gt := by omega
  clear hgt
  go_upto_region 3 with (go_at_call 4; (with_reducible refine callRB (awake58p_any _ (hO.below B0)) ?_); intro w1 B1)
  have X1 := X0.step B1
  have V1 := V0.step B1
  have C1 := below_step B0 B1
  clear X0 V0 B0 B1
  have j1 : Has_view w1 gv 0 := ⟨_, V1.is_view hv.size⟩
  have j2 : of_view w1 gv 0 = arr := of_view_eq (V1.is_view hv.size)
  have x1 := X1.cell
  have HS := Lib.hid (small58_any v d arr hv w1)
  cases hs : smallB v
  · rw [hs] at HS
    go_wp2_with (go_at_call 5; (with_reducible refine callRB HS.out ?_); intro w2 B2)
    go_ret
    exact Ret.bool rfl (below_step C1 B2)
  · rw [hs] at HS
    by_cases hp0 : 60 < n
    · have hp2 : (60 : Int) < (n : Int) := by omega
      go_wp2_with (go_at_call 5; (with_reducible refine callRB HS.out ?_); intro w2 B2)
      go_ret
      exact Ret.bool rfl (below_step C1 B2)
    have hp3 : ¬ (60 : Int) < (n : Int) := by omega
    by_cases hp1 : 100 < t.pad.length
    · have hp2 : (100 : Int) < (t.pad.length : Int) := by omega
      go_wp2_with (go_at_call 5; (with_reducible refine callRB HS.out ?_); intro w2 B2; have x2 := (X1.step B2).cell)
      go_ret
      exact Ret.bool rfl (below_step C1 B2)
    · have hp2 : ¬ (100 : Int) < (t.pad.length : Int) := by omega
      go_upto_region 6 with (go_at_call 5; (with_reducible refine callRB HS.out ?_); intro w2 B2; have x2 := (X1.step B2).cell)
      have X2 := X1.step B2
      have V2 := V1.step B2
      have C2 := below_step C1 B2
      clear X1 V1 C1 B2 j1 j2 x1 x2 HS hs hp1 hp2 hp3 hp0
      have HP0 := Lib.hid hp
      clear hp
      have HPR := Lib.hid (fun (q : Term) (key : List UInt8) (wr : World) (C : Below w.heap.size w wr) (h1 : key.length ≤ 2000000) (h2 : q.pad.length ≤ 4000000000) =>
        press58_any q v d arr hv key wr (hO.below C).words (hO.below C).laid (hO.below C).err (hok.below C) (by omega) (by omega))
      have HPA := Lib.hid (fun (s : List UInt8) (wr : World) (C : Below w.heap.size w wr) (h1 : s.length ≤ 1000) =>
        editParse_any s wr (hO.below C).laid (hR.below C) (hF.below C) (by omega))
      have HCM := Lib.hid (fun (q : Term) (key : List UInt8) => press_cmd q v key)
      have HPD := Lib.hid (fun (q : Term) (key : List UInt8) (h : q.pad.length ≤ 4000000000) (h1 : key.length ≤ 2000000) => show (pressS q v key).1.pad.length ≤ 4000000000 from press_pad (t := q) (v := v) key h h1 hfx)
      have HVZ := Lib.hid hv.size
      clear hv hO hR hF hok hfx
      go_loopw [31] (fun i wr => ∃ (k : Nat) (q : Term), k ≤ n ∧ q.pad.length ≤ 4000000000 ∧ i = .int .i64 k ∧ Blk wr gt q.arr ∧ Blk wr gv arr ∧ Below w.heap.size w wr) (fun i _ => n - (intOf i).toNat)
      case atStart => exact ⟨0, t, by omega, HP0.out, rfl, X2, V2, C2⟩
      case round =>
        obtain ⟨k, q, hk, hq, rfl, X, V, C⟩ := hrel
        clear X2 V2 C2 HP0
        by_cases hlt : k < n
        · obtain ⟨b, o, hA, hb, hc⟩ := hK.at_ (by rintro rfl; simp at hkn; omega)
          subst hA
          obtain ⟨key, hkey⟩ : ∃ key, ks[k]? = some key := ⟨_, List.getElem?_eq_getElem (by omega)⟩
          have c0 : wr.cell? ⟨b, o + k, none⟩ = some (.string ⟨key.toArray⟩) := by rw [C.cell (p := ⟨b, _, none⟩) hb]; exact hc k key hkey
          have hkl1 := hkl key (List.mem_of_getElem? hkey)
          have j1 : Has_view wr gv 0 := ⟨_, V.is_view HVZ.out⟩
          have j2 : of_view wr gv 0 = arr := of_view_eq (V.is_view HVZ.out)
          have x4 := X.has_term
          have x5 := X.of_term
          have HP := HPR.out q key wr C hkl1 hq
          have HC := HCM.out q key
          have HD := HPD.out q key hq hkl1
          clear hc hb hkey
          generalize pressS q v key = r at HP HC HD
          obtain ⟨qt, qc, qe⟩ := r
          simp only at HD
          have HP := Lib.hid HP
          have HC := Lib.hid HC
          have HD := Lib.hid HD
          have hlt' : (k : Int) < (n : Int) := by omega
          go_upto_region 11 with (go_at_call 6; (with_reducible refine callTR HP.out ?_); intro w5 B5; have q2 := (X.step B5).plain; have q3 := (X.step B5).of)
          have X6 := (X.step B5).set qt.arr
          have V6 := (V.step B5).far hvt qt.arr
          have C6 := below_setRow' (below_step C B5) hge qt.arr
          clear q2 q3 X V C B5 HP j1 j2 x4 x5 c0 hq
          generalize w5.setRow gt qt.arr = W6 at X6 V6 C6 ⊢
          obtain ⟨he, hcase⟩ := HC.out
          clear HC
          simp only at he hcase
          rcases hcase with rfl | rfl | rfl | ⟨hx, rfl⟩ | ⟨s, rfl, hsl, hsp⟩
          · by_cases hz : qe = 0
            · subst hz
              go_wp2
              go_roundw
              case rel => exact ⟨k + 1, qt, by omega, HD.out, by go_num, X6, V6, C6⟩
              case measure => simp [intOf]; omega
            · have hz' : (qe != 0) = true := by simpa using hz
              go_wp2
              go_roundw
              case rel => exact ⟨k + 1, qt, by omega, HD.out, by go_num, X6, V6, C6⟩
              case measure => simp [intOf]; omega
          all_goals obtain rfl : qe = 0 := by
                      by_cases hz : qe = 0
                      · exact hz
                      · first | exact absurd (he hz) (by decide) | (rcases hx with hx | hx <;> (rw [hx] at he; exact absurd (he hz) (by decide))) | exact absurd (he hz) (by simp)
          · unfold kUNDO
            go_wp2
            go_roundw
            case rel => exact ⟨k + 1, qt, by omega, HD.out, by go_num, X6, V6, C6⟩
            case measure => simp [intOf]; omega
          · go_wp2
            go_roundw
            case rel => exact ⟨k + 1, qt, by omega, HD.out, by go_num, X6, V6, C6⟩
            case measure => simp [intOf]; omega
          · rcases hx with rfl | rfl
            · unfold kEXEC
              go_wp2
              go_roundw
              case rel => exact ⟨k + 1, qt, by omega, HD.out, by go_num, X6, V6, C6⟩
              case measure => simp [intOf]; omega
            · unfold kERASE
              go_wp2
              go_roundw
              case rel => exact ⟨k + 1, qt, by omega, HD.out, by go_num, X6, V6, C6⟩
              case measure => simp [intOf]; omega
          · have HQ := HPA.out s W6 C6 hsl
            obtain ⟨pe, pz⟩ : ∃ pe, (editParse s).1 = pe := ⟨_, rfl⟩
            have hps : editParse s = (pe, 0) := by rw [← pz, ← hsp]
            rw [hps] at HQ
            unfold edVal at HQ
            dsimp only at HQ
            have HQ := Lib.hid HQ
            have HSL := Lib.hid hsl
            clear hps pz hsp he hsl
            go_wp2_with (go_at_call 7; (with_reducible refine callR HQ.out ?_); intro w7 B7 _ _ _)
            go_roundw
            case rel =>
              have Z7 := below_step B7 ((Below.refl w7.heap.size w7).alloc (Nat.le_refl _) (.cells pe.arr 53))
              exact ⟨k + 1, qt, by omega, HD.out, by go_num, X6.step Z7, V6.step Z7, below_step C6 Z7⟩
            case measure => simp [intOf]; omega
        · go_wp2
          go_ret
          exact Ret.bool rfl C
end Go.Proofs.YtlleijickhifmaaGreatDoor
namespace Go.Proofs.YtlleijickhifmaaGreatDoor
open Go.RowKit Go.ChangeShapes Go.WideShapes Go.Deep
set_option linter.unusedVariables false
set_option linter.unusedSimpArgs false
/-- What a listed variable's cells hold. -/
def laidCells : DataW Unit → Array Value
  | .agg l => (l.map fun | .lit (.int k n) => Value.int k n | .lit (.string b) => .string ⟨b.toArray⟩ | _ => .bool false).toArray
  | _ => #[]
def setBlk (h : Array Obj) (g : Nat) (cs : Array Value) : Array Obj := h.modify g fun
  | .cells _ t frozen => .cells cs t frozen
  | o => o
theorem laidVars_mem {w : World} : ∀ {l : List (String × DataW Unit)} {ps : List MemPlace}, DataW.LaidVars Tryz.prog w l ps → ∀ n d, (n, d) ∈ l →
    ∃ g t cs fuel p, Tryz.prog.globalNamed n = some g ∧ (Tryz.prog.globals[g]?).map (·.type) = some t ∧ w.var? Tryz.prog n = some cs ∧ DataW.trod (fun _ => ()) Tryz.prog w 0 (fun _ => true) false fuel t cs.toList = some (d, p)
  | [], _, _, n, d, hm => by cases hm
  | (n', d') :: r, ps, h, n, d, hm => by
    obtain ⟨g, t, cs, fuel, p, q, h1, h2, h3, h4, h5, _⟩ := h
    rcases List.mem_cons.1 hm with e | hm
    · injection e with e1 e2
      subst e1; subst e2
      exact ⟨g, t, cs, fuel, p, h1, h2, h3, h4⟩
    · exact laidVars_mem h5 n d hm
theorem tab_of {w : World} {l : List (String × DataW Unit)} {ps : List MemPlace} (h : DataW.LaidVars Tryz.prog w l ps) {n : String} {k : IntKind} {zs : List Int} {g : Nat} {t e : TypeId} {m : Nat}
    (hg : Tryz.prog.globalNamed n = some g) (hty : (Tryz.prog.globals[g]?).map (·.type) = some t) (ht : Tryz.prog.underlying t = some (.array m e)) (he : Tryz.prog.underlying e = some (.int k)) (hce : Tryz.prog.cellsOf e = 1) (hct : Tryz.prog.cellsOf t = m)
    (hm : (n, Lib.tabData k zs) ∈ l) : Lib.TabIs Tryz.prog w n k zs := by
  obtain ⟨g', t', cs, fuel, p, hg', ht', hvar, hd⟩ := laidVars_mem h n _ hm
  obtain rfl := Option.some.inj (hg.symm.trans hg')
  obtain rfl := Option.some.inj (hty.symm.trans ht')
  unfold Lib.TabIs
  rw [hvar, ← Lib.cells_of_tab ht he hce hct hd]
def strData (ss : List (List UInt8)) : DataW Unit := .agg (ss.map fun s => .lit (.string s))
theorem strs_of {w : World} {l : List (String × DataW Unit)} {ps : List MemPlace} (h : DataW.LaidVars Tryz.prog w l ps) {n : String} {ss : List (List UInt8)} {g : Nat} {t e : TypeId} {m : Nat}
    (hg : Tryz.prog.globalNamed n = some g) (hty : (Tryz.prog.globals[g]?).map (·.type) = some t) (ht : Tryz.prog.underlying t = some (.array m e)) (he : Tryz.prog.underlying e = some .string) (hce : Tryz.prog.cellsOf e = 1)
    (hm : (n, strData ss) ∈ l) : ∀ k, k < m → k < ss.length ∧ w.cell? ⟨g, k, none⟩ = some (.string ⟨(ss.getD k []).toArray⟩) := by
  obtain ⟨g', t', cs, fuel, p, hg', ht', hvar, hd⟩ := laidVars_mem h n _ hm
  obtain rfl := Option.some.inj (hg.symm.trans hg')
  obtain rfl := Option.some.inj (hty.symm.trans ht')
  obtain ⟨xs, m', _, hx, hlen, hxl, hf⟩ := DataW.trod_array ht hd
  intro k hk
  have h1 := hf k hk
  rw [hce, Nat.mul_one, List.getElem?_eq_getElem (by omega)] at h1
  obtain ⟨s, e1, e2, _⟩ := DataW.trod_string he h1
  have h2 : (strData ss) = .agg (xs.map (·.1)) := by simp only [Prod.mk.injEq] at hx; exact hx.1
  unfold strData at h2
  injection h2 with h2
  have h3 : (ss.map fun s => (DataW.lit (H := Unit) (.string s)))[k]? = (xs.map (·.1))[k]? := by rw [h2]
  rw [List.getElem?_map, List.getElem?_map, List.getElem?_eq_getElem (show k < xs.length by omega)] at h3
  cases hs : ss[k]? with
  | none => rw [hs] at h3; cases h3
  | some s' =>
    rw [hs, e2] at h3
    have h4 : s' = s.data.toList := by simpa using h3
    have hkl : k < ss.length := (List.getElem?_eq_some_iff.1 hs).1
    refine ⟨hkl, ?_⟩
    have hc : cs.toList[k]? = some (.string s) := by
      have hkc : k < cs.toList.length := by
        rcases Nat.lt_or_ge k cs.toList.length with h | h
        · exact h
        · rw [List.drop_of_length_le h] at e1; simp at e1
      rw [List.drop_eq_getElem_cons hkc] at e1
      simp at e1
      rw [List.getElem?_eq_getElem hkc]; simp [e1]
    rw [World.var?_cell hg hvar k]
    simp only [Array.getElem?_toList] at hc
    rw [hc, List.getD_eq_getElem?_getD, hs, h4]
    rfl
theorem gNames : Tryz.prog.globalNamed "flightdeck/leg.names" = some 2 := by kernel_rfl
section
variable {H : Type} {enc : TypeId × Value → H} {w : World} {base : Nat} {spare : Nat → Bool} {held : Bool}
set_option maxRecDepth 100000 in
theorem open_planT {r : Reach} {b0 : Nat} {v : Value} {d : DataW H} {ps : List MemPlace} (hv : Value.okWide Tryz.prog w r b0 26 v) (h : DataW.Trod enc Tryz.prog w base spare held 26 v d ps) :
    ∃ (p : Plan) (A : Option Addr) (c : Nat), v = p.val A c ∧ p.es.length ≤ c ∧ Ents w A p.es ∧ p.es.length ≤ Rows.uptoBulk d ∧ (Rows.uptoBulk d ≤ 4000000000 → p.small) := by
  obtain ⟨cs, rfl, hsz⟩ := okWide_struct Tryz.underlying26 hv
  obtain ⟨fuel, hf⟩ := h
  obtain ⟨xs, n, _, hx, hlen, hxl, hf⟩ := DataW.trod_struct Tryz.underlying26 hf
  rw [cells_plan] at hsz
  have hl4 : cs.toList.length = 4 := by simpa using hsz
  obtain ⟨c0, c1, c2, c3, hcs⟩ := list4 hl4
  obtain ⟨y0, y1, y2, y3, rfl⟩ := list4 hxl
  have g0 := fld hf 0 9 0 1 rfl cells_str
  have g1 := fld hf 1 9 1 1 rfl cells_str
  have g2 := fld hf 2 24 2 1 rfl cells_es
  have g3 := fld hf 3 3 3 1 rfl cells_int
  have hvc : (Value.agg cs).cells.toList = [c0, c1, c2, c3] := hcs
  rw [hvc] at g0 g1 g2 g3
  simp only [List.drop_succ_cons, List.drop_zero, List.take_succ_cons, List.take_zero, List.getElem?_cons_succ, List.getElem?_cons_zero] at g0 g1 g2 g3
  obtain ⟨s0, e0, b0⟩ := open_str g0
  obtain ⟨s1, e1, b1⟩ := open_str g1
  obtain ⟨es, A, c, e2, hc, hE, b2, b3⟩ := open_ents g2
  obtain ⟨k, e3, _⟩ := DataW.trod_int Tryz.underlying3 g3
  simp only [List.cons.injEq, and_true] at e3
  simp only [Prod.mk.injEq] at hx
  have hy : Rows.uptoBulk d = Rows.uptoBulkAll [y0.1, y1.1, y2.1, y3.1] + 1 := by rw [hx.1]; simp [Rows.uptoBulk]
  have p0 : Rows.uptoBulk y0.1 ≤ Rows.uptoBulkAll [y0.1, y1.1, y2.1, y3.1] := bulk_part (by simp)
  have p1 : Rows.uptoBulk y1.1 ≤ Rows.uptoBulkAll [y0.1, y1.1, y2.1, y3.1] := bulk_part (by simp)
  have p2 : Rows.uptoBulk y2.1 ≤ Rows.uptoBulkAll [y0.1, y1.1, y2.1, y3.1] := bulk_part (by simp)
  refine ⟨⟨s0, s1, es, k⟩, A, c, ?_, hc, hE, ?_, fun hN => ⟨?_, ?_, ?_, fun x hx' => ?_⟩⟩
  · have : cs = #[c0, c1, c2, c3] := by apply Array.toList_inj.1; rw [hcs]
    rw [this, e0, e1, e2, e3]; rfl
  · show es.length ≤ _; omega
  · show s0.length ≤ _; omega
  · show s1.length ≤ _; omega
  · show es.length ≤ _; omega
  · obtain ⟨q1, q2, q3⟩ := b3 x hx'
    exact ⟨⟨by omega, by omega⟩, by omega⟩
set_option maxRecDepth 100000 in
theorem open_entsT {r : Reach} {b0 : Nat} {v : Value} {d : DataW H} {ps : List MemPlace} (hv : Value.okWide Tryz.prog w r b0 24 v) (h : DataW.Trod enc Tryz.prog w base spare held 24 v d ps) :
    ∃ (es : List Entry) (A : Option Addr) (c : Nat), v = .slice A es.length c ∧ es.length ≤ c ∧ Ents w A es ∧ es.length ≤ Rows.uptoBulk d ∧ (Rows.uptoBulk d ≤ 4000000000 → ∀ x ∈ es, x.small) := by
  obtain ⟨fuel, hf⟩ := h
  obtain ⟨a0, l0, c0, rfl⟩ := okWide_slice Tryz.underlying24 hv
  have hc1 : (Value.slice a0 l0 c0).cells.toList = [.slice a0 l0 c0] := rfl
  rw [hc1] at hf
  obtain ⟨es, A, c, e, hc, hE, b1, b2⟩ := open_ents hf
  exact ⟨es, A, c, e, hc, hE, b1, fun hN x hx => by obtain ⟨q1, q2, q3⟩ := b2 x hx; simp only at q1 q2 q3 b1; exact ⟨⟨by omega, by omega⟩, by omega⟩⟩
end
end Go.Proofs.YtlleijickhifmaaGreatDoor
namespace Go.Proofs.YtlleijickhifmaaGreatDoor
open Go.RowKit Go.ChangeShapes Go.WideShapes Go.Deep
set_option linter.unusedVariables false
set_option linter.unusedSimpArgs false
theorem gErrR : Tryz.prog.globalNamed "strconv.ErrRange" = some 5 := by kernel_rfl
theorem gErrS : Tryz.prog.globalNamed "strconv.ErrSyntax" = some 4 := by kernel_rfl
set_option maxRecDepth 100000 in
theorem sent_of {w : World} {l : List (String × DataW Unit)} {d : DataW Unit} {n : String} {g : Nat} (h : laidMet Tryz.prog l w) (hm : (n, d) ∈ l) (hg : Tryz.prog.globalNamed n = some g) (ht : (Tryz.prog.globals[g]?).map (·.type) = some 96) :
    ∃ ev, w.cell? ⟨g, 0, none⟩ = some ev ∧ (ev = .nilIface ∨ ∃ te pe, ev = .iface te pe) := by
  obtain ⟨ps, hv, _, _⟩ := h
  obtain ⟨g', t', cs, fuel, p, hg', ht', hvar, hd⟩ := laidVars_mem hv _ _ hm
  obtain rfl := Option.some.inj (hg.symm.trans hg')
  obtain rfl : 96 = t' := Option.some.inj (ht.symm.trans ht')
  have key : ∃ ev, cs.toList = [ev] ∧ (ev = .nilIface ∨ ∃ u v, ev = .iface u v) := by
    cases fuel with
    | zero => simp [DataW.trod] at hd
    | succ n =>
      unfold DataW.trod at hd
      rw [Tryz.underlying96] at hd
      split at hd <;> simp_all
  obtain ⟨ev, hcs, hev⟩ := key
  refine ⟨ev, ?_, hev⟩
  rw [World.var?_cell hg hvar 0]
  have : cs = #[ev] := Array.toList_inj.1 (by rw [hcs])
  rw [this]; rfl
theorem errs_of {w : World} {l : List (String × DataW Unit)} {d e : DataW Unit} (h : laidMet Tryz.prog l w) (h1 : ("strconv.ErrRange", d) ∈ l) (h2 : ("strconv.ErrSyntax", e) ∈ l) : ErrsAt w :=
  ⟨sent_of h h1 gErrR (by kernel_rfl), sent_of h h2 gErrS (by kernel_rfl)⟩
section
variable {H : Type} {enc : TypeId × Value → H} {w : World} {base : Nat} {spare : Nat → Bool} {held : Bool}
set_option maxRecDepth 100000 in
theorem open_strX {r : Reach} {b0 : Nat} {v : Value} {d : DataW H} {ps : List MemPlace} (hv : Value.okWide Tryz.prog w r b0 9 v) (h : DataW.Trod enc Tryz.prog w base spare held 9 v d ps) : ∃ s : List UInt8, v = .string ⟨s.toArray⟩ ∧ s.length ≤ Rows.uptoBulk d := by
  obtain ⟨s, rfl, rfl, rfl, _⟩ := Go.ChangeMaps.open_string Tryz.underlying9 hv h
  exact ⟨s.data.toList, by simp, by simp [Rows.uptoBulk]⟩
end
end Go.Proofs.YtlleijickhifmaaGreatDoor
namespace Go.Proofs.YtlleijickhifmaaGreatDoor
open Go.RowKit Go.ChangeShapes Go.WideShapes Go.Deep
set_option linter.unusedVariables false
set_option linter.unusedSimpArgs false
theorem gForms23 : Tryz.prog.globalNamed "flightdeck/edit.forms" = some 0 := by kernel_rfl
def winData (lo hi : Int) : DataW Unit := .agg [.lit (.int .i64 lo), .lit (.int .i64 hi)]
def zeroData : DataW Unit := .agg [.lit (.int .u8 0), .lit (.string []), .lit (.string []), .lit (.int .u8 0), .lit (.bool false), .lit (.int .i64 0), .lit (.int .i64 0), .lit (.int .i64 0), .lit (.int .i64 0), winData 0 0, .lit (.int .i64 0), .lit (.int .i64 0)]
def gapData : DataW Unit := .agg [.lit (.bool true), zeroData, winData 0 0, winData 0 0, .lit (.int .u8 0), .lit (.string [])]
def formsData : DataW Unit := .agg ((List.range 13).map fun (k : Nat) => .agg [.lit (.string (formW (k : Int))), .lit (.string (formF (k : Int)))])
section
variable {w : World}
theorem two_data {t : TypeId} {fuel : Nat} {cs : List Value} {y : DataW Unit × List MemPlace} {f0 f1 : Field} (hu : Tryz.prog.underlying t = some (.struct #[f0, f1])) (hc : Tryz.prog.cellsOf t = 2)
    (h0 : f0.type = 2 ∧ f0.offset = 0) (h1 : f1.type = 2 ∧ f1.offset = 1) (h : DataW.trod (fun _ => ()) Tryz.prog w 0 (fun _ => true) false fuel t cs = some y) {a b : Int} (hy : y.1 = winData a b) : cs = [.int .i64 a, .int .i64 b] := by
  obtain ⟨xs, n, _, hx, hlen, hxl, hf⟩ := DataW.trod_struct hu h
  rw [hc] at hlen
  obtain ⟨a', b', rfl⟩ := list2 hlen
  obtain ⟨y0, y1, rfl⟩ := list2 hxl
  have g0 := hf 0 f0 rfl
  have g1 := hf 1 f1 rfl
  rw [h0.1, h0.2, cells_i64] at g0
  rw [h1.1, h1.2, cells_i64] at g1
  obtain ⟨v0, e0, q0, _⟩ := DataW.trod_int Tryz.underlying2 g0
  obtain ⟨v1, e1, q1, _⟩ := DataW.trod_int Tryz.underlying2 g1
  rw [hx, q0, q1] at hy
  simp only [winData, List.map_cons, List.map_nil, DataW.agg.injEq, List.cons.injEq, DataW.lit.injEq, Lit.int.injEq, and_true, true_and] at hy
  simp at e0 e1
  rw [e0, e1, hy.1, hy.2]
theorem leg_zero {fuel : Nat} {cs : List Value} {y : DataW Unit × List MemPlace} (h : DataW.trod (fun _ => ()) Tryz.prog w 0 (fun _ => true) false fuel 77 cs = some y) (hy : y.1 = zeroData) : cs = (⟨0, [], [], 0, false, 0, 0, 0, 0, 0, 0, 0, 0⟩ : Leg).arr.toList := by
  obtain ⟨xs, n, _, hx, hlen, hxl, hf⟩ := DataW.trod_struct Tryz.underlying77 h
  rw [cells_leg] at hlen
  obtain ⟨c0, c1, c2, c3, c4, c5, c6, c7, c8, c9, c10, c11, c12, rfl⟩ := list13 hlen
  obtain ⟨y0, y1, y2, y3, y4, y5, y6, y7, y8, y9, y10, y11, rfl⟩ := list12 hxl
  have g0 := fld hf 0 75 0 1 rfl cells_lt
  have g1 := fld hf 1 9 1 1 rfl cells_str
  have g2 := fld hf 2 9 2 1 rfl cells_str
  have g3 := fld hf 3 5 3 1 rfl cells_u8
  have g4 := fld hf 4 4 4 1 rfl cells_bool
  have g5 := fld hf 5 2 5 1 rfl cells_i64
  have g6 := fld hf 6 2 6 1 rfl cells_i64
  have g7 := fld hf 7 2 7 1 rfl cells_i64
  have g8 := fld hf 8 2 8 1 rfl cells_i64
  have g9 := fld hf 9 51 9 2 rfl cells_win
  have g10 := fld hf 10 2 11 1 rfl cells_i64
  have g11 := fld hf 11 2 12 1 rfl cells_i64
  simp only [List.drop_succ_cons, List.drop_zero, List.take_succ_cons, List.take_zero, List.getElem?_cons_succ, List.getElem?_cons_zero] at g0 g1 g2 g3 g4 g5 g6 g7 g8 g9 g10 g11
  rw [hx] at hy
  simp only [zeroData, List.map_cons, List.map_nil, DataW.agg.injEq, List.cons.injEq, and_true] at hy
  obtain ⟨k0, k1, k2, k3, k4, k5, k6, k7, k8, k9, k10, k11⟩ := hy
  obtain ⟨v0, e0, q0, _⟩ := DataW.trod_int Tryz.underlying75 g0
  obtain ⟨v1, e1, q1, _⟩ := DataW.trod_string Tryz.underlying9 g1
  obtain ⟨v2, e2, q2, _⟩ := DataW.trod_string Tryz.underlying9 g2
  obtain ⟨v3, e3, q3, _⟩ := DataW.trod_int Tryz.underlying5 g3
  obtain ⟨v4, e4, q4⟩ := DataW.trod_bool Tryz.underlying4 g4
  obtain ⟨v5, e5, q5, _⟩ := DataW.trod_int Tryz.underlying2 g5
  obtain ⟨v6, e6, q6, _⟩ := DataW.trod_int Tryz.underlying2 g6
  obtain ⟨v7, e7, q7, _⟩ := DataW.trod_int Tryz.underlying2 g7
  obtain ⟨v8, e8, q8, _⟩ := DataW.trod_int Tryz.underlying2 g8
  have e9 := two_data Tryz.underlying51 cells_win ⟨rfl, rfl⟩ ⟨rfl, rfl⟩ g9 k9
  obtain ⟨v10, e10, q10, _⟩ := DataW.trod_int Tryz.underlying2 g10
  obtain ⟨v11, e11, q11, _⟩ := DataW.trod_int Tryz.underlying2 g11
  rw [q0] at k0; rw [q1] at k1; rw [q2] at k2; rw [q3] at k3; rw [q4] at k4; rw [q5] at k5; rw [q6] at k6; rw [q7] at k7; rw [q8] at k8; rw [q10] at k10; rw [q11] at k11
  simp only [DataW.lit.injEq, Lit.int.injEq, Lit.string.injEq, Lit.bool.injEq, true_and] at k0 k1 k2 k3 k4 k5 k6 k7 k8 k10 k11
  simp only [List.cons.injEq, and_true] at e0 e1 e2 e3 e4 e5 e6 e7 e8 e9 e10 e11
  have s1 : v1 = ⟨#[]⟩ := by obtain ⟨⟨d⟩⟩ := v1; simp at k1; rw [k1]
  have s2 : v2 = ⟨#[]⟩ := by obtain ⟨⟨d⟩⟩ := v2; simp at k2; rw [k2]
  rw [e0, e1, e2, e3, e4, e5, e6, e7, e8, e9.1, e9.2, e10, e11, k0, s1, s2, k3, k4, k5, k6, k7, k8, k10, k11]
  rfl
theorem ent_gap {fuel : Nat} {cs : List Value} {y : DataW Unit × List MemPlace} (h : DataW.trod (fun _ => ()) Tryz.prog w 0 (fun _ => true) false fuel 80 cs = some y) (hy : y.1 = gapData) : cs = gapE.arr.toList := by
  obtain ⟨xs, n, _, hx, hlen, hxl, hf⟩ := DataW.trod_struct Tryz.underlying80 h
  rw [cells_ent] at hlen
  obtain ⟨c0, c1, c2, c3, c4, c5, c6, c7, c8, c9, c10, c11, c12, c13, c14, c15, c16, c17, c18, c19, rfl⟩ := list20 hlen
  obtain ⟨y0, y1, y2, y3, y4, y5, rfl⟩ := list6 hxl
  have g0 := fld hf 0 4 0 1 rfl cells_bool
  have g1 := fld hf 1 77 1 13 rfl cells_leg
  have g2 := fld hf 2 28 14 2 rfl cells_pt
  have g3 := fld hf 3 28 16 2 rfl cells_pt
  have g4 := fld hf 4 78 18 1 rfl cells_sec
  have g5 := fld hf 5 9 19 1 rfl cells_str
  simp only [List.drop_succ_cons, List.drop_zero, List.take_succ_cons, List.take_zero, List.getElem?_cons_succ, List.getElem?_cons_zero] at g0 g1 g2 g3 g4 g5
  rw [hx] at hy
  simp only [gapData, List.map_cons, List.map_nil, DataW.agg.injEq, List.cons.injEq, and_true] at hy
  obtain ⟨k0, k1, k2, k3, k4, k5⟩ := hy
  obtain ⟨v0, e0, q0⟩ := DataW.trod_bool Tryz.underlying4 g0
  have e1 := leg_zero g1 k1
  have e2 := two_data Tryz.underlying28 cells_pt ⟨rfl, rfl⟩ ⟨rfl, rfl⟩ g2 k2
  have e3 := two_data Tryz.underlying28 cells_pt ⟨rfl, rfl⟩ ⟨rfl, rfl⟩ g3 k3
  obtain ⟨v4, e4, q4, _⟩ := DataW.trod_int Tryz.underlying78 g4
  obtain ⟨v5, e5, q5, _⟩ := DataW.trod_string Tryz.underlying9 g5
  rw [q0] at k0; rw [q4] at k4; rw [q5] at k5
  simp only [DataW.lit.injEq, Lit.int.injEq, Lit.string.injEq, Lit.bool.injEq, true_and] at k0 k4 k5
  have s5 : v5 = ⟨#[]⟩ := by obtain ⟨⟨d⟩⟩ := v5; simp at k5; rw [k5]
  have : [c0, c1, c2, c3, c4, c5, c6, c7, c8, c9, c10, c11, c12, c13, c14, c15, c16, c17, c18, c19] = [c0] ++ [c1, c2, c3, c4, c5, c6, c7, c8, c9, c10, c11, c12, c13] ++ [c14, c15] ++ [c16, c17] ++ [c18] ++ [c19] := rfl
  rw [this, e0, e1, e2, e3, e4, e5, k0, k4, s5]
  rfl
end
theorem cells_form : Tryz.prog.cellsOf 69 = 2 := by kernel_rfl
set_option maxRecDepth 100000 in
theorem forms_of {w : World} {l : List (String × DataW Unit)} (h : laidMet Tryz.prog l w) (hm : ("flightdeck/edit.forms", formsData) ∈ l) : FormsAt w := by
  obtain ⟨ps, hv, _, _⟩ := h
  obtain ⟨g', t', cs, fuel, p, hg', ht', hvar, hd⟩ := laidVars_mem hv _ _ hm
  obtain rfl := Option.some.inj (gForms23.symm.trans hg')
  obtain rfl : 70 = t' := Option.some.inj ((show (Tryz.prog.globals[0]?).map (·.type) = some 70 by kernel_rfl).symm.trans ht')
  obtain ⟨xs, m', _, hx, hlen, hxl, hf⟩ := DataW.trod_array Tryz.underlying70 hd
  have key : ∀ k : Nat, k ≤ 12 → cs.toList[k * 2]? = some (.string ⟨(formW (k : Int)).toArray⟩) ∧ cs.toList[k * 2 + 1]? = some (.string ⟨(formF (k : Int)).toArray⟩) := by
    intro k hk
    have h1 := hf k (by omega)
    rw [cells_form] at h1
    cases hq : xs[k]? with
    | none => rw [List.getElem?_eq_none_iff] at hq; omega
    | some y =>
      rw [hq] at h1
      have hy : y.1 = .agg [.lit (.string (formW (k : Int))), .lit (.string (formF (k : Int)))] := by
        simp only [formsData, Prod.mk.injEq, DataW.agg.injEq] at hx
        have h3 := congrArg (fun l => l[k]?) hx.1
        simp only [List.getElem?_map, hq, List.getElem?_range (show k < 13 by omega), Option.map_some, Option.some.injEq] at h3
        exact h3.symm
      obtain ⟨zs, n, _, hz, hzl, hzn, hzf⟩ := DataW.trod_struct Tryz.underlying69 h1
      rw [cells_form] at hzl
      obtain ⟨a, b, hab⟩ := list2 hzl
      obtain ⟨y0, y1, rfl⟩ := list2 hzn
      rw [hab] at hzf
      have g0 := fld hzf 0 9 0 1 rfl cells_str
      have g1 := fld hzf 1 9 1 1 rfl cells_str
      simp only [List.drop_succ_cons, List.drop_zero, List.take_succ_cons, List.take_zero, List.getElem?_cons_succ, List.getElem?_cons_zero] at g0 g1
      obtain ⟨v0, e0, q0, _⟩ := DataW.trod_string Tryz.underlying9 g0
      obtain ⟨v1, e1, q1, _⟩ := DataW.trod_string Tryz.underlying9 g1
      rw [hz, q0, q1] at hy
      simp only [List.map_cons, List.map_nil, DataW.agg.injEq, List.cons.injEq, DataW.lit.injEq, Lit.string.injEq, and_true] at hy
      simp only [List.cons.injEq, and_true] at e0 e1
      have k0 : cs.toList[k * 2]? = some a := by
        have := congrArg (fun l => l[0]?) hab
        simpa [List.getElem?_take, List.getElem?_drop] using this
      have k1 : cs.toList[k * 2 + 1]? = some b := by
        have := congrArg (fun l => l[1]?) hab
        simpa [List.getElem?_take, List.getElem?_drop] using this
      rw [k0, k1, e0, e1, ← hy.1, ← hy.2]
      simp
  refine ⟨fun k hk => ?_, fun k hk => ?_⟩
  · rw [World.var?_cell gForms23 hvar]; simpa using (key k hk).1
  · rw [World.var?_cell gForms23 hvar]; simpa using (key k hk).2
end Go.Proofs.YtlleijickhifmaaGreatDoor
namespace Go.Proofs.YtlleijickhifmaaGreatDoor
open Go.RowKit Go.ChangeShapes Go.WideShapes Go.Deep
set_option linter.unusedVariables false
set_option linter.unusedSimpArgs false
theorem sub_cells {arr b : Array Value} {o n : Nat} (h : ∀ j, j < n → arr[o + j]? = b[j]?) (hb : b.size = n) : (arr.toList.drop o).take n = b.toList := by
  apply List.ext_getElem?
  intro j
  rw [List.getElem?_take]
  split
  · rename_i hj
    rw [List.getElem?_drop, Array.getElem?_toList, h j hj, Array.getElem?_toList]
  · rw [List.getElem?_eq_none (by simp [hb]; omega)]
theorem sub_cell {arr : Array Value} {o : Nat} {v : Value} (h : arr[o]? = some v) : (arr.toList.drop o).take 1 = [v] :=
  sub_cells (b := #[v]) (fun j hj => by obtain rfl : j = 0 := by omega
                                        simpa using h) rfl
section
variable {H : Type} {enc : TypeId × Value → H} {w : World} {base : Nat} {spare : Nat → Bool} {held : Bool}
theorem int_wf {k : IntKind} {t : TypeId} {fuel : Nat} {n : Int} {y : DataW H × List MemPlace} (ht : Tryz.prog.underlying t = some (.int k)) (h : DataW.trod enc Tryz.prog w base spare held fuel t [.int k n] = some y) : (Lit.int k n).wf = true := by
  obtain ⟨m, e, _, hw⟩ := DataW.trod_int ht h
  simp only [List.cons.injEq, Value.int.injEq, and_true, true_and] at e
  rw [e]; exact hw
theorem ent_rng {fuel : Nat} {x : Entry} {y : DataW H × List MemPlace} (h : DataW.trod enc Tryz.prog w base spare held fuel 80 x.arr.toList = some y) : i64 x.leg.speed := by
  obtain ⟨xs, n, _, hx, hlen, hxl, hf⟩ := DataW.trod_struct Tryz.underlying80 h
  obtain ⟨y0, y1, y2, y3, y4, y5, rfl⟩ := list6 hxl
  have g1 := fld hf 1 77 1 13 rfl cells_leg
  have e : ((x.arr.toList.drop 1).take 13) = x.leg.arr.toList := rfl
  rw [e] at g1
  simp only [List.getElem?_cons_succ, List.getElem?_cons_zero] at g1
  obtain ⟨xs', n', _, hx', hlen', hxl', hf'⟩ := DataW.trod_struct Tryz.underlying77 g1
  obtain ⟨z0, z1, z2, z3, z4, z5, z6, z7, z8, z9, z10, z11, rfl⟩ := list12 hxl'
  have g := fld hf' 10 2 11 1 rfl cells_i64
  have e' : ((x.leg.arr.toList.drop 11).take 1) = [.int .i64 x.leg.speed] := rfl
  rw [e'] at g
  simp only [List.getElem?_cons_succ, List.getElem?_cons_zero] at g
  exact bounds_i64 (int_wf Tryz.underlying2 g)
theorem ents_rng {fuel : Nat} {es : List Entry} {A : Option Addr} {c : Nat} {y : DataW H × List MemPlace} (h : DataW.trod enc Tryz.prog w base spare held fuel 24 [.slice A es.length c] = some y) (hE : Ents w A es) : ∀ x ∈ es, i64 x.leg.speed := by
  intro x hx
  obtain ⟨i, hi, hxi⟩ := List.getElem_of_mem hx
  rcases open_slice Tryz.underlying24 h with ⟨h0, _⟩ | ⟨a, len, cap, m, n, D, Pl, hcs, hb, hl, hm, hmm, hx2, hget⟩
  · simp only [List.cons.injEq, Value.slice.injEq, and_true] at h0
    omega
  · simp only [List.cons.injEq, Value.slice.injEq, and_true] at hcs
    obtain ⟨hA, hlen, _⟩ := hcs
    obtain ⟨b, o, hA2, hlt, hc⟩ := hE.get hi
    rw [hA] at hA2
    obtain rfl : a = ⟨b, o, none⟩ := by simpa using hA2
    obtain ⟨cs', h1, h2⟩ := hget i (by rw [hmm]; split <;> omega)
    rw [cells_ent] at h1
    obtain ⟨_, hcl, hat⟩ := World.cells?_some h1
    have : cs' = es[i].arr.toList := by
      apply List.ext_getElem?
      intro j
      rcases Nat.lt_or_ge j 20 with hj | hj
      · rw [← hat j hj, addr_add, addr_add, hc j hj, Array.getElem?_toList]
      · rw [List.getElem?_eq_none (by omega), List.getElem?_eq_none (by simp [Entry.arr]; omega)]
    rw [this] at h2
    rw [← hxi]
    exact ent_rng h2
theorem plan_rng {fuel : Nat} {p : Plan} {A : Option Addr} {c : Nat} {y : DataW H × List MemPlace} (h : DataW.trod enc Tryz.prog w base spare held fuel 26 (p.arr A c).toList = some y) (hE : Ents w A p.es) : p.rng := by
  obtain ⟨xs, n, _, hx, hlen, hxl, hf⟩ := DataW.trod_struct Tryz.underlying26 h
  obtain ⟨y0, y1, y2, y3, rfl⟩ := list4 hxl
  have g2 := fld hf 2 24 2 1 rfl cells_es
  have e : (((p.arr A c).toList.drop 2).take 1) = [.slice A p.es.length c] := rfl
  rw [e] at g2
  simp only [List.getElem?_cons_succ, List.getElem?_cons_zero] at g2
  exact ⟨ents_rng g2 hE⟩
theorem view_rng {v : Vw} {d' : VAd} {arr : Array Value} {d : DataW H} {ps : List MemPlace} (h : DataW.Trod enc Tryz.prog w base spare held 44 (.agg arr) d ps) (hv : v.At d' arr) (h1 : Ents w d'.A v.active.es) (h2 : Ents w d'.A2 v.temp.es) : v.rng := by
  obtain ⟨fuel, hf⟩ := h
  obtain ⟨xs, n, _, hx, hlen, hxl, hf⟩ := DataW.trod_struct Tryz.underlying44 hf
  obtain ⟨y0, y1, y2, y3, y4, y5, y6, y7, y8, y9, y10, y11, y12, y13, y14, y15, y16, y17, y18, y19, rfl⟩ := list20y hxl
  have hvc : (Value.agg arr).cells.toList = arr.toList := rfl
  rw [hvc] at hf
  have g0 := fld hf 0 26 0 4 rfl cells_plan
  have g1 := fld hf 1 26 4 4 rfl cells_plan
  have g3 := fld hf 3 30 9 6 rfl cells_est
  have g4 := fld hf 4 2 15 1 rfl cells_i64
  have g9 := fld hf 9 40 25 7 rfl cells_tgt
  have g16 := fld hf 16 42 38 1 rfl cells_errno
  rw [sub_cells (arr := arr) (o := 0) (n := 4) (b := v.active.arr d'.A d'.c) hv.active rfl] at g0
  rw [sub_cells (arr := arr) (o := 4) (n := 4) (b := v.temp.arr d'.A2 d'.c2) hv.temp rfl] at g1
  rw [sub_cells (arr := arr) (o := 9) (n := 6) (b := Est.arr ⟨v.px, v.py, v.lx, v.ly, v.usable, v.excluded⟩) (fun j hj => by
    match j, hj with
    | 0, _ => exact hv.px
    | 1, _ => exact hv.py
    | 2, _ => exact hv.lx
    | 3, _ => exact hv.ly
    | 4, _ => exact hv.usable
    | 5, _ => exact hv.excluded) rfl] at g3
  rw [sub_cell hv.required] at g4
  rw [sub_cell hv.last] at g16
  simp only [List.getElem?_cons_succ, List.getElem?_cons_zero] at g0 g1 g3 g4 g9 g16
  obtain ⟨xs3, n3, _, hx3, hlen3, hxl3, hf3⟩ := DataW.trod_struct Tryz.underlying30 g3
  obtain ⟨t0, t1, t2, t3, t4, rfl⟩ := list_f_est hxl3
  have k0 := fld hf3 0 28 0 2 rfl cells_est_1
  have k1 := fld hf3 1 2 2 1 rfl cells_i64
  have k2 := fld hf3 2 2 3 1 rfl cells_i64
  have k4 := fld hf3 4 3 5 1 rfl cells_int
  rw [show ((Est.arr ⟨v.px, v.py, v.lx, v.ly, v.usable, v.excluded⟩).toList.drop 0).take 2 = [.int .i64 v.px, .int .i64 v.py] from rfl] at k0
  rw [show ((Est.arr ⟨v.px, v.py, v.lx, v.ly, v.usable, v.excluded⟩).toList.drop 2).take 1 = [.int .i64 v.lx] from rfl] at k1
  rw [show ((Est.arr ⟨v.px, v.py, v.lx, v.ly, v.usable, v.excluded⟩).toList.drop 3).take 1 = [.int .i64 v.ly] from rfl] at k2
  rw [show ((Est.arr ⟨v.px, v.py, v.lx, v.ly, v.usable, v.excluded⟩).toList.drop 5).take 1 = [.int .i64 v.excluded] from rfl] at k4
  simp only [List.getElem?_cons_succ, List.getElem?_cons_zero] at k0 k1 k2 k4
  obtain ⟨xp, np, _, hxp, hlp, hxlp, hfp⟩ := DataW.trod_struct Tryz.underlying28 k0
  obtain ⟨q0, q1, rfl⟩ := list2 hxlp
  have m0 := fld hfp 0 2 0 1 rfl cells_i64
  have m1 := fld hfp 1 2 1 1 rfl cells_i64
  simp only [List.drop_succ_cons, List.drop_zero, List.take_succ_cons, List.take_zero, List.getElem?_cons_succ, List.getElem?_cons_zero] at m0 m1
  have hl42 : arr.toList.length = 42 := by simpa using hv.size
  have hlb : (arr.toList.drop 28).take 1 = [.int .i64 v.bank] := sub_cell hv.bank
  obtain ⟨xs9, n9, _, hx9, hlen9, hxl9, hf9⟩ := DataW.trod_struct Tryz.underlying40 g9
  obtain ⟨r0, r1, r2, r3, r4, r5, r6, rfl⟩ := list_n_tgt hxl9
  have l0 := fld hf9 0 5 0 1 rfl cells_u8
  have l1 := fld hf9 1 5 1 1 rfl cells_u8
  have l2 := fld hf9 2 5 2 1 rfl cells_u8
  have l3 := fld hf9 3 2 3 1 rfl cells_i64
  have sub7 : ∀ o, o < 7 → ((List.take 7 (List.drop 25 arr.toList)).drop o).take 1 = (arr.toList.drop (25 + o)).take 1 := by
    intro o ho
    rw [List.drop_take, List.drop_drop, List.take_take, show min 1 (7 - o) = 1 by omega]
  rw [sub7 0 (by omega), sub_cell hv.lat] at l0
  rw [sub7 1 (by omega), sub_cell hv.vert] at l1
  rw [sub7 2 (by omega), sub_cell hv.phase] at l2
  rw [sub7 3 (by omega), sub_cell hv.bank] at l3
  simp only [List.getElem?_cons_succ, List.getElem?_cons_zero] at l0 l1 l2 l3
  exact ⟨plan_rng g0 h1, plan_rng g1 h2, bounds_i64 (int_wf Tryz.underlying2 m0), bounds_i64 (int_wf Tryz.underlying2 m1), bounds_i64 (int_wf Tryz.underlying2 k1), bounds_i64 (int_wf Tryz.underlying2 k2), bounds_i64 (int_wf Tryz.underlying3 k4), bounds_i64 (int_wf Tryz.underlying2 g4),
    bounds_i64 (int_wf Tryz.underlying2 l3), bounds_i64 (int_wf Tryz.underlying42 g16), Go.bounds_u8 (int_wf Tryz.underlying5 l0), Go.bounds_u8 (int_wf Tryz.underlying5 l1), Go.bounds_u8 (int_wf Tryz.underlying5 l2)⟩
set_option maxRecDepth 100000 in
theorem open_viewR {r : Reach} {b0 : Nat} {v : Value} {d : DataW H} {ps : List MemPlace} (hv : Value.okWide Tryz.prog w r b0 44 v) (h : DataW.Trod enc Tryz.prog w base spare held 44 v d ps) :
    ∃ (vw : Vw) (d' : VAd) (arr : Array Value), v = .agg arr ∧ vw.At d' arr ∧ (Rows.uptoBulk d ≤ 4000000000 → vw.ok w d') ∧ (Rows.uptoBulk d ≤ 4000000000 → vw.rng) := by
  obtain ⟨vw, d', arr, rfl, hA, hok⟩ := open_viewT hv h
  exact ⟨vw, d', arr, rfl, hA, hok, fun hb => view_rng h hA (hok hb).ents (hok hb).ents2⟩
set_option maxRecDepth 100000 in
theorem open_strT {r : Reach} {b0 : Nat} {v : Value} {d : DataW H} {ps : List MemPlace} (hv : Value.okWide Tryz.prog w r b0 9 v) (h : DataW.Trod enc Tryz.prog w base spare held 9 v d ps) : ∃ s : List UInt8, v = .string ⟨s.toArray⟩ ∧ s.length ≤ Rows.uptoBulk d := by
  obtain ⟨s, rfl, rfl, rfl, _⟩ := Go.ChangeMaps.open_string Tryz.underlying9 hv h
  exact ⟨s.data.toList, by simp, by simp [Rows.uptoBulk]⟩
set_option maxRecDepth 100000 in
theorem open_u8T {r : Reach} {b0 : Nat} {t : TypeId} {v : Value} {d : DataW H} {ps : List MemPlace} (ht : Tryz.prog.underlying t = some (.int .u8)) (hv : Value.okWide Tryz.prog w r b0 t v) (h : DataW.Trod enc Tryz.prog w base spare held t v d ps) : ∃ n : Int, v = .int .u8 n ∧ 0 ≤ n ∧ n ≤ 255 := by
  obtain ⟨n, rfl, _, _, wf⟩ := Go.ChangeShapes.open_int ht hv h
  exact ⟨n, rfl, Go.bounds_u8 wf⟩
set_option maxRecDepth 100000 in
theorem open_termR {r : Reach} {b0 : Nat} {v : Value} {d : DataW H} {ps : List MemPlace} (hv : Value.okWide Tryz.prog w r b0 23 v) (h : DataW.Trod enc Tryz.prog w base spare held 23 v d ps) :
    ∃ t : Term, v = t.val ∧ t.pad.length ≤ Rows.uptoBulk d ∧ i64 t.first := by
  obtain ⟨t, rfl, hb⟩ := open_termT hv h
  refine ⟨t, rfl, hb, ?_⟩
  obtain ⟨fuel, hf⟩ := h
  obtain ⟨xs, n, _, hx, hlen, hxl, hf⟩ := DataW.trod_struct Tryz.underlying23 hf
  obtain ⟨y0, y1, y2, rfl⟩ := list3 hxl
  have g := fld hf 1 3 1 1 rfl cells_int
  have hvc : (Value.agg t.arr).cells.toList = t.arr.toList := rfl
  rw [hvc, show ((t.arr.toList.drop 1).take 1) = [.int .i64 t.first] from rfl] at g
  simp only [List.getElem?_cons_succ, List.getElem?_cons_zero] at g
  exact bounds_i64 (int_wf Tryz.underlying3 g)
end
end Go.Proofs.YtlleijickhifmaaGreatDoor
