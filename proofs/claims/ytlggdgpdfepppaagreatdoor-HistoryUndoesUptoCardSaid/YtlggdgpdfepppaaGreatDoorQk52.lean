/- LoadArrival: the plain parts, and where the kept entries end. LoadArrival: the index of the first leg of a section; walks. LoadArrival and LoadApproach over any database: the plain part, and a code cut into parts. Printed by wip/mkgdu.py. LoadArrival and LoadApproach over any database: whether the old place ends what is kept. Printed by wip/mkgdu.py. LoadArrival and LoadApproach over any database: what is kept, without the old place. Printed by wip/mkgdu.py. LoadArrival and LoadApproach over any database: the fix at which the arrival begins. Printed by wip/mkgdu.py. LoadArrival and LoadApproach over any database: what is kept is put. Printed by wip/mkgdu.py. LoadArrival and LoadApproach over any database: the missed approach. Printed by wip/mkgdu.py. LoadArrival and LoadApproach over any database: the last third of the walk. Printed by wip/mkgdu.py. LoadArrival and LoadApproach over any database: the second third of the walk. Printed by wip/mkgdu.py. LoadArrival and LoadApproach over any database: the runway, the way, the legs, the place. Printed by wip/mkgdu.py. LoadArrival and LoadApproach over any database; walk. Printed by wip/mkgdu.py. A plan among the arguments, the lengths of its places with it. A whole database among the arguments, opened. -/
import Derived.Test.YtlggdgpdfepppaaGreatDoorQk49
import Derived.Deep.CutBlock
import Derived.Test.YtlggdgpdfepppaaGreatDoorQk32
import Derived.Test.YtlggdgpdfepppaaGreatDoorQk41
namespace Go.Proofs.YtlggdgpdfepppaaGreatDoor
open Go.RowKit Go.Sort
set_option linter.unusedVariables false
set_option linter.unusedSimpArgs false
set_option maxRecDepth 100000
def findSec (s : Int) : List Entry → Nat → Int
  | [], _ => -1
  | x :: r, i => if !x.gap && decide (s ≤ x.sec) then (i : Int) else findSec s r (i + 1)
theorem keepSec_find (s : Int) : ∀ (l : List Entry) (i : Nat), (findSec s l i = -1 ∧ keepSec s l = l) ∨ ∃ m, m < l.length ∧ findSec s l i = ((i + m : Nat) : Int) ∧ keepSec s l = l.take m
  | [], i => .inl ⟨rfl, rfl⟩
  | x :: r, i => by
    unfold findSec keepSec
    split
    · exact .inr ⟨0, by simp, rfl, rfl⟩
    · rcases keepSec_find s r (i + 1) with ⟨h1, h2⟩ | ⟨m, h1, h2, h3⟩
      · exact .inl ⟨h1, by rw [h2]⟩
      · exact .inr ⟨m + 1, by simp; omega, by rw [h2]; congr 1; omega, by rw [h3]; rfl⟩
theorem findSec_step (s : Int) {l : List Entry} {k : Nat} (h : k < l.length) : findSec s (l.drop k) k = if !l[k].gap && decide (s ≤ l[k].sec) then (k : Int) else findSec s (l.drop (k + 1)) (k + 1) := by
  rw [List.drop_eq_getElem_cons h]; rfl
def keepOld (p : Plan) (s : Int) (old : List UInt8 × Int) : List Entry :=
  if !(keepSec s p.es).isEmpty && old.2 == 0 && !((keepSec s p.es).getLast?.getD gapE).gap && decide (p.active < ((keepSec s p.es).length : Int) - 1) && ((keepSec s p.es).getLast?.getD gapE).leg.fix == old.1 && ((keepSec s p.es).getLast?.getD gapE).via.isEmpty
  then (keepSec s p.es).dropLast else keepSec s p.es
def joinAt (keep : List Entry) (active : Int) (y : List Entry) : Int := match y with | [] => -1 | z :: _ => if z.leg.fix.isEmpty then -1 else searchE keep active z.leg.fix
def endArr (p : Plan) (to_ : List UInt8) (keep y t m : List Entry) : EdR :=
  ⟨0, p.from_, to_, p.active, (if 0 ≤ joinAt keep p.active y then keep.take ((joinAt keep p.active y).toNat + 1) else keep ++ [gapE]) ++ y ++ t ++ m⟩
def arrTo (p : Plan) (e : EditV) (kind : Int) : List UInt8 := if kind = 2 then rwayS p.to_ e.rway else p.to_
def arrMiss (G : GDB) (p : Plan) (e : EditV) (kind : Int) : List Entry × Int :=
  if kind = 3 then bindS (lookG G).pt (missedG (legsG G.procs (arrTo p e kind) kind e.name e.trans).1.1) 5 (withB e.name 46 e.trans) else ([], 0)
theorem arriveG_eq (G : GDB) (p : Plan) (e : EditV) (kind s : Int) (h1 : p.to_ ≠ []) (h2 : ¬ (p.active ≠ -1 ∧ s ≤ (entAt p p.active.toNat).sec)) : arriveS (lookG G) p e kind s =
    if (legsG G.procs (arrTo p e kind) kind e.name e.trans).2 ≠ 0 then .bad (legsG G.procs (arrTo p e kind) kind e.name e.trans).2 else
    if (bindS (lookG G).pt (legsG G.procs (arrTo p e kind) kind e.name e.trans).1.2 s (withB e.name 46 e.trans)).2 ≠ 0 then .bad (bindS (lookG G).pt (legsG G.procs (arrTo p e kind) kind e.name e.trans).1.2 s (withB e.name 46 e.trans)).2 else
    if (placeG G.fixes (arrTo p e kind)).2 ≠ 0 then .bad (placeG G.fixes (arrTo p e kind)).2 else
    if (oneS (lookG G) 2 (placeG G.fixes (arrTo p e kind)).1 s []).2 ≠ 0 then .bad (oneS (lookG G) 2 (placeG G.fixes (arrTo p e kind)).1 s []).2 else
    if (arrMiss G p e kind).2 ≠ 0 then .bad (arrMiss G p e kind).2 else
    endArr p (arrTo p e kind) (keepOld p s (placeG G.fixes p.to_)) (bindS (lookG G).pt (legsG G.procs (arrTo p e kind) kind e.name e.trans).1.2 s (withB e.name 46 e.trans)).1 (oneS (lookG G) 2 (placeG G.fixes (arrTo p e kind)).1 s []).1 (arrMiss G p e kind).1 := by
  obtain ⟨e1, e2, e3⟩ := legsG_proc G.procs (arrTo p e kind) kind e.name e.trans
  unfold arrMiss
  by_cases hz : (legsG G.procs (arrTo p e kind) kind e.name e.trans).2 = 0
  · rw [← e3 hz, ← e1, ← e2]
    unfold arriveS endArr keepOld joinAt
    rw [if_neg (by simpa using h1), if_neg h2]
    rfl
  · rw [if_pos hz, ← e1]
    unfold arriveS
    rw [if_neg (by simpa using h1), if_neg h2]
    exact if_pos (show (procG G.procs (arrTo p e kind) kind e.name e.trans).2 ≠ 0 by rw [e1]; exact hz)
end Go.Proofs.YtlggdgpdfepppaaGreatDoor
namespace Go.Proofs.YtlggdgpdfepppaaGreatDoor
open Go.RowKit Go.Sort
set_option linter.unusedVariables false
set_option linter.unusedSimpArgs false
set_option maxRecDepth 100000
set_option maxHeartbeats 2000000 in
theorem earr1_any (x : Entry) (s : Int) (q1 : Nat) (w : World) (h1 : w.cell? ⟨q1, 0, none⟩ = some (.int .u8 s)) :
    Calls Tryz.prog 131 #[.agg x.arr, .pointer (some ⟨q1, 0, none⟩)] w (Ret w (.bool (!x.gap && decide (s ≤ x.sec)))) := by
  go_enter Tryz.func131, Tryz.ntmps131
  go_upto_region 1 with (fail)
  have X0 := Blk.new w x.arr 82
  have B0 := alloc_below5 w (.cells x.arr 82)
  have g1 : (w.alloc (.cells x.arr 82)).cell? ⟨q1, 0, none⟩ = some (.int .u8 s) := by rw [B0.cell (p := ⟨q1, 0, none⟩) (block_lt_of_cell h1)]; exact h1
  generalize w.alloc _ = W at X0 B0 g1 ⊢
  obtain ⟨g0, hg0⟩ : ∃ g, g = w.heap.size := ⟨_, rfl⟩
  rw [← hg0] at X0 ⊢
  clear hg0 h1
  have c0 : W.cell? ⟨g0, 0, none⟩ = some (.bool x.gap) := X0.cell 0
  have c18 : W.cell? ⟨g0, 18, none⟩ = some (.int .u8 x.sec) := X0.cell 18
  clear X0
  cases hg : x.gap with
  | true =>
    rw [hg] at c0
    go_wp2
    go_ret
    exact Ret.bool (by simp [hg]) B0
  | false =>
    rw [hg] at c0
    by_cases hs : s ≤ x.sec
    · go_wp2
      go_ret
      exact Ret.bool (by simp [hs, hg]) B0
    · have hs' : x.sec < s := by omega
      go_wp2
      go_ret
      exact Ret.bool (by simp [hs, hg]) B0
set_option maxHeartbeats 2000000 in
theorem eidxe_any (l : List Entry) (s : Int) (A : Option Addr) (c q1 n : Nat) (w : World) (hE : Ents w A l) (hlc : l.length ≤ c) (hn : l.length ≤ 4000000000) (hln : l.length = n)
    (h1 : w.cell? ⟨q1, 0, none⟩ = some (.int .u8 s)) :
    Calls Tryz.prog 130 #[.slice A n c, .func (.func 131) #[] #[.pointer (some ⟨q1, 0, none⟩)]] w (Ret w (.int .i64 (findSec s l 0))) := by
  subst hln
  have H1 := Lib.hid (fun (W : World) (B : Below w.heap.size w W) => show W.cell? ⟨q1, 0, none⟩ = some (.int .u8 s) by rw [B.cell (p := ⟨q1, 0, none⟩) (block_lt_of_cell h1)]; exact h1)
  clear h1
  have HLC := Lib.hid hlc
  go_enter Tryz.func130, Tryz.ntmps130
  go_wp2
  go_loopw [5, 8] (fun _ i wr => ∃ k : Nat, k ≤ l.length ∧ i = .int .i64 k ∧ findSec s l 0 = findSec s (l.drop k) k ∧ Below w.heap.size w wr) (fun _ i _ => l.length - (intOf i).toNat)
  case atStart => exact ⟨0, by omega, rfl, rfl, Below.refl _ _⟩
  case round =>
    obtain ⟨k, hk, rfl, hf, hB⟩ := hrel
    have HF := Lib.hid hf
    clear hf
    by_cases hlt : k < l.length
    · obtain ⟨b, off, hA, hcl⟩ := hE.entE hlt
      have hI := hcl wr hB
      have HD := Lib.hid (HF.out.trans (findSec_step s hlt))
      generalize l[k] = f at *
      subst hA
      have i1 : Has_ent wr b (off + k * 20) := ⟨_, hI⟩
      have i2 : of_ent wr b (off + k * 20) = f := of_ent_eq hI
      have hcall := Lib.hid (earr1_any f s q1 wr (H1.out wr hB))
      have hkc : k < c := by have := HLC.out; omega
      have hlt' : (k : Int) < (l.length : Int) := by omega
      clear HF hI hcl
      generalize (!f.gap && decide (s ≤ f.sec)) = t at hcall HD
      cases t with
      | true =>
        go_wp2_with (go_at_call 131; (with_reducible refine callR hcall.out ?_); intro w1 b1 _ _ _)
        go_ret
        exact Ret.int (HD.out.trans (if_pos trivial)).symm (hB.trans (b1.mono hB.size))
      | false =>
        go_wp2_with (go_at_call 131; (with_reducible refine callR hcall.out ?_); intro w1 b1 _ _ _)
        go_roundw
        case rel => exact ⟨k + 1, by omega, by go_num, HD.out, hB.trans (b1.mono hB.size)⟩
        case measure => simp [intOf]; omega
    · have hlt' : ¬ (k : Int) < (l.length : Int) := by omega
      go_wp2
      go_ret
      exact Ret.int (by rw [HF.out, List.drop_of_length_le (by omega)]; rfl) hB
end Go.Proofs.YtlggdgpdfepppaaGreatDoor
namespace Go.Proofs.YtlggdgpdfepppaaGreatDoor
open Go.RowKit Go.Sort
set_option linter.unusedVariables false
set_option linter.unusedSimpArgs false
set_option maxRecDepth 100000
theorem keepOld_take {p : Plan} {s : Int} {old : List UInt8 × Int} {k : Nat} (hk : 0 < k) (hn : k ≤ p.es.length) (h : keepSec s p.es = p.es.take k) :
    keepOld p s old = if old.2 == 0 && !(entAt p (k - 1)).gap && decide (p.active < (k : Int) - 1) && (entAt p (k - 1)).leg.fix == old.1 && (entAt p (k - 1)).via.isEmpty then p.es.take (k - 1) else p.es.take k := by
  have hl : (p.es.take k).length = k := by rw [List.length_take]; omega
  have hg : (p.es.take k).getLast?.getD gapE = entAt p (k - 1) := by
    rw [List.getLast?_eq_getElem?, hl, List.getElem?_take, if_pos (by omega)]
    unfold entAt
    rw [List.getD_eq_getElem?_getD]
  have he : (p.es.take k).isEmpty = false := by
    cases hq : p.es.take k with
    | nil => rw [hq] at hl; simp at hl; omega
    | cons a b => rfl
  have hd : (p.es.take k).dropLast = p.es.take (k - 1) := by
    rw [List.dropLast_eq_take, hl, List.take_take]
    congr 1
    omega
  unfold keepOld
  rw [h, hg, he, hd, hl]
  simp only [Bool.not_false, Bool.true_and]
theorem keepOld_nil {p : Plan} {s : Int} {old : List UInt8 × Int} (h : keepSec s p.es = []) : keepOld p s old = [] := by
  unfold keepOld
  rw [h]; rfl
theorem keepSec_find0 (s : Int) (l : List Entry) : (findSec s l 0 = -1 ∧ keepSec s l = l) ∨ ∃ m : Nat, m < l.length ∧ findSec s l 0 = (m : Int) ∧ keepSec s l = l.take m := by
  rcases keepSec_find s l 0 with h | ⟨m, h1, h2, h3⟩
  · exact .inl h
  · exact .inr ⟨m, h1, by rw [Nat.zero_add] at h2; exact h2, h3⟩
def headFix (l : List Entry) : Bool := match l with | [] => false | z :: _ => !z.leg.fix.isEmpty
theorem joinAt_no {keep : List Entry} {a : Int} {y : List Entry} (h : headFix y = false) : joinAt keep a y = -1 := by
  cases y with
  | nil => rfl
  | cons z r =>
    have h1 : z.leg.fix.isEmpty = true := by simpa [headFix] using h
    show (if z.leg.fix.isEmpty then (-1 : Int) else _) = -1
    rw [if_pos h1]
theorem joinAt_yes {keep : List Entry} {a : Int} {z : Entry} {r : List Entry} (h : headFix (z :: r) = true) : joinAt keep a (z :: r) = searchE keep a z.leg.fix := by
  have h1 : z.leg.fix.isEmpty = false := by simpa [headFix] using h
  show (if z.leg.fix.isEmpty then (-1 : Int) else _) = _
  rw [h1]; rfl
theorem joinAt_range (keep : List Entry) (a : Int) (y : List Entry) : joinAt keep a y = -1 ∨ ∃ m : Nat, m < keep.length ∧ joinAt keep a y = (m : Int) := by
  cases hh : headFix y with
  | false => exact .inl (joinAt_no hh)
  | true =>
    cases y with
    | nil => cases hh
    | cons z r =>
      rw [joinAt_yes hh]
      rcases findGo_range a z.leg.fix keep 0 with h | ⟨m, h1, h2⟩
      · exact .inl h
      · exact .inr ⟨m, h1, by rw [Nat.zero_add] at h2; exact h2⟩
def tailCode : Nat → Code → Code
  | 0, c => c
  | n + 1, .seq _ y => tailCode n y
  | _ + 1, c => c
def headCode : Code → Code
  | .seq x _ => x
  | c => c
def thenCode : Code → Code
  | .cond _ x _ => x
  | c => c
def Edr.wv (x : Edr) (v : Value) : Edr := { x with v := v }
theorem callPutV {P : Program} {f : FuncId} {args : Array Value} {w W : World} {g : Nat} {x : Edr} {l : List Entry} {K : Ending → World → Prop} (h : Calls P f args W (RetPut w W g x l))
    (k : ∀ v' W', Ed w W' g (x.wv v') l → Keep g W x.v W' v' → K (.returned (.tuple #[])) W') : Calls P f args W K := callPut h k
end Go.Proofs.YtlggdgpdfepppaaGreatDoor
namespace Go.Proofs.YtlggdgpdfepppaaGreatDoor
open Go.RowKit Go.Sort
set_option linter.unusedVariables false
set_option linter.unusedSimpArgs false
set_option maxRecDepth 100000
attribute [local go_sem ↓] slE_fold
attribute [local go_sem] run_slE_hk run_slE_hk1 run_slE_lk1 Has_db_alloc5 of_db_alloc5 Has_db_drew5 of_db_drew5 Has_ent_drewR of_ent_drewR Has_prc_drewQ of_prc_drewQ prcArr_ones prcArr_sz prcArr_fits prcArr_splice
variable {z0 z1 z2 z3 z4 z5 z6 z7 z8 z9 z10 z11 z12 z13 z14 z15 z16 z17 z18 z19 z20 z21 z22 z23 z24 z25 z26 z27 z28 z29 z30 z31 z32 z33 z34 z35 z36 z37 z38 z39 z40 z41 z42 z43 z44 z45 z46 z47 z48 z49 z50 z51 z52 z53 z54 z55 z56 z57 z58 z59 z60 z61 z62 z63 z64 z65 z66 z67 z68 z69 z70 z71 z72 z73 z74 z75 z76 z77 z78 z79 z80 z81 z82 z83 z84 z85 z86 z87 z88 z89 z90 z91 z92 z93 z94 z95 z96 z97 z98 z99 z100 z101 z102 z103 z104 z105 z106 z107 z108 z109 z110 z111 z112 z113 z114 z115 z116 z117 z118 z119 z120 z121 z122 z123 z124 z125 z126 z127 z128 z129 z130 z131 z132 z133 z134 z135 z136 z137 z138 z139 z140 z141 z142 z143 z144 z145 z146 z147 z148 z149 z150 z151 z152 z153 z154 z155 z156 z157 z158 z159 z160 z161 z162 z163 z164 z165 z166 z167 z168 z169 z170 z171 z172 z173 z174 z175 z176 z177 z178 z179 z180 z181 z182 z183 z184 z185 z186 z187 z188 z189 z190 z191 z192 z193 z194 z195 z196 z197 z198 z199 z200 z201 z202 z203 z204 z205 z206 z207 z208 z209 z210 z211 z212 z213 z214 z215 z216 z217 z218 z219 z220 z221 z222 z223 z224 z225 z226 z227 z228 z229 z230 z231 z232 z233 z234 z235 z236 z237 z238 z239 z240 z241 z242 z243 z244 z245 z246 z247 z248 z249 z250 z251 z252 z253 : Value}
set_option maxHeartbeats 16000000 in
theorem earr_old (K : Act → World → Prop) (Q : Exit → Act → World → Prop) (A : Option Addr) (c k j gu : Nat) (u : Entry) (pf : List UInt8) (pz act : Int) (w2 : World)
    (q0 : w2.cell? ⟨gu, 0, none⟩ = some (.bool u.gap)) (q2 : w2.cell? ⟨gu, 2, none⟩ = some (.string ⟨u.leg.fix.toArray⟩)) (q19 : w2.cell? ⟨gu, 19, none⟩ = some (.string ⟨u.via.toArray⟩)) (hw : wrap64 ((k : Int) - 1) = (j : Int)) (hjc2 : j ≤ c)
    (hK : ∀ (u181 u182 u183 u184 u185 u186 u187 u188 u189 u190 u191 u192 u193 u194 u195 u196 u197 u198 u199 u200 u201 u202 u203 u204 u205 : Value) , u205 = .bool (pz == 0 && !u.gap && decide (act < (j : Int)) && u.leg.fix == pf && u.via.isEmpty) → K ⟨List.toArray (z0 :: z1 :: z2 :: z3 :: z4 :: z5 :: z6 :: z7 :: .int .i64 act :: z9 :: z10 :: z11 :: z12 :: z13 :: z14 :: z15 :: z16 :: z17 :: .slice A k c :: z19 :: .int .i64 (k : Int) :: .pointer (some ⟨gu, 0, none⟩) :: .string ⟨pf.toArray⟩ :: .int .i64 pz :: z24 :: z25 :: z26 :: z27 :: z28 :: z29 :: z30 :: z31 :: z32 :: z33 :: z34 :: z35 :: z36 :: z37 :: z38 :: z39 :: z40 :: z41 :: z42 :: z43 :: z44 :: z45 :: z46 :: z47 :: z48 :: z49 :: z50 :: z51 :: z52 :: z53 :: z54 :: z55 :: z56 :: z57 :: z58 :: z59 :: z60 :: z61 :: z62 :: z63 :: z64 :: z65 :: z66 :: z67 :: z68 :: z69 :: z70 :: z71 :: z72 :: z73 :: z74 :: z75 :: z76 :: z77 :: z78 :: z79 :: z80 :: z81 :: z82 :: z83 :: z84 :: z85 :: z86 :: z87 :: z88 :: z89 :: z90 :: z91 :: z92 :: z93 :: z94 :: z95 :: z96 :: z97 :: z98 :: z99 :: z100 :: z101 :: z102 :: z103 :: z104 :: z105 :: z106 :: z107 :: z108 :: z109 :: z110 :: z111 :: z112 :: z113 :: z114 :: z115 :: z116 :: z117 :: z118 :: z119 :: z120 :: z121 :: z122 :: z123 :: z124 :: z125 :: z126 :: z127 :: z128 :: z129 :: z130 :: z131 :: z132 :: z133 :: z134 :: z135 :: z136 :: z137 :: z138 :: z139 :: z140 :: z141 :: z142 :: z143 :: z144 :: z145 :: z146 :: z147 :: z148 :: z149 :: z150 :: z151 :: z152 :: z153 :: z154 :: z155 :: z156 :: z157 :: z158 :: z159 :: z160 :: z161 :: z162 :: z163 :: z164 :: z165 :: z166 :: z167 :: z168 :: z169 :: z170 :: z171 :: z172 :: z173 :: z174 :: z175 :: z176 :: z177 :: z178 :: z179 :: z180 :: u181 :: u182 :: u183 :: u184 :: u185 :: u186 :: u187 :: u188 :: u189 :: u190 :: u191 :: u192 :: u193 :: u194 :: u195 :: u196 :: u197 :: u198 :: u199 :: u200 :: u201 :: u202 :: u203 :: u204 :: u205 :: z206 :: z207 :: z208 :: z209 :: z210 :: z211 :: z212 :: z213 :: z214 :: z215 :: z216 :: z217 :: z218 :: z219 :: z220 :: z221 :: z222 :: z223 :: z224 :: z225 :: z226 :: z227 :: z228 :: z229 :: z230 :: z231 :: z232 :: z233 :: z234 :: z235 :: z236 :: z237 :: z238 :: z239 :: z240 :: z241 :: z242 :: z243 :: z244 :: z245 :: z246 :: z247 :: z248 :: z249 :: z250 :: z251 :: z252 :: z253 :: []), []⟩ w2) :
    (headCode (tailCode 2 (thenCode (tailCode 2 (headCode (tailCode 18 (Tryz.f95.body.getD .skip))))))).wp Tryz.prog (Exit.then K Q) ⟨List.toArray (z0 :: z1 :: z2 :: z3 :: z4 :: z5 :: z6 :: z7 :: .int .i64 act :: z9 :: z10 :: z11 :: z12 :: z13 :: z14 :: z15 :: z16 :: z17 :: .slice A k c :: z19 :: .int .i64 (k : Int) :: .pointer (some ⟨gu, 0, none⟩) :: .string ⟨pf.toArray⟩ :: .int .i64 pz :: z24 :: z25 :: z26 :: z27 :: z28 :: z29 :: z30 :: z31 :: z32 :: z33 :: z34 :: z35 :: z36 :: z37 :: z38 :: z39 :: z40 :: z41 :: z42 :: z43 :: z44 :: z45 :: z46 :: z47 :: z48 :: z49 :: z50 :: z51 :: z52 :: z53 :: z54 :: z55 :: z56 :: z57 :: z58 :: z59 :: z60 :: z61 :: z62 :: z63 :: z64 :: z65 :: z66 :: z67 :: z68 :: z69 :: z70 :: z71 :: z72 :: z73 :: z74 :: z75 :: z76 :: z77 :: z78 :: z79 :: z80 :: z81 :: z82 :: z83 :: z84 :: z85 :: z86 :: z87 :: z88 :: z89 :: z90 :: z91 :: z92 :: z93 :: z94 :: z95 :: z96 :: z97 :: z98 :: z99 :: z100 :: z101 :: z102 :: z103 :: z104 :: z105 :: z106 :: z107 :: z108 :: z109 :: z110 :: z111 :: z112 :: z113 :: z114 :: z115 :: z116 :: z117 :: z118 :: z119 :: z120 :: z121 :: z122 :: z123 :: z124 :: z125 :: z126 :: z127 :: z128 :: z129 :: z130 :: z131 :: z132 :: z133 :: z134 :: z135 :: z136 :: z137 :: z138 :: z139 :: z140 :: z141 :: z142 :: z143 :: z144 :: z145 :: z146 :: z147 :: z148 :: z149 :: z150 :: z151 :: z152 :: z153 :: z154 :: z155 :: z156 :: z157 :: z158 :: z159 :: z160 :: z161 :: z162 :: z163 :: z164 :: z165 :: z166 :: z167 :: z168 :: z169 :: z170 :: z171 :: z172 :: z173 :: z174 :: z175 :: z176 :: z177 :: z178 :: z179 :: z180 :: z181 :: z182 :: z183 :: z184 :: z185 :: z186 :: z187 :: z188 :: z189 :: z190 :: z191 :: z192 :: z193 :: z194 :: z195 :: z196 :: z197 :: z198 :: z199 :: z200 :: z201 :: z202 :: z203 :: z204 :: z205 :: z206 :: z207 :: z208 :: z209 :: z210 :: z211 :: z212 :: z213 :: z214 :: z215 :: z216 :: z217 :: z218 :: z219 :: z220 :: z221 :: z222 :: z223 :: z224 :: z225 :: z226 :: z227 :: z228 :: z229 :: z230 :: z231 :: z232 :: z233 :: z234 :: z235 :: z236 :: z237 :: z238 :: z239 :: z240 :: z241 :: z242 :: z243 :: z244 :: z245 :: z246 :: z247 :: z248 :: z249 :: z250 :: z251 :: z252 :: z253 :: []), []⟩ w2 := by
  conv => arg 2; whnf
  have HK := Lib.hid hK
  clear hK
  by_cases p1 : pz = 0
  case neg =>
    have p1' : (pz == 0) = false := by simpa using p1
    have HE := Lib.hid (show (pz == 0 && !u.gap && decide (act < (j : Int)) && u.leg.fix == pf && u.via.isEmpty) = false by simp [p1])
    clear p1
    go_wp2
    refine HK.out _ _ _ _ _ _ _ _ _ _ _ _ _ _ _ _ _ _ _ _ _ _ _ _ _ ?_
    rw [HE.out]
  subst p1
  cases p2 : u.gap with
  | true =>
    have HE := Lib.hid (show ((0 : Int) == 0 && !u.gap && decide (act < (j : Int)) && u.leg.fix == pf && u.via.isEmpty) = false by simp [p2])
    rw [p2] at q0
    go_wp2
    refine HK.out _ _ _ _ _ _ _ _ _ _ _ _ _ _ _ _ _ _ _ _ _ _ _ _ _ ?_
    rw [HE.out]
  | false =>
  rw [p2] at q0
  by_cases p3 : act < (j : Int)
  case neg =>
    have HE := Lib.hid (show ((0 : Int) == 0 && !u.gap && decide (act < (j : Int)) && u.leg.fix == pf && u.via.isEmpty) = false by simp [p2, p3])
    go_wp2
    refine HK.out _ _ _ _ _ _ _ _ _ _ _ _ _ _ _ _ _ _ _ _ _ _ _ _ _ ?_
    rw [HE.out]
  by_cases p4 : u.leg.fix = pf
  case neg =>
    have p4' : (u.leg.fix == pf) = false := by simpa using p4
    have HE := Lib.hid (show ((0 : Int) == 0 && !u.gap && decide (act < (j : Int)) && u.leg.fix == pf && u.via.isEmpty) = false by simp [p2, p4])
    go_wp2
    refine HK.out _ _ _ _ _ _ _ _ _ _ _ _ _ _ _ _ _ _ _ _ _ _ _ _ _ ?_
    rw [HE.out]
  by_cases p5 : u.via = []
  case neg =>
    have p5' : (u.via == []) = false := by simpa using p5
    have p4' : (u.leg.fix == pf) = true := by simpa using p4
    have HE := Lib.hid (show ((0 : Int) == 0 && !u.gap && decide (act < (j : Int)) && u.leg.fix == pf && u.via.isEmpty) = false by simp [p2, p5])
    clear p4
    go_wp2
    refine HK.out _ _ _ _ _ _ _ _ _ _ _ _ _ _ _ _ _ _ _ _ _ _ _ _ _ ?_
    rw [HE.out]
  have p5' : (u.via == []) = true := by simpa using p5
  have p4' : (u.leg.fix == pf) = true := by simpa using p4
  have HE := Lib.hid (show ((0 : Int) == 0 && !u.gap && decide (act < (j : Int)) && u.leg.fix == pf && u.via.isEmpty) = true by simp [p2, p3, p4, p5])
  clear p4 p5
  go_wp2
  refine HK.out _ _ _ _ _ _ _ _ _ _ _ _ _ _ _ _ _ _ _ _ _ _ _ _ _ ?_
  rw [HE.out]
end Go.Proofs.YtlggdgpdfepppaaGreatDoor
namespace Go.Proofs.YtlggdgpdfepppaaGreatDoor
open Go.RowKit Go.Sort
set_option linter.unusedVariables false
set_option linter.unusedSimpArgs false
set_option maxRecDepth 100000
attribute [local go_sem ↓] slE_fold
attribute [local go_sem] run_slE_hk run_slE_hk1 run_slE_lk1 Has_db_alloc5 of_db_alloc5 Has_db_drew5 of_db_drew5 Has_ent_drewR of_ent_drewR Has_prc_drewQ of_prc_drewQ prcArr_ones prcArr_sz prcArr_fits prcArr_splice
variable {z0 z1 z2 z3 z4 z5 z6 z7 z8 z9 z10 z11 z12 z13 z14 z15 z16 z17 z18 z19 z20 z21 z22 z23 z24 z25 z26 z27 z28 z29 z30 z31 z32 z33 z34 z35 z36 z37 z38 z39 z40 z41 z42 z43 z44 z45 z46 z47 z48 z49 z50 z51 z52 z53 z54 z55 z56 z57 z58 z59 z60 z61 z62 z63 z64 z65 z66 z67 z68 z69 z70 z71 z72 z73 z74 z75 z76 z77 z78 z79 z80 z81 z82 z83 z84 z85 z86 z87 z88 z89 z90 z91 z92 z93 z94 z95 z96 z97 z98 z99 z100 z101 z102 z103 z104 z105 z106 z107 z108 z109 z110 z111 z112 z113 z114 z115 z116 z117 z118 z119 z120 z121 z122 z123 z124 z125 z126 z127 z128 z129 z130 z131 z132 z133 z134 z135 z136 z137 z138 z139 z140 z141 z142 z143 z144 z145 z146 z147 z148 z149 z150 z151 z152 z153 z154 z155 z156 z157 z158 z159 z160 z161 z162 z163 z164 z165 z166 z167 z168 z169 z170 z171 z172 z173 z174 z175 z176 z177 z178 z179 z180 z181 z182 z183 z184 z185 z186 z187 z188 z189 z190 z191 z192 z193 z194 z195 z196 z197 z198 z199 z200 z201 z202 z203 z204 z205 z206 z207 z208 z209 z210 z211 z212 z213 z214 z215 z216 z217 z218 z219 z220 z221 z222 z223 z224 z225 z226 z227 z228 z229 z230 z231 z232 z233 z234 z235 z236 z237 z238 z239 z240 z241 z242 z243 z244 z245 z246 z247 z248 z249 z250 z251 z252 z253 : Value}
set_option maxHeartbeats 16000000 in
theorem earr_keep (K : Act → World → Prop) (Q : Exit → Act → World → Prop) (x y : Edr) (d : DBs) (G : GDB) (f : List UInt8) (s : Int) (g k : Nat) (w wc : World) (pf : List UInt8) (pz : Int)
    (P : GPre w x d G) (hy : y = { x with p := { x.p with to_ := f } }) (X11 : Ed w wc g y []) (hk : k ≤ x.p.es.length) (hkeep : keepSec s x.p.es = x.p.es.take k) (hpo : placeG G.fixes x.p.to_ = (pf, pz))
    (hK : ∀ (u18 u21 u22 u23 u166 u167 u168 u169 u170 u171 u172 u173 u174 u175 u176 u177 u178 u179 u180 u181 u182 u183 u184 u185 u186 u187 u188 u189 u190 u191 u192 u193 u194 u195 u196 u197 u198 u199 u200 u201 u202 u203 u204 u205 u206 u207 u208 u209 : Value) (w2 : World) , (∃ k2 : Nat, k2 ≤ x.p.es.length ∧ u18 = .slice x.A k2 x.c ∧ keepOld x.p s (pf, pz) = x.p.es.take k2 ∧ Below wc.heap.size wc w2) → K ⟨List.toArray (.pointer (some ⟨g, 0, none⟩) :: z1 :: z2 :: z3 :: z4 :: z5 :: z6 :: z7 :: .int .i64 x.p.active :: .string ⟨x.p.to_.toArray⟩ :: z10 :: z11 :: z12 :: z13 :: z14 :: z15 :: z16 :: z17 :: u18 :: z19 :: .int .i64 (k : Int) :: u21 :: u22 :: u23 :: z24 :: z25 :: z26 :: z27 :: z28 :: z29 :: z30 :: z31 :: z32 :: z33 :: z34 :: z35 :: z36 :: z37 :: z38 :: z39 :: z40 :: z41 :: z42 :: z43 :: z44 :: z45 :: z46 :: z47 :: z48 :: z49 :: z50 :: z51 :: z52 :: z53 :: z54 :: z55 :: z56 :: z57 :: z58 :: z59 :: z60 :: z61 :: z62 :: z63 :: z64 :: z65 :: z66 :: z67 :: z68 :: z69 :: z70 :: z71 :: z72 :: z73 :: z74 :: z75 :: z76 :: z77 :: z78 :: z79 :: z80 :: z81 :: z82 :: z83 :: z84 :: z85 :: z86 :: z87 :: z88 :: z89 :: z90 :: z91 :: z92 :: z93 :: z94 :: z95 :: z96 :: z97 :: z98 :: z99 :: z100 :: z101 :: z102 :: z103 :: z104 :: z105 :: z106 :: z107 :: z108 :: z109 :: z110 :: z111 :: z112 :: z113 :: z114 :: z115 :: z116 :: z117 :: z118 :: z119 :: z120 :: z121 :: z122 :: z123 :: z124 :: z125 :: z126 :: z127 :: z128 :: z129 :: z130 :: z131 :: z132 :: z133 :: z134 :: z135 :: z136 :: z137 :: z138 :: z139 :: z140 :: z141 :: z142 :: z143 :: z144 :: z145 :: z146 :: z147 :: z148 :: z149 :: z150 :: z151 :: z152 :: z153 :: z154 :: z155 :: z156 :: z157 :: z158 :: z159 :: z160 :: z161 :: z162 :: z163 :: z164 :: z165 :: u166 :: u167 :: u168 :: u169 :: u170 :: u171 :: u172 :: u173 :: u174 :: u175 :: u176 :: u177 :: u178 :: u179 :: u180 :: u181 :: u182 :: u183 :: u184 :: u185 :: u186 :: u187 :: u188 :: u189 :: u190 :: u191 :: u192 :: u193 :: u194 :: u195 :: u196 :: u197 :: u198 :: u199 :: u200 :: u201 :: u202 :: u203 :: u204 :: u205 :: u206 :: u207 :: u208 :: u209 :: z210 :: z211 :: z212 :: z213 :: z214 :: z215 :: z216 :: z217 :: z218 :: z219 :: z220 :: z221 :: z222 :: z223 :: z224 :: z225 :: z226 :: z227 :: z228 :: z229 :: z230 :: z231 :: z232 :: z233 :: z234 :: z235 :: z236 :: z237 :: z238 :: z239 :: z240 :: z241 :: z242 :: z243 :: z244 :: z245 :: z246 :: z247 :: z248 :: z249 :: z250 :: z251 :: z252 :: z253 :: []), []⟩ w2) :
    (tailCode 2 (headCode (tailCode 18 (Tryz.f95.body.getD .skip)))).wp Tryz.prog (Exit.then K Q) ⟨List.toArray (.pointer (some ⟨g, 0, none⟩) :: z1 :: z2 :: z3 :: z4 :: z5 :: z6 :: z7 :: .int .i64 x.p.active :: .string ⟨x.p.to_.toArray⟩ :: z10 :: z11 :: z12 :: z13 :: z14 :: z15 :: z16 :: z17 :: .slice x.A k x.c :: z19 :: .int .i64 (k : Int) :: z21 :: z22 :: z23 :: z24 :: z25 :: z26 :: z27 :: z28 :: z29 :: z30 :: z31 :: z32 :: z33 :: z34 :: z35 :: z36 :: z37 :: z38 :: z39 :: z40 :: z41 :: z42 :: z43 :: z44 :: z45 :: z46 :: z47 :: z48 :: z49 :: z50 :: z51 :: z52 :: z53 :: z54 :: z55 :: z56 :: z57 :: z58 :: z59 :: z60 :: z61 :: z62 :: z63 :: z64 :: z65 :: z66 :: z67 :: z68 :: z69 :: z70 :: z71 :: z72 :: z73 :: z74 :: z75 :: z76 :: z77 :: z78 :: z79 :: z80 :: z81 :: z82 :: z83 :: z84 :: z85 :: z86 :: z87 :: z88 :: z89 :: z90 :: z91 :: z92 :: z93 :: z94 :: z95 :: z96 :: z97 :: z98 :: z99 :: z100 :: z101 :: z102 :: z103 :: z104 :: z105 :: z106 :: z107 :: z108 :: z109 :: z110 :: z111 :: z112 :: z113 :: z114 :: z115 :: z116 :: z117 :: z118 :: z119 :: z120 :: z121 :: z122 :: z123 :: z124 :: z125 :: z126 :: z127 :: z128 :: z129 :: z130 :: z131 :: z132 :: z133 :: z134 :: z135 :: z136 :: z137 :: z138 :: z139 :: z140 :: z141 :: z142 :: z143 :: z144 :: z145 :: z146 :: z147 :: z148 :: z149 :: z150 :: z151 :: z152 :: z153 :: z154 :: z155 :: z156 :: z157 :: z158 :: z159 :: z160 :: z161 :: z162 :: z163 :: z164 :: z165 :: .bool (decide (0 < k)) :: z167 :: z168 :: z169 :: z170 :: z171 :: z172 :: z173 :: z174 :: z175 :: z176 :: z177 :: z178 :: z179 :: z180 :: z181 :: z182 :: z183 :: z184 :: z185 :: z186 :: z187 :: z188 :: z189 :: z190 :: z191 :: z192 :: z193 :: z194 :: z195 :: z196 :: z197 :: z198 :: z199 :: z200 :: z201 :: z202 :: z203 :: z204 :: z205 :: z206 :: z207 :: z208 :: z209 :: z210 :: z211 :: z212 :: z213 :: z214 :: z215 :: z216 :: z217 :: z218 :: z219 :: z220 :: z221 :: z222 :: z223 :: z224 :: z225 :: z226 :: z227 :: z228 :: z229 :: z230 :: z231 :: z232 :: z233 :: z234 :: z235 :: z236 :: z237 :: z238 :: z239 :: z240 :: z241 :: z242 :: z243 :: z244 :: z245 :: z246 :: z247 :: z248 :: z249 :: z250 :: z251 :: z252 :: z253 :: []), []⟩ wc := by
  conv => arg 2; whnf
  have HK := Lib.hid hK
  clear hK
  have HPG := Lib.hid P
  have HYD := Lib.hid (show y.db = x.db by rw [hy]; rfl)
  have HEn := Lib.hid (fun W' (b : Below w.heap.size w W') => (HPG.out.ents.below (B := 0) b : Ents W' x.A x.p.es))
  have HC := Lib.hid HPG.out.cap
  have HN := Lib.hid HPG.out.len
  clear hy P
  have ko := Lib.hid (fun (W' : World) (b : Below w.heap.size w W') => HPG.out.place W' b x.p.to_ (by have := HPG.out.to_; omega))
  rw [hpo] at ko
  clear hpo
  by_cases hk0 : k = 0
  · subst hk0
    clear X11
    go_wp2
    refine HK.out _ _ _ _ _ _ _ _ _ _ _ _ _ _ _ _ _ _ _ _ _ _ _ _ _ _ _ _ _ _ _ _ _ _ _ _ _ _ _ _ _ _ _ _ _ _ _ _ _ ?_
    exact ⟨0, Nat.zero_le _, rfl, by rw [keepOld_nil (hkeep.trans List.take_zero)]; rfl, Below.refl _ _⟩
  · obtain ⟨j, hj⟩ : ∃ j, k = j + 1 := ⟨k - 1, by omega⟩
    have HKO1 := keepOld_take (old := (pf, pz)) (by omega) hk hkeep
    rw [show k - 1 = j by omega] at HKO1
    obtain ⟨b0, o0, hA, hcl⟩ := HPG.out.ents.ent (k := j) (by omega)
    have hI := hcl wc X11.bel
    generalize entAt x.p j = u at hI HKO1
    have HKO := Lib.hid HKO1
    have i1 : Has_ent wc b0 (o0 + j * 20) := ⟨_, hI⟩
    have i2 : of_ent wc b0 (o0 + j * 20) = u := of_ent_eq hI
    have hw : wrap64 ((k : Int) - 1) = (j : Int) := by rw [IntWalk.wrap64_in _ (by have := HN.out; omega)]; omega
    have hlt1 : (0 : Int) < (k : Int) := by omega
    have hlt4 : 0 < k := by omega
    have hlt2 : (j : Int) < (k : Int) := by omega
    have hjc : j < x.c := by have := HC.out; omega
    have hjc2 : j ≤ x.c := by omega
    have HJK := Lib.hid (show (k : Int) - 1 = (j : Int) by omega)
    have HJ := Lib.hid hj
    have HKL := Lib.hid hk
    clear hj hk
    have HAE := Lib.hid hA
    have HX11 := Lib.hid X11
    rw [hA]
    clear HKO1 hcl hI X11 hA
    go_upto_region 34 with (fail)
    have Q1 := Blk.new wc u.arr 82
    have D1 := alloc_below5 wc (.cells u.arr 82)
    clear i1 i2
    generalize wc.alloc _ = W1 at Q1 D1 ⊢
    obtain ⟨gu, hgu⟩ : ∃ q, q = wc.heap.size := ⟨_, rfl⟩
    rw [← hgu] at Q1 ⊢
    clear hgu
    have k1 : Has_db W1 g 0 := ⟨_, (HX11.out.step D1).is_db⟩
    have k2 : of_db W1 g 0 = x.db := (of_db_eq (HX11.out.step D1).is_db).trans HYD.out
    have kp := Lib.hid (ko.out W1 (HX11.out.step D1).bel)
    generalize x.db = cs at *
    go_upto_region 35 with (go_at_call 127; (with_reducible refine callR kp.out ?_); intro w2 b2 _ _ _)
    have Q2 := Q1.step b2
    have D2 := Lib.hid (below_step D1 b2)
    have q0 : w2.cell? ⟨gu, 0, none⟩ = some (.bool u.gap) := Q2.cell 0
    have q2 : w2.cell? ⟨gu, 2, none⟩ = some (.string ⟨u.leg.fix.toArray⟩) := Q2.cell 2
    have q19 : w2.cell? ⟨gu, 19, none⟩ = some (.string ⟨u.via.toArray⟩) := Q2.cell 19
    clear Q1 Q2 D1 b2 k1 k2 kp
    rw [← HAE.out]
    have hlt3 : j ≤ x.c := hjc2
    refine earr_old _ _ x.A x.c k j gu u pf pz x.p.active w2 q0 q2 q19 hw hjc2 ?_
    intro u181 u182 u183 u184 u185 u186 u187 u188 u189 u190 u191 u192 u193 u194 u195 u196 u197 u198 u199 u200 u201 u202 u203 u204 u205 h205
    have HKB := Lib.hid (show keepOld x.p s (pf, pz) = if (pz == 0 && !u.gap && decide (x.p.active < (j : Int)) && u.leg.fix == pf && u.via.isEmpty) then x.p.es.take j else x.p.es.take k by rw [HKO.out, HJK.out])
    generalize (pz == 0 && !u.gap && decide (x.p.active < (j : Int)) && u.leg.fix == pf && u.via.isEmpty) = bb at h205 HKB
    subst h205
    clear q0 q2 q19
    cases bb with
    | true =>
      go_wp2
      refine HK.out _ _ _ _ _ _ _ _ _ _ _ _ _ _ _ _ _ _ _ _ _ _ _ _ _ _ _ _ _ _ _ _ _ _ _ _ _ _ _ _ _ _ _ _ _ _ _ _ _ ?_
      exact ⟨j, by have := HJ.out; have := HKL.out; omega, by rw [subE_zero], HKB.out, D2.out⟩
    | false =>
      go_wp2
      refine HK.out _ _ _ _ _ _ _ _ _ _ _ _ _ _ _ _ _ _ _ _ _ _ _ _ _ _ _ _ _ _ _ _ _ _ _ _ _ _ _ _ _ _ _ _ _ _ _ _ _ ?_
      exact ⟨k, HKL.out, rfl, HKB.out, D2.out⟩
end Go.Proofs.YtlggdgpdfepppaaGreatDoor
namespace Go.Proofs.YtlggdgpdfepppaaGreatDoor
open Go.RowKit Go.Sort
set_option linter.unusedVariables false
set_option linter.unusedSimpArgs false
set_option maxRecDepth 100000
attribute [local go_sem ↓] slE_fold
attribute [local go_sem] run_slE_hk run_slE_hk1 run_slE_lk1 Has_db_alloc5 of_db_alloc5 Has_db_drew5 of_db_drew5 Has_ent_drewR of_ent_drewR Has_prc_drewQ of_prc_drewQ prcArr_ones prcArr_sz prcArr_fits prcArr_splice
variable {z0 z1 z2 z3 z4 z5 z6 z7 z8 z9 z10 z11 z12 z13 z14 z15 z16 z17 z18 z19 z20 z21 z22 z23 z24 z25 z26 z27 z28 z29 z30 z31 z32 z33 z34 z35 z36 z37 z38 z39 z40 z41 z42 z43 z44 z45 z46 z47 z48 z49 z50 z51 z52 z53 z54 z55 z56 z57 z58 z59 z60 z61 z62 z63 z64 z65 z66 z67 z68 z69 z70 z71 z72 z73 z74 z75 z76 z77 z78 z79 z80 z81 z82 z83 z84 z85 z86 z87 z88 z89 z90 z91 z92 z93 z94 z95 z96 z97 z98 z99 z100 z101 z102 z103 z104 z105 z106 z107 z108 z109 z110 z111 z112 z113 z114 z115 z116 z117 z118 z119 z120 z121 z122 z123 z124 z125 z126 z127 z128 z129 z130 z131 z132 z133 z134 z135 z136 z137 z138 z139 z140 z141 z142 z143 z144 z145 z146 z147 z148 z149 z150 z151 z152 z153 z154 z155 z156 z157 z158 z159 z160 z161 z162 z163 z164 z165 z166 z167 z168 z169 z170 z171 z172 z173 z174 z175 z176 z177 z178 z179 z180 z181 z182 z183 z184 z185 z186 z187 z188 z189 z190 z191 z192 z193 z194 z195 z196 z197 z198 z199 z200 z201 z202 z203 z204 z205 z206 z207 z208 z209 z210 z211 z212 z213 z214 z215 z216 z217 z218 z219 z220 z221 z222 z223 z224 z225 z226 z227 z228 z229 z230 z231 z232 z233 z234 z235 z236 z237 z238 z239 z240 z241 z242 z243 z244 z245 z246 z247 z248 z249 z250 z251 z252 z253 : Value}
set_option maxHeartbeats 16000000 in
theorem earr_head (K : Act → World → Prop) (Q : Exit → Act → World → Prop) (A4 : Option Addr) (c4 : Nat) (bl : List Entry) (wc : World)
    (hEA : Ents wc A4 bl) (hl4 : bl.length ≤ c4)
    (hK : ∀ (u210 u211 u212 u213 u214 u215 u216 u217 u218 u219 u220 : Value) , u220 = .bool (headFix bl) → K ⟨List.toArray (z0 :: z1 :: z2 :: z3 :: z4 :: z5 :: z6 :: z7 :: z8 :: z9 :: z10 :: z11 :: z12 :: z13 :: .slice A4 bl.length c4 :: z15 :: z16 :: z17 :: z18 :: z19 :: z20 :: z21 :: z22 :: z23 :: z24 :: z25 :: z26 :: z27 :: z28 :: z29 :: z30 :: z31 :: z32 :: z33 :: z34 :: z35 :: z36 :: z37 :: z38 :: z39 :: z40 :: z41 :: z42 :: z43 :: z44 :: z45 :: z46 :: z47 :: z48 :: z49 :: z50 :: z51 :: z52 :: z53 :: z54 :: z55 :: z56 :: z57 :: z58 :: z59 :: z60 :: z61 :: z62 :: z63 :: z64 :: z65 :: z66 :: z67 :: z68 :: z69 :: z70 :: z71 :: z72 :: z73 :: z74 :: z75 :: z76 :: z77 :: z78 :: z79 :: z80 :: z81 :: z82 :: z83 :: z84 :: z85 :: z86 :: z87 :: z88 :: z89 :: z90 :: z91 :: z92 :: z93 :: z94 :: z95 :: z96 :: z97 :: z98 :: z99 :: z100 :: z101 :: z102 :: z103 :: z104 :: z105 :: z106 :: z107 :: z108 :: z109 :: z110 :: z111 :: z112 :: z113 :: z114 :: z115 :: z116 :: z117 :: z118 :: z119 :: z120 :: z121 :: z122 :: z123 :: z124 :: z125 :: z126 :: z127 :: z128 :: z129 :: z130 :: z131 :: z132 :: z133 :: z134 :: z135 :: z136 :: z137 :: z138 :: z139 :: z140 :: z141 :: z142 :: z143 :: z144 :: z145 :: z146 :: z147 :: z148 :: z149 :: z150 :: z151 :: z152 :: z153 :: z154 :: z155 :: z156 :: z157 :: z158 :: z159 :: z160 :: z161 :: z162 :: z163 :: z164 :: z165 :: z166 :: z167 :: z168 :: z169 :: z170 :: z171 :: z172 :: z173 :: z174 :: z175 :: z176 :: z177 :: z178 :: z179 :: z180 :: z181 :: z182 :: z183 :: z184 :: z185 :: z186 :: z187 :: z188 :: z189 :: z190 :: z191 :: z192 :: z193 :: z194 :: z195 :: z196 :: z197 :: z198 :: z199 :: z200 :: z201 :: z202 :: z203 :: z204 :: z205 :: z206 :: z207 :: z208 :: z209 :: u210 :: u211 :: u212 :: u213 :: u214 :: u215 :: u216 :: u217 :: u218 :: u219 :: u220 :: z221 :: z222 :: z223 :: z224 :: z225 :: z226 :: z227 :: z228 :: z229 :: z230 :: z231 :: z232 :: z233 :: z234 :: z235 :: z236 :: z237 :: z238 :: z239 :: z240 :: z241 :: z242 :: z243 :: z244 :: z245 :: z246 :: z247 :: z248 :: z249 :: z250 :: z251 :: z252 :: z253 :: []), []⟩ wc) :
    (headCode (headCode (tailCode 20 (Tryz.f95.body.getD .skip)))).wp Tryz.prog (Exit.then K Q) ⟨List.toArray (z0 :: z1 :: z2 :: z3 :: z4 :: z5 :: z6 :: z7 :: z8 :: z9 :: z10 :: z11 :: z12 :: z13 :: .slice A4 bl.length c4 :: z15 :: z16 :: z17 :: z18 :: z19 :: z20 :: z21 :: z22 :: z23 :: z24 :: z25 :: z26 :: z27 :: z28 :: z29 :: z30 :: z31 :: z32 :: z33 :: z34 :: z35 :: z36 :: z37 :: z38 :: z39 :: z40 :: z41 :: z42 :: z43 :: z44 :: z45 :: z46 :: z47 :: z48 :: z49 :: z50 :: z51 :: z52 :: z53 :: z54 :: z55 :: z56 :: z57 :: z58 :: z59 :: z60 :: z61 :: z62 :: z63 :: z64 :: z65 :: z66 :: z67 :: z68 :: z69 :: z70 :: z71 :: z72 :: z73 :: z74 :: z75 :: z76 :: z77 :: z78 :: z79 :: z80 :: z81 :: z82 :: z83 :: z84 :: z85 :: z86 :: z87 :: z88 :: z89 :: z90 :: z91 :: z92 :: z93 :: z94 :: z95 :: z96 :: z97 :: z98 :: z99 :: z100 :: z101 :: z102 :: z103 :: z104 :: z105 :: z106 :: z107 :: z108 :: z109 :: z110 :: z111 :: z112 :: z113 :: z114 :: z115 :: z116 :: z117 :: z118 :: z119 :: z120 :: z121 :: z122 :: z123 :: z124 :: z125 :: z126 :: z127 :: z128 :: z129 :: z130 :: z131 :: z132 :: z133 :: z134 :: z135 :: z136 :: z137 :: z138 :: z139 :: z140 :: z141 :: z142 :: z143 :: z144 :: z145 :: z146 :: z147 :: z148 :: z149 :: z150 :: z151 :: z152 :: z153 :: z154 :: z155 :: z156 :: z157 :: z158 :: z159 :: z160 :: z161 :: z162 :: z163 :: z164 :: z165 :: z166 :: z167 :: z168 :: z169 :: z170 :: z171 :: z172 :: z173 :: z174 :: z175 :: z176 :: z177 :: z178 :: z179 :: z180 :: z181 :: z182 :: z183 :: z184 :: z185 :: z186 :: z187 :: z188 :: z189 :: z190 :: z191 :: z192 :: z193 :: z194 :: z195 :: z196 :: z197 :: z198 :: z199 :: z200 :: z201 :: z202 :: z203 :: z204 :: z205 :: z206 :: z207 :: z208 :: z209 :: z210 :: z211 :: z212 :: z213 :: z214 :: z215 :: z216 :: z217 :: z218 :: z219 :: z220 :: z221 :: z222 :: z223 :: z224 :: z225 :: z226 :: z227 :: z228 :: z229 :: z230 :: z231 :: z232 :: z233 :: z234 :: z235 :: z236 :: z237 :: z238 :: z239 :: z240 :: z241 :: z242 :: z243 :: z244 :: z245 :: z246 :: z247 :: z248 :: z249 :: z250 :: z251 :: z252 :: z253 :: []), []⟩ wc := by
  conv => arg 2; whnf
  have HK := Lib.hid hK
  clear hK
  cases bl with
  | nil =>
    simp only [List.length_nil]
    go_wp2
    refine HK.out _ _ _ _ _ _ _ _ _ _ _ ?_
    rfl
  | cons z r =>
    obtain ⟨b0, o0, hA, hb0, hc0⟩ := hEA.get (k := 0) (by simp)
    have q2 : wc.cell? ⟨b0, o0 + 2, none⟩ = some (.string ⟨z.leg.fix.toArray⟩) := by have := hc0 2 (by decide); rw [Nat.zero_mul, Nat.add_zero] at this; exact this
    have hl0 : (0 : Int) < (((z :: r).length : Nat) : Int) := Int.natCast_pos.2 (by simp)
    have hc40 : 0 < c4 := by have := hl4; simp at this; omega
    have HAE := Lib.hid hA
    rw [hA]
    clear hc0 hb0 hEA hA
    by_cases hf : z.leg.fix = []
    · have hf1 : (z.leg.fix == []) = true := by simpa using hf
      have HH := Lib.hid (show headFix (z :: r) = false by simp [headFix, hf])
      go_wp2
      rw [← HAE.out]
      refine HK.out _ _ _ _ _ _ _ _ _ _ _ ?_
      rw [HH.out]
    · have hf1 : (z.leg.fix == []) = false := by simpa using hf
      have HH := Lib.hid (show headFix (z :: r) = true by simp [headFix, hf])
      go_wp2
      rw [← HAE.out]
      refine HK.out _ _ _ _ _ _ _ _ _ _ _ ?_
      rw [HH.out]
set_option maxHeartbeats 16000000 in
theorem earr_join (K : Act → World → Prop) (Q : Exit → Act → World → Prop) (x y : Edr) (d : DBs) (G : GDB) (f : List UInt8) (A4 : Option Addr) (c4 k2 g : Nat) (bl : List Entry) (w wc : World)
    (P : GPre w x d G) (hy : y = { x with p := { x.p with to_ := f } }) (X12 : Ed w wc g y []) (hEA : Ents wc A4 bl) (hl4 : bl.length ≤ c4) (hk2 : k2 ≤ x.p.es.length)
    (hK : ∀ (u24 u220 u221 u222 u223 u224 u225 u226 u227 u228 : Value) (w2 : World) , (u24 = .int .i64 (joinAt (x.p.es.take k2) x.p.active bl) ∧ Below wc.heap.size wc w2) → K ⟨List.toArray (z0 :: z1 :: z2 :: z3 :: z4 :: z5 :: z6 :: z7 :: .int .i64 x.p.active :: z9 :: z10 :: z11 :: z12 :: z13 :: .slice A4 bl.length c4 :: z15 :: z16 :: z17 :: .slice x.A k2 x.c :: z19 :: z20 :: z21 :: z22 :: z23 :: u24 :: z25 :: z26 :: z27 :: z28 :: z29 :: z30 :: z31 :: z32 :: z33 :: z34 :: z35 :: z36 :: z37 :: z38 :: z39 :: z40 :: z41 :: z42 :: z43 :: z44 :: z45 :: z46 :: z47 :: z48 :: z49 :: z50 :: z51 :: z52 :: z53 :: z54 :: z55 :: z56 :: z57 :: z58 :: z59 :: z60 :: z61 :: z62 :: z63 :: z64 :: z65 :: z66 :: z67 :: z68 :: z69 :: z70 :: z71 :: z72 :: z73 :: z74 :: z75 :: z76 :: z77 :: z78 :: z79 :: z80 :: z81 :: z82 :: z83 :: z84 :: z85 :: z86 :: z87 :: z88 :: z89 :: z90 :: z91 :: z92 :: z93 :: z94 :: z95 :: z96 :: z97 :: z98 :: z99 :: z100 :: z101 :: z102 :: z103 :: z104 :: z105 :: z106 :: z107 :: z108 :: z109 :: z110 :: z111 :: z112 :: z113 :: z114 :: z115 :: z116 :: z117 :: z118 :: z119 :: z120 :: z121 :: z122 :: z123 :: z124 :: z125 :: z126 :: z127 :: z128 :: z129 :: z130 :: z131 :: z132 :: z133 :: z134 :: z135 :: z136 :: z137 :: z138 :: z139 :: z140 :: z141 :: z142 :: z143 :: z144 :: z145 :: z146 :: z147 :: z148 :: z149 :: z150 :: z151 :: z152 :: z153 :: z154 :: z155 :: z156 :: z157 :: z158 :: z159 :: z160 :: z161 :: z162 :: z163 :: z164 :: z165 :: z166 :: z167 :: z168 :: z169 :: z170 :: z171 :: z172 :: z173 :: z174 :: z175 :: z176 :: z177 :: z178 :: z179 :: z180 :: z181 :: z182 :: z183 :: z184 :: z185 :: z186 :: z187 :: z188 :: z189 :: z190 :: z191 :: z192 :: z193 :: z194 :: z195 :: z196 :: z197 :: z198 :: z199 :: z200 :: z201 :: z202 :: z203 :: z204 :: z205 :: z206 :: z207 :: z208 :: z209 :: z210 :: z211 :: z212 :: z213 :: z214 :: z215 :: z216 :: z217 :: z218 :: z219 :: u220 :: u221 :: u222 :: u223 :: u224 :: u225 :: u226 :: u227 :: u228 :: z229 :: z230 :: z231 :: z232 :: z233 :: z234 :: z235 :: z236 :: z237 :: z238 :: z239 :: z240 :: z241 :: z242 :: z243 :: z244 :: z245 :: z246 :: z247 :: z248 :: z249 :: z250 :: z251 :: z252 :: z253 :: []), []⟩ w2) :
    (tailCode 1 (headCode (tailCode 20 (Tryz.f95.body.getD .skip)))).wp Tryz.prog (Exit.then K Q) ⟨List.toArray (z0 :: z1 :: z2 :: z3 :: z4 :: z5 :: z6 :: z7 :: .int .i64 x.p.active :: z9 :: z10 :: z11 :: z12 :: z13 :: .slice A4 bl.length c4 :: z15 :: z16 :: z17 :: .slice x.A k2 x.c :: z19 :: z20 :: z21 :: z22 :: z23 :: .int .i64 (-1) :: z25 :: z26 :: z27 :: z28 :: z29 :: z30 :: z31 :: z32 :: z33 :: z34 :: z35 :: z36 :: z37 :: z38 :: z39 :: z40 :: z41 :: z42 :: z43 :: z44 :: z45 :: z46 :: z47 :: z48 :: z49 :: z50 :: z51 :: z52 :: z53 :: z54 :: z55 :: z56 :: z57 :: z58 :: z59 :: z60 :: z61 :: z62 :: z63 :: z64 :: z65 :: z66 :: z67 :: z68 :: z69 :: z70 :: z71 :: z72 :: z73 :: z74 :: z75 :: z76 :: z77 :: z78 :: z79 :: z80 :: z81 :: z82 :: z83 :: z84 :: z85 :: z86 :: z87 :: z88 :: z89 :: z90 :: z91 :: z92 :: z93 :: z94 :: z95 :: z96 :: z97 :: z98 :: z99 :: z100 :: z101 :: z102 :: z103 :: z104 :: z105 :: z106 :: z107 :: z108 :: z109 :: z110 :: z111 :: z112 :: z113 :: z114 :: z115 :: z116 :: z117 :: z118 :: z119 :: z120 :: z121 :: z122 :: z123 :: z124 :: z125 :: z126 :: z127 :: z128 :: z129 :: z130 :: z131 :: z132 :: z133 :: z134 :: z135 :: z136 :: z137 :: z138 :: z139 :: z140 :: z141 :: z142 :: z143 :: z144 :: z145 :: z146 :: z147 :: z148 :: z149 :: z150 :: z151 :: z152 :: z153 :: z154 :: z155 :: z156 :: z157 :: z158 :: z159 :: z160 :: z161 :: z162 :: z163 :: z164 :: z165 :: z166 :: z167 :: z168 :: z169 :: z170 :: z171 :: z172 :: z173 :: z174 :: z175 :: z176 :: z177 :: z178 :: z179 :: z180 :: z181 :: z182 :: z183 :: z184 :: z185 :: z186 :: z187 :: z188 :: z189 :: z190 :: z191 :: z192 :: z193 :: z194 :: z195 :: z196 :: z197 :: z198 :: z199 :: z200 :: z201 :: z202 :: z203 :: z204 :: z205 :: z206 :: z207 :: z208 :: z209 :: z210 :: z211 :: z212 :: z213 :: z214 :: z215 :: z216 :: z217 :: z218 :: z219 :: .bool (headFix bl) :: z221 :: z222 :: z223 :: z224 :: z225 :: z226 :: z227 :: z228 :: z229 :: z230 :: z231 :: z232 :: z233 :: z234 :: z235 :: z236 :: z237 :: z238 :: z239 :: z240 :: z241 :: z242 :: z243 :: z244 :: z245 :: z246 :: z247 :: z248 :: z249 :: z250 :: z251 :: z252 :: z253 :: []), []⟩ wc := by
  conv => arg 2; whnf
  have HK := Lib.hid hK
  clear hK
  have HPG := Lib.hid P
  have HYD := Lib.hid (show y.db = x.db by rw [hy]; rfl)
  have HEn := Lib.hid (fun W' (b : Below w.heap.size w W') => (HPG.out.ents.below (B := 0) b : Ents W' x.A x.p.es))
  have HC := Lib.hid HPG.out.cap
  have HN := Lib.hid HPG.out.len
  clear hy P
  have HA1 := Lib.hid HPG.out.act1
  clear HPG
  cases hh : headFix bl with
  | false =>
    have hj := Lib.hid (joinAt_no (keep := x.p.es.take k2) (a := x.p.active) hh)
    clear X12 hEA hh
    go_wp2
    refine HK.out _ _ _ _ _ _ _ _ _ _ _ ?_
    exact ⟨by rw [hj.out], Below.refl _ _⟩
  | true =>
    cases bl with
    | nil => cases hh
    | cons z r =>
      have hj := Lib.hid (joinAt_yes (keep := x.p.es.take k2) (a := x.p.active) hh)
      obtain ⟨b0, o0, hA, hb0, hc0⟩ := hEA.get (k := 0) (by simp)
      have q2 : wc.cell? ⟨b0, o0 + 2, none⟩ = some (.string ⟨z.leg.fix.toArray⟩) := by have := hc0 2 (by decide); rw [Nat.zero_mul, Nat.add_zero] at this; exact this
      have hl0 : (0 : Int) < (((z :: r).length : Nat) : Int) := Int.natCast_pos.2 (by simp)
      have hl1 : 0 < (z :: r).length := by simp
      have hc40 : 0 < c4 := by have := hl4; simp at this; omega
      have HAE := Lib.hid hA
      have KS := Lib.hid (search_any (x.p.es.take k2) x.A k2 x.c x.p.active z.leg.fix wc (by have := (HEn.out _ X12.bel).take (k := k2) (c := x.c); rwa [subE_zero] at this) (by rw [List.length_take]; omega) (by have := HN.out; omega) (by have := HA1.out; have := HN.out; omega))
      rw [hA]
      clear hc0 hb0 hEA X12 hh hA
      go_wp2_with (go_at_call 117; (with_reducible refine callR KS.out ?_); intro w4 b4 _ _ _)
      rw [← HAE.out]
      refine HK.out _ _ _ _ _ _ _ _ _ _ _ ?_
      exact ⟨by rw [hj.out], b4⟩
end Go.Proofs.YtlggdgpdfepppaaGreatDoor
namespace Go.Proofs.YtlggdgpdfepppaaGreatDoor
open Go.RowKit Go.Sort
set_option linter.unusedVariables false
set_option linter.unusedSimpArgs false
set_option maxRecDepth 100000
attribute [local go_sem ↓] slE_fold
attribute [local go_sem] run_slE_hk run_slE_hk1 run_slE_lk1 Has_db_alloc5 of_db_alloc5 Has_db_drew5 of_db_drew5 Has_ent_drewR of_ent_drewR Has_prc_drewQ of_prc_drewQ prcArr_ones prcArr_sz prcArr_fits prcArr_splice
variable {z0 z1 z2 z3 z4 z5 z6 z7 z8 z9 z10 z11 z12 z13 z14 z15 z16 z17 z18 z19 z20 z21 z22 z23 z24 z25 z26 z27 z28 z29 z30 z31 z32 z33 z34 z35 z36 z37 z38 z39 z40 z41 z42 z43 z44 z45 z46 z47 z48 z49 z50 z51 z52 z53 z54 z55 z56 z57 z58 z59 z60 z61 z62 z63 z64 z65 z66 z67 z68 z69 z70 z71 z72 z73 z74 z75 z76 z77 z78 z79 z80 z81 z82 z83 z84 z85 z86 z87 z88 z89 z90 z91 z92 z93 z94 z95 z96 z97 z98 z99 z100 z101 z102 z103 z104 z105 z106 z107 z108 z109 z110 z111 z112 z113 z114 z115 z116 z117 z118 z119 z120 z121 z122 z123 z124 z125 z126 z127 z128 z129 z130 z131 z132 z133 z134 z135 z136 z137 z138 z139 z140 z141 z142 z143 z144 z145 z146 z147 z148 z149 z150 z151 z152 z153 z154 z155 z156 z157 z158 z159 z160 z161 z162 z163 z164 z165 z166 z167 z168 z169 z170 z171 z172 z173 z174 z175 z176 z177 z178 z179 z180 z181 z182 z183 z184 z185 z186 z187 z188 z189 z190 z191 z192 z193 z194 z195 z196 z197 z198 z199 z200 z201 z202 z203 z204 z205 z206 z207 z208 z209 z210 z211 z212 z213 z214 z215 z216 z217 z218 z219 z220 z221 z222 z223 z224 z225 z226 z227 z228 z229 z230 z231 z232 z233 z234 z235 z236 z237 z238 z239 z240 z241 z242 z243 z244 z245 z246 z247 z248 z249 z250 z251 z252 z253 : Value}
set_option maxHeartbeats 16000000 in
theorem earr_put (K : Act → World → Prop) (Q : Exit → Act → World → Prop) (x y : Edr) (d : DBs) (G : GDB) (f : List UInt8) (A4 A7 : Option Addr) (k2 g gy : Nat) (ji : Int) (bl ml fr : List Entry) (y1 : Entry) (w wc : World)
    (P : GPre w x d G) (hy : y = { x with p := { x.p with to_ := f } }) (X13 : Ed w wc g y []) (FA3 : FarE wc g y.v A4 bl) (FM3 : FarE wc g y.v A7 ml) (Y13 : Blk wc gy y1.arr) (F13 : FarB wc g y.v gy) (hk2 : k2 ≤ x.p.es.length) (hjr : ji = -1 ∨ ∃ m : Nat, m < (x.p.es.take k2).length ∧ ji = (m : Int)) (hfr : fr = (if 0 ≤ ji then (x.p.es.take k2).take (ji.toNat + 1) else x.p.es.take k2 ++ [gapE]))
    (hK : ∀ (u24 u230 u231 u232 u233 u234 u235 u236 u237 u238 u239 u240 u241 u242 u243 : Value) (w2 : World) , (∃ v', Ed w w2 g (y.wv v') fr ∧ FarE w2 g v' A4 bl ∧ FarE w2 g v' A7 ml ∧ Blk w2 gy y1.arr ∧ FarB w2 g v' gy) → K ⟨List.toArray (.pointer (some ⟨g, 0, none⟩) :: z1 :: z2 :: z3 :: z4 :: z5 :: z6 :: z7 :: z8 :: z9 :: z10 :: z11 :: z12 :: z13 :: z14 :: z15 :: z16 :: z17 :: .slice x.A k2 x.c :: z19 :: z20 :: z21 :: z22 :: z23 :: u24 :: z25 :: z26 :: z27 :: z28 :: z29 :: z30 :: z31 :: z32 :: z33 :: z34 :: z35 :: z36 :: z37 :: z38 :: z39 :: z40 :: z41 :: z42 :: z43 :: z44 :: z45 :: z46 :: z47 :: z48 :: z49 :: z50 :: z51 :: z52 :: z53 :: z54 :: z55 :: z56 :: z57 :: z58 :: z59 :: z60 :: z61 :: z62 :: z63 :: z64 :: z65 :: z66 :: z67 :: z68 :: z69 :: z70 :: z71 :: z72 :: z73 :: z74 :: z75 :: z76 :: z77 :: z78 :: z79 :: z80 :: z81 :: z82 :: z83 :: z84 :: z85 :: z86 :: z87 :: z88 :: z89 :: z90 :: z91 :: z92 :: z93 :: z94 :: z95 :: z96 :: z97 :: z98 :: z99 :: z100 :: z101 :: z102 :: z103 :: z104 :: z105 :: z106 :: z107 :: z108 :: z109 :: z110 :: z111 :: z112 :: z113 :: z114 :: z115 :: z116 :: z117 :: z118 :: z119 :: z120 :: z121 :: z122 :: z123 :: z124 :: z125 :: z126 :: z127 :: z128 :: z129 :: z130 :: z131 :: z132 :: z133 :: z134 :: z135 :: z136 :: z137 :: z138 :: z139 :: z140 :: z141 :: z142 :: z143 :: z144 :: z145 :: z146 :: z147 :: z148 :: z149 :: z150 :: z151 :: z152 :: z153 :: z154 :: z155 :: z156 :: z157 :: z158 :: z159 :: z160 :: z161 :: z162 :: z163 :: z164 :: z165 :: z166 :: z167 :: z168 :: z169 :: z170 :: z171 :: z172 :: z173 :: z174 :: z175 :: z176 :: z177 :: z178 :: z179 :: z180 :: z181 :: z182 :: z183 :: z184 :: z185 :: z186 :: z187 :: z188 :: z189 :: z190 :: z191 :: z192 :: z193 :: z194 :: z195 :: z196 :: z197 :: z198 :: z199 :: z200 :: z201 :: z202 :: z203 :: z204 :: z205 :: z206 :: z207 :: z208 :: z209 :: z210 :: z211 :: z212 :: z213 :: z214 :: z215 :: z216 :: z217 :: z218 :: z219 :: z220 :: z221 :: z222 :: z223 :: z224 :: z225 :: z226 :: z227 :: z228 :: z229 :: u230 :: u231 :: u232 :: u233 :: u234 :: u235 :: u236 :: u237 :: u238 :: u239 :: u240 :: u241 :: u242 :: u243 :: z244 :: z245 :: z246 :: z247 :: z248 :: z249 :: z250 :: z251 :: z252 :: z253 :: []), []⟩ w2) :
    (tailCode 1 (headCode (tailCode 21 (Tryz.f95.body.getD .skip)))).wp Tryz.prog (Exit.then K Q) ⟨List.toArray (.pointer (some ⟨g, 0, none⟩) :: z1 :: z2 :: z3 :: z4 :: z5 :: z6 :: z7 :: z8 :: z9 :: z10 :: z11 :: z12 :: z13 :: z14 :: z15 :: z16 :: z17 :: .slice x.A k2 x.c :: z19 :: z20 :: z21 :: z22 :: z23 :: .int .i64 ji :: z25 :: z26 :: z27 :: z28 :: z29 :: z30 :: z31 :: z32 :: z33 :: z34 :: z35 :: z36 :: z37 :: z38 :: z39 :: z40 :: z41 :: z42 :: z43 :: z44 :: z45 :: z46 :: z47 :: z48 :: z49 :: z50 :: z51 :: z52 :: z53 :: z54 :: z55 :: z56 :: z57 :: z58 :: z59 :: z60 :: z61 :: z62 :: z63 :: z64 :: z65 :: z66 :: z67 :: z68 :: z69 :: z70 :: z71 :: z72 :: z73 :: z74 :: z75 :: z76 :: z77 :: z78 :: z79 :: z80 :: z81 :: z82 :: z83 :: z84 :: z85 :: z86 :: z87 :: z88 :: z89 :: z90 :: z91 :: z92 :: z93 :: z94 :: z95 :: z96 :: z97 :: z98 :: z99 :: z100 :: z101 :: z102 :: z103 :: z104 :: z105 :: z106 :: z107 :: z108 :: z109 :: z110 :: z111 :: z112 :: z113 :: z114 :: z115 :: z116 :: z117 :: z118 :: z119 :: z120 :: z121 :: z122 :: z123 :: z124 :: z125 :: z126 :: z127 :: z128 :: z129 :: z130 :: z131 :: z132 :: z133 :: z134 :: z135 :: z136 :: z137 :: z138 :: z139 :: z140 :: z141 :: z142 :: z143 :: z144 :: z145 :: z146 :: z147 :: z148 :: z149 :: z150 :: z151 :: z152 :: z153 :: z154 :: z155 :: z156 :: z157 :: z158 :: z159 :: z160 :: z161 :: z162 :: z163 :: z164 :: z165 :: z166 :: z167 :: z168 :: z169 :: z170 :: z171 :: z172 :: z173 :: z174 :: z175 :: z176 :: z177 :: z178 :: z179 :: z180 :: z181 :: z182 :: z183 :: z184 :: z185 :: z186 :: z187 :: z188 :: z189 :: z190 :: z191 :: z192 :: z193 :: z194 :: z195 :: z196 :: z197 :: z198 :: z199 :: z200 :: z201 :: z202 :: z203 :: z204 :: z205 :: z206 :: z207 :: z208 :: z209 :: z210 :: z211 :: z212 :: z213 :: z214 :: z215 :: z216 :: z217 :: z218 :: z219 :: z220 :: z221 :: z222 :: z223 :: z224 :: z225 :: z226 :: z227 :: z228 :: z229 :: .bool (decide (0 ≤ ji)) :: z231 :: z232 :: z233 :: z234 :: z235 :: z236 :: z237 :: z238 :: z239 :: z240 :: z241 :: z242 :: z243 :: z244 :: z245 :: z246 :: z247 :: z248 :: z249 :: z250 :: z251 :: z252 :: z253 :: []), []⟩ wc := by
  conv => arg 2; whnf
  have HK := Lib.hid hK
  clear hK
  have HPG := Lib.hid P
  have HYD := Lib.hid (show y.db = x.db by rw [hy]; rfl)
  have HEn := Lib.hid (fun W' (b : Below w.heap.size w W') => (HPG.out.ents.below (B := 0) b : Ents W' x.A x.p.es))
  have HC := Lib.hid HPG.out.cap
  have HN := Lib.hid HPG.out.len
  clear hy P
  have HGp := Lib.hid (fun W' (b : Below w.heap.size w W') => (HPG.out.gap.below b).is)
  have HLK := Lib.hid (show (x.p.es.take k2).length = k2 by rw [List.length_take]; omega)
  have HFR := Lib.hid hfr
  clear hfr HPG HYD
  rcases hjr with rfl | ⟨m, hm, rfl⟩
  · have hfr : x.p.es.take k2 ++ [gapE] = fr := by rw [HFR.out, if_neg (by decide)]
    have HFR2 := Lib.hid hfr
    have K1 := Lib.hid (put_any y [] (x.p.es.take k2) x.A x.c k2 g w wc X13 (by have := (HEn.out _ X13.bel).take (k := k2) (c := x.c); rwa [subE_zero] at this) HLK.out (by have := HN.out; simp; omega))
    rw [List.nil_append] at K1
    clear hfr HFR
    go_upto_region 43 with (go_at_call 118; (with_reducible refine callPutV K1.out ?_); intro v7 W7 X14 kp; dsimp only)
    have FA4 := FA3.put kp
    have FM4 := FM3.put kp
    have Y14 := kp.blk F13 Y13
    have F14 := F13.step kp
    clear K1 X13 FA3 FM3 Y13 F13 kp
    have g1 : Has_ent W7 3 0 := ⟨_, HGp.out W7 X14.bel⟩
    have g2 : of_ent W7 3 0 = gapE := of_ent_eq (HGp.out W7 X14.bel)
    have bA := alloc_below5 W7 (.cells gapE.arr 82)
    have K2 := Lib.hid (put_any (y.wv v7) (x.p.es.take k2) [gapE] (some ⟨W7.heap.size, 0, none⟩) 1 1 g w _ (X14.alloc (.cells gapE.arr 82)) (ents1 (Blk.new _ _ _)) rfl (by rw [HLK.out]; have := HN.out; omega))
    have FA5 := FA4.step bA
    have FM5 := FM4.step bA
    have Y15 := Y14.step bA
    have F15 := F14.below bA
    clear X14 FA4 FM4 Y14 F14 bA
    go_wp2_with (go_at_call 118; (with_reducible refine callPutV K2.out ?_); intro v8 W8 X15 kp; dsimp only)
    refine HK.out _ _ _ _ _ _ _ _ _ _ _ _ _ _ _ _ ?_
    rw [HFR2.out] at X15
    exact ⟨v8, X15, FA5.put kp, FM5.put kp, kp.blk F15 Y15, F15.step kp⟩
  · rw [HLK.out] at hm
    have hfr : (x.p.es.take k2).take (m + 1) = fr := by rw [HFR.out, if_pos (by simp)]; simp
    have hw1 : wrap64 ((m : Int) + 1) = (m : Int) + 1 := IntWalk.wrap64_in _ (by have := HN.out; omega)
    have hmc : m + 1 ≤ x.c := by have := HC.out; omega
    have K1 := Lib.hid (put_any y [] ((x.p.es.take k2).take (m + 1)) (subE x.A 0 x.c) x.c (m + 1) g w wc X13 (by have := (HEn.out _ X13.bel).take (k := k2) (c := x.c); rw [subE_zero] at this; exact this.take) (by rw [List.length_take, HLK.out]; omega) (by have := HN.out; simp; omega))
    rw [List.nil_append, hfr] at K1
    clear hfr HFR
    go_wp2_with (go_at_call 118; (with_reducible refine callPutV K1.out ?_); intro v8 W8 X15 kp; dsimp only)
    refine HK.out _ _ _ _ _ _ _ _ _ _ _ _ _ _ _ _ ?_
    exact ⟨v8, X15, FA3.put kp, FM3.put kp, kp.blk F13 Y13, F13.step kp⟩
end Go.Proofs.YtlggdgpdfepppaaGreatDoor
namespace Go.Proofs.YtlggdgpdfepppaaGreatDoor
open Go.RowKit Go.Sort
set_option linter.unusedVariables false
set_option linter.unusedSimpArgs false
set_option maxRecDepth 100000
attribute [local go_sem ↓] slE_fold
attribute [local go_sem] run_slE_hk run_slE_hk1 run_slE_lk1 Has_db_alloc5 of_db_alloc5 Has_db_drew5 of_db_drew5 Has_ent_drewR of_ent_drewR Has_prc_drewQ of_prc_drewQ prcArr_ones prcArr_sz prcArr_fits prcArr_splice
variable {z0 z1 z2 z3 z4 z5 z6 z7 z8 z9 z10 z11 z12 z13 z14 z15 z16 z17 z18 z19 z20 z21 z22 z23 z24 z25 z26 z27 z28 z29 z30 z31 z32 z33 z34 z35 z36 z37 z38 z39 z40 z41 z42 z43 z44 z45 z46 z47 z48 z49 z50 z51 z52 z53 z54 z55 z56 z57 z58 z59 z60 z61 z62 z63 z64 z65 z66 z67 z68 z69 z70 z71 z72 z73 z74 z75 z76 z77 z78 z79 z80 z81 z82 z83 z84 z85 z86 z87 z88 z89 z90 z91 z92 z93 z94 z95 z96 z97 z98 z99 z100 z101 z102 z103 z104 z105 z106 z107 z108 z109 z110 z111 z112 z113 z114 z115 z116 z117 z118 z119 z120 z121 z122 z123 z124 z125 z126 z127 z128 z129 z130 z131 z132 z133 z134 z135 z136 z137 z138 z139 z140 z141 z142 z143 z144 z145 z146 z147 z148 z149 z150 z151 z152 z153 z154 z155 z156 z157 z158 z159 z160 z161 z162 z163 z164 z165 z166 z167 z168 z169 z170 z171 z172 z173 z174 z175 z176 z177 z178 z179 z180 z181 z182 z183 z184 z185 z186 z187 z188 z189 z190 z191 z192 z193 z194 z195 z196 z197 z198 z199 z200 z201 z202 z203 z204 z205 z206 z207 z208 z209 z210 z211 z212 z213 z214 z215 z216 z217 z218 z219 z220 z221 z222 z223 z224 z225 z226 z227 z228 z229 z230 z231 z232 z233 z234 z235 z236 z237 z238 z239 z240 z241 z242 z243 z244 z245 z246 z247 z248 z249 z250 z251 z252 z253 : Value}
set_option maxHeartbeats 16000000 in
theorem earr_mb (K : Act → World → Prop) (K2 : Act → World → Prop) (R : Ending → World → Prop) (cs ps : Array Value) (wv : List UInt8) (me : Int) (ml : List Entry) (mv : List Leg) (g gp : Nat) (wc : World)
    (i1 : Has_prc wc gp 0) (i2 : of_prc wc gp 0 = ps) (hdb : ∀ W', Below wc.heap.size wc W' → Has_db W' g 0 ∧ of_db W' g 0 = cs) (km0 : ∀ W', Below wc.heap.size wc W' → Calls Tryz.prog 129 #[.agg ps] W' (RetLgs W' mv)) (kb0 : ∀ W' (D : Below wc.heap.size wc W') (A : Option Addr) (c : Nat) (hI : Items W' A 13 (mv.map Leg.arr)) (hc : mv.length ≤ c), Calls Tryz.prog 124 #[.agg cs, .slice A mv.length c, .int .u8 5, .string ⟨wv.toArray⟩] W' (RetBd W' (ml, me)))
    (hK : ∀ (u12 u17 u140 u141 u142 u143 u144 u145 u146 u147 u148 u149 u150 : Value) (w2 : World) , (∃ A c, u17 = .slice A ml.length c ∧ u12 = .int .i64 me ∧ ml.length ≤ c ∧ Ents w2 A ml ∧ Below wc.heap.size wc w2) → K ⟨List.toArray (.pointer (some ⟨g, 0, none⟩) :: z1 :: z2 :: z3 :: z4 :: z5 :: z6 :: z7 :: z8 :: z9 :: .pointer (some ⟨gp, 0, none⟩) :: z11 :: u12 :: .string ⟨wv.toArray⟩ :: z14 :: z15 :: z16 :: u17 :: z18 :: z19 :: z20 :: z21 :: z22 :: z23 :: z24 :: z25 :: z26 :: z27 :: z28 :: z29 :: z30 :: z31 :: z32 :: z33 :: z34 :: z35 :: z36 :: z37 :: z38 :: z39 :: z40 :: z41 :: z42 :: z43 :: z44 :: z45 :: z46 :: z47 :: z48 :: z49 :: z50 :: z51 :: z52 :: z53 :: z54 :: z55 :: z56 :: z57 :: z58 :: z59 :: z60 :: z61 :: z62 :: z63 :: z64 :: z65 :: z66 :: z67 :: z68 :: z69 :: z70 :: z71 :: z72 :: z73 :: z74 :: z75 :: z76 :: z77 :: z78 :: z79 :: z80 :: z81 :: z82 :: z83 :: z84 :: z85 :: z86 :: z87 :: z88 :: z89 :: z90 :: z91 :: z92 :: z93 :: z94 :: z95 :: z96 :: z97 :: z98 :: z99 :: z100 :: z101 :: z102 :: z103 :: z104 :: z105 :: z106 :: z107 :: z108 :: z109 :: z110 :: z111 :: z112 :: z113 :: z114 :: z115 :: z116 :: z117 :: z118 :: z119 :: z120 :: z121 :: z122 :: z123 :: z124 :: z125 :: z126 :: z127 :: z128 :: z129 :: z130 :: z131 :: z132 :: z133 :: z134 :: z135 :: z136 :: z137 :: z138 :: z139 :: u140 :: u141 :: u142 :: u143 :: u144 :: u145 :: u146 :: u147 :: u148 :: u149 :: u150 :: z151 :: z152 :: z153 :: z154 :: z155 :: z156 :: z157 :: z158 :: z159 :: z160 :: z161 :: z162 :: z163 :: z164 :: z165 :: z166 :: z167 :: z168 :: z169 :: z170 :: z171 :: z172 :: z173 :: z174 :: z175 :: z176 :: z177 :: z178 :: z179 :: z180 :: z181 :: z182 :: z183 :: z184 :: z185 :: z186 :: z187 :: z188 :: z189 :: z190 :: z191 :: z192 :: z193 :: z194 :: z195 :: z196 :: z197 :: z198 :: z199 :: z200 :: z201 :: z202 :: z203 :: z204 :: z205 :: z206 :: z207 :: z208 :: z209 :: z210 :: z211 :: z212 :: z213 :: z214 :: z215 :: z216 :: z217 :: z218 :: z219 :: z220 :: z221 :: z222 :: z223 :: z224 :: z225 :: z226 :: z227 :: z228 :: z229 :: z230 :: z231 :: z232 :: z233 :: z234 :: z235 :: z236 :: z237 :: z238 :: z239 :: z240 :: z241 :: z242 :: z243 :: z244 :: z245 :: z246 :: z247 :: z248 :: z249 :: z250 :: z251 :: z252 :: z253 :: []), []⟩ w2) :
    (headCode (thenCode (tailCode 1 (headCode (tailCode 15 (Tryz.f95.body.getD .skip)))))).wp Tryz.prog (Exit.then K (Exit.then K2 (bodyPost Tryz.prog Tryz.f95 R))) ⟨List.toArray (.pointer (some ⟨g, 0, none⟩) :: z1 :: z2 :: z3 :: z4 :: z5 :: z6 :: z7 :: z8 :: z9 :: .pointer (some ⟨gp, 0, none⟩) :: z11 :: z12 :: .string ⟨wv.toArray⟩ :: z14 :: z15 :: z16 :: z17 :: z18 :: z19 :: z20 :: z21 :: z22 :: z23 :: z24 :: z25 :: z26 :: z27 :: z28 :: z29 :: z30 :: z31 :: z32 :: z33 :: z34 :: z35 :: z36 :: z37 :: z38 :: z39 :: z40 :: z41 :: z42 :: z43 :: z44 :: z45 :: z46 :: z47 :: z48 :: z49 :: z50 :: z51 :: z52 :: z53 :: z54 :: z55 :: z56 :: z57 :: z58 :: z59 :: z60 :: z61 :: z62 :: z63 :: z64 :: z65 :: z66 :: z67 :: z68 :: z69 :: z70 :: z71 :: z72 :: z73 :: z74 :: z75 :: z76 :: z77 :: z78 :: z79 :: z80 :: z81 :: z82 :: z83 :: z84 :: z85 :: z86 :: z87 :: z88 :: z89 :: z90 :: z91 :: z92 :: z93 :: z94 :: z95 :: z96 :: z97 :: z98 :: z99 :: z100 :: z101 :: z102 :: z103 :: z104 :: z105 :: z106 :: z107 :: z108 :: z109 :: z110 :: z111 :: z112 :: z113 :: z114 :: z115 :: z116 :: z117 :: z118 :: z119 :: z120 :: z121 :: z122 :: z123 :: z124 :: z125 :: z126 :: z127 :: z128 :: z129 :: z130 :: z131 :: z132 :: z133 :: z134 :: z135 :: z136 :: z137 :: z138 :: z139 :: z140 :: z141 :: z142 :: z143 :: z144 :: z145 :: z146 :: z147 :: z148 :: z149 :: z150 :: z151 :: z152 :: z153 :: z154 :: z155 :: z156 :: z157 :: z158 :: z159 :: z160 :: z161 :: z162 :: z163 :: z164 :: z165 :: z166 :: z167 :: z168 :: z169 :: z170 :: z171 :: z172 :: z173 :: z174 :: z175 :: z176 :: z177 :: z178 :: z179 :: z180 :: z181 :: z182 :: z183 :: z184 :: z185 :: z186 :: z187 :: z188 :: z189 :: z190 :: z191 :: z192 :: z193 :: z194 :: z195 :: z196 :: z197 :: z198 :: z199 :: z200 :: z201 :: z202 :: z203 :: z204 :: z205 :: z206 :: z207 :: z208 :: z209 :: z210 :: z211 :: z212 :: z213 :: z214 :: z215 :: z216 :: z217 :: z218 :: z219 :: z220 :: z221 :: z222 :: z223 :: z224 :: z225 :: z226 :: z227 :: z228 :: z229 :: z230 :: z231 :: z232 :: z233 :: z234 :: z235 :: z236 :: z237 :: z238 :: z239 :: z240 :: z241 :: z242 :: z243 :: z244 :: z245 :: z246 :: z247 :: z248 :: z249 :: z250 :: z251 :: z252 :: z253 :: []), []⟩ wc := by
  conv => arg 2; whnf
  have HK := Lib.hid hK
  clear hK
  have km := Lib.hid km0
  have kb := Lib.hid kb0
  have HDB := Lib.hid hdb
  have k1 := (hdb wc (Below.refl _ _)).1
  have k2 := (hdb wc (Below.refl _ _)).2
  clear km0 kb0 hdb
  go_region_with (first
    | (go_at_call 129; (with_reducible refine callLgs (km.out _ (Below.refl _ _).drew) ?_); intro A6 c6 w6 hl6 hI6 b6; have D6 := below_step (Below.refl _ _).drew b6; have k5 := (HDB.out _ D6).1; have k6 := (HDB.out _ D6).2)
    | (go_at_call 124; (with_reducible refine callBd (kb.out _ D6 _ _ hI6 hl6) ?_); intro A7 c7 w7 hl7 hE7 b7))
  all_goals
    go_wp2
    refine HK.out _ _ _ _ _ _ _ _ _ _ _ _ _ _ ?_
    exact ⟨A7, c7, rfl, rfl, hl7, hE7, below_step D6 b7⟩
set_option maxHeartbeats 16000000 in
theorem earr_miss (K : Act → World → Prop) (R : Ending → World → Prop) (cs ps : Array Value) (wv : List UInt8) (kind : Int) (mi : List Entry × Int) (mv : List Leg) (g gp : Nat) (wc : World)
    (i1 : Has_prc wc gp 0) (i2 : of_prc wc gp 0 = ps) (hdb : ∀ W', Below wc.heap.size wc W' → Has_db W' g 0 ∧ of_db W' g 0 = cs) (km0 : ∀ W', Below wc.heap.size wc W' → Calls Tryz.prog 129 #[.agg ps] W' (RetLgs W' mv)) (kb0 : kind = 3 → ∀ W' (D : Below wc.heap.size wc W') (A : Option Addr) (c : Nat) (hI : Items W' A 13 (mv.map Leg.arr)) (hc : mv.length ≤ c), Calls Tryz.prog 124 #[.agg cs, .slice A mv.length c, .int .u8 5, .string ⟨wv.toArray⟩] W' (RetBd W' mi)) (hm3 : kind = 3 → mi.2 = 0 → mi.1.length ≤ 100000) (hm0 : kind ≠ 3 → mi = ([], 0))
    (hK : ∀ (u6 u12 u17 u139 u140 u141 u142 u143 u144 u145 u146 u147 u148 u149 u150 u151 u152 u153 : Value) (w2 : World) , (∃ A c, u17 = .slice A mi.1.length c ∧ mi.2 = 0 ∧ mi.1.length ≤ c ∧ Ents w2 A mi.1 ∧ mi.1.length ≤ 100000 ∧ Below wc.heap.size wc w2) → K ⟨List.toArray (.pointer (some ⟨g, 0, none⟩) :: z1 :: z2 :: z3 :: z4 :: z5 :: u6 :: z7 :: z8 :: z9 :: .pointer (some ⟨gp, 0, none⟩) :: z11 :: u12 :: .string ⟨wv.toArray⟩ :: z14 :: z15 :: z16 :: u17 :: z18 :: z19 :: z20 :: z21 :: z22 :: z23 :: z24 :: z25 :: z26 :: z27 :: z28 :: z29 :: z30 :: z31 :: z32 :: z33 :: z34 :: z35 :: z36 :: z37 :: z38 :: z39 :: z40 :: z41 :: z42 :: z43 :: z44 :: z45 :: z46 :: z47 :: z48 :: z49 :: z50 :: z51 :: z52 :: z53 :: z54 :: z55 :: z56 :: z57 :: z58 :: z59 :: z60 :: z61 :: z62 :: z63 :: z64 :: z65 :: z66 :: z67 :: z68 :: z69 :: z70 :: z71 :: z72 :: z73 :: z74 :: z75 :: z76 :: z77 :: z78 :: z79 :: z80 :: z81 :: z82 :: z83 :: z84 :: z85 :: z86 :: z87 :: z88 :: z89 :: z90 :: z91 :: z92 :: z93 :: z94 :: z95 :: z96 :: z97 :: z98 :: z99 :: z100 :: z101 :: z102 :: z103 :: z104 :: z105 :: z106 :: z107 :: z108 :: z109 :: z110 :: z111 :: z112 :: z113 :: z114 :: z115 :: z116 :: z117 :: z118 :: z119 :: z120 :: z121 :: z122 :: z123 :: z124 :: z125 :: z126 :: z127 :: z128 :: z129 :: z130 :: z131 :: z132 :: z133 :: z134 :: z135 :: z136 :: z137 :: z138 :: u139 :: u140 :: u141 :: u142 :: u143 :: u144 :: u145 :: u146 :: u147 :: u148 :: u149 :: u150 :: u151 :: u152 :: u153 :: z154 :: z155 :: z156 :: z157 :: z158 :: z159 :: z160 :: z161 :: z162 :: z163 :: z164 :: z165 :: z166 :: z167 :: z168 :: z169 :: z170 :: z171 :: z172 :: z173 :: z174 :: z175 :: z176 :: z177 :: z178 :: z179 :: z180 :: z181 :: z182 :: z183 :: z184 :: z185 :: z186 :: z187 :: z188 :: z189 :: z190 :: z191 :: z192 :: z193 :: z194 :: z195 :: z196 :: z197 :: z198 :: z199 :: z200 :: z201 :: z202 :: z203 :: z204 :: z205 :: z206 :: z207 :: z208 :: z209 :: z210 :: z211 :: z212 :: z213 :: z214 :: z215 :: z216 :: z217 :: z218 :: z219 :: z220 :: z221 :: z222 :: z223 :: z224 :: z225 :: z226 :: z227 :: z228 :: z229 :: z230 :: z231 :: z232 :: z233 :: z234 :: z235 :: z236 :: z237 :: z238 :: z239 :: z240 :: z241 :: z242 :: z243 :: z244 :: z245 :: z246 :: z247 :: z248 :: z249 :: z250 :: z251 :: z252 :: z253 :: []), []⟩ w2)
    (hQ : ∀ w2, mi.2 ≠ 0 → Below wc.heap.size wc w2 → R (.returned (.int .i64 mi.2)) w2) :
    (tailCode 1 (headCode (tailCode 15 (Tryz.f95.body.getD .skip)))).wp Tryz.prog (Exit.then K (bodyPost Tryz.prog Tryz.f95 R)) ⟨List.toArray (.pointer (some ⟨g, 0, none⟩) :: z1 :: z2 :: z3 :: z4 :: z5 :: z6 :: z7 :: z8 :: z9 :: .pointer (some ⟨gp, 0, none⟩) :: z11 :: .int .i64 0 :: .string ⟨wv.toArray⟩ :: z14 :: z15 :: z16 :: .slice none 0 0 :: z18 :: z19 :: z20 :: z21 :: z22 :: z23 :: z24 :: z25 :: z26 :: z27 :: z28 :: z29 :: z30 :: z31 :: z32 :: z33 :: z34 :: z35 :: z36 :: z37 :: z38 :: z39 :: z40 :: z41 :: z42 :: z43 :: z44 :: z45 :: z46 :: z47 :: z48 :: z49 :: z50 :: z51 :: z52 :: z53 :: z54 :: z55 :: z56 :: z57 :: z58 :: z59 :: z60 :: z61 :: z62 :: z63 :: z64 :: z65 :: z66 :: z67 :: z68 :: z69 :: z70 :: z71 :: z72 :: z73 :: z74 :: z75 :: z76 :: z77 :: z78 :: z79 :: z80 :: z81 :: z82 :: z83 :: z84 :: z85 :: z86 :: z87 :: z88 :: z89 :: z90 :: z91 :: z92 :: z93 :: z94 :: z95 :: z96 :: z97 :: z98 :: z99 :: z100 :: z101 :: z102 :: z103 :: z104 :: z105 :: z106 :: z107 :: z108 :: z109 :: z110 :: z111 :: z112 :: z113 :: z114 :: z115 :: z116 :: z117 :: z118 :: z119 :: z120 :: z121 :: z122 :: z123 :: z124 :: z125 :: z126 :: z127 :: z128 :: z129 :: z130 :: z131 :: z132 :: z133 :: z134 :: z135 :: z136 :: z137 :: z138 :: .bool (kind == 3) :: z140 :: z141 :: z142 :: z143 :: z144 :: z145 :: z146 :: z147 :: z148 :: z149 :: z150 :: z151 :: z152 :: z153 :: z154 :: z155 :: z156 :: z157 :: z158 :: z159 :: z160 :: z161 :: z162 :: z163 :: z164 :: z165 :: z166 :: z167 :: z168 :: z169 :: z170 :: z171 :: z172 :: z173 :: z174 :: z175 :: z176 :: z177 :: z178 :: z179 :: z180 :: z181 :: z182 :: z183 :: z184 :: z185 :: z186 :: z187 :: z188 :: z189 :: z190 :: z191 :: z192 :: z193 :: z194 :: z195 :: z196 :: z197 :: z198 :: z199 :: z200 :: z201 :: z202 :: z203 :: z204 :: z205 :: z206 :: z207 :: z208 :: z209 :: z210 :: z211 :: z212 :: z213 :: z214 :: z215 :: z216 :: z217 :: z218 :: z219 :: z220 :: z221 :: z222 :: z223 :: z224 :: z225 :: z226 :: z227 :: z228 :: z229 :: z230 :: z231 :: z232 :: z233 :: z234 :: z235 :: z236 :: z237 :: z238 :: z239 :: z240 :: z241 :: z242 :: z243 :: z244 :: z245 :: z246 :: z247 :: z248 :: z249 :: z250 :: z251 :: z252 :: z253 :: []), []⟩ wc := by
  conv => arg 2; whnf
  have HK := Lib.hid hK
  clear hK
  have HQ := Lib.hid hQ
  clear hQ
  obtain ⟨ml, me⟩ := mi
  by_cases hk3 : kind = 3
  · have kb := kb0 hk3
    have HME := Lib.hid (hm3 hk3)
    clear kb0 hm3 hm0
    subst hk3
    go_upto_region 24 with (fail)
    refine earr_mb _ _ _ cs ps wv me ml mv g gp wc i1 i2 hdb km0 kb ?_
    intro u12 u17 u140 u141 u142 u143 u144 u145 u146 u147 u148 u149 u150 w2 hrel
    obtain ⟨A7, c7, rfl, rfl, hl7, hE7, BC⟩ := hrel
    clear i1 i2 hdb km0 kb
    have HE7 := Lib.hid hE7
    have HBC := Lib.hid BC
    have HL7 := Lib.hid hl7
    clear hE7 BC hl7
    by_cases hz : me = 0
    case neg =>
      have hz' : (me != 0) = true := by simpa using hz
      have HZ := Lib.hid hz
      clear hz
      go_wp2
      exact HQ.out _ HZ.out HBC.out
    subst hz
    go_wp2
    refine HK.out _ _ _ _ _ _ _ _ _ _ _ _ _ _ _ _ _ _ _ ?_
    exact ⟨A7, c7, rfl, by simp, HL7.out, HE7.out, HME.out (by simp), HBC.out⟩
  · have hmi := hm0 hk3
    have hk3' : (kind == 3) = false := by simpa using hk3
    simp only [Prod.mk.injEq] at hmi
    obtain ⟨rfl, rfl⟩ := hmi
    clear kb0 hm3 hm0 i1 i2 hdb km0
    go_wp2
    refine HK.out _ _ _ _ _ _ _ _ _ _ _ _ _ _ _ _ _ _ _ ?_
    exact ⟨none, 0, rfl, by simp, Nat.le_refl _, Ents.nil _ _, by simp, Below.refl _ _⟩
set_option maxHeartbeats 16000000 in
theorem earr_find (K : Act → World → Prop) (Q : Exit → Act → World → Prop) (p : Plan) (s zi : Int) (A : Option Addr) (c : Nat) (wc : World)
    (hC : p.es.length ≤ c) (hks : (zi = -1 ∧ keepSec s p.es = p.es) ∨ ∃ m : Nat, m < p.es.length ∧ zi = (m : Int) ∧ keepSec s p.es = p.es.take m)
    (hK : ∀ (u18 u159 u160 u161 u162 : Value) , (∃ k : Nat, k ≤ p.es.length ∧ u18 = .slice A k c ∧ keepSec s p.es = p.es.take k) → K ⟨List.toArray (z0 :: z1 :: z2 :: z3 :: z4 :: z5 :: z6 :: .slice A p.es.length c :: z8 :: z9 :: z10 :: z11 :: z12 :: z13 :: z14 :: z15 :: z16 :: z17 :: u18 :: .int .i64 zi :: z20 :: z21 :: z22 :: z23 :: z24 :: z25 :: z26 :: z27 :: z28 :: z29 :: z30 :: z31 :: z32 :: z33 :: z34 :: z35 :: z36 :: z37 :: z38 :: z39 :: z40 :: z41 :: z42 :: z43 :: z44 :: z45 :: z46 :: z47 :: z48 :: z49 :: z50 :: z51 :: z52 :: z53 :: z54 :: z55 :: z56 :: z57 :: z58 :: z59 :: z60 :: z61 :: z62 :: z63 :: z64 :: z65 :: z66 :: z67 :: z68 :: z69 :: z70 :: z71 :: z72 :: z73 :: z74 :: z75 :: z76 :: z77 :: z78 :: z79 :: z80 :: z81 :: z82 :: z83 :: z84 :: z85 :: z86 :: z87 :: z88 :: z89 :: z90 :: z91 :: z92 :: z93 :: z94 :: z95 :: z96 :: z97 :: z98 :: z99 :: z100 :: z101 :: z102 :: z103 :: z104 :: z105 :: z106 :: z107 :: z108 :: z109 :: z110 :: z111 :: z112 :: z113 :: z114 :: z115 :: z116 :: z117 :: z118 :: z119 :: z120 :: z121 :: z122 :: z123 :: z124 :: z125 :: z126 :: z127 :: z128 :: z129 :: z130 :: z131 :: z132 :: z133 :: z134 :: z135 :: z136 :: z137 :: z138 :: z139 :: z140 :: z141 :: z142 :: z143 :: z144 :: z145 :: z146 :: z147 :: z148 :: z149 :: z150 :: z151 :: z152 :: z153 :: z154 :: z155 :: z156 :: z157 :: z158 :: u159 :: u160 :: u161 :: u162 :: z163 :: z164 :: z165 :: z166 :: z167 :: z168 :: z169 :: z170 :: z171 :: z172 :: z173 :: z174 :: z175 :: z176 :: z177 :: z178 :: z179 :: z180 :: z181 :: z182 :: z183 :: z184 :: z185 :: z186 :: z187 :: z188 :: z189 :: z190 :: z191 :: z192 :: z193 :: z194 :: z195 :: z196 :: z197 :: z198 :: z199 :: z200 :: z201 :: z202 :: z203 :: z204 :: z205 :: z206 :: z207 :: z208 :: z209 :: z210 :: z211 :: z212 :: z213 :: z214 :: z215 :: z216 :: z217 :: z218 :: z219 :: z220 :: z221 :: z222 :: z223 :: z224 :: z225 :: z226 :: z227 :: z228 :: z229 :: z230 :: z231 :: z232 :: z233 :: z234 :: z235 :: z236 :: z237 :: z238 :: z239 :: z240 :: z241 :: z242 :: z243 :: z244 :: z245 :: z246 :: z247 :: z248 :: z249 :: z250 :: z251 :: z252 :: z253 :: []), []⟩ wc) :
    (tailCode 2 (headCode (tailCode 17 (Tryz.f95.body.getD .skip)))).wp Tryz.prog (Exit.then K Q) ⟨List.toArray (z0 :: z1 :: z2 :: z3 :: z4 :: z5 :: z6 :: .slice A p.es.length c :: z8 :: z9 :: z10 :: z11 :: z12 :: z13 :: z14 :: z15 :: z16 :: z17 :: .slice A p.es.length c :: .int .i64 zi :: z20 :: z21 :: z22 :: z23 :: z24 :: z25 :: z26 :: z27 :: z28 :: z29 :: z30 :: z31 :: z32 :: z33 :: z34 :: z35 :: z36 :: z37 :: z38 :: z39 :: z40 :: z41 :: z42 :: z43 :: z44 :: z45 :: z46 :: z47 :: z48 :: z49 :: z50 :: z51 :: z52 :: z53 :: z54 :: z55 :: z56 :: z57 :: z58 :: z59 :: z60 :: z61 :: z62 :: z63 :: z64 :: z65 :: z66 :: z67 :: z68 :: z69 :: z70 :: z71 :: z72 :: z73 :: z74 :: z75 :: z76 :: z77 :: z78 :: z79 :: z80 :: z81 :: z82 :: z83 :: z84 :: z85 :: z86 :: z87 :: z88 :: z89 :: z90 :: z91 :: z92 :: z93 :: z94 :: z95 :: z96 :: z97 :: z98 :: z99 :: z100 :: z101 :: z102 :: z103 :: z104 :: z105 :: z106 :: z107 :: z108 :: z109 :: z110 :: z111 :: z112 :: z113 :: z114 :: z115 :: z116 :: z117 :: z118 :: z119 :: z120 :: z121 :: z122 :: z123 :: z124 :: z125 :: z126 :: z127 :: z128 :: z129 :: z130 :: z131 :: z132 :: z133 :: z134 :: z135 :: z136 :: z137 :: z138 :: z139 :: z140 :: z141 :: z142 :: z143 :: z144 :: z145 :: z146 :: z147 :: z148 :: z149 :: z150 :: z151 :: z152 :: z153 :: z154 :: z155 :: z156 :: z157 :: z158 :: .bool (decide (0 ≤ zi)) :: z160 :: z161 :: z162 :: z163 :: z164 :: z165 :: z166 :: z167 :: z168 :: z169 :: z170 :: z171 :: z172 :: z173 :: z174 :: z175 :: z176 :: z177 :: z178 :: z179 :: z180 :: z181 :: z182 :: z183 :: z184 :: z185 :: z186 :: z187 :: z188 :: z189 :: z190 :: z191 :: z192 :: z193 :: z194 :: z195 :: z196 :: z197 :: z198 :: z199 :: z200 :: z201 :: z202 :: z203 :: z204 :: z205 :: z206 :: z207 :: z208 :: z209 :: z210 :: z211 :: z212 :: z213 :: z214 :: z215 :: z216 :: z217 :: z218 :: z219 :: z220 :: z221 :: z222 :: z223 :: z224 :: z225 :: z226 :: z227 :: z228 :: z229 :: z230 :: z231 :: z232 :: z233 :: z234 :: z235 :: z236 :: z237 :: z238 :: z239 :: z240 :: z241 :: z242 :: z243 :: z244 :: z245 :: z246 :: z247 :: z248 :: z249 :: z250 :: z251 :: z252 :: z253 :: []), []⟩ wc := by
  conv => arg 2; whnf
  have HK := Lib.hid hK
  clear hK
  rcases hks with ⟨rfl, hk⟩ | ⟨m, hm, rfl, hk⟩
  · go_wp2
    refine HK.out _ _ _ _ _ ?_
    exact ⟨p.es.length, Nat.le_refl _, rfl, by rw [hk, List.take_length]⟩
  · have hmc : m ≤ c := by omega
    go_wp2
    refine HK.out _ _ _ _ _ ?_
    exact ⟨m, Nat.le_of_lt hm, by rw [subE_zero], hk⟩
end Go.Proofs.YtlggdgpdfepppaaGreatDoor
namespace Go.Proofs.YtlggdgpdfepppaaGreatDoor
open Go.RowKit Go.Sort
set_option linter.unusedVariables false
set_option linter.unusedSimpArgs false
set_option maxRecDepth 100000
attribute [local go_sem ↓] slE_fold
attribute [local go_sem] run_slE_hk run_slE_hk1 run_slE_lk1 Has_db_alloc5 of_db_alloc5 Has_db_drew5 of_db_drew5 Has_ent_drewR of_ent_drewR Has_prc_drewQ of_prc_drewQ prcArr_ones prcArr_sz prcArr_fits prcArr_splice
variable {z0 z1 z2 z3 z4 z5 z6 z7 z8 z9 z10 z11 z12 z13 z14 z15 z16 z17 z18 z19 z20 z21 z22 z23 z24 z25 z26 z27 z28 z29 z30 z31 z32 z33 z34 z35 z36 z37 z38 z39 z40 z41 z42 z43 z44 z45 z46 z47 z48 z49 z50 z51 z52 z53 z54 z55 z56 z57 z58 z59 z60 z61 z62 z63 z64 z65 z66 z67 z68 z69 z70 z71 z72 z73 z74 z75 z76 z77 z78 z79 z80 z81 z82 z83 z84 z85 z86 z87 z88 z89 z90 z91 z92 z93 z94 z95 z96 z97 z98 z99 z100 z101 z102 z103 z104 z105 z106 z107 z108 z109 z110 z111 z112 z113 z114 z115 z116 z117 z118 z119 z120 z121 z122 z123 z124 z125 z126 z127 z128 z129 z130 z131 z132 z133 z134 z135 z136 z137 z138 z139 z140 z141 z142 z143 z144 z145 z146 z147 z148 z149 z150 z151 z152 z153 z154 z155 z156 z157 z158 z159 z160 z161 z162 z163 z164 z165 z166 z167 z168 z169 z170 z171 z172 z173 z174 z175 z176 z177 z178 z179 z180 z181 z182 z183 z184 z185 z186 z187 z188 z189 z190 z191 z192 z193 z194 z195 z196 z197 z198 z199 z200 z201 z202 z203 z204 z205 z206 z207 z208 z209 z210 z211 z212 z213 z214 z215 z216 z217 z218 z219 z220 z221 z222 z223 z224 z225 z226 z227 z228 z229 z230 z231 z232 z233 z234 z235 z236 z237 z238 z239 z240 z241 z242 z243 z244 z245 z246 z247 z248 z249 z250 z251 z252 z253 : Value}
set_option maxHeartbeats 32000000 in
theorem earr3_any (x y : Edr) (d : DBs) (G : GDB) (kind s : Int) (g gs gy : Nat) (w wc : World) (f : List UInt8) (bl ml : List Entry) (y1 : Entry) (A4 A7 : Option Addr) (c4 c7 : Nat) {z1 z2 z3 z4 z6 z10 z11 z12 z13 z15 z18 z19 z20 z21 z22 z23 z24 z25 z26 z27 z28 z29 z30 z31 z32 z33 z34 z35 z36 z37 z38 z39 z40 z41 z42 z43 z44 z45 z46 z47 z48 z49 z50 z51 z52 z53 z54 z55 z56 z57 z58 z59 z60 z61 z62 z63 z64 z65 z66 z67 z68 z69 z70 z71 z72 z73 z74 z75 z76 z77 z78 z79 z80 z81 z82 z83 z84 z85 z86 z87 z88 z89 z90 z91 z92 z93 z94 z95 z96 z97 z98 z99 z100 z101 z102 z103 z104 z105 z106 z107 z108 z109 z110 z111 z112 z113 z114 z115 z116 z117 z118 z119 z120 z121 z122 z123 z124 z125 z126 z127 z128 z129 z130 z131 z132 z133 z134 z135 z136 z137 z138 z139 z140 z141 z142 z143 z144 z145 z146 z147 z148 z149 z150 z151 z152 z153 z154 z155 z156 z157 z158 z159 z160 z161 z162 z163 z164 z165 z166 z167 z168 z169 z170 z171 z172 z173 z174 z175 z176 z177 z178 z179 z180 z181 z182 z183 z184 z185 z186 z187 z188 z189 z190 z191 z192 z193 z194 z195 z196 z197 z198 z199 z200 z201 z202 z203 z204 z205 z206 z207 z208 z209 z210 z211 z212 z213 z214 z215 z216 z217 z218 z219 z220 z221 z222 z223 z224 z225 z226 z227 z228 z229 z230 z231 z232 z233 z234 z235 z236 z237 z238 z239 z240 z241 z242 z243 z244 z245 z246 z247 z248 z249 z250 z251 z252 z253 : Value}
    (P : GPre w x d G) (hy : y = { x with p := { x.p with to_ := f } }) (X10 : Ed w wc g y []) (S10 : Blk wc gs #[.int .u8 s]) (E10 : Ents wc A4 bl) (hE7 : Ents wc A7 ml) (Y10 : Blk wc gy y1.arr) (F10 : FarB wc g y.v gy) (hl4 : bl.length ≤ c4) (hl7 : ml.length ≤ c7) (hbl0 : bl.length ≤ 100000) (hml : ml.length ≤ 100000)
    (HS0 : arriveS (lookG G) x.p x.e kind s = endArr x.p f (keepOld x.p s (placeG G.fixes x.p.to_)) bl [y1] ml) :
    (tailCode 16 (Tryz.f95.body.getD .skip)).wp Tryz.prog (bodyPost Tryz.prog Tryz.f95 (RetRun w g x (arriveS (lookG G) x.p x.e kind s))) ⟨List.toArray (.pointer (some ⟨g, 0, none⟩) :: z1 :: z2 :: z3 :: z4 :: .pointer (some ⟨gs, 0, none⟩) :: z6 :: .slice x.A x.p.es.length x.c :: .int .i64 x.p.active :: .string ⟨x.p.to_.toArray⟩ :: z10 :: z11 :: z12 :: z13 :: .slice A4 bl.length c4 :: z15 :: .pointer (some ⟨gy, 0, none⟩) :: .slice A7 ml.length c7 :: z18 :: z19 :: z20 :: z21 :: z22 :: z23 :: z24 :: z25 :: z26 :: z27 :: z28 :: z29 :: z30 :: z31 :: z32 :: z33 :: z34 :: z35 :: z36 :: z37 :: z38 :: z39 :: z40 :: z41 :: z42 :: z43 :: z44 :: z45 :: z46 :: z47 :: z48 :: z49 :: z50 :: z51 :: z52 :: z53 :: z54 :: z55 :: z56 :: z57 :: z58 :: z59 :: z60 :: z61 :: z62 :: z63 :: z64 :: z65 :: z66 :: z67 :: z68 :: z69 :: z70 :: z71 :: z72 :: z73 :: z74 :: z75 :: z76 :: z77 :: z78 :: z79 :: z80 :: z81 :: z82 :: z83 :: z84 :: z85 :: z86 :: z87 :: z88 :: z89 :: z90 :: z91 :: z92 :: z93 :: z94 :: z95 :: z96 :: z97 :: z98 :: z99 :: z100 :: z101 :: z102 :: z103 :: z104 :: z105 :: z106 :: z107 :: z108 :: z109 :: z110 :: z111 :: z112 :: z113 :: z114 :: z115 :: z116 :: z117 :: z118 :: z119 :: z120 :: z121 :: z122 :: z123 :: z124 :: z125 :: z126 :: z127 :: z128 :: z129 :: z130 :: z131 :: z132 :: z133 :: z134 :: z135 :: z136 :: z137 :: z138 :: z139 :: z140 :: z141 :: z142 :: z143 :: z144 :: z145 :: z146 :: z147 :: z148 :: z149 :: z150 :: z151 :: z152 :: z153 :: z154 :: z155 :: z156 :: z157 :: z158 :: z159 :: z160 :: z161 :: z162 :: z163 :: z164 :: z165 :: z166 :: z167 :: z168 :: z169 :: z170 :: z171 :: z172 :: z173 :: z174 :: z175 :: z176 :: z177 :: z178 :: z179 :: z180 :: z181 :: z182 :: z183 :: z184 :: z185 :: z186 :: z187 :: z188 :: z189 :: z190 :: z191 :: z192 :: z193 :: z194 :: z195 :: z196 :: z197 :: z198 :: z199 :: z200 :: z201 :: z202 :: z203 :: z204 :: z205 :: z206 :: z207 :: z208 :: z209 :: z210 :: z211 :: z212 :: z213 :: z214 :: z215 :: z216 :: z217 :: z218 :: z219 :: z220 :: z221 :: z222 :: z223 :: z224 :: z225 :: z226 :: z227 :: z228 :: z229 :: z230 :: z231 :: z232 :: z233 :: z234 :: z235 :: z236 :: z237 :: z238 :: z239 :: z240 :: z241 :: z242 :: z243 :: z244 :: z245 :: z246 :: z247 :: z248 :: z249 :: z250 :: z251 :: z252 :: z253 :: []), []⟩ wc := by
    conv => arg 2; whnf
    have HPG := Lib.hid P
    clear P
    have HY := Lib.hid hy
    have HYV := Lib.hid (show y.v = .slice none 0 0 by rw [hy]; exact HPG.out.own)
    have HYD := Lib.hid (show y.db = x.db by rw [hy]; rfl)
    clear hy
    have HEn := Lib.hid (fun W' (b : Below w.heap.size w W') => (HPG.out.ents.below (B := 0) b : Ents W' x.A x.p.es))
    have HGp := Lib.hid (fun W' (b : Below w.heap.size w W') => (HPG.out.gap.below b).is)
    have HC := Lib.hid HPG.out.cap
    have HN := Lib.hid HPG.out.len
    obtain ⟨po, hpo⟩ : ∃ q, placeG G.fixes x.p.to_ = q := ⟨_, rfl⟩
    rw [hpo] at HS0
    have HPO := Lib.hid hpo
    clear hpo
    have HS := Lib.hid HS0
    have HBL := Lib.hid hbl0
    clear HS0 hbl0
    have FA := FarE.of E10 X10.blk HYV.out
    have FM := FarE.of hE7 X10.blk HYV.out
    clear E10 hE7
    have ki := Lib.hid (eidxe_any x.p.es s x.A x.c gs x.p.es.length wc (HEn.out _ X10.bel) HC.out (by have := HN.out; omega) rfl (S10.cell 0))
    have hks := keepSec_find0 s x.p.es
    generalize findSec s x.p.es 0 = zi at ki hks
    have HKS := Lib.hid hks
    clear hks
    go_upto_region 29 with (go_at_call 130; (with_reducible refine callR ki.out ?_); intro w6 b6 _ _ _)
    have X11 := X10.step b6
    have Y11 := Y10.step b6
    have F11 := F10.below b6
    have FA1 := FA.step b6
    have FM1 := FM.step b6
    clear X10 S10 Y10 F10 FA FM ki b6
    go_upto_if 159 with (fail)
    refine earr_find _ _ x.p s zi x.A x.c w6 HC.out HKS.out ?_
    intro u18 u159 u160 u161 u162 hrel
    obtain ⟨k, hk, rfl, hkeep⟩ := hrel
    clear HKS
    obtain ⟨pf, pz⟩ := po
    go_upto_if 166 with (fail)
    refine earr_keep _ _ x y d G f s g k w w6 pf pz HPG.out HY.out X11 hk hkeep HPO.out ?_
    intro u18 u21 u22 u23 u166 u167 u168 u169 u170 u171 u172 u173 u174 u175 u176 u177 u178 u179 u180 u181 u182 u183 u184 u185 u186 u187 u188 u189 u190 u191 u192 u193 u194 u195 u196 u197 u198 u199 u200 u201 u202 u203 u204 u205 u206 u207 u208 u209 w7 hrel
    obtain ⟨k2, hk2, rfl, hko, BC⟩ := hrel
    have HSX := HS.out
    rw [hko] at HSX
    have HS := Lib.hid HSX
    have X12 := X11.step BC
    have Y12 := Y11.step BC
    have F12 := F11.below BC
    have FA2 := FA1.step BC
    have FM2 := FM1.step BC
    clear HSX X11 Y11 F11 FA1 FM1 BC hko hkeep hk
    go_upto_region 38 with (fail)
    refine earr_head _ _ A4 c4 bl w7 FA2.ents hl4 ?_
    intro u210 u211 u212 u213 u214 u215 u216 u217 u218 u219 u220 hrel
    obtain rfl := hrel
    go_upto_if 220 with (fail)
    refine earr_join _ _ x y d G f A4 c4 k2 g bl w w7 HPG.out HY.out X12 FA2.ents hl4 hk2 ?_
    intro u24 u220 u221 u222 u223 u224 u225 u226 u227 u228 w8 hrel
    obtain ⟨rfl, BC⟩ := hrel
    have X13 := X12.step BC
    have Y13 := Y12.step BC
    have F13 := F12.below BC
    have FA3 := FA2.step BC
    have FM3 := FM2.step BC
    clear X12 Y12 F12 FA2 FM2 BC
    have hlk : (x.p.es.take k2).length = k2 := by rw [List.length_take]; omega
    have hjr := joinAt_range (x.p.es.take k2) x.p.active bl
    have HSX := HS.out
    unfold endArr at HSX
    generalize joinAt (x.p.es.take k2) x.p.active bl = ji at *
    have HS := Lib.hid HSX
    have HJR := Lib.hid hjr
    have HLK := Lib.hid hlk
    clear HSX hjr hlk
    obtain ⟨fr, hfr⟩ : ∃ fr, fr = (if 0 ≤ ji then (x.p.es.take k2).take (ji.toNat + 1) else x.p.es.take k2 ++ [gapE]) := ⟨_, rfl⟩
    have HFR := Lib.hid hfr
    have HFL := Lib.hid (show fr.length ≤ 61 by
      rw [hfr]
      split
      · rw [List.length_take, HLK.out]; have := HN.out; omega
      · rw [List.length_append, HLK.out, List.length_singleton]; have := HN.out; omega)
    have HSX := HS.out
    rw [← hfr] at HSX
    have HS := Lib.hid HSX
    clear HSX hfr
    go_upto_if 230 with (fail)
    refine earr_put _ _ x y d G f A4 A7 k2 g gy ji bl ml fr y1 w w8 HPG.out HY.out X13 FA3 FM3 Y13 F13 hk2 HJR.out HFR.out ?_
    intro u24 u230 u231 u232 u233 u234 u235 u236 u237 u238 u239 u240 u241 u242 u243 w9 hrel
    obtain ⟨v8, X16, FA6, FM6, Y16, F16⟩ := hrel
    clear X13 FA3 FM3 Y13 F13 HJR HFR HLK
    have hbl : bl.length ≤ 100000 := HBL.out
    have hfl := HFL.out
    have K1 := Lib.hid (put_any (y.wv v8) fr bl A4 c4 bl.length g w w9 X16 FA6.ents rfl (by omega))
    go_upto_region 45 with (go_at_call 118; (with_reducible refine callPutV K1.out ?_); intro v9 W9 X17 kp; dsimp only)
    have FM7 := FM6.put kp
    have Y17 := kp.blk F16 Y16
    have F17 := F16.step kp
    clear K1 X16 FA6 FM6 Y16 F16 kp
    have j1 : Has_ent W9 gy 0 := ⟨_, Y17.is_ent⟩
    have j2 : of_ent W9 gy 0 = y1 := of_ent_eq Y17.is_ent
    have bA := alloc_below5 W9 (.cells y1.arr 82)
    have K2 := Lib.hid (put_any (y.wv v9) (fr ++ bl) [y1] (some ⟨W9.heap.size, 0, none⟩) 1 1 g w _ (X17.alloc (.cells y1.arr 82)) (ents1 (Blk.new _ _ _)) rfl (by rw [List.length_append]; omega))
    have FM8 := FM7.step bA
    clear X17 FM7 Y17 F17 bA
    go_upto_region 46 with (go_at_call 118; (with_reducible refine callPutV K2.out ?_); intro va Wa X18 kp; dsimp only)
    have K3 := Lib.hid (put_any (y.wv va) (fr ++ bl ++ [y1]) ml A7 c7 ml.length g w Wa X18 (FM8.put kp).ents rfl (by rw [List.length_append, List.length_append, List.length_singleton]; omega))
    clear K2 X18 FM8 kp j1 j2
    go_wp2_with (go_at_call 118; (with_reducible refine callPutV K3.out ?_); intro vb Wb X19 _; dsimp only)
    go_ret
    rw [HS.out]
    rw [HY.out] at X19
    exact ⟨rfl, X19.bel, fun _ => ⟨vb, X19⟩⟩
end Go.Proofs.YtlggdgpdfepppaaGreatDoor
namespace Go.Proofs.YtlggdgpdfepppaaGreatDoor
open Go.RowKit Go.Sort
set_option linter.unusedVariables false
set_option linter.unusedSimpArgs false
set_option maxRecDepth 100000
attribute [local go_sem ↓] slE_fold
attribute [local go_sem] run_slE_hk run_slE_hk1 run_slE_lk1 Has_db_alloc5 of_db_alloc5 Has_db_drew5 of_db_drew5 Has_ent_drewR of_ent_drewR Has_prc_drewQ of_prc_drewQ prcArr_ones prcArr_sz prcArr_fits prcArr_splice
set_option maxHeartbeats 32000000 in
theorem earr2_any (x y : Edr) (d : DBs) (G : GDB) (kind s : Int) (g gs gp : Nat) (w wc : World) (f pr wv : List UInt8) (pe : Int) (pv : ProcV) (bl : List Entry) (mi : List Entry × Int) (A4 A5 : Option Addr) (c4 c5 : Nat) {z2 z3 z4 z6 z11 z16 z17 z18 z19 z20 z21 z22 z23 z24 z25 z26 z27 z28 z29 z30 z31 z32 z33 z34 z35 z36 z37 z38 z39 z40 z41 z42 z43 z44 z45 z46 z47 z48 z49 z50 z51 z52 z53 z54 z55 z56 z57 z58 z59 z60 z61 z62 z63 z64 z65 z66 z67 z68 z69 z70 z71 z72 z73 z74 z75 z76 z77 z78 z79 z80 z81 z82 z83 z84 z85 z86 z87 z88 z89 z90 z91 z92 z93 z94 z95 z96 z97 z98 z99 z100 z101 z102 z103 z104 z105 z106 z107 z108 z109 z110 z111 z112 z113 z114 z115 z116 z117 z118 z119 z120 z121 z122 z123 z124 z125 z126 z127 z128 z129 z130 z131 z132 z133 z134 z135 z136 z137 z138 z139 z140 z141 z142 z143 z144 z145 z146 z147 z148 z149 z150 z151 z152 z153 z154 z155 z156 z157 z158 z159 z160 z161 z162 z163 z164 z165 z166 z167 z168 z169 z170 z171 z172 z173 z174 z175 z176 z177 z178 z179 z180 z181 z182 z183 z184 z185 z186 z187 z188 z189 z190 z191 z192 z193 z194 z195 z196 z197 z198 z199 z200 z201 z202 z203 z204 z205 z206 z207 z208 z209 z210 z211 z212 z213 z214 z215 z216 z217 z218 z219 z220 z221 z222 z223 z224 z225 z226 z227 z228 z229 z230 z231 z232 z233 z234 z235 z236 z237 z238 z239 z240 z241 z242 z243 z244 z245 z246 z247 z248 z249 z250 z251 z252 z253 : Value}
    (P : GPre w x d G) (hy : y = { x with p := { x.p with to_ := f } }) (X8 : Ed w wc g y []) (S8 : Blk wc gs #[.int .u8 s]) (P8 : PrcAt wc (prcArr pv A5 c5) pv) (R8 : Blk wc gp (prcArr pv A5 c5)) (E8 : Ents wc A4 bl) (hl4 : bl.length ≤ c4) (hbl0 : bl.length ≤ 100000) (hpl : pr.length ≤ 4000000000) (hwv : wv.length ≤ 4000000000)
    (hM3 : kind = 3 → mi = bindS (lookG G).pt (missedG pv) 5 wv) (hM0 : kind ≠ 3 → mi = ([], 0)) (hlm : (missedG pv).length ≤ 100000 ∧ ∀ l ∈ missedG pv, l.small) (hsp : pv.small)
    (HS0 : arriveS (lookG G) x.p x.e kind s = if pe ≠ 0 then .bad pe else if (oneS (lookG G) 2 pr s []).2 ≠ 0 then .bad (oneS (lookG G) 2 pr s []).2 else if mi.2 ≠ 0 then .bad mi.2 else endArr x.p f (keepOld x.p s (placeG G.fixes x.p.to_)) bl (oneS (lookG G) 2 pr s []).1 mi.1) :
    (tailCode 11 (Tryz.f95.body.getD .skip)).wp Tryz.prog (bodyPost Tryz.prog Tryz.f95 (RetRun w g x (arriveS (lookG G) x.p x.e kind s))) ⟨List.toArray (.pointer (some ⟨g, 0, none⟩) :: .int .u8 kind :: z2 :: z3 :: z4 :: .pointer (some ⟨gs, 0, none⟩) :: z6 :: .slice x.A x.p.es.length x.c :: .int .i64 x.p.active :: .string ⟨x.p.to_.toArray⟩ :: .pointer (some ⟨gp, 0, none⟩) :: z11 :: .int .i64 pe :: .string ⟨wv.toArray⟩ :: .slice A4 bl.length c4 :: .string ⟨pr.toArray⟩ :: z16 :: z17 :: z18 :: z19 :: z20 :: z21 :: z22 :: z23 :: z24 :: z25 :: z26 :: z27 :: z28 :: z29 :: z30 :: z31 :: z32 :: z33 :: z34 :: z35 :: z36 :: z37 :: z38 :: z39 :: z40 :: z41 :: z42 :: z43 :: z44 :: z45 :: z46 :: z47 :: z48 :: z49 :: z50 :: z51 :: z52 :: z53 :: z54 :: z55 :: z56 :: z57 :: z58 :: z59 :: z60 :: z61 :: z62 :: z63 :: z64 :: z65 :: z66 :: z67 :: z68 :: z69 :: z70 :: z71 :: z72 :: z73 :: z74 :: z75 :: z76 :: z77 :: z78 :: z79 :: z80 :: z81 :: z82 :: z83 :: z84 :: z85 :: z86 :: z87 :: z88 :: z89 :: z90 :: z91 :: z92 :: z93 :: z94 :: z95 :: z96 :: z97 :: z98 :: z99 :: z100 :: z101 :: z102 :: z103 :: z104 :: z105 :: z106 :: z107 :: z108 :: z109 :: z110 :: z111 :: z112 :: z113 :: z114 :: z115 :: z116 :: z117 :: z118 :: z119 :: z120 :: z121 :: z122 :: z123 :: z124 :: z125 :: z126 :: z127 :: z128 :: z129 :: z130 :: z131 :: z132 :: z133 :: z134 :: z135 :: z136 :: z137 :: z138 :: z139 :: z140 :: z141 :: z142 :: z143 :: z144 :: z145 :: z146 :: z147 :: z148 :: z149 :: z150 :: z151 :: z152 :: z153 :: z154 :: z155 :: z156 :: z157 :: z158 :: z159 :: z160 :: z161 :: z162 :: z163 :: z164 :: z165 :: z166 :: z167 :: z168 :: z169 :: z170 :: z171 :: z172 :: z173 :: z174 :: z175 :: z176 :: z177 :: z178 :: z179 :: z180 :: z181 :: z182 :: z183 :: z184 :: z185 :: z186 :: z187 :: z188 :: z189 :: z190 :: z191 :: z192 :: z193 :: z194 :: z195 :: z196 :: z197 :: z198 :: z199 :: z200 :: z201 :: z202 :: z203 :: z204 :: z205 :: z206 :: z207 :: z208 :: z209 :: z210 :: z211 :: z212 :: z213 :: z214 :: z215 :: z216 :: z217 :: z218 :: z219 :: z220 :: z221 :: z222 :: z223 :: z224 :: z225 :: z226 :: z227 :: z228 :: z229 :: z230 :: z231 :: z232 :: z233 :: z234 :: z235 :: z236 :: z237 :: z238 :: z239 :: z240 :: z241 :: z242 :: z243 :: z244 :: z245 :: z246 :: z247 :: z248 :: z249 :: z250 :: z251 :: z252 :: z253 :: []), []⟩ wc := by
    conv => arg 2; whnf
    have HPG := Lib.hid P
    clear P
    have HY := Lib.hid hy
    have HYV := Lib.hid (show y.v = .slice none 0 0 by rw [hy]; exact HPG.out.own)
    have HYD := Lib.hid (show y.db = x.db by rw [hy]; rfl)
    clear hy
    have HS := Lib.hid HS0
    have HM3 := Lib.hid hM3
    have HM0 := Lib.hid hM0
    have HLM2 := Lib.hid hlm
    have HSP2 := Lib.hid hsp
    have HBL := Lib.hid hbl0
    clear HS0 hM3 hM0 hlm hsp hbl0
    by_cases hz : pe = 0
    case neg =>
      have hz' : (pe != 0) = true := by simpa using hz
      have HSB := Lib.hid (show arriveS (lookG G) x.p x.e kind s = .bad pe from HS.out.trans (if_pos hz))
      have HZ := Lib.hid hz
      have HX := Lib.hid X8
      clear HS hz E8 P8 R8 S8 X8
      go_wp2
      go_ret
      exact RetRun.bad HSB.out HZ.out HX.out.bel
    subst hz
    have HS := Lib.hid (HS.out.trans (if_neg (not_not_intro rfl)))
    have KO := Lib.hid (show Calls Tryz.prog 120 #[.pointer (some ⟨g, 0, none⟩), .int .u8 2, .string ⟨pr.toArray⟩, .int .u8 s, .string ⟨#[]⟩] wc (Ret wc (.tuple #[.agg (oneE (lookG G) 2 pr s []).arr, .int .i64 (oneS (lookG G) 2 pr s []).2])) from
      HPG.out.one y HYD.out [] g wc X8 2 s pr [] hpl (by simp))
    have HO := Lib.hid (fun h => @oneS_ok (lookG G) 2 s pr [] h)
    have HE1 := Lib.hid (show oneE (lookG G) 2 pr s [] = (oneS (lookG G) 2 pr s []).1.headD zeroE from rfl)
    generalize oneE (lookG G) 2 pr s [] = y1 at KO HE1
    obtain ⟨r1, e1⟩ : ∃ r, oneS (lookG G) 2 pr s [] = r := ⟨_, rfl⟩
    have HSX := HS.out
    rw [e1] at KO HO HE1 HSX
    have HS := Lib.hid HSX
    clear e1 HSX
    obtain ⟨l2, e2⟩ := r1
    have k0 : wc.cell? ⟨gs, 0, none⟩ = some (.int .u8 s) := S8.cell 0
    go_upto_region 20 with (go_at_call 120; (with_reducible refine callR KO.out ?_); intro w5 b5 _ _ _)
    have X9 := (X8.step b5).alloc (.cells y1.arr 82)
    have S9 := (S8.step b5).alloc (.cells y1.arr 82)
    have b9 := below_step b5 (alloc_below5 w5 (.cells y1.arr 82))
    have P9 := P8.below b9
    have R9 := R8.step b9
    have E9 := E8.below (B := 0) b9
    have Y9 := Blk.new w5 y1.arr 82
    have F9 := FarB.new (X8.step b5) (.cells y1.arr 82)
    clear X8 S8 P8 R8 E8 KO b5 b9 k0
    generalize w5.alloc _ = W9 at X9 S9 P9 R9 E9 Y9 F9 ⊢
    generalize w5.heap.size = gy at Y9 F9 ⊢
    by_cases hz : e2 = 0
    case neg =>
      have hz' : (e2 != 0) = true := by simpa using hz
      have HSB := Lib.hid (show arriveS (lookG G) x.p x.e kind s = .bad e2 from HS.out.trans (if_pos hz))
      have HZ := Lib.hid hz
      have HX := Lib.hid X9
      clear HS hz HO HE1 E9 P9 R9 S9 X9 Y9 F9
      go_wp2
      go_ret
      exact RetRun.bad HSB.out HZ.out HX.out.bel
    subst hz
    have HS := Lib.hid (HS.out.trans (if_neg (not_not_intro rfl)))
    obtain ⟨y2, hy⟩ := HO.out rfl
    obtain rfl : l2 = [y2] := hy
    obtain rfl : y1 = y2 := HE1.out
    clear HO HE1
    go_upto_if 139 with (fail)
    refine earr_miss _ _ x.db (prcArr pv A5 c5) wv kind mi (missedG pv) g gp W9 ⟨_, R9.is_prc rfl⟩ (of_prc_eq (R9.is_prc rfl)) (fun W' D => ⟨⟨_, (X9.step D).is_db⟩, (of_db_eq (X9.step D).is_db).trans HYD.out⟩) (fun W' D => missed_any pv (prcArr pv A5 c5) W' (HPG.out.laid.below (below_step X9.bel D)) (P9.below D) HSP2.out)
      (fun h W' D A c hI hc => by rw [HM3.out h]; exact HPG.out.bind W' (below_step X9.bel D) (missedG pv) A c 5 wv hI hc (Nat.le_trans HLM2.out.1 (by decide)) (fun l hl => HLM2.out.2 l hl) hwv) (fun h hz => by rw [HM3.out h] at hz ⊢; rw [bindS_len0 hz]; exact HLM2.out.1) HM0.out ?_ (fun w2 hz hb => RetRun.bad (HS.out.trans (if_pos hz)) hz (X9.step hb).bel)
    intro u6 u12 u17 u139 u140 u141 u142 u143 u144 u145 u146 u147 u148 u149 u150 u151 u152 u153 w2 hrel
    obtain ⟨A7, c7, rfl, hz, hl7, hE7, hml, BC⟩ := hrel
    have HS := Lib.hid (HS.out.trans (if_neg (not_not_intro hz)))
    have X10 := X9.step BC
    have S10 := S9.step BC
    have E10 := E9.below (B := 0) BC
    have Y10 := Y9.step BC
    have F10 := F9.below BC
    go_step
    exact earr3_any x y d G kind s g gs gy w w2 f bl mi.1 y1 A4 A7 c4 c7 HPG.out HY.out X10 S10 E10 hE7 Y10 F10 hl4 hl7 HBL.out hml HS.out
end Go.Proofs.YtlggdgpdfepppaaGreatDoor
namespace Go.Proofs.YtlggdgpdfepppaaGreatDoor
open Go.RowKit Go.Sort
set_option linter.unusedVariables false
set_option linter.unusedSimpArgs false
set_option maxRecDepth 100000
attribute [local go_sem ↓] slE_fold
attribute [local go_sem] run_slE_hk run_slE_hk1 run_slE_lk1 Has_db_alloc5 of_db_alloc5 Has_db_drew5 of_db_drew5 Has_ent_drewR of_ent_drewR Has_prc_drewQ of_prc_drewQ prcArr_ones prcArr_sz prcArr_fits prcArr_splice
variable {z0 z1 z2 z3 z4 z5 z6 z7 z8 z9 z10 z11 z12 z13 z14 z15 z16 z17 z18 z19 z20 z21 z22 z23 z24 z25 z26 z27 z28 z29 z30 z31 z32 z33 z34 z35 z36 z37 z38 z39 z40 z41 z42 z43 z44 z45 z46 z47 z48 z49 z50 z51 z52 z53 z54 z55 z56 z57 z58 z59 z60 z61 z62 z63 z64 z65 z66 z67 z68 z69 z70 z71 z72 z73 z74 z75 z76 z77 z78 z79 z80 z81 z82 z83 z84 z85 z86 z87 z88 z89 z90 z91 z92 z93 z94 z95 z96 z97 z98 z99 z100 z101 z102 z103 z104 z105 z106 z107 z108 z109 z110 z111 z112 z113 z114 z115 z116 z117 z118 z119 z120 z121 z122 z123 z124 z125 z126 z127 z128 z129 z130 z131 z132 z133 z134 z135 z136 z137 z138 z139 z140 z141 z142 z143 z144 z145 z146 z147 z148 z149 z150 z151 z152 z153 z154 z155 z156 z157 z158 z159 z160 z161 z162 z163 z164 z165 z166 z167 z168 z169 z170 z171 z172 z173 z174 z175 z176 z177 z178 z179 z180 z181 z182 z183 z184 z185 z186 z187 z188 z189 z190 z191 z192 z193 z194 z195 z196 z197 z198 z199 z200 z201 z202 z203 z204 z205 z206 z207 z208 z209 z210 z211 z212 z213 z214 z215 z216 z217 z218 z219 z220 z221 z222 z223 z224 z225 z226 z227 z228 z229 z230 z231 z232 z233 z234 z235 z236 z237 z238 z239 z240 z241 z242 z243 z244 z245 z246 z247 z248 z249 z250 z251 z252 z253 : Value}
set_option maxHeartbeats 16000000 in
theorem earr_rway (K : Act → World → Prop) (Q : Exit → Act → World → Prop) (x : Edr) (f : List UInt8) (kind s : Int) (g gs : Nat) (w wc : World)
    (X3 : Ed w wc g x []) (S3 : Blk wc gs #[.int .u8 s]) (hgs : g ≠ gs) (kr2 : kind = 2 → ∀ W' (X : Ed w W' g x []), Calls Tryz.prog 125 #[.pointer (some ⟨g, 0, none⟩), .string ⟨x.p.to_.toArray⟩] W' (Ret W' (.string ⟨f.toArray⟩))) (kf : kind ≠ 2 → x.p.to_ = f)
    (hK : ∀ (u60 u61 u62 u63 u64 u65 u66 u67 u68 u69 u70 u71 : Value) (w2 : World) , (Ed w w2 g { x with p := { x.p with to_ := f } } [] ∧ Blk w2 gs #[.int .u8 s]) → K ⟨List.toArray (.pointer (some ⟨g, 0, none⟩) :: z1 :: z2 :: z3 :: z4 :: z5 :: z6 :: z7 :: z8 :: z9 :: z10 :: z11 :: z12 :: z13 :: z14 :: z15 :: z16 :: z17 :: z18 :: z19 :: z20 :: z21 :: z22 :: z23 :: z24 :: z25 :: z26 :: z27 :: z28 :: z29 :: z30 :: z31 :: z32 :: z33 :: z34 :: z35 :: z36 :: z37 :: z38 :: z39 :: z40 :: z41 :: z42 :: z43 :: z44 :: z45 :: z46 :: z47 :: z48 :: z49 :: z50 :: z51 :: z52 :: z53 :: z54 :: z55 :: z56 :: z57 :: z58 :: z59 :: u60 :: u61 :: u62 :: u63 :: u64 :: u65 :: u66 :: u67 :: u68 :: u69 :: u70 :: u71 :: z72 :: z73 :: z74 :: z75 :: z76 :: z77 :: z78 :: z79 :: z80 :: z81 :: z82 :: z83 :: z84 :: z85 :: z86 :: z87 :: z88 :: z89 :: z90 :: z91 :: z92 :: z93 :: z94 :: z95 :: z96 :: z97 :: z98 :: z99 :: z100 :: z101 :: z102 :: z103 :: z104 :: z105 :: z106 :: z107 :: z108 :: z109 :: z110 :: z111 :: z112 :: z113 :: z114 :: z115 :: z116 :: z117 :: z118 :: z119 :: z120 :: z121 :: z122 :: z123 :: z124 :: z125 :: z126 :: z127 :: z128 :: z129 :: z130 :: z131 :: z132 :: z133 :: z134 :: z135 :: z136 :: z137 :: z138 :: z139 :: z140 :: z141 :: z142 :: z143 :: z144 :: z145 :: z146 :: z147 :: z148 :: z149 :: z150 :: z151 :: z152 :: z153 :: z154 :: z155 :: z156 :: z157 :: z158 :: z159 :: z160 :: z161 :: z162 :: z163 :: z164 :: z165 :: z166 :: z167 :: z168 :: z169 :: z170 :: z171 :: z172 :: z173 :: z174 :: z175 :: z176 :: z177 :: z178 :: z179 :: z180 :: z181 :: z182 :: z183 :: z184 :: z185 :: z186 :: z187 :: z188 :: z189 :: z190 :: z191 :: z192 :: z193 :: z194 :: z195 :: z196 :: z197 :: z198 :: z199 :: z200 :: z201 :: z202 :: z203 :: z204 :: z205 :: z206 :: z207 :: z208 :: z209 :: z210 :: z211 :: z212 :: z213 :: z214 :: z215 :: z216 :: z217 :: z218 :: z219 :: z220 :: z221 :: z222 :: z223 :: z224 :: z225 :: z226 :: z227 :: z228 :: z229 :: z230 :: z231 :: z232 :: z233 :: z234 :: z235 :: z236 :: z237 :: z238 :: z239 :: z240 :: z241 :: z242 :: z243 :: z244 :: z245 :: z246 :: z247 :: z248 :: z249 :: z250 :: z251 :: z252 :: z253 :: []), []⟩ w2) :
    (tailCode 1 (headCode (tailCode 4 (Tryz.f95.body.getD .skip)))).wp Tryz.prog (Exit.then K Q) ⟨List.toArray (.pointer (some ⟨g, 0, none⟩) :: z1 :: z2 :: z3 :: z4 :: z5 :: z6 :: z7 :: z8 :: z9 :: z10 :: z11 :: z12 :: z13 :: z14 :: z15 :: z16 :: z17 :: z18 :: z19 :: z20 :: z21 :: z22 :: z23 :: z24 :: z25 :: z26 :: z27 :: z28 :: z29 :: z30 :: z31 :: z32 :: z33 :: z34 :: z35 :: z36 :: z37 :: z38 :: z39 :: z40 :: z41 :: z42 :: z43 :: z44 :: z45 :: z46 :: z47 :: z48 :: z49 :: z50 :: z51 :: z52 :: z53 :: z54 :: z55 :: z56 :: z57 :: z58 :: z59 :: .bool (kind == 2) :: z61 :: z62 :: z63 :: z64 :: z65 :: z66 :: z67 :: z68 :: z69 :: z70 :: z71 :: z72 :: z73 :: z74 :: z75 :: z76 :: z77 :: z78 :: z79 :: z80 :: z81 :: z82 :: z83 :: z84 :: z85 :: z86 :: z87 :: z88 :: z89 :: z90 :: z91 :: z92 :: z93 :: z94 :: z95 :: z96 :: z97 :: z98 :: z99 :: z100 :: z101 :: z102 :: z103 :: z104 :: z105 :: z106 :: z107 :: z108 :: z109 :: z110 :: z111 :: z112 :: z113 :: z114 :: z115 :: z116 :: z117 :: z118 :: z119 :: z120 :: z121 :: z122 :: z123 :: z124 :: z125 :: z126 :: z127 :: z128 :: z129 :: z130 :: z131 :: z132 :: z133 :: z134 :: z135 :: z136 :: z137 :: z138 :: z139 :: z140 :: z141 :: z142 :: z143 :: z144 :: z145 :: z146 :: z147 :: z148 :: z149 :: z150 :: z151 :: z152 :: z153 :: z154 :: z155 :: z156 :: z157 :: z158 :: z159 :: z160 :: z161 :: z162 :: z163 :: z164 :: z165 :: z166 :: z167 :: z168 :: z169 :: z170 :: z171 :: z172 :: z173 :: z174 :: z175 :: z176 :: z177 :: z178 :: z179 :: z180 :: z181 :: z182 :: z183 :: z184 :: z185 :: z186 :: z187 :: z188 :: z189 :: z190 :: z191 :: z192 :: z193 :: z194 :: z195 :: z196 :: z197 :: z198 :: z199 :: z200 :: z201 :: z202 :: z203 :: z204 :: z205 :: z206 :: z207 :: z208 :: z209 :: z210 :: z211 :: z212 :: z213 :: z214 :: z215 :: z216 :: z217 :: z218 :: z219 :: z220 :: z221 :: z222 :: z223 :: z224 :: z225 :: z226 :: z227 :: z228 :: z229 :: z230 :: z231 :: z232 :: z233 :: z234 :: z235 :: z236 :: z237 :: z238 :: z239 :: z240 :: z241 :: z242 :: z243 :: z244 :: z245 :: z246 :: z247 :: z248 :: z249 :: z250 :: z251 :: z252 :: z253 :: []), []⟩ wc := by
  conv => arg 2; whnf
  have HK := Lib.hid hK
  clear hK
  by_cases hk2 : kind = 2
  · have kr := Lib.hid (kr2 hk2)
    subst hk2
    have HX := Lib.hid X3
    have HSs := Lib.hid S3
    have c10 := X3.c10
    clear X3 S3 kr2 kf
    go_wp2_with (go_at_call 125; (with_reducible refine callR (kr.out _ HX.out) ?_); intro w1 b1 _ _ _; have X1 := HX.out.step b1; have f9 := X1.blk.frozen 10; have k9 := X1.c10; have X2 := Lib.hid (X1.setTo f); have Q2 := Lib.hid ((HSs.out.step b1).setFar (Ne.symm hgs) 10 (.string ⟨f.toArray⟩)); clear X1; dsimp only)
    refine HK.out _ _ _ _ _ _ _ _ _ _ _ _ _ ?_
    exact ⟨X2.out, Q2.out⟩
  · have hf := kf hk2
    have hk2' : (kind == 2) = false := by simpa using hk2
    have HX := Lib.hid X3
    have HSs := Lib.hid S3
    clear X3 S3 kr2 kf
    go_wp2
    refine HK.out _ _ _ _ _ _ _ _ _ _ _ _ _ ?_
    subst hf
    exact ⟨HX.out, HSs.out⟩
set_option maxHeartbeats 16000000 in
theorem earr_with (K : Act → World → Prop) (Q : Exit → Act → World → Prop) (y : Edr) (wv : List UInt8) (g : Nat) (w wc : World)
    (X5 : Ed w wc g y []) (kw : ∀ W', Calls Tryz.prog 128 #[.string ⟨y.e.name.toArray⟩, .string ⟨#[46]⟩, .string ⟨y.e.trans.toArray⟩] W' (Ret W' (.string ⟨wv.toArray⟩)))
    (hK : ∀ (u13 u87 u88 u89 u90 u91 u92 u93 u94 u95 u96 u97 : Value) (w2 : World) , (u13 = .string ⟨wv.toArray⟩ ∧ Below wc.heap.size wc w2) → K ⟨List.toArray (.pointer (some ⟨g, 0, none⟩) :: z1 :: z2 :: z3 :: z4 :: z5 :: z6 :: z7 :: z8 :: z9 :: z10 :: z11 :: z12 :: u13 :: z14 :: z15 :: z16 :: z17 :: z18 :: z19 :: z20 :: z21 :: z22 :: z23 :: z24 :: z25 :: z26 :: z27 :: z28 :: z29 :: z30 :: z31 :: z32 :: z33 :: z34 :: z35 :: z36 :: z37 :: z38 :: z39 :: z40 :: z41 :: z42 :: z43 :: z44 :: z45 :: z46 :: z47 :: z48 :: z49 :: z50 :: z51 :: z52 :: z53 :: z54 :: z55 :: z56 :: z57 :: z58 :: z59 :: z60 :: z61 :: z62 :: z63 :: z64 :: z65 :: z66 :: z67 :: z68 :: z69 :: z70 :: z71 :: z72 :: z73 :: z74 :: z75 :: z76 :: z77 :: z78 :: z79 :: z80 :: z81 :: z82 :: z83 :: z84 :: z85 :: z86 :: u87 :: u88 :: u89 :: u90 :: u91 :: u92 :: u93 :: u94 :: u95 :: u96 :: u97 :: z98 :: z99 :: z100 :: z101 :: z102 :: z103 :: z104 :: z105 :: z106 :: z107 :: z108 :: z109 :: z110 :: z111 :: z112 :: z113 :: z114 :: z115 :: z116 :: z117 :: z118 :: z119 :: z120 :: z121 :: z122 :: z123 :: z124 :: z125 :: z126 :: z127 :: z128 :: z129 :: z130 :: z131 :: z132 :: z133 :: z134 :: z135 :: z136 :: z137 :: z138 :: z139 :: z140 :: z141 :: z142 :: z143 :: z144 :: z145 :: z146 :: z147 :: z148 :: z149 :: z150 :: z151 :: z152 :: z153 :: z154 :: z155 :: z156 :: z157 :: z158 :: z159 :: z160 :: z161 :: z162 :: z163 :: z164 :: z165 :: z166 :: z167 :: z168 :: z169 :: z170 :: z171 :: z172 :: z173 :: z174 :: z175 :: z176 :: z177 :: z178 :: z179 :: z180 :: z181 :: z182 :: z183 :: z184 :: z185 :: z186 :: z187 :: z188 :: z189 :: z190 :: z191 :: z192 :: z193 :: z194 :: z195 :: z196 :: z197 :: z198 :: z199 :: z200 :: z201 :: z202 :: z203 :: z204 :: z205 :: z206 :: z207 :: z208 :: z209 :: z210 :: z211 :: z212 :: z213 :: z214 :: z215 :: z216 :: z217 :: z218 :: z219 :: z220 :: z221 :: z222 :: z223 :: z224 :: z225 :: z226 :: z227 :: z228 :: z229 :: z230 :: z231 :: z232 :: z233 :: z234 :: z235 :: z236 :: z237 :: z238 :: z239 :: z240 :: z241 :: z242 :: z243 :: z244 :: z245 :: z246 :: z247 :: z248 :: z249 :: z250 :: z251 :: z252 :: z253 :: []), []⟩ w2) :
    (headCode (tailCode 7 (Tryz.f95.body.getD .skip))).wp Tryz.prog (Exit.then K Q) ⟨List.toArray (.pointer (some ⟨g, 0, none⟩) :: z1 :: z2 :: z3 :: z4 :: z5 :: z6 :: z7 :: z8 :: z9 :: z10 :: z11 :: z12 :: z13 :: z14 :: z15 :: z16 :: z17 :: z18 :: z19 :: z20 :: z21 :: z22 :: z23 :: z24 :: z25 :: z26 :: z27 :: z28 :: z29 :: z30 :: z31 :: z32 :: z33 :: z34 :: z35 :: z36 :: z37 :: z38 :: z39 :: z40 :: z41 :: z42 :: z43 :: z44 :: z45 :: z46 :: z47 :: z48 :: z49 :: z50 :: z51 :: z52 :: z53 :: z54 :: z55 :: z56 :: z57 :: z58 :: z59 :: z60 :: z61 :: z62 :: z63 :: z64 :: z65 :: z66 :: z67 :: z68 :: z69 :: z70 :: z71 :: z72 :: z73 :: z74 :: z75 :: z76 :: z77 :: z78 :: z79 :: z80 :: z81 :: z82 :: z83 :: z84 :: z85 :: z86 :: z87 :: z88 :: z89 :: z90 :: z91 :: z92 :: z93 :: z94 :: z95 :: z96 :: z97 :: z98 :: z99 :: z100 :: z101 :: z102 :: z103 :: z104 :: z105 :: z106 :: z107 :: z108 :: z109 :: z110 :: z111 :: z112 :: z113 :: z114 :: z115 :: z116 :: z117 :: z118 :: z119 :: z120 :: z121 :: z122 :: z123 :: z124 :: z125 :: z126 :: z127 :: z128 :: z129 :: z130 :: z131 :: z132 :: z133 :: z134 :: z135 :: z136 :: z137 :: z138 :: z139 :: z140 :: z141 :: z142 :: z143 :: z144 :: z145 :: z146 :: z147 :: z148 :: z149 :: z150 :: z151 :: z152 :: z153 :: z154 :: z155 :: z156 :: z157 :: z158 :: z159 :: z160 :: z161 :: z162 :: z163 :: z164 :: z165 :: z166 :: z167 :: z168 :: z169 :: z170 :: z171 :: z172 :: z173 :: z174 :: z175 :: z176 :: z177 :: z178 :: z179 :: z180 :: z181 :: z182 :: z183 :: z184 :: z185 :: z186 :: z187 :: z188 :: z189 :: z190 :: z191 :: z192 :: z193 :: z194 :: z195 :: z196 :: z197 :: z198 :: z199 :: z200 :: z201 :: z202 :: z203 :: z204 :: z205 :: z206 :: z207 :: z208 :: z209 :: z210 :: z211 :: z212 :: z213 :: z214 :: z215 :: z216 :: z217 :: z218 :: z219 :: z220 :: z221 :: z222 :: z223 :: z224 :: z225 :: z226 :: z227 :: z228 :: z229 :: z230 :: z231 :: z232 :: z233 :: z234 :: z235 :: z236 :: z237 :: z238 :: z239 :: z240 :: z241 :: z242 :: z243 :: z244 :: z245 :: z246 :: z247 :: z248 :: z249 :: z250 :: z251 :: z252 :: z253 :: []), []⟩ wc := by
  conv => arg 2; whnf
  have HK := Lib.hid hK
  clear hK
  have f1 : ∀ d os, (grow (redrawn wc d) os).cell? ⟨g, 16, none⟩ = some (.string ⟨y.e.name.toArray⟩) := fun d os => (X5.step (below_regrown wc d os)).c16
  have f2 : ∀ d os, (grow (redrawn wc d) os).cell? ⟨g, 18, none⟩ = some (.string ⟨y.e.trans.toArray⟩) := fun d os => (X5.step (below_regrown wc d os)).c18
  have k1 : ∀ d os, Calls Tryz.prog 128 #[.string ⟨y.e.name.toArray⟩, .string ⟨#[46]⟩, .string ⟨y.e.trans.toArray⟩] (grow (redrawn wc d) os) fun e w'' => e = .returned (.string ⟨wv.toArray⟩) ∧ ∃ q : Regrown, w'' = grow (redrawn wc q.d) q.os := fun d os => Calls.regrown_ret (kw _)
  generalize y.e.name = nm at *
  generalize y.e.trans = tr at *
  clear X5 kw
  refine wp_region_quiet_below (by kernel_rfl) (by kernel_rfl) ?_
  repeat (go_big_quiet_step (with_reducible first | exact k1 _ _))
  refine wpQuiet_nil ?_
  intro _ hw'
  obtain ⟨⟨dq, osq⟩, hw''⟩ := hw'
  subst hw''
  go_wp2
  refine HK.out _ _ _ _ _ _ _ _ _ _ _ _ _ ?_
  exact ⟨rfl, below_regrown wc dq osq⟩
set_option maxHeartbeats 16000000 in
theorem earr_bind (K : Act → World → Prop) (R : Ending → World → Prop) (cs : Array Value) (wv : List UInt8) (s be : Int) (bl : List Entry) (A3 : Option Addr) (n3 c3 g gs : Nat) (wc : World)
    (k1 : Has_db wc g 0) (k2 : of_db wc g 0 = cs) (k0 : wc.cell? ⟨gs, 0, none⟩ = some (.int .u8 s)) (kb0 : ∀ W', Below wc.heap.size wc W' → Calls Tryz.prog 124 #[.agg cs, .slice A3 n3 c3, .int .u8 s, .string ⟨wv.toArray⟩] W' (RetBd W' (bl, be)))
    (hK : ∀ (u12 u14 u98 u99 u100 u101 u102 u103 u104 u105 u106 u107 u108 : Value) (w2 : World) , (∃ A c, u14 = .slice A bl.length c ∧ u12 = .int .i64 be ∧ bl.length ≤ c ∧ Ents w2 A bl ∧ Below wc.heap.size wc w2) → K ⟨List.toArray (.pointer (some ⟨g, 0, none⟩) :: z1 :: z2 :: z3 :: z4 :: .pointer (some ⟨gs, 0, none⟩) :: z6 :: z7 :: z8 :: z9 :: z10 :: .slice A3 n3 c3 :: u12 :: .string ⟨wv.toArray⟩ :: u14 :: z15 :: z16 :: z17 :: z18 :: z19 :: z20 :: z21 :: z22 :: z23 :: z24 :: z25 :: z26 :: z27 :: z28 :: z29 :: z30 :: z31 :: z32 :: z33 :: z34 :: z35 :: z36 :: z37 :: z38 :: z39 :: z40 :: z41 :: z42 :: z43 :: z44 :: z45 :: z46 :: z47 :: z48 :: z49 :: z50 :: z51 :: z52 :: z53 :: z54 :: z55 :: z56 :: z57 :: z58 :: z59 :: z60 :: z61 :: z62 :: z63 :: z64 :: z65 :: z66 :: z67 :: z68 :: z69 :: z70 :: z71 :: z72 :: z73 :: z74 :: z75 :: z76 :: z77 :: z78 :: z79 :: z80 :: z81 :: z82 :: z83 :: z84 :: z85 :: z86 :: z87 :: z88 :: z89 :: z90 :: z91 :: z92 :: z93 :: z94 :: z95 :: z96 :: z97 :: u98 :: u99 :: u100 :: u101 :: u102 :: u103 :: u104 :: u105 :: u106 :: u107 :: u108 :: z109 :: z110 :: z111 :: z112 :: z113 :: z114 :: z115 :: z116 :: z117 :: z118 :: z119 :: z120 :: z121 :: z122 :: z123 :: z124 :: z125 :: z126 :: z127 :: z128 :: z129 :: z130 :: z131 :: z132 :: z133 :: z134 :: z135 :: z136 :: z137 :: z138 :: z139 :: z140 :: z141 :: z142 :: z143 :: z144 :: z145 :: z146 :: z147 :: z148 :: z149 :: z150 :: z151 :: z152 :: z153 :: z154 :: z155 :: z156 :: z157 :: z158 :: z159 :: z160 :: z161 :: z162 :: z163 :: z164 :: z165 :: z166 :: z167 :: z168 :: z169 :: z170 :: z171 :: z172 :: z173 :: z174 :: z175 :: z176 :: z177 :: z178 :: z179 :: z180 :: z181 :: z182 :: z183 :: z184 :: z185 :: z186 :: z187 :: z188 :: z189 :: z190 :: z191 :: z192 :: z193 :: z194 :: z195 :: z196 :: z197 :: z198 :: z199 :: z200 :: z201 :: z202 :: z203 :: z204 :: z205 :: z206 :: z207 :: z208 :: z209 :: z210 :: z211 :: z212 :: z213 :: z214 :: z215 :: z216 :: z217 :: z218 :: z219 :: z220 :: z221 :: z222 :: z223 :: z224 :: z225 :: z226 :: z227 :: z228 :: z229 :: z230 :: z231 :: z232 :: z233 :: z234 :: z235 :: z236 :: z237 :: z238 :: z239 :: z240 :: z241 :: z242 :: z243 :: z244 :: z245 :: z246 :: z247 :: z248 :: z249 :: z250 :: z251 :: z252 :: z253 :: []), []⟩ w2) :
    (headCode (tailCode 8 (Tryz.f95.body.getD .skip))).wp Tryz.prog (Exit.then K (bodyPost Tryz.prog Tryz.f95 R)) ⟨List.toArray (.pointer (some ⟨g, 0, none⟩) :: z1 :: z2 :: z3 :: z4 :: .pointer (some ⟨gs, 0, none⟩) :: z6 :: z7 :: z8 :: z9 :: z10 :: .slice A3 n3 c3 :: z12 :: .string ⟨wv.toArray⟩ :: z14 :: z15 :: z16 :: z17 :: z18 :: z19 :: z20 :: z21 :: z22 :: z23 :: z24 :: z25 :: z26 :: z27 :: z28 :: z29 :: z30 :: z31 :: z32 :: z33 :: z34 :: z35 :: z36 :: z37 :: z38 :: z39 :: z40 :: z41 :: z42 :: z43 :: z44 :: z45 :: z46 :: z47 :: z48 :: z49 :: z50 :: z51 :: z52 :: z53 :: z54 :: z55 :: z56 :: z57 :: z58 :: z59 :: z60 :: z61 :: z62 :: z63 :: z64 :: z65 :: z66 :: z67 :: z68 :: z69 :: z70 :: z71 :: z72 :: z73 :: z74 :: z75 :: z76 :: z77 :: z78 :: z79 :: z80 :: z81 :: z82 :: z83 :: z84 :: z85 :: z86 :: z87 :: z88 :: z89 :: z90 :: z91 :: z92 :: z93 :: z94 :: z95 :: z96 :: z97 :: z98 :: z99 :: z100 :: z101 :: z102 :: z103 :: z104 :: z105 :: z106 :: z107 :: z108 :: z109 :: z110 :: z111 :: z112 :: z113 :: z114 :: z115 :: z116 :: z117 :: z118 :: z119 :: z120 :: z121 :: z122 :: z123 :: z124 :: z125 :: z126 :: z127 :: z128 :: z129 :: z130 :: z131 :: z132 :: z133 :: z134 :: z135 :: z136 :: z137 :: z138 :: z139 :: z140 :: z141 :: z142 :: z143 :: z144 :: z145 :: z146 :: z147 :: z148 :: z149 :: z150 :: z151 :: z152 :: z153 :: z154 :: z155 :: z156 :: z157 :: z158 :: z159 :: z160 :: z161 :: z162 :: z163 :: z164 :: z165 :: z166 :: z167 :: z168 :: z169 :: z170 :: z171 :: z172 :: z173 :: z174 :: z175 :: z176 :: z177 :: z178 :: z179 :: z180 :: z181 :: z182 :: z183 :: z184 :: z185 :: z186 :: z187 :: z188 :: z189 :: z190 :: z191 :: z192 :: z193 :: z194 :: z195 :: z196 :: z197 :: z198 :: z199 :: z200 :: z201 :: z202 :: z203 :: z204 :: z205 :: z206 :: z207 :: z208 :: z209 :: z210 :: z211 :: z212 :: z213 :: z214 :: z215 :: z216 :: z217 :: z218 :: z219 :: z220 :: z221 :: z222 :: z223 :: z224 :: z225 :: z226 :: z227 :: z228 :: z229 :: z230 :: z231 :: z232 :: z233 :: z234 :: z235 :: z236 :: z237 :: z238 :: z239 :: z240 :: z241 :: z242 :: z243 :: z244 :: z245 :: z246 :: z247 :: z248 :: z249 :: z250 :: z251 :: z252 :: z253 :: []), []⟩ wc := by
  conv => arg 2; whnf
  have HK := Lib.hid hK
  clear hK
  have kb := Lib.hid kb0
  clear kb0
  go_region_with (go_at_call 124; (with_reducible refine callBd (kb.out _ (Below.refl _ _).drew) ?_); intro A4 c4 w4 hl4 hE4 b4)
  all_goals
    go_wp2
    refine HK.out _ _ _ _ _ _ _ _ _ _ _ _ _ _ ?_
    exact ⟨A4, c4, rfl, rfl, hl4, hE4, below_step (Below.refl _ _).drew b4⟩
set_option maxHeartbeats 16000000 in
theorem earr_place (K : Act → World → Prop) (Q : Exit → Act → World → Prop) (y : Edr) (pr : List UInt8) (pe : Int) (g : Nat) (w wc : World)
    (X7 : Ed w wc g y []) (kp : ∀ W', Below w.heap.size w W' → Calls Tryz.prog 127 #[.agg y.db, .string ⟨y.p.to_.toArray⟩] W' (Ret W' (.tuple #[.string ⟨pr.toArray⟩, .int .i64 pe])))
    (hK : ∀ (u12 u15 u112 u113 u114 u115 u116 u117 u118 u119 u120 u121 u122 u123 u124 : Value) (w2 : World) , (u15 = .string ⟨pr.toArray⟩ ∧ u12 = .int .i64 pe ∧ Below wc.heap.size wc w2) → K ⟨List.toArray (.pointer (some ⟨g, 0, none⟩) :: z1 :: z2 :: z3 :: z4 :: z5 :: z6 :: z7 :: z8 :: z9 :: z10 :: z11 :: u12 :: z13 :: z14 :: u15 :: z16 :: z17 :: z18 :: z19 :: z20 :: z21 :: z22 :: z23 :: z24 :: z25 :: z26 :: z27 :: z28 :: z29 :: z30 :: z31 :: z32 :: z33 :: z34 :: z35 :: z36 :: z37 :: z38 :: z39 :: z40 :: z41 :: z42 :: z43 :: z44 :: z45 :: z46 :: z47 :: z48 :: z49 :: z50 :: z51 :: z52 :: z53 :: z54 :: z55 :: z56 :: z57 :: z58 :: z59 :: z60 :: z61 :: z62 :: z63 :: z64 :: z65 :: z66 :: z67 :: z68 :: z69 :: z70 :: z71 :: z72 :: z73 :: z74 :: z75 :: z76 :: z77 :: z78 :: z79 :: z80 :: z81 :: z82 :: z83 :: z84 :: z85 :: z86 :: z87 :: z88 :: z89 :: z90 :: z91 :: z92 :: z93 :: z94 :: z95 :: z96 :: z97 :: z98 :: z99 :: z100 :: z101 :: z102 :: z103 :: z104 :: z105 :: z106 :: z107 :: z108 :: z109 :: z110 :: z111 :: u112 :: u113 :: u114 :: u115 :: u116 :: u117 :: u118 :: u119 :: u120 :: u121 :: u122 :: u123 :: u124 :: z125 :: z126 :: z127 :: z128 :: z129 :: z130 :: z131 :: z132 :: z133 :: z134 :: z135 :: z136 :: z137 :: z138 :: z139 :: z140 :: z141 :: z142 :: z143 :: z144 :: z145 :: z146 :: z147 :: z148 :: z149 :: z150 :: z151 :: z152 :: z153 :: z154 :: z155 :: z156 :: z157 :: z158 :: z159 :: z160 :: z161 :: z162 :: z163 :: z164 :: z165 :: z166 :: z167 :: z168 :: z169 :: z170 :: z171 :: z172 :: z173 :: z174 :: z175 :: z176 :: z177 :: z178 :: z179 :: z180 :: z181 :: z182 :: z183 :: z184 :: z185 :: z186 :: z187 :: z188 :: z189 :: z190 :: z191 :: z192 :: z193 :: z194 :: z195 :: z196 :: z197 :: z198 :: z199 :: z200 :: z201 :: z202 :: z203 :: z204 :: z205 :: z206 :: z207 :: z208 :: z209 :: z210 :: z211 :: z212 :: z213 :: z214 :: z215 :: z216 :: z217 :: z218 :: z219 :: z220 :: z221 :: z222 :: z223 :: z224 :: z225 :: z226 :: z227 :: z228 :: z229 :: z230 :: z231 :: z232 :: z233 :: z234 :: z235 :: z236 :: z237 :: z238 :: z239 :: z240 :: z241 :: z242 :: z243 :: z244 :: z245 :: z246 :: z247 :: z248 :: z249 :: z250 :: z251 :: z252 :: z253 :: []), []⟩ w2) :
    (headCode (tailCode 10 (Tryz.f95.body.getD .skip))).wp Tryz.prog (Exit.then K Q) ⟨List.toArray (.pointer (some ⟨g, 0, none⟩) :: z1 :: z2 :: z3 :: z4 :: z5 :: z6 :: z7 :: z8 :: z9 :: z10 :: z11 :: z12 :: z13 :: z14 :: z15 :: z16 :: z17 :: z18 :: z19 :: z20 :: z21 :: z22 :: z23 :: z24 :: z25 :: z26 :: z27 :: z28 :: z29 :: z30 :: z31 :: z32 :: z33 :: z34 :: z35 :: z36 :: z37 :: z38 :: z39 :: z40 :: z41 :: z42 :: z43 :: z44 :: z45 :: z46 :: z47 :: z48 :: z49 :: z50 :: z51 :: z52 :: z53 :: z54 :: z55 :: z56 :: z57 :: z58 :: z59 :: z60 :: z61 :: z62 :: z63 :: z64 :: z65 :: z66 :: z67 :: z68 :: z69 :: z70 :: z71 :: z72 :: z73 :: z74 :: z75 :: z76 :: z77 :: z78 :: z79 :: z80 :: z81 :: z82 :: z83 :: z84 :: z85 :: z86 :: z87 :: z88 :: z89 :: z90 :: z91 :: z92 :: z93 :: z94 :: z95 :: z96 :: z97 :: z98 :: z99 :: z100 :: z101 :: z102 :: z103 :: z104 :: z105 :: z106 :: z107 :: z108 :: z109 :: z110 :: z111 :: z112 :: z113 :: z114 :: z115 :: z116 :: z117 :: z118 :: z119 :: z120 :: z121 :: z122 :: z123 :: z124 :: z125 :: z126 :: z127 :: z128 :: z129 :: z130 :: z131 :: z132 :: z133 :: z134 :: z135 :: z136 :: z137 :: z138 :: z139 :: z140 :: z141 :: z142 :: z143 :: z144 :: z145 :: z146 :: z147 :: z148 :: z149 :: z150 :: z151 :: z152 :: z153 :: z154 :: z155 :: z156 :: z157 :: z158 :: z159 :: z160 :: z161 :: z162 :: z163 :: z164 :: z165 :: z166 :: z167 :: z168 :: z169 :: z170 :: z171 :: z172 :: z173 :: z174 :: z175 :: z176 :: z177 :: z178 :: z179 :: z180 :: z181 :: z182 :: z183 :: z184 :: z185 :: z186 :: z187 :: z188 :: z189 :: z190 :: z191 :: z192 :: z193 :: z194 :: z195 :: z196 :: z197 :: z198 :: z199 :: z200 :: z201 :: z202 :: z203 :: z204 :: z205 :: z206 :: z207 :: z208 :: z209 :: z210 :: z211 :: z212 :: z213 :: z214 :: z215 :: z216 :: z217 :: z218 :: z219 :: z220 :: z221 :: z222 :: z223 :: z224 :: z225 :: z226 :: z227 :: z228 :: z229 :: z230 :: z231 :: z232 :: z233 :: z234 :: z235 :: z236 :: z237 :: z238 :: z239 :: z240 :: z241 :: z242 :: z243 :: z244 :: z245 :: z246 :: z247 :: z248 :: z249 :: z250 :: z251 :: z252 :: z253 :: []), []⟩ wc := by
  conv => arg 2; whnf
  have HK := Lib.hid hK
  clear hK
  have f1 : ∀ d os, (grow (redrawn wc d) os).cell? ⟨g, 10, none⟩ = some (.string ⟨y.p.to_.toArray⟩) := fun d os => (X7.step (below_regrown wc d os)).c10
  have j1 : ∀ d os, Has_db (grow (redrawn wc d) os) g 0 := fun d os => ⟨_, (X7.step (below_regrown wc d os)).is_db⟩
  have j2 : ∀ d os, of_db (grow (redrawn wc d) os) g 0 = y.db := fun d os => of_db_eq (X7.step (below_regrown wc d os)).is_db
  have k1 : ∀ d os, Calls Tryz.prog 127 #[.agg y.db, .string ⟨y.p.to_.toArray⟩] (grow (redrawn wc d) os) fun e w'' => e = .returned (.tuple #[.string ⟨pr.toArray⟩, .int .i64 pe]) ∧ ∃ q : Regrown, w'' = grow (redrawn wc q.d) q.os := fun d os => Calls.regrown_ret (kp _ (X7.step (below_regrown wc d os)).bel)
  generalize y.db = cs at *
  generalize y.p.to_ = f at *
  clear X7 kp
  refine wp_region_quiet_below (by kernel_rfl) (by kernel_rfl) ?_
  repeat (go_big_quiet_step (with_reducible first | exact k1 _ _))
  refine wpQuiet_nil ?_
  intro _ hw'
  obtain ⟨⟨dq, osq⟩, hw''⟩ := hw'
  subst hw''
  go_wp2
  refine HK.out _ _ _ _ _ _ _ _ _ _ _ _ _ _ _ _ ?_
  exact ⟨rfl, rfl, below_regrown wc dq osq⟩
end Go.Proofs.YtlggdgpdfepppaaGreatDoor
namespace Go.Proofs.YtlggdgpdfepppaaGreatDoor
open Go.RowKit Go.Sort
set_option linter.unusedVariables false
set_option linter.unusedSimpArgs false
set_option maxRecDepth 100000
attribute [local go_sem ↓] slE_fold
attribute [local go_sem] run_slE_hk run_slE_hk1 run_slE_lk1 Has_db_alloc5 of_db_alloc5 Has_db_drew5 of_db_drew5 Has_ent_drewR of_ent_drewR Has_prc_drewQ of_prc_drewQ prcArr_ones prcArr_sz prcArr_fits prcArr_splice
set_option maxHeartbeats 32000000 in
theorem earriveG (x : Edr) (d : DBs) (G : GDB) (kind s : Int) (g : Nat) (w W : World) (h : Ed w W g x []) (P : GPre w x d G) : Calls Tryz.prog 95 #[.pointer (some ⟨g, 0, none⟩), .int .u8 kind, .int .u8 s] W (RetRun w g x (arriveS (lookG G) x.p x.e kind s)) := by
  have HPG := Lib.hid P
  go_enter Tryz.func95, Tryz.ntmps95
  go_upto_region 1 with (fail)
  have S0 := Blk.new W #[.int .u8 s] 80
  have X0 := h.alloc (.cells #[.int .u8 s] 80)
  generalize W.alloc _ = W1 at S0 X0 ⊢
  generalize W.heap.size = gs at S0 ⊢
  have c11 := X0.c11
  have c12 := X0.c12
  have hgs : g ≠ gs := by
    rintro rfl
    have h1 := S0.cell 1
    rw [X0.blk.cell 1] at h1
    cases h1
  go_region
  replace X0 := X0.drw
  replace S0 := S0.step (Below.refl _ _).drew
  clear c11 c12 h
  generalize W1.drew = W2 at X0 S0 ⊢
  clear W1 W
  have c10 := X0.c10
  have k0 : W2.cell? ⟨gs, 0, none⟩ = some (.int .u8 s) := S0.cell 0
  have HX := Lib.hid X0
  by_cases h2 : x.p.to_ = []
  · have HS := Lib.hid (show arriveS (lookG G) x.p x.e kind s = .bad 6 by unfold arriveS; rw [if_pos (by simpa using h2)])
    rw [h2] at c10
    clear X0 P
    go_wp2
    go_ret
    exact RetRun.bad HS.out (by decide) HX.out.bel
  · have h0 : (x.p.to_ == []) = false := by simpa using h2
    have hE := P.ents
    have a1 := P.act1
    have a0 := P.act0
    have HC := Lib.hid P.cap
    go_upto_region 4 with (fail)
    obtain ⟨bb, hbb⟩ : ∃ bb, bb = decide (x.p.active ≠ -1 ∧ s ≤ (entAt x.p x.p.active.toNat).sec) := ⟨_, rfl⟩
    have HBB := Lib.hid hbb
    clear hbb
    go_cut [42] (fun v wx => v = .bool bb ∧ Below W2.heap.size W2 wx)
    case first =>
      by_cases h1 : x.p.active = -1
      · have hz : (x.p.active != -1) = false := by simpa using h1
        obtain rfl : bb = false := by rw [HBB.out]; simp [h1]
        clear P X0 hE HBB
        go_region
        go_wp2
        go_meet
        exact ⟨rfl, (Below.refl _ _).drew⟩
      · have hz : (x.p.active != -1) = true := by simpa using h1
        obtain ⟨k, hk⟩ : ∃ k : Nat, x.p.active = k := ⟨x.p.active.toNat, by omega⟩
        have hkl : k < x.p.es.length := by omega
        obtain ⟨b, off, hA, hcl⟩ := hE.ent hkl
        have hI := hcl W2 X0.bel
        rw [hk] at hz HBB ⊢
        rw [Int.toNat_natCast] at HBB
        generalize entAt x.p k = y at HBB hI
        have h18 : W2.cell? ⟨b, off + k * 20 + 18, none⟩ = some (.int .u8 y.sec) := by have := hI 18 (by decide); exact this
        have AH := Lib.hid hA
        have KH := Lib.hid hk
        rw [hA]
        have hlt : (k : Int) < (x.p.es.length : Int) := by omega
        have hk1 : (k : Int) ≠ -1 := by omega
        clear hI hcl hE h1 hk X0 P a1 a0
        by_cases hs : s ≤ y.sec
        · obtain rfl : bb = true := by rw [HBB.out]; exact decide_eq_true ⟨hk1, hs⟩
          clear HBB hk1
          go_region
          go_wp2
          rw [← AH.out, ← KH.out]
          go_meet
          exact ⟨rfl, (Below.refl _ _).drew⟩
        · obtain rfl : bb = false := by rw [HBB.out]; exact decide_eq_false (fun h => hs h.2)
          have hs' : y.sec < s := by omega
          clear HBB hk1
          go_region
          go_wp2
          rw [← AH.out, ← KH.out]
          go_meet
          exact ⟨rfl, (Below.refl _ _).drew⟩
    case rest =>
    obtain ⟨rfl, BC⟩ := hcut
    have X3 := X0.step BC
    have S3 := S0.step BC
    have c10 := X3.c10
    clear X0 S0 k0 HX
    by_cases hb : bb = true
    · have HS := Lib.hid (show arriveS (lookG G) x.p x.e kind s = .bad 8 by
        unfold arriveS; rw [if_neg (by simpa using h2), if_pos (by simpa using (HBB.out.symm.trans hb))])
      subst hb
      have HX := Lib.hid X3
      clear X3 P HBB
      go_wp2
      go_ret
      exact RetRun.bad HS.out (by decide) HX.out.bel
    have HS0 := arriveG_eq G x.p x.e kind s h2 (by intro h; exact hb (HBB.out.trans (decide_eq_true h)))
    obtain rfl : bb = false := by simpa using hb
    clear HBB hb P hE a1 a0 HC h0
    have HEn := Lib.hid (fun W' (b : Below w.heap.size w W') => (HPG.out.ents.below (B := 0) b : Ents W' x.A x.p.es))
    have HGp := Lib.hid (fun W' (b : Below w.heap.size w W') => (HPG.out.gap.below b).is)
    have HC := Lib.hid HPG.out.cap
    have HN := Lib.hid HPG.out.len
    have hwv : (withB x.e.name 46 x.e.trans).length ≤ 4000000000 := withB_len HPG.out.nm HPG.out.tr
    have kw := Lib.hid (fun W' => ewith_any x.e.name x.e.trans W' HPG.out.nm HPG.out.tr)
    have kr := Lib.hid (fun W' (X : Ed w W' g x []) => erunway_any x [] g w W' X HPG.out.laid x.p.to_ HPG.out.to_ HPG.out.rw_)
    have HF2 := Lib.hid (show kind = 2 → rwayS x.p.to_ x.e.rway = arrTo x.p x.e kind from fun h => by unfold arrTo; rw [if_pos h])
    have HF3 := Lib.hid (show kind ≠ 2 → x.p.to_ = arrTo x.p x.e kind from fun h => (if_neg h).symm)
    have hl : (arrTo x.p x.e kind).length ≤ 4000000000 := by
      unfold arrTo
      split
      · exact rwayS_lenZ HPG.out.to_ HPG.out.rw_
      · have := HPG.out.to_; omega
    have hM3 : kind = 3 → arrMiss G x.p x.e kind = bindS (lookG G).pt (missedG (legsG G.procs (arrTo x.p x.e kind) kind x.e.name x.e.trans).1.1) 5 (withB x.e.name 46 x.e.trans) := fun h => if_pos h
    have HM0 := Lib.hid (show kind ≠ 3 → arrMiss G x.p x.e kind = ([], 0) from fun h => if_neg h)
    have hprc := HPG.out.ok.proc (arrTo x.p x.e kind) kind x.e.name x.e.trans
    have hlg : (legsG G.procs (arrTo x.p x.e kind) kind x.e.name x.e.trans).1.2.length ≤ 100000 ∧ ∀ l ∈ (legsG G.procs (arrTo x.p x.e kind) kind x.e.name x.e.trans).1.2, l.small := by
      rw [← (legsG_proc G.procs (arrTo x.p x.e kind) kind x.e.name x.e.trans).2.1]
      exact hprc.1
    have hlm : (legsG G.procs (arrTo x.p x.e kind) kind x.e.name x.e.trans).2 = 0 → (missedG (legsG G.procs (arrTo x.p x.e kind) kind x.e.name x.e.trans).1.1).length ≤ 100000 ∧ ∀ l ∈ missedG (legsG G.procs (arrTo x.p x.e kind) kind x.e.name x.e.trans).1.1, l.small := fun hz => by
      rw [← (legsG_proc G.procs (arrTo x.p x.e kind) kind x.e.name x.e.trans).2.2 hz]
      exact hprc.2
    have hsp : (legsG G.procs (arrTo x.p x.e kind) kind x.e.name x.e.trans).2 = 0 → (legsG G.procs (arrTo x.p x.e kind) kind x.e.name x.e.trans).1.1.small := fun hz => by
      unfold legsG at hz ⊢
      cases hq : procFind (cutAt 47 (arrTo x.p x.e kind)).1 kind x.e.name G.procs with
      | none => rw [hq] at hz; exact absurd hz (show ¬ (6 : Int) = 0 by decide)
      | some p => exact HPG.out.gd.prcS p (procFind_mem hq)
    generalize arrMiss G x.p x.e kind = mi at *
    generalize arrTo x.p x.e kind = f at *
    have kl := Lib.hid (fun (W' : World) (b : Ed w W' g { x with p := { x.p with to_ := f } } []) => HPG.out.legs { x with p := { x.p with to_ := f } } rfl rfl [] g W' b f kind hl)
    have kp := Lib.hid (fun (W' : World) (b : Below w.heap.size w W') => HPG.out.place W' b f hl)
    have hpl : (placeG G.fixes f).1.length ≤ 4000000000 := HPG.out.ok.place f
    generalize legsG G.procs f kind x.e.name x.e.trans = lg at *
    generalize placeG G.fixes f = pl at *
    generalize withB x.e.name 46 x.e.trans = wv at *
    obtain ⟨⟨pv, ll⟩, le⟩ := lg
    obtain ⟨pr, pe⟩ := pl
    have HS := Lib.hid HS0
    have HLG := Lib.hid hlg
    have HLM := Lib.hid hlm
    have HSP := Lib.hid hsp
    have HM3 := Lib.hid hM3
    clear hM3 HS0 hlg hlm hsp hprc hl h2
    go_upto_if 60 with (fail)
    refine earr_rway _ _ x f kind s g gs w wc X3 S3 hgs (fun h W' X => (HF2.out h) ▸ kr.out W' X) HF3.out ?_
    intro u60 u61 u62 u63 u64 u65 u66 u67 u68 u69 u70 u71 w4 hrel
    obtain ⟨X4, S4⟩ := hrel
    clear X3 S3 c10 kr HF2 HF3 BC
    have c10 : w4.cell? ⟨g, 10, none⟩ = some (.string ⟨f.toArray⟩) := X4.c10
    go_upto_region 10 with (go_at_call 126; (with_reducible refine callLg (kl.out _ X4) ?_); intro cs3 A3 c3 w3 hP3 hl3 hI3 b3; obtain ⟨A5, c5, hcs3, _, _⟩ := hP3.ex; subst hcs3)
    have X5 := (X4.step b3).alloc (.cells (prcArr pv A5 c5) 186)
    have S5 := (S4.step b3).alloc (.cells (prcArr pv A5 c5) 186)
    have I5 := hI3.below (alloc_below5 w3 (.cells (prcArr pv A5 c5) 186))
    have P5 := hP3.below (alloc_below5 w3 (.cells (prcArr pv A5 c5) 186))
    have R5 := Blk.new w3 (prcArr pv A5 c5) 186
    clear X4 S4 b3 hP3 hI3 kl c10
    generalize w3.alloc _ = W5 at X5 S5 I5 P5 R5 ⊢
    generalize w3.heap.size = gp at R5 ⊢
    by_cases hz : le = 0
    case neg =>
      have hz' : (le != 0) = true := by simpa using hz
      have HSB := Lib.hid (show arriveS (lookG G) x.p x.e kind s = .bad le from HS.out.trans (if_pos hz))
      have HZ := Lib.hid hz
      have HX := Lib.hid X5
      clear HS hz I5 P5 R5 S5 X5
      go_wp2
      go_ret
      exact RetRun.bad HSB.out HZ.out HX.out.bel
    subst hz
    have HS := Lib.hid (HS.out.trans (if_neg (not_not_intro rfl)))
    have HLM2 := Lib.hid (show (missedG pv).length ≤ 100000 ∧ ∀ l ∈ missedG pv, l.small from HLM.out rfl)
    have HSP2 := Lib.hid (show pv.small from HSP.out rfl)
    clear HLM HSP
    go_upto_region 12 with (fail)
    refine earr_with _ _ { x with p := { x.p with to_ := f } } wv g w W5 X5 kw.out ?_
    intro u13 u87 u88 u89 u90 u91 u92 u93 u94 u95 u96 u97 wc hrel
    obtain ⟨rfl, BC⟩ := hrel
    have X6 := X5.step BC
    have S6 := S5.step BC
    have I6 := I5.below BC
    have P6 := P5.below BC
    have R6 := R5.step BC
    clear X5 S5 I5 P5 R5 BC kw
    have kb := Lib.hid (fun (W' : World) (D : Below wc.heap.size wc W') => HPG.out.bind W' (below_step X6.bel D) ll A3 c3 s wv (I6.below D) hl3 (Nat.le_trans HLG.out.1 (by decide)) (fun l hl => HLG.out.2 l hl) hwv)
    have hbl := fun h => @bindS_len0 (lookG G).pt ll s wv h
    have HLL := Lib.hid (show ll.length ≤ 100000 from HLG.out.1)
    generalize bindS (lookG G).pt ll s wv = bd at *
    obtain ⟨bl, be⟩ := bd
    have HBL := Lib.hid hbl
    clear hbl HLG
    go_upto_region 13 with (fail)
    refine earr_bind _ _ x.db wv s be bl A3 ll.length c3 g gs wc ⟨_, X6.is_db⟩ (of_db_eq X6.is_db) (S6.cell 0) (fun W' D => kb.out W' D) ?_
    intro u12 u14 u98 u99 u100 u101 u102 u103 u104 u105 u106 u107 u108 w7 hrel
    obtain ⟨A4, c4, rfl, rfl, hl4, hE4, BC⟩ := hrel
    have X7 := X6.step BC
    have S7 := S6.step BC
    have P7 := P6.below BC
    have R7 := R6.step BC
    clear X6 S6 I6 P6 R6 BC kb hl3
    by_cases hz : be = 0
    case neg =>
      have hz' : (be != 0) = true := by simpa using hz
      have HSB := Lib.hid (show arriveS (lookG G) x.p x.e kind s = .bad be from HS.out.trans (if_pos hz))
      have HZ := Lib.hid hz
      have HX := Lib.hid X7
      clear HS hz hE4 P7 R7 S7 X7
      go_wp2
      go_ret
      exact RetRun.bad HSB.out HZ.out HX.out.bel
    subst hz
    have HS := Lib.hid (HS.out.trans (if_neg (not_not_intro rfl)))
    have HBN := Lib.hid (show bl.length = ll.length from HBL.out rfl)
    clear HBL
    go_upto_region 16 with (fail)
    refine earr_place _ _ { x with p := { x.p with to_ := f } } pr pe g w w7 X7 kp.out ?_
    intro u12 u15 u112 u113 u114 u115 u116 u117 u118 u119 u120 u121 u122 u123 u124 w8 hrel
    obtain ⟨rfl, rfl, BC⟩ := hrel
    have X8 := X7.step BC
    have S8 := S7.step BC
    have P8 := P7.below BC
    have R8 := R7.step BC
    have E8 := hE4.below (B := 0) BC
    clear X7 S7 P7 R7 hE4 BC kp
    go_step
    exact earr2_any x { x with p := { x.p with to_ := f } } d G kind s g gs gp w w8 f pr wv pe pv bl mi A4 A5 c4 c5 HPG.out rfl X8 S8 P8 R8 E8 hl4 (by rw [HBN.out]; exact HLL.out) hpl hwv HM3.out HM0.out HLM2.out HSP2.out HS.out
end Go.Proofs.YtlggdgpdfepppaaGreatDoor
namespace Go.Proofs.YtlggdgpdfepppaaGreatDoor
open Go.RowKit Go.ChangeShapes Go.WideShapes Go.Deep
set_option linter.unusedVariables false
set_option linter.unusedSimpArgs false
section
variable {H : Type} {enc : TypeId × Value → H} {w : World} {base : Nat} {spare : Nat → Bool} {held : Bool}
set_option maxRecDepth 100000 in
theorem open_planB {r : Reach} {b0 : Nat} {v : Value} {d : DataW H} {ps : List MemPlace} (hv : Value.okWide Tryz.prog w r b0 24 v) (h : DataW.Trod enc Tryz.prog w base spare held 24 v d ps) :
    ∃ (p : Plan) (A : Option Addr) (c : Nat), v = p.val A c ∧ p.es.length ≤ c ∧ Ents w A p.es ∧ p.es.length ≤ Rows.uptoBulk d ∧ (Rows.uptoBulk d ≤ 4000000000 → p.small) ∧ p.from_.length ≤ Rows.uptoBulk d ∧ p.to_.length ≤ Rows.uptoBulk d := by
  obtain ⟨cs, rfl, hsz⟩ := okWide_struct Tryz.underlying24 hv
  obtain ⟨fuel, hf⟩ := h
  obtain ⟨xs, n, _, hx, hlen, hxl, hf⟩ := DataW.trod_struct Tryz.underlying24 hf
  rw [cells_plan] at hsz
  have hl4 : cs.toList.length = 4 := by simpa using hsz
  obtain ⟨c0, c1, c2, c3, hcs⟩ := list4 hl4
  obtain ⟨y0, y1, y2, y3, rfl⟩ := list4 hxl
  have g0 := fld hf 0 9 0 1 rfl cells_str
  have g1 := fld hf 1 9 1 1 rfl cells_str
  have g2 := fld hf 2 22 2 1 rfl cells_es
  have g3 := fld hf 3 3 3 1 rfl cells_int
  have hvc : (Value.agg cs).cells.toList = [c0, c1, c2, c3] := hcs
  rw [hvc] at g0 g1 g2 g3
  simp only [List.drop_succ_cons, List.drop_zero, List.take_succ_cons, List.take_zero, List.getElem?_cons_succ, List.getElem?_cons_zero] at g0 g1 g2 g3
  obtain ⟨s0, e0, b0⟩ := open_str g0
  obtain ⟨s1, e1, b1⟩ := open_str g1
  obtain ⟨es, A, c, e2, hc, hE, b2, b3⟩ := open_ents g2
  obtain ⟨k, e3, _⟩ := DataW.trod_int Tryz.underlying3 g3
  simp only [List.cons.injEq, and_true] at e3
  simp only [Prod.mk.injEq] at hx
  have hy : Rows.uptoBulk d = Rows.uptoBulkAll [y0.1, y1.1, y2.1, y3.1] + 1 := by rw [hx.1]; simp [Rows.uptoBulk]
  have p0 : Rows.uptoBulk y0.1 ≤ Rows.uptoBulkAll [y0.1, y1.1, y2.1, y3.1] := bulk_part (by simp)
  have p1 : Rows.uptoBulk y1.1 ≤ Rows.uptoBulkAll [y0.1, y1.1, y2.1, y3.1] := bulk_part (by simp)
  have p2 : Rows.uptoBulk y2.1 ≤ Rows.uptoBulkAll [y0.1, y1.1, y2.1, y3.1] := bulk_part (by simp)
  refine ⟨⟨s0, s1, es, k⟩, A, c, ?_, hc, hE, ?_, fun hN => ⟨?_, ?_, ?_, fun x hx' => ?_⟩, ?_, ?_⟩
  · have : cs = #[c0, c1, c2, c3] := by apply Array.toList_inj.1; rw [hcs]
    rw [this, e0, e1, e2, e3]; rfl
  · show es.length ≤ _; omega
  · show s0.length ≤ _; omega
  · show s1.length ≤ _; omega
  · show es.length ≤ _; omega
  · obtain ⟨q1, q2, q3⟩ := b3 x hx'
    exact ⟨⟨by omega, by omega⟩, by omega⟩
  · show s0.length ≤ _; omega
  · show s1.length ≤ _; omega
end
end Go.Proofs.YtlggdgpdfepppaaGreatDoor
namespace Go.Proofs.YtlggdgpdfepppaaGreatDoor
open Go.RowKit Go.ChangeShapes Go.WideShapes Go.Deep
set_option linter.unusedVariables false
set_option linter.unusedSimpArgs false
section
variable {H : Type} {enc : TypeId × Value → H} {w : World} {base : Nat} {spare : Nat → Bool} {held : Bool}
set_option maxRecDepth 100000 in
theorem open_gdbT {r : Reach} {b0 : Nat} {v : Value} {d : DataW H} {ps : List MemPlace} (hv : Value.okWide Tryz.prog w r b0 48 v) (h : DataW.Trod enc Tryz.prog w base spare held 48 v d ps) (hN : Rows.uptoBulk d ≤ 4000000) :
    ∃ (db : DBs) (G : GDB), v = .agg db.cells ∧ GdAt w db G ∧ G.short := by
  obtain ⟨cs, rfl, hsz⟩ := okWide_struct Tryz.underlying48 hv
  obtain ⟨fuel, hf⟩ := h
  have hvc : (Value.agg cs).cells.toList = cs.toList := rfl
  rw [hvc] at hf
  obtain ⟨db, G, e, hg, hs⟩ := open_gdb hf hN
  exact ⟨db, G, by rw [Array.toList_inj.1 e], hg, hs⟩
end
end Go.Proofs.YtlggdgpdfepppaaGreatDoor
