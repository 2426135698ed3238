/- The statement's function PlanJoinValid returns true. -/
import Derived.Test.YtgafmifamkbmbaaDoorAwake
import Derived.Test.YtgafmifamkbmbaaDoorPlanRC
namespace Go.Proofs.YtgafmifamkbmbaaDoor
open Go.RowKit Go.Sort
set_option linter.unusedVariables false
set_option linter.unusedSimpArgs false
theorem planCheck_joined {l : List Entry} (f t : List UInt8) (h : singles 0 l = true) : planCheck ⟨f, t, joinE l, -1⟩ = if !placeB f || !placeB t then 5 else if 60 < (joinE l).length then 3 else 0 := by
  unfold planCheck
  simp only [joinE_singles h, activeE]
  rfl
theorem new_all {P : Entry → Prop} {out : List Entry} (pb : Bool) (x : Entry) (ho : ∀ y ∈ out, P y) (hg : P gapE) (hs : P (startOf x).1) : ∀ y ∈ (joinNew out pb x).1, P y := by
  unfold joinNew
  intro y hy
  split at hy
  · split at hy
    · rcases List.mem_append.1 hy with h | h
      · exact ho y h
      · rw [List.mem_singleton.1 h]; exact hs
    · rcases List.mem_append.1 hy with h | h
      · rcases List.mem_append.1 h with h | h
        · exact ho y h
        · rw [List.mem_singleton.1 h]; exact hg
      · rw [List.mem_singleton.1 h]; exact hs
  · exact ho y hy
theorem step_all {P : Entry → Prop} {out : List Entry} (pb : Bool) (x : Entry) (ho : ∀ y ∈ out, P y) (hg : P gapE) (hx : P x) (hs : P (startOf x).1) : ∀ y ∈ (joinStep out pb x).1, P y := by
  unfold joinStep
  intro y hy
  split at hy
  · exact ho y hy
  · split at hy
    · exact new_all pb x ho hg hs y hy
    · split at hy
      · exact new_all pb x ho hg hs y hy
      · split at hy
        · exact ho y hy
        · split at hy
          · rcases List.mem_append.1 hy with h | h
            · exact ho y h
            · rw [List.mem_singleton.1 h]; exact hx
          · exact new_all pb x ho hg hs y hy
theorem joinGo_all {P : Entry → Prop} (hg : P gapE) : ∀ (r out : List Entry) (pb : Bool), (∀ y ∈ out, P y) → (∀ x ∈ r, P x ∧ P (startOf x).1) → ∀ y ∈ joinGo out pb r, P y
  | [], _, _, ho, _, y, hy => ho y hy
  | x :: r, out, pb, ho, hr, y, hy => by
    have hx := hr x (by simp)
    exact joinGo_all hg r _ _ (step_all pb x ho hg hx.1 hx.2) (fun z hz => hr z (by simp [hz])) y hy
theorem start_small {x : Entry} (h : x.small) : (startOf x).1.small := by
  unfold startOf
  split
  · exact h
  · split
    · exact ⟨⟨h.leg.fix, by simp [startForm]⟩, h.via⟩
    · exact ⟨⟨by simp [zeroE], by simp [zeroE]⟩, by simp [zeroE]⟩
theorem join_small {l : List Entry} (h : ∀ x ∈ l, x.small) : ∀ x ∈ joinE l, x.small :=
  joinGo_all (P := Entry.small) ⟨⟨by simp [gapE], by simp [gapE]⟩, by simp [gapE]⟩ l [] false (by simp) (fun x hx => ⟨h x hx, start_small (h x hx)⟩)
def VRel (l : List Entry) (w1 : World) (t i : Value) (wr : World) : Prop :=
  ∃ (k : Nat) (s : Int), k ≤ l.length ∧ i = .int .i64 k ∧ t = .int .u8 s ∧ singles 0 l = singles s (l.drop k) ∧ Below w1.heap.size w1 wr
set_option maxHeartbeats 4000000 in
set_option maxRecDepth 100000 in
theorem lawJoinValid_any (l : List Entry) (f t : List UInt8) (A : Option Addr) (c : Nat) (w : World) (hL : Laid w) (hl : l.length ≤ 4000000000) (hf : f.length ≤ 4000000000) (ht : t.length ≤ 4000000000) (hs : ∀ x ∈ l, x.small) (hc : l.length ≤ c) (hE : Ents w A l) :
    Calls Tryd.prog 6 #[.slice A l.length c, .string ⟨f.toArray⟩, .string ⟨t.toArray⟩] w (Ret w (.bool true)) := by
  go_enter Tryd.func6, Tryd.ntmps6
  by_cases h : (120 : Int) < ((l.length : Nat) : Int)
  · go_wp2_with (go_at_call 9; refine callR (awake_any w hL) ?_; intro w1 hb1 hc1 hf1 hz1)
    go_ret
    exact Ret.bool rfl hb1
  · have hl2 : l.length ≤ 400000 := by omega
    have hjl := joinE_len l
    go_upto_region 6 with (go_at_call 9; refine callR (awake_any w hL) ?_; intro w1 hb1 hc1 hf1 hz1)
    have E1 := hE.below (B := 0) hb1
    have L1 := hL.below hb1
    clear hc1 hf1 hz1
    go_wp2
    go_loopw [7, 19] (fun t i wr => VRel l w1 t i wr) (fun _ i _ => l.length - (intOf i).toNat)
    case atStart => exact ⟨0, 0, by omega, rfl, rfl, rfl, Below.refl _ _⟩
    case round =>
      obtain ⟨k, s, hk, rfl, rfl, hq, hB⟩ := hrel
      have HQ := Lib.hid hq; clear hq h
      by_cases hlt : k < l.length
      · obtain ⟨b, off, hA, hb, he⟩ := E1.get hlt
        subst hA
        have hx : l[k] ∈ l := List.getElem_mem hlt
        have hd := Lib.hid (List.drop_eq_getElem_cons hlt)
        generalize l[k] = x at he hd hx
        have e1 : Is_ent wr b (off + k * 20) x := fun j hj => by rw [hB.cell (p := ⟨b, _, none⟩) hb]; exact he j hj
        have i1 : Has_ent wr b (off + k * 20) := ⟨x, e1⟩
        have i2 : of_ent wr b (off + k * 20) = x := of_ent_eq e1
        clear he e1
        go_upto_region 9 with (fail)
        have X0 := Blk.new wr x.arr 41
        have B0 := below_step hB (allocB wr (.cells x.arr 41))
        generalize wr.alloc _ = W0 at X0 B0 ⊢
        generalize wr.heap.size = g at X0 ⊢
        clear i1 i2 hB
        have c1 := X0.cell
        have c2 := X0.lt
        cases hg : x.gap
        · have HN := Lib.hid (show singles 0 l = if aloneE x != 0 || decide (x.sec < s) then false else singles x.sec (l.drop (k + 1)) by rw [HQ.out, hd.out, singles, hg]; rfl)
          have k1 : Has_ent W0 g 0 := ⟨_, X0.is_ent⟩
          have k2 : of_ent W0 g 0 = x := of_ent_eq X0.is_ent
          have hcall := Lib.hid (single_any x W0 (hs x hx))
          obtain ⟨ab, hab⟩ : ∃ a, (aloneE x != 0) = a := ⟨_, rfl⟩
          obtain ⟨sb, hsb⟩ : ∃ a, decide (x.sec < s) = a := ⟨_, rfl⟩
          rw [hab, hsb] at HN
          cases ab
          · cases sb
            · have hsb2 : ¬ x.sec < s := by simpa using hsb
              clear hsb
              go_upto_region 12 with (go_at_call 15; refine callR hcall.out ?_; intro w2 hb2 hc2 hf2 hz2)
              have c3 := (X0.step hb2).cell
              go_wp2
              go_roundw
              case rel => exact ⟨k + 1, x.sec, by omega, by go_num, rfl, HN.out, below_step B0 hb2⟩
              case measure => simp [intOf]; omega
            · have hsb2 : x.sec < s := by simpa using hsb
              clear hsb
              go_wp2_with (go_at_call 15; refine callR hcall.out ?_; intro w2 hb2 hc2 hf2 hz2; have c3 := (X0.step hb2).cell)
              go_ret
              exact Ret.bool rfl (below_step hb1 (below_step B0 hb2))
          · clear hsb
            go_wp2_with (go_at_call 15; refine callR hcall.out ?_; intro w2 hb2 hc2 hf2 hz2)
            go_ret
            exact Ret.bool rfl (below_step hb1 (below_step B0 hb2))
        · go_wp2
          go_roundw
          case rel => exact ⟨k + 1, s, by omega, by go_num, rfl, by rw [HQ.out, hd.out, singles, hg]; rfl, B0⟩
          case measure => simp [intOf]; omega
      · have hsg : singles 0 l = true := by rw [HQ.out, List.drop_of_length_le (by omega)]; rfl
        have E2 := E1.below (B := 0) hB
        have L2 := L1.below hB
        have B2 := below_step hb1 hB
        clear E1 L1 hB HQ
        go_upto_region 14 with (fail)
        have hlit : ∀ (A : Option Addr) (c : Nat), (#[.string ⟨f.toArray⟩, .string ⟨t.toArray⟩, .slice A (joinE l).length c, .int .i64 (-1)] : Array Value) = (Plan.mk f t (joinE l) (-1)).arr A c := fun _ _ => rfl
        go_upto_region 15 with (go_at_call 13; refine callOut (join_any l A c wr hl2 hc E2) ?_; intro v3 w3 O3 B3; obtain ⟨A3, c3, hv3, hc3, hE3, _⟩ := O3.form; subst hv3)
        have P3 := Blk.new w3 ((Plan.mk f t (joinE l) (-1)).arr A3 c3) 24
        have E3 := hE3.below (B := 0) (allocB w3 (.cells ((Plan.mk f t (joinE l) (-1)).arr A3 c3) 24))
        have L3 := (L2.below B3).below (allocB w3 (.cells ((Plan.mk f t (joinE l) (-1)).arr A3 c3) 24))
        have B4 := below_step B2 (below_step B3 (allocB w3 (.cells ((Plan.mk f t (joinE l) (-1)).arr A3 c3) 24)))
        generalize w3.alloc _ = W4 at P3 E3 L3 B4 ⊢
        generalize w3.heap.size = g at P3 ⊢
        clear O3 B3 hE3 E2 L2 B2 hlit
        have k1 : Has_plan W4 g 0 := ⟨_, P3.is_plan rfl⟩
        have k2 : of_plan W4 g 0 = (Plan.mk f t (joinE l) (-1)).arr A3 c3 := of_plan_eq (P3.is_plan rfl)
        have hsm : (Plan.mk f t (joinE l) (-1)).small := ⟨hf, ht, by show (joinE l).length ≤ _; omega, join_small hs⟩
        have hcall := planCheck_any (Plan.mk f t (joinE l) (-1)) A3 c3 W4 L3 hsm hc3 E3
        rw [planCheck_joined f t hsg] at hcall
        obtain ⟨pf, hpf⟩ : ∃ a, placeB f = a := ⟨_, rfl⟩
        obtain ⟨pt, hpt⟩ : ∃ a, placeB t = a := ⟨_, rfl⟩
        rw [hpf, hpt] at hcall
        have hF : ∀ W, Calls Tryd.prog 16 #[.string ⟨f.toArray⟩] W (RetP W (.bool pf)) := fun W => by rw [← hpf]; exact rplace_any _ _ (by omega)
        have hT : ∀ W, Calls Tryd.prog 16 #[.string ⟨t.toArray⟩] W (RetP W (.bool pt)) := fun W => by rw [← hpt]; exact rplace_any _ _ (by omega)
        clear hpf hpt hsg
        have HC := Lib.hid hcall; clear hcall
        have HF := Lib.hid hF; clear hF
        have HT := Lib.hid hT; clear hT
        by_cases h60 : 60 < (joinE l).length
        · have h61 : (60 : Int) < (((joinE l).length : Nat) : Int) := by omega
          simp only [h60, if_true] at HC
          clear h60
          cases pf <;> cases pt
          all_goals
            go_upto_region 16 with (go_at_call 10; refine callR HC.out ?_; intro w5 hb5 hc5 hf5 hz5)
            have c5 := (P3.step hb5).cell
            have c6 := (P3.step hb5).lt
            go_wp2_with (go_at_call 16; with_reducible first | refine callP (HF.out _) ?_ | refine callP (HT.out _) ?_)
            go_ret
            exact Ret.bool (by simp) (below_step B4 hb5)
        · have h61 : ¬ (60 : Int) < (((joinE l).length : Nat) : Int) := by omega
          simp only [h60, if_false] at HC
          clear h60
          cases pf <;> cases pt
          all_goals
            go_upto_region 16 with (go_at_call 10; refine callR HC.out ?_; intro w5 hb5 hc5 hf5 hz5)
            have c5 := (P3.step hb5).cell
            have c6 := (P3.step hb5).lt
            go_wp2_with (go_at_call 16; with_reducible first | refine callP (HF.out _) ?_ | refine callP (HT.out _) ?_)
            go_ret
            exact Ret.bool (by simp) (below_step B4 hb5)
end Go.Proofs.YtgafmifamkbmbaaDoor
