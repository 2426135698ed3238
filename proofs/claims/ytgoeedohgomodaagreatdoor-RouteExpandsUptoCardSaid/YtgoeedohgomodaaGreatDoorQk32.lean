/- Lemmas and walks. -/
import Derived.Test.YtgoeedohgomodaaGreatDoorQk17
import Derived.Test.YtgoeedohgomodaaGreatDoorQk31
import Derived.Test.YtgoeedohgomodaaGreatDoorQk02
import Derived.MapKept
import Derived.Carry
import Derived.Test.YtgoeedohgomodaaGreatDoorQk11
import Derived.Test.YtgoeedohgomodaaGreatDoorQk07
import Derived.Deep.CutBlock
set_option linter.unusedSimpArgs false
set_option linter.unusedVariables false
namespace Go.Proofs.YtgoeedohgomodaaGreatDoor
open Go.RowKit
set_option maxRecDepth 100000
attribute [local go_sem] zdp
theorem ziV (s t:List UInt8) (c:UInt8) (hs:s.length≤4000000000) (ht:t.length≤4000000000) (w:World):Calls Tryz.prog 73 #[.string ⟨s.toArray⟩, .string ⟨#[c]⟩, .string ⟨t.toArray⟩] w (RetP w (.string ⟨(zbC s c t).toArray⟩)):=by
  have HW:=Lib.hid (show zbC s c t=if t.isEmpty then s else s ++ c :: t from rfl)
  generalize zbC s c t=v at *
  have h1:¬ 9223372036854775807 < s.length+1:=by omega
  have h2:¬ 9223372036854775807 < s.length+1+t.length:=by omega
  cases t with
  | nil=>
    go_enter Tryz.func73,Tryz.ntmps73
    go_wp2
    go_ret
    exact RetP.str (by rw [HW.out];rfl) rfl
  | cons x r=>
    go_enter Tryz.func73,Tryz.ntmps73
    go_wp2
    go_ret
    exact RetP.str (by rw [HW.out];rfl) rfl
theorem zfC (s:List UInt8) (c:UInt8) (t:List UInt8):(zbC s c t).length≤s.length+1+t.length:=by
  unfold zbC
  split
  · omega
  · simp;omega
end Go.Proofs.YtgoeedohgomodaaGreatDoor
namespace Go.Proofs.YtgoeedohgomodaaGreatDoor
open Go.RowKit
set_option maxRecDepth 100000
theorem zuH (w:World) (o o':Obj):({ w.alloc o with heap:=(w.alloc o).heap.setIfInBounds w.heap.size o' }:World)=w.alloc o':=by
  have e:(w.alloc o).heap.setIfInBounds w.heap.size o'=(w.alloc o').heap:=by
    show (w.heap.push o).setIfInBounds w.heap.size o'=w.heap.push o'
    refine Array.ext_getElem? fun i=>?_
    simp only [Array.getElem?_setIfInBounds,Array.getElem?_push,Array.size_push]
    by_cases h:i=w.heap.size
    · subst h;simp
    · simp [h,Ne.symm h]
  rw [e]
  rfl
def zpS (es:List MapEntry) (k:Int):Bool:=es.all fun e=>match e.key with | .int .u8 j=>!(k == j) | _=>false
theorem zgy (k:Int):∀ (es:List MapEntry) (i:Nat),zpS es k=true→Instr.findNow (.int .u8) (.int .u8 k) es i=some none
  | [],i,_=>rfl
  | e :: es,i,h=>by
    unfold zpS at h
    simp only [List.all_cons,Bool.and_eq_true] at h
    obtain ⟨h1,h2⟩:=h
    unfold Instr.findNow
    split at h1
    · rename_i j hj
      rw [hj]
      have hne:¬ k=j:=by simpa using h1
      have:Instr.sameNow (.int .u8) (.int .u8 k) (.int .u8 j)=some false:=by simp [Instr.sameNow,hne]
      rw [this]
      exact zgy k es (i+1) h2
    · cases h1
theorem zi1 (w:World) (es:Array MapEntry) (n:Nat) (k v:Int) (h:zpS es.toList k=true):
    (Instr.mapUpdate 111 (.map (some w.heap.size)) (.int .u8 k) (.int .u8 v)).run Tryz.prog (w.alloc (.map es n))=.ok () (w.alloc (.map (es.push ⟨.int .u8 k, .int .u8 v,n⟩) (n+1))):=by
  have hu:=Tryz.underlying111
  have hk:=Tryz.underlying5
  have hf:=zgy k es.toList 0 h
  have hb:=(MapKept.heap_alloc w (.map es n)).1
  have hc:=MapKept.run_checkKey (P:=Tryz.prog) (w:=w.alloc (.map es n)) (k:=.int .u8 k) hk (by simp [MapKept.IsKey]) false 9999
  have hs:=MapKept.run_setObj_map (P:=Tryz.prog) (.map (es.push ⟨.int .u8 k, .int .u8 v,n⟩) (n+1)) hb
  rw [zuH] at hs
  simp [Instr.mapUpdate,run_underlying hu,MapKept.run_getObj_map hb,hc,MapKept.run_findKey hk hf,hs,Result.andThen]
theorem zqE (w:World):(Instr.mapUpdate 111 (.map (some w.heap.size)) (.int .u8 68) (.int .u8 2)).run Tryz.prog (w.alloc (.map #[] 0))=.ok () (w.alloc (.map #[⟨.int .u8 68, .int .u8 2,0⟩] 1)):=zi1 w #[] 0 68 2 rfl
theorem zqD (w:World):(Instr.mapUpdate 111 (.map (some w.heap.size)) (.int .u8 65) (.int .u8 6)).run Tryz.prog (w.alloc (.map #[⟨.int .u8 68, .int .u8 2,0⟩] 1))=.ok () (w.alloc (.map #[⟨.int .u8 68, .int .u8 2,0⟩,⟨.int .u8 65, .int .u8 6,1⟩] 2)):=zi1 w #[⟨.int .u8 68, .int .u8 2,0⟩] 1 65 6 rfl
theorem zqC (w:World):(Instr.mapUpdate 111 (.map (some w.heap.size)) (.int .u8 80) (.int .u8 7)).run Tryz.prog (w.alloc (.map #[⟨.int .u8 68, .int .u8 2,0⟩,⟨.int .u8 65, .int .u8 6,1⟩] 2))=.ok () (w.alloc (.map #[⟨.int .u8 68, .int .u8 2,0⟩,⟨.int .u8 65, .int .u8 6,1⟩,⟨.int .u8 80, .int .u8 7,2⟩] 3)):=zi1 w #[⟨.int .u8 68, .int .u8 2,0⟩,⟨.int .u8 65, .int .u8 6,1⟩] 2 80 7 rfl
theorem zlP (W:World):(zeroValue 55).run Tryz.prog W=.ok (.int .u8 0) W:=by
  obtain ⟨i0,hi,hz⟩:∃ i,Tryz.prog.info? 55=some i∧i.zero=some (.int .u8 0):=by
    have h:(Tryz.prog.info? 55).map (·.zero)=some (some (.int .u8 0)):=by kernel_rfl
    cases hq:Tryz.prog.info? 55 with
    | none=>rw [hq] at h;cases h
    | some i=>rw [hq] at h;exact ⟨i,rfl,by simpa using h⟩
  simp [zeroValue,typeInfo,hi,hz]
theorem zse (w:World) (c:UInt8):(Instr.lookup 111 (.map (some w.heap.size)) (.int .u8 (c.toNat:Int)) false).run Tryz.prog (w.alloc (.map #[⟨.int .u8 68, .int .u8 2,0⟩,⟨.int .u8 65, .int .u8 6,1⟩,⟨.int .u8 80, .int .u8 7,2⟩] 3))=.ok (.int .u8 (zbk c)) (w.alloc (.map #[⟨.int .u8 68, .int .u8 2,0⟩,⟨.int .u8 65, .int .u8 6,1⟩,⟨.int .u8 80, .int .u8 7,2⟩] 3)):=by
  have hu:=Tryz.underlying111
  have hk:=Tryz.underlying5
  have hb:=(MapKept.heap_alloc w (.map #[⟨.int .u8 68, .int .u8 2,0⟩,⟨.int .u8 65, .int .u8 6,1⟩,⟨.int .u8 80, .int .u8 7,2⟩] 3)).1
  generalize w.alloc (.map #[⟨.int .u8 68, .int .u8 2,0⟩,⟨.int .u8 65, .int .u8 6,1⟩,⟨.int .u8 80, .int .u8 7,2⟩] 3)=W at hb ⊢
  have hc:=MapKept.run_checkKey (P:=Tryz.prog) (w:=W) (k:=.int .u8 (c.toNat:Int)) hk (by simp [MapKept.IsKey]) false 9999
  have hf:Instr.findNow (.int .u8) (.int .u8 (c.toNat:Int)) [⟨.int .u8 68, .int .u8 2,0⟩,⟨.int .u8 65, .int .u8 6,1⟩,⟨.int .u8 80, .int .u8 7,2⟩] 0=some (if c=68 then some (0, .int .u8 2) else if c=65 then some (1, .int .u8 6) else if c=80 then some (2, .int .u8 7) else none):=by
    by_cases h1:c=68
    · subst h1;rfl
    by_cases h2:c=65
    · subst h2;rfl
    by_cases h3:c=80
    · subst h3;rfl
    have n1:=zj7 h1
    have n2:=zj7 h2
    have n3:=zj7 h3
    rw [if_neg h1,if_neg h2,if_neg h3]
    exact zgy _ _ 0 (by simp at n1 n2 n3;simp [zpS,n1,n2,n3])
  simp only [Instr.lookup,Sem.run_bind,run_underlying hu,MapKept.run_getObj_map hb,hc,MapKept.run_findKey hk hf,Result.andThen,Sem.run_pure]
  unfold zbk
  by_cases h1:c=68
  · subst h1;rfl
  by_cases h2:c=65
  · subst h2;rfl
  by_cases h3:c=80
  · subst h3;rfl
  rw [if_neg h1,if_neg h2,if_neg h3,if_neg h1,if_neg h2,if_neg h3]
  exact zlP W
end Go.Proofs.YtgoeedohgomodaaGreatDoor
namespace Go.Proofs.YtgoeedohgomodaaGreatDoor
open Go.RowKit
set_option maxRecDepth 100000
attribute [local go_sem] zqE zqD zqC zse zni znh zng zgT run_makeMap
attribute [local go_sem ↓] zhj
def zkC (s:List UInt8):Value:=.tuple #[.agg ((zc5 s).getD noItem).arr, .bool (zc5 s).isSome]
theorem zaF {fn:Func} {p t:Tmp} (h:fn.results=#[.cell p 57, .tmp t]) (tmps:Array Value) (w:World) (g:Nat) (x:ItemV) (hp:tmps.getD p undef=.pointer (some ⟨g,0,none⟩)) (hx:Blk w g x.arr):
    (results fn tmps).run Tryz.prog w=.ok (.tuple #[.agg x.arr,tmps.getD t undef]) w:=
  zal h tmps w g x.arr 3 _ hp rfl hx.cell Tryz.underlying57 rfl ziw
theorem Ret.noItem {w w':World} {s:List UInt8} {v:Value} (hv:zkC s=v) (h:zc5 s=none) (hw:Below w.heap.size w w'):Ret w v (.returned (.tuple #[.agg noItem.arr, .bool false])) w':=by
  subst hv;unfold zkC;rw [h];exact ⟨rfl,hw⟩
theorem Ret.oneItem {w w':World} {s:List UInt8} {v:Value} {x:ItemV} (hv:zkC s=v) (h:zc5 s=some x) (hw:Below w.heap.size w w'):Ret w v (.returned (.tuple #[.agg x.arr, .bool true])) w':=by
  subst hv;unfold zkC;rw [h];exact ⟨rfl,hw⟩
set_option maxHeartbeats 4000000 in
theorem zxn (a:UInt8) (r:List UInt8) (hr:r.length≤4000000000) (w:World) (hL:Laid w):Calls Tryz.prog 31 #[.string ⟨(a :: 61 :: r).toArray⟩] w (Ret w (zkC (a :: 61 :: r))):=by
  have hc:=zcF 46 r
  have HI:=Lib.hid (show zc5 (a :: 61 :: r)=if zbk a=0∨zcf r 46 8=false then none else some ⟨zbk a,(cutAt 46 r).1,(cutAt 46 r).2.1⟩ from rfl)
  have HQ:=Lib.hid (show zcf r 46 8=zgr (cutAt 46 r) 8 from rfl)
  have KC:=Lib.hid (fun W hW=>zmD r 46 W hW hr)
  generalize cutAt 46 r=q at *
  generalize zcf r 46 8=pb at *
  obtain ⟨x,y,f⟩:=q
  generalize hv:zkC (a :: 61 :: r)=v
  have HV:=Lib.hid hv
  clear hv
  go_enter Tryz.func31,Tryz.ntmps31
  go_upto_region 1 with (fail)
  have A0:Blk (w.alloc (.cells #[.int .u8 0, .string ⟨#[]⟩, .string ⟨#[]⟩] 57)) w.heap.size noItem.arr:=Blk.new w noItem.arr 57
  have D0:=(Below.refl w.heap.size w).alloc (Nat.le_refl _) (.cells #[.int .u8 0, .string ⟨#[]⟩, .string ⟨#[]⟩] 57)
  generalize w.alloc _=W0 at A0 D0 ⊢
  have S0:=D0.size
  obtain ⟨g,hg⟩:∃ g,g=w.heap.size:=⟨_,rfl⟩
  have G0:w.heap.size≤g:=by omega
  rw [← hg] at A0 ⊢
  clear hg
  go_upto_region 4 with (refine (KC.out _ (hL.below (D0.alloc S0 _))).mono ?_;rintro e w' ⟨rfl,n,rfl⟩)
  have D1:=below_drewN (D0.alloc S0 (.map #[⟨.int .u8 68, .int .u8 2,0⟩,⟨.int .u8 65, .int .u8 6,1⟩,⟨.int .u8 80, .int .u8 7,2⟩] 3)) n
  have A1:Blk ((W0.alloc (.map #[⟨.int .u8 68, .int .u8 2,0⟩,⟨.int .u8 65, .int .u8 6,1⟩,⟨.int .u8 80, .int .u8 7,2⟩] 3)).drewN n) g noItem.arr:=(A0.alloc _).step (below_drewN (Below.refl _ _) n)
  generalize World.drewN _ _=W1 at D1 A1 ⊢
  have P1:=A1.plain
  have F1:=A1.of
  have L1:=A1.lt
  have hx:x.length≤4611686018427387904:=by omega
  have hy:y.length≤4611686018427387904:=by omega
  have NX:=Lib.hid (fun W=>zdl x 8 W hx)
  have NY:=Lib.hid (fun W=>zdl y 8 W hy)
  clear KC hL D0 A0
  by_cases hk:zbk a=0
  · have HE:=Lib.hid (show v=zkC (a :: 61 :: r) from HV.out.symm)
    have HN:=Lib.hid (show zc5 (a :: 61 :: r)=none by rw [HI.out,if_pos (.inl hk)])
    rw [hk]
    clear HI hk
    go_wp2
    exact bodyPost_ret (zaF Tryz.results31 _ _ g noItem rfl (A1.set _)) rfl (Ret.noItem HV.out HN.out (zab D1 G0 _))
  have hk2:(zbk a == 0)=false:=by simpa using hk
  go_wp2_with (go_at_call 61;(with_reducible (first | refine zae (NX.out _) ?_ | refine zae (NY.out _) ?_)))
  all_goals
    first
    | exact bodyPost_ret (zaF Tryz.results31 _ _ g noItem rfl (A1.set _)) rfl (Ret.noItem HV.out (by rw [HI.out,if_pos (.inr (by rw [HQ.out];unfold zgr;simp_all))]) (zab D1 G0 _))
    | exact bodyPost_ret (zaF Tryz.results31 _ _ g ⟨zbk a,x,y⟩ rfl (A1.set _)) rfl (Ret.oneItem HV.out (by rw [HI.out,if_neg (by rw [HQ.out];unfold zgr;simp_all)]) (zab D1 G0 _))
theorem zw8 {b:UInt8} (h:b ≠ 61):((b.toNat:Int) == 61)=false:=zj7 h
set_option maxHeartbeats 4000000 in
theorem zxm (s:List UInt8) (h61:¬ s[1]? = some 61) (hs:s.length≤4000000000) (w:World) (hL:Laid w):Calls Tryz.prog 31 #[.string ⟨s.toArray⟩] w (Ret w (zkC s)):=by
  have HI:=Lib.hid (show zc5 s=if s=[68,67,84] then some ⟨5,[],[]⟩ else if (za8 s).2.2 == 0 then some ⟨4,s,[]⟩ else if zbF s 8 then some ⟨3,s,[]⟩ else none by unfold zc5;rw [if_neg h61];rfl)
  have KS:=Lib.hid (fun W hW=>zff s W hW hs)
  have KN:=Lib.hid (fun W=>zdl s 8 W (by omega))
  generalize za8 s=q at *
  generalize zbF s 8=nb at *
  obtain ⟨x,y,f⟩:=q
  generalize hv:zkC s=v
  have HV:=Lib.hid hv
  clear hv
  go_enter Tryz.func31,Tryz.ntmps31
  go_upto_region 1 with (fail)
  have A0:Blk (w.alloc (.cells #[.int .u8 0, .string ⟨#[]⟩, .string ⟨#[]⟩] 57)) w.heap.size noItem.arr:=Blk.new w noItem.arr 57
  have D0:=(Below.refl w.heap.size w).alloc (Nat.le_refl _) (.cells #[.int .u8 0, .string ⟨#[]⟩, .string ⟨#[]⟩] 57)
  generalize w.alloc _=W0 at A0 D0 ⊢
  have L0:=hL.below D0
  have S0:=D0.size
  obtain ⟨g,hg⟩:∃ g,g=w.heap.size:=⟨_,rfl⟩
  have G0:w.heap.size≤g:=by omega
  rw [← hg] at A0 ⊢
  clear hg
  have P1:=A0.plain
  have F1:=A0.of
  have L1:=A0.lt
  have h3:s=[]∨(∃ a,s=[a])∨∃ a b r,s=a :: b :: r:=by
    rcases s with _ | ⟨a,_ | ⟨b,r⟩⟩
    · exact .inl rfl
    · exact .inr (.inl ⟨a,rfl⟩)
    · exact .inr (.inr ⟨a,b,r,rfl⟩)
  rcases h3 with h3 | ⟨a,h3⟩ | ⟨a,b,r,h3⟩
  case' inr.inr=>have hb:((b.toNat:Int) == 61)=false:=zw8 (fun e=>h61 (by rw [h3,e];rfl))
  case inl=>
    subst h3
    clear h61
    have HJ:=Lib.hid (HI.out.trans (if_neg (by decide)))
    clear HI
    go_upto_region 10 with (go_at_call 62;refine zes (KS.out _ L0) ?_;intro n)
    have D1:=below_drewN D0 n
    have A1:=A0.step (below_drewN (Below.refl _ _) n)
    generalize W0.drewN n=W1 at D1 A1 ⊢
    clear P1 F1 L1 A0 D0
    have P1:=A1.plain
    have F1:=A1.of
    have L1:=A1.lt
    by_cases hf:(f == 0)=true
    · have HT:=Lib.hid (show zc5 ([]:List UInt8)=some ⟨4,[],[]⟩ by rw [HJ.out,if_pos hf])
      clear HJ
      go_wp2
      exact bodyPost_ret (zaF Tryz.results31 _ _ g ⟨4,[],[]⟩ rfl (A1.set _)) rfl (Ret.oneItem HV.out HT.out (zab D1 G0 _))
    have HK:=Lib.hid (HJ.out.trans (if_neg hf))
    replace hf:(f == 0)=false:=by simpa using hf
    clear HJ
    cases nb with
    | true=>
      go_wp2_with (go_at_call 61;refine zae (KN.out _) ?_)
      exact bodyPost_ret (zaF Tryz.results31 _ _ g ⟨3,[],[]⟩ rfl (A1.set _)) rfl (Ret.oneItem HV.out (by rw [HK.out];simp) (zab D1 G0 _))
    | false=>
      go_wp2_with (go_at_call 61;refine zae (KN.out _) ?_)
      exact bodyPost_ret (zaF Tryz.results31 _ _ g noItem rfl (A1.set _)) rfl (Ret.noItem HV.out (by rw [HK.out];simp) (zab D1 G0 _))
  case' inr.inl=>(rw [h3];clear h61;go_upto_region 7 with (fail);rw [← h3];clear h3)
  case' inr.inr=>(rw [h3];clear h61;go_upto_region 7 with (fail);rw [← h3];clear h3)
  all_goals
    by_cases hd:s=[68,67,84]
    · try exact absurd hd (by decide)
      have h1:(s == [68,67,84])=true:=by simpa using hd
      have HT:=Lib.hid (show zc5 s=some ⟨5,[],[]⟩ by rw [HI.out,if_pos hd])
      clear HI hd
      go_wp2
      exact bodyPost_ret (zaF Tryz.results31 _ _ g ⟨5,[],[]⟩ rfl (A0.set _)) rfl (Ret.oneItem HV.out HT.out (zab D0 G0 _))
    have h1:(s == [68,67,84])=false:=by simpa using hd
    have HJ:=Lib.hid (HI.out.trans (if_neg hd))
    clear HI hd
    go_upto_region 10 with (go_at_call 62;refine zes (KS.out _ L0) ?_;intro n)
    have D1:=below_drewN D0 n
    have A1:=A0.step (below_drewN (Below.refl _ _) n)
    generalize W0.drewN n=W1 at D1 A1 ⊢
    clear P1 F1 L1 A0 D0 h1
    have P1:=A1.plain
    have F1:=A1.of
    have L1:=A1.lt
    by_cases hf:(f == 0)=true
    · have HT:=Lib.hid (show zc5 s=some ⟨4,s,[]⟩ by rw [HJ.out,if_pos hf])
      clear HJ
      go_wp2
      exact bodyPost_ret (zaF Tryz.results31 _ _ g ⟨4,s,[]⟩ rfl (A1.set _)) rfl (Ret.oneItem HV.out HT.out (zab D1 G0 _))
    have HK:=Lib.hid (HJ.out.trans (if_neg hf))
    replace hf:(f == 0)=false:=by simpa using hf
    clear HJ
    cases nb with
    | true=>
      go_wp2_with (go_at_call 61;refine zae (KN.out _) ?_)
      exact bodyPost_ret (zaF Tryz.results31 _ _ g ⟨3,s,[]⟩ rfl (A1.set _)) rfl (Ret.oneItem HV.out (by rw [HK.out];simp) (zab D1 G0 _))
    | false=>
      go_wp2_with (go_at_call 61;refine zae (KN.out _) ?_)
      exact bodyPost_ret (zaF Tryz.results31 _ _ g noItem rfl (A1.set _)) rfl (Ret.noItem HV.out (by rw [HK.out];simp) (zab D1 G0 _))
theorem zsy (s:List UInt8) (hs:s.length≤4000000000) (w:World) (hL:Laid w):Calls Tryz.prog 31 #[.string ⟨s.toArray⟩] w (Ret w (zkC s)):=by
  by_cases h:s[1]? = some 61
  · rcases s with _ | ⟨a,_ | ⟨b,r⟩⟩
    · cases h
    · cases h
    · have hb:b=61:=by simpa using h
      subst hb
      exact zxn a r (by simp at hs;omega) w hL
  · exact zxm s h hs w hL
end Go.Proofs.YtgoeedohgomodaaGreatDoor
namespace Go.Proofs.YtgoeedohgomodaaGreatDoor
open Go.RowKit Go.Sort
set_option maxRecDepth 100000
theorem zqp (c:UInt8) (l:List UInt8):(zap c l).length=l.count c+1:=by
  induction l with
  | nil=>rfl
  | cons x r ih=>
    by_cases hx:x=c
    · simp [zap,hx,ih]
    · rw [List.count_cons_of_ne hx]
      unfold zap
      rw [if_neg hx]
      have h1:=zey c r
      match h:zap c r with
      | []=>exact absurd h h1
      | a :: q=>rw [h] at ih;simpa using ih
theorem zgM (c:UInt8):∀ (k:Nat) (l:List UInt8),l.count c≤k→Lib.splitK [c] 0 k l=zap c l
  | 0,l,h=>by
    rw [Lib.splitK,zfF]
    have h1:=ze4 c l
    cases hf:(cutAt c l).2.2
    · simp
    · rw [hf] at h1;simp at h1;omega
  | k+1,l,h=>by
    rw [Lib.splitK,zfF]
    have h1:=ze4 c l
    cases hf:(cutAt c l).2.2
    · rw [if_pos (by rw [zc6,hf];rfl)];simp
    · rw [if_neg (by rw [zc6,hf];first | (simp;done) | (simp;omega)),(zhC c l hf).1,(zhC c l hf).2]
      rw [hf] at h1
      simp only [if_true] at h1 ⊢
      rw [zgM c k _ (by omega)]
theorem zou (c:UInt8) (k:Nat) (l:List UInt8):(Lib.splitB ⟨#[c]⟩ 0 k ⟨l.toArray⟩).map Value.string=(Lib.splitK [c] 0 k l).map fun q=>Value.string ⟨q.toArray⟩:=by
  have h:=Lib.splitB_data ⟨#[c]⟩ 0 k ⟨l.toArray⟩
  rw [← show _=Lib.splitK [c] 0 k l from h,List.map_map]
  rfl
theorem zvA (c:UInt8) (l:List UInt8):Lib.countB ⟨l.toArray⟩ ⟨#[c]⟩=l.count c:=by
  have hc:Lib.countB ⟨l.toArray⟩ ⟨#[c]⟩=Lib.count l [c]:=by rfl
  rw [hc,Lib.count,zfx c _ l (by omega)]
def ziK (ws:List (List UInt8)):Array Value:=(ws.map fun q=>Value.string ⟨q.toArray⟩).toArray
theorem zkQ (c:UInt8) (l:List UInt8) (w:World) (hL:Laid w) (hl:l.length≤4000000000):Calls Tryz.prog 29 #[.string ⟨l.toArray⟩, .string ⟨#[c]⟩] w fun e w'=>
    e=.returned (.slice (some ⟨w.heap.size,0,none⟩) (zap c l).length (zap c l).length)∧w'=w.alloc (.cells (ziK (zap c l)) 9):=by
  obtain ⟨m,hm⟩:=hL.maxLen
  have h:=Tryz.strings_Split ⟨l.toArray⟩ ⟨#[c]⟩ m w (by simp [ByteArray.size];omega) hm (Nat.le_refl 1)
  rw [zou,zvA,zgM c _ l (Nat.le_refl _),← zqp] at h
  exact h
end Go.Proofs.YtgoeedohgomodaaGreatDoor
namespace Go.Proofs.YtgoeedohgomodaaGreatDoor
open Go.RowKit Go.Sort
set_option maxRecDepth 100000
attribute [local go_sem] znf
attribute [local go_sem ↓] zlr
theorem zcZ (c:UInt8):∀ (l:List UInt8),∀ x ∈ zap c l,x.length≤l.length
  | [],x,hx=>by
    have:x=[]:=by simpa [zap] using hx
    rw [this];simp
  | y :: r,x,hx=>by
    have ih:=zcZ c r
    unfold zap at hx
    split at hx
    · rcases List.mem_cons.1 hx with rfl | hx
      · simp
      · have:=ih x hx;simp;omega
    · revert hx
      have hne:=zey c r
      match hm:zap c r with
      | []=>exact absurd hm hne
      | a :: q=>
        intro hx
        rw [hm] at ih
        rcases List.mem_cons.1 hx with rfl | hx
        · have:=ih a (by simp);simp;omega
        · have:=ih x (by simp [hx]);simp;omega
theorem zwD (s:List UInt8):Lib.hasPrefix s [80,61]=pEq s:=by
  unfold pEq
  rcases s with _ | ⟨a,_ | ⟨b,r⟩⟩ <;> simp [Lib.hasPrefix,List.isPrefixOf]
  all_goals grind
theorem zac (w:World) (o:Obj):Below w.heap.size w (w.alloc o):=(Below.refl _ _).alloc (Nat.le_refl _) _
theorem RetItms.err {w w':World} {r:(List ItemV × Int) × Int} {a n:Int} (h:r=(([],a),n)) (hb:Below w.heap.size w w'):RetItms w r (.returned (.tuple #[.slice none 0 0, .int .i64 a, .int .i64 n])) w':=by
  subst h
  exact ⟨none,0,rfl,Nat.le_refl _,Items.nil _ _ _,(fun _ h=>by cases h),hb⟩
theorem zrT {n i:Nat} {s:List UInt8} {x:ItemV} (h:zd0 n i s=some x) (h1:x.kind ≠ 1) (h8:x.kind ≠ 8):0 < i∧i+1 ≠ n:=by
  unfold zd0 at h
  split at h
  · split at h
    · injection h with h
      subst h
      by_cases h0:i=0
      · simp [h0] at h1
      · simp [h0] at h8
    · cases h
  · omega
theorem zqg {a b:Nat} {x y:Int} (hx:x=a) (hy:y=b):(x != y)=(a != b):=by
  subst hx;subst hy
  rw [Bool.eq_iff_iff]
  simp
  omega
set_option maxHeartbeats 8000000 in
theorem zeA (s:List UInt8) (hs:s.length≤4000000000) (w:World) (hL:Laid w):Calls Tryz.prog 11 #[.string ⟨s.toArray⟩] w (RetItms w (zag s)):=by
  have hsp:=Lib.hid (zkQ 32 s w hL hs)
  have hne:=zey 32 s
  have hsm:=Lib.hid (fun x hx=>Nat.le_trans (zcZ 32 s x hx) hs)
  have HO:=Lib.hid (show zag s=if 124 < (zap 32 s).length then (([],124),3) else if (zaC (zap 32 s) (zap 32 s) 0 []).2 ≠ 0 then zaC (zap 32 s) (zap 32 s) 0 [] else
    if (zap 32 s).length=1 then (([],1),4) else zaC (zap 32 s) (zap 32 s) 0 [] from rfl)
  generalize zag s=OUT at *
  generalize zap 32 s=ws at *
  go_enter Tryz.func11,Tryz.ntmps11
  go_upto_region 2 with (refine hsp.out.mono ?_;rintro e w1 ⟨rfl,hw1⟩;replace hw1:=Lib.hid hw1)
  replace hw1:=hw1.out
  have B1:Below w.heap.size w w1:=by rw [hw1];exact zac _ _
  have hs1:w.heap.size < w1.heap.size:=by rw [hw1];simp
  have S1:∀ k x,ws[k]? = some x→w1.cell? ⟨w.heap.size,k,none⟩=some (.string ⟨x.toArray⟩):=fun k x hx=>by
    rw [hw1,cell_of_row _ _ k _ _ (0,0) (heap_alloc_new w _)]
    unfold ziK
    rw [List.getElem?_toArray,List.getElem?_map,hx]
    rfl
  clear hw1 hsp
  have HL:=Lib.hid (fun (wr:World) (BW:Below w1.heap.size w1 wr)=>hL.below (zaa B1 BW))
  have hge:w.heap.size≤w1.heap.size:=by omega
  have HB:=Lib.hid B1
  obtain ⟨sb,hsb⟩:∃ b,b=w.heap.size:=⟨_,rfl⟩
  rw [← hsb] at hs1 S1 ⊢
  have HS:=Lib.hid (fun (wr:World) (BW:Below w1.heap.size w1 wr) k x (hx:ws[k]? = some x)=>show wr.cell? ⟨sb,k,none⟩=some (.string ⟨x.toArray⟩) from by rw [BW.cell (p:=⟨sb,k,none⟩) hs1];exact S1 k x hx)
  clear S1 hL B1 hsb
  by_cases h124:124 < ws.length
  · have HE:=Lib.hid (HO.out.trans (if_pos h124))
    have h1:(124:Int) < (ws.length:Int):=by omega
    clear HO h124
    go_wp2
    go_ret3
    exact RetItms.err HE.out HB.out
  have HO:=Lib.hid (HO.out.trans (if_neg h124))
  have h1:¬ (124:Int) < (ws.length:Int):=by omega
  have hlen:ws.length≤124:=by omega
  clear h124
  go_wp2
  go_loopw [21,7] (fun iv v wr=>∃ (i:Nat) (out:List ItemV),i≤ws.length∧iv=.int .i64 i∧zaC ws ws 0 []=zaC ws (ws.drop i) i out∧out.length=i∧GOut w1.heap.size wr 57 3 v (out.map ItemV.arr)∧Below w1.heap.size w1 wr) (fun iv _ _=>ws.length - (intOf iv).toNat)
  case atStart=>exact ⟨0,[],Nat.zero_le _,rfl,rfl,rfl,GOut.nil _ _ _ _,Below.refl _ _⟩
  case round=>
    obtain ⟨i,out,hi,rfl,hgo,hol,O,BW⟩:=hrel
    have HG:=Lib.hid hgo
    have HOL:=Lib.hid hol
    have BB:=zaa HB.out BW
    clear hgo hol
    by_cases hin:i=ws.length
    · have h2:¬ ((i:Int) < (ws.length:Int)):=by omega
      obtain ⟨A3,c3,e3,hl3,hI3,hge3,_⟩:=O.form (zhe out)
      rw [List.length_map] at e3 hl3
      subst e3
      have HG:=Lib.hid (show zaC ws ws 0 []=((out,0),0) by rw [HG.out,hin,List.drop_length];rfl)
      have HO:=Lib.hid (HO.out.trans (if_neg (by rw [HG.out];simp)))
      by_cases h1n:ws.length=1
      · have HE:=Lib.hid (HO.out.trans (if_pos h1n))
        have h3:((ws.length:Int) == 1)=true:=by simp;omega
        clear HO HG O
        go_wp2
        go_ret3
        exact RetItms.err HE.out BB
      · have HE:=Lib.hid ((HO.out.trans (if_neg h1n)).trans HG.out)
        have h3:((ws.length:Int) == 1)=false:=by simp;omega
        clear HO HG O
        go_wp2
        go_ret3
        rw [HE.out]
        exact ⟨A3,c3,rfl,hl3,hI3,(fun a ha=>Nat.le_trans hge (hge3 a ha)),BB⟩
    have hil:i < ws.length:=by omega
    clear hin
    have hlt:(i:Int) < (ws.length:Int):=by omega
    obtain ⟨x,hx⟩:∃ x,ws[i]? = some x:=⟨_,List.getElem?_eq_getElem hil⟩
    have hxl:=hsm.out x (List.mem_of_getElem? hx)
    have hc:=HS.out wr BW i x hx
    have HD:=Lib.hid (show ws.drop i=x :: ws.drop (i+1) from by
      rw [List.drop_eq_getElem_cons hil];congr 1;exact (List.getElem?_eq_some_iff.1 hx).2)
    clear hx
    go_upto_region 9 with (fail)
    go_upto_region 11 with (fail)
    have A0:Blk (wr.alloc (.cells #[.int .u8 0, .string ⟨#[]⟩, .string ⟨#[]⟩] 57)) wr.heap.size noItem.arr:=Blk.new wr noItem.arr 57
    have D0:=zac wr (.cells #[.int .u8 0, .string ⟨#[]⟩, .string ⟨#[]⟩] 57)
    obtain ⟨q,hq⟩:∃ q,q=wr.heap.size:=⟨_,rfl⟩
    rw [← hq] at A0
    rw [show (Value.pointer (some ⟨wr.heap.size,0,none⟩))=.pointer (some ⟨q,0,none⟩) by rw [hq]]
    generalize wr.alloc _=w2 at A0 D0 ⊢
    have hql:wr.heap.size≤q:=by omega
    have O2:=Lib.hid O
    have B2:=zaa BW D0
    clear O hc hq
    have L2:=HL.out w2 B2
    obtain ⟨wo,hwo⟩:∃ wo,zd0 ws.length i x=wo:=⟨_,rfl⟩
    go_cut [33] (fun e wx=>e=.bool (decide (i=0∨i+1=ws.length))∧wx=w2)
    case first=>
      by_cases h0:i=0
      · have e0:((i:Int) == 0)=true:=by simp [h0]
        go_wp2
        all_goals (go_meet;exact ⟨by simp [h0],rfl⟩)
      · have e0:((i:Int) == 0)=false:=by simp [h0]
        have e1:((i:Int) == (ws.length:Int) - 1)=decide (i+1=ws.length):=by
          by_cases h:i+1=ws.length
          · have:(i:Int)=(ws.length:Int) - 1:=by omega
            simp [h,this]
          · have:¬ (i:Int)=(ws.length:Int) - 1:=by omega
            simp [h,this]
        go_wp2
        all_goals (go_meet;exact ⟨by simp [h0],rfl⟩)
    case rest=>
    obtain ⟨rfl,rfl⟩:=hcut
    generalize wc=w2 at *
    go_upto_if 33 with (fail)
    have KI:=Lib.hid (zsy x hxl w2 L2)
    have KZ:=Lib.hid (zkI x w2 L2 hxl)
    go_cut [11] (fun e wx=>∃ y:ItemV,e=.bool wo.isSome∧(∀ z,wo=some z→y=z)∧Blk wx q y.arr∧Below wr.heap.size wr wx)
    case first=>
      clear O2 HG HOL HD HO HS
      by_cases hb:i=0∨i+1=ws.length
      · have h1:decide (i=0∨i+1=ws.length)=true:=by simpa using hb
        rw [h1]
        clear h1
        have HW:=Lib.hid (show wo=if zcf x 47 6 then some ⟨if i=0 then 1 else 8,(cutAt 47 x).1,(cutAt 47 x).2.1⟩ else none by rw [← hwo];unfold zd0;rw [if_pos hb])
        clear KI hwo
        generalize cutAt 47 x=z at *
        generalize zcf x 47 6=pb at *
        have KZ:=Lib.hid (show Calls Tryz.prog 30 #[.string ⟨x.toArray⟩] w2 fun e w3=>e=.returned (.tuple #[.string ⟨(if pb then z.1 else []).toArray⟩, .string ⟨(if pb then z.2.1 else []).toArray⟩, .bool pb])∧Below w2.heap.size w2 w3 from KZ.out.mono fun e w3 h=>h)
        obtain ⟨z1,z2,z3⟩:=z
        cases pb with
        | true=>
          simp only [if_pos] at KZ HW
          by_cases h0:i=0
          · have e0:¬ (0:Int) < (i:Int):=by omega
            have HV:=Lib.hid (show wo=some ⟨1,z1,z2⟩ by rw [HW.out,if_pos h0])
            clear h0 hb
            go_wp2_with (go_at_call 30;refine KZ.out.mono ?_;rintro e w3 ⟨rfl,b3⟩;have A3:=A0.step b3;have f0:=A3.frozen 0;have f1:=A3.frozen 1;have f2:=A3.frozen 2;have c0:=A3.cell 0;have c1:=A3.cell 1;have c2:=A3.cell 2)
            go_meet
            exact ⟨⟨1,z1,z2⟩,by rw [HV.out];rfl,(fun z hz=>by rw [HV.out] at hz;injection hz),((A3.setCell 1 _).setCell 2 _).setCell 0 _,zat (zat (zat (zaa D0 b3) hql _ _) hql _ _) hql _ _⟩
          · have e0:(0:Int) < (i:Int):=by omega
            have HV:=Lib.hid (show wo=some ⟨8,z1,z2⟩ by rw [HW.out,if_neg h0])
            clear h0 hb
            go_wp2_with (go_at_call 30;refine KZ.out.mono ?_;rintro e w3 ⟨rfl,b3⟩;have A3:=A0.step b3;have f0:=A3.frozen 0;have f1:=A3.frozen 1;have f2:=A3.frozen 2;have c0:=A3.cell 0;have c1:=A3.cell 1;have c2:=A3.cell 2)
            go_meet
            exact ⟨⟨8,z1,z2⟩,by rw [HV.out];rfl,(fun z hz=>by rw [HV.out] at hz;injection hz),(((A3.setCell 1 _).setCell 2 _).setCell 0 _).setCell 0 _,zat (zat (zat (zat (zaa D0 b3) hql _ _) hql _ _) hql _ _) hql _ _⟩
        | false=>
          have HV:=Lib.hid (show wo=none by rw [HW.out];rfl)
          simp only [Bool.false_eq_true,if_false] at KZ
          by_cases e0:(0:Int) < (i:Int)
          · clear hb
            go_wp2_with (go_at_call 30;refine KZ.out.mono ?_;rintro e w3 ⟨rfl,b3⟩;have A3:=A0.step b3;have f0:=A3.frozen 0;have f1:=A3.frozen 1;have f2:=A3.frozen 2;have c0:=A3.cell 0;have c1:=A3.cell 1;have c2:=A3.cell 2)
            go_meet
            exact ⟨⟨8,[],[]⟩,by rw [HV.out];rfl,(fun z hz=>by rw [HV.out] at hz;cases hz),(((A3.setCell 1 _).setCell 2 _).setCell 0 _).setCell 0 _,zat (zat (zat (zat (zaa D0 b3) hql _ _) hql _ _) hql _ _) hql _ _⟩
          · clear hb
            go_wp2_with (go_at_call 30;refine KZ.out.mono ?_;rintro e w3 ⟨rfl,b3⟩;have A3:=A0.step b3;have f0:=A3.frozen 0;have f1:=A3.frozen 1;have f2:=A3.frozen 2;have c0:=A3.cell 0;have c1:=A3.cell 1;have c2:=A3.cell 2)
            go_meet
            exact ⟨⟨1,[],[]⟩,by rw [HV.out];rfl,(fun z hz=>by rw [HV.out] at hz;cases hz),((A3.setCell 1 _).setCell 2 _).setCell 0 _,zat (zat (zat (zaa D0 b3) hql _ _) hql _ _) hql _ _⟩
      · have h1:decide (i=0∨i+1=ws.length)=false:=by simpa using hb
        rw [h1]
        clear h1
        have HW:=Lib.hid (show zc5 x=wo by rw [← hwo];unfold zd0;rw [if_neg hb])
        clear KZ hwo hb
        have KI:=Lib.hid (show Calls Tryz.prog 31 #[.string ⟨x.toArray⟩] w2 fun e w3=>e=.returned (.tuple #[.agg (wo.getD noItem).arr, .bool wo.isSome])∧Below w2.heap.size w2 w3 from KI.out.mono fun e w3 h=>by rw [← HW.out];exact h)
        go_wp2_with (go_at_call 31;refine KI.out.mono ?_;rintro e w3 ⟨rfl,b3⟩;have A3:=A0.step b3;have f0:=A3.plain;have f1:=A3.of;have f2:=A3.lt)
        go_meet
        exact ⟨wo.getD noItem,rfl,fun z hz=>by rw [hz];rfl,A3.set _,zab (zaa D0 b3) hql _⟩
    case rest=>
    obtain ⟨y,rfl,hz,A3,D3⟩:=hcut
    generalize wc=w3 at *
    have B3:=zaa BW D3
    have BB3:=zaa HB.out B3
    have O3:=Lib.hid (O2.out.step D3)
    clear KI KZ A0 D0 L2 B2
    cases wo with
    | none=>
      have HE:=Lib.hid (show zaC ws ws 0 []=(([],(i:Int)),4) by rw [HG.out,HD.out,zaC,hwo])
      have HE:=Lib.hid (show OUT=(([],(i:Int)),4) by rw [HO.out,if_pos (by rw [HE.out];simp),HE.out])
      clear HO HG HD hwo hz O2 O3
      go_wp2
      go_ret3
      exact RetItms.err HE.out BB3
    | some y'=>
    obtain rfl:=hz y' rfl
    clear hz O2
    have HY:=Lib.hid hwo
    have c0:w3.cell? ⟨q,0,none⟩=some (.int .u8 y.kind):=A3.cell 0
    go_upto_block 2 with (fail)
    obtain ⟨m,hm⟩:∃ m,zs6 ws i y out=m:=⟨_,rfl⟩
    have HM:=Lib.hid hm
    go_cut [12] (fun e wx=>e=.bool m∧wx=w3)
    case first=>
      have HMd:=Lib.hid (show zs6 ws i y out=if y.kind=2 then i != 1 else if y.kind=7 then i+2 != ws.length else if y.kind=6 then i+2 != ws.length && (i+3 != ws.length || !pEq (ws.getD (ws.length - 2) [])) else if y.kind=5 then (out.getD (i - 1) noItem).kind == 5 else false from rfl)
      have hmid:=fun h1 h8=>zrT HY.out h1 h8
      have HS3:=HS.out w3 B3
      have HO3:=O3.out
      have HOl:=HOL.out
      clear HO HG HD hwo O3 A3 D3 HL HY HS HOL hm
      by_cases k2:y.kind=2
      · have e2:(y.kind == 2)=true:=by simpa using k2
        have hm:m=(i != 1):=by rw [← HM.out,HMd.out,if_pos k2]
        have e1:((i:Int) != 1)=m:=by rw [hm];exact zqg rfl rfl
        clear HM HMd hm k2 HO3 HS3 HOl hmid
        go_wp2
        go_meet
        exact ⟨rfl,rfl⟩
      have HMd:=Lib.hid (HMd.out.trans (if_neg k2))
      have e2:(y.kind == 2)=false:=by simpa using k2
      by_cases k7:y.kind=7
      · have e7:(y.kind == 7)=true:=by simpa using k7
        have hw2:wrap64 ((ws.length:Int) - 2)=(ws.length:Int) - 2:=IntWalk.wrap64_in _ (by omega)
        have hm:m=(i+2 != ws.length):=by rw [← HM.out,HMd.out,if_pos k7]
        have e1:((i:Int) != (ws.length:Int) - 2)=m:=by rw [hm,Bool.eq_iff_iff];simp;omega
        clear HM HMd hm k7 k2 HO3 HS3 HOl hmid
        go_wp2
        go_meet
        exact ⟨rfl,rfl⟩
      have HMd:=Lib.hid (HMd.out.trans (if_neg k7))
      have e7:(y.kind == 7)=false:=by simpa using k7
      by_cases k6:y.kind=6
      · have e6:(y.kind == 6)=true:=by simpa using k6
        obtain ⟨hi0,hi1⟩:=hmid (by omega) (by omega)
        have hm:m=(i+2 != ws.length && (i+3 != ws.length || !pEq (ws.getD (ws.length - 2) []))):=by rw [← HM.out,HMd.out,if_pos k6]
        obtain ⟨x2,hx2⟩:∃ x2,ws[ws.length - 2]? = some x2:=⟨_,List.getElem?_eq_getElem (by omega)⟩
        have hg2:ws.getD (ws.length - 2) []=x2:=by rw [List.getD_eq_getElem?_getD,hx2];rfl
        rw [hg2] at hm
        have c2:=HS3 _ x2 hx2
        have hcast:((ws.length:Int) - 2).toNat=ws.length - 2:=by omega
        have hb1:¬ ((ws.length:Int) - 2 < 0):=by omega
        have KP:=Lib.hid (fun (W:World)=>(Tryz.strings_HasPrefix ⟨x2.toArray⟩ ⟨#[80,61]⟩ W).mono (R':=RetP W (.bool (pEq x2))) (by rintro e w' ⟨rfl,rfl⟩;exact ⟨by rw [← zwD],rfl⟩))
        obtain ⟨a,ha⟩:∃ a,(i+2 != ws.length)=a:=⟨_,rfl⟩
        obtain ⟨b,hb⟩:∃ b,(i+3 != ws.length)=b:=⟨_,rfl⟩
        rw [ha,hb] at hm
        have e1:((i:Int) != (ws.length:Int) - 2)=a:=by rw [← ha,Bool.eq_iff_iff];simp;omega
        have e3:((i:Int) != (ws.length:Int) - 3)=b:=by rw [← hb,Bool.eq_iff_iff];simp;omega
        have HMM:=Lib.hid hm
        generalize pEq x2=pb at *
        clear HM HMd hm k6 k7 k2 HO3 HS3 HOl hmid ha hb hx2 hg2
        cases a <;> cases b
        all_goals go_wp2_with (go_at_call 32;refine zae (KP.out _) ?_)
        all_goals (go_meet;exact ⟨by rw [HMM.out];first | rfl | (cases pb <;> rfl),rfl⟩)
      have HMd:=Lib.hid (HMd.out.trans (if_neg k6))
      have e6:(y.kind == 6)=false:=by simpa using k6
      by_cases k5:y.kind=5
      · have e5:(y.kind == 5)=true:=by simpa using k5
        obtain ⟨hi0,hi1⟩:=hmid (by omega) (by omega)
        obtain ⟨A4,c4,e4,hl4,hI4,hge4,_⟩:=HO3.form (zhe out)
        rw [List.length_map] at e4 hl4
        subst e4
        obtain ⟨b4,off4,hA4,hb4,hcl⟩:=hI4.get (k:=i - 1) (by rw [List.length_map];omega)
        subst hA4
        have c4:=hcl 0 (by omega)
        have hm:m=((out.getD (i - 1) noItem).kind == 5):=by rw [← HM.out,HMd.out,if_pos k5]
        have hoi:i - 1 < out.length:=by omega
        have hgd:out.getD (i - 1) noItem=out[i - 1]:=by rw [List.getD_eq_getElem?_getD,List.getElem?_eq_getElem hoi];rfl
        rw [hgd] at hm
        have c5:w3.cell? ⟨b4,off4+(i - 1) * 3,none⟩=some (.int .u8 (out[i - 1]).kind):=by
          rw [Nat.add_zero] at c4;rw [c4,List.getElem_map];rfl
        generalize out[i - 1]=z at *
        clear HM HMd k6 k7 k2 k5 HO3 HS3 hmid hcl c4 hI4 hge4 hgd
        have HMM:=Lib.hid hm
        clear hm
        go_wp2
        go_meet
        exact ⟨by rw [HMM.out],rfl⟩
      have hm:m=false:=by rw [← HM.out,HMd.out,if_neg k5]
      have e5:(y.kind == 5)=false:=by simpa using k5
      clear HM HMd k2 k7 k6 k5 HO3 HS3 HOl hmid
      subst hm
      go_wp2
      go_meet
      exact ⟨rfl,rfl⟩
    case rest=>
    obtain ⟨rfl,rfl⟩:=hcut
    generalize wc=w3 at *
    have HG2:=Lib.hid (show zaC ws ws 0 []=if m then (([],(i:Int)),9) else zaC ws (ws.drop (i+1)) (i+1) (out ++ [y]) by rw [HG.out,HD.out,zaC,hwo];simp only;rw [hm])
    clear HG HD hwo hm HM HS HY
    cases m with
    | true=>
      have HE:=Lib.hid (show OUT=(([],(i:Int)),9) by rw [HO.out,if_pos (by rw [HG2.out];simp),HG2.out];rfl)
      clear HO HG2 O3
      go_wp2
      go_ret3
      exact RetItms.err HE.out BB3
    | false=>
    have HG3:=Lib.hid (HG2.out.trans (if_neg (by decide)))
    clear HO HG2 c0
    have i1:zak w3 q 0:=⟨_,A3.is_itm⟩
    have i2:zar w3 q 0=y:=zam A3.is_itm
    have O4:=O3.out.alloc (.cells y.arr 57)
    have B4:=zaa B3 (zac w3 (.cells y.arr 57))
    have hq:=Blk.new w3 y.arr 57
    have HOl:=HOL.out
    have hol2:out.length≤124:=by omega
    go_wp2_with (at_builtin;refine zaK rfl (.tmp 98) (.tmp 100) _ 57 3 40 _ zfw rfl (by omega) Tryz.underlying23 rfl O4 rfl y.arr w3.heap.size 1 y.arr_size y.arr_one rfl hq.cell (by rw [List.length_map];unfold maxLen;omega) (by rw [List.length_map];omega) B4.size ?_;intro v5 W5 O5 g5)
    go_roundw
    case rel=>exact ⟨i+1,out ++ [y],by omega,by go_num,HG3.out,by rw [List.length_append,List.length_singleton];omega,by rw [List.map_append];exact O5,O4.below_grown g5 B4 (Nat.le_refl _) B4.size⟩
    case measure=>simp [intOf];omega
end Go.Proofs.YtgoeedohgomodaaGreatDoor
namespace Go.Proofs.YtgoeedohgomodaaGreatDoor
open Go.RowKit Go.Sort
set_option maxRecDepth 100000
def ItemV.short (x:ItemV):Prop:=x.name.length≤8000000∧x.trans.length≤8000000
theorem ItemV.short.small {x:ItemV} (h:x.short):x.small:=⟨by have:=h.1;omega,by have:=h.2;omega⟩
end Go.Proofs.YtgoeedohgomodaaGreatDoor
