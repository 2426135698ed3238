/- Lemmas and walks. -/
import Derived.Test.YtgoeedohgomodaaGreatDoorQk22
set_option linter.unusedSimpArgs false
set_option linter.unusedVariables false
namespace Go.Proofs.YtgoeedohgomodaaGreatDoor
open Go.RowKit
set_option maxRecDepth 100000
theorem zeX (a:Int) (h0:0≤a) (h1:a≤32400000) (w:World):Calls Tryz.prog 243 #[.int .i64 a] w (RetP w (.int .i64 (zaD a))):=by
  by_cases h:a≤16200000
  · have HQ:=Lib.hid (show zaD a=zfU a by unfold zaD;rw [if_pos h])
    have k:=Lib.hid (zuE a h0 h)
    generalize zaD a=out at HQ ⊢
    generalize zfU a=v at HQ k
    go_enter Tryz.func243,Tryz.ntmps243
    go_wp2_with (go_at_call 248;(with_reducible refine zae (k.out _) ?_))
    go_ret
    exact RetP.int HQ.out.symm rfl
  · have HQ:=Lib.hid (show zaD a=zcP (32400000 - a) by unfold zaD;rw [if_neg h])
    have k:=Lib.hid (zrl (32400000 - a) (by omega) (by omega))
    generalize zaD a=out at HQ ⊢
    generalize zcP (32400000 - a)=v at HQ k
    go_enter Tryz.func243,Tryz.ntmps243
    go_wp2_with (go_at_call 249;(with_reducible refine zae (k.out _) ?_))
    go_ret
    exact RetP.int HQ.out.symm rfl
theorem zgE (a:Int) (h0:-9223372036854775808≤a) (h1:a≤9223372036854775807) (w:World):Calls Tryz.prog 236 #[.int .i64 a] w (RetP w (.int .i64 (zbH a))):=by
  have nb:=zdD a
  have cn:=Lib.hid (zhg a h0 h1)
  have HS:=Lib.hid (show zbH a=zj5 (zcw a) from rfl)
  generalize zcw a=b at *
  generalize zbH a=out at *
  clear h0 h1
  obtain ⟨n0,n1⟩:=nb
  by_cases c0:b≤32400000
  · have HQ:=Lib.hid (show zj5 b=zaD (b) by unfold zj5;rw [if_pos c0])
    have k:=Lib.hid (zeX (b) (by omega) (by omega))
    have qi:=zbA (a:=b) (by omega) (by omega)
    generalize zaD (b)=v at *
    go_enter Tryz.func236,Tryz.ntmps236
    go_wp2_with (first | (go_at_call 242;(with_reducible refine zae (cn.out _) ?_)) | (go_at_call 243;(with_reducible refine zae (k.out _) ?_)))
    go_ret
    exact RetP.int (by rw [HS.out,HQ.out]) rfl
  by_cases c1:b≤64800000
  · have HQ:=Lib.hid (show zj5 b=zaD (64800000 - b) by unfold zj5;rw [if_neg c0,if_pos c1])
    have k:=Lib.hid (zeX (64800000 - b) (by omega) (by omega))
    have qi:=zbA (a:=64800000 - b) (by omega) (by omega)
    generalize zaD (64800000 - b)=v at *
    go_enter Tryz.func236,Tryz.ntmps236
    go_wp2_with (first | (go_at_call 242;(with_reducible refine zae (cn.out _) ?_)) | (go_at_call 243;(with_reducible refine zae (k.out _) ?_)))
    go_ret
    exact RetP.int (by rw [HS.out,HQ.out]) rfl
  by_cases c2:b≤97200000
  · have HQ:=Lib.hid (show zj5 b=-zaD (b - 64800000) by unfold zj5;rw [if_neg c0,if_neg c1,if_pos c2])
    have k:=Lib.hid (zeX (b - 64800000) (by omega) (by omega))
    have qi:=zbA (a:=b - 64800000) (by omega) (by omega)
    generalize zaD (b - 64800000)=v at *
    go_enter Tryz.func236,Tryz.ntmps236
    go_wp2_with (first | (go_at_call 242;(with_reducible refine zae (cn.out _) ?_)) | (go_at_call 243;(with_reducible refine zae (k.out _) ?_)))
    go_ret
    exact RetP.int (by rw [HS.out,HQ.out]) rfl
  have HQ:=Lib.hid (show zj5 b=-zaD (129600000 - b) by unfold zj5;rw [if_neg c0,if_neg c1,if_neg c2])
  have k:=Lib.hid (zeX (129600000 - b) (by omega) (by omega))
  have qi:=zbA (a:=129600000 - b) (by omega) (by omega)
  generalize zaD (129600000 - b)=v at *
  go_enter Tryz.func236,Tryz.ntmps236
  go_wp2_with (first | (go_at_call 242;(with_reducible refine zae (cn.out _) ?_)) | (go_at_call 243;(with_reducible refine zae (k.out _) ?_)))
  go_ret
  exact RetP.int (by rw [HS.out,HQ.out]) rfl
theorem zin (a:Int) (h0:-9223372036854775808≤a) (h1:a≤9223372036854775807) (w:World):Calls Tryz.prog 237 #[.int .i64 a] w (RetP w (.int .i64 (zb6 a))):=by
  have kt:=Lib.hid (zuy a 32400000 h0 h1 (by decide) (by decide))
  have nb:0≤zfd a 32400000∧zfd a 32400000 < 129600000:=zdD _
  have ks:=Lib.hid (zgE (zfd a 32400000) (by omega) (by omega))
  have HS:=Lib.hid (show zb6 a=zbH (zfd a 32400000) from rfl)
  generalize zfd a 32400000=t at *
  generalize zb6 a=out at *
  generalize zbH t=v at *
  clear h0 h1
  go_enter Tryz.func237,Tryz.ntmps237
  go_wp2_with (first | (go_at_call 244;(with_reducible refine zae (kt.out _) ?_)) | (go_at_call 236;(with_reducible refine zae (ks.out _) ?_)))
  go_ret
  exact RetP.int HS.out.symm rfl
end Go.Proofs.YtgoeedohgomodaaGreatDoor
