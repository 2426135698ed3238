/- Lemmas and walks. -/
import Derived.Test.YtgoeedohgomodaaGreatDoorQk01
set_option linter.unusedSimpArgs false
set_option linter.unusedVariables false
namespace Go.Proofs.YtgoeedohgomodaaGreatDoor
open Go.RowKit
def zcw (a:Int):Int:=a % 129600000
def zfd (a b:Int):Int:=zcw (zcw a+zcw b)
def zdN (x y:Int):Int:=(x * y+1073741824) / 2147483648
def ziz (x n:Int):Int:=(x+n / 2) / n
def zbp (a:Int):Int:=(a * 6746518852+32400000) / 64800000
def zgi (u r n:Int):Int:=2147483648 - ziz (zdN u r) n
def zsa (u:Int):Int:=zgi u (zgi u (zgi u (zgi u (2147483648 - ziz u 110) 72) 42) 20) 6
def zjO (u:Int):Int:=zgi u (zgi u (zgi u (zgi u (2147483648 - ziz u 90) 56) 30) 12) 2
def zfU (a:Int):Int:=(zdN (zbp a) (zsa (zdN (zbp a) (zbp a)))+1) / 2
def zcP (a:Int):Int:=(zjO (zdN (zbp a) (zbp a))+1) / 2
def zaD (a:Int):Int:=if a≤16200000 then zfU a else zcP (32400000 - a)
def zj5 (b:Int):Int:=if b≤32400000 then zaD b else if b≤64800000 then zaD (64800000 - b) else if b≤97200000 then -zaD (b - 64800000) else -zaD (129600000 - b)
def zbH (a:Int):Int:=zj5 (zcw a)
def zb6 (a:Int):Int:=zbH (zfd a 32400000)
def zaw (x:Int):Int:=(x+536870912) / 1073741824
theorem zdD (a:Int):0≤zcw a∧zcw a < 129600000:=by unfold zcw;omega
theorem zjy {x y X Y:Int} (hx:0≤x) (hX:x≤X) (hy:0≤y) (hY:y≤Y):0≤x * y∧x * y≤X * Y:=
  ⟨Int.mul_nonneg hx hy,Int.mul_le_mul hX hY hy (by omega)⟩
theorem zgC {a:Int} (h0:0≤a) (h1:a≤16200000):0≤zbp a∧zbp a≤1686629713:=by unfold zbp;omega
theorem zhG {a:Int} (h0:0≤a) (h1:a≤16200000):0≤zdN (zbp a) (zbp a)∧zdN (zbp a) (zbp a)≤1324675879:=by
  obtain ⟨a0,a1⟩:=zgC h0 h1
  obtain ⟨m0,m1⟩:=zjy a0 a1 a0 a1
  unfold zdN
  omega
theorem zjz {u r:Int} (u0:0≤u) (u1:u≤1686629713) (r0:0≤r) (r1:r≤2147483648):0≤u * r∧u * r≤3622009745386307584∧0≤zdN u r∧zdN u r≤1686629713:=by
  obtain ⟨m0,m1⟩:=zjy u0 u1 r0 r1
  unfold zdN
  omega
theorem zmC {x n:Int} (x0:0≤x) (x1:x≤1686629713) (n2:2≤n) (n110:n≤110):0≤ziz x n∧ziz x n≤1686629770:=by
  unfold ziz
  constructor
  · exact Int.ediv_nonneg (by omega) (by omega)
  · have h:(x+n / 2) / n≤x+n / 2:=Int.ediv_le_self _ (by omega)
    omega
theorem zfe {u r n:Int} (u0:0≤u) (u1:u≤1686629713) (r0:0≤r) (r1:r≤2147483648) (n2:2≤n) (n110:n≤110):0≤zgi u r n∧zgi u r n≤2147483648:=by
  obtain ⟨_,_,m0,m1⟩:=zjz u0 u1 r0 r1
  obtain ⟨d0,d1⟩:=zmC m0 m1 n2 n110
  unfold zgi
  omega
theorem zp4 {u n:Int} (u0:0≤u) (u1:u≤1686629713) (n2:2≤n) (n110:n≤110):0≤2147483648 - ziz u n∧2147483648 - ziz u n≤2147483648:=by
  obtain ⟨d0,d1⟩:=zmC u0 u1 n2 n110
  omega
theorem zuG {u:Int} (u0:0≤u) (u1:u≤1686629713):0≤zsa u∧zsa u≤2147483648:=by
  have a:=zp4 u0 u1 (n:=110) (by decide) (by decide)
  have b:=zfe u0 u1 a.1 a.2 (n:=72) (by decide) (by decide)
  have c:=zfe u0 u1 b.1 b.2 (n:=42) (by decide) (by decide)
  have d:=zfe u0 u1 c.1 c.2 (n:=20) (by decide) (by decide)
  exact zfe u0 u1 d.1 d.2 (n:=6) (by decide) (by decide)
theorem zrn {u:Int} (u0:0≤u) (u1:u≤1686629713):0≤zjO u∧zjO u≤2147483648:=by
  have a:=zp4 u0 u1 (n:=90) (by decide) (by decide)
  have b:=zfe u0 u1 a.1 a.2 (n:=56) (by decide) (by decide)
  have c:=zfe u0 u1 b.1 b.2 (n:=30) (by decide) (by decide)
  have d:=zfe u0 u1 c.1 c.2 (n:=12) (by decide) (by decide)
  exact zfe u0 u1 d.1 d.2 (n:=2) (by decide) (by decide)
theorem zuF {a:Int} (h0:0≤a) (h1:a≤16200000):0≤zfU a∧zfU a≤1073741824:=by
  obtain ⟨a0,a1⟩:=zgC h0 h1
  obtain ⟨u0,u1⟩:=zhG h0 h1
  obtain ⟨r0,r1⟩:=zuG u0 (by omega)
  obtain ⟨_,_,m0,m1⟩:=zjz a0 a1 r0 r1
  unfold zfU
  omega
theorem zrm {a:Int} (h0:0≤a) (h1:a≤16200000):0≤zcP a∧zcP a≤1073741824:=by
  obtain ⟨u0,u1⟩:=zhG h0 h1
  obtain ⟨r0,r1⟩:=zrn u0 (by omega)
  unfold zcP
  omega
theorem zbA {a:Int} (h0:0≤a) (h1:a≤32400000):0≤zaD a∧zaD a≤1073741824:=by
  unfold zaD
  split
  · exact zuF h0 (by omega)
  · exact zrm (by omega) (by omega)
theorem zwy {b:Int} (h0:0≤b) (h1:b < 129600000):-1073741824≤zj5 b∧zj5 b≤1073741824:=by
  unfold zj5
  split
  · have:=zbA (a:=b) h0 (by omega);omega
  · split
    · have:=zbA (a:=64800000 - b) (by omega) (by omega);omega
    · split
      · have:=zbA (a:=b - 64800000) (by omega) (by omega);omega
      · have:=zbA (a:=129600000 - b) (by omega) (by omega);omega
theorem zbI (a:Int):-1073741824≤zbH a∧zbH a≤1073741824:=zwy (zdD a).1 (zdD a).2
theorem zb2 (a:Int):-1073741824≤zb6 a∧zb6 a≤1073741824:=zbI _
theorem zwK {x y A:Int} (hA:0≤A) (hx:-A≤x∧x≤A) (hy:-A≤y∧y≤A):-(A * A)≤x * y∧x * y≤A * A:=by
  have h1:x.natAbs≤A.natAbs:=by omega
  have h2:y.natAbs≤A.natAbs:=by omega
  have h3:=Nat.mul_le_mul h1 h2
  have e1:(x * y).natAbs=x.natAbs * y.natAbs:=Int.natAbs_mul x y
  have e2:(A * A).natAbs=A.natAbs * A.natAbs:=Int.natAbs_mul A A
  have h0:0≤A * A:=Int.mul_nonneg hA hA
  omega
theorem zbK {x y:Int} (hx:-1073741824≤x∧x≤1073741824) (hy:-1073741824≤y∧y≤1073741824):-1152921504606846976≤x * y∧x * y≤1152921504606846976:=zwK (A:=1073741824) (by decide) hx hy
theorem zcT {x:Int} (hx:-1152921504606846976≤x∧x≤1152921504606846976):-1073741824≤zaw x∧zaw x≤1073741824:=by unfold zaw;omega
abbrev V3:=Int × Int × Int
def ofS (lat lon:Int):V3:=(zaw (zb6 lat * zb6 lon),zaw (zb6 lat * zbH lon),zbH lat)
def zwT (lon:Int) (v:V3):Int:=zaw (-zbH lon * v.1+zb6 lon * v.2.1+0 * v.2.2)
def zsZ (lat lon:Int) (v:V3):Int:=zaw (-zaw (zbH lat * zb6 lon) * v.1+-zaw (zbH lat * zbH lon) * v.2.1+zb6 lat * v.2.2)
def upS (lat lon:Int) (v:V3):Int:=zaw ((ofS lat lon).1 * v.1+(ofS lat lon).2.1 * v.2.1+(ofS lat lon).2.2 * v.2.2)
def zd8 (plat plon qlat qlon:Int):V3:=(zwT plon (ofS qlat qlon),zsZ plat plon (ofS qlat qlon),upS plat plon (ofS qlat qlon))
def U3 (v:V3):Prop:=(-1073741824≤v.1∧v.1≤1073741824)∧(-1073741824≤v.2.1∧v.2.1≤1073741824)∧(-1073741824≤v.2.2∧v.2.2≤1073741824)
theorem zk4 (lat lon:Int):U3 (ofS lat lon):=
  ⟨zcT (zbK (zb2 _) (zb2 _)),zcT (zbK (zb2 _) (zbI _)),zbI _⟩
theorem zjM {a b c:Int} {v:V3} (ha:-1073741824≤a∧a≤1073741824) (hb:-1073741824≤b∧b≤1073741824) (hc:-1073741824≤c∧c≤1073741824) (hv:U3 v):
    (-1152921504606846976≤a * v.1∧a * v.1≤1152921504606846976)∧(-1152921504606846976≤b * v.2.1∧b * v.2.1≤1152921504606846976)∧(-1152921504606846976≤c * v.2.2∧c * v.2.2≤1152921504606846976) ∧
    -3221225472≤zaw (a * v.1+b * v.2.1+c * v.2.2)∧zaw (a * v.1+b * v.2.1+c * v.2.2)≤3221225472:=by
  have h1:=zbK ha hv.1
  have h2:=zbK hb hv.2.1
  have h3:=zbK hc hv.2.2
  refine ⟨h1,h2,h3,?_⟩
  unfold zaw
  omega
theorem zk5 {x:Int} (h:-1073741824≤x∧x≤1073741824):-1073741824≤-x∧-x≤1073741824:=by omega
theorem znS (a b c d:Int):(-3221225472≤(zd8 a b c d).1∧(zd8 a b c d).1≤3221225472)∧(-3221225472≤(zd8 a b c d).2.1∧(zd8 a b c d).2.1≤3221225472)∧(-3221225472≤(zd8 a b c d).2.2∧(zd8 a b c d).2.2≤3221225472):=by
  have hv:=zk4 c d
  have h1:=zjM (zk5 (zbI b)) (zb2 b) (c:=0) (by decide) hv
  have h2:=zjM (zk5 (zcT (zbK (zbI a) (zb2 b)))) (zk5 (zcT (zbK (zbI a) (zbI b)))) (zb2 a) hv
  have hp:=zk4 a b
  have h3:=zjM hp.1 hp.2.1 hp.2.2 hv
  exact ⟨h1.2.2.2,h2.2.2.2,h3.2.2.2⟩
def zcC (a c:Int):Int:=
  if a < 0 then -(((a.natAbs / c.natAbs+if c.natAbs - a.natAbs % c.natAbs < a.natAbs % c.natAbs then 1 else 0:Nat)):Int)
  else ((a.natAbs / c.natAbs+if c.natAbs - a.natAbs % c.natAbs≤a.natAbs % c.natAbs then 1 else 0:Nat):Int)
def zih (lat lon:Int):Bool:=decide (-32400000≤lat) && decide (lat≤32400000) && decide (-64800000 < lon) && decide (lon≤64800000)
def zc4 (lat lon:Int):Bool:=zih lat lon && (decide (-25200000≤lat) && decide (lat≤25200000))
def zdT (x y:Int):Bool:=decide (-2000000≤x) && decide (x≤2000000) && decide (-2000000≤y) && decide (y≤2000000)
def zxg (v:V3):(Int × Int) × Int:=
  if v.2.2≤0 then ((0,0),2) else if zdT (zcC (20626481 * v.1) v.2.2) (zcC (20626481 * v.2.1) v.2.2) then ((zcC (20626481 * v.1) v.2.2,zcC (20626481 * v.2.1) v.2.2),0) else ((0,0),2)
def zdL (olat olon qlat qlon:Int):(Int × Int) × Int:=
  if zc4 olat olon && zih qlat qlon then zxg (zd8 olat olon qlat qlon) else ((0,0),1)
end Go.Proofs.YtgoeedohgomodaaGreatDoor
