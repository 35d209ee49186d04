import Derived.Test.YtbdpdhnglnhlhaaGreatDoorG8
import Derived.Test.YtbdpdhnglnhlhaaGreatDoorCS1a
import Derived.Test.YtbdpdhnglnhlhaaGreatDoorCS2a
import Derived.Test.YtbdpdhnglnhlhaaGreatDoorCS3a
import Derived.Test.YtbdpdhnglnhlhaaGreatDoorCS4a
import Derived.Test.YtbdpdhnglnhlhaaGreatDoorCS5a
import Derived.Test.YtbdpdhnglnhlhaaGreatDoorCS6a
import Derived.Test.YtbdpdhnglnhlhaaGreatDoorCS7a
import Derived.Test.YtbdpdhnglnhlhaaGreatDoorCS7b
import Derived.Test.YtbdpdhnglnhlhaaGreatDoorCS8a
import Derived.Test.YtbdpdhnglnhlhaaGreatDoorCS8b
import Derived.Test.YtbdpdhnglnhlhaaGreatDoorCS9a
import Derived.Test.YtbdpdhnglnhlhaaGreatDoorCS9b
import Derived.Test.YtbdpdhnglnhlhaaGreatDoorCS10a
import Derived.Test.YtbdpdhnglnhlhaaGreatDoorCS10b
import Derived.Test.YtbdpdhnglnhlhaaGreatDoorCS11a
import Derived.Test.YtbdpdhnglnhlhaaGreatDoorCS11b
import Derived.Test.YtbdpdhnglnhlhaaGreatDoorCS12a
import Derived.Test.YtbdpdhnglnhlhaaGreatDoorCS12b
set_option linter.unusedSimpArgs false
set_option linter.unusedVariables false
set_option linter.unusedVariables false
set_option linter.unusedSimpArgs false
set_option maxRecDepth 100000
namespace Go.Proofs.Hk
open Go Go.Proofs
theorem sufAll1 (t:Nat) (h:t < 1):sufC1 t=true:=by
 match t,h with
 |0,_=>exact suf1_0
theorem circ1 (x y:Int) (hx0:0≤x∧x≤255) (hy0:0≤y∧y≤255) (hx:x.tmod 12=((0:Nat):Int)):Pur cx 3 [.v (.int .u8 x),.v (.int .u8 y)] (bb true):=
 circ (k:=1) (P:=ptC1) (st:=stC1) (st':=stC1) (j:=jC1) (jj:=jjC1) (fa:=faC1) (nm:=nmC1) 0 (by decide) rfl preA1 preB1 sufAll1 x y hx0 hy0 hx
theorem sufAll2 (t:Nat) (h:t < 2):sufC2 t=true:=by
 match t,h with
 |0,_=>exact suf2_0
 |1,_=>exact suf2_1
theorem circ2 (x y:Int) (hx0:0≤x∧x≤255) (hy0:0≤y∧y≤255) (hx:x.tmod 12=((1:Nat):Int)):Pur cx 3 [.v (.int .u8 x),.v (.int .u8 y)] (bb true):=
 circ (k:=2) (P:=ptC2) (st:=stC2) (st':=stD2) (j:=jC2) (jj:=jjC2) (fa:=faC2) (nm:=nmC2) 1 (by decide) rfl preA2 preB2 sufAll2 x y hx0 hy0 hx
theorem sufAll3 (t:Nat) (h:t < 3):sufC3 t=true:=by
 match t,h with
 |0,_=>exact suf3_0
 |1,_=>exact suf3_1
 |2,_=>exact suf3_2
theorem circ3 (x y:Int) (hx0:0≤x∧x≤255) (hy0:0≤y∧y≤255) (hx:x.tmod 12=((2:Nat):Int)):Pur cx 3 [.v (.int .u8 x),.v (.int .u8 y)] (bb true):=
 circ (k:=3) (P:=ptC3) (st:=stC3) (st':=stD3) (j:=jC3) (jj:=jjC3) (fa:=faC3) (nm:=nmC3) 2 (by decide) rfl preA3 preB3 sufAll3 x y hx0 hy0 hx
theorem sufAll4 (t:Nat) (h:t < 4):sufC4 t=true:=by
 match t,h with
 |0,_=>exact suf4_0
 |1,_=>exact suf4_1
 |2,_=>exact suf4_2
 |3,_=>exact suf4_3
theorem circ4 (x y:Int) (hx0:0≤x∧x≤255) (hy0:0≤y∧y≤255) (hx:x.tmod 12=((3:Nat):Int)):Pur cx 3 [.v (.int .u8 x),.v (.int .u8 y)] (bb true):=
 circ (k:=4) (P:=ptC4) (st:=stC4) (st':=stD4) (j:=jC4) (jj:=jjC4) (fa:=faC4) (nm:=nmC4) 3 (by decide) rfl preA4 preB4 sufAll4 x y hx0 hy0 hx
theorem sufAll5 (t:Nat) (h:t < 5):sufC5 t=true:=by
 match t,h with
 |0,_=>exact suf5_0
 |1,_=>exact suf5_1
 |2,_=>exact suf5_2
 |3,_=>exact suf5_3
 |4,_=>exact suf5_4
theorem circ5 (x y:Int) (hx0:0≤x∧x≤255) (hy0:0≤y∧y≤255) (hx:x.tmod 12=((4:Nat):Int)):Pur cx 3 [.v (.int .u8 x),.v (.int .u8 y)] (bb true):=
 circ (k:=5) (P:=ptC5) (st:=stC5) (st':=stD5) (j:=jC5) (jj:=jjC5) (fa:=faC5) (nm:=nmC5) 4 (by decide) rfl preA5 preB5 sufAll5 x y hx0 hy0 hx
theorem sufAll6 (t:Nat) (h:t < 6):sufC6 t=true:=by
 match t,h with
 |0,_=>exact suf6_0
 |1,_=>exact suf6_1
 |2,_=>exact suf6_2
 |3,_=>exact suf6_3
 |4,_=>exact suf6_4
 |5,_=>exact suf6_5
theorem circ6 (x y:Int) (hx0:0≤x∧x≤255) (hy0:0≤y∧y≤255) (hx:x.tmod 12=((5:Nat):Int)):Pur cx 3 [.v (.int .u8 x),.v (.int .u8 y)] (bb true):=
 circ (k:=6) (P:=ptC6) (st:=stC6) (st':=stD6) (j:=jC6) (jj:=jjC6) (fa:=faC6) (nm:=nmC6) 5 (by decide) rfl preA6 preB6 sufAll6 x y hx0 hy0 hx
theorem sufAll7 (t:Nat) (h:t < 7):sufC7 t=true:=by
 match t,h with
 |0,_=>exact suf7_0
 |1,_=>exact suf7_1
 |2,_=>exact suf7_2
 |3,_=>exact suf7_3
 |4,_=>exact suf7_4
 |5,_=>exact suf7_5
 |6,_=>exact suf7_6
theorem circ7 (x y:Int) (hx0:0≤x∧x≤255) (hy0:0≤y∧y≤255) (hx:x.tmod 12=((6:Nat):Int)):Pur cx 3 [.v (.int .u8 x),.v (.int .u8 y)] (bb true):=
 circ (k:=7) (P:=ptC7) (st:=stC7) (st':=stD7) (j:=jC7) (jj:=jjC7) (fa:=faC7) (nm:=nmC7) 6 (by decide) rfl preA7 preB7 sufAll7 x y hx0 hy0 hx
theorem sufAll8 (t:Nat) (h:t < 8):sufC8 t=true:=by
 match t,h with
 |0,_=>exact suf8_0
 |1,_=>exact suf8_1
 |2,_=>exact suf8_2
 |3,_=>exact suf8_3
 |4,_=>exact suf8_4
 |5,_=>exact suf8_5
 |6,_=>exact suf8_6
 |7,_=>exact suf8_7
theorem circ8 (x y:Int) (hx0:0≤x∧x≤255) (hy0:0≤y∧y≤255) (hx:x.tmod 12=((7:Nat):Int)):Pur cx 3 [.v (.int .u8 x),.v (.int .u8 y)] (bb true):=
 circ (k:=8) (P:=ptC8) (st:=stC8) (st':=stD8) (j:=jC8) (jj:=jjC8) (fa:=faC8) (nm:=nmC8) 7 (by decide) rfl preA8 preB8 sufAll8 x y hx0 hy0 hx
theorem sufAll9 (t:Nat) (h:t < 9):sufC9 t=true:=by
 match t,h with
 |0,_=>exact suf9_0
 |1,_=>exact suf9_1
 |2,_=>exact suf9_2
 |3,_=>exact suf9_3
 |4,_=>exact suf9_4
 |5,_=>exact suf9_5
 |6,_=>exact suf9_6
 |7,_=>exact suf9_7
 |8,_=>exact suf9_8
theorem circ9 (x y:Int) (hx0:0≤x∧x≤255) (hy0:0≤y∧y≤255) (hx:x.tmod 12=((8:Nat):Int)):Pur cx 3 [.v (.int .u8 x),.v (.int .u8 y)] (bb true):=
 circ (k:=9) (P:=ptC9) (st:=stC9) (st':=stD9) (j:=jC9) (jj:=jjC9) (fa:=faC9) (nm:=nmC9) 8 (by decide) rfl preA9 preB9 sufAll9 x y hx0 hy0 hx
theorem sufAll10 (t:Nat) (h:t < 10):sufC10 t=true:=by
 match t,h with
 |0,_=>exact suf10_0
 |1,_=>exact suf10_1
 |2,_=>exact suf10_2
 |3,_=>exact suf10_3
 |4,_=>exact suf10_4
 |5,_=>exact suf10_5
 |6,_=>exact suf10_6
 |7,_=>exact suf10_7
 |8,_=>exact suf10_8
 |9,_=>exact suf10_9
theorem circ10 (x y:Int) (hx0:0≤x∧x≤255) (hy0:0≤y∧y≤255) (hx:x.tmod 12=((9:Nat):Int)):Pur cx 3 [.v (.int .u8 x),.v (.int .u8 y)] (bb true):=
 circ (k:=10) (P:=ptC10) (st:=stC10) (st':=stD10) (j:=jC10) (jj:=jjC10) (fa:=faC10) (nm:=nmC10) 9 (by decide) rfl preA10 preB10 sufAll10 x y hx0 hy0 hx
theorem sufAll11 (t:Nat) (h:t < 11):sufC11 t=true:=by
 match t,h with
 |0,_=>exact suf11_0
 |1,_=>exact suf11_1
 |2,_=>exact suf11_2
 |3,_=>exact suf11_3
 |4,_=>exact suf11_4
 |5,_=>exact suf11_5
 |6,_=>exact suf11_6
 |7,_=>exact suf11_7
 |8,_=>exact suf11_8
 |9,_=>exact suf11_9
 |10,_=>exact suf11_10
theorem circ11 (x y:Int) (hx0:0≤x∧x≤255) (hy0:0≤y∧y≤255) (hx:x.tmod 12=((10:Nat):Int)):Pur cx 3 [.v (.int .u8 x),.v (.int .u8 y)] (bb true):=
 circ (k:=11) (P:=ptC11) (st:=stC11) (st':=stD11) (j:=jC11) (jj:=jjC11) (fa:=faC11) (nm:=nmC11) 10 (by decide) rfl preA11 preB11 sufAll11 x y hx0 hy0 hx
theorem sufAll12 (t:Nat) (h:t < 12):sufC12 t=true:=by
 match t,h with
 |0,_=>exact suf12_0
 |1,_=>exact suf12_1
 |2,_=>exact suf12_2
 |3,_=>exact suf12_3
 |4,_=>exact suf12_4
 |5,_=>exact suf12_5
 |6,_=>exact suf12_6
 |7,_=>exact suf12_7
 |8,_=>exact suf12_8
 |9,_=>exact suf12_9
 |10,_=>exact suf12_10
 |11,_=>exact suf12_11
theorem circ12 (x y:Int) (hx0:0≤x∧x≤255) (hy0:0≤y∧y≤255) (hx:x.tmod 12=((11:Nat):Int)):Pur cx 3 [.v (.int .u8 x),.v (.int .u8 y)] (bb true):=
 circ (k:=12) (P:=ptC12) (st:=stC12) (st':=stD12) (j:=jC12) (jj:=jjC12) (fa:=faC12) (nm:=nmC12) 11 (by decide) rfl preA12 preB12 sufAll12 x y hx0 hy0 hx
theorem ScopeCircles_spec (a:Int) (wa:(Lit.int .u8 a).wf=true) (b:Int) (wb:(Lit.int .u8 b).wf=true):Pur cx 3 [.v (.int .u8 a),.v (.int .u8 b)] (bb true):=by
 have ha:=u8_is wa
 have hb:=u8_is wb
 obtain ⟨r,hr,hK⟩:=tmod_is ha.1 12 (by decide)
 match r,hr with
 |0,_=>exact circ1 a b ha hb hK
 |1,_=>exact circ2 a b ha hb hK
 |2,_=>exact circ3 a b ha hb hK
 |3,_=>exact circ4 a b ha hb hK
 |4,_=>exact circ5 a b ha hb hK
 |5,_=>exact circ6 a b ha hb hK
 |6,_=>exact circ7 a b ha hb hK
 |7,_=>exact circ8 a b ha hb hK
 |8,_=>exact circ9 a b ha hb hK
 |9,_=>exact circ10 a b ha hb hK
 |10,_=>exact circ11 a b ha hb hK
 |11,_=>exact circ12 a b ha hb hK
end Go.Proofs.Hk
