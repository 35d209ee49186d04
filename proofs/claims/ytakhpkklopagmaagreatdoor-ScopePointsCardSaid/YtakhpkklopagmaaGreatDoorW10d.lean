import Derived.Test.YtakhpkklopagmaaGreatDoorW10a
import Derived.Test.YtakhpkklopagmaaGreatDoorW10b
import Derived.Test.YtakhpkklopagmaaGreatDoorW10c
set_option linter.unusedSimpArgs false
set_option linter.unusedVariables false
set_option maxRecDepth 10000
namespace Go.Proofs.Hk
open Go Go.Proofs
theorem ev10 (i j k:Nat) (hi:i < 6) (hj:j < 6) (hk:k < 6):go10 i j k=true:=by
 match i,hi,j,hj with
 |0,_,0,_=>exact allB_is go10_0_0 k hk
 |0,_,1,_=>exact allB_is go10_0_1 k hk
 |0,_,2,_=>exact allB_is go10_0_2 k hk
 |0,_,3,_=>exact allB_is go10_0_3 k hk
 |0,_,4,_=>exact allB_is go10_0_4 k hk
 |0,_,5,_=>exact allB_is go10_0_5 k hk
 |1,_,0,_=>exact allB_is go10_1_0 k hk
 |1,_,1,_=>exact allB_is go10_1_1 k hk
 |1,_,2,_=>exact allB_is go10_1_2 k hk
 |1,_,3,_=>exact allB_is go10_1_3 k hk
 |1,_,4,_=>exact allB_is go10_1_4 k hk
 |1,_,5,_=>exact allB_is go10_1_5 k hk
 |2,_,0,_=>exact allB_is go10_2_0 k hk
 |2,_,1,_=>exact allB_is go10_2_1 k hk
 |2,_,2,_=>exact allB_is go10_2_2 k hk
 |2,_,3,_=>exact allB_is go10_2_3 k hk
 |2,_,4,_=>exact allB_is go10_2_4 k hk
 |2,_,5,_=>exact allB_is go10_2_5 k hk
 |3,_,0,_=>exact allB_is go10_3_0 k hk
 |3,_,1,_=>exact allB_is go10_3_1 k hk
 |3,_,2,_=>exact allB_is go10_3_2 k hk
 |3,_,3,_=>exact allB_is go10_3_3 k hk
 |3,_,4,_=>exact allB_is go10_3_4 k hk
 |3,_,5,_=>exact allB_is go10_3_5 k hk
 |4,_,0,_=>exact allB_is go10_4_0 k hk
 |4,_,1,_=>exact allB_is go10_4_1 k hk
 |4,_,2,_=>exact allB_is go10_4_2 k hk
 |4,_,3,_=>exact allB_is go10_4_3 k hk
 |4,_,4,_=>exact allB_is go10_4_4 k hk
 |4,_,5,_=>exact allB_is go10_4_5 k hk
 |5,_,0,_=>exact allB_is go10_5_0 k hk
 |5,_,1,_=>exact allB_is go10_5_1 k hk
 |5,_,2,_=>exact allB_is go10_5_2 k hk
 |5,_,3,_=>exact allB_is go10_5_3 k hk
 |5,_,4,_=>exact allB_is go10_5_4 k hk
 |5,_,5,_=>exact allB_is go10_5_5 k hk
theorem ScopePoints_spec (a:Int) (wa:(Lit.int .u8 a).wf=true) (b:Int) (wb:(Lit.int .u8 b).wf=true) (d:Int) (wd:(Lit.int .u8 d).wf=true):Pur cx 10 [.v (.int .u8 a),.v (.int .u8 b),.v (.int .u8 d)] (bb true):=by
 have h0:=u8_is' wa
 have h1:=u8_is' wb
 have h2:=u8_is' wd
 obtain ⟨i,hi,ei⟩:=tmod_is' h0.1 6 (by decide)
 obtain ⟨j,hj,ej⟩:=tmod_is' h1.1 6 (by decide)
 obtain ⟨k,hk,ek⟩:=tmod_is' h2.1 6 (by decide)
 exact cut_true lib1_ok (fn:=Tryz.f10) (code:=bodyOf Tryz.f10) rfl rfl rfl (fun Q s h=>pre10 a b d h0 h1 h2 i j k ei ej ek Q s _ h) (ev10 i j k hi hj hk) rfl
end Go.Proofs.Hk
