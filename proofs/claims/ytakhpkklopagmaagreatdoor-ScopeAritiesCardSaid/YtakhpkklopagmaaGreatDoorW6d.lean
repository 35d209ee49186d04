import Derived.Test.YtakhpkklopagmaaGreatDoorW6
set_option linter.unusedSimpArgs false
set_option linter.unusedVariables false
set_option maxRecDepth 4000
namespace Go.Proofs.Hk
open Go Go.Proofs
theorem go6_3_0_0:go6 true true 0 0=true:=by kernel_rfl
theorem go6_3_0_1:go6 true true 0 1=true:=by kernel_rfl
theorem go6_3_0_2:go6 true true 0 2=true:=by kernel_rfl
theorem go6_3_0_3:go6 true true 0 3=true:=by kernel_rfl
theorem go6_3_0_4:go6 true true 0 4=true:=by kernel_rfl
theorem go6_3_1_0:go6 true true 1 0=true:=by kernel_rfl
theorem go6_3_1_1:go6 true true 1 1=true:=by kernel_rfl
theorem go6_3_1_2:go6 true true 1 2=true:=by kernel_rfl
theorem go6_3_1_3:go6 true true 1 3=true:=by kernel_rfl
theorem go6_3_1_4:go6 true true 1 4=true:=by kernel_rfl
theorem go6_3_2_0:go6 true true 2 0=true:=by kernel_rfl
theorem go6_3_2_1:go6 true true 2 1=true:=by kernel_rfl
theorem go6_3_2_2:go6 true true 2 2=true:=by kernel_rfl
theorem go6_3_2_3:go6 true true 2 3=true:=by kernel_rfl
theorem go6_3_2_4:go6 true true 2 4=true:=by kernel_rfl
theorem go6_3_3_0:go6 true true 3 0=true:=by kernel_rfl
theorem go6_3_3_1:go6 true true 3 1=true:=by kernel_rfl
theorem go6_3_3_2:go6 true true 3 2=true:=by kernel_rfl
theorem go6_3_3_3:go6 true true 3 3=true:=by kernel_rfl
theorem go6_3_3_4:go6 true true 3 4=true:=by kernel_rfl
theorem go6_3_4_0:go6 true true 4 0=true:=by kernel_rfl
theorem go6_3_4_1:go6 true true 4 1=true:=by kernel_rfl
theorem go6_3_4_2:go6 true true 4 2=true:=by kernel_rfl
theorem go6_3_4_3:go6 true true 4 3=true:=by kernel_rfl
theorem go6_3_4_4:go6 true true 4 4=true:=by kernel_rfl
theorem ev6_3 (i j:Nat) (hi:i < 5) (hj:j < 5):go6 true true i j=true:=by
 match i,hi,j,hj with
 |0,_,0,_=>exact go6_3_0_0
 |0,_,1,_=>exact go6_3_0_1
 |0,_,2,_=>exact go6_3_0_2
 |0,_,3,_=>exact go6_3_0_3
 |0,_,4,_=>exact go6_3_0_4
 |1,_,0,_=>exact go6_3_1_0
 |1,_,1,_=>exact go6_3_1_1
 |1,_,2,_=>exact go6_3_1_2
 |1,_,3,_=>exact go6_3_1_3
 |1,_,4,_=>exact go6_3_1_4
 |2,_,0,_=>exact go6_3_2_0
 |2,_,1,_=>exact go6_3_2_1
 |2,_,2,_=>exact go6_3_2_2
 |2,_,3,_=>exact go6_3_2_3
 |2,_,4,_=>exact go6_3_2_4
 |3,_,0,_=>exact go6_3_3_0
 |3,_,1,_=>exact go6_3_3_1
 |3,_,2,_=>exact go6_3_3_2
 |3,_,3,_=>exact go6_3_3_3
 |3,_,4,_=>exact go6_3_3_4
 |4,_,0,_=>exact go6_3_4_0
 |4,_,1,_=>exact go6_3_4_1
 |4,_,2,_=>exact go6_3_4_2
 |4,_,3,_=>exact go6_3_4_3
 |4,_,4,_=>exact go6_3_4_4
end Go.Proofs.Hk
