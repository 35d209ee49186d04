import Derived.Test.YtakhpkklopagmaaGreatDoorW6
set_option linter.unusedSimpArgs false
set_option linter.unusedVariables false
set_option maxRecDepth 4000
namespace Go.Proofs.Hk
open Go Go.Proofs
theorem go6_0_0_0:go6 false false 0 0=true:=by kernel_rfl
theorem go6_0_0_1:go6 false false 0 1=true:=by kernel_rfl
theorem go6_0_0_2:go6 false false 0 2=true:=by kernel_rfl
theorem go6_0_0_3:go6 false false 0 3=true:=by kernel_rfl
theorem go6_0_0_4:go6 false false 0 4=true:=by kernel_rfl
theorem go6_0_1_0:go6 false false 1 0=true:=by kernel_rfl
theorem go6_0_1_1:go6 false false 1 1=true:=by kernel_rfl
theorem go6_0_1_2:go6 false false 1 2=true:=by kernel_rfl
theorem go6_0_1_3:go6 false false 1 3=true:=by kernel_rfl
theorem go6_0_1_4:go6 false false 1 4=true:=by kernel_rfl
theorem go6_0_2_0:go6 false false 2 0=true:=by kernel_rfl
theorem go6_0_2_1:go6 false false 2 1=true:=by kernel_rfl
theorem go6_0_2_2:go6 false false 2 2=true:=by kernel_rfl
theorem go6_0_2_3:go6 false false 2 3=true:=by kernel_rfl
theorem go6_0_2_4:go6 false false 2 4=true:=by kernel_rfl
theorem go6_0_3_0:go6 false false 3 0=true:=by kernel_rfl
theorem go6_0_3_1:go6 false false 3 1=true:=by kernel_rfl
theorem go6_0_3_2:go6 false false 3 2=true:=by kernel_rfl
theorem go6_0_3_3:go6 false false 3 3=true:=by kernel_rfl
theorem go6_0_3_4:go6 false false 3 4=true:=by kernel_rfl
theorem go6_0_4_0:go6 false false 4 0=true:=by kernel_rfl
theorem go6_0_4_1:go6 false false 4 1=true:=by kernel_rfl
theorem go6_0_4_2:go6 false false 4 2=true:=by kernel_rfl
theorem go6_0_4_3:go6 false false 4 3=true:=by kernel_rfl
theorem go6_0_4_4:go6 false false 4 4=true:=by kernel_rfl
theorem ev6_0 (i j:Nat) (hi:i < 5) (hj:j < 5):go6 false false i j=true:=by
 match i,hi,j,hj with
 |0,_,0,_=>exact go6_0_0_0
 |0,_,1,_=>exact go6_0_0_1
 |0,_,2,_=>exact go6_0_0_2
 |0,_,3,_=>exact go6_0_0_3
 |0,_,4,_=>exact go6_0_0_4
 |1,_,0,_=>exact go6_0_1_0
 |1,_,1,_=>exact go6_0_1_1
 |1,_,2,_=>exact go6_0_1_2
 |1,_,3,_=>exact go6_0_1_3
 |1,_,4,_=>exact go6_0_1_4
 |2,_,0,_=>exact go6_0_2_0
 |2,_,1,_=>exact go6_0_2_1
 |2,_,2,_=>exact go6_0_2_2
 |2,_,3,_=>exact go6_0_2_3
 |2,_,4,_=>exact go6_0_2_4
 |3,_,0,_=>exact go6_0_3_0
 |3,_,1,_=>exact go6_0_3_1
 |3,_,2,_=>exact go6_0_3_2
 |3,_,3,_=>exact go6_0_3_3
 |3,_,4,_=>exact go6_0_3_4
 |4,_,0,_=>exact go6_0_4_0
 |4,_,1,_=>exact go6_0_4_1
 |4,_,2,_=>exact go6_0_4_2
 |4,_,3,_=>exact go6_0_4_3
 |4,_,4,_=>exact go6_0_4_4
end Go.Proofs.Hk
