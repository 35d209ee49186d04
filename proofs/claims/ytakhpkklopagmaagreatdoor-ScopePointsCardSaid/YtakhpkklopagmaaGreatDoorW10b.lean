import Derived.Test.YtakhpkklopagmaaGreatDoorW10
set_option linter.unusedSimpArgs false
set_option linter.unusedVariables false
set_option maxRecDepth 4000
namespace Go.Proofs.Hk
open Go Go.Proofs
theorem go10_2_0:allB 6 (fun k=>go10 2 0 k)=true:=by kernel_rfl
theorem go10_2_1:allB 6 (fun k=>go10 2 1 k)=true:=by kernel_rfl
theorem go10_2_2:allB 6 (fun k=>go10 2 2 k)=true:=by kernel_rfl
theorem go10_2_3:allB 6 (fun k=>go10 2 3 k)=true:=by kernel_rfl
theorem go10_2_4:allB 6 (fun k=>go10 2 4 k)=true:=by kernel_rfl
theorem go10_2_5:allB 6 (fun k=>go10 2 5 k)=true:=by kernel_rfl
theorem go10_3_0:allB 6 (fun k=>go10 3 0 k)=true:=by kernel_rfl
theorem go10_3_1:allB 6 (fun k=>go10 3 1 k)=true:=by kernel_rfl
theorem go10_3_2:allB 6 (fun k=>go10 3 2 k)=true:=by kernel_rfl
theorem go10_3_3:allB 6 (fun k=>go10 3 3 k)=true:=by kernel_rfl
theorem go10_3_4:allB 6 (fun k=>go10 3 4 k)=true:=by kernel_rfl
theorem go10_3_5:allB 6 (fun k=>go10 3 5 k)=true:=by kernel_rfl
end Go.Proofs.Hk
