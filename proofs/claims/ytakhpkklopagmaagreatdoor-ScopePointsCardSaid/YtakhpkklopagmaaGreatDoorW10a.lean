import Derived.Test.YtakhpkklopagmaaGreatDoorW10
set_option linter.unusedSimpArgs false
set_option linter.unusedVariables false
set_option maxRecDepth 4000
namespace Go.Proofs.Hk
open Go Go.Proofs
theorem go10_0_0:allB 6 (fun k=>go10 0 0 k)=true:=by kernel_rfl
theorem go10_0_1:allB 6 (fun k=>go10 0 1 k)=true:=by kernel_rfl
theorem go10_0_2:allB 6 (fun k=>go10 0 2 k)=true:=by kernel_rfl
theorem go10_0_3:allB 6 (fun k=>go10 0 3 k)=true:=by kernel_rfl
theorem go10_0_4:allB 6 (fun k=>go10 0 4 k)=true:=by kernel_rfl
theorem go10_0_5:allB 6 (fun k=>go10 0 5 k)=true:=by kernel_rfl
theorem go10_1_0:allB 6 (fun k=>go10 1 0 k)=true:=by kernel_rfl
theorem go10_1_1:allB 6 (fun k=>go10 1 1 k)=true:=by kernel_rfl
theorem go10_1_2:allB 6 (fun k=>go10 1 2 k)=true:=by kernel_rfl
theorem go10_1_3:allB 6 (fun k=>go10 1 3 k)=true:=by kernel_rfl
theorem go10_1_4:allB 6 (fun k=>go10 1 4 k)=true:=by kernel_rfl
theorem go10_1_5:allB 6 (fun k=>go10 1 5 k)=true:=by kernel_rfl
end Go.Proofs.Hk
