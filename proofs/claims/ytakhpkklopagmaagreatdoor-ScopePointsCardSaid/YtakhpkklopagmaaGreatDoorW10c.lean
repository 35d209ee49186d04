import Derived.Test.YtakhpkklopagmaaGreatDoorW10
set_option linter.unusedSimpArgs false
set_option linter.unusedVariables false
set_option maxRecDepth 4000
namespace Go.Proofs.Hk
open Go Go.Proofs
theorem go10_4_0:allB 6 (fun k=>go10 4 0 k)=true:=by kernel_rfl
theorem go10_4_1:allB 6 (fun k=>go10 4 1 k)=true:=by kernel_rfl
theorem go10_4_2:allB 6 (fun k=>go10 4 2 k)=true:=by kernel_rfl
theorem go10_4_3:allB 6 (fun k=>go10 4 3 k)=true:=by kernel_rfl
theorem go10_4_4:allB 6 (fun k=>go10 4 4 k)=true:=by kernel_rfl
theorem go10_4_5:allB 6 (fun k=>go10 4 5 k)=true:=by kernel_rfl
theorem go10_5_0:allB 6 (fun k=>go10 5 0 k)=true:=by kernel_rfl
theorem go10_5_1:allB 6 (fun k=>go10 5 1 k)=true:=by kernel_rfl
theorem go10_5_2:allB 6 (fun k=>go10 5 2 k)=true:=by kernel_rfl
theorem go10_5_3:allB 6 (fun k=>go10 5 3 k)=true:=by kernel_rfl
theorem go10_5_4:allB 6 (fun k=>go10 5 4 k)=true:=by kernel_rfl
theorem go10_5_5:allB 6 (fun k=>go10 5 5 k)=true:=by kernel_rfl
end Go.Proofs.Hk
