import Derived.Test.YtbdpdhnglnhlhaaGreatDoorCA5
set_option linter.unusedSimpArgs false
set_option linter.unusedVariables false
set_option linter.unusedVariables false
set_option linter.unusedSimpArgs false
set_option maxRecDepth 100000
namespace Go.Proofs.Hk
open Go Go.Proofs
theorem suf5_0:sufC5 0=true:=by kernel_rfl
theorem suf5_1:sufC5 1=true:=by kernel_rfl
theorem suf5_2:sufC5 2=true:=by kernel_rfl
theorem suf5_3:sufC5 3=true:=by kernel_rfl
theorem suf5_4:sufC5 4=true:=by kernel_rfl
end Go.Proofs.Hk
