import Derived.Test.YtbdpdhnglnhlhaaGreatDoorCA10
set_option linter.unusedSimpArgs false
set_option linter.unusedVariables false
set_option linter.unusedVariables false
set_option linter.unusedSimpArgs false
set_option maxRecDepth 100000
namespace Go.Proofs.Hk
open Go Go.Proofs
theorem suf10_0:sufC10 0=true:=by kernel_rfl
theorem suf10_1:sufC10 1=true:=by kernel_rfl
theorem suf10_2:sufC10 2=true:=by kernel_rfl
theorem suf10_3:sufC10 3=true:=by kernel_rfl
theorem suf10_4:sufC10 4=true:=by kernel_rfl
theorem suf10_5:sufC10 5=true:=by kernel_rfl
end Go.Proofs.Hk
