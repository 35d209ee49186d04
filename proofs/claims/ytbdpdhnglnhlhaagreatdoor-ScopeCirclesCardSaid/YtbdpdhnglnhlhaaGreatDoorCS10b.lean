import Derived.Test.YtbdpdhnglnhlhaaGreatDoorCA10
set_option linter.unusedSimpArgs false
set_option linter.unusedVariables false
set_option linter.unusedVariables false
set_option linter.unusedSimpArgs false
set_option maxRecDepth 100000
namespace Go.Proofs.Hk
open Go Go.Proofs
theorem suf10_6:sufC10 6=true:=by kernel_rfl
theorem suf10_7:sufC10 7=true:=by kernel_rfl
theorem suf10_8:sufC10 8=true:=by kernel_rfl
theorem suf10_9:sufC10 9=true:=by kernel_rfl
end Go.Proofs.Hk
