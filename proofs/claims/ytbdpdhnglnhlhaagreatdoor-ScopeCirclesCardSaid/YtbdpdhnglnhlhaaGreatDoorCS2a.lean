import Derived.Test.YtbdpdhnglnhlhaaGreatDoorCA2
set_option linter.unusedSimpArgs false
set_option linter.unusedVariables false
set_option linter.unusedVariables false
set_option linter.unusedSimpArgs false
set_option maxRecDepth 100000
namespace Go.Proofs.Hk
open Go Go.Proofs
theorem suf2_0:sufC2 0=true:=by kernel_rfl
theorem suf2_1:sufC2 1=true:=by kernel_rfl
end Go.Proofs.Hk
