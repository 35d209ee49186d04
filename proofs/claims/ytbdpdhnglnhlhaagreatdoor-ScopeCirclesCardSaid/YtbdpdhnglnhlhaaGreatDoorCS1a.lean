import Derived.Test.YtbdpdhnglnhlhaaGreatDoorCA1
set_option linter.unusedSimpArgs false
set_option linter.unusedVariables false
set_option linter.unusedVariables false
set_option linter.unusedSimpArgs false
set_option maxRecDepth 100000
namespace Go.Proofs.Hk
open Go Go.Proofs
theorem suf1_0:sufC1 0=true:=by kernel_rfl
end Go.Proofs.Hk
