import Derived.Test.YtbdpdhnglnhlhaaGreatDoorCA3
set_option linter.unusedSimpArgs false
set_option linter.unusedVariables false
set_option linter.unusedVariables false
set_option linter.unusedSimpArgs false
set_option maxRecDepth 100000
namespace Go.Proofs.Hk
open Go Go.Proofs
theorem suf3_0:sufC3 0=true:=by kernel_rfl
theorem suf3_1:sufC3 1=true:=by kernel_rfl
theorem suf3_2:sufC3 2=true:=by kernel_rfl
end Go.Proofs.Hk
