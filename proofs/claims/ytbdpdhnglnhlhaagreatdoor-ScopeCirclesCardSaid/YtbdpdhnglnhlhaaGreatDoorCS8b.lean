import Derived.Test.YtbdpdhnglnhlhaaGreatDoorCA8
set_option linter.unusedSimpArgs false
set_option linter.unusedVariables false
set_option linter.unusedVariables false
set_option linter.unusedSimpArgs false
set_option maxRecDepth 100000
namespace Go.Proofs.Hk
open Go Go.Proofs
theorem suf8_6:sufC8 6=true:=by kernel_rfl
theorem suf8_7:sufC8 7=true:=by kernel_rfl
end Go.Proofs.Hk
