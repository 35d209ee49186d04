import Derived.Test.YtbdpdhnglnhlhaaGreatDoorCA9
set_option linter.unusedSimpArgs false
set_option linter.unusedVariables false
set_option linter.unusedVariables false
set_option linter.unusedSimpArgs false
set_option maxRecDepth 100000
namespace Go.Proofs.Hk
open Go Go.Proofs
theorem suf9_6:sufC9 6=true:=by kernel_rfl
theorem suf9_7:sufC9 7=true:=by kernel_rfl
theorem suf9_8:sufC9 8=true:=by kernel_rfl
end Go.Proofs.Hk
