import Derived.Test.YtbdpdhnglnhlhaaGreatDoorCA4
set_option linter.unusedSimpArgs false
set_option linter.unusedVariables false
set_option linter.unusedVariables false
set_option linter.unusedSimpArgs false
set_option maxRecDepth 100000
namespace Go.Proofs.Hk
open Go Go.Proofs
theorem suf4_0:sufC4 0=true:=by kernel_rfl
theorem suf4_1:sufC4 1=true:=by kernel_rfl
theorem suf4_2:sufC4 2=true:=by kernel_rfl
theorem suf4_3:sufC4 3=true:=by kernel_rfl
end Go.Proofs.Hk
