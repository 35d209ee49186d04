import Derived.Test.YtbdpdhnglnhlhaaGreatDoorCA8
set_option linter.unusedSimpArgs false
set_option linter.unusedVariables false
set_option linter.unusedVariables false
set_option linter.unusedSimpArgs false
set_option maxRecDepth 100000
namespace Go.Proofs.Hk
open Go Go.Proofs
theorem suf8_0:sufC8 0=true:=by kernel_rfl
theorem suf8_1:sufC8 1=true:=by kernel_rfl
theorem suf8_2:sufC8 2=true:=by kernel_rfl
theorem suf8_3:sufC8 3=true:=by kernel_rfl
theorem suf8_4:sufC8 4=true:=by kernel_rfl
theorem suf8_5:sufC8 5=true:=by kernel_rfl
end Go.Proofs.Hk
