import Derived.Test.YtbdpdhnglnhlhaaGreatDoorCA9
set_option linter.unusedSimpArgs false
set_option linter.unusedVariables false
set_option linter.unusedVariables false
set_option linter.unusedSimpArgs false
set_option maxRecDepth 100000
namespace Go.Proofs.Hk
open Go Go.Proofs
theorem suf9_0:sufC9 0=true:=by kernel_rfl
theorem suf9_1:sufC9 1=true:=by kernel_rfl
theorem suf9_2:sufC9 2=true:=by kernel_rfl
theorem suf9_3:sufC9 3=true:=by kernel_rfl
theorem suf9_4:sufC9 4=true:=by kernel_rfl
theorem suf9_5:sufC9 5=true:=by kernel_rfl
end Go.Proofs.Hk
