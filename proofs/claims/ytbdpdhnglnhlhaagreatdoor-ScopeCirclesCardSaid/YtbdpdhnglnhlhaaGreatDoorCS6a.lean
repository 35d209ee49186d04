import Derived.Test.YtbdpdhnglnhlhaaGreatDoorCA6
set_option linter.unusedSimpArgs false
set_option linter.unusedVariables false
set_option linter.unusedVariables false
set_option linter.unusedSimpArgs false
set_option maxRecDepth 100000
namespace Go.Proofs.Hk
open Go Go.Proofs
theorem suf6_0:sufC6 0=true:=by kernel_rfl
theorem suf6_1:sufC6 1=true:=by kernel_rfl
theorem suf6_2:sufC6 2=true:=by kernel_rfl
theorem suf6_3:sufC6 3=true:=by kernel_rfl
theorem suf6_4:sufC6 4=true:=by kernel_rfl
theorem suf6_5:sufC6 5=true:=by kernel_rfl
end Go.Proofs.Hk
