import Derived.Test.YtbdpdhnglnhlhaaGreatDoorCA11
set_option linter.unusedSimpArgs false
set_option linter.unusedVariables false
set_option linter.unusedVariables false
set_option linter.unusedSimpArgs false
set_option maxRecDepth 100000
namespace Go.Proofs.Hk
open Go Go.Proofs
theorem suf11_0:sufC11 0=true:=by kernel_rfl
theorem suf11_1:sufC11 1=true:=by kernel_rfl
theorem suf11_2:sufC11 2=true:=by kernel_rfl
theorem suf11_3:sufC11 3=true:=by kernel_rfl
theorem suf11_4:sufC11 4=true:=by kernel_rfl
theorem suf11_5:sufC11 5=true:=by kernel_rfl
end Go.Proofs.Hk
