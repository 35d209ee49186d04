import Derived.Test.YtbdpdhnglnhlhaaGreatDoorCA11
set_option linter.unusedSimpArgs false
set_option linter.unusedVariables false
set_option linter.unusedVariables false
set_option linter.unusedSimpArgs false
set_option maxRecDepth 100000
namespace Go.Proofs.Hk
open Go Go.Proofs
theorem suf11_6:sufC11 6=true:=by kernel_rfl
theorem suf11_7:sufC11 7=true:=by kernel_rfl
theorem suf11_8:sufC11 8=true:=by kernel_rfl
theorem suf11_9:sufC11 9=true:=by kernel_rfl
theorem suf11_10:sufC11 10=true:=by kernel_rfl
end Go.Proofs.Hk
