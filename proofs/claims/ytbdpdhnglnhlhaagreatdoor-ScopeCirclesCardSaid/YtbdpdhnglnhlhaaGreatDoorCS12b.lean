import Derived.Test.YtbdpdhnglnhlhaaGreatDoorCA12
set_option linter.unusedSimpArgs false
set_option linter.unusedVariables false
set_option linter.unusedVariables false
set_option linter.unusedSimpArgs false
set_option maxRecDepth 100000
namespace Go.Proofs.Hk
open Go Go.Proofs
theorem suf12_6:sufC12 6=true:=by kernel_rfl
theorem suf12_7:sufC12 7=true:=by kernel_rfl
theorem suf12_8:sufC12 8=true:=by kernel_rfl
theorem suf12_9:sufC12 9=true:=by kernel_rfl
theorem suf12_10:sufC12 10=true:=by kernel_rfl
theorem suf12_11:sufC12 11=true:=by kernel_rfl
end Go.Proofs.Hk
