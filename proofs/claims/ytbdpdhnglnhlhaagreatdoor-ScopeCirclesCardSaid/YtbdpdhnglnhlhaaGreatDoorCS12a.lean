import Derived.Test.YtbdpdhnglnhlhaaGreatDoorCA12
set_option linter.unusedSimpArgs false
set_option linter.unusedVariables false
set_option linter.unusedVariables false
set_option linter.unusedSimpArgs false
set_option maxRecDepth 100000
namespace Go.Proofs.Hk
open Go Go.Proofs
theorem suf12_0:sufC12 0=true:=by kernel_rfl
theorem suf12_1:sufC12 1=true:=by kernel_rfl
theorem suf12_2:sufC12 2=true:=by kernel_rfl
theorem suf12_3:sufC12 3=true:=by kernel_rfl
theorem suf12_4:sufC12 4=true:=by kernel_rfl
theorem suf12_5:sufC12 5=true:=by kernel_rfl
end Go.Proofs.Hk
