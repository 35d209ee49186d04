import Derived.Test.YtbdpdhnglnhlhaaGreatDoorCA7
set_option linter.unusedSimpArgs false
set_option linter.unusedVariables false
set_option linter.unusedVariables false
set_option linter.unusedSimpArgs false
set_option maxRecDepth 100000
namespace Go.Proofs.Hk
open Go Go.Proofs
theorem suf7_0:sufC7 0=true:=by kernel_rfl
theorem suf7_1:sufC7 1=true:=by kernel_rfl
theorem suf7_2:sufC7 2=true:=by kernel_rfl
theorem suf7_3:sufC7 3=true:=by kernel_rfl
theorem suf7_4:sufC7 4=true:=by kernel_rfl
theorem suf7_5:sufC7 5=true:=by kernel_rfl
end Go.Proofs.Hk
