import Derived.Test.YtbdpdhnglnhlhaaGreatDoorCA7
set_option linter.unusedSimpArgs false
set_option linter.unusedVariables false
set_option linter.unusedVariables false
set_option linter.unusedSimpArgs false
set_option maxRecDepth 100000
namespace Go.Proofs.Hk
open Go Go.Proofs
theorem suf7_6:sufC7 6=true:=by kernel_rfl
end Go.Proofs.Hk
