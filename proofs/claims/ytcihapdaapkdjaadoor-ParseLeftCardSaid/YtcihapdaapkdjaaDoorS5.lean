import Derived.Test.YtcihapdaapkdjaaDoorU5
import Derived.Test.YtcihapdaapkdjaaDoorH26
import Derived.Test.YtcihapdaapkdjaaDoorRows
set_option linter.unusedSimpArgs false
set_option linter.unusedVariables false
namespace Go.Proofs.YtcihapdaapkdjaaDoor
open Go Go.Proofs.Hk Go.RowKit Go.WideShapes Go.ChangeShapes
theorem Tryd.cells5 : Tryd.prog.cellsOf 5 = 1 := by kernel_rfl
theorem opBytes {H : Type} {enc : TypeId × Value → H} {w : World} : Opens enc Tryd.prog w 40 (List Int) LBy fun l => (∀ x ∈ l, (Lit.int .u8 x).wf = true) ∧ l.length ≤ maxLen :=
  opens_slice Tryd.underlying40 Tryd.cells5 (by decide) (opens_int Tryd.underlying5)
end Go.Proofs.YtcihapdaapkdjaaDoor
