import Derived.Test.YtbbapmfmijiibaaGreatDoorE12
import Derived.Test.YtbbapmfmijiibaaGreatDoorCards
import Derived.Test.YtbbapmfmijiibaaGreatDoorTie
set_option linter.unusedSimpArgs false
set_option linter.unusedVariables false
namespace Go.Proofs.YtbbapmfmijiibaaGreatDoor
open Go Go.ChangeShapes Go.WideShapes Go.ChangeAt Go.RowKit Go.Proofs.Hk
theorem facts3:joinedFacts Tryz.pinned.checked.prog 3 Tryz.f3 Rows.lowerRightsSpec Rows.lowerRightsRow=true:=by kernel_rfl
end Go.Proofs.YtbbapmfmijiibaaGreatDoor
