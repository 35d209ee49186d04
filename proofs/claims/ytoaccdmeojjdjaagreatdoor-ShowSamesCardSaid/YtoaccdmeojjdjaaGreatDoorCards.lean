/-
  DERIVED. GIVEN WITH THE SEED: THE CARDS: each row of YtoaccdmeojjdjaaGreatDoorRows.lean that lists a variable, with what it lists TIED to the program's text (the seventh form; the later family's looks); each row that meets fmt, with fmt's text TOLD by the authors' own Lean function (tested against real Go, not proved from fmt's source: count such statements apart). THE CARD IS WHAT COUNTS. Prove the row's statement (the work); the ties are given (YtoaccdmeojjdjaaGreatDoorTie.lean); close each card by the builder's one call (the guide's Derived/Test/ToyasCard.lean, 'card_holds'). Laid BY PROGRAM, IN A SANDBOX (cutbox-door.mjs). By AI agents, Wed Nov 11 2026. No macro, syntax, notation, axiom, sorry.
-/
import Derived.Test.YtoaccdmeojjdjaaGreatDoorRows
import GoSem.ClaimSeven
namespace Go.Proofs.YtoaccdmeojjdjaaGreatDoor
namespace Rows

/-- THE TIED CARD OF 'escarpmentlaw11.FoldConsts'. -/
def foldConstsCard : Claim7 := { stood := { row := foldConstsRow, standIns := [], harness := (true, "f295c77786cc26f15d2162f6662251d4dda4b5b0c2cf6e933f55cd2d3dcba958"), looks := true }, kinds := [], alts := [], laidByText := true, laidKinds := [.data, .data, .data, .sentinel, .sentinel], laidTests := true, laidLooks := .later }
def FoldConstsCardSaid : Prop := Claim7.holds Tryz.pinned (.plain (OpenSpec.ofChange foldConstsSpec)) foldConstsCard

/-- THE TIED CARD OF 'escarpmentlaw11.FoldQuos'. -/
def foldQuosCard : Claim7 := { stood := { row := foldQuosRow, standIns := [], harness := (true, "f295c77786cc26f15d2162f6662251d4dda4b5b0c2cf6e933f55cd2d3dcba958"), looks := true }, kinds := [], alts := [], laidByText := true, laidKinds := [.data, .data, .data, .sentinel, .sentinel], laidTests := true, laidLooks := .later }
def FoldQuosCardSaid : Prop := Claim7.holds Tryz.pinned (.plain (OpenSpec.ofChange foldQuosSpec)) foldQuosCard

/-- THE TIED CARD OF 'escarpmentlaw11.FoldNumbers'. -/
def foldNumbersCard : Claim7 := { stood := { row := foldNumbersRow, standIns := [], harness := (true, "f295c77786cc26f15d2162f6662251d4dda4b5b0c2cf6e933f55cd2d3dcba958"), looks := true }, kinds := [], alts := [], laidByText := true, laidKinds := [.data, .data, .data, .sentinel, .sentinel], laidTests := true, laidLooks := .later }
def FoldNumbersCardSaid : Prop := Claim7.holds Tryz.pinned (.plain (OpenSpec.ofChange foldNumbersSpec)) foldNumbersCard

/-- THE TIED CARD OF 'escarpmentlaw9.ShowRights'. -/
def showRightsCard : Claim7 := { stood := { row := showRightsRow, standIns := [], harness := (true, "f295c77786cc26f15d2162f6662251d4dda4b5b0c2cf6e933f55cd2d3dcba958"), looks := true }, kinds := [], alts := [], laidByText := true, laidKinds := [.data, .data, .data, .sentinel, .sentinel], laidTests := true, laidLooks := .later }
def ShowRightsCardSaid : Prop := Claim7.holds Tryz.pinned (.plain (OpenSpec.ofChange showRightsSpec)) showRightsCard

/-- THE TIED CARD OF 'escarpmentlaw9.ShowBack'. -/
def showBackCard : Claim7 := { stood := { row := showBackRow, standIns := [], harness := (true, "f295c77786cc26f15d2162f6662251d4dda4b5b0c2cf6e933f55cd2d3dcba958"), looks := true }, kinds := [], alts := [], laidByText := true, laidKinds := [.data, .data, .data, .sentinel, .sentinel], laidTests := true, laidLooks := .later }
def ShowBackCardSaid : Prop := Claim7.holds Tryz.pinned (.plain (OpenSpec.ofChange showBackSpec)) showBackCard

/-- THE TIED CARD OF 'escarpmentlaw9.ShowParsed'. -/
def showParsedCard : Claim7 := { stood := { row := showParsedRow, standIns := [], harness := (true, "f295c77786cc26f15d2162f6662251d4dda4b5b0c2cf6e933f55cd2d3dcba958"), looks := true }, kinds := [], alts := [], laidByText := true, laidKinds := [.data, .data, .data, .sentinel, .sentinel], laidTests := true, laidLooks := .later }
def ShowParsedCardSaid : Prop := Claim7.holds Tryz.pinned (.plain (OpenSpec.ofChange showParsedSpec)) showParsedCard

/-- THE TIED CARD OF 'escarpmentlaw9.ShowUnlike'. -/
def showUnlikeCard : Claim7 := { stood := { row := showUnlikeRow, standIns := [], harness := (true, "f295c77786cc26f15d2162f6662251d4dda4b5b0c2cf6e933f55cd2d3dcba958"), looks := true }, kinds := [], alts := [], laidByText := true, laidKinds := [.data, .data, .data, .sentinel, .sentinel], laidTests := true, laidLooks := .later }
def ShowUnlikeCardSaid : Prop := Claim7.holds Tryz.pinned (.plain (OpenSpec.ofChange showUnlikeSpec)) showUnlikeCard

/-- THE TIED CARD OF 'escarpmentlaw9.ShowSames'. -/
def showSamesCard : Claim7 := { stood := { row := showSamesRow, standIns := [], harness := (true, "f295c77786cc26f15d2162f6662251d4dda4b5b0c2cf6e933f55cd2d3dcba958"), looks := true }, kinds := [], alts := [], laidByText := true, laidKinds := [.data, .data, .data, .sentinel, .sentinel], laidTests := true, laidLooks := .later }
def ShowSamesCardSaid : Prop := Claim7.holds Tryz.pinned (.plain (OpenSpec.ofChange showSamesSpec)) showSamesCard

/-- THE SECOND FORM's CARD OF 'escarpmentlaw11.FoldConsts'. -/
def foldConstsUptoCard : Claim7 := { stood := { row := foldConstsUptoRow, standIns := [], harness := (true, "f295c77786cc26f15d2162f6662251d4dda4b5b0c2cf6e933f55cd2d3dcba958"), looks := true }, kinds := [], alts := [], laidByText := true, laidKinds := [.data, .data, .data, .sentinel, .sentinel], laidTests := true, laidLooks := .later }
def FoldConstsUptoCardSaid : Prop := Claim7.holds Tryz.pinned (.plain (OpenSpec.upto foldConstsSpec)) foldConstsUptoCard

/-- THE SECOND FORM's CARD OF 'escarpmentlaw11.FoldQuos'. -/
def foldQuosUptoCard : Claim7 := { stood := { row := foldQuosUptoRow, standIns := [], harness := (true, "f295c77786cc26f15d2162f6662251d4dda4b5b0c2cf6e933f55cd2d3dcba958"), looks := true }, kinds := [], alts := [], laidByText := true, laidKinds := [.data, .data, .data, .sentinel, .sentinel], laidTests := true, laidLooks := .later }
def FoldQuosUptoCardSaid : Prop := Claim7.holds Tryz.pinned (.plain (OpenSpec.upto foldQuosSpec)) foldQuosUptoCard

/-- THE SECOND FORM's CARD OF 'escarpmentlaw11.FoldNumbers'. -/
def foldNumbersUptoCard : Claim7 := { stood := { row := foldNumbersUptoRow, standIns := [], harness := (true, "f295c77786cc26f15d2162f6662251d4dda4b5b0c2cf6e933f55cd2d3dcba958"), looks := true }, kinds := [], alts := [], laidByText := true, laidKinds := [.data, .data, .data, .sentinel, .sentinel], laidTests := true, laidLooks := .later }
def FoldNumbersUptoCardSaid : Prop := Claim7.holds Tryz.pinned (.plain (OpenSpec.upto foldNumbersSpec)) foldNumbersUptoCard

/-- THE SECOND FORM's CARD OF 'escarpmentlaw9.ShowRights'. -/
def showRightsUptoCard : Claim7 := { stood := { row := showRightsUptoRow, standIns := [], harness := (true, "f295c77786cc26f15d2162f6662251d4dda4b5b0c2cf6e933f55cd2d3dcba958"), looks := true }, kinds := [], alts := [], laidByText := true, laidKinds := [.data, .data, .data, .sentinel, .sentinel], laidTests := true, laidLooks := .later }
def ShowRightsUptoCardSaid : Prop := Claim7.holds Tryz.pinned (.plain (OpenSpec.upto showRightsSpec)) showRightsUptoCard

/-- THE SECOND FORM's CARD OF 'escarpmentlaw9.ShowBack'. -/
def showBackUptoCard : Claim7 := { stood := { row := showBackUptoRow, standIns := [], harness := (true, "f295c77786cc26f15d2162f6662251d4dda4b5b0c2cf6e933f55cd2d3dcba958"), looks := true }, kinds := [], alts := [], laidByText := true, laidKinds := [.data, .data, .data, .sentinel, .sentinel], laidTests := true, laidLooks := .later }
def ShowBackUptoCardSaid : Prop := Claim7.holds Tryz.pinned (.plain (OpenSpec.upto showBackSpec)) showBackUptoCard

/-- THE SECOND FORM's CARD OF 'escarpmentlaw9.ShowParsed'. -/
def showParsedUptoCard : Claim7 := { stood := { row := showParsedUptoRow, standIns := [], harness := (true, "f295c77786cc26f15d2162f6662251d4dda4b5b0c2cf6e933f55cd2d3dcba958"), looks := true }, kinds := [], alts := [], laidByText := true, laidKinds := [.data, .data, .data, .sentinel, .sentinel], laidTests := true, laidLooks := .later }
def ShowParsedUptoCardSaid : Prop := Claim7.holds Tryz.pinned (.plain (OpenSpec.upto showParsedSpec)) showParsedUptoCard

/-- THE SECOND FORM's CARD OF 'escarpmentlaw9.ShowUnlike'. -/
def showUnlikeUptoCard : Claim7 := { stood := { row := showUnlikeUptoRow, standIns := [], harness := (true, "f295c77786cc26f15d2162f6662251d4dda4b5b0c2cf6e933f55cd2d3dcba958"), looks := true }, kinds := [], alts := [], laidByText := true, laidKinds := [.data, .data, .data, .sentinel, .sentinel], laidTests := true, laidLooks := .later }
def ShowUnlikeUptoCardSaid : Prop := Claim7.holds Tryz.pinned (.plain (OpenSpec.upto showUnlikeSpec)) showUnlikeUptoCard

/-- THE SECOND FORM's CARD OF 'escarpmentlaw9.ShowSames'. -/
def showSamesUptoCard : Claim7 := { stood := { row := showSamesUptoRow, standIns := [], harness := (true, "f295c77786cc26f15d2162f6662251d4dda4b5b0c2cf6e933f55cd2d3dcba958"), looks := true }, kinds := [], alts := [], laidByText := true, laidKinds := [.data, .data, .data, .sentinel, .sentinel], laidTests := true, laidLooks := .later }
def ShowSamesUptoCardSaid : Prop := Claim7.holds Tryz.pinned (.plain (OpenSpec.upto showSamesSpec)) showSamesUptoCard
end Rows
end Go.Proofs.YtoaccdmeojjdjaaGreatDoor
