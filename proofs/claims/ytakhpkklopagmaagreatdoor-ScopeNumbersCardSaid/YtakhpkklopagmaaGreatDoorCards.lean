/-
  DERIVED. GIVEN WITH THE SEED: THE CARDS: each row of YtakhpkklopagmaaGreatDoorRows.lean that lists a variable, with what it lists TIED to the program's text (the seventh form; the later family's looks); each row that meets fmt, with fmt's text TOLD by the authors' own Lean function (tested against real Go, not proved from fmt's source: count such statements apart). THE CARD IS WHAT COUNTS. Prove the row's statement (the work); the ties are given (YtakhpkklopagmaaGreatDoorTie.lean); close each card by the builder's one call (the guide's Derived/Test/ToyasCard.lean, 'card_holds'). Laid BY PROGRAM, IN A SANDBOX (cutbox-door.mjs). By AI agents, Wed Nov 11 2026. No macro, syntax, notation, axiom, sorry.
-/
import Derived.Test.YtakhpkklopagmaaGreatDoorRows
import GoSem.ClaimSeven
namespace Go.Proofs.YtakhpkklopagmaaGreatDoor
namespace Rows

/-- THE TIED CARD OF 'escarpmentlaw10.ScopeChecks'. -/
def scopeChecksCard : Claim7 := { stood := { row := scopeChecksRow, standIns := [], harness := (true, "3707631ec64c425b09ad11c54353d8e9b536ea55c2888c5cdcbe26ca48cd1ca8"), looks := true }, kinds := [], alts := [], laidByText := true, laidKinds := [.data, .data, .data, .sentinel, .sentinel], laidTests := true, laidLooks := .later }
def ScopeChecksCardSaid : Prop := Claim7.holds Tryz.pinned (.plain (OpenSpec.ofChange scopeChecksSpec)) scopeChecksCard

/-- THE TIED CARD OF 'escarpmentlaw10.ScopeCircles'. -/
def scopeCirclesCard : Claim7 := { stood := { row := scopeCirclesRow, standIns := [], harness := (true, "3707631ec64c425b09ad11c54353d8e9b536ea55c2888c5cdcbe26ca48cd1ca8"), looks := true }, kinds := [], alts := [], laidByText := true, laidKinds := [.data, .data, .data, .sentinel, .sentinel], laidTests := true, laidLooks := .later }
def ScopeCirclesCardSaid : Prop := Claim7.holds Tryz.pinned (.plain (OpenSpec.ofChange scopeCirclesSpec)) scopeCirclesCard

/-- THE TIED CARD OF 'escarpmentlaw10.ScopeNames'. -/
def scopeNamesCard : Claim7 := { stood := { row := scopeNamesRow, standIns := [], harness := (true, "3707631ec64c425b09ad11c54353d8e9b536ea55c2888c5cdcbe26ca48cd1ca8"), looks := true }, kinds := [], alts := [], laidByText := true, laidKinds := [.data, .data, .data, .sentinel, .sentinel], laidTests := true, laidLooks := .later }
def ScopeNamesCardSaid : Prop := Claim7.holds Tryz.pinned (.plain (OpenSpec.ofChange scopeNamesSpec)) scopeNamesCard

/-- THE TIED CARD OF 'escarpmentlaw10.ScopeArities'. -/
def scopeAritiesCard : Claim7 := { stood := { row := scopeAritiesRow, standIns := [], harness := (true, "3707631ec64c425b09ad11c54353d8e9b536ea55c2888c5cdcbe26ca48cd1ca8"), looks := true }, kinds := [], alts := [], laidByText := true, laidKinds := [.data, .data, .data, .sentinel, .sentinel], laidTests := true, laidLooks := .later }
def ScopeAritiesCardSaid : Prop := Claim7.holds Tryz.pinned (.plain (OpenSpec.ofChange scopeAritiesSpec)) scopeAritiesCard

/-- THE TIED CARD OF 'escarpmentlaw10.ScopeTwices'. -/
def scopeTwicesCard : Claim7 := { stood := { row := scopeTwicesRow, standIns := [], harness := (true, "3707631ec64c425b09ad11c54353d8e9b536ea55c2888c5cdcbe26ca48cd1ca8"), looks := true }, kinds := [], alts := [], laidByText := true, laidKinds := [.data, .data, .data, .sentinel, .sentinel], laidTests := true, laidLooks := .later }
def ScopeTwicesCardSaid : Prop := Claim7.holds Tryz.pinned (.plain (OpenSpec.ofChange scopeTwicesSpec)) scopeTwicesCard

/-- THE TIED CARD OF 'escarpmentlaw10.ScopeSites'. -/
def scopeSitesCard : Claim7 := { stood := { row := scopeSitesRow, standIns := [], harness := (true, "3707631ec64c425b09ad11c54353d8e9b536ea55c2888c5cdcbe26ca48cd1ca8"), looks := true }, kinds := [], alts := [], laidByText := true, laidKinds := [.data, .data, .data, .sentinel, .sentinel], laidTests := true, laidLooks := .later }
def ScopeSitesCardSaid : Prop := Claim7.holds Tryz.pinned (.plain (OpenSpec.ofChange scopeSitesSpec)) scopeSitesCard

/-- THE TIED CARD OF 'escarpmentlaw10.ScopeNumbers'. -/
def scopeNumbersCard : Claim7 := { stood := { row := scopeNumbersRow, standIns := [], harness := (true, "3707631ec64c425b09ad11c54353d8e9b536ea55c2888c5cdcbe26ca48cd1ca8"), looks := true }, kinds := [], alts := [], laidByText := true, laidKinds := [.data, .data, .data, .sentinel, .sentinel], laidTests := true, laidLooks := .later }
def ScopeNumbersCardSaid : Prop := Claim7.holds Tryz.pinned (.plain (OpenSpec.ofChange scopeNumbersSpec)) scopeNumbersCard

/-- THE TIED CARD OF 'escarpmentlaw10.ScopePoints'. -/
def scopePointsCard : Claim7 := { stood := { row := scopePointsRow, standIns := [], harness := (true, "3707631ec64c425b09ad11c54353d8e9b536ea55c2888c5cdcbe26ca48cd1ca8"), looks := true }, kinds := [], alts := [], laidByText := true, laidKinds := [.data, .data, .data, .sentinel, .sentinel], laidTests := true, laidLooks := .later }
def ScopePointsCardSaid : Prop := Claim7.holds Tryz.pinned (.plain (OpenSpec.ofChange scopePointsSpec)) scopePointsCard

/-- THE SECOND FORM's CARD OF 'escarpmentlaw10.ScopeChecks'. -/
def scopeChecksUptoCard : Claim7 := { stood := { row := scopeChecksUptoRow, standIns := [], harness := (true, "3707631ec64c425b09ad11c54353d8e9b536ea55c2888c5cdcbe26ca48cd1ca8"), looks := true }, kinds := [], alts := [], laidByText := true, laidKinds := [.data, .data, .data, .sentinel, .sentinel], laidTests := true, laidLooks := .later }
def ScopeChecksUptoCardSaid : Prop := Claim7.holds Tryz.pinned (.plain (OpenSpec.upto scopeChecksSpec)) scopeChecksUptoCard

/-- THE SECOND FORM's CARD OF 'escarpmentlaw10.ScopeCircles'. -/
def scopeCirclesUptoCard : Claim7 := { stood := { row := scopeCirclesUptoRow, standIns := [], harness := (true, "3707631ec64c425b09ad11c54353d8e9b536ea55c2888c5cdcbe26ca48cd1ca8"), looks := true }, kinds := [], alts := [], laidByText := true, laidKinds := [.data, .data, .data, .sentinel, .sentinel], laidTests := true, laidLooks := .later }
def ScopeCirclesUptoCardSaid : Prop := Claim7.holds Tryz.pinned (.plain (OpenSpec.upto scopeCirclesSpec)) scopeCirclesUptoCard

/-- THE SECOND FORM's CARD OF 'escarpmentlaw10.ScopeNames'. -/
def scopeNamesUptoCard : Claim7 := { stood := { row := scopeNamesUptoRow, standIns := [], harness := (true, "3707631ec64c425b09ad11c54353d8e9b536ea55c2888c5cdcbe26ca48cd1ca8"), looks := true }, kinds := [], alts := [], laidByText := true, laidKinds := [.data, .data, .data, .sentinel, .sentinel], laidTests := true, laidLooks := .later }
def ScopeNamesUptoCardSaid : Prop := Claim7.holds Tryz.pinned (.plain (OpenSpec.upto scopeNamesSpec)) scopeNamesUptoCard

/-- THE SECOND FORM's CARD OF 'escarpmentlaw10.ScopeArities'. -/
def scopeAritiesUptoCard : Claim7 := { stood := { row := scopeAritiesUptoRow, standIns := [], harness := (true, "3707631ec64c425b09ad11c54353d8e9b536ea55c2888c5cdcbe26ca48cd1ca8"), looks := true }, kinds := [], alts := [], laidByText := true, laidKinds := [.data, .data, .data, .sentinel, .sentinel], laidTests := true, laidLooks := .later }
def ScopeAritiesUptoCardSaid : Prop := Claim7.holds Tryz.pinned (.plain (OpenSpec.upto scopeAritiesSpec)) scopeAritiesUptoCard

/-- THE SECOND FORM's CARD OF 'escarpmentlaw10.ScopeTwices'. -/
def scopeTwicesUptoCard : Claim7 := { stood := { row := scopeTwicesUptoRow, standIns := [], harness := (true, "3707631ec64c425b09ad11c54353d8e9b536ea55c2888c5cdcbe26ca48cd1ca8"), looks := true }, kinds := [], alts := [], laidByText := true, laidKinds := [.data, .data, .data, .sentinel, .sentinel], laidTests := true, laidLooks := .later }
def ScopeTwicesUptoCardSaid : Prop := Claim7.holds Tryz.pinned (.plain (OpenSpec.upto scopeTwicesSpec)) scopeTwicesUptoCard

/-- THE SECOND FORM's CARD OF 'escarpmentlaw10.ScopeSites'. -/
def scopeSitesUptoCard : Claim7 := { stood := { row := scopeSitesUptoRow, standIns := [], harness := (true, "3707631ec64c425b09ad11c54353d8e9b536ea55c2888c5cdcbe26ca48cd1ca8"), looks := true }, kinds := [], alts := [], laidByText := true, laidKinds := [.data, .data, .data, .sentinel, .sentinel], laidTests := true, laidLooks := .later }
def ScopeSitesUptoCardSaid : Prop := Claim7.holds Tryz.pinned (.plain (OpenSpec.upto scopeSitesSpec)) scopeSitesUptoCard

/-- THE SECOND FORM's CARD OF 'escarpmentlaw10.ScopeNumbers'. -/
def scopeNumbersUptoCard : Claim7 := { stood := { row := scopeNumbersUptoRow, standIns := [], harness := (true, "3707631ec64c425b09ad11c54353d8e9b536ea55c2888c5cdcbe26ca48cd1ca8"), looks := true }, kinds := [], alts := [], laidByText := true, laidKinds := [.data, .data, .data, .sentinel, .sentinel], laidTests := true, laidLooks := .later }
def ScopeNumbersUptoCardSaid : Prop := Claim7.holds Tryz.pinned (.plain (OpenSpec.upto scopeNumbersSpec)) scopeNumbersUptoCard

/-- THE SECOND FORM's CARD OF 'escarpmentlaw10.ScopePoints'. -/
def scopePointsUptoCard : Claim7 := { stood := { row := scopePointsUptoRow, standIns := [], harness := (true, "3707631ec64c425b09ad11c54353d8e9b536ea55c2888c5cdcbe26ca48cd1ca8"), looks := true }, kinds := [], alts := [], laidByText := true, laidKinds := [.data, .data, .data, .sentinel, .sentinel], laidTests := true, laidLooks := .later }
def ScopePointsUptoCardSaid : Prop := Claim7.holds Tryz.pinned (.plain (OpenSpec.upto scopePointsSpec)) scopePointsUptoCard
end Rows
end Go.Proofs.YtakhpkklopagmaaGreatDoor
