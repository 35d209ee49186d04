/-
  DERIVED. GIVEN WITH THE SEED: THE CARDS: each row of YtbbapmfmijiibaaGreatDoorRows.lean that lists a variable, with what it lists TIED to the program's text (the seventh form; the later family's looks); each row that meets fmt, with fmt's text TOLD by the authors' own Lean function (tested against real Go, not proved from fmt's source: count such statements apart). THE CARD IS WHAT COUNTS. Prove the row's statement (the work); the ties are given (YtbbapmfmijiibaaGreatDoorTie.lean); close each card by the builder's one call (the guide's Derived/Test/ToyasCard.lean, 'card_holds'). Laid BY PROGRAM, IN A SANDBOX (cutbox-door.mjs). By AI agents, Wed Nov 11 2026. No macro, syntax, notation, axiom, sorry.
-/
import Derived.Test.YtbbapmfmijiibaaGreatDoorRows
import GoSem.ClaimSeven
namespace Go.Proofs.YtbbapmfmijiibaaGreatDoor
namespace Rows

/-- THE TIED CARD OF 'escarpmentlaw15.LowerRights'. -/
def lowerRightsCard : Claim7 := { stood := { row := lowerRightsRow, standIns := [], harness := (true, "09d95c794310b88a2b73d0d2da9de85a844d5edc558481fb7f805352181910d7"), looks := true }, kinds := [], alts := [], laidByText := true, laidKinds := [.data, .data, .data, .sentinel, .sentinel], laidTests := true, laidLooks := .later }
def LowerRightsCardSaid : Prop := Claim7.holds Tryz.pinned (.plain (OpenSpec.ofChange lowerRightsSpec)) lowerRightsCard

/-- THE SECOND FORM's CARD OF 'escarpmentlaw15.LowerRights'. -/
def lowerRightsUptoCard : Claim7 := { stood := { row := lowerRightsUptoRow, standIns := [], harness := (true, "09d95c794310b88a2b73d0d2da9de85a844d5edc558481fb7f805352181910d7"), looks := true }, kinds := [], alts := [], laidByText := true, laidKinds := [.data, .data, .data, .sentinel, .sentinel], laidTests := true, laidLooks := .later }
def LowerRightsUptoCardSaid : Prop := Claim7.holds Tryz.pinned (.plain (OpenSpec.upto lowerRightsSpec)) lowerRightsUptoCard
end Rows
end Go.Proofs.YtbbapmfmijiibaaGreatDoor
