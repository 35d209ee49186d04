/-
  DERIVED. GIVEN WITH THE SEED: THE CARDS: each row of YtdkkmmdghfbnaaaGreatDoorRows.lean that lists a variable, with what it lists TIED to the program's text (the seventh form; the later family's looks); each row that meets fmt, with fmt's text TOLD by the authors' own Lean function (tested against real Go, not proved from fmt's source: count such statements apart). THE CARD IS WHAT COUNTS. Prove the row's statement (the work); the ties are given (YtdkkmmdghfbnaaaGreatDoorTie.lean); close each card by the builder's one call (the guide's Derived/Test/ToyasCard.lean, 'card_holds'). Laid BY PROGRAM, IN A SANDBOX (cutbox-door.mjs). By AI agents, Wed Nov 11 2026. No macro, syntax, notation, axiom, sorry.
-/
import Derived.Test.YtdkkmmdghfbnaaaGreatDoorRows
import GoSem.ClaimSeven
namespace Go.Proofs.YtdkkmmdghfbnaaaGreatDoor
namespace Rows

/-- THE TIED CARD OF 'escarpmentlaw14.PlaceAll'. -/
def placeAllCard : Claim7 := { stood := { row := placeAllRow, standIns := [], harness := (true, "2d7bdb20c692984dadcb796fdc019fe3e64383447298200922e03d4cb00b4fde"), looks := true }, kinds := [], alts := [], laidByText := true, laidKinds := [.data, .data, .data, .sentinel, .sentinel], laidTests := true, laidLooks := .later }
def PlaceAllCardSaid : Prop := Claim7.holds Tryz.pinned (.plain (OpenSpec.ofChange placeAllSpec)) placeAllCard

/-- THE TIED CARD OF 'escarpmentlaw14.PlaceTrees'. -/
def placeTreesCard : Claim7 := { stood := { row := placeTreesRow, standIns := [], harness := (true, "2d7bdb20c692984dadcb796fdc019fe3e64383447298200922e03d4cb00b4fde"), looks := true }, kinds := [], alts := [], laidByText := true, laidKinds := [.data, .data, .data, .sentinel, .sentinel], laidTests := true, laidLooks := .later }
def PlaceTreesCardSaid : Prop := Claim7.holds Tryz.pinned (.plain (OpenSpec.ofChange placeTreesSpec)) placeTreesCard

/-- THE TIED CARD OF 'escarpmentlaw14.PlaceDoubles'. -/
def placeDoublesCard : Claim7 := { stood := { row := placeDoublesRow, standIns := [], harness := (true, "2d7bdb20c692984dadcb796fdc019fe3e64383447298200922e03d4cb00b4fde"), looks := true }, kinds := [], alts := [], laidByText := true, laidKinds := [.data, .data, .data, .sentinel, .sentinel], laidTests := true, laidLooks := .later }
def PlaceDoublesCardSaid : Prop := Claim7.holds Tryz.pinned (.plain (OpenSpec.ofChange placeDoublesSpec)) placeDoublesCard

/-- THE TIED CARD OF 'escarpmentlaw14.PlaceAts'. -/
def placeAtsCard : Claim7 := { stood := { row := placeAtsRow, standIns := [], harness := (true, "2d7bdb20c692984dadcb796fdc019fe3e64383447298200922e03d4cb00b4fde"), looks := true }, kinds := [], alts := [], laidByText := true, laidKinds := [.data, .data, .data, .sentinel, .sentinel], laidTests := true, laidLooks := .later }
def PlaceAtsCardSaid : Prop := Claim7.holds Tryz.pinned (.plain (OpenSpec.ofChange placeAtsSpec)) placeAtsCard

/-- THE TIED CARD OF 'escarpmentlaw14.PlaceOnes'. -/
def placeOnesCard : Claim7 := { stood := { row := placeOnesRow, standIns := [], harness := (true, "2d7bdb20c692984dadcb796fdc019fe3e64383447298200922e03d4cb00b4fde"), looks := true }, kinds := [], alts := [], laidByText := true, laidKinds := [.data, .data, .data, .sentinel, .sentinel], laidTests := true, laidLooks := .later }
def PlaceOnesCardSaid : Prop := Claim7.holds Tryz.pinned (.plain (OpenSpec.ofChange placeOnesSpec)) placeOnesCard

/-- THE SECOND FORM's CARD OF 'escarpmentlaw14.PlaceAll'. -/
def placeAllUptoCard : Claim7 := { stood := { row := placeAllUptoRow, standIns := [], harness := (true, "2d7bdb20c692984dadcb796fdc019fe3e64383447298200922e03d4cb00b4fde"), looks := true }, kinds := [], alts := [], laidByText := true, laidKinds := [.data, .data, .data, .sentinel, .sentinel], laidTests := true, laidLooks := .later }
def PlaceAllUptoCardSaid : Prop := Claim7.holds Tryz.pinned (.plain (OpenSpec.upto placeAllSpec)) placeAllUptoCard

/-- THE SECOND FORM's CARD OF 'escarpmentlaw14.PlaceTrees'. -/
def placeTreesUptoCard : Claim7 := { stood := { row := placeTreesUptoRow, standIns := [], harness := (true, "2d7bdb20c692984dadcb796fdc019fe3e64383447298200922e03d4cb00b4fde"), looks := true }, kinds := [], alts := [], laidByText := true, laidKinds := [.data, .data, .data, .sentinel, .sentinel], laidTests := true, laidLooks := .later }
def PlaceTreesUptoCardSaid : Prop := Claim7.holds Tryz.pinned (.plain (OpenSpec.upto placeTreesSpec)) placeTreesUptoCard

/-- THE SECOND FORM's CARD OF 'escarpmentlaw14.PlaceDoubles'. -/
def placeDoublesUptoCard : Claim7 := { stood := { row := placeDoublesUptoRow, standIns := [], harness := (true, "2d7bdb20c692984dadcb796fdc019fe3e64383447298200922e03d4cb00b4fde"), looks := true }, kinds := [], alts := [], laidByText := true, laidKinds := [.data, .data, .data, .sentinel, .sentinel], laidTests := true, laidLooks := .later }
def PlaceDoublesUptoCardSaid : Prop := Claim7.holds Tryz.pinned (.plain (OpenSpec.upto placeDoublesSpec)) placeDoublesUptoCard

/-- THE SECOND FORM's CARD OF 'escarpmentlaw14.PlaceAts'. -/
def placeAtsUptoCard : Claim7 := { stood := { row := placeAtsUptoRow, standIns := [], harness := (true, "2d7bdb20c692984dadcb796fdc019fe3e64383447298200922e03d4cb00b4fde"), looks := true }, kinds := [], alts := [], laidByText := true, laidKinds := [.data, .data, .data, .sentinel, .sentinel], laidTests := true, laidLooks := .later }
def PlaceAtsUptoCardSaid : Prop := Claim7.holds Tryz.pinned (.plain (OpenSpec.upto placeAtsSpec)) placeAtsUptoCard

/-- THE SECOND FORM's CARD OF 'escarpmentlaw14.PlaceOnes'. -/
def placeOnesUptoCard : Claim7 := { stood := { row := placeOnesUptoRow, standIns := [], harness := (true, "2d7bdb20c692984dadcb796fdc019fe3e64383447298200922e03d4cb00b4fde"), looks := true }, kinds := [], alts := [], laidByText := true, laidKinds := [.data, .data, .data, .sentinel, .sentinel], laidTests := true, laidLooks := .later }
def PlaceOnesUptoCardSaid : Prop := Claim7.holds Tryz.pinned (.plain (OpenSpec.upto placeOnesSpec)) placeOnesUptoCard
end Rows
end Go.Proofs.YtdkkmmdghfbnaaaGreatDoor
