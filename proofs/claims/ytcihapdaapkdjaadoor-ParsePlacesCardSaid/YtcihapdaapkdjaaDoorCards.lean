/-
  DERIVED. GIVEN WITH THE SEED: THE CARDS: each row of YtcihapdaapkdjaaDoorRows.lean that lists a variable, with what it lists TIED to the program's text (the seventh form; the later family's looks); each row that meets fmt, with fmt's text TOLD by the authors' own Lean function (tested against real Go, not proved from fmt's source: count such statements apart). THE CARD IS WHAT COUNTS. Prove the row's statement (the work); the ties are given (YtcihapdaapkdjaaDoorTie.lean); close each card by the builder's one call (the guide's Derived/Test/ToyasCard.lean, 'card_holds'). Laid BY PROGRAM, IN A SANDBOX (cutbox-door.mjs). By AI agents, Wed Nov 11 2026. No macro, syntax, notation, axiom, sorry.
-/
import Derived.Test.YtcihapdaapkdjaaDoorRows
import GoSem.ClaimSeven
namespace Go.Proofs.YtcihapdaapkdjaaDoor
namespace Rows

/-- THE TIED CARD OF 'escarpmentlaw8.ParseBlanks'. -/
def parseBlanksCard : Claim7 := { stood := { row := parseBlanksRow, standIns := [], harness := (true, "37b02ef23192e532cb90385037221a6f831ca67f4a8b88cbf7525e59d0971564"), looks := true }, kinds := [], alts := [], laidByText := true, laidKinds := [.data, .data, .data, .sentinel, .sentinel], laidTests := true, laidLooks := .later }
def ParseBlanksCardSaid : Prop := Claim7.holds Tryd.pinned (.plain (OpenSpec.ofChange parseBlanksSpec)) parseBlanksCard

/-- THE TIED CARD OF 'escarpmentlaw8.ParsePlaces'. -/
def parsePlacesCard : Claim7 := { stood := { row := parsePlacesRow, standIns := [], harness := (true, "37b02ef23192e532cb90385037221a6f831ca67f4a8b88cbf7525e59d0971564"), looks := true }, kinds := [], alts := [], laidByText := true, laidKinds := [.data, .data, .data, .sentinel, .sentinel], laidTests := true, laidLooks := .later }
def ParsePlacesCardSaid : Prop := Claim7.holds Tryd.pinned (.plain (OpenSpec.ofChange parsePlacesSpec)) parsePlacesCard

/-- THE TIED CARD OF 'escarpmentlaw8.ParseDeep'. -/
def parseDeepCard : Claim7 := { stood := { row := parseDeepRow, standIns := [], harness := (true, "37b02ef23192e532cb90385037221a6f831ca67f4a8b88cbf7525e59d0971564"), looks := true }, kinds := [], alts := [], laidByText := true, laidKinds := [.data, .data, .data, .sentinel, .sentinel], laidTests := true, laidLooks := .later }
def ParseDeepCardSaid : Prop := Claim7.holds Tryd.pinned (.plain (OpenSpec.ofChange parseDeepSpec)) parseDeepCard

/-- THE TIED CARD OF 'escarpmentlaw8.ParseLeft'. -/
def parseLeftCard : Claim7 := { stood := { row := parseLeftRow, standIns := [], harness := (true, "37b02ef23192e532cb90385037221a6f831ca67f4a8b88cbf7525e59d0971564"), looks := true }, kinds := [], alts := [], laidByText := true, laidKinds := [.data, .data, .data, .sentinel, .sentinel], laidTests := true, laidLooks := .later }
def ParseLeftCardSaid : Prop := Claim7.holds Tryd.pinned (.plain (OpenSpec.ofChange parseLeftSpec)) parseLeftCard

/-- THE SECOND FORM's CARD OF 'escarpmentlaw8.ParseBlanks'. -/
def parseBlanksUptoCard : Claim7 := { stood := { row := parseBlanksUptoRow, standIns := [], harness := (true, "37b02ef23192e532cb90385037221a6f831ca67f4a8b88cbf7525e59d0971564"), looks := true }, kinds := [], alts := [], laidByText := true, laidKinds := [.data, .data, .data, .sentinel, .sentinel], laidTests := true, laidLooks := .later }
def ParseBlanksUptoCardSaid : Prop := Claim7.holds Tryd.pinned (.plain (OpenSpec.upto parseBlanksSpec)) parseBlanksUptoCard

/-- THE SECOND FORM's CARD OF 'escarpmentlaw8.ParsePlaces'. -/
def parsePlacesUptoCard : Claim7 := { stood := { row := parsePlacesUptoRow, standIns := [], harness := (true, "37b02ef23192e532cb90385037221a6f831ca67f4a8b88cbf7525e59d0971564"), looks := true }, kinds := [], alts := [], laidByText := true, laidKinds := [.data, .data, .data, .sentinel, .sentinel], laidTests := true, laidLooks := .later }
def ParsePlacesUptoCardSaid : Prop := Claim7.holds Tryd.pinned (.plain (OpenSpec.upto parsePlacesSpec)) parsePlacesUptoCard

/-- THE SECOND FORM's CARD OF 'escarpmentlaw8.ParseDeep'. -/
def parseDeepUptoCard : Claim7 := { stood := { row := parseDeepUptoRow, standIns := [], harness := (true, "37b02ef23192e532cb90385037221a6f831ca67f4a8b88cbf7525e59d0971564"), looks := true }, kinds := [], alts := [], laidByText := true, laidKinds := [.data, .data, .data, .sentinel, .sentinel], laidTests := true, laidLooks := .later }
def ParseDeepUptoCardSaid : Prop := Claim7.holds Tryd.pinned (.plain (OpenSpec.upto parseDeepSpec)) parseDeepUptoCard

/-- THE SECOND FORM's CARD OF 'escarpmentlaw8.ParseLeft'. -/
def parseLeftUptoCard : Claim7 := { stood := { row := parseLeftUptoRow, standIns := [], harness := (true, "37b02ef23192e532cb90385037221a6f831ca67f4a8b88cbf7525e59d0971564"), looks := true }, kinds := [], alts := [], laidByText := true, laidKinds := [.data, .data, .data, .sentinel, .sentinel], laidTests := true, laidLooks := .later }
def ParseLeftUptoCardSaid : Prop := Claim7.holds Tryd.pinned (.plain (OpenSpec.upto parseLeftSpec)) parseLeftUptoCard
end Rows
end Go.Proofs.YtcihapdaapkdjaaDoor
