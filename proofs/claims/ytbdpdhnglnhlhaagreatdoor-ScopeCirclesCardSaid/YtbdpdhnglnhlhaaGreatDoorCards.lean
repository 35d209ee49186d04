/-
  DERIVED. GIVEN WITH THE SEED: THE CARDS: each row of YtbdpdhnglnhlhaaGreatDoorRows.lean that lists a variable, with what it lists TIED to the program's text (the seventh form; the later family's looks); each row that meets fmt, with fmt's text TOLD by the authors' own Lean function (tested against real Go, not proved from fmt's source: count such statements apart). THE CARD IS WHAT COUNTS. Prove the row's statement (the work); the ties are given (YtbdpdhnglnhlhaaGreatDoorTie.lean); close each card by the builder's one call (the guide's Derived/Test/ToyasCard.lean, 'card_holds'). Laid BY PROGRAM, IN A SANDBOX (cutbox-door.mjs). By AI agents, Wed Nov 11 2026. No macro, syntax, notation, axiom, sorry.
-/
import Derived.Test.YtbdpdhnglnhlhaaGreatDoorRows
import GoSem.ClaimSeven
namespace Go.Proofs.YtbdpdhnglnhlhaaGreatDoor
namespace Rows

/-- THE TIED CARD OF 'escarpmentlaw10.ScopeCircles'. -/
def scopeCirclesCard : Claim7 := { stood := { row := scopeCirclesRow, standIns := [], harness := (true, "eb844d2924577d2858197904009b5aaef916244f046f943a534f87240d9be069"), looks := true }, kinds := [], alts := [], laidByText := true, laidKinds := [.data, .data, .data, .sentinel, .sentinel], laidTests := true, laidLooks := .later }
def ScopeCirclesCardSaid : Prop := Claim7.holds Tryz.pinned (.plain (OpenSpec.ofChange scopeCirclesSpec)) scopeCirclesCard

/-- THE TIED CARD OF 'escarpmentlaw14.PlaceDoubles'. -/
def placeDoublesCard : Claim7 := { stood := { row := placeDoublesRow, standIns := [], harness := (true, "eb844d2924577d2858197904009b5aaef916244f046f943a534f87240d9be069"), looks := true }, kinds := [], alts := [], laidByText := true, laidKinds := [.data, .data, .data, .sentinel, .sentinel], laidTests := true, laidLooks := .later }
def PlaceDoublesCardSaid : Prop := Claim7.holds Tryz.pinned (.plain (OpenSpec.ofChange placeDoublesSpec)) placeDoublesCard

/-- THE SECOND FORM's CARD OF 'escarpmentlaw10.ScopeCircles'. -/
def scopeCirclesUptoCard : Claim7 := { stood := { row := scopeCirclesUptoRow, standIns := [], harness := (true, "eb844d2924577d2858197904009b5aaef916244f046f943a534f87240d9be069"), looks := true }, kinds := [], alts := [], laidByText := true, laidKinds := [.data, .data, .data, .sentinel, .sentinel], laidTests := true, laidLooks := .later }
def ScopeCirclesUptoCardSaid : Prop := Claim7.holds Tryz.pinned (.plain (OpenSpec.upto scopeCirclesSpec)) scopeCirclesUptoCard

/-- THE SECOND FORM's CARD OF 'escarpmentlaw14.PlaceDoubles'. -/
def placeDoublesUptoCard : Claim7 := { stood := { row := placeDoublesUptoRow, standIns := [], harness := (true, "eb844d2924577d2858197904009b5aaef916244f046f943a534f87240d9be069"), looks := true }, kinds := [], alts := [], laidByText := true, laidKinds := [.data, .data, .data, .sentinel, .sentinel], laidTests := true, laidLooks := .later }
def PlaceDoublesUptoCardSaid : Prop := Claim7.holds Tryz.pinned (.plain (OpenSpec.upto placeDoublesSpec)) placeDoublesUptoCard
end Rows
end Go.Proofs.YtbdpdhnglnhlhaaGreatDoor
