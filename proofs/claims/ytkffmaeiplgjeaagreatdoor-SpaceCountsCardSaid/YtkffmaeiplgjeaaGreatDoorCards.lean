/-
  DERIVED. GIVEN WITH THE SEED: THE CARDS: each row of YtkffmaeiplgjeaaGreatDoorRows.lean that lists a variable, with what it lists TIED to the program's text (the seventh form; the later family's looks); each row that meets fmt, with fmt's text TOLD by the authors' own Lean function (tested against real Go, not proved from fmt's source: count such statements apart). THE CARD IS WHAT COUNTS. Prove the row's statement (the work); the ties are given (YtkffmaeiplgjeaaGreatDoorTie.lean); close each card by the builder's one call (the guide's Derived/Test/ToyasCard.lean, 'card_holds'). Laid BY PROGRAM, IN A SANDBOX (cutbox-door.mjs). By AI agents, Wed Nov 11 2026. No macro, syntax, notation, axiom, sorry.
-/
import Derived.Test.YtkffmaeiplgjeaaGreatDoorRows
import GoSem.ClaimSeven
namespace Go.Proofs.YtkffmaeiplgjeaaGreatDoor
namespace Rows

/-- THE TIED CARD OF 'atlaslaw21.SpaceNews'. -/
def spaceNewsCard : Claim7 := { stood := { row := spaceNewsRow, standIns := [], harness := (true, "7f6cc36edf79ea2d41772b06b7254aaf99ea8a8e16b300f9be5f14e180d94ebf"), looks := false }, kinds := [], alts := [], laidByText := true, laidKinds := [.data, .data, .funcs], laidTests := true, laidLooks := .later }
def SpaceNewsCardSaid : Prop := Claim7.holds Tryz.pinned (.plain (OpenSpec.ofChange spaceNewsSpec)) spaceNewsCard

/-- THE TIED CARD OF 'atlaslaw21.SpaceDoes'. -/
def spaceDoesCard : Claim7 := { stood := { row := spaceDoesRow, standIns := [], harness := (true, "7f6cc36edf79ea2d41772b06b7254aaf99ea8a8e16b300f9be5f14e180d94ebf"), looks := false }, kinds := [], alts := [], laidByText := true, laidKinds := [.data, .data, .funcs], laidTests := true, laidLooks := .later }
def SpaceDoesCardSaid : Prop := Claim7.holds Tryz.pinned (.plain (OpenSpec.ofChange spaceDoesSpec)) spaceDoesCard

/-- THE TIED CARD OF 'atlaslaw21.SpaceCounts'. -/
def spaceCountsCard : Claim7 := { stood := { row := spaceCountsRow, standIns := [], harness := (true, "7f6cc36edf79ea2d41772b06b7254aaf99ea8a8e16b300f9be5f14e180d94ebf"), looks := false }, kinds := [], alts := [], laidByText := true, laidKinds := [.data, .data, .funcs], laidTests := true, laidLooks := .later }
def SpaceCountsCardSaid : Prop := Claim7.holds Tryz.pinned (.plain (OpenSpec.ofChange spaceCountsSpec)) spaceCountsCard

/-- THE SECOND FORM's CARD OF 'atlaslaw21.SpaceNews'. -/
def spaceNewsUptoCard : Claim7 := { stood := { row := spaceNewsUptoRow, standIns := [], harness := (true, "7f6cc36edf79ea2d41772b06b7254aaf99ea8a8e16b300f9be5f14e180d94ebf"), looks := false }, kinds := [], alts := [], laidByText := true, laidKinds := [.data, .data, .funcs], laidTests := true, laidLooks := .later }
def SpaceNewsUptoCardSaid : Prop := Claim7.holds Tryz.pinned (.plain (OpenSpec.upto spaceNewsSpec)) spaceNewsUptoCard

/-- THE SECOND FORM's CARD OF 'atlaslaw21.SpaceDoes'. -/
def spaceDoesUptoCard : Claim7 := { stood := { row := spaceDoesUptoRow, standIns := [], harness := (true, "7f6cc36edf79ea2d41772b06b7254aaf99ea8a8e16b300f9be5f14e180d94ebf"), looks := false }, kinds := [], alts := [], laidByText := true, laidKinds := [.data, .data, .funcs], laidTests := true, laidLooks := .later }
def SpaceDoesUptoCardSaid : Prop := Claim7.holds Tryz.pinned (.plain (OpenSpec.upto spaceDoesSpec)) spaceDoesUptoCard

/-- THE SECOND FORM's CARD OF 'atlaslaw21.SpaceCounts'. -/
def spaceCountsUptoCard : Claim7 := { stood := { row := spaceCountsUptoRow, standIns := [], harness := (true, "7f6cc36edf79ea2d41772b06b7254aaf99ea8a8e16b300f9be5f14e180d94ebf"), looks := false }, kinds := [], alts := [], laidByText := true, laidKinds := [.data, .data, .funcs], laidTests := true, laidLooks := .later }
def SpaceCountsUptoCardSaid : Prop := Claim7.holds Tryz.pinned (.plain (OpenSpec.upto spaceCountsSpec)) spaceCountsUptoCard
end Rows
end Go.Proofs.YtkffmaeiplgjeaaGreatDoor
