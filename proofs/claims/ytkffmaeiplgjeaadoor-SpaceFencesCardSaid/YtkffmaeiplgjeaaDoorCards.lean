/-
  DERIVED. GIVEN WITH THE SEED: THE CARDS: each row of YtkffmaeiplgjeaaDoorRows.lean that lists a variable, with what it lists TIED to the program's text (the seventh form; the later family's looks); each row that meets fmt, with fmt's text TOLD by the authors' own Lean function (tested against real Go, not proved from fmt's source: count such statements apart). THE CARD IS WHAT COUNTS. Prove the row's statement (the work); the ties are given (YtkffmaeiplgjeaaDoorTie.lean); close each card by the builder's one call (the guide's Derived/Test/ToyasCard.lean, 'card_holds'). Laid BY PROGRAM, IN A SANDBOX (cutbox-door.mjs). By AI agents, Wed Nov 11 2026. No macro, syntax, notation, axiom, sorry.
-/
import Derived.Test.YtkffmaeiplgjeaaDoorRows
import GoSem.ClaimSeven
namespace Go.Proofs.YtkffmaeiplgjeaaDoor
namespace Rows

/-- THE TIED CARD OF 'atlaslaw21.SpaceFences'. -/
def spaceFencesCard : Claim7 := { stood := { row := spaceFencesRow, standIns := [], harness := (true, "2bd2d2e6c2f26c65b10d2ff6ad87d3a5d53919fdb7bf8b1584dea2ee368ff96e"), looks := false }, kinds := [], alts := [], laidByText := true, laidKinds := [.data, .data, .funcs], laidTests := true, laidLooks := .later }
def SpaceFencesCardSaid : Prop := Claim7.holds Tryd.pinned (.plain (OpenSpec.ofChange spaceFencesSpec)) spaceFencesCard

/-- THE TIED CARD OF 'atlaslaw21.SpaceKeeps'. -/
def spaceKeepsCard : Claim7 := { stood := { row := spaceKeepsRow, standIns := [], harness := (true, "2bd2d2e6c2f26c65b10d2ff6ad87d3a5d53919fdb7bf8b1584dea2ee368ff96e"), looks := false }, kinds := [], alts := [], laidByText := true, laidKinds := [.data, .data, .funcs], laidTests := true, laidLooks := .later }
def SpaceKeepsCardSaid : Prop := Claim7.holds Tryd.pinned (.plain (OpenSpec.ofChange spaceKeepsSpec)) spaceKeepsCard

/-- THE TIED CARD OF 'atlaslaw21.SpaceSwitches'. -/
def spaceSwitchesCard : Claim7 := { stood := { row := spaceSwitchesRow, standIns := [], harness := (true, "2bd2d2e6c2f26c65b10d2ff6ad87d3a5d53919fdb7bf8b1584dea2ee368ff96e"), looks := false }, kinds := [], alts := [], laidByText := true, laidKinds := [.data, .data, .funcs], laidTests := true, laidLooks := .later }
def SpaceSwitchesCardSaid : Prop := Claim7.holds Tryd.pinned (.plain (OpenSpec.ofChange spaceSwitchesSpec)) spaceSwitchesCard

/-- THE SECOND FORM's CARD OF 'atlaslaw21.SpaceFences'. -/
def spaceFencesUptoCard : Claim7 := { stood := { row := spaceFencesUptoRow, standIns := [], harness := (true, "2bd2d2e6c2f26c65b10d2ff6ad87d3a5d53919fdb7bf8b1584dea2ee368ff96e"), looks := false }, kinds := [], alts := [], laidByText := true, laidKinds := [.data, .data, .funcs], laidTests := true, laidLooks := .later }
def SpaceFencesUptoCardSaid : Prop := Claim7.holds Tryd.pinned (.plain (OpenSpec.upto spaceFencesSpec)) spaceFencesUptoCard

/-- THE SECOND FORM's CARD OF 'atlaslaw21.SpaceKeeps'. -/
def spaceKeepsUptoCard : Claim7 := { stood := { row := spaceKeepsUptoRow, standIns := [], harness := (true, "2bd2d2e6c2f26c65b10d2ff6ad87d3a5d53919fdb7bf8b1584dea2ee368ff96e"), looks := false }, kinds := [], alts := [], laidByText := true, laidKinds := [.data, .data, .funcs], laidTests := true, laidLooks := .later }
def SpaceKeepsUptoCardSaid : Prop := Claim7.holds Tryd.pinned (.plain (OpenSpec.upto spaceKeepsSpec)) spaceKeepsUptoCard

/-- THE SECOND FORM's CARD OF 'atlaslaw21.SpaceSwitches'. -/
def spaceSwitchesUptoCard : Claim7 := { stood := { row := spaceSwitchesUptoRow, standIns := [], harness := (true, "2bd2d2e6c2f26c65b10d2ff6ad87d3a5d53919fdb7bf8b1584dea2ee368ff96e"), looks := false }, kinds := [], alts := [], laidByText := true, laidKinds := [.data, .data, .funcs], laidTests := true, laidLooks := .later }
def SpaceSwitchesUptoCardSaid : Prop := Claim7.holds Tryd.pinned (.plain (OpenSpec.upto spaceSwitchesSpec)) spaceSwitchesUptoCard
end Rows
end Go.Proofs.YtkffmaeiplgjeaaDoor
