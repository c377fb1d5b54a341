/-
  DERIVED. GIVEN WITH THE SEED: THE CARDS: each row of YtmoccajgjnjelaaGreatDoorRows.lean that lists a variable, with what it lists TIED to the program's text (the seventh form; the later family's looks); each row that meets fmt, with fmt's text TOLD by the authors' own Lean function (tested against real Go, not proved from fmt's source: count such statements apart). THE CARD IS WHAT COUNTS. Prove the row's statement (the work); the ties are given (YtmoccajgjnjelaaGreatDoorTie.lean); close each card by the builder's one call (the guide's Derived/Test/ToyasCard.lean, 'card_holds'). Laid BY PROGRAM, IN A SANDBOX (cutbox-door.mjs). By AI agents, Wed Nov 11 2026. No macro, syntax, notation, axiom, sorry.
-/
import Derived.Test.YtmoccajgjnjelaaGreatDoorRows
import GoSem.ClaimSeven
namespace Go.Proofs.YtmoccajgjnjelaaGreatDoor
namespace Rows

/-- THE TIED CARD OF 'atlaslaw22.LayMaps'. -/
def layMapsCard : Claim7 := { stood := { row := layMapsRow, standIns := [], harness := (true, "70ecb2e34b98bc9fad15ac928dfe7eb949024d1520b0b5b3211a8b164374680d"), looks := false }, kinds := [], alts := [], laidByText := true, laidKinds := [.data, .data, .funcs], laidTests := true, laidLooks := .later }
def LayMapsCardSaid : Prop := Claim7.holds Tryz.pinned (.plain (OpenSpec.ofChange layMapsSpec)) layMapsCard

/-- THE TIED CARD OF 'atlaslaw22.LayKeeps'. -/
def layKeepsCard : Claim7 := { stood := { row := layKeepsRow, standIns := [], harness := (true, "70ecb2e34b98bc9fad15ac928dfe7eb949024d1520b0b5b3211a8b164374680d"), looks := false }, kinds := [], alts := [], laidByText := true, laidKinds := [.data, .data, .funcs], laidTests := true, laidLooks := .later }
def LayKeepsCardSaid : Prop := Claim7.holds Tryz.pinned (.plain (OpenSpec.ofChange layKeepsSpec)) layKeepsCard

/-- THE SECOND FORM's CARD OF 'atlaslaw22.LayMaps'. -/
def layMapsUptoCard : Claim7 := { stood := { row := layMapsUptoRow, standIns := [], harness := (true, "70ecb2e34b98bc9fad15ac928dfe7eb949024d1520b0b5b3211a8b164374680d"), looks := false }, kinds := [], alts := [], laidByText := true, laidKinds := [.data, .data, .funcs], laidTests := true, laidLooks := .later }
def LayMapsUptoCardSaid : Prop := Claim7.holds Tryz.pinned (.plain (OpenSpec.upto layMapsSpec)) layMapsUptoCard

/-- THE SECOND FORM's CARD OF 'atlaslaw22.LayKeeps'. -/
def layKeepsUptoCard : Claim7 := { stood := { row := layKeepsUptoRow, standIns := [], harness := (true, "70ecb2e34b98bc9fad15ac928dfe7eb949024d1520b0b5b3211a8b164374680d"), looks := false }, kinds := [], alts := [], laidByText := true, laidKinds := [.data, .data, .funcs], laidTests := true, laidLooks := .later }
def LayKeepsUptoCardSaid : Prop := Claim7.holds Tryz.pinned (.plain (OpenSpec.upto layKeepsSpec)) layKeepsUptoCard
end Rows
end Go.Proofs.YtmoccajgjnjelaaGreatDoor
