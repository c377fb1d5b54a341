/-
  DERIVED. GIVEN WITH THE SEED: THE CARDS: each row of YtgkodncknlankaaGreatDoorRows.lean that lists a variable, with what it lists TIED to the program's text (the seventh form; the later family's looks); each row that meets fmt, with fmt's text TOLD by the authors' own Lean function (tested against real Go, not proved from fmt's source: count such statements apart). THE CARD IS WHAT COUNTS. Prove the row's statement (the work); the ties are given (YtgkodncknlankaaGreatDoorTie.lean); close each card by the builder's one call (the guide's Derived/Test/ToyasCard.lean, 'card_holds'). Laid BY PROGRAM, IN A SANDBOX (cutbox-door.mjs). By AI agents, Wed Nov 11 2026. No macro, syntax, notation, axiom, sorry.
-/
import Derived.Test.YtgkodncknlankaaGreatDoorRows
import GoSem.ClaimSeven
namespace Go.Proofs.YtgkodncknlankaaGreatDoor
namespace Rows

/-- THE TIED CARD OF 'atlaslaw22.LayRefuses'. -/
def layRefusesCard : Claim7 := { stood := { row := layRefusesRow, standIns := [], harness := (true, "e846dd56545a3839d98d26ed021f085caf0a1ad784ae5a893486390ec8dade22"), looks := false }, kinds := [], alts := [], laidByText := true, laidKinds := [.data, .data, .funcs], laidTests := true, laidLooks := .later }
def LayRefusesCardSaid : Prop := Claim7.holds Tryz.pinned (.plain (OpenSpec.ofChange layRefusesSpec)) layRefusesCard

/-- THE TIED CARD OF 'atlaslaw23.LiftUnmaps'. -/
def liftUnmapsCard : Claim7 := { stood := { row := liftUnmapsRow, standIns := [], harness := (true, "e846dd56545a3839d98d26ed021f085caf0a1ad784ae5a893486390ec8dade22"), looks := false }, kinds := [], alts := [], laidByText := true, laidKinds := [.data, .data, .funcs], laidTests := true, laidLooks := .later }
def LiftUnmapsCardSaid : Prop := Claim7.holds Tryz.pinned (.plain (OpenSpec.ofChange liftUnmapsSpec)) liftUnmapsCard

/-- THE TIED CARD OF 'atlaslaw23.LiftFences'. -/
def liftFencesCard : Claim7 := { stood := { row := liftFencesRow, standIns := [], harness := (true, "e846dd56545a3839d98d26ed021f085caf0a1ad784ae5a893486390ec8dade22"), looks := false }, kinds := [], alts := [], laidByText := true, laidKinds := [.data, .data, .funcs], laidTests := true, laidLooks := .later }
def LiftFencesCardSaid : Prop := Claim7.holds Tryz.pinned (.plain (OpenSpec.ofChange liftFencesSpec)) liftFencesCard

/-- THE TIED CARD OF 'atlaslaw23.LiftKeeps'. -/
def liftKeepsCard : Claim7 := { stood := { row := liftKeepsRow, standIns := [], harness := (true, "e846dd56545a3839d98d26ed021f085caf0a1ad784ae5a893486390ec8dade22"), looks := false }, kinds := [], alts := [], laidByText := true, laidKinds := [.data, .data, .funcs], laidTests := true, laidLooks := .later }
def LiftKeepsCardSaid : Prop := Claim7.holds Tryz.pinned (.plain (OpenSpec.ofChange liftKeepsSpec)) liftKeepsCard

/-- THE SECOND FORM's CARD OF 'atlaslaw22.LayRefuses'. -/
def layRefusesUptoCard : Claim7 := { stood := { row := layRefusesUptoRow, standIns := [], harness := (true, "e846dd56545a3839d98d26ed021f085caf0a1ad784ae5a893486390ec8dade22"), looks := false }, kinds := [], alts := [], laidByText := true, laidKinds := [.data, .data, .funcs], laidTests := true, laidLooks := .later }
def LayRefusesUptoCardSaid : Prop := Claim7.holds Tryz.pinned (.plain (OpenSpec.upto layRefusesSpec)) layRefusesUptoCard

/-- THE SECOND FORM's CARD OF 'atlaslaw23.LiftUnmaps'. -/
def liftUnmapsUptoCard : Claim7 := { stood := { row := liftUnmapsUptoRow, standIns := [], harness := (true, "e846dd56545a3839d98d26ed021f085caf0a1ad784ae5a893486390ec8dade22"), looks := false }, kinds := [], alts := [], laidByText := true, laidKinds := [.data, .data, .funcs], laidTests := true, laidLooks := .later }
def LiftUnmapsUptoCardSaid : Prop := Claim7.holds Tryz.pinned (.plain (OpenSpec.upto liftUnmapsSpec)) liftUnmapsUptoCard

/-- THE SECOND FORM's CARD OF 'atlaslaw23.LiftFences'. -/
def liftFencesUptoCard : Claim7 := { stood := { row := liftFencesUptoRow, standIns := [], harness := (true, "e846dd56545a3839d98d26ed021f085caf0a1ad784ae5a893486390ec8dade22"), looks := false }, kinds := [], alts := [], laidByText := true, laidKinds := [.data, .data, .funcs], laidTests := true, laidLooks := .later }
def LiftFencesUptoCardSaid : Prop := Claim7.holds Tryz.pinned (.plain (OpenSpec.upto liftFencesSpec)) liftFencesUptoCard

/-- THE SECOND FORM's CARD OF 'atlaslaw23.LiftKeeps'. -/
def liftKeepsUptoCard : Claim7 := { stood := { row := liftKeepsUptoRow, standIns := [], harness := (true, "e846dd56545a3839d98d26ed021f085caf0a1ad784ae5a893486390ec8dade22"), looks := false }, kinds := [], alts := [], laidByText := true, laidKinds := [.data, .data, .funcs], laidTests := true, laidLooks := .later }
def LiftKeepsUptoCardSaid : Prop := Claim7.holds Tryz.pinned (.plain (OpenSpec.upto liftKeepsSpec)) liftKeepsUptoCard
end Rows
end Go.Proofs.YtgkodncknlankaaGreatDoor
