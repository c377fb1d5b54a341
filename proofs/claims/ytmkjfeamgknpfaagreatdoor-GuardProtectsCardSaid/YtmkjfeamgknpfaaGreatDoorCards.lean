/-
  DERIVED. GIVEN WITH THE SEED: THE CARDS: each row of YtmkjfeamgknpfaaGreatDoorRows.lean that lists a variable, with what it lists TIED to the program's text (the seventh form; the later family's looks); each row that meets fmt, with fmt's text TOLD by the authors' own Lean function (tested against real Go, not proved from fmt's source: count such statements apart). THE CARD IS WHAT COUNTS. Prove the row's statement (the work); the ties are given (YtmkjfeamgknpfaaGreatDoorTie.lean); close each card by the builder's one call (the guide's Derived/Test/ToyasCard.lean, 'card_holds'). Laid BY PROGRAM, IN A SANDBOX (cutbox-door.mjs). By AI agents, Wed Nov 11 2026. No macro, syntax, notation, axiom, sorry.
-/
import Derived.Test.YtmkjfeamgknpfaaGreatDoorRows
import GoSem.ClaimSeven
namespace Go.Proofs.YtmkjfeamgknpfaaGreatDoor
namespace Rows

/-- THE TIED CARD OF 'atlaslaw23.LiftUnmaps'. -/
def liftUnmapsCard : Claim7 := { stood := { row := liftUnmapsRow, standIns := [], harness := (true, "374356dd874fe9966d9e540bc64af4d6684cdb910483f3b9ac2d38656838ec5a"), looks := false }, kinds := [], alts := [], laidByText := true, laidKinds := [.data, .data, .funcs], laidTests := true, laidLooks := .later }
def LiftUnmapsCardSaid : Prop := Claim7.holds Tryz.pinned (.plain (OpenSpec.ofChange liftUnmapsSpec)) liftUnmapsCard

/-- THE TIED CARD OF 'atlaslaw23.LiftFences'. -/
def liftFencesCard : Claim7 := { stood := { row := liftFencesRow, standIns := [], harness := (true, "374356dd874fe9966d9e540bc64af4d6684cdb910483f3b9ac2d38656838ec5a"), looks := false }, kinds := [], alts := [], laidByText := true, laidKinds := [.data, .data, .funcs], laidTests := true, laidLooks := .later }
def LiftFencesCardSaid : Prop := Claim7.holds Tryz.pinned (.plain (OpenSpec.ofChange liftFencesSpec)) liftFencesCard

/-- THE TIED CARD OF 'atlaslaw23.LiftKeeps'. -/
def liftKeepsCard : Claim7 := { stood := { row := liftKeepsRow, standIns := [], harness := (true, "374356dd874fe9966d9e540bc64af4d6684cdb910483f3b9ac2d38656838ec5a"), looks := false }, kinds := [], alts := [], laidByText := true, laidKinds := [.data, .data, .funcs], laidTests := true, laidLooks := .later }
def LiftKeepsCardSaid : Prop := Claim7.holds Tryz.pinned (.plain (OpenSpec.ofChange liftKeepsSpec)) liftKeepsCard

/-- THE TIED CARD OF 'atlaslaw24.GuardProtects'. -/
def guardProtectsCard : Claim7 := { stood := { row := guardProtectsRow, standIns := [], harness := (true, "374356dd874fe9966d9e540bc64af4d6684cdb910483f3b9ac2d38656838ec5a"), looks := false }, kinds := [], alts := [], laidByText := true, laidKinds := [.data, .data, .funcs], laidTests := true, laidLooks := .later }
def GuardProtectsCardSaid : Prop := Claim7.holds Tryz.pinned (.plain (OpenSpec.ofChange guardProtectsSpec)) guardProtectsCard

/-- THE TIED CARD OF 'atlaslaw24.GuardKeeps'. -/
def guardKeepsCard : Claim7 := { stood := { row := guardKeepsRow, standIns := [], harness := (true, "374356dd874fe9966d9e540bc64af4d6684cdb910483f3b9ac2d38656838ec5a"), looks := false }, kinds := [], alts := [], laidByText := true, laidKinds := [.data, .data, .funcs], laidTests := true, laidLooks := .later }
def GuardKeepsCardSaid : Prop := Claim7.holds Tryz.pinned (.plain (OpenSpec.ofChange guardKeepsSpec)) guardKeepsCard

/-- THE SECOND FORM's CARD OF 'atlaslaw23.LiftUnmaps'. -/
def liftUnmapsUptoCard : Claim7 := { stood := { row := liftUnmapsUptoRow, standIns := [], harness := (true, "374356dd874fe9966d9e540bc64af4d6684cdb910483f3b9ac2d38656838ec5a"), looks := false }, kinds := [], alts := [], laidByText := true, laidKinds := [.data, .data, .funcs], laidTests := true, laidLooks := .later }
def LiftUnmapsUptoCardSaid : Prop := Claim7.holds Tryz.pinned (.plain (OpenSpec.upto liftUnmapsSpec)) liftUnmapsUptoCard

/-- THE SECOND FORM's CARD OF 'atlaslaw23.LiftFences'. -/
def liftFencesUptoCard : Claim7 := { stood := { row := liftFencesUptoRow, standIns := [], harness := (true, "374356dd874fe9966d9e540bc64af4d6684cdb910483f3b9ac2d38656838ec5a"), looks := false }, kinds := [], alts := [], laidByText := true, laidKinds := [.data, .data, .funcs], laidTests := true, laidLooks := .later }
def LiftFencesUptoCardSaid : Prop := Claim7.holds Tryz.pinned (.plain (OpenSpec.upto liftFencesSpec)) liftFencesUptoCard

/-- THE SECOND FORM's CARD OF 'atlaslaw23.LiftKeeps'. -/
def liftKeepsUptoCard : Claim7 := { stood := { row := liftKeepsUptoRow, standIns := [], harness := (true, "374356dd874fe9966d9e540bc64af4d6684cdb910483f3b9ac2d38656838ec5a"), looks := false }, kinds := [], alts := [], laidByText := true, laidKinds := [.data, .data, .funcs], laidTests := true, laidLooks := .later }
def LiftKeepsUptoCardSaid : Prop := Claim7.holds Tryz.pinned (.plain (OpenSpec.upto liftKeepsSpec)) liftKeepsUptoCard

/-- THE SECOND FORM's CARD OF 'atlaslaw24.GuardProtects'. -/
def guardProtectsUptoCard : Claim7 := { stood := { row := guardProtectsUptoRow, standIns := [], harness := (true, "374356dd874fe9966d9e540bc64af4d6684cdb910483f3b9ac2d38656838ec5a"), looks := false }, kinds := [], alts := [], laidByText := true, laidKinds := [.data, .data, .funcs], laidTests := true, laidLooks := .later }
def GuardProtectsUptoCardSaid : Prop := Claim7.holds Tryz.pinned (.plain (OpenSpec.upto guardProtectsSpec)) guardProtectsUptoCard

/-- THE SECOND FORM's CARD OF 'atlaslaw24.GuardKeeps'. -/
def guardKeepsUptoCard : Claim7 := { stood := { row := guardKeepsUptoRow, standIns := [], harness := (true, "374356dd874fe9966d9e540bc64af4d6684cdb910483f3b9ac2d38656838ec5a"), looks := false }, kinds := [], alts := [], laidByText := true, laidKinds := [.data, .data, .funcs], laidTests := true, laidLooks := .later }
def GuardKeepsUptoCardSaid : Prop := Claim7.holds Tryz.pinned (.plain (OpenSpec.upto guardKeepsSpec)) guardKeepsUptoCard
end Rows
end Go.Proofs.YtmkjfeamgknpfaaGreatDoor
