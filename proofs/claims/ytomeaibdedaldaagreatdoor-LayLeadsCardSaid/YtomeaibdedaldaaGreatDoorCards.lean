/-
  DERIVED. GIVEN WITH THE SEED: THE CARDS: each row of YtomeaibdedaldaaGreatDoorRows.lean that lists a variable, with what it lists TIED to the program's text (the seventh form; the later family's looks); each row that meets fmt, with fmt's text TOLD by the authors' own Lean function (tested against real Go, not proved from fmt's source: count such statements apart). THE CARD IS WHAT COUNTS. Prove the row's statement (the work); the ties are given (YtomeaibdedaldaaGreatDoorTie.lean); close each card by the builder's one call (the guide's Derived/Test/ToyasCard.lean, 'card_holds'). Laid BY PROGRAM, IN A SANDBOX (cutbox-door.mjs). By AI agents, Wed Nov 11 2026. No macro, syntax, notation, axiom, sorry.
-/
import Derived.Test.YtomeaibdedaldaaGreatDoorRows
import GoSem.ClaimSeven
namespace Go.Proofs.YtomeaibdedaldaaGreatDoor
namespace Rows

/-- THE TIED CARD OF 'atlaslaw22.LayLeads'. -/
def layLeadsCard : Claim7 := { stood := { row := layLeadsRow, standIns := [], harness := (true, "fea3157c7e43a399297066148d677e053284aecd04d3511f64b3e300767a41c2"), looks := false }, kinds := [], alts := [], laidByText := true, laidKinds := [.data, .data, .funcs], laidTests := true, laidLooks := .later }
def LayLeadsCardSaid : Prop := Claim7.holds Tryz.pinned (.plain (OpenSpec.ofChange layLeadsSpec)) layLeadsCard

/-- THE TIED CARD OF 'atlaslaw22.LayTwice'. -/
def layTwiceCard : Claim7 := { stood := { row := layTwiceRow, standIns := [], harness := (true, "fea3157c7e43a399297066148d677e053284aecd04d3511f64b3e300767a41c2"), looks := false }, kinds := [], alts := [], laidByText := true, laidKinds := [.data, .data, .funcs], laidTests := true, laidLooks := .later }
def LayTwiceCardSaid : Prop := Claim7.holds Tryz.pinned (.plain (OpenSpec.ofChange layTwiceSpec)) layTwiceCard

/-- THE TIED CARD OF 'atlaslaw23.LiftGone'. -/
def liftGoneCard : Claim7 := { stood := { row := liftGoneRow, standIns := [], harness := (true, "fea3157c7e43a399297066148d677e053284aecd04d3511f64b3e300767a41c2"), looks := false }, kinds := [], alts := [], laidByText := true, laidKinds := [.data, .data, .funcs], laidTests := true, laidLooks := .later }
def LiftGoneCardSaid : Prop := Claim7.holds Tryz.pinned (.plain (OpenSpec.ofChange liftGoneSpec)) liftGoneCard

/-- THE TIED CARD OF 'atlaslaw23.LiftParts'. -/
def liftPartsCard : Claim7 := { stood := { row := liftPartsRow, standIns := [], harness := (true, "fea3157c7e43a399297066148d677e053284aecd04d3511f64b3e300767a41c2"), looks := false }, kinds := [], alts := [], laidByText := true, laidKinds := [.data, .data, .funcs], laidTests := true, laidLooks := .later }
def LiftPartsCardSaid : Prop := Claim7.holds Tryz.pinned (.plain (OpenSpec.ofChange liftPartsSpec)) liftPartsCard

/-- THE TIED CARD OF 'atlaslaw23.LiftBack'. -/
def liftBackCard : Claim7 := { stood := { row := liftBackRow, standIns := [], harness := (true, "fea3157c7e43a399297066148d677e053284aecd04d3511f64b3e300767a41c2"), looks := false }, kinds := [], alts := [], laidByText := true, laidKinds := [.data, .data, .funcs], laidTests := true, laidLooks := .later }
def LiftBackCardSaid : Prop := Claim7.holds Tryz.pinned (.plain (OpenSpec.ofChange liftBackSpec)) liftBackCard

/-- THE TIED CARD OF 'atlaslaw24.GuardSets'. -/
def guardSetsCard : Claim7 := { stood := { row := guardSetsRow, standIns := [], harness := (true, "fea3157c7e43a399297066148d677e053284aecd04d3511f64b3e300767a41c2"), looks := false }, kinds := [], alts := [], laidByText := true, laidKinds := [.data, .data, .funcs], laidTests := true, laidLooks := .later }
def GuardSetsCardSaid : Prop := Claim7.holds Tryz.pinned (.plain (OpenSpec.ofChange guardSetsSpec)) guardSetsCard

/-- THE TIED CARD OF 'atlaslaw24.GuardTwice'. -/
def guardTwiceCard : Claim7 := { stood := { row := guardTwiceRow, standIns := [], harness := (true, "fea3157c7e43a399297066148d677e053284aecd04d3511f64b3e300767a41c2"), looks := false }, kinds := [], alts := [], laidByText := true, laidKinds := [.data, .data, .funcs], laidTests := true, laidLooks := .later }
def GuardTwiceCardSaid : Prop := Claim7.holds Tryz.pinned (.plain (OpenSpec.ofChange guardTwiceSpec)) guardTwiceCard

/-- THE TIED CARD OF 'atlaslaw24.GuardLifted'. -/
def guardLiftedCard : Claim7 := { stood := { row := guardLiftedRow, standIns := [], harness := (true, "fea3157c7e43a399297066148d677e053284aecd04d3511f64b3e300767a41c2"), looks := false }, kinds := [], alts := [], laidByText := true, laidKinds := [.data, .data, .funcs], laidTests := true, laidLooks := .later }
def GuardLiftedCardSaid : Prop := Claim7.holds Tryz.pinned (.plain (OpenSpec.ofChange guardLiftedSpec)) guardLiftedCard

/-- THE SECOND FORM's CARD OF 'atlaslaw22.LayLeads'. -/
def layLeadsUptoCard : Claim7 := { stood := { row := layLeadsUptoRow, standIns := [], harness := (true, "fea3157c7e43a399297066148d677e053284aecd04d3511f64b3e300767a41c2"), looks := false }, kinds := [], alts := [], laidByText := true, laidKinds := [.data, .data, .funcs], laidTests := true, laidLooks := .later }
def LayLeadsUptoCardSaid : Prop := Claim7.holds Tryz.pinned (.plain (OpenSpec.upto layLeadsSpec)) layLeadsUptoCard

/-- THE SECOND FORM's CARD OF 'atlaslaw22.LayTwice'. -/
def layTwiceUptoCard : Claim7 := { stood := { row := layTwiceUptoRow, standIns := [], harness := (true, "fea3157c7e43a399297066148d677e053284aecd04d3511f64b3e300767a41c2"), looks := false }, kinds := [], alts := [], laidByText := true, laidKinds := [.data, .data, .funcs], laidTests := true, laidLooks := .later }
def LayTwiceUptoCardSaid : Prop := Claim7.holds Tryz.pinned (.plain (OpenSpec.upto layTwiceSpec)) layTwiceUptoCard

/-- THE SECOND FORM's CARD OF 'atlaslaw23.LiftGone'. -/
def liftGoneUptoCard : Claim7 := { stood := { row := liftGoneUptoRow, standIns := [], harness := (true, "fea3157c7e43a399297066148d677e053284aecd04d3511f64b3e300767a41c2"), looks := false }, kinds := [], alts := [], laidByText := true, laidKinds := [.data, .data, .funcs], laidTests := true, laidLooks := .later }
def LiftGoneUptoCardSaid : Prop := Claim7.holds Tryz.pinned (.plain (OpenSpec.upto liftGoneSpec)) liftGoneUptoCard

/-- THE SECOND FORM's CARD OF 'atlaslaw23.LiftParts'. -/
def liftPartsUptoCard : Claim7 := { stood := { row := liftPartsUptoRow, standIns := [], harness := (true, "fea3157c7e43a399297066148d677e053284aecd04d3511f64b3e300767a41c2"), looks := false }, kinds := [], alts := [], laidByText := true, laidKinds := [.data, .data, .funcs], laidTests := true, laidLooks := .later }
def LiftPartsUptoCardSaid : Prop := Claim7.holds Tryz.pinned (.plain (OpenSpec.upto liftPartsSpec)) liftPartsUptoCard

/-- THE SECOND FORM's CARD OF 'atlaslaw23.LiftBack'. -/
def liftBackUptoCard : Claim7 := { stood := { row := liftBackUptoRow, standIns := [], harness := (true, "fea3157c7e43a399297066148d677e053284aecd04d3511f64b3e300767a41c2"), looks := false }, kinds := [], alts := [], laidByText := true, laidKinds := [.data, .data, .funcs], laidTests := true, laidLooks := .later }
def LiftBackUptoCardSaid : Prop := Claim7.holds Tryz.pinned (.plain (OpenSpec.upto liftBackSpec)) liftBackUptoCard

/-- THE SECOND FORM's CARD OF 'atlaslaw24.GuardSets'. -/
def guardSetsUptoCard : Claim7 := { stood := { row := guardSetsUptoRow, standIns := [], harness := (true, "fea3157c7e43a399297066148d677e053284aecd04d3511f64b3e300767a41c2"), looks := false }, kinds := [], alts := [], laidByText := true, laidKinds := [.data, .data, .funcs], laidTests := true, laidLooks := .later }
def GuardSetsUptoCardSaid : Prop := Claim7.holds Tryz.pinned (.plain (OpenSpec.upto guardSetsSpec)) guardSetsUptoCard

/-- THE SECOND FORM's CARD OF 'atlaslaw24.GuardTwice'. -/
def guardTwiceUptoCard : Claim7 := { stood := { row := guardTwiceUptoRow, standIns := [], harness := (true, "fea3157c7e43a399297066148d677e053284aecd04d3511f64b3e300767a41c2"), looks := false }, kinds := [], alts := [], laidByText := true, laidKinds := [.data, .data, .funcs], laidTests := true, laidLooks := .later }
def GuardTwiceUptoCardSaid : Prop := Claim7.holds Tryz.pinned (.plain (OpenSpec.upto guardTwiceSpec)) guardTwiceUptoCard

/-- THE SECOND FORM's CARD OF 'atlaslaw24.GuardLifted'. -/
def guardLiftedUptoCard : Claim7 := { stood := { row := guardLiftedUptoRow, standIns := [], harness := (true, "fea3157c7e43a399297066148d677e053284aecd04d3511f64b3e300767a41c2"), looks := false }, kinds := [], alts := [], laidByText := true, laidKinds := [.data, .data, .funcs], laidTests := true, laidLooks := .later }
def GuardLiftedUptoCardSaid : Prop := Claim7.holds Tryz.pinned (.plain (OpenSpec.upto guardLiftedSpec)) guardLiftedUptoCard
end Rows
end Go.Proofs.YtomeaibdedaldaaGreatDoor
