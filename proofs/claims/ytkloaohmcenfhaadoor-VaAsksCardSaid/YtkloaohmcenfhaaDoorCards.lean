/-
  DERIVED. GIVEN WITH THE SEED: THE CARDS: each row of YtkloaohmcenfhaaDoorRows.lean that lists a variable, with what it lists TIED to the program's text (the seventh form; the later family's looks); each row that meets fmt, with fmt's text TOLD by the authors' own Lean function (tested against real Go, not proved from fmt's source: count such statements apart). THE CARD IS WHAT COUNTS. Prove the row's statement (the work); the ties are given (YtkloaohmcenfhaaDoorTie.lean); close each card by the builder's one call (the guide's Derived/Test/ToyasCard.lean, 'card_holds'). Laid BY PROGRAM, IN A SANDBOX (cutbox-door.mjs). By AI agents, Wed Nov 11 2026. No macro, syntax, notation, axiom, sorry.
-/
import Derived.Test.YtkloaohmcenfhaaDoorRows
import GoSem.ClaimSeven
namespace Go.Proofs.YtkloaohmcenfhaaDoor
namespace Rows

/-- THE TIED CARD OF 'atlaslaw05.VaAsks'. -/
def vaAsksCard : Claim7 := { stood := { row := vaAsksRow, standIns := [], harness := (true, "a4d115dbe2d807c0ad9e845a5e5544877826e1715f73f8ed2629378dbc45adba"), looks := false }, kinds := [], alts := [], laidByText := true, laidKinds := [.data], laidTests := true, laidLooks := .later }
def VaAsksCardSaid : Prop := Claim7.holds Tryd.pinned (.plain (OpenSpec.ofChange vaAsksSpec)) vaAsksCard

/-- THE TIED CARD OF 'atlaslaw05.VaParts'. -/
def vaPartsCard : Claim7 := { stood := { row := vaPartsRow, standIns := [], harness := (true, "a4d115dbe2d807c0ad9e845a5e5544877826e1715f73f8ed2629378dbc45adba"), looks := false }, kinds := [], alts := [], laidByText := true, laidKinds := [.data], laidTests := true, laidLooks := .later }
def VaPartsCardSaid : Prop := Claim7.holds Tryd.pinned (.plain (OpenSpec.ofChange vaPartsSpec)) vaPartsCard

/-- THE TIED CARD OF 'atlaslaw05.VaApart'. -/
def vaApartCard : Claim7 := { stood := { row := vaApartRow, standIns := [], harness := (true, "a4d115dbe2d807c0ad9e845a5e5544877826e1715f73f8ed2629378dbc45adba"), looks := false }, kinds := [], alts := [], laidByText := true, laidKinds := [.data], laidTests := true, laidLooks := .later }
def VaApartCardSaid : Prop := Claim7.holds Tryd.pinned (.plain (OpenSpec.ofChange vaApartSpec)) vaApartCard

/-- THE TIED CARD OF 'atlaslaw05.VaNext'. -/
def vaNextCard : Claim7 := { stood := { row := vaNextRow, standIns := [], harness := (true, "a4d115dbe2d807c0ad9e845a5e5544877826e1715f73f8ed2629378dbc45adba"), looks := false }, kinds := [], alts := [], laidByText := true, laidKinds := [.data], laidTests := true, laidLooks := .later }
def VaNextCardSaid : Prop := Claim7.holds Tryd.pinned (.plain (OpenSpec.ofChange vaNextSpec)) vaNextCard

/-- THE SECOND FORM's CARD OF 'atlaslaw05.VaAsks'. -/
def vaAsksUptoCard : Claim7 := { stood := { row := vaAsksUptoRow, standIns := [], harness := (true, "a4d115dbe2d807c0ad9e845a5e5544877826e1715f73f8ed2629378dbc45adba"), looks := false }, kinds := [], alts := [], laidByText := true, laidKinds := [.data], laidTests := true, laidLooks := .later }
def VaAsksUptoCardSaid : Prop := Claim7.holds Tryd.pinned (.plain (OpenSpec.upto vaAsksSpec)) vaAsksUptoCard

/-- THE SECOND FORM's CARD OF 'atlaslaw05.VaParts'. -/
def vaPartsUptoCard : Claim7 := { stood := { row := vaPartsUptoRow, standIns := [], harness := (true, "a4d115dbe2d807c0ad9e845a5e5544877826e1715f73f8ed2629378dbc45adba"), looks := false }, kinds := [], alts := [], laidByText := true, laidKinds := [.data], laidTests := true, laidLooks := .later }
def VaPartsUptoCardSaid : Prop := Claim7.holds Tryd.pinned (.plain (OpenSpec.upto vaPartsSpec)) vaPartsUptoCard

/-- THE SECOND FORM's CARD OF 'atlaslaw05.VaApart'. -/
def vaApartUptoCard : Claim7 := { stood := { row := vaApartUptoRow, standIns := [], harness := (true, "a4d115dbe2d807c0ad9e845a5e5544877826e1715f73f8ed2629378dbc45adba"), looks := false }, kinds := [], alts := [], laidByText := true, laidKinds := [.data], laidTests := true, laidLooks := .later }
def VaApartUptoCardSaid : Prop := Claim7.holds Tryd.pinned (.plain (OpenSpec.upto vaApartSpec)) vaApartUptoCard

/-- THE SECOND FORM's CARD OF 'atlaslaw05.VaNext'. -/
def vaNextUptoCard : Claim7 := { stood := { row := vaNextUptoRow, standIns := [], harness := (true, "a4d115dbe2d807c0ad9e845a5e5544877826e1715f73f8ed2629378dbc45adba"), looks := false }, kinds := [], alts := [], laidByText := true, laidKinds := [.data], laidTests := true, laidLooks := .later }
def VaNextUptoCardSaid : Prop := Claim7.holds Tryd.pinned (.plain (OpenSpec.upto vaNextSpec)) vaNextUptoCard
end Rows
end Go.Proofs.YtkloaohmcenfhaaDoor
