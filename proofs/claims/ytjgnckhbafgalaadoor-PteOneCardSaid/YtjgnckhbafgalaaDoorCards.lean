/-
  DERIVED. GIVEN WITH THE SEED: THE CARDS: each row of YtjgnckhbafgalaaDoorRows.lean that lists a variable, with what it lists TIED to the program's text (the seventh form; the later family's looks); each row that meets fmt, with fmt's text TOLD by the authors' own Lean function (tested against real Go, not proved from fmt's source: count such statements apart). THE CARD IS WHAT COUNTS. Prove the row's statement (the work); the ties are given (YtjgnckhbafgalaaDoorTie.lean); close each card by the builder's one call (the guide's Derived/Test/ToyasCard.lean, 'card_holds'). Laid BY PROGRAM, IN A SANDBOX (cutbox-door.mjs). By AI agents, Wed Nov 11 2026. No macro, syntax, notation, axiom, sorry.
-/
import Derived.Test.YtjgnckhbafgalaaDoorRows
import GoSem.ClaimSeven
namespace Go.Proofs.YtjgnckhbafgalaaDoor
namespace Rows

/-- THE TIED CARD OF 'atlaslaw12.EntryMakes'. -/
def entryMakesCard : Claim7 := { stood := { row := entryMakesRow, standIns := [], harness := (true, "41801fd2d7afc48f211caab6618c503a818fdbfba14a1f643196fd1e1c878cb3"), looks := false }, kinds := [], alts := [], laidByText := true, laidKinds := [.data], laidTests := true, laidLooks := .later }
def EntryMakesCardSaid : Prop := Claim7.holds Tryd.pinned (.plain (OpenSpec.ofChange entryMakesSpec)) entryMakesCard

/-- THE TIED CARD OF 'atlaslaw12.EntryAsks'. -/
def entryAsksCard : Claim7 := { stood := { row := entryAsksRow, standIns := [], harness := (true, "41801fd2d7afc48f211caab6618c503a818fdbfba14a1f643196fd1e1c878cb3"), looks := false }, kinds := [], alts := [], laidByText := true, laidKinds := [.data], laidTests := true, laidLooks := .later }
def EntryAsksCardSaid : Prop := Claim7.holds Tryd.pinned (.plain (OpenSpec.ofChange entryAsksSpec)) entryAsksCard

/-- THE TIED CARD OF 'atlaslaw12.EntryLeads'. -/
def entryLeadsCard : Claim7 := { stood := { row := entryLeadsRow, standIns := [], harness := (true, "41801fd2d7afc48f211caab6618c503a818fdbfba14a1f643196fd1e1c878cb3"), looks := false }, kinds := [], alts := [], laidByText := true, laidKinds := [.data], laidTests := true, laidLooks := .later }
def EntryLeadsCardSaid : Prop := Claim7.holds Tryd.pinned (.plain (OpenSpec.ofChange entryLeadsSpec)) entryLeadsCard

/-- THE TIED CARD OF 'atlaslaw12.EntryOver'. -/
def entryOverCard : Claim7 := { stood := { row := entryOverRow, standIns := [], harness := (true, "41801fd2d7afc48f211caab6618c503a818fdbfba14a1f643196fd1e1c878cb3"), looks := false }, kinds := [], alts := [], laidByText := true, laidKinds := [.data], laidTests := true, laidLooks := .later }
def EntryOverCardSaid : Prop := Claim7.holds Tryd.pinned (.plain (OpenSpec.ofChange entryOverSpec)) entryOverCard

/-- THE TIED CARD OF 'atlaslaw12.EntrySame'. -/
def entrySameCard : Claim7 := { stood := { row := entrySameRow, standIns := [], harness := (true, "41801fd2d7afc48f211caab6618c503a818fdbfba14a1f643196fd1e1c878cb3"), looks := false }, kinds := [], alts := [], laidByText := true, laidKinds := [.data], laidTests := true, laidLooks := .later }
def EntrySameCardSaid : Prop := Claim7.holds Tryd.pinned (.plain (OpenSpec.ofChange entrySameSpec)) entrySameCard

/-- THE TIED CARD OF 'atlaslaw06.PteWords'. -/
def pteWordsCard : Claim7 := { stood := { row := pteWordsRow, standIns := [], harness := (true, "41801fd2d7afc48f211caab6618c503a818fdbfba14a1f643196fd1e1c878cb3"), looks := false }, kinds := [], alts := [], laidByText := true, laidKinds := [.data], laidTests := true, laidLooks := .later }
def PteWordsCardSaid : Prop := Claim7.holds Tryd.pinned (.plain (OpenSpec.ofChange pteWordsSpec)) pteWordsCard

/-- THE TIED CARD OF 'atlaslaw06.PteKinds'. -/
def pteKindsCard : Claim7 := { stood := { row := pteKindsRow, standIns := [], harness := (true, "41801fd2d7afc48f211caab6618c503a818fdbfba14a1f643196fd1e1c878cb3"), looks := false }, kinds := [], alts := [], laidByText := true, laidKinds := [.data], laidTests := true, laidLooks := .later }
def PteKindsCardSaid : Prop := Claim7.holds Tryd.pinned (.plain (OpenSpec.ofChange pteKindsSpec)) pteKindsCard

/-- THE TIED CARD OF 'atlaslaw06.PteBack'. -/
def pteBackCard : Claim7 := { stood := { row := pteBackRow, standIns := [], harness := (true, "41801fd2d7afc48f211caab6618c503a818fdbfba14a1f643196fd1e1c878cb3"), looks := false }, kinds := [], alts := [], laidByText := true, laidKinds := [.data], laidTests := true, laidLooks := .later }
def PteBackCardSaid : Prop := Claim7.holds Tryd.pinned (.plain (OpenSpec.ofChange pteBackSpec)) pteBackCard

/-- THE TIED CARD OF 'atlaslaw06.PteOne'. -/
def pteOneCard : Claim7 := { stood := { row := pteOneRow, standIns := [], harness := (true, "41801fd2d7afc48f211caab6618c503a818fdbfba14a1f643196fd1e1c878cb3"), looks := false }, kinds := [], alts := [], laidByText := true, laidKinds := [.data], laidTests := true, laidLooks := .later }
def PteOneCardSaid : Prop := Claim7.holds Tryd.pinned (.plain (OpenSpec.ofChange pteOneSpec)) pteOneCard

/-- THE TIED CARD OF 'atlaslaw06.PteMade'. -/
def pteMadeCard : Claim7 := { stood := { row := pteMadeRow, standIns := [], harness := (true, "41801fd2d7afc48f211caab6618c503a818fdbfba14a1f643196fd1e1c878cb3"), looks := false }, kinds := [], alts := [], laidByText := true, laidKinds := [.data], laidTests := true, laidLooks := .later }
def PteMadeCardSaid : Prop := Claim7.holds Tryd.pinned (.plain (OpenSpec.ofChange pteMadeSpec)) pteMadeCard

/-- THE SECOND FORM's CARD OF 'atlaslaw12.EntryMakes'. -/
def entryMakesUptoCard : Claim7 := { stood := { row := entryMakesUptoRow, standIns := [], harness := (true, "41801fd2d7afc48f211caab6618c503a818fdbfba14a1f643196fd1e1c878cb3"), looks := false }, kinds := [], alts := [], laidByText := true, laidKinds := [.data], laidTests := true, laidLooks := .later }
def EntryMakesUptoCardSaid : Prop := Claim7.holds Tryd.pinned (.plain (OpenSpec.upto entryMakesSpec)) entryMakesUptoCard

/-- THE SECOND FORM's CARD OF 'atlaslaw12.EntryAsks'. -/
def entryAsksUptoCard : Claim7 := { stood := { row := entryAsksUptoRow, standIns := [], harness := (true, "41801fd2d7afc48f211caab6618c503a818fdbfba14a1f643196fd1e1c878cb3"), looks := false }, kinds := [], alts := [], laidByText := true, laidKinds := [.data], laidTests := true, laidLooks := .later }
def EntryAsksUptoCardSaid : Prop := Claim7.holds Tryd.pinned (.plain (OpenSpec.upto entryAsksSpec)) entryAsksUptoCard

/-- THE SECOND FORM's CARD OF 'atlaslaw12.EntryLeads'. -/
def entryLeadsUptoCard : Claim7 := { stood := { row := entryLeadsUptoRow, standIns := [], harness := (true, "41801fd2d7afc48f211caab6618c503a818fdbfba14a1f643196fd1e1c878cb3"), looks := false }, kinds := [], alts := [], laidByText := true, laidKinds := [.data], laidTests := true, laidLooks := .later }
def EntryLeadsUptoCardSaid : Prop := Claim7.holds Tryd.pinned (.plain (OpenSpec.upto entryLeadsSpec)) entryLeadsUptoCard

/-- THE SECOND FORM's CARD OF 'atlaslaw12.EntryOver'. -/
def entryOverUptoCard : Claim7 := { stood := { row := entryOverUptoRow, standIns := [], harness := (true, "41801fd2d7afc48f211caab6618c503a818fdbfba14a1f643196fd1e1c878cb3"), looks := false }, kinds := [], alts := [], laidByText := true, laidKinds := [.data], laidTests := true, laidLooks := .later }
def EntryOverUptoCardSaid : Prop := Claim7.holds Tryd.pinned (.plain (OpenSpec.upto entryOverSpec)) entryOverUptoCard

/-- THE SECOND FORM's CARD OF 'atlaslaw12.EntrySame'. -/
def entrySameUptoCard : Claim7 := { stood := { row := entrySameUptoRow, standIns := [], harness := (true, "41801fd2d7afc48f211caab6618c503a818fdbfba14a1f643196fd1e1c878cb3"), looks := false }, kinds := [], alts := [], laidByText := true, laidKinds := [.data], laidTests := true, laidLooks := .later }
def EntrySameUptoCardSaid : Prop := Claim7.holds Tryd.pinned (.plain (OpenSpec.upto entrySameSpec)) entrySameUptoCard

/-- THE SECOND FORM's CARD OF 'atlaslaw06.PteWords'. -/
def pteWordsUptoCard : Claim7 := { stood := { row := pteWordsUptoRow, standIns := [], harness := (true, "41801fd2d7afc48f211caab6618c503a818fdbfba14a1f643196fd1e1c878cb3"), looks := false }, kinds := [], alts := [], laidByText := true, laidKinds := [.data], laidTests := true, laidLooks := .later }
def PteWordsUptoCardSaid : Prop := Claim7.holds Tryd.pinned (.plain (OpenSpec.upto pteWordsSpec)) pteWordsUptoCard

/-- THE SECOND FORM's CARD OF 'atlaslaw06.PteKinds'. -/
def pteKindsUptoCard : Claim7 := { stood := { row := pteKindsUptoRow, standIns := [], harness := (true, "41801fd2d7afc48f211caab6618c503a818fdbfba14a1f643196fd1e1c878cb3"), looks := false }, kinds := [], alts := [], laidByText := true, laidKinds := [.data], laidTests := true, laidLooks := .later }
def PteKindsUptoCardSaid : Prop := Claim7.holds Tryd.pinned (.plain (OpenSpec.upto pteKindsSpec)) pteKindsUptoCard

/-- THE SECOND FORM's CARD OF 'atlaslaw06.PteBack'. -/
def pteBackUptoCard : Claim7 := { stood := { row := pteBackUptoRow, standIns := [], harness := (true, "41801fd2d7afc48f211caab6618c503a818fdbfba14a1f643196fd1e1c878cb3"), looks := false }, kinds := [], alts := [], laidByText := true, laidKinds := [.data], laidTests := true, laidLooks := .later }
def PteBackUptoCardSaid : Prop := Claim7.holds Tryd.pinned (.plain (OpenSpec.upto pteBackSpec)) pteBackUptoCard

/-- THE SECOND FORM's CARD OF 'atlaslaw06.PteOne'. -/
def pteOneUptoCard : Claim7 := { stood := { row := pteOneUptoRow, standIns := [], harness := (true, "41801fd2d7afc48f211caab6618c503a818fdbfba14a1f643196fd1e1c878cb3"), looks := false }, kinds := [], alts := [], laidByText := true, laidKinds := [.data], laidTests := true, laidLooks := .later }
def PteOneUptoCardSaid : Prop := Claim7.holds Tryd.pinned (.plain (OpenSpec.upto pteOneSpec)) pteOneUptoCard

/-- THE SECOND FORM's CARD OF 'atlaslaw06.PteMade'. -/
def pteMadeUptoCard : Claim7 := { stood := { row := pteMadeUptoRow, standIns := [], harness := (true, "41801fd2d7afc48f211caab6618c503a818fdbfba14a1f643196fd1e1c878cb3"), looks := false }, kinds := [], alts := [], laidByText := true, laidKinds := [.data], laidTests := true, laidLooks := .later }
def PteMadeUptoCardSaid : Prop := Claim7.holds Tryd.pinned (.plain (OpenSpec.upto pteMadeSpec)) pteMadeUptoCard
end Rows
end Go.Proofs.YtjgnckhbafgalaaDoor
