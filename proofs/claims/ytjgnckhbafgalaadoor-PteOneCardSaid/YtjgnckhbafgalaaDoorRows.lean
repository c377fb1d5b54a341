/-
  NARROWER THAN 'FOR EVERY INPUT', by the rows' own cells (each row's printed sentence says how): EntryMakes: laid · EntryAsks: laid · EntryLeads: laid · EntryOver: laid · EntrySame: laid · PteWords: laid · PteKinds: laid · PteBack: laid · PteOne: laid · PteMade: laid.
  DERIVED. THE GIVEN ROWS OF THIS SEAT. 10 by the template 'for every input the law returns true; each argument reads behind the call as it read before'; 0 by the template 'total and deterministic' (their statements: YtjgnckhbafgalaaDoorTotals.lean).
  GIVEN WITH THE SEED: the statements are not yours to turn. If you find one false, say at which input.
  Laid BY PROGRAM, IN A SANDBOX (cutbox-rows.mjs): the forced cells as the released guide's own fill.sh prints them over the translation 2af25608fa83197e… (all of the seat's roots in one cut). By AI agents, Wed Nov 11 2026. No macro, syntax, notation, axiom, sorry.
-/
import Derived.Test.YtjgnckhbafgalaaDoorChecked
import GoSem.Claim
import GoSem.ClaimJoined
import GoSem.ClaimMapViews
import Derived.JoinedTies
import Derived.KernelRfl
namespace Go.Proofs.YtjgnckhbafgalaaDoor
/- THE CELL 'sum', in the pinned program and in every row, IS THE sha256 OF THE DUMP (.gsa) THAT YtjgnckhbafgalaaDoorProg.lean LOADS. Nothing in Lean hashes anything: it is a label: what it is worth is what the hold of that sum in a sandbox is worth. -/
noncomputable def Tryd.pinned : Pinned := { name := "ytjgnckhbafgalaadoor", sum := "2af25608fa83197e22a06cece56fbedc81f43b1987832d3fe925e702ea815f94", checked := Tryd.checked }
namespace Rows
def none {H : Type} : Left H := { results := [], args := [] }

/- WHAT THE LISTED PACKAGE-LEVEL VARIABLES READ AS WHEN THE CALL BEGINS. Each datum BY PROGRAM (the guide's laid-datum.mjs) off the statement by which the dump's own 'gosem.cut.vars' lays the variable. In a bare row this is a premise. The card (YtjgnckhbafgalaaDoorCards.lean) ties it to the program's text. -/
def laid_atlas_va_sizes {H : Type} : DataW H := .agg [.lit (.int .u64 4096), .lit (.int .u64 2097152), .lit (.int .u64 1073741824)]

/-- 'atlaslaw12.EntryMakes': WHATEVER THE INPUT: true; the input reads as it did. -/
def entryMakesSpec : ChangeSpec := { name := "entryMakes", fn := fun _ => fun
  | [d1, d2, d3, d4] => { results := [.lit (.bool true)], args := [d1, d2, d3, d4] }
  | _ => none }
def entryMakesRow : OpenClaim := { program := "ytjgnckhbafgalaadoor", sum := "2af25608fa83197e22a06cece56fbedc81f43b1987832d3fe925e702ea815f94", func := "atlas/atlaslaw12.EntryMakes", spec := "entryMakes", named := ["atlas/va.sizes"], apart := false, laid := [("atlas/va.sizes", laid_atlas_va_sizes)] }
def EntryMakesSaid : Prop := entryMakesRow.holds Tryd.pinned (OpenSpec.ofChange entryMakesSpec)

/-- ITS FALSE NEIGHBOUR: 'it returns false'. Refute it at one input. -/
def entryMakesWrong : ChangeSpec := { name := "entryMakes", fn := fun _ => fun
  | [d1, d2, d3, d4] => { results := [.lit (.bool false)], args := [d1, d2, d3, d4] }
  | _ => none }
def EntryMakesWrongFalsely : Prop := entryMakesRow.holds Tryd.pinned (OpenSpec.ofChange entryMakesWrong)

/-- 'atlaslaw12.EntryAsks': WHATEVER THE INPUT: true; the input reads as it did. -/
def entryAsksSpec : ChangeSpec := { name := "entryAsks", fn := fun _ => fun
  | [d1, d2, d3, d4] => { results := [.lit (.bool true)], args := [d1, d2, d3, d4] }
  | _ => none }
def entryAsksRow : OpenClaim := { program := "ytjgnckhbafgalaadoor", sum := "2af25608fa83197e22a06cece56fbedc81f43b1987832d3fe925e702ea815f94", func := "atlas/atlaslaw12.EntryAsks", spec := "entryAsks", named := ["atlas/va.sizes"], apart := false, laid := [("atlas/va.sizes", laid_atlas_va_sizes)] }
def EntryAsksSaid : Prop := entryAsksRow.holds Tryd.pinned (OpenSpec.ofChange entryAsksSpec)

/-- ITS FALSE NEIGHBOUR: 'it returns false'. Refute it at one input. -/
def entryAsksWrong : ChangeSpec := { name := "entryAsks", fn := fun _ => fun
  | [d1, d2, d3, d4] => { results := [.lit (.bool false)], args := [d1, d2, d3, d4] }
  | _ => none }
def EntryAsksWrongFalsely : Prop := entryAsksRow.holds Tryd.pinned (OpenSpec.ofChange entryAsksWrong)

/-- 'atlaslaw12.EntryLeads': WHATEVER THE INPUT: true; the input reads as it did. -/
def entryLeadsSpec : ChangeSpec := { name := "entryLeads", fn := fun _ => fun
  | [d1, d2, d3, d4, d5] => { results := [.lit (.bool true)], args := [d1, d2, d3, d4, d5] }
  | _ => none }
def entryLeadsRow : OpenClaim := { program := "ytjgnckhbafgalaadoor", sum := "2af25608fa83197e22a06cece56fbedc81f43b1987832d3fe925e702ea815f94", func := "atlas/atlaslaw12.EntryLeads", spec := "entryLeads", named := ["atlas/va.sizes"], apart := false, laid := [("atlas/va.sizes", laid_atlas_va_sizes)] }
def EntryLeadsSaid : Prop := entryLeadsRow.holds Tryd.pinned (OpenSpec.ofChange entryLeadsSpec)

/-- ITS FALSE NEIGHBOUR: 'it returns false'. Refute it at one input. -/
def entryLeadsWrong : ChangeSpec := { name := "entryLeads", fn := fun _ => fun
  | [d1, d2, d3, d4, d5] => { results := [.lit (.bool false)], args := [d1, d2, d3, d4, d5] }
  | _ => none }
def EntryLeadsWrongFalsely : Prop := entryLeadsRow.holds Tryd.pinned (OpenSpec.ofChange entryLeadsWrong)

/-- 'atlaslaw12.EntryOver': WHATEVER THE INPUT: true; the input reads as it did. -/
def entryOverSpec : ChangeSpec := { name := "entryOver", fn := fun _ => fun
  | [d1, d2, d3] => { results := [.lit (.bool true)], args := [d1, d2, d3] }
  | _ => none }
def entryOverRow : OpenClaim := { program := "ytjgnckhbafgalaadoor", sum := "2af25608fa83197e22a06cece56fbedc81f43b1987832d3fe925e702ea815f94", func := "atlas/atlaslaw12.EntryOver", spec := "entryOver", named := ["atlas/va.sizes"], apart := false, laid := [("atlas/va.sizes", laid_atlas_va_sizes)] }
def EntryOverSaid : Prop := entryOverRow.holds Tryd.pinned (OpenSpec.ofChange entryOverSpec)

/-- ITS FALSE NEIGHBOUR: 'it returns false'. Refute it at one input. -/
def entryOverWrong : ChangeSpec := { name := "entryOver", fn := fun _ => fun
  | [d1, d2, d3] => { results := [.lit (.bool false)], args := [d1, d2, d3] }
  | _ => none }
def EntryOverWrongFalsely : Prop := entryOverRow.holds Tryd.pinned (OpenSpec.ofChange entryOverWrong)

/-- 'atlaslaw12.EntrySame': WHATEVER THE INPUT: true; the input reads as it did. -/
def entrySameSpec : ChangeSpec := { name := "entrySame", fn := fun _ => fun
  | [d1, d2] => { results := [.lit (.bool true)], args := [d1, d2] }
  | _ => none }
def entrySameRow : OpenClaim := { program := "ytjgnckhbafgalaadoor", sum := "2af25608fa83197e22a06cece56fbedc81f43b1987832d3fe925e702ea815f94", func := "atlas/atlaslaw12.EntrySame", spec := "entrySame", named := ["atlas/va.sizes"], apart := false, laid := [("atlas/va.sizes", laid_atlas_va_sizes)] }
def EntrySameSaid : Prop := entrySameRow.holds Tryd.pinned (OpenSpec.ofChange entrySameSpec)

/-- ITS FALSE NEIGHBOUR: 'it returns false'. Refute it at one input. -/
def entrySameWrong : ChangeSpec := { name := "entrySame", fn := fun _ => fun
  | [d1, d2] => { results := [.lit (.bool false)], args := [d1, d2] }
  | _ => none }
def EntrySameWrongFalsely : Prop := entrySameRow.holds Tryd.pinned (OpenSpec.ofChange entrySameWrong)

/-- 'atlaslaw06.PteWords': WHATEVER THE INPUT: true; the input reads as it did. -/
def pteWordsSpec : ChangeSpec := { name := "pteWords", fn := fun _ => fun
  | [d1, d2] => { results := [.lit (.bool true)], args := [d1, d2] }
  | _ => none }
def pteWordsRow : OpenClaim := { program := "ytjgnckhbafgalaadoor", sum := "2af25608fa83197e22a06cece56fbedc81f43b1987832d3fe925e702ea815f94", func := "atlas/atlaslaw06.PteWords", spec := "pteWords", unfollowed := true, recurses := true, named := ["atlas/va.sizes"], apart := false, laid := [("atlas/va.sizes", laid_atlas_va_sizes)] }
def PteWordsSaid : Prop := pteWordsRow.holds Tryd.pinned (OpenSpec.ofChange pteWordsSpec)

/-- ITS FALSE NEIGHBOUR: 'it returns false'. Refute it at one input. -/
def pteWordsWrong : ChangeSpec := { name := "pteWords", fn := fun _ => fun
  | [d1, d2] => { results := [.lit (.bool false)], args := [d1, d2] }
  | _ => none }
def PteWordsWrongFalsely : Prop := pteWordsRow.holds Tryd.pinned (OpenSpec.ofChange pteWordsWrong)

/-- 'atlaslaw06.PteKinds': WHATEVER THE INPUT: true; the input reads as it did. -/
def pteKindsSpec : ChangeSpec := { name := "pteKinds", fn := fun _ => fun
  | [d1, d2, d3, d4, d5] => { results := [.lit (.bool true)], args := [d1, d2, d3, d4, d5] }
  | _ => none }
def pteKindsRow : OpenClaim := { program := "ytjgnckhbafgalaadoor", sum := "2af25608fa83197e22a06cece56fbedc81f43b1987832d3fe925e702ea815f94", func := "atlas/atlaslaw06.PteKinds", spec := "pteKinds", unfollowed := true, recurses := true, named := ["atlas/va.sizes"], apart := false, laid := [("atlas/va.sizes", laid_atlas_va_sizes)] }
def PteKindsSaid : Prop := pteKindsRow.holds Tryd.pinned (OpenSpec.ofChange pteKindsSpec)

/-- ITS FALSE NEIGHBOUR: 'it returns false'. Refute it at one input. -/
def pteKindsWrong : ChangeSpec := { name := "pteKinds", fn := fun _ => fun
  | [d1, d2, d3, d4, d5] => { results := [.lit (.bool false)], args := [d1, d2, d3, d4, d5] }
  | _ => none }
def PteKindsWrongFalsely : Prop := pteKindsRow.holds Tryd.pinned (OpenSpec.ofChange pteKindsWrong)

/-- 'atlaslaw06.PteBack': WHATEVER THE INPUT: true; the input reads as it did. -/
def pteBackSpec : ChangeSpec := { name := "pteBack", fn := fun _ => fun
  | [d1, d2, d3] => { results := [.lit (.bool true)], args := [d1, d2, d3] }
  | _ => none }
def pteBackRow : OpenClaim := { program := "ytjgnckhbafgalaadoor", sum := "2af25608fa83197e22a06cece56fbedc81f43b1987832d3fe925e702ea815f94", func := "atlas/atlaslaw06.PteBack", spec := "pteBack", unfollowed := true, recurses := true, named := ["atlas/va.sizes"], apart := false, laid := [("atlas/va.sizes", laid_atlas_va_sizes)] }
def PteBackSaid : Prop := pteBackRow.holds Tryd.pinned (OpenSpec.ofChange pteBackSpec)

/-- ITS FALSE NEIGHBOUR: 'it returns false'. Refute it at one input. -/
def pteBackWrong : ChangeSpec := { name := "pteBack", fn := fun _ => fun
  | [d1, d2, d3] => { results := [.lit (.bool false)], args := [d1, d2, d3] }
  | _ => none }
def PteBackWrongFalsely : Prop := pteBackRow.holds Tryd.pinned (OpenSpec.ofChange pteBackWrong)

/-- 'atlaslaw06.PteOne': WHATEVER THE INPUT: true; the input reads as it did. -/
def pteOneSpec : ChangeSpec := { name := "pteOne", fn := fun _ => fun
  | [d1, d2] => { results := [.lit (.bool true)], args := [d1, d2] }
  | _ => none }
def pteOneRow : OpenClaim := { program := "ytjgnckhbafgalaadoor", sum := "2af25608fa83197e22a06cece56fbedc81f43b1987832d3fe925e702ea815f94", func := "atlas/atlaslaw06.PteOne", spec := "pteOne", unfollowed := true, recurses := true, named := ["atlas/va.sizes"], apart := false, laid := [("atlas/va.sizes", laid_atlas_va_sizes)] }
def PteOneSaid : Prop := pteOneRow.holds Tryd.pinned (OpenSpec.ofChange pteOneSpec)

/-- ITS FALSE NEIGHBOUR: 'it returns false'. Refute it at one input. -/
def pteOneWrong : ChangeSpec := { name := "pteOne", fn := fun _ => fun
  | [d1, d2] => { results := [.lit (.bool false)], args := [d1, d2] }
  | _ => none }
def PteOneWrongFalsely : Prop := pteOneRow.holds Tryd.pinned (OpenSpec.ofChange pteOneWrong)

/-- 'atlaslaw06.PteMade': WHATEVER THE INPUT: true; the input reads as it did. -/
def pteMadeSpec : ChangeSpec := { name := "pteMade", fn := fun _ => fun
  | [d1, d2, d3, d4] => { results := [.lit (.bool true)], args := [d1, d2, d3, d4] }
  | _ => none }
def pteMadeRow : OpenClaim := { program := "ytjgnckhbafgalaadoor", sum := "2af25608fa83197e22a06cece56fbedc81f43b1987832d3fe925e702ea815f94", func := "atlas/atlaslaw06.PteMade", spec := "pteMade", unfollowed := true, recurses := true, named := ["atlas/va.sizes"], apart := false, laid := [("atlas/va.sizes", laid_atlas_va_sizes)] }
def PteMadeSaid : Prop := pteMadeRow.holds Tryd.pinned (OpenSpec.ofChange pteMadeSpec)

/-- ITS FALSE NEIGHBOUR: 'it returns false'. Refute it at one input. -/
def pteMadeWrong : ChangeSpec := { name := "pteMade", fn := fun _ => fun
  | [d1, d2, d3, d4] => { results := [.lit (.bool false)], args := [d1, d2, d3, d4] }
  | _ => none }
def PteMadeWrongFalsely : Prop := pteMadeRow.holds Tryd.pinned (OpenSpec.ofChange pteMadeWrong)

/- THE SECOND FORM. 'bulk': how many values and letters a reading holds, each counted each time it is reached (what is shared counts as often as it is met; a slice's spare places count too). A statement '..UptoSaid' is the law's where the arguments, and the package variables that the reading takes, are together of bulk at most 1048576: NARROWER than '..Said'. Prove '..Said' where nothing that the law and all that it calls make is longer than what came in: it says more and counts as full. Else prove '..UptoSaid'. A law counts once. -/
mutual
def uptoBulk {H : Type} : DataW H → Nat
  | .lit (.string bytes) => bytes.length + 1
  | .lit _ => 1
  | .nil => 1
  | .ptr d => uptoBulk d + 1
  | .slice elems spare => uptoBulkAll elems + uptoBulkAll spare + 1
  | .agg parts => uptoBulkAll parts + 1
  | .iface _ d => uptoBulk d + 1
  | .map entries => uptoBulkEntries entries + 1
  | .held _ => 1
def uptoBulkAll {H : Type} : List (DataW H) → Nat
  | [] => 0
  | d :: r => uptoBulk d + uptoBulkAll r
def uptoBulkEntries {H : Type} : List (Lit × DataW H) → Nat
  | [] => 0
  | x :: r => uptoBulkEntry x + uptoBulkEntries r
def uptoBulkEntry {H : Type} : Lit × DataW H → Nat
  | (.string bytes, d) => bytes.length + uptoBulk d + 1
  | (_, d) => uptoBulk d + 1
 end
def uptoSmall : (H : Type) → List (DataW H) → Bool := fun _ ds => decide (uptoBulkAll ds ≤ 1048576)
def OpenSpec.upto (s : _root_.Go.ChangeSpec) : _root_.Go.OpenSpec := { _root_.Go.OpenSpec.ofChange s with cond := some uptoSmall }

/-- 'atlaslaw12.EntryMakes', WHERE WHAT IT READS IS OF BULK AT MOST 1048576: true; the input reads as it did. -/
def entryMakesUptoRow : OpenClaim := { program := "ytjgnckhbafgalaadoor", sum := "2af25608fa83197e22a06cece56fbedc81f43b1987832d3fe925e702ea815f94", func := "atlas/atlaslaw12.EntryMakes", spec := "entryMakes", named := ["atlas/va.sizes"], apart := false, laid := [("atlas/va.sizes", laid_atlas_va_sizes)], narrowed := true }
def EntryMakesUptoSaid : Prop := entryMakesUptoRow.holds Tryd.pinned (OpenSpec.upto entryMakesSpec)

/-- 'atlaslaw12.EntryAsks', WHERE WHAT IT READS IS OF BULK AT MOST 1048576: true; the input reads as it did. -/
def entryAsksUptoRow : OpenClaim := { program := "ytjgnckhbafgalaadoor", sum := "2af25608fa83197e22a06cece56fbedc81f43b1987832d3fe925e702ea815f94", func := "atlas/atlaslaw12.EntryAsks", spec := "entryAsks", named := ["atlas/va.sizes"], apart := false, laid := [("atlas/va.sizes", laid_atlas_va_sizes)], narrowed := true }
def EntryAsksUptoSaid : Prop := entryAsksUptoRow.holds Tryd.pinned (OpenSpec.upto entryAsksSpec)

/-- 'atlaslaw12.EntryLeads', WHERE WHAT IT READS IS OF BULK AT MOST 1048576: true; the input reads as it did. -/
def entryLeadsUptoRow : OpenClaim := { program := "ytjgnckhbafgalaadoor", sum := "2af25608fa83197e22a06cece56fbedc81f43b1987832d3fe925e702ea815f94", func := "atlas/atlaslaw12.EntryLeads", spec := "entryLeads", named := ["atlas/va.sizes"], apart := false, laid := [("atlas/va.sizes", laid_atlas_va_sizes)], narrowed := true }
def EntryLeadsUptoSaid : Prop := entryLeadsUptoRow.holds Tryd.pinned (OpenSpec.upto entryLeadsSpec)

/-- 'atlaslaw12.EntryOver', WHERE WHAT IT READS IS OF BULK AT MOST 1048576: true; the input reads as it did. -/
def entryOverUptoRow : OpenClaim := { program := "ytjgnckhbafgalaadoor", sum := "2af25608fa83197e22a06cece56fbedc81f43b1987832d3fe925e702ea815f94", func := "atlas/atlaslaw12.EntryOver", spec := "entryOver", named := ["atlas/va.sizes"], apart := false, laid := [("atlas/va.sizes", laid_atlas_va_sizes)], narrowed := true }
def EntryOverUptoSaid : Prop := entryOverUptoRow.holds Tryd.pinned (OpenSpec.upto entryOverSpec)

/-- 'atlaslaw12.EntrySame', WHERE WHAT IT READS IS OF BULK AT MOST 1048576: true; the input reads as it did. -/
def entrySameUptoRow : OpenClaim := { program := "ytjgnckhbafgalaadoor", sum := "2af25608fa83197e22a06cece56fbedc81f43b1987832d3fe925e702ea815f94", func := "atlas/atlaslaw12.EntrySame", spec := "entrySame", named := ["atlas/va.sizes"], apart := false, laid := [("atlas/va.sizes", laid_atlas_va_sizes)], narrowed := true }
def EntrySameUptoSaid : Prop := entrySameUptoRow.holds Tryd.pinned (OpenSpec.upto entrySameSpec)

/-- 'atlaslaw06.PteWords', WHERE WHAT IT READS IS OF BULK AT MOST 1048576: true; the input reads as it did. -/
def pteWordsUptoRow : OpenClaim := { program := "ytjgnckhbafgalaadoor", sum := "2af25608fa83197e22a06cece56fbedc81f43b1987832d3fe925e702ea815f94", func := "atlas/atlaslaw06.PteWords", spec := "pteWords", unfollowed := true, recurses := true, named := ["atlas/va.sizes"], apart := false, laid := [("atlas/va.sizes", laid_atlas_va_sizes)], narrowed := true }
def PteWordsUptoSaid : Prop := pteWordsUptoRow.holds Tryd.pinned (OpenSpec.upto pteWordsSpec)

/-- 'atlaslaw06.PteKinds', WHERE WHAT IT READS IS OF BULK AT MOST 1048576: true; the input reads as it did. -/
def pteKindsUptoRow : OpenClaim := { program := "ytjgnckhbafgalaadoor", sum := "2af25608fa83197e22a06cece56fbedc81f43b1987832d3fe925e702ea815f94", func := "atlas/atlaslaw06.PteKinds", spec := "pteKinds", unfollowed := true, recurses := true, named := ["atlas/va.sizes"], apart := false, laid := [("atlas/va.sizes", laid_atlas_va_sizes)], narrowed := true }
def PteKindsUptoSaid : Prop := pteKindsUptoRow.holds Tryd.pinned (OpenSpec.upto pteKindsSpec)

/-- 'atlaslaw06.PteBack', WHERE WHAT IT READS IS OF BULK AT MOST 1048576: true; the input reads as it did. -/
def pteBackUptoRow : OpenClaim := { program := "ytjgnckhbafgalaadoor", sum := "2af25608fa83197e22a06cece56fbedc81f43b1987832d3fe925e702ea815f94", func := "atlas/atlaslaw06.PteBack", spec := "pteBack", unfollowed := true, recurses := true, named := ["atlas/va.sizes"], apart := false, laid := [("atlas/va.sizes", laid_atlas_va_sizes)], narrowed := true }
def PteBackUptoSaid : Prop := pteBackUptoRow.holds Tryd.pinned (OpenSpec.upto pteBackSpec)

/-- 'atlaslaw06.PteOne', WHERE WHAT IT READS IS OF BULK AT MOST 1048576: true; the input reads as it did. -/
def pteOneUptoRow : OpenClaim := { program := "ytjgnckhbafgalaadoor", sum := "2af25608fa83197e22a06cece56fbedc81f43b1987832d3fe925e702ea815f94", func := "atlas/atlaslaw06.PteOne", spec := "pteOne", unfollowed := true, recurses := true, named := ["atlas/va.sizes"], apart := false, laid := [("atlas/va.sizes", laid_atlas_va_sizes)], narrowed := true }
def PteOneUptoSaid : Prop := pteOneUptoRow.holds Tryd.pinned (OpenSpec.upto pteOneSpec)

/-- 'atlaslaw06.PteMade', WHERE WHAT IT READS IS OF BULK AT MOST 1048576: true; the input reads as it did. -/
def pteMadeUptoRow : OpenClaim := { program := "ytjgnckhbafgalaadoor", sum := "2af25608fa83197e22a06cece56fbedc81f43b1987832d3fe925e702ea815f94", func := "atlas/atlaslaw06.PteMade", spec := "pteMade", unfollowed := true, recurses := true, named := ["atlas/va.sizes"], apart := false, laid := [("atlas/va.sizes", laid_atlas_va_sizes)], narrowed := true }
def PteMadeUptoSaid : Prop := pteMadeUptoRow.holds Tryd.pinned (OpenSpec.upto pteMadeSpec)

end Rows
end Go.Proofs.YtjgnckhbafgalaaDoor
