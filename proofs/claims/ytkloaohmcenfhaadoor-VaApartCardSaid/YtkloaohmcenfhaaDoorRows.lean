/-
  NARROWER THAN 'FOR EVERY INPUT', by the rows' own cells (each row's printed sentence says how): VaAsks: laid · VaParts: laid · VaApart: laid · VaNext: laid.
  DERIVED. THE GIVEN ROWS OF THIS SEAT. 4 by the template 'for every input the law returns true; each argument reads behind the call as it read before'; 0 by the template 'total and deterministic' (their statements: YtkloaohmcenfhaaDoorTotals.lean).
  GIVEN WITH THE SEED: the statements are not yours to turn. If you find one false, say at which input.
  Laid BY PROGRAM, IN A SANDBOX (cutbox-rows.mjs): the forced cells as the released guide's own fill.sh prints them over the translation 7bc1ea42d999e0ce… (all of the seat's roots in one cut). By AI agents, Wed Nov 11 2026. No macro, syntax, notation, axiom, sorry.
-/
import Derived.Test.YtkloaohmcenfhaaDoorChecked
import GoSem.Claim
import GoSem.ClaimJoined
import GoSem.ClaimMapViews
import Derived.JoinedTies
import Derived.KernelRfl
namespace Go.Proofs.YtkloaohmcenfhaaDoor
/- THE CELL 'sum', in the pinned program and in every row, IS THE sha256 OF THE DUMP (.gsa) THAT YtkloaohmcenfhaaDoorProg.lean LOADS. Nothing in Lean hashes anything: it is a label: what it is worth is what the hold of that sum in a sandbox is worth. -/
noncomputable def Tryd.pinned : Pinned := { name := "ytkloaohmcenfhaadoor", sum := "7bc1ea42d999e0ce88e6fc199f9e4016d7510e37950b91beda5e361d4b2b84a1", checked := Tryd.checked }
namespace Rows
def none {H : Type} : Left H := { results := [], args := [] }

/- WHAT THE LISTED PACKAGE-LEVEL VARIABLES READ AS WHEN THE CALL BEGINS. Each datum BY PROGRAM (the guide's laid-datum.mjs) off the statement by which the dump's own 'gosem.cut.vars' lays the variable. In a bare row this is a premise. The card (YtkloaohmcenfhaaDoorCards.lean) ties it to the program's text. -/
def laid_atlas_va_sizes {H : Type} : DataW H := .agg [.lit (.int .u64 4096), .lit (.int .u64 2097152), .lit (.int .u64 1073741824)]

/-- 'atlaslaw05.VaAsks': WHATEVER THE INPUT: true; the input reads as it did. -/
def vaAsksSpec : ChangeSpec := { name := "vaAsks", fn := fun _ => fun
  | [d1, d2, d3] => { results := [.lit (.bool true)], args := [d1, d2, d3] }
  | _ => none }
def vaAsksRow : OpenClaim := { program := "ytkloaohmcenfhaadoor", sum := "7bc1ea42d999e0ce88e6fc199f9e4016d7510e37950b91beda5e361d4b2b84a1", func := "atlas/atlaslaw05.VaAsks", spec := "vaAsks", named := ["atlas/va.sizes"], apart := false, laid := [("atlas/va.sizes", laid_atlas_va_sizes)] }
def VaAsksSaid : Prop := vaAsksRow.holds Tryd.pinned (OpenSpec.ofChange vaAsksSpec)

/-- ITS FALSE NEIGHBOUR: 'it returns false'. Refute it at one input. -/
def vaAsksWrong : ChangeSpec := { name := "vaAsks", fn := fun _ => fun
  | [d1, d2, d3] => { results := [.lit (.bool false)], args := [d1, d2, d3] }
  | _ => none }
def VaAsksWrongFalsely : Prop := vaAsksRow.holds Tryd.pinned (OpenSpec.ofChange vaAsksWrong)

/-- 'atlaslaw05.VaParts': WHATEVER THE INPUT: true; the input reads as it did. -/
def vaPartsSpec : ChangeSpec := { name := "vaParts", fn := fun _ => fun
  | [d1, d2] => { results := [.lit (.bool true)], args := [d1, d2] }
  | _ => none }
def vaPartsRow : OpenClaim := { program := "ytkloaohmcenfhaadoor", sum := "7bc1ea42d999e0ce88e6fc199f9e4016d7510e37950b91beda5e361d4b2b84a1", func := "atlas/atlaslaw05.VaParts", spec := "vaParts", named := ["atlas/va.sizes"], apart := false, laid := [("atlas/va.sizes", laid_atlas_va_sizes)] }
def VaPartsSaid : Prop := vaPartsRow.holds Tryd.pinned (OpenSpec.ofChange vaPartsSpec)

/-- ITS FALSE NEIGHBOUR: 'it returns false'. Refute it at one input. -/
def vaPartsWrong : ChangeSpec := { name := "vaParts", fn := fun _ => fun
  | [d1, d2] => { results := [.lit (.bool false)], args := [d1, d2] }
  | _ => none }
def VaPartsWrongFalsely : Prop := vaPartsRow.holds Tryd.pinned (OpenSpec.ofChange vaPartsWrong)

/-- 'atlaslaw05.VaApart': WHATEVER THE INPUT: true; the input reads as it did. -/
def vaApartSpec : ChangeSpec := { name := "vaApart", fn := fun _ => fun
  | [d1, d2, d3] => { results := [.lit (.bool true)], args := [d1, d2, d3] }
  | _ => none }
def vaApartRow : OpenClaim := { program := "ytkloaohmcenfhaadoor", sum := "7bc1ea42d999e0ce88e6fc199f9e4016d7510e37950b91beda5e361d4b2b84a1", func := "atlas/atlaslaw05.VaApart", spec := "vaApart", named := ["atlas/va.sizes"], apart := false, laid := [("atlas/va.sizes", laid_atlas_va_sizes)] }
def VaApartSaid : Prop := vaApartRow.holds Tryd.pinned (OpenSpec.ofChange vaApartSpec)

/-- ITS FALSE NEIGHBOUR: 'it returns false'. Refute it at one input. -/
def vaApartWrong : ChangeSpec := { name := "vaApart", fn := fun _ => fun
  | [d1, d2, d3] => { results := [.lit (.bool false)], args := [d1, d2, d3] }
  | _ => none }
def VaApartWrongFalsely : Prop := vaApartRow.holds Tryd.pinned (OpenSpec.ofChange vaApartWrong)

/-- 'atlaslaw05.VaNext': WHATEVER THE INPUT: true; the input reads as it did. -/
def vaNextSpec : ChangeSpec := { name := "vaNext", fn := fun _ => fun
  | [d1, d2] => { results := [.lit (.bool true)], args := [d1, d2] }
  | _ => none }
def vaNextRow : OpenClaim := { program := "ytkloaohmcenfhaadoor", sum := "7bc1ea42d999e0ce88e6fc199f9e4016d7510e37950b91beda5e361d4b2b84a1", func := "atlas/atlaslaw05.VaNext", spec := "vaNext", named := ["atlas/va.sizes"], apart := false, laid := [("atlas/va.sizes", laid_atlas_va_sizes)] }
def VaNextSaid : Prop := vaNextRow.holds Tryd.pinned (OpenSpec.ofChange vaNextSpec)

/-- ITS FALSE NEIGHBOUR: 'it returns false'. Refute it at one input. -/
def vaNextWrong : ChangeSpec := { name := "vaNext", fn := fun _ => fun
  | [d1, d2] => { results := [.lit (.bool false)], args := [d1, d2] }
  | _ => none }
def VaNextWrongFalsely : Prop := vaNextRow.holds Tryd.pinned (OpenSpec.ofChange vaNextWrong)

/- THE SECOND FORM. 'bulk': how many values and letters a reading holds, each counted each time it is reached (what is shared counts as often as it is met; a slice's spare places count too). A statement '..UptoSaid' is the law's where the arguments, and the package variables that the reading takes, are together of bulk at most 1048576: NARROWER than '..Said'. Prove '..Said' where nothing that the law and all that it calls make is longer than what came in: it says more and counts as full. Else prove '..UptoSaid'. A law counts once. -/
mutual
def uptoBulk {H : Type} : DataW H → Nat
  | .lit (.string bytes) => bytes.length + 1
  | .lit _ => 1
  | .nil => 1
  | .ptr d => uptoBulk d + 1
  | .slice elems spare => uptoBulkAll elems + uptoBulkAll spare + 1
  | .agg parts => uptoBulkAll parts + 1
  | .iface _ d => uptoBulk d + 1
  | .map entries => uptoBulkEntries entries + 1
  | .held _ => 1
def uptoBulkAll {H : Type} : List (DataW H) → Nat
  | [] => 0
  | d :: r => uptoBulk d + uptoBulkAll r
def uptoBulkEntries {H : Type} : List (Lit × DataW H) → Nat
  | [] => 0
  | x :: r => uptoBulkEntry x + uptoBulkEntries r
def uptoBulkEntry {H : Type} : Lit × DataW H → Nat
  | (.string bytes, d) => bytes.length + uptoBulk d + 1
  | (_, d) => uptoBulk d + 1
 end
def uptoSmall : (H : Type) → List (DataW H) → Bool := fun _ ds => decide (uptoBulkAll ds ≤ 1048576)
def OpenSpec.upto (s : _root_.Go.ChangeSpec) : _root_.Go.OpenSpec := { _root_.Go.OpenSpec.ofChange s with cond := some uptoSmall }

/-- 'atlaslaw05.VaAsks', WHERE WHAT IT READS IS OF BULK AT MOST 1048576: true; the input reads as it did. -/
def vaAsksUptoRow : OpenClaim := { program := "ytkloaohmcenfhaadoor", sum := "7bc1ea42d999e0ce88e6fc199f9e4016d7510e37950b91beda5e361d4b2b84a1", func := "atlas/atlaslaw05.VaAsks", spec := "vaAsks", named := ["atlas/va.sizes"], apart := false, laid := [("atlas/va.sizes", laid_atlas_va_sizes)], narrowed := true }
def VaAsksUptoSaid : Prop := vaAsksUptoRow.holds Tryd.pinned (OpenSpec.upto vaAsksSpec)

/-- 'atlaslaw05.VaParts', WHERE WHAT IT READS IS OF BULK AT MOST 1048576: true; the input reads as it did. -/
def vaPartsUptoRow : OpenClaim := { program := "ytkloaohmcenfhaadoor", sum := "7bc1ea42d999e0ce88e6fc199f9e4016d7510e37950b91beda5e361d4b2b84a1", func := "atlas/atlaslaw05.VaParts", spec := "vaParts", named := ["atlas/va.sizes"], apart := false, laid := [("atlas/va.sizes", laid_atlas_va_sizes)], narrowed := true }
def VaPartsUptoSaid : Prop := vaPartsUptoRow.holds Tryd.pinned (OpenSpec.upto vaPartsSpec)

/-- 'atlaslaw05.VaApart', WHERE WHAT IT READS IS OF BULK AT MOST 1048576: true; the input reads as it did. -/
def vaApartUptoRow : OpenClaim := { program := "ytkloaohmcenfhaadoor", sum := "7bc1ea42d999e0ce88e6fc199f9e4016d7510e37950b91beda5e361d4b2b84a1", func := "atlas/atlaslaw05.VaApart", spec := "vaApart", named := ["atlas/va.sizes"], apart := false, laid := [("atlas/va.sizes", laid_atlas_va_sizes)], narrowed := true }
def VaApartUptoSaid : Prop := vaApartUptoRow.holds Tryd.pinned (OpenSpec.upto vaApartSpec)

/-- 'atlaslaw05.VaNext', WHERE WHAT IT READS IS OF BULK AT MOST 1048576: true; the input reads as it did. -/
def vaNextUptoRow : OpenClaim := { program := "ytkloaohmcenfhaadoor", sum := "7bc1ea42d999e0ce88e6fc199f9e4016d7510e37950b91beda5e361d4b2b84a1", func := "atlas/atlaslaw05.VaNext", spec := "vaNext", named := ["atlas/va.sizes"], apart := false, laid := [("atlas/va.sizes", laid_atlas_va_sizes)], narrowed := true }
def VaNextUptoSaid : Prop := vaNextUptoRow.holds Tryd.pinned (OpenSpec.upto vaNextSpec)

end Rows
end Go.Proofs.YtkloaohmcenfhaaDoor
