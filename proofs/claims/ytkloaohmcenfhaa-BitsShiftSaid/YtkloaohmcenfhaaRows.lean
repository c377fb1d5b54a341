/-
  No cell of these rows narrows 'for every input' (looked for: loops, veiled, ifaces, maps, wideKeys, modest, calm, conditions, laid).
  DERIVED. THE GIVEN ROWS OF THIS SEAT. 5 by the template 'for every input the law returns true; each argument reads behind the call as it read before'; 0 by the template 'total and deterministic' (their statements: YtkloaohmcenfhaaTotals.lean).
  GIVEN WITH THE SEED: the statements are not yours to turn. If you find one false, say at which input.
  Laid BY PROGRAM, IN A SANDBOX (cutbox-rows.mjs): the forced cells as the released guide's own fill.sh prints them over the translation 18835ba33b7c2fd1… (all of the seat's roots in one cut). By AI agents, Wed Nov 11 2026. No macro, syntax, notation, axiom, sorry.
-/
import Derived.Test.YtkloaohmcenfhaaChecked
import GoSem.Claim
import GoSem.ClaimJoined
import GoSem.ClaimMapViews
import Derived.JoinedTies
import Derived.KernelRfl
namespace Go.Proofs.Ytkloaohmcenfhaa
/- THE CELL 'sum', in the pinned program and in every row, IS THE sha256 OF THE DUMP (.gsa) THAT YtkloaohmcenfhaaProg.lean LOADS. Nothing in Lean hashes anything: it is a label: what it is worth is what the hold of that sum in a sandbox is worth. -/
noncomputable def Try.pinned : Pinned := { name := "ytkloaohmcenfhaa", sum := "18835ba33b7c2fd113452cd0b960c00d15792e5606aaaf6f84140b45f0539f9d", checked := Try.checked }
namespace Rows
def none {H : Type} : Left H := { results := [], args := [] }

/-- 'atlaslaw01.BitsFields': WHATEVER THE INPUT: true; the input reads as it did. -/
def bitsFieldsSpec : ChangeSpec := { name := "bitsFields", fn := fun _ => fun
  | [d1, d2, d3, d4] => { results := [.lit (.bool true)], args := [d1, d2, d3, d4] }
  | _ => none }
def bitsFieldsRow : OpenClaim := { program := "ytkloaohmcenfhaa", sum := "18835ba33b7c2fd113452cd0b960c00d15792e5606aaaf6f84140b45f0539f9d", func := "atlas/atlaslaw01.BitsFields", spec := "bitsFields", apart := false }
def BitsFieldsSaid : Prop := bitsFieldsRow.holds Try.pinned (OpenSpec.ofChange bitsFieldsSpec)

/-- ITS FALSE NEIGHBOUR: 'it returns false'. Refute it at one input. -/
def bitsFieldsWrong : ChangeSpec := { name := "bitsFields", fn := fun _ => fun
  | [d1, d2, d3, d4] => { results := [.lit (.bool false)], args := [d1, d2, d3, d4] }
  | _ => none }
def BitsFieldsWrongFalsely : Prop := bitsFieldsRow.holds Try.pinned (OpenSpec.ofChange bitsFieldsWrong)

/-- 'atlaslaw01.BitsSigns': WHATEVER THE INPUT: true; the input reads as it did. -/
def bitsSignsSpec : ChangeSpec := { name := "bitsSigns", fn := fun _ => fun
  | [d1, d2, d3] => { results := [.lit (.bool true)], args := [d1, d2, d3] }
  | _ => none }
def bitsSignsRow : OpenClaim := { program := "ytkloaohmcenfhaa", sum := "18835ba33b7c2fd113452cd0b960c00d15792e5606aaaf6f84140b45f0539f9d", func := "atlas/atlaslaw01.BitsSigns", spec := "bitsSigns", apart := false }
def BitsSignsSaid : Prop := bitsSignsRow.holds Try.pinned (OpenSpec.ofChange bitsSignsSpec)

/-- ITS FALSE NEIGHBOUR: 'it returns false'. Refute it at one input. -/
def bitsSignsWrong : ChangeSpec := { name := "bitsSigns", fn := fun _ => fun
  | [d1, d2, d3] => { results := [.lit (.bool false)], args := [d1, d2, d3] }
  | _ => none }
def BitsSignsWrongFalsely : Prop := bitsSignsRow.holds Try.pinned (OpenSpec.ofChange bitsSignsWrong)

/-- 'atlaslaw01.BitsBack': WHATEVER THE INPUT: true; the input reads as it did. -/
def bitsBackSpec : ChangeSpec := { name := "bitsBack", fn := fun _ => fun
  | [d1, d2, d3, d4, d5] => { results := [.lit (.bool true)], args := [d1, d2, d3, d4, d5] }
  | _ => none }
def bitsBackRow : OpenClaim := { program := "ytkloaohmcenfhaa", sum := "18835ba33b7c2fd113452cd0b960c00d15792e5606aaaf6f84140b45f0539f9d", func := "atlas/atlaslaw01.BitsBack", spec := "bitsBack", apart := false }
def BitsBackSaid : Prop := bitsBackRow.holds Try.pinned (OpenSpec.ofChange bitsBackSpec)

/-- ITS FALSE NEIGHBOUR: 'it returns false'. Refute it at one input. -/
def bitsBackWrong : ChangeSpec := { name := "bitsBack", fn := fun _ => fun
  | [d1, d2, d3, d4, d5] => { results := [.lit (.bool false)], args := [d1, d2, d3, d4, d5] }
  | _ => none }
def BitsBackWrongFalsely : Prop := bitsBackRow.holds Try.pinned (OpenSpec.ofChange bitsBackWrong)

/-- 'atlaslaw01.BitsWhole': WHATEVER THE INPUT: true; the input reads as it did. -/
def bitsWholeSpec : ChangeSpec := { name := "bitsWhole", fn := fun _ => fun
  | [d1, d2, d3] => { results := [.lit (.bool true)], args := [d1, d2, d3] }
  | _ => none }
def bitsWholeRow : OpenClaim := { program := "ytkloaohmcenfhaa", sum := "18835ba33b7c2fd113452cd0b960c00d15792e5606aaaf6f84140b45f0539f9d", func := "atlas/atlaslaw01.BitsWhole", spec := "bitsWhole", apart := false }
def BitsWholeSaid : Prop := bitsWholeRow.holds Try.pinned (OpenSpec.ofChange bitsWholeSpec)

/-- ITS FALSE NEIGHBOUR: 'it returns false'. Refute it at one input. -/
def bitsWholeWrong : ChangeSpec := { name := "bitsWhole", fn := fun _ => fun
  | [d1, d2, d3] => { results := [.lit (.bool false)], args := [d1, d2, d3] }
  | _ => none }
def BitsWholeWrongFalsely : Prop := bitsWholeRow.holds Try.pinned (OpenSpec.ofChange bitsWholeWrong)

/-- 'atlaslaw01.BitsShift': WHATEVER THE INPUT: true; the input reads as it did. -/
def bitsShiftSpec : ChangeSpec := { name := "bitsShift", fn := fun _ => fun
  | [d1, d2, d3, d4] => { results := [.lit (.bool true)], args := [d1, d2, d3, d4] }
  | _ => none }
def bitsShiftRow : OpenClaim := { program := "ytkloaohmcenfhaa", sum := "18835ba33b7c2fd113452cd0b960c00d15792e5606aaaf6f84140b45f0539f9d", func := "atlas/atlaslaw01.BitsShift", spec := "bitsShift", apart := false }
def BitsShiftSaid : Prop := bitsShiftRow.holds Try.pinned (OpenSpec.ofChange bitsShiftSpec)

/-- ITS FALSE NEIGHBOUR: 'it returns false'. Refute it at one input. -/
def bitsShiftWrong : ChangeSpec := { name := "bitsShift", fn := fun _ => fun
  | [d1, d2, d3, d4] => { results := [.lit (.bool false)], args := [d1, d2, d3, d4] }
  | _ => none }
def BitsShiftWrongFalsely : Prop := bitsShiftRow.holds Try.pinned (OpenSpec.ofChange bitsShiftWrong)

/- THE SECOND FORM. 'bulk': how many values and letters a reading holds, each counted each time it is reached (what is shared counts as often as it is met; a slice's spare places count too). A statement '..UptoSaid' is the law's where the arguments, and the package variables that the reading takes, are together of bulk at most 1048576: NARROWER than '..Said'. Prove '..Said' where nothing that the law and all that it calls make is longer than what came in: it says more and counts as full. Else prove '..UptoSaid'. A law counts once. -/
mutual
def uptoBulk {H : Type} : DataW H → Nat
  | .lit (.string bytes) => bytes.length + 1
  | .lit _ => 1
  | .nil => 1
  | .ptr d => uptoBulk d + 1
  | .slice elems spare => uptoBulkAll elems + uptoBulkAll spare + 1
  | .agg parts => uptoBulkAll parts + 1
  | .iface _ d => uptoBulk d + 1
  | .map entries => uptoBulkEntries entries + 1
  | .held _ => 1
def uptoBulkAll {H : Type} : List (DataW H) → Nat
  | [] => 0
  | d :: r => uptoBulk d + uptoBulkAll r
def uptoBulkEntries {H : Type} : List (Lit × DataW H) → Nat
  | [] => 0
  | x :: r => uptoBulkEntry x + uptoBulkEntries r
def uptoBulkEntry {H : Type} : Lit × DataW H → Nat
  | (.string bytes, d) => bytes.length + uptoBulk d + 1
  | (_, d) => uptoBulk d + 1
 end
def uptoSmall : (H : Type) → List (DataW H) → Bool := fun _ ds => decide (uptoBulkAll ds ≤ 1048576)
def OpenSpec.upto (s : _root_.Go.ChangeSpec) : _root_.Go.OpenSpec := { _root_.Go.OpenSpec.ofChange s with cond := some uptoSmall }

/-- 'atlaslaw01.BitsFields', WHERE WHAT IT READS IS OF BULK AT MOST 1048576: true; the input reads as it did. -/
def bitsFieldsUptoRow : OpenClaim := { program := "ytkloaohmcenfhaa", sum := "18835ba33b7c2fd113452cd0b960c00d15792e5606aaaf6f84140b45f0539f9d", func := "atlas/atlaslaw01.BitsFields", spec := "bitsFields", apart := false, narrowed := true }
def BitsFieldsUptoSaid : Prop := bitsFieldsUptoRow.holds Try.pinned (OpenSpec.upto bitsFieldsSpec)

/-- 'atlaslaw01.BitsSigns', WHERE WHAT IT READS IS OF BULK AT MOST 1048576: true; the input reads as it did. -/
def bitsSignsUptoRow : OpenClaim := { program := "ytkloaohmcenfhaa", sum := "18835ba33b7c2fd113452cd0b960c00d15792e5606aaaf6f84140b45f0539f9d", func := "atlas/atlaslaw01.BitsSigns", spec := "bitsSigns", apart := false, narrowed := true }
def BitsSignsUptoSaid : Prop := bitsSignsUptoRow.holds Try.pinned (OpenSpec.upto bitsSignsSpec)

/-- 'atlaslaw01.BitsBack', WHERE WHAT IT READS IS OF BULK AT MOST 1048576: true; the input reads as it did. -/
def bitsBackUptoRow : OpenClaim := { program := "ytkloaohmcenfhaa", sum := "18835ba33b7c2fd113452cd0b960c00d15792e5606aaaf6f84140b45f0539f9d", func := "atlas/atlaslaw01.BitsBack", spec := "bitsBack", apart := false, narrowed := true }
def BitsBackUptoSaid : Prop := bitsBackUptoRow.holds Try.pinned (OpenSpec.upto bitsBackSpec)

/-- 'atlaslaw01.BitsWhole', WHERE WHAT IT READS IS OF BULK AT MOST 1048576: true; the input reads as it did. -/
def bitsWholeUptoRow : OpenClaim := { program := "ytkloaohmcenfhaa", sum := "18835ba33b7c2fd113452cd0b960c00d15792e5606aaaf6f84140b45f0539f9d", func := "atlas/atlaslaw01.BitsWhole", spec := "bitsWhole", apart := false, narrowed := true }
def BitsWholeUptoSaid : Prop := bitsWholeUptoRow.holds Try.pinned (OpenSpec.upto bitsWholeSpec)

/-- 'atlaslaw01.BitsShift', WHERE WHAT IT READS IS OF BULK AT MOST 1048576: true; the input reads as it did. -/
def bitsShiftUptoRow : OpenClaim := { program := "ytkloaohmcenfhaa", sum := "18835ba33b7c2fd113452cd0b960c00d15792e5606aaaf6f84140b45f0539f9d", func := "atlas/atlaslaw01.BitsShift", spec := "bitsShift", apart := false, narrowed := true }
def BitsShiftUptoSaid : Prop := bitsShiftUptoRow.holds Try.pinned (OpenSpec.upto bitsShiftSpec)

end Rows
end Go.Proofs.Ytkloaohmcenfhaa
