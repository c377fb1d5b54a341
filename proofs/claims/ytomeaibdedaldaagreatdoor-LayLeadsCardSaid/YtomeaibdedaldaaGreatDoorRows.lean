/-
  NARROWER THAN 'FOR EVERY INPUT', by the rows' own cells (each row's printed sentence says how): LayLeads: laid · LayTwice: laid · LiftGone: laid · LiftParts: laid · LiftBack: laid · GuardSets: laid · GuardTwice: laid · GuardLifted: laid.
  DERIVED. THE GIVEN ROWS OF THIS SEAT. 8 by the template 'for every input the law returns true; each argument reads behind the call as it read before'; 0 by the template 'total and deterministic' (their statements: YtomeaibdedaldaaGreatDoorTotals.lean).
  GIVEN WITH THE SEED: the statements are not yours to turn. If you find one false, say at which input.
  Laid BY PROGRAM, IN A SANDBOX (cutbox-rows.mjs): the forced cells as the released guide's own fill.sh prints them over the translation 056ab998b4e4f523… (all of the seat's roots in one cut). By AI agents, Wed Nov 11 2026. No macro, syntax, notation, axiom, sorry.
-/
import Derived.Test.YtomeaibdedaldaaGreatDoorChecked
import GoSem.Claim
import GoSem.ClaimJoined
import GoSem.ClaimMapViews
import Derived.JoinedTies
import Derived.KernelRfl
namespace Go.Proofs.YtomeaibdedaldaaGreatDoor
/- THE CELL 'sum', in the pinned program and in every row, IS THE sha256 OF THE DUMP (.gsa) THAT YtomeaibdedaldaaGreatDoorProg.lean LOADS. Nothing in Lean hashes anything: it is a label: what it is worth is what the hold of that sum in a sandbox is worth. -/
noncomputable def Tryz.pinned : Pinned := { name := "ytomeaibdedaldaagreatdoor", sum := "056ab998b4e4f523b72e5983875d16a443acaec7b80575dc80fc0b99fb1391a3", checked := Tryz.checked }
namespace Rows
def none {H : Type} : Left H := { results := [], args := [] }

/- WHAT THE LISTED PACKAGE-LEVEL VARIABLES READ AS WHEN THE CALL BEGINS. Each datum BY PROGRAM (the guide's laid-datum.mjs) off the statement by which the dump's own 'gosem.cut.vars' lays the variable. In a bare row this is a premise. The card (YtomeaibdedaldaaGreatDoorCards.lean) ties it to the program's text. -/
def laid_atlas_va_sizes {H : Type} : DataW H := .agg [.lit (.int .u64 4096), .lit (.int .u64 2097152), .lit (.int .u64 1073741824)]
def laid_math_bits_deBruijn64tab {H : Type} : DataW H := .agg [.lit (.int .u8 0), .lit (.int .u8 1), .lit (.int .u8 56), .lit (.int .u8 2), .lit (.int .u8 57), .lit (.int .u8 49), .lit (.int .u8 28), .lit (.int .u8 3), .lit (.int .u8 61), .lit (.int .u8 58), .lit (.int .u8 42), .lit (.int .u8 50), .lit (.int .u8 38), .lit (.int .u8 29), .lit (.int .u8 17), .lit (.int .u8 4), .lit (.int .u8 62), .lit (.int .u8 47), .lit (.int .u8 59), .lit (.int .u8 36), .lit (.int .u8 45), .lit (.int .u8 43), .lit (.int .u8 51), .lit (.int .u8 22), .lit (.int .u8 53), .lit (.int .u8 39), .lit (.int .u8 33), .lit (.int .u8 30), .lit (.int .u8 24), .lit (.int .u8 18), .lit (.int .u8 12), .lit (.int .u8 5), .lit (.int .u8 63), .lit (.int .u8 55), .lit (.int .u8 48), .lit (.int .u8 27), .lit (.int .u8 60), .lit (.int .u8 41), .lit (.int .u8 37), .lit (.int .u8 16), .lit (.int .u8 46), .lit (.int .u8 35), .lit (.int .u8 44), .lit (.int .u8 21), .lit (.int .u8 52), .lit (.int .u8 32), .lit (.int .u8 23), .lit (.int .u8 11), .lit (.int .u8 54), .lit (.int .u8 26), .lit (.int .u8 40), .lit (.int .u8 15), .lit (.int .u8 34), .lit (.int .u8 20), .lit (.int .u8 31), .lit (.int .u8 10), .lit (.int .u8 25), .lit (.int .u8 14), .lit (.int .u8 19), .lit (.int .u8 9), .lit (.int .u8 13), .lit (.int .u8 8), .lit (.int .u8 7), .lit (.int .u8 6)]
def laid_atlas_fence_asks {H : Type} : DataW H := .iface "func table" (.slice [.iface "func" (.lit (.string [40, 97, 116, 108, 97, 115, 47, 102, 101, 110, 99, 101, 46, 102, 111, 114, 109, 41, 46, 97, 100, 100, 114])), .iface "func" (.lit (.string [40, 97, 116, 108, 97, 115, 47, 102, 101, 110, 99, 101, 46, 102, 111, 114, 109, 41, 46, 97, 115, 105, 100]))] [])

/-- 'atlaslaw22.LayLeads': WHATEVER THE INPUT: true; the input reads as it did. -/
def layLeadsSpec : ChangeSpec := { name := "layLeads", fn := fun _ => fun
  | [d1, d2, d3] => { results := [.lit (.bool true)], args := [d1, d2, d3] }
  | _ => none }
def layLeadsRow : OpenClaim := { program := "ytomeaibdedaldaagreatdoor", sum := "056ab998b4e4f523b72e5983875d16a443acaec7b80575dc80fc0b99fb1391a3", func := "atlas/atlaslaw22.LayLeads", spec := "layLeads", inPlace := ["slices.overlaps[atlas/api.Cell]"], unfollowed := true, recurses := true, named := ["math/bits.deBruijn64tab", "atlas/fence.asks", "atlas/va.sizes"], apart := false, laid := [("atlas/va.sizes", laid_atlas_va_sizes), ("math/bits.deBruijn64tab", laid_math_bits_deBruijn64tab), ("atlas/fence.asks", laid_atlas_fence_asks)] }
def LayLeadsSaid : Prop := layLeadsRow.holds Tryz.pinned (OpenSpec.ofChange layLeadsSpec)

/-- ITS FALSE NEIGHBOUR: 'it returns false'. Refute it at one input. -/
def layLeadsWrong : ChangeSpec := { name := "layLeads", fn := fun _ => fun
  | [d1, d2, d3] => { results := [.lit (.bool false)], args := [d1, d2, d3] }
  | _ => none }
def LayLeadsWrongFalsely : Prop := layLeadsRow.holds Tryz.pinned (OpenSpec.ofChange layLeadsWrong)

/-- 'atlaslaw22.LayTwice': WHATEVER THE INPUT: true; the input reads as it did. -/
def layTwiceSpec : ChangeSpec := { name := "layTwice", fn := fun _ => fun
  | [d1, d2, d3, d4] => { results := [.lit (.bool true)], args := [d1, d2, d3, d4] }
  | _ => none }
def layTwiceRow : OpenClaim := { program := "ytomeaibdedaldaagreatdoor", sum := "056ab998b4e4f523b72e5983875d16a443acaec7b80575dc80fc0b99fb1391a3", func := "atlas/atlaslaw22.LayTwice", spec := "layTwice", inPlace := ["slices.overlaps[atlas/api.Cell]"], unfollowed := true, recurses := true, named := ["math/bits.deBruijn64tab", "atlas/fence.asks", "atlas/va.sizes"], apart := false, laid := [("atlas/va.sizes", laid_atlas_va_sizes), ("math/bits.deBruijn64tab", laid_math_bits_deBruijn64tab), ("atlas/fence.asks", laid_atlas_fence_asks)] }
def LayTwiceSaid : Prop := layTwiceRow.holds Tryz.pinned (OpenSpec.ofChange layTwiceSpec)

/-- ITS FALSE NEIGHBOUR: 'it returns false'. Refute it at one input. -/
def layTwiceWrong : ChangeSpec := { name := "layTwice", fn := fun _ => fun
  | [d1, d2, d3, d4] => { results := [.lit (.bool false)], args := [d1, d2, d3, d4] }
  | _ => none }
def LayTwiceWrongFalsely : Prop := layTwiceRow.holds Tryz.pinned (OpenSpec.ofChange layTwiceWrong)

/-- 'atlaslaw23.LiftGone': WHATEVER THE INPUT: true; the input reads as it did. -/
def liftGoneSpec : ChangeSpec := { name := "liftGone", fn := fun _ => fun
  | [d1, d2, d3, d4, d5] => { results := [.lit (.bool true)], args := [d1, d2, d3, d4, d5] }
  | _ => none }
def liftGoneRow : OpenClaim := { program := "ytomeaibdedaldaagreatdoor", sum := "056ab998b4e4f523b72e5983875d16a443acaec7b80575dc80fc0b99fb1391a3", func := "atlas/atlaslaw23.LiftGone", spec := "liftGone", inPlace := ["slices.overlaps[atlas/api.Cell]"], unfollowed := true, recurses := true, named := ["math/bits.deBruijn64tab", "atlas/fence.asks", "atlas/va.sizes"], apart := false, laid := [("atlas/va.sizes", laid_atlas_va_sizes), ("math/bits.deBruijn64tab", laid_math_bits_deBruijn64tab), ("atlas/fence.asks", laid_atlas_fence_asks)] }
def LiftGoneSaid : Prop := liftGoneRow.holds Tryz.pinned (OpenSpec.ofChange liftGoneSpec)

/-- ITS FALSE NEIGHBOUR: 'it returns false'. Refute it at one input. -/
def liftGoneWrong : ChangeSpec := { name := "liftGone", fn := fun _ => fun
  | [d1, d2, d3, d4, d5] => { results := [.lit (.bool false)], args := [d1, d2, d3, d4, d5] }
  | _ => none }
def LiftGoneWrongFalsely : Prop := liftGoneRow.holds Tryz.pinned (OpenSpec.ofChange liftGoneWrong)

/-- 'atlaslaw23.LiftParts': WHATEVER THE INPUT: true; the input reads as it did. -/
def liftPartsSpec : ChangeSpec := { name := "liftParts", fn := fun _ => fun
  | [d1, d2, d3] => { results := [.lit (.bool true)], args := [d1, d2, d3] }
  | _ => none }
def liftPartsRow : OpenClaim := { program := "ytomeaibdedaldaagreatdoor", sum := "056ab998b4e4f523b72e5983875d16a443acaec7b80575dc80fc0b99fb1391a3", func := "atlas/atlaslaw23.LiftParts", spec := "liftParts", inPlace := ["slices.overlaps[atlas/api.Cell]"], unfollowed := true, recurses := true, named := ["math/bits.deBruijn64tab", "atlas/fence.asks", "atlas/va.sizes"], apart := false, laid := [("atlas/va.sizes", laid_atlas_va_sizes), ("math/bits.deBruijn64tab", laid_math_bits_deBruijn64tab), ("atlas/fence.asks", laid_atlas_fence_asks)] }
def LiftPartsSaid : Prop := liftPartsRow.holds Tryz.pinned (OpenSpec.ofChange liftPartsSpec)

/-- ITS FALSE NEIGHBOUR: 'it returns false'. Refute it at one input. -/
def liftPartsWrong : ChangeSpec := { name := "liftParts", fn := fun _ => fun
  | [d1, d2, d3] => { results := [.lit (.bool false)], args := [d1, d2, d3] }
  | _ => none }
def LiftPartsWrongFalsely : Prop := liftPartsRow.holds Tryz.pinned (OpenSpec.ofChange liftPartsWrong)

/-- 'atlaslaw23.LiftBack': WHATEVER THE INPUT: true; the input reads as it did. -/
def liftBackSpec : ChangeSpec := { name := "liftBack", fn := fun _ => fun
  | [d1, d2, d3] => { results := [.lit (.bool true)], args := [d1, d2, d3] }
  | _ => none }
def liftBackRow : OpenClaim := { program := "ytomeaibdedaldaagreatdoor", sum := "056ab998b4e4f523b72e5983875d16a443acaec7b80575dc80fc0b99fb1391a3", func := "atlas/atlaslaw23.LiftBack", spec := "liftBack", inPlace := ["slices.overlaps[atlas/api.Cell]"], unfollowed := true, recurses := true, named := ["math/bits.deBruijn64tab", "atlas/fence.asks", "atlas/va.sizes"], apart := false, laid := [("atlas/va.sizes", laid_atlas_va_sizes), ("math/bits.deBruijn64tab", laid_math_bits_deBruijn64tab), ("atlas/fence.asks", laid_atlas_fence_asks)] }
def LiftBackSaid : Prop := liftBackRow.holds Tryz.pinned (OpenSpec.ofChange liftBackSpec)

/-- ITS FALSE NEIGHBOUR: 'it returns false'. Refute it at one input. -/
def liftBackWrong : ChangeSpec := { name := "liftBack", fn := fun _ => fun
  | [d1, d2, d3] => { results := [.lit (.bool false)], args := [d1, d2, d3] }
  | _ => none }
def LiftBackWrongFalsely : Prop := liftBackRow.holds Tryz.pinned (OpenSpec.ofChange liftBackWrong)

/-- 'atlaslaw24.GuardSets': WHATEVER THE INPUT: true; the input reads as it did. -/
def guardSetsSpec : ChangeSpec := { name := "guardSets", fn := fun _ => fun
  | [d1, d2, d3, d4] => { results := [.lit (.bool true)], args := [d1, d2, d3, d4] }
  | _ => none }
def guardSetsRow : OpenClaim := { program := "ytomeaibdedaldaagreatdoor", sum := "056ab998b4e4f523b72e5983875d16a443acaec7b80575dc80fc0b99fb1391a3", func := "atlas/atlaslaw24.GuardSets", spec := "guardSets", inPlace := ["slices.overlaps[atlas/api.Cell]"], unfollowed := true, recurses := true, named := ["math/bits.deBruijn64tab", "atlas/fence.asks", "atlas/va.sizes"], apart := false, laid := [("atlas/va.sizes", laid_atlas_va_sizes), ("math/bits.deBruijn64tab", laid_math_bits_deBruijn64tab), ("atlas/fence.asks", laid_atlas_fence_asks)] }
def GuardSetsSaid : Prop := guardSetsRow.holds Tryz.pinned (OpenSpec.ofChange guardSetsSpec)

/-- ITS FALSE NEIGHBOUR: 'it returns false'. Refute it at one input. -/
def guardSetsWrong : ChangeSpec := { name := "guardSets", fn := fun _ => fun
  | [d1, d2, d3, d4] => { results := [.lit (.bool false)], args := [d1, d2, d3, d4] }
  | _ => none }
def GuardSetsWrongFalsely : Prop := guardSetsRow.holds Tryz.pinned (OpenSpec.ofChange guardSetsWrong)

/-- 'atlaslaw24.GuardTwice': WHATEVER THE INPUT: true; the input reads as it did. -/
def guardTwiceSpec : ChangeSpec := { name := "guardTwice", fn := fun _ => fun
  | [d1, d2, d3] => { results := [.lit (.bool true)], args := [d1, d2, d3] }
  | _ => none }
def guardTwiceRow : OpenClaim := { program := "ytomeaibdedaldaagreatdoor", sum := "056ab998b4e4f523b72e5983875d16a443acaec7b80575dc80fc0b99fb1391a3", func := "atlas/atlaslaw24.GuardTwice", spec := "guardTwice", inPlace := ["slices.overlaps[atlas/api.Cell]"], unfollowed := true, recurses := true, named := ["math/bits.deBruijn64tab", "atlas/fence.asks", "atlas/va.sizes"], apart := false, laid := [("atlas/va.sizes", laid_atlas_va_sizes), ("math/bits.deBruijn64tab", laid_math_bits_deBruijn64tab), ("atlas/fence.asks", laid_atlas_fence_asks)] }
def GuardTwiceSaid : Prop := guardTwiceRow.holds Tryz.pinned (OpenSpec.ofChange guardTwiceSpec)

/-- ITS FALSE NEIGHBOUR: 'it returns false'. Refute it at one input. -/
def guardTwiceWrong : ChangeSpec := { name := "guardTwice", fn := fun _ => fun
  | [d1, d2, d3] => { results := [.lit (.bool false)], args := [d1, d2, d3] }
  | _ => none }
def GuardTwiceWrongFalsely : Prop := guardTwiceRow.holds Tryz.pinned (OpenSpec.ofChange guardTwiceWrong)

/-- 'atlaslaw24.GuardLifted': WHATEVER THE INPUT: true; the input reads as it did. -/
def guardLiftedSpec : ChangeSpec := { name := "guardLifted", fn := fun _ => fun
  | [d1, d2, d3] => { results := [.lit (.bool true)], args := [d1, d2, d3] }
  | _ => none }
def guardLiftedRow : OpenClaim := { program := "ytomeaibdedaldaagreatdoor", sum := "056ab998b4e4f523b72e5983875d16a443acaec7b80575dc80fc0b99fb1391a3", func := "atlas/atlaslaw24.GuardLifted", spec := "guardLifted", inPlace := ["slices.overlaps[atlas/api.Cell]"], unfollowed := true, recurses := true, named := ["math/bits.deBruijn64tab", "atlas/fence.asks", "atlas/va.sizes"], apart := false, laid := [("atlas/va.sizes", laid_atlas_va_sizes), ("math/bits.deBruijn64tab", laid_math_bits_deBruijn64tab), ("atlas/fence.asks", laid_atlas_fence_asks)] }
def GuardLiftedSaid : Prop := guardLiftedRow.holds Tryz.pinned (OpenSpec.ofChange guardLiftedSpec)

/-- ITS FALSE NEIGHBOUR: 'it returns false'. Refute it at one input. -/
def guardLiftedWrong : ChangeSpec := { name := "guardLifted", fn := fun _ => fun
  | [d1, d2, d3] => { results := [.lit (.bool false)], args := [d1, d2, d3] }
  | _ => none }
def GuardLiftedWrongFalsely : Prop := guardLiftedRow.holds Tryz.pinned (OpenSpec.ofChange guardLiftedWrong)

/- THE SECOND FORM. 'bulk': how many values and letters a reading holds, each counted each time it is reached (what is shared counts as often as it is met; a slice's spare places count too). A statement '..UptoSaid' is the law's where the arguments, and the package variables that the reading takes, are together of bulk at most 1048576: NARROWER than '..Said'. Prove '..Said' where nothing that the law and all that it calls make is longer than what came in: it says more and counts as full. Else prove '..UptoSaid'. A law counts once. -/
mutual
def uptoBulk {H : Type} : DataW H → Nat
  | .lit (.string bytes) => bytes.length + 1
  | .lit _ => 1
  | .nil => 1
  | .ptr d => uptoBulk d + 1
  | .slice elems spare => uptoBulkAll elems + uptoBulkAll spare + 1
  | .agg parts => uptoBulkAll parts + 1
  | .iface _ d => uptoBulk d + 1
  | .map entries => uptoBulkEntries entries + 1
  | .held _ => 1
def uptoBulkAll {H : Type} : List (DataW H) → Nat
  | [] => 0
  | d :: r => uptoBulk d + uptoBulkAll r
def uptoBulkEntries {H : Type} : List (Lit × DataW H) → Nat
  | [] => 0
  | x :: r => uptoBulkEntry x + uptoBulkEntries r
def uptoBulkEntry {H : Type} : Lit × DataW H → Nat
  | (.string bytes, d) => bytes.length + uptoBulk d + 1
  | (_, d) => uptoBulk d + 1
 end
def uptoSmall : (H : Type) → List (DataW H) → Bool := fun _ ds => decide (uptoBulkAll ds ≤ 1048576)
def OpenSpec.upto (s : _root_.Go.ChangeSpec) : _root_.Go.OpenSpec := { _root_.Go.OpenSpec.ofChange s with cond := some uptoSmall }

/-- 'atlaslaw22.LayLeads', WHERE WHAT IT READS IS OF BULK AT MOST 1048576: true; the input reads as it did. -/
def layLeadsUptoRow : OpenClaim := { program := "ytomeaibdedaldaagreatdoor", sum := "056ab998b4e4f523b72e5983875d16a443acaec7b80575dc80fc0b99fb1391a3", func := "atlas/atlaslaw22.LayLeads", spec := "layLeads", inPlace := ["slices.overlaps[atlas/api.Cell]"], unfollowed := true, recurses := true, named := ["math/bits.deBruijn64tab", "atlas/fence.asks", "atlas/va.sizes"], apart := false, laid := [("atlas/va.sizes", laid_atlas_va_sizes), ("math/bits.deBruijn64tab", laid_math_bits_deBruijn64tab), ("atlas/fence.asks", laid_atlas_fence_asks)], narrowed := true }
def LayLeadsUptoSaid : Prop := layLeadsUptoRow.holds Tryz.pinned (OpenSpec.upto layLeadsSpec)

/-- 'atlaslaw22.LayTwice', WHERE WHAT IT READS IS OF BULK AT MOST 1048576: true; the input reads as it did. -/
def layTwiceUptoRow : OpenClaim := { program := "ytomeaibdedaldaagreatdoor", sum := "056ab998b4e4f523b72e5983875d16a443acaec7b80575dc80fc0b99fb1391a3", func := "atlas/atlaslaw22.LayTwice", spec := "layTwice", inPlace := ["slices.overlaps[atlas/api.Cell]"], unfollowed := true, recurses := true, named := ["math/bits.deBruijn64tab", "atlas/fence.asks", "atlas/va.sizes"], apart := false, laid := [("atlas/va.sizes", laid_atlas_va_sizes), ("math/bits.deBruijn64tab", laid_math_bits_deBruijn64tab), ("atlas/fence.asks", laid_atlas_fence_asks)], narrowed := true }
def LayTwiceUptoSaid : Prop := layTwiceUptoRow.holds Tryz.pinned (OpenSpec.upto layTwiceSpec)

/-- 'atlaslaw23.LiftGone', WHERE WHAT IT READS IS OF BULK AT MOST 1048576: true; the input reads as it did. -/
def liftGoneUptoRow : OpenClaim := { program := "ytomeaibdedaldaagreatdoor", sum := "056ab998b4e4f523b72e5983875d16a443acaec7b80575dc80fc0b99fb1391a3", func := "atlas/atlaslaw23.LiftGone", spec := "liftGone", inPlace := ["slices.overlaps[atlas/api.Cell]"], unfollowed := true, recurses := true, named := ["math/bits.deBruijn64tab", "atlas/fence.asks", "atlas/va.sizes"], apart := false, laid := [("atlas/va.sizes", laid_atlas_va_sizes), ("math/bits.deBruijn64tab", laid_math_bits_deBruijn64tab), ("atlas/fence.asks", laid_atlas_fence_asks)], narrowed := true }
def LiftGoneUptoSaid : Prop := liftGoneUptoRow.holds Tryz.pinned (OpenSpec.upto liftGoneSpec)

/-- 'atlaslaw23.LiftParts', WHERE WHAT IT READS IS OF BULK AT MOST 1048576: true; the input reads as it did. -/
def liftPartsUptoRow : OpenClaim := { program := "ytomeaibdedaldaagreatdoor", sum := "056ab998b4e4f523b72e5983875d16a443acaec7b80575dc80fc0b99fb1391a3", func := "atlas/atlaslaw23.LiftParts", spec := "liftParts", inPlace := ["slices.overlaps[atlas/api.Cell]"], unfollowed := true, recurses := true, named := ["math/bits.deBruijn64tab", "atlas/fence.asks", "atlas/va.sizes"], apart := false, laid := [("atlas/va.sizes", laid_atlas_va_sizes), ("math/bits.deBruijn64tab", laid_math_bits_deBruijn64tab), ("atlas/fence.asks", laid_atlas_fence_asks)], narrowed := true }
def LiftPartsUptoSaid : Prop := liftPartsUptoRow.holds Tryz.pinned (OpenSpec.upto liftPartsSpec)

/-- 'atlaslaw23.LiftBack', WHERE WHAT IT READS IS OF BULK AT MOST 1048576: true; the input reads as it did. -/
def liftBackUptoRow : OpenClaim := { program := "ytomeaibdedaldaagreatdoor", sum := "056ab998b4e4f523b72e5983875d16a443acaec7b80575dc80fc0b99fb1391a3", func := "atlas/atlaslaw23.LiftBack", spec := "liftBack", inPlace := ["slices.overlaps[atlas/api.Cell]"], unfollowed := true, recurses := true, named := ["math/bits.deBruijn64tab", "atlas/fence.asks", "atlas/va.sizes"], apart := false, laid := [("atlas/va.sizes", laid_atlas_va_sizes), ("math/bits.deBruijn64tab", laid_math_bits_deBruijn64tab), ("atlas/fence.asks", laid_atlas_fence_asks)], narrowed := true }
def LiftBackUptoSaid : Prop := liftBackUptoRow.holds Tryz.pinned (OpenSpec.upto liftBackSpec)

/-- 'atlaslaw24.GuardSets', WHERE WHAT IT READS IS OF BULK AT MOST 1048576: true; the input reads as it did. -/
def guardSetsUptoRow : OpenClaim := { program := "ytomeaibdedaldaagreatdoor", sum := "056ab998b4e4f523b72e5983875d16a443acaec7b80575dc80fc0b99fb1391a3", func := "atlas/atlaslaw24.GuardSets", spec := "guardSets", inPlace := ["slices.overlaps[atlas/api.Cell]"], unfollowed := true, recurses := true, named := ["math/bits.deBruijn64tab", "atlas/fence.asks", "atlas/va.sizes"], apart := false, laid := [("atlas/va.sizes", laid_atlas_va_sizes), ("math/bits.deBruijn64tab", laid_math_bits_deBruijn64tab), ("atlas/fence.asks", laid_atlas_fence_asks)], narrowed := true }
def GuardSetsUptoSaid : Prop := guardSetsUptoRow.holds Tryz.pinned (OpenSpec.upto guardSetsSpec)

/-- 'atlaslaw24.GuardTwice', WHERE WHAT IT READS IS OF BULK AT MOST 1048576: true; the input reads as it did. -/
def guardTwiceUptoRow : OpenClaim := { program := "ytomeaibdedaldaagreatdoor", sum := "056ab998b4e4f523b72e5983875d16a443acaec7b80575dc80fc0b99fb1391a3", func := "atlas/atlaslaw24.GuardTwice", spec := "guardTwice", inPlace := ["slices.overlaps[atlas/api.Cell]"], unfollowed := true, recurses := true, named := ["math/bits.deBruijn64tab", "atlas/fence.asks", "atlas/va.sizes"], apart := false, laid := [("atlas/va.sizes", laid_atlas_va_sizes), ("math/bits.deBruijn64tab", laid_math_bits_deBruijn64tab), ("atlas/fence.asks", laid_atlas_fence_asks)], narrowed := true }
def GuardTwiceUptoSaid : Prop := guardTwiceUptoRow.holds Tryz.pinned (OpenSpec.upto guardTwiceSpec)

/-- 'atlaslaw24.GuardLifted', WHERE WHAT IT READS IS OF BULK AT MOST 1048576: true; the input reads as it did. -/
def guardLiftedUptoRow : OpenClaim := { program := "ytomeaibdedaldaagreatdoor", sum := "056ab998b4e4f523b72e5983875d16a443acaec7b80575dc80fc0b99fb1391a3", func := "atlas/atlaslaw24.GuardLifted", spec := "guardLifted", inPlace := ["slices.overlaps[atlas/api.Cell]"], unfollowed := true, recurses := true, named := ["math/bits.deBruijn64tab", "atlas/fence.asks", "atlas/va.sizes"], apart := false, laid := [("atlas/va.sizes", laid_atlas_va_sizes), ("math/bits.deBruijn64tab", laid_math_bits_deBruijn64tab), ("atlas/fence.asks", laid_atlas_fence_asks)], narrowed := true }
def GuardLiftedUptoSaid : Prop := guardLiftedUptoRow.holds Tryz.pinned (OpenSpec.upto guardLiftedSpec)

end Rows
end Go.Proofs.YtomeaibdedaldaaGreatDoor
