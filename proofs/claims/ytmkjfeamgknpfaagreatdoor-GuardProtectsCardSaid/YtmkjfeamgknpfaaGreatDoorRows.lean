/-
  NARROWER THAN 'FOR EVERY INPUT', by the rows' own cells (each row's printed sentence says how): LiftUnmaps: laid · LiftFences: laid · LiftKeeps: laid · GuardProtects: laid · GuardKeeps: laid.
  DERIVED. THE GIVEN ROWS OF THIS SEAT. 5 by the template 'for every input the law returns true; each argument reads behind the call as it read before'; 0 by the template 'total and deterministic' (their statements: YtmkjfeamgknpfaaGreatDoorTotals.lean).
  GIVEN WITH THE SEED: the statements are not yours to turn. If you find one false, say at which input.
  Laid BY PROGRAM, IN A SANDBOX (cutbox-rows.mjs): the forced cells as the released guide's own fill.sh prints them over the translation 8bf76a7bd332c943… (all of the seat's roots in one cut). By AI agents, Wed Nov 11 2026. No macro, syntax, notation, axiom, sorry.
-/
import Derived.Test.YtmkjfeamgknpfaaGreatDoorChecked
import GoSem.Claim
import GoSem.ClaimJoined
import GoSem.ClaimMapViews
import Derived.JoinedTies
import Derived.KernelRfl
namespace Go.Proofs.YtmkjfeamgknpfaaGreatDoor
/- THE CELL 'sum', in the pinned program and in every row, IS THE sha256 OF THE DUMP (.gsa) THAT YtmkjfeamgknpfaaGreatDoorProg.lean LOADS. Nothing in Lean hashes anything: it is a label: what it is worth is what the hold of that sum in a sandbox is worth. -/
noncomputable def Tryz.pinned : Pinned := { name := "ytmkjfeamgknpfaagreatdoor", sum := "8bf76a7bd332c943c29038d75172e2d6cc7373ef9762ca57150255c2a2804476", checked := Tryz.checked }
namespace Rows
def none {H : Type} : Left H := { results := [], args := [] }

/- WHAT THE LISTED PACKAGE-LEVEL VARIABLES READ AS WHEN THE CALL BEGINS. Each datum BY PROGRAM (the guide's laid-datum.mjs) off the statement by which the dump's own 'gosem.cut.vars' lays the variable. In a bare row this is a premise. The card (YtmkjfeamgknpfaaGreatDoorCards.lean) ties it to the program's text. -/
def laid_atlas_va_sizes {H : Type} : DataW H := .agg [.lit (.int .u64 4096), .lit (.int .u64 2097152), .lit (.int .u64 1073741824)]
def laid_math_bits_deBruijn64tab {H : Type} : DataW H := .agg [.lit (.int .u8 0), .lit (.int .u8 1), .lit (.int .u8 56), .lit (.int .u8 2), .lit (.int .u8 57), .lit (.int .u8 49), .lit (.int .u8 28), .lit (.int .u8 3), .lit (.int .u8 61), .lit (.int .u8 58), .lit (.int .u8 42), .lit (.int .u8 50), .lit (.int .u8 38), .lit (.int .u8 29), .lit (.int .u8 17), .lit (.int .u8 4), .lit (.int .u8 62), .lit (.int .u8 47), .lit (.int .u8 59), .lit (.int .u8 36), .lit (.int .u8 45), .lit (.int .u8 43), .lit (.int .u8 51), .lit (.int .u8 22), .lit (.int .u8 53), .lit (.int .u8 39), .lit (.int .u8 33), .lit (.int .u8 30), .lit (.int .u8 24), .lit (.int .u8 18), .lit (.int .u8 12), .lit (.int .u8 5), .lit (.int .u8 63), .lit (.int .u8 55), .lit (.int .u8 48), .lit (.int .u8 27), .lit (.int .u8 60), .lit (.int .u8 41), .lit (.int .u8 37), .lit (.int .u8 16), .lit (.int .u8 46), .lit (.int .u8 35), .lit (.int .u8 44), .lit (.int .u8 21), .lit (.int .u8 52), .lit (.int .u8 32), .lit (.int .u8 23), .lit (.int .u8 11), .lit (.int .u8 54), .lit (.int .u8 26), .lit (.int .u8 40), .lit (.int .u8 15), .lit (.int .u8 34), .lit (.int .u8 20), .lit (.int .u8 31), .lit (.int .u8 10), .lit (.int .u8 25), .lit (.int .u8 14), .lit (.int .u8 19), .lit (.int .u8 9), .lit (.int .u8 13), .lit (.int .u8 8), .lit (.int .u8 7), .lit (.int .u8 6)]
def laid_atlas_fence_asks {H : Type} : DataW H := .iface "func table" (.slice [.iface "func" (.lit (.string [40, 97, 116, 108, 97, 115, 47, 102, 101, 110, 99, 101, 46, 102, 111, 114, 109, 41, 46, 97, 100, 100, 114])), .iface "func" (.lit (.string [40, 97, 116, 108, 97, 115, 47, 102, 101, 110, 99, 101, 46, 102, 111, 114, 109, 41, 46, 97, 115, 105, 100]))] [])

/-- 'atlaslaw23.LiftUnmaps': WHATEVER THE INPUT: true; the input reads as it did. -/
def liftUnmapsSpec : ChangeSpec := { name := "liftUnmaps", fn := fun _ => fun
  | [d1, d2, d3, d4, d5] => { results := [.lit (.bool true)], args := [d1, d2, d3, d4, d5] }
  | _ => none }
def liftUnmapsRow : OpenClaim := { program := "ytmkjfeamgknpfaagreatdoor", sum := "8bf76a7bd332c943c29038d75172e2d6cc7373ef9762ca57150255c2a2804476", func := "atlas/atlaslaw23.LiftUnmaps", spec := "liftUnmaps", inPlace := ["slices.overlaps[atlas/api.Cell]"], unfollowed := true, recurses := true, named := ["math/bits.deBruijn64tab", "atlas/fence.asks", "atlas/va.sizes"], apart := false, laid := [("atlas/va.sizes", laid_atlas_va_sizes), ("math/bits.deBruijn64tab", laid_math_bits_deBruijn64tab), ("atlas/fence.asks", laid_atlas_fence_asks)] }
def LiftUnmapsSaid : Prop := liftUnmapsRow.holds Tryz.pinned (OpenSpec.ofChange liftUnmapsSpec)

/-- ITS FALSE NEIGHBOUR: 'it returns false'. Refute it at one input. -/
def liftUnmapsWrong : ChangeSpec := { name := "liftUnmaps", fn := fun _ => fun
  | [d1, d2, d3, d4, d5] => { results := [.lit (.bool false)], args := [d1, d2, d3, d4, d5] }
  | _ => none }
def LiftUnmapsWrongFalsely : Prop := liftUnmapsRow.holds Tryz.pinned (OpenSpec.ofChange liftUnmapsWrong)

/-- 'atlaslaw23.LiftFences': WHATEVER THE INPUT: true; the input reads as it did. -/
def liftFencesSpec : ChangeSpec := { name := "liftFences", fn := fun _ => fun
  | [d1, d2, d3] => { results := [.lit (.bool true)], args := [d1, d2, d3] }
  | _ => none }
def liftFencesRow : OpenClaim := { program := "ytmkjfeamgknpfaagreatdoor", sum := "8bf76a7bd332c943c29038d75172e2d6cc7373ef9762ca57150255c2a2804476", func := "atlas/atlaslaw23.LiftFences", spec := "liftFences", inPlace := ["slices.overlaps[atlas/api.Cell]"], unfollowed := true, recurses := true, named := ["math/bits.deBruijn64tab", "atlas/fence.asks", "atlas/va.sizes"], apart := false, laid := [("atlas/va.sizes", laid_atlas_va_sizes), ("math/bits.deBruijn64tab", laid_math_bits_deBruijn64tab), ("atlas/fence.asks", laid_atlas_fence_asks)] }
def LiftFencesSaid : Prop := liftFencesRow.holds Tryz.pinned (OpenSpec.ofChange liftFencesSpec)

/-- ITS FALSE NEIGHBOUR: 'it returns false'. Refute it at one input. -/
def liftFencesWrong : ChangeSpec := { name := "liftFences", fn := fun _ => fun
  | [d1, d2, d3] => { results := [.lit (.bool false)], args := [d1, d2, d3] }
  | _ => none }
def LiftFencesWrongFalsely : Prop := liftFencesRow.holds Tryz.pinned (OpenSpec.ofChange liftFencesWrong)

/-- 'atlaslaw23.LiftKeeps': WHATEVER THE INPUT: true; the input reads as it did. -/
def liftKeepsSpec : ChangeSpec := { name := "liftKeeps", fn := fun _ => fun
  | [d1, d2, d3] => { results := [.lit (.bool true)], args := [d1, d2, d3] }
  | _ => none }
def liftKeepsRow : OpenClaim := { program := "ytmkjfeamgknpfaagreatdoor", sum := "8bf76a7bd332c943c29038d75172e2d6cc7373ef9762ca57150255c2a2804476", func := "atlas/atlaslaw23.LiftKeeps", spec := "liftKeeps", inPlace := ["slices.overlaps[atlas/api.Cell]"], unfollowed := true, recurses := true, named := ["math/bits.deBruijn64tab", "atlas/fence.asks", "atlas/va.sizes"], apart := false, laid := [("atlas/va.sizes", laid_atlas_va_sizes), ("math/bits.deBruijn64tab", laid_math_bits_deBruijn64tab), ("atlas/fence.asks", laid_atlas_fence_asks)] }
def LiftKeepsSaid : Prop := liftKeepsRow.holds Tryz.pinned (OpenSpec.ofChange liftKeepsSpec)

/-- ITS FALSE NEIGHBOUR: 'it returns false'. Refute it at one input. -/
def liftKeepsWrong : ChangeSpec := { name := "liftKeeps", fn := fun _ => fun
  | [d1, d2, d3] => { results := [.lit (.bool false)], args := [d1, d2, d3] }
  | _ => none }
def LiftKeepsWrongFalsely : Prop := liftKeepsRow.holds Tryz.pinned (OpenSpec.ofChange liftKeepsWrong)

/-- 'atlaslaw24.GuardProtects': WHATEVER THE INPUT: true; the input reads as it did. -/
def guardProtectsSpec : ChangeSpec := { name := "guardProtects", fn := fun _ => fun
  | [d1, d2, d3] => { results := [.lit (.bool true)], args := [d1, d2, d3] }
  | _ => none }
def guardProtectsRow : OpenClaim := { program := "ytmkjfeamgknpfaagreatdoor", sum := "8bf76a7bd332c943c29038d75172e2d6cc7373ef9762ca57150255c2a2804476", func := "atlas/atlaslaw24.GuardProtects", spec := "guardProtects", inPlace := ["slices.overlaps[atlas/api.Cell]"], unfollowed := true, recurses := true, named := ["math/bits.deBruijn64tab", "atlas/fence.asks", "atlas/va.sizes"], apart := false, laid := [("atlas/va.sizes", laid_atlas_va_sizes), ("math/bits.deBruijn64tab", laid_math_bits_deBruijn64tab), ("atlas/fence.asks", laid_atlas_fence_asks)] }
def GuardProtectsSaid : Prop := guardProtectsRow.holds Tryz.pinned (OpenSpec.ofChange guardProtectsSpec)

/-- ITS FALSE NEIGHBOUR: 'it returns false'. Refute it at one input. -/
def guardProtectsWrong : ChangeSpec := { name := "guardProtects", fn := fun _ => fun
  | [d1, d2, d3] => { results := [.lit (.bool false)], args := [d1, d2, d3] }
  | _ => none }
def GuardProtectsWrongFalsely : Prop := guardProtectsRow.holds Tryz.pinned (OpenSpec.ofChange guardProtectsWrong)

/-- 'atlaslaw24.GuardKeeps': WHATEVER THE INPUT: true; the input reads as it did. -/
def guardKeepsSpec : ChangeSpec := { name := "guardKeeps", fn := fun _ => fun
  | [d1, d2, d3] => { results := [.lit (.bool true)], args := [d1, d2, d3] }
  | _ => none }
def guardKeepsRow : OpenClaim := { program := "ytmkjfeamgknpfaagreatdoor", sum := "8bf76a7bd332c943c29038d75172e2d6cc7373ef9762ca57150255c2a2804476", func := "atlas/atlaslaw24.GuardKeeps", spec := "guardKeeps", inPlace := ["slices.overlaps[atlas/api.Cell]"], unfollowed := true, recurses := true, named := ["math/bits.deBruijn64tab", "atlas/fence.asks", "atlas/va.sizes"], apart := false, laid := [("atlas/va.sizes", laid_atlas_va_sizes), ("math/bits.deBruijn64tab", laid_math_bits_deBruijn64tab), ("atlas/fence.asks", laid_atlas_fence_asks)] }
def GuardKeepsSaid : Prop := guardKeepsRow.holds Tryz.pinned (OpenSpec.ofChange guardKeepsSpec)

/-- ITS FALSE NEIGHBOUR: 'it returns false'. Refute it at one input. -/
def guardKeepsWrong : ChangeSpec := { name := "guardKeeps", fn := fun _ => fun
  | [d1, d2, d3] => { results := [.lit (.bool false)], args := [d1, d2, d3] }
  | _ => none }
def GuardKeepsWrongFalsely : Prop := guardKeepsRow.holds Tryz.pinned (OpenSpec.ofChange guardKeepsWrong)

/- THE SECOND FORM. 'bulk': how many values and letters a reading holds, each counted each time it is reached (what is shared counts as often as it is met; a slice's spare places count too). A statement '..UptoSaid' is the law's where the arguments, and the package variables that the reading takes, are together of bulk at most 1048576: NARROWER than '..Said'. Prove '..Said' where nothing that the law and all that it calls make is longer than what came in: it says more and counts as full. Else prove '..UptoSaid'. A law counts once. -/
mutual
def uptoBulk {H : Type} : DataW H → Nat
  | .lit (.string bytes) => bytes.length + 1
  | .lit _ => 1
  | .nil => 1
  | .ptr d => uptoBulk d + 1
  | .slice elems spare => uptoBulkAll elems + uptoBulkAll spare + 1
  | .agg parts => uptoBulkAll parts + 1
  | .iface _ d => uptoBulk d + 1
  | .map entries => uptoBulkEntries entries + 1
  | .held _ => 1
def uptoBulkAll {H : Type} : List (DataW H) → Nat
  | [] => 0
  | d :: r => uptoBulk d + uptoBulkAll r
def uptoBulkEntries {H : Type} : List (Lit × DataW H) → Nat
  | [] => 0
  | x :: r => uptoBulkEntry x + uptoBulkEntries r
def uptoBulkEntry {H : Type} : Lit × DataW H → Nat
  | (.string bytes, d) => bytes.length + uptoBulk d + 1
  | (_, d) => uptoBulk d + 1
 end
def uptoSmall : (H : Type) → List (DataW H) → Bool := fun _ ds => decide (uptoBulkAll ds ≤ 1048576)
def OpenSpec.upto (s : _root_.Go.ChangeSpec) : _root_.Go.OpenSpec := { _root_.Go.OpenSpec.ofChange s with cond := some uptoSmall }

/-- 'atlaslaw23.LiftUnmaps', WHERE WHAT IT READS IS OF BULK AT MOST 1048576: true; the input reads as it did. -/
def liftUnmapsUptoRow : OpenClaim := { program := "ytmkjfeamgknpfaagreatdoor", sum := "8bf76a7bd332c943c29038d75172e2d6cc7373ef9762ca57150255c2a2804476", func := "atlas/atlaslaw23.LiftUnmaps", spec := "liftUnmaps", inPlace := ["slices.overlaps[atlas/api.Cell]"], unfollowed := true, recurses := true, named := ["math/bits.deBruijn64tab", "atlas/fence.asks", "atlas/va.sizes"], apart := false, laid := [("atlas/va.sizes", laid_atlas_va_sizes), ("math/bits.deBruijn64tab", laid_math_bits_deBruijn64tab), ("atlas/fence.asks", laid_atlas_fence_asks)], narrowed := true }
def LiftUnmapsUptoSaid : Prop := liftUnmapsUptoRow.holds Tryz.pinned (OpenSpec.upto liftUnmapsSpec)

/-- 'atlaslaw23.LiftFences', WHERE WHAT IT READS IS OF BULK AT MOST 1048576: true; the input reads as it did. -/
def liftFencesUptoRow : OpenClaim := { program := "ytmkjfeamgknpfaagreatdoor", sum := "8bf76a7bd332c943c29038d75172e2d6cc7373ef9762ca57150255c2a2804476", func := "atlas/atlaslaw23.LiftFences", spec := "liftFences", inPlace := ["slices.overlaps[atlas/api.Cell]"], unfollowed := true, recurses := true, named := ["math/bits.deBruijn64tab", "atlas/fence.asks", "atlas/va.sizes"], apart := false, laid := [("atlas/va.sizes", laid_atlas_va_sizes), ("math/bits.deBruijn64tab", laid_math_bits_deBruijn64tab), ("atlas/fence.asks", laid_atlas_fence_asks)], narrowed := true }
def LiftFencesUptoSaid : Prop := liftFencesUptoRow.holds Tryz.pinned (OpenSpec.upto liftFencesSpec)

/-- 'atlaslaw23.LiftKeeps', WHERE WHAT IT READS IS OF BULK AT MOST 1048576: true; the input reads as it did. -/
def liftKeepsUptoRow : OpenClaim := { program := "ytmkjfeamgknpfaagreatdoor", sum := "8bf76a7bd332c943c29038d75172e2d6cc7373ef9762ca57150255c2a2804476", func := "atlas/atlaslaw23.LiftKeeps", spec := "liftKeeps", inPlace := ["slices.overlaps[atlas/api.Cell]"], unfollowed := true, recurses := true, named := ["math/bits.deBruijn64tab", "atlas/fence.asks", "atlas/va.sizes"], apart := false, laid := [("atlas/va.sizes", laid_atlas_va_sizes), ("math/bits.deBruijn64tab", laid_math_bits_deBruijn64tab), ("atlas/fence.asks", laid_atlas_fence_asks)], narrowed := true }
def LiftKeepsUptoSaid : Prop := liftKeepsUptoRow.holds Tryz.pinned (OpenSpec.upto liftKeepsSpec)

/-- 'atlaslaw24.GuardProtects', WHERE WHAT IT READS IS OF BULK AT MOST 1048576: true; the input reads as it did. -/
def guardProtectsUptoRow : OpenClaim := { program := "ytmkjfeamgknpfaagreatdoor", sum := "8bf76a7bd332c943c29038d75172e2d6cc7373ef9762ca57150255c2a2804476", func := "atlas/atlaslaw24.GuardProtects", spec := "guardProtects", inPlace := ["slices.overlaps[atlas/api.Cell]"], unfollowed := true, recurses := true, named := ["math/bits.deBruijn64tab", "atlas/fence.asks", "atlas/va.sizes"], apart := false, laid := [("atlas/va.sizes", laid_atlas_va_sizes), ("math/bits.deBruijn64tab", laid_math_bits_deBruijn64tab), ("atlas/fence.asks", laid_atlas_fence_asks)], narrowed := true }
def GuardProtectsUptoSaid : Prop := guardProtectsUptoRow.holds Tryz.pinned (OpenSpec.upto guardProtectsSpec)

/-- 'atlaslaw24.GuardKeeps', WHERE WHAT IT READS IS OF BULK AT MOST 1048576: true; the input reads as it did. -/
def guardKeepsUptoRow : OpenClaim := { program := "ytmkjfeamgknpfaagreatdoor", sum := "8bf76a7bd332c943c29038d75172e2d6cc7373ef9762ca57150255c2a2804476", func := "atlas/atlaslaw24.GuardKeeps", spec := "guardKeeps", inPlace := ["slices.overlaps[atlas/api.Cell]"], unfollowed := true, recurses := true, named := ["math/bits.deBruijn64tab", "atlas/fence.asks", "atlas/va.sizes"], apart := false, laid := [("atlas/va.sizes", laid_atlas_va_sizes), ("math/bits.deBruijn64tab", laid_math_bits_deBruijn64tab), ("atlas/fence.asks", laid_atlas_fence_asks)], narrowed := true }
def GuardKeepsUptoSaid : Prop := guardKeepsUptoRow.holds Tryz.pinned (OpenSpec.upto guardKeepsSpec)

end Rows
end Go.Proofs.YtmkjfeamgknpfaaGreatDoor
