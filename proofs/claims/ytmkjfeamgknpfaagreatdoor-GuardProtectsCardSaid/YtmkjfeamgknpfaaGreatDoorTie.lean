/-
  DERIVED. GIVEN WITH THE SEED: THE PROGRAM's TIES (one call each: nine closed facts by the kernel) AND EACH ROW's TIE, after the 31st guide's Derived/Test/Toyas{Tie, Card}.lean. No idea stands in it: it is a product of the set-up. Laid BY PROGRAM, IN A SANDBOX (cutbox-door.mjs). By AI agents, Wed Nov 11 2026. No macro, syntax, notation, axiom, sorry.
-/
import Derived.Test.YtmkjfeamgknpfaaGreatDoorRows
import Derived.LaidByTextLater
import Derived.SevenTiedAt
import Derived.LaidSub
import Derived.LaidOnce
namespace Go.Proofs.YtmkjfeamgknpfaaGreatDoor
open Go
set_option maxRecDepth 100000
theorem seatTie1 : Tryz.prog.laidByTextLater [("atlas/va.sizes", Rows.laid_atlas_va_sizes), ("math/bits.deBruijn64tab", Rows.laid_math_bits_deBruijn64tab), ("atlas/fence.asks", Rows.laid_atlas_fence_asks)] [.data, .data, .funcs] true :=
  Program.laidByTextLater_by_one 24 8 65 (by kernel_rfl) (by kernel_rfl) (by kernel_rfl) (by kernel_rfl) (by kernel_rfl) (by kernel_rfl) (fun _ _ => by kernel_rfl)
theorem noOwnUnsafe : Tryz.pinned.checked.prog.headLifts.contains "ownunsafe" = false := by kernel_rfl
theorem tie : Tryz.prog.laidByTextLater [("atlas/va.sizes", Rows.laid_atlas_va_sizes), ("math/bits.deBruijn64tab", Rows.laid_math_bits_deBruijn64tab), ("atlas/fence.asks", Rows.laid_atlas_fence_asks)] [.data, .data, .funcs] true :=
  Program.laidByTextLater.sub seatTie1 ["atlas/va.sizes", "math/bits.deBruijn64tab", "atlas/fence.asks"] (by kernel_rfl) (by kernel_rfl)
theorem liftUnmaps_row_tie : Rows.liftUnmapsRow.laidByTextAt .later Tryz.pinned [.data, .data, .funcs] true :=
  OpenClaim.laidByTextAt_later rfl rfl tie noOwnUnsafe
theorem liftFences_row_tie : Rows.liftFencesRow.laidByTextAt .later Tryz.pinned [.data, .data, .funcs] true :=
  OpenClaim.laidByTextAt_later rfl rfl tie noOwnUnsafe
theorem liftKeeps_row_tie : Rows.liftKeepsRow.laidByTextAt .later Tryz.pinned [.data, .data, .funcs] true :=
  OpenClaim.laidByTextAt_later rfl rfl tie noOwnUnsafe
theorem guardProtects_row_tie : Rows.guardProtectsRow.laidByTextAt .later Tryz.pinned [.data, .data, .funcs] true :=
  OpenClaim.laidByTextAt_later rfl rfl tie noOwnUnsafe
theorem guardKeeps_row_tie : Rows.guardKeepsRow.laidByTextAt .later Tryz.pinned [.data, .data, .funcs] true :=
  OpenClaim.laidByTextAt_later rfl rfl tie noOwnUnsafe
theorem liftUnmapsUpto_row_tie : Rows.liftUnmapsUptoRow.laidByTextAt .later Tryz.pinned [.data, .data, .funcs] true :=
  OpenClaim.laidByTextAt_later rfl rfl tie noOwnUnsafe
theorem liftFencesUpto_row_tie : Rows.liftFencesUptoRow.laidByTextAt .later Tryz.pinned [.data, .data, .funcs] true :=
  OpenClaim.laidByTextAt_later rfl rfl tie noOwnUnsafe
theorem liftKeepsUpto_row_tie : Rows.liftKeepsUptoRow.laidByTextAt .later Tryz.pinned [.data, .data, .funcs] true :=
  OpenClaim.laidByTextAt_later rfl rfl tie noOwnUnsafe
theorem guardProtectsUpto_row_tie : Rows.guardProtectsUptoRow.laidByTextAt .later Tryz.pinned [.data, .data, .funcs] true :=
  OpenClaim.laidByTextAt_later rfl rfl tie noOwnUnsafe
theorem guardKeepsUpto_row_tie : Rows.guardKeepsUptoRow.laidByTextAt .later Tryz.pinned [.data, .data, .funcs] true :=
  OpenClaim.laidByTextAt_later rfl rfl tie noOwnUnsafe
end Go.Proofs.YtmkjfeamgknpfaaGreatDoor
