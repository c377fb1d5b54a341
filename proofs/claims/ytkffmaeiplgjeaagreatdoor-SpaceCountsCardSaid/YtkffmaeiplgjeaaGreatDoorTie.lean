/-
  DERIVED. GIVEN WITH THE SEED: THE PROGRAM's TIES (one call each: nine closed facts by the kernel) AND EACH ROW's TIE, after the 31st guide's Derived/Test/Toyas{Tie, Card}.lean. No idea stands in it: it is a product of the set-up. Laid BY PROGRAM, IN A SANDBOX (cutbox-door.mjs). By AI agents, Wed Nov 11 2026. No macro, syntax, notation, axiom, sorry.
-/
import Derived.Test.YtkffmaeiplgjeaaGreatDoorRows
import Derived.LaidByTextLater
import Derived.SevenTiedAt
import Derived.LaidSub
import Derived.LaidOnce
namespace Go.Proofs.YtkffmaeiplgjeaaGreatDoor
open Go
set_option maxRecDepth 100000
theorem seatTie1 : Tryz.prog.laidByTextLater [("atlas/va.sizes", Rows.laid_atlas_va_sizes), ("math/bits.deBruijn64tab", Rows.laid_math_bits_deBruijn64tab), ("atlas/fence.asks", Rows.laid_atlas_fence_asks)] [.data, .data, .funcs] true :=
  Program.laidByTextLater_by_one 24 8 65 (by kernel_rfl) (by kernel_rfl) (by kernel_rfl) (by kernel_rfl) (by kernel_rfl) (by kernel_rfl) (fun _ _ => by kernel_rfl)
theorem noOwnUnsafe : Tryz.pinned.checked.prog.headLifts.contains "ownunsafe" = false := by kernel_rfl
theorem tie : Tryz.prog.laidByTextLater [("atlas/va.sizes", Rows.laid_atlas_va_sizes), ("math/bits.deBruijn64tab", Rows.laid_math_bits_deBruijn64tab), ("atlas/fence.asks", Rows.laid_atlas_fence_asks)] [.data, .data, .funcs] true :=
  Program.laidByTextLater.sub seatTie1 ["atlas/va.sizes", "math/bits.deBruijn64tab", "atlas/fence.asks"] (by kernel_rfl) (by kernel_rfl)
theorem spaceNews_row_tie : Rows.spaceNewsRow.laidByTextAt .later Tryz.pinned [.data, .data, .funcs] true :=
  OpenClaim.laidByTextAt_later rfl rfl tie noOwnUnsafe
theorem spaceDoes_row_tie : Rows.spaceDoesRow.laidByTextAt .later Tryz.pinned [.data, .data, .funcs] true :=
  OpenClaim.laidByTextAt_later rfl rfl tie noOwnUnsafe
theorem spaceCounts_row_tie : Rows.spaceCountsRow.laidByTextAt .later Tryz.pinned [.data, .data, .funcs] true :=
  OpenClaim.laidByTextAt_later rfl rfl tie noOwnUnsafe
theorem spaceNewsUpto_row_tie : Rows.spaceNewsUptoRow.laidByTextAt .later Tryz.pinned [.data, .data, .funcs] true :=
  OpenClaim.laidByTextAt_later rfl rfl tie noOwnUnsafe
theorem spaceDoesUpto_row_tie : Rows.spaceDoesUptoRow.laidByTextAt .later Tryz.pinned [.data, .data, .funcs] true :=
  OpenClaim.laidByTextAt_later rfl rfl tie noOwnUnsafe
theorem spaceCountsUpto_row_tie : Rows.spaceCountsUptoRow.laidByTextAt .later Tryz.pinned [.data, .data, .funcs] true :=
  OpenClaim.laidByTextAt_later rfl rfl tie noOwnUnsafe
end Go.Proofs.YtkffmaeiplgjeaaGreatDoor
