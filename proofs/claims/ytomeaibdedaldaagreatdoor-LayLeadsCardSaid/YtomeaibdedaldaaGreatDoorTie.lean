/-
  DERIVED. GIVEN WITH THE SEED: THE PROGRAM's TIES (one call each: nine closed facts by the kernel) AND EACH ROW's TIE, after the 31st guide's Derived/Test/Toyas{Tie, Card}.lean. No idea stands in it: it is a product of the set-up. Laid BY PROGRAM, IN A SANDBOX (cutbox-door.mjs). By AI agents, Wed Nov 11 2026. No macro, syntax, notation, axiom, sorry.
-/
import Derived.Test.YtomeaibdedaldaaGreatDoorRows
import Derived.LaidByTextLater
import Derived.SevenTiedAt
import Derived.LaidSub
import Derived.LaidOnce
namespace Go.Proofs.YtomeaibdedaldaaGreatDoor
open Go
set_option maxRecDepth 100000
theorem seatTie1 : Tryz.prog.laidByTextLater [("atlas/va.sizes", Rows.laid_atlas_va_sizes), ("math/bits.deBruijn64tab", Rows.laid_math_bits_deBruijn64tab), ("atlas/fence.asks", Rows.laid_atlas_fence_asks)] [.data, .data, .funcs] true :=
  Program.laidByTextLater_by_one 24 8 65 (by kernel_rfl) (by kernel_rfl) (by kernel_rfl) (by kernel_rfl) (by kernel_rfl) (by kernel_rfl) (fun _ _ => by kernel_rfl)
theorem noOwnUnsafe : Tryz.pinned.checked.prog.headLifts.contains "ownunsafe" = false := by kernel_rfl
theorem tie : Tryz.prog.laidByTextLater [("atlas/va.sizes", Rows.laid_atlas_va_sizes), ("math/bits.deBruijn64tab", Rows.laid_math_bits_deBruijn64tab), ("atlas/fence.asks", Rows.laid_atlas_fence_asks)] [.data, .data, .funcs] true :=
  Program.laidByTextLater.sub seatTie1 ["atlas/va.sizes", "math/bits.deBruijn64tab", "atlas/fence.asks"] (by kernel_rfl) (by kernel_rfl)
theorem layLeads_row_tie : Rows.layLeadsRow.laidByTextAt .later Tryz.pinned [.data, .data, .funcs] true :=
  OpenClaim.laidByTextAt_later rfl rfl tie noOwnUnsafe
theorem layTwice_row_tie : Rows.layTwiceRow.laidByTextAt .later Tryz.pinned [.data, .data, .funcs] true :=
  OpenClaim.laidByTextAt_later rfl rfl tie noOwnUnsafe
theorem liftGone_row_tie : Rows.liftGoneRow.laidByTextAt .later Tryz.pinned [.data, .data, .funcs] true :=
  OpenClaim.laidByTextAt_later rfl rfl tie noOwnUnsafe
theorem liftParts_row_tie : Rows.liftPartsRow.laidByTextAt .later Tryz.pinned [.data, .data, .funcs] true :=
  OpenClaim.laidByTextAt_later rfl rfl tie noOwnUnsafe
theorem liftBack_row_tie : Rows.liftBackRow.laidByTextAt .later Tryz.pinned [.data, .data, .funcs] true :=
  OpenClaim.laidByTextAt_later rfl rfl tie noOwnUnsafe
theorem guardSets_row_tie : Rows.guardSetsRow.laidByTextAt .later Tryz.pinned [.data, .data, .funcs] true :=
  OpenClaim.laidByTextAt_later rfl rfl tie noOwnUnsafe
theorem guardTwice_row_tie : Rows.guardTwiceRow.laidByTextAt .later Tryz.pinned [.data, .data, .funcs] true :=
  OpenClaim.laidByTextAt_later rfl rfl tie noOwnUnsafe
theorem guardLifted_row_tie : Rows.guardLiftedRow.laidByTextAt .later Tryz.pinned [.data, .data, .funcs] true :=
  OpenClaim.laidByTextAt_later rfl rfl tie noOwnUnsafe
theorem layLeadsUpto_row_tie : Rows.layLeadsUptoRow.laidByTextAt .later Tryz.pinned [.data, .data, .funcs] true :=
  OpenClaim.laidByTextAt_later rfl rfl tie noOwnUnsafe
theorem layTwiceUpto_row_tie : Rows.layTwiceUptoRow.laidByTextAt .later Tryz.pinned [.data, .data, .funcs] true :=
  OpenClaim.laidByTextAt_later rfl rfl tie noOwnUnsafe
theorem liftGoneUpto_row_tie : Rows.liftGoneUptoRow.laidByTextAt .later Tryz.pinned [.data, .data, .funcs] true :=
  OpenClaim.laidByTextAt_later rfl rfl tie noOwnUnsafe
theorem liftPartsUpto_row_tie : Rows.liftPartsUptoRow.laidByTextAt .later Tryz.pinned [.data, .data, .funcs] true :=
  OpenClaim.laidByTextAt_later rfl rfl tie noOwnUnsafe
theorem liftBackUpto_row_tie : Rows.liftBackUptoRow.laidByTextAt .later Tryz.pinned [.data, .data, .funcs] true :=
  OpenClaim.laidByTextAt_later rfl rfl tie noOwnUnsafe
theorem guardSetsUpto_row_tie : Rows.guardSetsUptoRow.laidByTextAt .later Tryz.pinned [.data, .data, .funcs] true :=
  OpenClaim.laidByTextAt_later rfl rfl tie noOwnUnsafe
theorem guardTwiceUpto_row_tie : Rows.guardTwiceUptoRow.laidByTextAt .later Tryz.pinned [.data, .data, .funcs] true :=
  OpenClaim.laidByTextAt_later rfl rfl tie noOwnUnsafe
theorem guardLiftedUpto_row_tie : Rows.guardLiftedUptoRow.laidByTextAt .later Tryz.pinned [.data, .data, .funcs] true :=
  OpenClaim.laidByTextAt_later rfl rfl tie noOwnUnsafe
end Go.Proofs.YtomeaibdedaldaaGreatDoor
