/-
  DERIVED. GIVEN WITH THE SEED: THE PROGRAM's TIES (one call each: nine closed facts by the kernel) AND EACH ROW's TIE, after the 31st guide's Derived/Test/Toyas{Tie, Card}.lean. No idea stands in it: it is a product of the set-up. Laid BY PROGRAM, IN A SANDBOX (cutbox-door.mjs). By AI agents, Wed Nov 11 2026. No macro, syntax, notation, axiom, sorry.
-/
import Derived.Test.YtmoccajgjnjelaaGreatDoorRows
import Derived.LaidByTextLater
import Derived.SevenTiedAt
import Derived.LaidSub
import Derived.LaidOnce
namespace Go.Proofs.YtmoccajgjnjelaaGreatDoor
open Go
set_option maxRecDepth 100000
theorem seatTie1 : Tryz.prog.laidByTextLater [("atlas/va.sizes", Rows.laid_atlas_va_sizes), ("math/bits.deBruijn64tab", Rows.laid_math_bits_deBruijn64tab), ("atlas/fence.asks", Rows.laid_atlas_fence_asks)] [.data, .data, .funcs] true :=
  Program.laidByTextLater_by_one 24 8 65 (by kernel_rfl) (by kernel_rfl) (by kernel_rfl) (by kernel_rfl) (by kernel_rfl) (by kernel_rfl) (fun _ _ => by kernel_rfl)
theorem noOwnUnsafe : Tryz.pinned.checked.prog.headLifts.contains "ownunsafe" = false := by kernel_rfl
theorem tie : Tryz.prog.laidByTextLater [("atlas/va.sizes", Rows.laid_atlas_va_sizes), ("math/bits.deBruijn64tab", Rows.laid_math_bits_deBruijn64tab), ("atlas/fence.asks", Rows.laid_atlas_fence_asks)] [.data, .data, .funcs] true :=
  Program.laidByTextLater.sub seatTie1 ["atlas/va.sizes", "math/bits.deBruijn64tab", "atlas/fence.asks"] (by kernel_rfl) (by kernel_rfl)
theorem layMaps_row_tie : Rows.layMapsRow.laidByTextAt .later Tryz.pinned [.data, .data, .funcs] true :=
  OpenClaim.laidByTextAt_later rfl rfl tie noOwnUnsafe
theorem layKeeps_row_tie : Rows.layKeepsRow.laidByTextAt .later Tryz.pinned [.data, .data, .funcs] true :=
  OpenClaim.laidByTextAt_later rfl rfl tie noOwnUnsafe
theorem layMapsUpto_row_tie : Rows.layMapsUptoRow.laidByTextAt .later Tryz.pinned [.data, .data, .funcs] true :=
  OpenClaim.laidByTextAt_later rfl rfl tie noOwnUnsafe
theorem layKeepsUpto_row_tie : Rows.layKeepsUptoRow.laidByTextAt .later Tryz.pinned [.data, .data, .funcs] true :=
  OpenClaim.laidByTextAt_later rfl rfl tie noOwnUnsafe
end Go.Proofs.YtmoccajgjnjelaaGreatDoor
