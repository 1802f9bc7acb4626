/-
  DERIVED. GIVEN WITH THE SEED: THE PROGRAM's TIES (one call each: nine closed facts by the kernel) AND EACH ROW's TIE, after the 31st guide's Derived/Test/Toyas{Tie, Card}.lean. No idea stands in it: it is a product of the set-up. Laid BY PROGRAM, IN A SANDBOX (cutbox-door.mjs). By AI agents, Wed Nov 11 2026. No macro, syntax, notation, axiom, sorry.
-/
import Derived.Test.YtbagbjacmakfhaaGreatDoorRows
import Derived.LaidByTextLater
import Derived.SevenTiedAt
import Derived.LaidSub
import Derived.LaidOnce
namespace Go.Proofs.YtbagbjacmakfhaaGreatDoor
open Go
set_option maxRecDepth 100000
theorem seatTie1 : Tryz.prog.laidByTextLater [("radiolink/check.polynomials", Rows.laid_radiolink_check_polynomials)] [.mapped] true :=
  Program.laidByTextLater_by_one 39 8 2 (by kernel_rfl) (by kernel_rfl) (by kernel_rfl) (by kernel_rfl) (by kernel_rfl) (by kernel_rfl) (fun _ _ => by kernel_rfl)
theorem noOwnUnsafe : Tryz.pinned.checked.prog.headLifts.contains "ownunsafe" = false := by kernel_rfl
theorem tie : Tryz.prog.laidByTextLater [("radiolink/check.polynomials", Rows.laid_radiolink_check_polynomials)] [.mapped] true :=
  Program.laidByTextLater.sub seatTie1 ["radiolink/check.polynomials"] (by kernel_rfl) (by kernel_rfl)
theorem compressorExact_row_tie : Rows.compressorExactRow.laidByTextAt .later Tryz.pinned [.mapped] true :=
  OpenClaim.laidByTextAt_later rfl rfl tie noOwnUnsafe
theorem compressorRuns_row_tie : Rows.compressorRunsRow.laidByTextAt .later Tryz.pinned [.mapped] true :=
  OpenClaim.laidByTextAt_later rfl rfl tie noOwnUnsafe
theorem compressorNever_row_tie : Rows.compressorNeverRow.laidByTextAt .later Tryz.pinned [.mapped] true :=
  OpenClaim.laidByTextAt_later rfl rfl tie noOwnUnsafe
theorem compressorPossible_row_tie : Rows.compressorPossibleRow.laidByTextAt .later Tryz.pinned [.mapped] true :=
  OpenClaim.laidByTextAt_later rfl rfl tie noOwnUnsafe
theorem compressorExactUpto_row_tie : Rows.compressorExactUptoRow.laidByTextAt .later Tryz.pinned [.mapped] true :=
  OpenClaim.laidByTextAt_later rfl rfl tie noOwnUnsafe
theorem compressorRunsUpto_row_tie : Rows.compressorRunsUptoRow.laidByTextAt .later Tryz.pinned [.mapped] true :=
  OpenClaim.laidByTextAt_later rfl rfl tie noOwnUnsafe
theorem compressorNeverUpto_row_tie : Rows.compressorNeverUptoRow.laidByTextAt .later Tryz.pinned [.mapped] true :=
  OpenClaim.laidByTextAt_later rfl rfl tie noOwnUnsafe
theorem compressorPossibleUpto_row_tie : Rows.compressorPossibleUptoRow.laidByTextAt .later Tryz.pinned [.mapped] true :=
  OpenClaim.laidByTextAt_later rfl rfl tie noOwnUnsafe
end Go.Proofs.YtbagbjacmakfhaaGreatDoor
