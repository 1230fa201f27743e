/-
  DERIVED. GIVEN WITH THE SEED: THE PROGRAM's TIES (one call each: nine closed facts by the kernel) AND EACH ROW's TIE, after the 31st guide's Derived/Test/Toyas{Tie, Card}.lean. No idea stands in it: it is a product of the set-up. Laid BY PROGRAM, IN A SANDBOX (cutbox-door.mjs). By AI agents, Wed Nov 11 2026. No macro, syntax, notation, axiom, sorry.
-/
import Derived.Test.YtkdgbjhbpbgdeaaGreatDoorRows
import Derived.LaidByTextLater
import Derived.SevenTiedAt
import Derived.LaidSub
import Derived.LaidOnce
namespace Go.Proofs.YtkdgbjhbpbgdeaaGreatDoor
open Go
set_option maxRecDepth 100000
theorem seatTie1 : Tryz.prog.laidByTextLater [("asof/checker.aggregates", Rows.laid_asof_checker_aggregates), ("asof/checker.unary", Rows.laid_asof_checker_unary), ("asof/checker.binary", Rows.laid_asof_checker_binary)] [.widerDeep, .widerDeep, .widerDeep] true :=
  Program.laidByTextLater_by_one 24 8 11 (by kernel_rfl) (by kernel_rfl) (by kernel_rfl) (by kernel_rfl) (by kernel_rfl) (by kernel_rfl) (fun _ _ => by kernel_rfl)
theorem noOwnUnsafe : Tryz.pinned.checked.prog.headLifts.contains "ownunsafe" = false := by kernel_rfl
theorem tie : Tryz.prog.laidByTextLater [("asof/checker.aggregates", Rows.laid_asof_checker_aggregates), ("asof/checker.unary", Rows.laid_asof_checker_unary), ("asof/checker.binary", Rows.laid_asof_checker_binary)] [.widerDeep, .widerDeep, .widerDeep] true :=
  Program.laidByTextLater.sub seatTie1 ["asof/checker.aggregates", "asof/checker.unary", "asof/checker.binary"] (by kernel_rfl) (by kernel_rfl)
theorem naiveCounts_row_tie : Rows.naiveCountsRow.laidByTextAt .later Tryz.pinned [.widerDeep, .widerDeep, .widerDeep] true :=
  OpenClaim.laidByTextAt_later rfl rfl tie noOwnUnsafe
theorem naiveCountsUpto_row_tie : Rows.naiveCountsUptoRow.laidByTextAt .later Tryz.pinned [.widerDeep, .widerDeep, .widerDeep] true :=
  OpenClaim.laidByTextAt_later rfl rfl tie noOwnUnsafe
end Go.Proofs.YtkdgbjhbpbgdeaaGreatDoor
