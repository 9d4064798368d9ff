/-
  DERIVED. GIVEN WITH THE SEED: THE PROGRAM's TIES (one call each: nine closed facts by the kernel) AND EACH ROW's TIE, after the 31st guide's Derived/Test/Toyas{Tie, Card}.lean. No idea stands in it: it is a product of the set-up. Laid BY PROGRAM, IN A SANDBOX (cutbox-door.mjs). By AI agents, Wed Nov 11 2026. No macro, syntax, notation, axiom, sorry.
-/
import Derived.Test.YtigedohalangbaaDoorRows
import Derived.LaidByTextLater
import Derived.SevenTiedAt
import Derived.LaidSub
import Derived.LaidOnce
namespace Go.Proofs.YtigedohalangbaaDoor
open Go
set_option maxRecDepth 100000
theorem seatTie1 : Tryd.prog.laidByTextLater [("tearoff/sets.sums", Rows.laid_tearoff_sets_sums), ("tearoff/sets.widths", Rows.laid_tearoff_sets_widths), ("tearoff/sets.heights", Rows.laid_tearoff_sets_heights), ("tearoff/sets.own", Rows.laid_tearoff_sets_own)] [.data, .data, .data, .data] true :=
  Program.laidByTextLater_by_one 33 8 9 (by kernel_rfl) (by kernel_rfl) (by kernel_rfl) (by kernel_rfl) (by kernel_rfl) (by kernel_rfl) (fun _ _ => by kernel_rfl)
theorem noOwnUnsafe : Tryd.pinned.checked.prog.headLifts.contains "ownunsafe" = false := by kernel_rfl
theorem tie : Tryd.prog.laidByTextLater [("tearoff/sets.sums", Rows.laid_tearoff_sets_sums), ("tearoff/sets.widths", Rows.laid_tearoff_sets_widths), ("tearoff/sets.heights", Rows.laid_tearoff_sets_heights), ("tearoff/sets.own", Rows.laid_tearoff_sets_own)] [.data, .data, .data, .data] true :=
  Program.laidByTextLater.sub seatTie1 ["tearoff/sets.sums", "tearoff/sets.widths", "tearoff/sets.heights", "tearoff/sets.own"] (by kernel_rfl) (by kernel_rfl)
theorem setsTell_row_tie : Rows.setsTellRow.laidByTextAt .later Tryd.pinned [.data, .data, .data, .data] true :=
  OpenClaim.laidByTextAt_later rfl rfl tie noOwnUnsafe
theorem setsCodes_row_tie : Rows.setsCodesRow.laidByTextAt .later Tryd.pinned [.data, .data, .data, .data] true :=
  OpenClaim.laidByTextAt_later rfl rfl tie noOwnUnsafe
theorem setsFit_row_tie : Rows.setsFitRow.laidByTextAt .later Tryd.pinned [.data, .data, .data, .data] true :=
  OpenClaim.laidByTextAt_later rfl rfl tie noOwnUnsafe
theorem setsLeaves_row_tie : Rows.setsLeavesRow.laidByTextAt .later Tryd.pinned [.data, .data, .data, .data] true :=
  OpenClaim.laidByTextAt_later rfl rfl tie noOwnUnsafe
theorem setsDigits_row_tie : Rows.setsDigitsRow.laidByTextAt .later Tryd.pinned [.data, .data, .data, .data] true :=
  OpenClaim.laidByTextAt_later rfl rfl tie noOwnUnsafe
theorem setsTellUpto_row_tie : Rows.setsTellUptoRow.laidByTextAt .later Tryd.pinned [.data, .data, .data, .data] true :=
  OpenClaim.laidByTextAt_later rfl rfl tie noOwnUnsafe
theorem setsCodesUpto_row_tie : Rows.setsCodesUptoRow.laidByTextAt .later Tryd.pinned [.data, .data, .data, .data] true :=
  OpenClaim.laidByTextAt_later rfl rfl tie noOwnUnsafe
theorem setsFitUpto_row_tie : Rows.setsFitUptoRow.laidByTextAt .later Tryd.pinned [.data, .data, .data, .data] true :=
  OpenClaim.laidByTextAt_later rfl rfl tie noOwnUnsafe
theorem setsLeavesUpto_row_tie : Rows.setsLeavesUptoRow.laidByTextAt .later Tryd.pinned [.data, .data, .data, .data] true :=
  OpenClaim.laidByTextAt_later rfl rfl tie noOwnUnsafe
theorem setsDigitsUpto_row_tie : Rows.setsDigitsUptoRow.laidByTextAt .later Tryd.pinned [.data, .data, .data, .data] true :=
  OpenClaim.laidByTextAt_later rfl rfl tie noOwnUnsafe
end Go.Proofs.YtigedohalangbaaDoor
