/-
  DERIVED. GIVEN WITH THE SEED: THE PROGRAM's TIES (one call each: nine closed facts by the kernel) AND EACH ROW's TIE, after the 31st guide's Derived/Test/Toyas{Tie, Card}.lean. No idea stands in it: it is a product of the set-up. Laid BY PROGRAM, IN A SANDBOX (cutbox-door.mjs). By AI agents, Wed Nov 11 2026. No macro, syntax, notation, axiom, sorry.
-/
import Derived.Test.YtfaonieaagepjaaDoorRows
import Derived.LaidByTextLater
import Derived.SevenTiedAt
import Derived.LaidSub
import Derived.LaidOnce
namespace Go.Proofs.YtfaonieaagepjaaDoor
open Go
set_option maxRecDepth 100000
theorem seatTie1 : Tryd.prog.laidByTextLater [("tearoff/keccak.rc", Rows.laid_tearoff_keccak_rc), ("tearoff/keccak.turns", Rows.laid_tearoff_keccak_turns), ("tearoff/sha2.k", Rows.laid_tearoff_sha2_k), ("tearoff/sha2.first", Rows.laid_tearoff_sha2_first)] [.data, .data, .data, .data] true :=
  Program.laidByTextLater_by_one 29 8 65 (by kernel_rfl) (by kernel_rfl) (by kernel_rfl) (by kernel_rfl) (by kernel_rfl) (by kernel_rfl) (fun _ _ => by kernel_rfl)
theorem noOwnUnsafe : Tryd.pinned.checked.prog.headLifts.contains "ownunsafe" = false := by kernel_rfl
theorem tie : Tryd.prog.laidByTextLater [("tearoff/keccak.rc", Rows.laid_tearoff_keccak_rc), ("tearoff/keccak.turns", Rows.laid_tearoff_keccak_turns)] [.data, .data] true :=
  Program.laidByTextLater.sub seatTie1 ["tearoff/keccak.rc", "tearoff/keccak.turns"] (by kernel_rfl) (by kernel_rfl)
theorem forsStands_row_tie : Rows.forsStandsRow.laidByTextAt .later Tryd.pinned [.data, .data] true :=
  OpenClaim.laidByTextAt_later rfl rfl tie noOwnUnsafe
theorem forsDigits_row_tie : Rows.forsDigitsRow.laidByTextAt .later Tryd.pinned [.data, .data] true :=
  OpenClaim.laidByTextAt_later rfl rfl tie noOwnUnsafe
theorem forsTells_row_tie : Rows.forsTellsRow.laidByTextAt .later Tryd.pinned [.data, .data] true :=
  OpenClaim.laidByTextAt_later rfl rfl tie noOwnUnsafe
theorem forsKeeps_row_tie : Rows.forsKeepsRow.laidByTextAt .later Tryd.pinned [.data, .data] true :=
  OpenClaim.laidByTextAt_later rfl rfl tie noOwnUnsafe
theorem tie2 : Tryd.prog.laidByTextLater [("tearoff/keccak.rc", Rows.laid_tearoff_keccak_rc), ("tearoff/keccak.turns", Rows.laid_tearoff_keccak_turns), ("tearoff/sha2.k", Rows.laid_tearoff_sha2_k), ("tearoff/sha2.first", Rows.laid_tearoff_sha2_first)] [.data, .data, .data, .data] true :=
  Program.laidByTextLater.sub seatTie1 ["tearoff/keccak.rc", "tearoff/keccak.turns", "tearoff/sha2.k", "tearoff/sha2.first"] (by kernel_rfl) (by kernel_rfl)
theorem adrsSums_row_tie : Rows.adrsSumsRow.laidByTextAt .later Tryd.pinned [.data, .data, .data, .data] true :=
  OpenClaim.laidByTextAt_later rfl rfl tie2 noOwnUnsafe
theorem adrsApart_row_tie : Rows.adrsApartRow.laidByTextAt .later Tryd.pinned [.data, .data, .data, .data] true :=
  OpenClaim.laidByTextAt_later rfl rfl tie2 noOwnUnsafe
theorem adrsNums_row_tie : Rows.adrsNumsRow.laidByTextAt .later Tryd.pinned [.data, .data, .data, .data] true :=
  OpenClaim.laidByTextAt_later rfl rfl tie2 noOwnUnsafe
theorem adrsLengths_row_tie : Rows.adrsLengthsRow.laidByTextAt .later Tryd.pinned [.data, .data, .data, .data] true :=
  OpenClaim.laidByTextAt_later rfl rfl tie2 noOwnUnsafe
theorem adrsMasked_row_tie : Rows.adrsMaskedRow.laidByTextAt .later Tryd.pinned [.data, .data, .data, .data] true :=
  OpenClaim.laidByTextAt_later rfl rfl tie2 noOwnUnsafe
theorem forsStandsUpto_row_tie : Rows.forsStandsUptoRow.laidByTextAt .later Tryd.pinned [.data, .data] true :=
  OpenClaim.laidByTextAt_later rfl rfl tie noOwnUnsafe
theorem forsDigitsUpto_row_tie : Rows.forsDigitsUptoRow.laidByTextAt .later Tryd.pinned [.data, .data] true :=
  OpenClaim.laidByTextAt_later rfl rfl tie noOwnUnsafe
theorem forsTellsUpto_row_tie : Rows.forsTellsUptoRow.laidByTextAt .later Tryd.pinned [.data, .data] true :=
  OpenClaim.laidByTextAt_later rfl rfl tie noOwnUnsafe
theorem forsKeepsUpto_row_tie : Rows.forsKeepsUptoRow.laidByTextAt .later Tryd.pinned [.data, .data] true :=
  OpenClaim.laidByTextAt_later rfl rfl tie noOwnUnsafe
theorem adrsSumsUpto_row_tie : Rows.adrsSumsUptoRow.laidByTextAt .later Tryd.pinned [.data, .data, .data, .data] true :=
  OpenClaim.laidByTextAt_later rfl rfl tie2 noOwnUnsafe
theorem adrsApartUpto_row_tie : Rows.adrsApartUptoRow.laidByTextAt .later Tryd.pinned [.data, .data, .data, .data] true :=
  OpenClaim.laidByTextAt_later rfl rfl tie2 noOwnUnsafe
theorem adrsNumsUpto_row_tie : Rows.adrsNumsUptoRow.laidByTextAt .later Tryd.pinned [.data, .data, .data, .data] true :=
  OpenClaim.laidByTextAt_later rfl rfl tie2 noOwnUnsafe
theorem adrsLengthsUpto_row_tie : Rows.adrsLengthsUptoRow.laidByTextAt .later Tryd.pinned [.data, .data, .data, .data] true :=
  OpenClaim.laidByTextAt_later rfl rfl tie2 noOwnUnsafe
theorem adrsMaskedUpto_row_tie : Rows.adrsMaskedUptoRow.laidByTextAt .later Tryd.pinned [.data, .data, .data, .data] true :=
  OpenClaim.laidByTextAt_later rfl rfl tie2 noOwnUnsafe
end Go.Proofs.YtfaonieaagepjaaDoor
