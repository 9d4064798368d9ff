/- What the rows' lists give of layer 8's tables. -/
import Derived.Test.YtigedohalangbaaDoorOpenT
import Derived.Test.YtigedohalangbaaDoorRows
namespace Go.Proofs.YtigedohalangbaaDoor
open Go.RowKit
set_option linter.unusedVariables false
set_option linter.unusedSimpArgs false
theorem tabs8 {W : World} (h : laidMet Tryd.prog Rows.setsTellRow.laid W) : STab W 4 := by
  have hs := pairs_of_head (zs := [(0, 32), (0, 24), (1, 32), (1, 24)]) (k := .i64) (show Tryd.prog.globalNamed "tearoff/sets.sums" = some 3 by kernel_rfl) (show (Tryd.prog.globals[3]?).map (·.type) = some 68 by kernel_rfl) Tryd.underlying68 Tryd.underlying50 Tryd.underlying3 Tryd.underlying3 (by kernel_rfl) (by kernel_rfl) (by kernel_rfl) rfl rfl h
  have t_w : Lib.TabIs Tryd.prog W "tearoff/sets.widths" .i64 widthsL := Lib.tabIs_of_head (show Tryd.prog.globalNamed "tearoff/sets.widths" = some 0 by kernel_rfl) (show (Tryd.prog.globals[0]?).map (·.type) = some 53 by kernel_rfl) Tryd.underlying53 Tryd.underlying3 (by kernel_rfl) (by kernel_rfl) (laidMet.tail h)
  have t_h : Lib.TabIs Tryd.prog W "tearoff/sets.heights" .i64 heightsL := Lib.tabIs_of_head (show Tryd.prog.globalNamed "tearoff/sets.heights" = some 2 by kernel_rfl) (show (Tryd.prog.globals[2]?).map (·.type) = some 58 by kernel_rfl) Tryd.underlying58 Tryd.underlying3 (by kernel_rfl) (by kernel_rfl) (laidMet.tail (laidMet.tail h))
  have t_o : Lib.TabIs Tryd.prog W "tearoff/sets.own" .i64 ownL := Lib.tabIs_of_head (show Tryd.prog.globalNamed "tearoff/sets.own" = some 1 by kernel_rfl) (show (Tryd.prog.globals[1]?).map (·.type) = some 53 by kernel_rfl) Tryd.underlying53 Tryd.underlying3 (by kernel_rfl) (by kernel_rfl) (laidMet.tail (laidMet.tail (laidMet.tail h)))
  refine ⟨fun i hi => ?_, fun i hi => t_w.cell (by kernel_rfl) i hi, fun i hi => t_h.cell (by kernel_rfl) i hi, fun i hi => t_o.cell (by kernel_rfl) i hi, by decide⟩
  have hi8 : i < 8 := hi
  obtain ⟨z, hz, c0, c1⟩ := hs (i / 2) (by omega)
  have hcase : i = 0 ∨ i = 1 ∨ i = 2 ∨ i = 3 ∨ i = 4 ∨ i = 5 ∨ i = 6 ∨ i = 7 := by omega
  rcases hcase with rfl | rfl | rfl | rfl | rfl | rfl | rfl | rfl <;> (simp at hz; subst hz; first | exact c0 | exact c1)
theorem STab.small {W : World} (h : STab W 4) : 4 ≤ W.heap.size := by
  have h0 := World.block_lt_of_cell? _ _ (h.s 0 (by decide))
  have h1 := World.block_lt_of_cell? _ _ (h.wd 0 (by decide))
  have h2 := World.block_lt_of_cell? _ _ (h.h 0 (by decide))
  have h3 := World.block_lt_of_cell? _ _ (h.o 0 (by decide))
  simp at h0 h1 h2 h3
  omega
end Go.Proofs.YtigedohalangbaaDoor
