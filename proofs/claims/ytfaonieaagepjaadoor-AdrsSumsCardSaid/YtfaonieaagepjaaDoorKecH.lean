import Derived.Test.YtfaonieaagepjaaDoorKecG
namespace Go.Proofs.YtfaonieaagepjaaDoor
open Go.RowKit
set_option maxRecDepth 100000
set_option linter.unusedVariables false
set_option linter.unusedSimpArgs false

/-! ### The contracts, of any number -/
theorem roundI_any (l : List Int) (i : Int) (w : World) (hl : l.length = 25) (hw : Ws l) (ht : KTab w) (hz : 3 < w.heap.size) (hz0 : 4 < w.heap.size) :
    Calls Tryd.prog 90 #[.agg (U .u64 l), .int .i64 i] w fun e w' => e = .returned (.agg (U .u64 (roundI l i))) ∧ Below w.heap.size w w' := by
  by_cases h : 0 ≤ i ∧ i < 24
  · obtain ⟨n, rfl⟩ : ∃ n : Nat, i = n := ⟨i.toNat, by omega⟩
    have e : roundI l (n : Int) = roundS l n := by rw [roundI, if_pos h]; rfl
    rw [e]; exact round_any l n w hl hw (by omega) ht hz hz0
  · have e : roundI l i = l := by rw [roundI, if_neg h]
    rw [e]; exact round_none l i w hl h
theorem fPermuteI_any (l : List Int) (w : World) (hl : l.length = 25) (hw : Ws l) :
    Calls Tryd.prog 79 #[.agg (U .u64 l), .agg (U .u64 rcL)] w fun e w' => e = .returned (.agg (U .u64 (permute l))) ∧ Below w.heap.size w w' := by
  have := fPermute_any l rcL w hl hw rfl
  rw [perm_eq l 24 hl hw] at this
  exact this

theorem KTab.zr {w : World} (h : KTab w) : 4 < w.heap.size := World.block_lt_of_cell? w _ (h.1 0 (by decide))
theorem KTab.zt {w : World} (h : KTab w) : 3 < w.heap.size := World.block_lt_of_cell? w _ (h.2 0 (by decide))

end Go.Proofs.YtfaonieaagepjaaDoor
