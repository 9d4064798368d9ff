import Derived.Test.YtfaonieaagepjaaDoorKecD
namespace Go.Proofs.YtfaonieaagepjaaDoor
open Go.RowKit
set_option maxRecDepth 100000
set_option linter.unusedVariables false
set_option linter.unusedSimpArgs false

theorem inf_a24 : (Tryd.prog.info? 98).map (·.size) = some 24 := by kernel_rfl
theorem zero24 : #[Value.int .u64 0, .int .u64 0, .int .u64 0, .int .u64 0, .int .u64 0, .int .u64 0, .int .u64 0, .int .u64 0, .int .u64 0, .int .u64 0, .int .u64 0, .int .u64 0, .int .u64 0, .int .u64 0, .int .u64 0, .int .u64 0, .int .u64 0, .int .u64 0, .int .u64 0, .int .u64 0, .int .u64 0, .int .u64 0, .int .u64 0, .int .u64 0] = U .u64 (List.replicate 24 0) := rfl
theorem rcL_built : #[Value.int .u64 1, .int .u64 32898, .int .u64 9223372036854808714, .int .u64 9223372039002292224, .int .u64 32907, .int .u64 2147483649, .int .u64 9223372039002292353, .int .u64 9223372036854808585, .int .u64 138, .int .u64 136, .int .u64 2147516425, .int .u64 2147483658, .int .u64 2147516555, .int .u64 9223372036854775947, .int .u64 9223372036854808713, .int .u64 9223372036854808579, .int .u64 9223372036854808578, .int .u64 9223372036854775936, .int .u64 32778, .int .u64 9223372039002259466, .int .u64 9223372039002292353, .int .u64 9223372036854808704, .int .u64 2147483649, .int .u64 9223372039002292232] = U .u64 rcL := rfl

theorem constants_any (w : World) :
    Calls Tryd.prog 78 #[] w fun e w' => e = .returned (.agg (U .u64 rcL)) ∧ Below w.heap.size w w' := by
  go_enter Tryd.func78, Tryd.ntmps78
  have h0 : Arr (w.alloc (.cells (U .u64 (List.replicate 24 0)) 98)) w.heap.size 98 .u64 (List.replicate 24 0) := Arr.new _ _ _ _
  have hk : Kept w.heap.size (fun _ => False) w (w.alloc (.cells (U .u64 (List.replicate 24 0)) 98)) := (Kept.refl _ _ _).alloc _ (by omega)
  rw [← zero24] at h0 hk
  go_wp2_with (refine wpList_store_arr rfl 98 _ _ rfl rfl (congrArg Value.agg rcL_built) h0 24 inf_a24 rfl rfl ?_)
  exact bodyPost_arr 0 98 24 Tryd.underlying98 rfl inf_a24 rfl rfl rfl (h0.setRow _) rfl ⟨rfl, (hk.setRow _ _ (by omega)).below⟩

/-- The register behind t steps. -/
def bitR : Nat → Int
  | 0 => 1
  | t + 1 => if 256 ≤ bitR t * 2 then bits .xor .i64 (bitR t * 2) 369 else bitR t * 2
theorem xor369 (x : Int) (h0 : 256 ≤ x) (h1 : x < 512) : 0 ≤ bits .xor .i64 x 369 ∧ bits .xor .i64 x 369 < 256 := by
  have : ∀ n : Fin 256, 0 ≤ bits .xor .i64 (256 + (n.val : Int)) 369 ∧ bits .xor .i64 (256 + (n.val : Int)) 369 < 256 := by decide +kernel
  have h := this ⟨(x - 256).toNat, by omega⟩
  have e : (256 : Int) + ((x - 256).toNat : Int) = x := by omega
  simp only [e] at h
  exact h
theorem bitR_range (t : Nat) : 0 ≤ bitR t ∧ bitR t < 256 := by
  induction t with
  | zero => exact ⟨by decide, by decide⟩
  | succ t ih =>
    rw [bitR]
    split
    · exact xor369 _ (by omega) (by omega)
    · omega
end Go.Proofs.YtfaonieaagepjaaDoor
