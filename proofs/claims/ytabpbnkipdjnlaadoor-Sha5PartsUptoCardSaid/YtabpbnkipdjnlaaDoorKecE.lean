import Derived.Test.YtabpbnkipdjnlaaDoorKecD
namespace Go.Proofs.YtabpbnkipdjnlaaDoor
open Go.RowKit
set_option linter.unusedVariables false
set_option linter.unusedSimpArgs false

theorem inf_a24 : (Tryd.prog.info? 25).map (·.size) = some 24 := by kernel_rfl
theorem zero24 : #[Value.int .u64 0, .int .u64 0, .int .u64 0, .int .u64 0, .int .u64 0, .int .u64 0, .int .u64 0, .int .u64 0, .int .u64 0, .int .u64 0, .int .u64 0, .int .u64 0, .int .u64 0, .int .u64 0, .int .u64 0, .int .u64 0, .int .u64 0, .int .u64 0, .int .u64 0, .int .u64 0, .int .u64 0, .int .u64 0, .int .u64 0, .int .u64 0] = U .u64 (List.replicate 24 0) := rfl
theorem rcL_built : #[Value.int .u64 1, .int .u64 32898, .int .u64 9223372036854808714, .int .u64 9223372039002292224, .int .u64 32907, .int .u64 2147483649, .int .u64 9223372039002292353, .int .u64 9223372036854808585, .int .u64 138, .int .u64 136, .int .u64 2147516425, .int .u64 2147483658, .int .u64 2147516555, .int .u64 9223372036854775947, .int .u64 9223372036854808713, .int .u64 9223372036854808579, .int .u64 9223372036854808578, .int .u64 9223372036854775936, .int .u64 32778, .int .u64 9223372039002259466, .int .u64 9223372039002292353, .int .u64 9223372036854808704, .int .u64 2147483649, .int .u64 9223372039002292232] = U .u64 rcL := rfl

theorem constants_any (w : World) :
    Calls Tryd.prog 16 #[] w fun e w' => e = .returned (.agg (U .u64 rcL)) ∧ Below w.heap.size w w' := by
  go_enter Tryd.func16, Tryd.ntmps16
  have h0 : Arr (w.alloc (.cells (U .u64 (List.replicate 24 0)) 25)) w.heap.size 25 .u64 (List.replicate 24 0) := Arr.new _ _ _ _
  have hk : Kept w.heap.size (fun _ => False) w (w.alloc (.cells (U .u64 (List.replicate 24 0)) 25)) := (Kept.refl _ _ _).alloc _ (by omega)
  rw [← zero24] at h0 hk
  go_wp2_with (refine wpList_store_arr rfl 25 _ _ rfl rfl (congrArg Value.agg rcL_built) h0 24 inf_a24 rfl rfl ?_)
  exact bodyPost_arr 0 25 24 Tryd.underlying25 rfl inf_a24 rfl rfl rfl (h0.setRow _) rfl ⟨rfl, (hk.setRow _ _ (by omega)).below⟩

/-- The register behind t steps. -/
def bitR : Nat → Int
  | 0 => 1
  | t + 1 => if 256 ≤ bitR t * 2 then bits .xor .i64 (bitR t * 2) 369 else bitR t * 2
theorem xor369 (x : Int) (h0 : 256 ≤ x) (h1 : x < 512) : 0 ≤ bits .xor .i64 x 369 ∧ bits .xor .i64 x 369 < 256 := by
  have : ∀ n : Fin 256, 0 ≤ bits .xor .i64 (256 + (n.val : Int)) 369 ∧ bits .xor .i64 (256 + (n.val : Int)) 369 < 256 := by decide +kernel
  have h := this ⟨(x - 256).toNat, by omega⟩
  have e : (256 : Int) + ((x - 256).toNat : Int) = x := by omega
  simp only [e] at h
  exact h
theorem bitR_range (t : Nat) : 0 ≤ bitR t ∧ bitR t < 256 := by
  induction t with
  | zero => exact ⟨by decide, by decide⟩
  | succ t ih =>
    rw [bitR]
    split
    · exact xor369 _ (by omega) (by omega)
    · omega
theorem bit_any (n : Nat) (w : World) (hn : n ≤ 1000) :
    Calls Tryd.prog 38 #[.int .i64 n] w fun e w' => e = .returned (.int .u64 (bitR n % 2)) ∧ w' = w := by
  go_enter Tryd.func38, Tryd.ntmps38
  go_wp2_with fail
  go_loop [3, 4] (fun r i => ∃ k : Nat, k ≤ n ∧ i = .int .i64 k ∧ r = .int .i64 (bitR k)) (fun _ i => (n - intOf i).toNat)
  case atStart => exact ⟨0, by omega, rfl, rfl⟩
  case round =>
    obtain ⟨k, hk, rfl, rfl⟩ := hrel
    have hr := bitR_range k
    obtain ⟨r, hrr⟩ : ∃ r, bitR k = r := ⟨_, rfl⟩
    rw [hrr] at hr ⊢
    have HR := Lib.hid hrr
    clear hrr
    by_cases hlt : k < n
    · have hlt' : (k : Int) < (n : Int) := by omega
      by_cases h2 : 256 ≤ r * 2
      · go_wp2_with fail
        go_round
        case rel => exact ⟨k + 1, by omega, by go_num, by rw [bitR, HR.out, if_pos h2]⟩
        case measure => simp [intOf]; omega
      · go_wp2_with fail
        go_round
        case rel => exact ⟨k + 1, by omega, by go_num, by rw [bitR, HR.out, if_neg h2]⟩
        case measure => simp [intOf]; omega
    · have hlt' : ¬ ((k : Int) < (n : Int)) := by omega
      have hkn : Hid (k = n) := by show k = n; omega
      clear hlt hk
      go_wp2_with fail
      go_ret
      exact ⟨by rw [← hkn.out, HR.out]; rfl, rfl⟩

end Go.Proofs.YtabpbnkipdjnlaaDoor
