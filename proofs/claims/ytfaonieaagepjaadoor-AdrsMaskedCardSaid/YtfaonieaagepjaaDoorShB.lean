import Derived.Test.YtfaonieaagepjaaDoorZA
import Derived.Test.YtfaonieaagepjaaDoorKecA
namespace Go.Proofs.YtfaonieaagepjaaDoor
open Go.RowKit
set_option maxRecDepth 100000
set_option linter.unusedVariables false
set_option linter.unusedSimpArgs false

/-! ### The first bytes of a state -/
def byteAt (s : List Int) (j : Nat) : Int := (gt s (j / 8) / 2 ^ (8 * (j % 8))) % 256
def giveN (s : List Int) : Nat → List Int
  | 0 => List.replicate 136 0
  | j + 1 => st (giveN s j) j (byteAt s j)
theorem giveN_len (s : List Int) (j : Nat) : (giveN s j).length = 136 := by
  induction j with
  | zero => simp [giveN]
  | succ j ih => rw [giveN, st_len, ih]
set_option maxHeartbeats 1000000 in
def giveL (s : List Int) : List Int := giveN s 136
theorem giveL_len (s : List Int) : (giveL s).length = 136 := giveN_len s 136
set_option maxRecDepth 4000 in
theorem give_any (s : List Int) (w : World) (hs : s.length = 25) (hw : Ws s) :
    Calls Tryd.prog 82 #[.agg (U .u64 s)] w fun e w' => ∃ A c, e = .returned (.slice A (giveL s).length c) ∧ Own w' w.heap.size 5 .u8 (.slice A (giveL s).length c) (giveL s) ∧ Below w.heap.size w w' := by
  go_enter Tryd.func82, Tryd.ntmps82
  have hA0 := Arr.new w 100 .u64 s
  have hK0 : Kept w.heap.size (fun _ => False) w (w.alloc (.cells (U .u64 s) 100)) := (Kept.refl _ _ _).alloc _ (by omega)
  go_wp2_with (refine wpList_make_nums rfl _ _ 24 rfl 5 .u8 1 Tryd.underlying24 inf_u8 .i64 .i64 136 136 136 136 rfl rfl rfl rfl (by decide) (by decide) (by decide) ?_; intro w1 hw1)
  have hN1 := Arr.new (w.alloc (.cells (U .u64 s) 100)) 5 .u8 (List.replicate 136 0)
  have hA1 := hA0.alloc (.cells (U .u8 (List.replicate 136 0)) 5)
  have hK1 := hK0.alloc (.cells (U .u8 (List.replicate 136 0)) 5) (by simp)
  rw [← hw1.out] at hN1 hA1 hK1
  obtain ⟨B, hB⟩ : ∃ B, w.heap.size = B := ⟨_, rfl⟩
  rw [show (w.alloc (.cells (U .u64 s) 100)).heap.size = B + 1 by simp [hB]] at hN1
  rw [hB] at hA1 hK1 ⊢
  clear hA0 hK0 hw1
  have hB' := Lib.hid hB
  clear hB
  go_loopw [8] (fun i wr => ∃ j : Nat, i = .int .i64 j ∧ j ≤ 136 ∧ Arr wr B 100 .u64 s ∧ Arr wr (B + 1) 5 .u8 (giveN s j) ∧ Kept B (fun _ => False) w wr) (fun i _ => (136 - intOf i).toNat)
  case atStart => exact ⟨0, rfl, by omega, hA1, hN1, hK1⟩
  case round =>
    clear hA1 hN1 hK1
    obtain ⟨j, rfl, hj, hA, hN, hK⟩ := hrel
    have hgl := Lib.hid (giveN_len s j)
    by_cases hlt : j < 136
    · have hlt' : (j : Int) < 136 := by omega
      have hcs := hA.cell (j / 8) (by omega)
      have hcn := hN.cell j (by rw [giveN_len]; omega)
      have hfn := hN.free j
      go_wp2_with fail
      refine ⟨⟨j + 1, by go_num, by omega, hA.other _ _ _ (by omega), hN.set j _, hK.set _ _ _ (.inl (by omega))⟩, ?_⟩
      simp [intOf]; omega
    · have hlt' : ¬ ((j : Int) < 136) := by omega
      go_wp2_with fail
      go_ret
      obtain rfl : j = 136 := by omega
      have hO := Own.of_arr (b := B) hN (by omega) (by rw [giveN_len]; decide)
      refine ⟨some ⟨B + 1, 0, none⟩, 136, ?_, ?_, ?_⟩
      · rw [giveL_len]; rfl
      · rw [hB'.out]; rw [giveN_len] at hO; rw [giveL_len]; exact hO
      · rw [hB'.out]; exact hK.below

end Go.Proofs.YtfaonieaagepjaaDoor
