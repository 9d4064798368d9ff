/- The kinds of sums, layer 6, walked. Conditions: none. -/
import Derived.Test.YteidkdpfjponfaaDoorS2I
import Derived.Test.YteidkdpfjponfaaDoorZA
import Derived.Deep.MidRow
namespace Go.Proofs.YteidkdpfjponfaaDoor
open Go.RowKit
set_option linter.unusedVariables false
set_option linter.unusedSimpArgs false
def kcells : Array Value := #[.int .i64 32, .int .i64 64, .func (.func 16) #[] #[], .int .i64 64, .int .i64 128, .func (.func 34) #[] #[]]
set_option maxRecDepth 100000 in
theorem kinds_any (w : World) : Calls Tryd.prog 50 #[] w fun e w' => e = .returned (.slice (some ⟨w.heap.size, 0, none⟩) 2 2) ∧ w' = w.alloc (.cells kcells 65) := by
  go_enter Tryd.func50, Tryd.ntmps50
  go_wp2_with fail
  go_ret
  exact ⟨rfl, rfl⟩
def kZ : Array Value := #[.int .i64 0, .int .i64 0, .nilFunc]
def kV0 : Array Value := #[.int .i64 32, .int .i64 64, .func (.func 16) #[] #[]]
def kV1 : Array Value := #[.int .i64 64, .int .i64 128, .func (.func 34) #[] #[]]
/-- What `of` leaves: its result's block, and the list. -/
def OfPost (w : World) (cs : Array Value) (b : Bool) (e : Ending) (w' : World) : Prop := e = .returned (.tuple #[.agg cs, .bool b]) ∧ Below w.heap.size w w'
set_option maxRecDepth 100000 in
set_option maxHeartbeats 1000000 in
theorem of_no (k : Int) (w : World) (hk : k < 0 ∨ 2 ≤ k) : Calls Tryd.prog 41 #[.int .i64 k] w (OfPost w kZ false) := by
  have h0 := Blk.new w 65 kZ
  have hb := (Kept.refl w.heap.size (fun _ => False) w).alloc (.cells kZ 65) (Nat.le_refl _)
  have hs : (w.alloc (.cells kZ 65)).heap.size = w.heap.size + 1 := by simp
  go_enter Tryd.func41, Tryd.ntmps41
  go_upto_region 1 with fail
  change Code.wp _ _ _ _ (w.alloc (.cells kZ 65))
  generalize w.alloc (.cells kZ 65) = w1 at h0 hb hs ⊢
  go_wp2_with fail
  (with_reducible refine (kinds_any w1).mono ?_)
  rintro e w2 ⟨rfl, rfl⟩
  have h2 := h0.alloc (.cells kcells 65)
  have hb2 := hb.alloc (.cells kcells 65) (by omega)
  generalize w1.alloc (.cells kcells 65) = w2 at h2 hb2 ⊢
  have hb3 := hb2.setRow w.heap.size kZ (.inl (Nat.le_refl _))
  by_cases h0 : 0 ≤ k
  · have h2' : ¬ k < 2 := by omega
    go_wp2_with (refine wpList_store_row (o := ⟨none, _, _, _, _, _⟩) rfl 65 _ _ rfl _ kZ rfl rfl _ kZ h2 (by kernel_rfl) rfl (by kernel_rfl) ?_)
    (refine bodyPost_blk_tmp 2 3 65 Tryd.underlying65 rfl (by kernel_rfl) (by kernel_rfl) ?_ ?_ (h2.setRow kZ) ?_ <;> first | rfl | exact ⟨rfl, hb3.below⟩)
  · go_wp2_with (refine wpList_store_row (o := ⟨none, _, _, _, _, _⟩) rfl 65 _ _ rfl _ kZ rfl rfl _ kZ h2 (by kernel_rfl) rfl (by kernel_rfl) ?_)
    (refine bodyPost_blk_tmp 2 3 65 Tryd.underlying65 rfl (by kernel_rfl) (by kernel_rfl) ?_ ?_ (h2.setRow kZ) ?_ <;> first | rfl | exact ⟨rfl, hb3.below⟩)
set_option maxRecDepth 100000 in
set_option maxHeartbeats 1000000 in
theorem of_0 (w : World) : Calls Tryd.prog 41 #[.int .i64 0] w (OfPost w kV0 true) := by
  have h0 := Blk.new w 65 kZ
  have hb := (Kept.refl w.heap.size (fun _ => False) w).alloc (.cells kZ 65) (Nat.le_refl _)
  have hs : (w.alloc (.cells kZ 65)).heap.size = w.heap.size + 1 := by simp
  go_enter Tryd.func41, Tryd.ntmps41
  go_upto_region 1 with fail
  change Code.wp _ _ _ _ (w.alloc (.cells kZ 65))
  generalize w.alloc (.cells kZ 65) = w1 at h0 hb hs ⊢
  go_wp2_with fail
  (with_reducible refine (kinds_any w1).mono ?_)
  rintro e w2 ⟨rfl, rfl⟩
  have h2 := h0.alloc (.cells kcells 65)
  have hb2 := hb.alloc (.cells kcells 65) (by omega)
  have h3 := (Blk.new w1 65 kcells).range 0 kV0.toList (by intro j v hj; match j, hj with | 0, hj => exact hj | 1, hj => exact hj | 2, hj => exact hj | n + 3, hj => simp [kV0] at hj)
  rw [hs] at h3
  generalize w1.alloc (.cells kcells 65) = w2 at h2 hb2 h3 ⊢
  have hb3 := hb2.setRow w.heap.size kV0 (.inl (Nat.le_refl _))
  go_wp2_with (first | (refine wpList_load_mid (op := ⟨some 17, _, _, _, _, _⟩) rfl 65 _ rfl (w.heap.size + 1) 0 rfl kV0.toList _ h3 Tryd.underlying65 rfl (by kernel_rfl) ?_) | (refine wpList_store_row (o := ⟨none, _, _, _, _, _⟩) rfl 65 _ _ rfl _ kV0 rfl rfl _ kZ h2 (by kernel_rfl) rfl (by kernel_rfl) ?_))
  (refine bodyPost_blk_tmp 2 3 65 Tryd.underlying65 rfl (by kernel_rfl) (by kernel_rfl) ?_ ?_ (h2.setRow kV0) ?_ <;> first | rfl | exact ⟨rfl, hb3.below⟩)
set_option maxRecDepth 100000 in
set_option maxHeartbeats 1000000 in
theorem of_1 (w : World) : Calls Tryd.prog 41 #[.int .i64 1] w (OfPost w kV1 true) := by
  have h0 := Blk.new w 65 kZ
  have hb := (Kept.refl w.heap.size (fun _ => False) w).alloc (.cells kZ 65) (Nat.le_refl _)
  have hs : (w.alloc (.cells kZ 65)).heap.size = w.heap.size + 1 := by simp
  go_enter Tryd.func41, Tryd.ntmps41
  go_upto_region 1 with fail
  change Code.wp _ _ _ _ (w.alloc (.cells kZ 65))
  generalize w.alloc (.cells kZ 65) = w1 at h0 hb hs ⊢
  go_wp2_with fail
  (with_reducible refine (kinds_any w1).mono ?_)
  rintro e w2 ⟨rfl, rfl⟩
  have h2 := h0.alloc (.cells kcells 65)
  have hb2 := hb.alloc (.cells kcells 65) (by omega)
  have h3 := (Blk.new w1 65 kcells).range 3 kV1.toList (by intro j v hj; match j, hj with | 0, hj => exact hj | 1, hj => exact hj | 2, hj => exact hj | n + 3, hj => simp [kV1] at hj)
  rw [hs] at h3
  generalize w1.alloc (.cells kcells 65) = w2 at h2 hb2 h3 ⊢
  have hb3 := hb2.setRow w.heap.size kV1 (.inl (Nat.le_refl _))
  go_wp2_with (first | (refine wpList_load_mid (op := ⟨some 17, _, _, _, _, _⟩) rfl 65 _ rfl (w.heap.size + 1) 3 rfl kV1.toList _ h3 Tryd.underlying65 rfl (by kernel_rfl) ?_) | (refine wpList_store_row (o := ⟨none, _, _, _, _, _⟩) rfl 65 _ _ rfl _ kV1 rfl rfl _ kZ h2 (by kernel_rfl) rfl (by kernel_rfl) ?_))
  (refine bodyPost_blk_tmp 2 3 65 Tryd.underlying65 rfl (by kernel_rfl) (by kernel_rfl) ?_ ?_ (h2.setRow kV1) ?_ <;> first | rfl | exact ⟨rfl, hb3.below⟩)
end Go.Proofs.YteidkdpfjponfaaDoor
