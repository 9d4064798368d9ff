import Derived.Test.YtfaonieaagepjaaDoorKecE
namespace Go.Proofs.YtfaonieaagepjaaDoor
open Go.RowKit
set_option maxRecDepth 100000
set_option linter.unusedVariables false
set_option linter.unusedSimpArgs false

/-- A constant, reckoned. -/
def rcF (i : Nat) : Nat → Int
  | 0 => 0
  | j + 1 => bits .or .u64 (rcF i j) (IntKind.u64.wrap (bitR (7 * i + j) % 2 * 2 ^ (2 ^ j - 1)))
theorem pow_arith (k : Nat) (hk : k ≤ 6) : ∃ p : Nat, (2 : Int) ^ k = (p : Int) ∧ p = 2 ^ k ∧ 1 ≤ p ∧ p ≤ 64 := by
  refine ⟨2 ^ k, by push_cast; rfl, rfl, Nat.one_le_two_pow, ?_⟩
  exact Nat.le_trans (Nat.pow_le_pow_right (by decide) hk) (by decide)

/-- The constants that are reckoned are those that are written out. -/
theorem rcF_eq (i : Nat) (hi : i < 24) : rcF i 7 = gt rcL i := by
  have h : ∀ i : Fin 24, rcF i.val 7 = gt rcL i.val := by decide +kernel
  exact h ⟨i, hi⟩

set_option maxHeartbeats 2000000 in
theorem fPermute_any (l rc : List Int) (w : World) (hl : l.length = 25) (hw : Ws l) (hrl : rc.length = 24) :
    Calls Tryd.prog 79 #[.agg (U .u64 l), .agg (U .u64 rc)] w fun e w' => e = .returned (.agg (U .u64 (fPerm l rc 24))) ∧ Below w.heap.size w w' := by
  go_enter Tryd.func79, Tryd.ntmps79
  go_wp2_with fail
  obtain ⟨B, hB⟩ : ∃ B, w.heap.size = B := ⟨_, rfl⟩
  have hA0 : Arr (w.alloc (.cells (U .u64 l) 100)) B 100 .u64 l := by subst hB; exact Arr.new _ _ _ _
  have hC0 : Arr ((w.alloc (.cells (U .u64 l) 100)).alloc (.cells (U .u64 rc) 98)) (B + 1) 98 .u64 rc := by
    subst hB; have := Arr.new (w.alloc (.cells (U .u64 l) 100)) 98 .u64 rc; simpa using this
  have hR0 : Arr (((w.alloc (.cells (U .u64 l) 100)).alloc (.cells (U .u64 rc) 98)).alloc (.cells (U .u64 (List.replicate 25 0)) 100)) (B + 1 + 1) 100 .u64 (List.replicate 25 0) := by
    subst hB; have := Arr.new ((w.alloc (.cells (U .u64 l) 100)).alloc (.cells (U .u64 rc) 98)) 100 .u64 (List.replicate 25 0); simpa using this
  have hA := (hA0.alloc (.cells (U .u64 rc) 98)).alloc (.cells (U .u64 (List.replicate 25 0)) 100)
  have hC := hC0.alloc (.cells (U .u64 (List.replicate 25 0)) 100)
  have hK : Kept B (fun _ => False) w (((w.alloc (.cells (U .u64 l) 100)).alloc (.cells (U .u64 rc) 98)).alloc (.cells (U .u64 (List.replicate 25 0)) 100)) :=
    (((Kept.refl _ _ _).alloc _ (by omega)).alloc _ (by simp; omega)).alloc _ (by simp; omega)
  rw [hB, zero25]
  have hBv := Lib.hid hB
  clear hA0 hC0 hB
  go_loopw [5] (fun i wr => ∃ k : Nat, k ≤ 24 ∧ i = .int .i64 k ∧ Arr wr B 100 .u64 (fPerm l rc k) ∧ Arr wr (B + 1) 98 .u64 rc ∧ Arr wr (B + 1 + 1) 100 .u64 (List.replicate 25 0) ∧ Kept B (fun _ => False) w wr) (fun i _ => (24 - intOf i).toNat)
  case atStart => exact ⟨0, by omega, rfl, hA, hC, hR0, hK⟩
  case round =>
    clear hA hC hR0 hK
    obtain ⟨k, hk, rfl, ha, hc, hr, hg⟩ := hrel
    obtain ⟨L, hL⟩ : ∃ L, fPerm l rc k = L := ⟨_, rfl⟩
    have hLl : L.length = 25 := by rw [← hL, fPerm_len, hl]
    have hLw : Ws L := hL ▸ fPerm_W hw rc k
    rw [hL] at ha
    have HL := Lib.hid hL
    clear hL
    have hsz := hr.lt
    by_cases hlt : k < 24
    · have hlt' : (k : Int) < 24 := by omega
      have hck := hc.cell k (by omega)
      go_wp2_with fail
      go_still_tail 4, (by kernel_rfl)
      refine wpStill_load_arr rfl 100 _ rfl rfl (ha.drew) Tryd.underlying100 rfl 25 inf_a25 hLl ?_
      repeat still_step
      refine wpStill_nil ?_
      change wpList _ _ _ _ _ wr.drew
      have hsz2 : wr.drew.heap.size = wr.heap.size := rfl
      go_wp2_with fail
      (with_reducible refine (step_any L (gt rc k) wr.drew hLl hLw).mono ?_)
      rintro e w1 ⟨rfl, hb⟩
      rw [hsz2] at hb
      replace ha := ha.drew.below hb (by omega)
      replace hc := hc.drew.below hb (by omega)
      replace hr := hr.drew.below hb (by omega)
      replace hg := hg.drew.trans (S' := fun _ => False) (Kept.of_below hb) (by omega) (fun _ _ h => h)
      have hl2 : (stepS L (gt rc k)).length = 25 := by rw [stepS_len, hLl]
      clear hsz2 hb
      go_wp2_with (refine wpList_store_arr rfl 100 _ _ rfl rfl rfl ha 25 inf_a25 hl2 hLl ?_)
      go_roundw
      case rel => exact ⟨k + 1, by omega, by go_num, by rw [fPerm, HL.out]; exact ha.setRow _, hc.otherRow _ _ (by omega), hr.otherRow _ _ (by omega), hg.setRow _ _ (by omega)⟩
      case measure => simp [intOf]; omega
    · have hk24 : k = 24 := by omega
      have hfin : Hid (L = fPerm l rc 24) := by show L = _; rw [← HL.out, hk24]
      have hlt' : ¬ ((k : Int) < 24) := by omega
      clear hk24 hlt
      go_wp2_with (first | (refine wpList_load_arr rfl 100 _ rfl rfl ha Tryd.underlying100 rfl 25 inf_a25 hLl ?_) | (refine wpList_store_arr rfl 100 _ _ rfl rfl rfl hr 25 inf_a25 hLl rfl ?_))
      refine bodyPost_arr 4 100 25 Tryd.underlying100 rfl inf_a25 rfl rfl rfl (hr.setRow _) hLl ⟨by rw [hfin.out], ?_⟩
      exact hBv.out ▸ (hg.setRow (B + 1 + 1) _ (by omega)).below

end Go.Proofs.YtfaonieaagepjaaDoor
