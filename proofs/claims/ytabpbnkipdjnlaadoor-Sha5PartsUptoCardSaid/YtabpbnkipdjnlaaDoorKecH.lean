import Derived.Test.YtabpbnkipdjnlaaDoorKecG
namespace Go.Proofs.YtabpbnkipdjnlaaDoor
open Go.RowKit
set_option linter.unusedVariables false
set_option linter.unusedSimpArgs false

/-! ### The contracts, of any number -/
theorem roundI_any (l : List Int) (i : Int) (w : World) (hl : l.length = 25) (hw : Ws l) (ht : KTab w) (hz : 1 < w.heap.size) (hz0 : 0 < w.heap.size) :
    Calls Tryd.prog 20 #[.agg (U .u64 l), .int .i64 i] w fun e w' => e = .returned (.agg (U .u64 (roundI l i))) ∧ Below w.heap.size w w' := by
  by_cases h : 0 ≤ i ∧ i < 24
  · obtain ⟨n, rfl⟩ : ∃ n : Nat, i = n := ⟨i.toNat, by omega⟩
    have e : roundI l (n : Int) = roundS l n := by rw [roundI, if_pos h]; rfl
    rw [e]; exact round_any l n w hl hw (by omega) ht hz hz0
  · have e : roundI l i = l := by rw [roundI, if_neg h]
    rw [e]; exact round_none l i w hl h
theorem fRoundI_any (l : List Int) (i : Int) (w : World) (hl : l.length = 25) (hw : Ws l) :
    Calls Tryd.prog 21 #[.agg (U .u64 l), .int .i64 i] w fun e w' => e = .returned (.agg (U .u64 (roundI l i))) ∧ Below w.heap.size w w' := by
  by_cases h : 0 ≤ i ∧ i < 24
  · obtain ⟨n, rfl⟩ : ∃ n : Nat, i = n := ⟨i.toNat, by omega⟩
    have e : roundI l (n : Int) = stepS l (gt rcL n) := by rw [roundI, if_pos h, round_eq l n hl hw]; rfl
    rw [e]; exact fRound_any l n w hl hw (by omega)
  · have e : roundI l i = l := by rw [roundI, if_neg h]
    rw [e]; exact fRound_none l i w hl h
theorem fRC_none (i : Int) (w : World) (hi : ¬ (0 ≤ i ∧ i < 24)) :
    Calls Tryd.prog 22 #[.int .i64 i] w fun e w' => e = .returned (.int .u64 0) ∧ w' = w := by
  rcases Int.lt_or_le i 0 with h | h
  · go_enter Tryd.func22, Tryd.ntmps22
    go_wp2
    go_ret
    exact ⟨rfl, rfl⟩
  · have h3 : ¬ (i < 0) := by omega
    have h4 : 23 < i := by omega
    go_enter Tryd.func22, Tryd.ntmps22
    go_wp2
    go_ret
    exact ⟨rfl, rfl⟩
theorem fRCI_any (i : Int) (w : World) :
    Calls Tryd.prog 22 #[.int .i64 i] w fun e w' => e = .returned (.int .u64 (rcI i)) ∧ w' = w := by
  by_cases h : 0 ≤ i ∧ i < 24
  · obtain ⟨n, rfl⟩ : ∃ n : Nat, i = n := ⟨i.toNat, by omega⟩
    have e : rcI (n : Int) = rcF n 7 := by rw [rcI, if_pos h, rcF_eq n (by omega)]; rfl
    rw [e]; exact fRC_any n w (by omega)
  · have e : rcI i = 0 := by rw [rcI, if_neg h]
    rw [e]; exact fRC_none i w h
theorem fPermuteI_any (l : List Int) (w : World) (hl : l.length = 25) (hw : Ws l) :
    Calls Tryd.prog 19 #[.agg (U .u64 l), .agg (U .u64 rcL)] w fun e w' => e = .returned (.agg (U .u64 (permute l))) ∧ Below w.heap.size w w' := by
  have := fPermute_any l rcL w hl hw rfl
  rw [perm_eq l 24 hl hw] at this
  exact this

theorem KTab.zr {w : World} (h : KTab w) : 0 < w.heap.size := World.block_lt_of_cell? w _ (h.1 0 (by decide))
theorem KTab.zt {w : World} (h : KTab w) : 1 < w.heap.size := World.block_lt_of_cell? w _ (h.2 0 (by decide))

set_option maxHeartbeats 2000000 in
theorem turns_walk (l : List Int) (i : Int) (w : World) (hl : l.length = 25) (hw0 : Ws l) (ht : KTab w) :
    Calls Tryd.prog 3 #[.agg (U .u64 l), .int .i64 i] w fun e w' => e = .returned (.bool true) ∧ Below w.heap.size w w' := by
  have hz := ht.zt
  have hz0 := ht.zr
  go_enter Tryd.func3, Tryd.ntmps3
  go_wp2_with fail
  obtain ⟨B, hB⟩ : ∃ B, w.heap.size = B := ⟨_, rfl⟩
  have hA0 : Arr (w.alloc (.cells (U .u64 l) 23)) B 23 .u64 l := by subst hB; exact Arr.new _ _ _ _
  have hK0 : Kept B (fun _ => False) w (w.alloc (.cells (U .u64 l) 23)) := (Kept.refl _ _ _).alloc _ (by omega)
  have hlt := hA0.lt
  rw [hB] at hz hz0 ⊢
  have hB' := Lib.hid hB
  clear hB
  (with_reducible refine (awake4_any _ (ht.kept hK0 hz0 hz) (by omega) (by omega)).mono ?_)
  rintro e w1 ⟨rfl, hb1⟩
  have hA1 := hA0.below hb1 hlt
  have hK1 := hK0.trans (S' := fun _ => False) (Kept.of_below hb1) (by omega) (fun _ _ h => h)
  clear hA0 hK0 hb1 hlt
  have hlt := hA1.lt
  go_wp2_with fail
  (with_reducible refine (constants_any _).mono ?_)
  rintro e w2 ⟨rfl, hb2⟩
  have hA2 := hA1.below hb2 hlt
  have hK2 := hK1.trans (S' := fun _ => False) (Kept.of_below hb2) (by omega) (fun _ _ h => h)
  clear hA1 hK1 hb2 hlt
  have hlt := hA2.lt
  have hA3 := hA2.alloc (.cells (U .u64 (List.replicate 24 0)) 25)
  have hN3 := Arr.new w2 25 .u64 (List.replicate 24 0)
  have hK3 := hK2.alloc (.cells (U .u64 (List.replicate 24 0)) 25) (by omega)
  rw [← zero24] at hA3 hN3 hK3
  go_wp2_with (refine wpList_store_arr rfl 25 _ _ rfl rfl rfl hN3 24 inf_a24 rfl rfl ?_)
  obtain ⟨C, hC⟩ : ∃ C, w2.heap.size = C := ⟨_, rfl⟩
  rw [hC] at hN3 hlt ⊢
  have hBC : B < C := hlt
  replace hA3 := hA3.otherRow C (U .u64 rcL) (by omega)
  replace hN3 := hN3.setRow rcL
  replace hK3 := hK3.setRow C (U .u64 rcL) (by omega)
  generalize (World.alloc w2 _).setRow C (U .u64 rcL) = W at hA3 hN3 hK3 ⊢
  clear hA2 hK2 hC hlt
  (try simp only [Act.put, List.setIfInBounds_toArray, List.set_cons_zero, List.set_cons_succ])
  go_loopw [6] (fun i wr => ∃ k : Nat, k ≤ 24 ∧ i = .int .i64 k ∧ Arr wr B 23 .u64 l ∧ Arr wr C 25 .u64 rcL ∧ Kept B (fun _ => False) w wr) (fun i _ => (24 - intOf i).toNat)
  case atStart => exact ⟨0, by omega, rfl, hA3, hN3, hK3⟩
  case round =>
    clear hA3 hN3 hK3
    obtain ⟨k, hk, rfl, ha, hc, hg⟩ := hrel
    by_cases hlt : k < 24
    · have hlt' : (k : Int) < 24 := by omega
      have hck := hc.cell k hlt
      have hT := ht.kept hg hz0 hz
      have hrc : rcI (k : Int) = gt rcL k := by rw [rcI, if_pos (by omega)]; rfl
      go_wp2_with fail
      go_quiet ((go_at_call 17; exact Calls.quiet_of_same (rc_any _ _ (show KTab _ from hT))))
      go_wp2_with fail
      go_roundw
      case rel => exact ⟨k + 1, by omega, by go_num, ha.drewN nq, hc.drewN nq, hg.drewN nq⟩
      case measure => simp [intOf]; omega
    · have hlt' : ¬ ((k : Int) < 24) := by omega
      clear hlt hk
      go_wp2_with fail
      have hBw : B ≤ w.heap.size := by have := hB'.out; omega
      have T : ∀ {w'}, KSt w B B C 23 25 l rcL w' → KTab w' := fun h => ht.kept h.k hz0 hz
      have L : ∀ {w'}, KSt w B B C 23 25 l rcL w' → B ≤ w'.heap.size := fun h => h.le hBw
      have hpl : (permute l).length = 25 := by rw [permute_len]; exact hl
      have hrl : (roundI l i).length = 25 := by rw [roundI_len]; exact hl
      have q1 := fun w => run_equalIn_arr (P := Tryd.prog) (l := permute l) (m := permute l) Tryd.underlying23 Tryd.underlying22 inf_u64 hpl hpl w
      have q2 := fun w => run_equalIn_arr (P := Tryd.prog) (l := roundI l i) (m := roundI l i) Tryd.underlying23 Tryd.underlying22 inf_u64 hrl hrl w
      simp only [decide_true] at q1 q2
      refine wp_region_hold (KSt w B B C 23 25 l rcL) (by kernel_rfl) (by kernel_rfl) ⟨ha.drew, hc.drew, hg.drew⟩ ?_
      clear ha hc hg
      ((first | (refine wpHold_step (.agg (U .u64 (l))) ?_ ?_ ?_; focus (with_reducible rfl)) | (refine wpHold_yes (.agg (U .u64 (l))) ?_ ?_ ?_; focus rfl)); (focus (intro w hw; exact gives_load_arr hw 23 _ rfl rfl (hw.a) Tryd.underlying23 rfl 25 inf_a25 hl)); (try simp only [Act.put, List.setIfInBounds_toArray, List.set_cons_zero, List.set_cons_succ]))
      ((first | (refine wpHold_step (.agg (U .u64 (permute l))) ?_ ?_ ?_; focus (with_reducible rfl)) | (refine wpHold_yes (.agg (U .u64 (permute l))) ?_ ?_ ?_; focus rfl)); (focus (intro w hw; unfold Gives; go_simp; exact (permute_any l w hl hw0 (T hw) (T hw).zt (T hw).zr).mono fun e w' ⟨h1, h2⟩ => ⟨h1, hw.below h2 (L hw)⟩)); (try simp only [Act.put, List.setIfInBounds_toArray, List.set_cons_zero, List.set_cons_succ]))
      ((first | (refine wpHold_step (.agg (U .u64 (l))) ?_ ?_ ?_; focus (with_reducible rfl)) | (refine wpHold_yes (.agg (U .u64 (l))) ?_ ?_ ?_; focus rfl)); (focus (intro w hw; exact gives_load_arr hw 23 _ rfl rfl (hw.a) Tryd.underlying23 rfl 25 inf_a25 hl)); (try simp only [Act.put, List.setIfInBounds_toArray, List.set_cons_zero, List.set_cons_succ]))
      ((first | (refine wpHold_step (.agg (U .u64 (rcL))) ?_ ?_ ?_; focus (with_reducible rfl)) | (refine wpHold_yes (.agg (U .u64 (rcL))) ?_ ?_ ?_; focus rfl)); (focus (intro w hw; exact gives_load_arr hw 25 _ rfl rfl (hw.b) Tryd.underlying25 rfl 24 inf_a24 rfl)); (try simp only [Act.put, List.setIfInBounds_toArray, List.set_cons_zero, List.set_cons_succ]))
      ((first | (refine wpHold_step (.agg (U .u64 (permute l))) ?_ ?_ ?_; focus (with_reducible rfl)) | (refine wpHold_yes (.agg (U .u64 (permute l))) ?_ ?_ ?_; focus rfl)); (focus (intro w hw; unfold Gives; go_simp; exact (fPermuteI_any l w hl hw0).mono fun e w' ⟨h1, h2⟩ => ⟨h1, hw.below h2 (L hw)⟩)); (try simp only [Act.put, List.setIfInBounds_toArray, List.set_cons_zero, List.set_cons_succ]))
      ((first | (refine wpHold_step ?_ ?_ ?_ ?_; rotate_left 1; focus (with_reducible rfl)) | (refine wpHold_yes ?_ ?_ ?_ ?_; rotate_left 1; focus rfl)); (focus (intro w hw; unfold Gives; go_simp; refine ⟨?_, hw⟩; with_reducible rfl)); (try simp only [Act.put, List.setIfInBounds_toArray, List.set_cons_zero, List.set_cons_succ]))
      ((first | (refine wpHold_step ?_ ?_ ?_ ?_; rotate_left 1; focus (with_reducible rfl)) | (refine wpHold_yes ?_ ?_ ?_ ?_; rotate_left 1; focus rfl)); (focus (intro w hw; unfold Gives; go_simp; refine ⟨?_, hw⟩; with_reducible rfl)); (try simp only [Act.put, List.setIfInBounds_toArray, List.set_cons_zero, List.set_cons_succ]))
      ((first | (refine wpHold_step (.agg (U .u64 (l))) ?_ ?_ ?_; focus (with_reducible rfl)) | (refine wpHold_yes (.agg (U .u64 (l))) ?_ ?_ ?_; focus rfl)); (focus (intro w hw; exact gives_load_arr hw 23 _ rfl rfl (hw.a) Tryd.underlying23 rfl 25 inf_a25 hl)); (try simp only [Act.put, List.setIfInBounds_toArray, List.set_cons_zero, List.set_cons_succ]))
      ((first | (refine wpHold_step ?_ ?_ ?_ ?_; rotate_left 1; focus (with_reducible rfl)) | (refine wpHold_yes ?_ ?_ ?_ ?_; rotate_left 1; focus rfl)); (focus (intro w hw; unfold Gives; go_simp; refine ⟨?_, hw⟩; with_reducible rfl)); (try simp only [Act.put, List.setIfInBounds_toArray, List.set_cons_zero, List.set_cons_succ]))
      ((first | (refine wpHold_step (.agg (U .u64 (roundI l i))) ?_ ?_ ?_; focus (with_reducible rfl)) | (refine wpHold_yes (.agg (U .u64 (roundI l i))) ?_ ?_ ?_; focus rfl)); (focus (intro w hw; unfold Gives; go_simp; exact (roundI_any l i w hl hw0 (T hw) (T hw).zt (T hw).zr).mono fun e w' ⟨h1, h2⟩ => ⟨h1, hw.below h2 (L hw)⟩)); (try simp only [Act.put, List.setIfInBounds_toArray, List.set_cons_zero, List.set_cons_succ]))
      ((first | (refine wpHold_step (.agg (U .u64 (l))) ?_ ?_ ?_; focus (with_reducible rfl)) | (refine wpHold_yes (.agg (U .u64 (l))) ?_ ?_ ?_; focus rfl)); (focus (intro w hw; exact gives_load_arr hw 23 _ rfl rfl (hw.a) Tryd.underlying23 rfl 25 inf_a25 hl)); (try simp only [Act.put, List.setIfInBounds_toArray, List.set_cons_zero, List.set_cons_succ]))
      ((first | (refine wpHold_step ?_ ?_ ?_ ?_; rotate_left 1; focus (with_reducible rfl)) | (refine wpHold_yes ?_ ?_ ?_ ?_; rotate_left 1; focus rfl)); (focus (intro w hw; unfold Gives; go_simp; refine ⟨?_, hw⟩; with_reducible rfl)); (try simp only [Act.put, List.setIfInBounds_toArray, List.set_cons_zero, List.set_cons_succ]))
      ((first | (refine wpHold_step (.agg (U .u64 (roundI l i))) ?_ ?_ ?_; focus (with_reducible rfl)) | (refine wpHold_yes (.agg (U .u64 (roundI l i))) ?_ ?_ ?_; focus rfl)); (focus (intro w hw; unfold Gives; go_simp; exact (fRoundI_any l i w hl hw0).mono fun e w' ⟨h1, h2⟩ => ⟨h1, hw.below h2 (L hw)⟩)); (try simp only [Act.put, List.setIfInBounds_toArray, List.set_cons_zero, List.set_cons_succ]))
      ((first | (refine wpHold_step ?_ ?_ ?_ ?_; rotate_left 1; focus (with_reducible rfl)) | (refine wpHold_yes ?_ ?_ ?_ ?_; rotate_left 1; focus rfl)); (focus (intro w hw; unfold Gives; go_simp; refine ⟨?_, hw⟩; with_reducible rfl)); (try simp only [Act.put, List.setIfInBounds_toArray, List.set_cons_zero, List.set_cons_succ]))
      ((first | (refine wpHold_step ?_ ?_ ?_ ?_; rotate_left 1; focus (with_reducible rfl)) | (refine wpHold_yes ?_ ?_ ?_ ?_; rotate_left 1; focus rfl)); (focus (intro w hw; unfold Gives; go_simp; refine ⟨?_, hw⟩; with_reducible rfl)); (try simp only [Act.put, List.setIfInBounds_toArray, List.set_cons_zero, List.set_cons_succ]))
      ((first | (refine wpHold_step ?_ ?_ ?_ ?_; rotate_left 1; focus (with_reducible rfl)) | (refine wpHold_yes ?_ ?_ ?_ ?_; rotate_left 1; focus rfl)); (focus (intro w hw; unfold Gives; go_simp; refine ⟨?_, hw⟩; with_reducible rfl)); (try simp only [Act.put, List.setIfInBounds_toArray, List.set_cons_zero, List.set_cons_succ]))
      ((first | (refine wpHold_step ?_ ?_ ?_ ?_; rotate_left 1; focus (with_reducible rfl)) | (refine wpHold_yes ?_ ?_ ?_ ?_; rotate_left 1; focus rfl)); (focus (intro w hw; unfold Gives; go_simp; refine ⟨?_, hw⟩; with_reducible rfl)); (try simp only [Act.put, List.setIfInBounds_toArray, List.set_cons_zero, List.set_cons_succ]))
      ((first | (refine wpHold_step (.int .u64 (rcI i)) ?_ ?_ ?_; focus (with_reducible rfl)) | (refine wpHold_yes (.int .u64 (rcI i)) ?_ ?_ ?_; focus rfl)); (focus (intro w hw; unfold Gives; go_simp; exact (rc_any i w (T hw)).mono fun e w' ⟨h1, h2⟩ => ⟨h1, by rw [h2]; exact hw⟩)); (try simp only [Act.put, List.setIfInBounds_toArray, List.set_cons_zero, List.set_cons_succ]))
      ((first | (refine wpHold_step ?_ ?_ ?_ ?_; rotate_left 1; focus (with_reducible rfl)) | (refine wpHold_yes ?_ ?_ ?_ ?_; rotate_left 1; focus rfl)); (focus (intro w hw; unfold Gives; go_simp; refine ⟨?_, hw⟩; with_reducible rfl)); (try simp only [Act.put, List.setIfInBounds_toArray, List.set_cons_zero, List.set_cons_succ]))
      ((first | (refine wpHold_step (.int .u64 (rcI i)) ?_ ?_ ?_; focus (with_reducible rfl)) | (refine wpHold_yes (.int .u64 (rcI i)) ?_ ?_ ?_; focus rfl)); (focus (intro w hw; unfold Gives; go_simp; exact (fRCI_any i w).mono fun e w' ⟨h1, h2⟩ => ⟨h1, by rw [h2]; exact hw⟩)); (try simp only [Act.put, List.setIfInBounds_toArray, List.set_cons_zero, List.set_cons_succ]))
      ((first | (refine wpHold_step ?_ ?_ ?_ ?_; rotate_left 1; focus (with_reducible rfl)) | (refine wpHold_yes ?_ ?_ ?_ ?_; rotate_left 1; focus rfl)); (focus (intro w hw; unfold Gives; go_simp; refine ⟨?_, hw⟩; with_reducible rfl)); (try simp only [Act.put, List.setIfInBounds_toArray, List.set_cons_zero, List.set_cons_succ]))
      ((first | (refine wpHold_step ?_ ?_ ?_ ?_; rotate_left 1; focus (with_reducible rfl)) | (refine wpHold_yes ?_ ?_ ?_ ?_; rotate_left 1; focus rfl)); (focus (intro w hw; unfold Gives; go_simp; refine ⟨?_, hw⟩; with_reducible rfl)); (try simp only [Act.put, List.setIfInBounds_toArray, List.set_cons_zero, List.set_cons_succ]))
      ((first | (refine wpHold_step ?_ ?_ ?_ ?_; rotate_left 1; focus (with_reducible rfl)) | (refine wpHold_yes ?_ ?_ ?_ ?_; rotate_left 1; focus rfl)); (focus (intro w hw; unfold Gives; go_simp; refine ⟨?_, hw⟩; with_reducible rfl)); (try simp only [Act.put, List.setIfInBounds_toArray, List.set_cons_zero, List.set_cons_succ]))
      refine wpHold_nil ?_
      intro w' hw'
      go_wp2_with fail
      go_ret
      exact ⟨rfl, hB'.out ▸ hw'.k.below⟩

end Go.Proofs.YtabpbnkipdjnlaaDoor
