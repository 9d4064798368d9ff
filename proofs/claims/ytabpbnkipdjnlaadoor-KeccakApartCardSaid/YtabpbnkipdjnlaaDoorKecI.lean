import Derived.Test.YtabpbnkipdjnlaaDoorKecH
namespace Go.Proofs.YtabpbnkipdjnlaaDoor
open Go.RowKit
set_option linter.unusedVariables false
set_option linter.unusedSimpArgs false

theorem roundI_nat (l : List Int) (k : Nat) (hk : k < 24) : roundI l (k : Int) = roundS l k := by
  rw [roundI, if_pos (by omega)]; rfl

set_option maxHeartbeats 4000000 in
theorem rounds_walk (l : List Int) (i : Int) (w : World) (hl : l.length = 25) (hw0 : Ws l) (ht : KTab w) :
    Calls Tryd.prog 5 #[.agg (U .u64 l), .int .i64 i] w fun e w' => e = .returned (.bool true) ∧ Below w.heap.size w w' := by
  have hz := ht.zt
  have hz0 := ht.zr
  go_enter Tryd.func5, Tryd.ntmps5
  go_wp2_with fail
  obtain ⟨B, hB⟩ : ∃ B, w.heap.size = B := ⟨_, rfl⟩
  have hA0 : Arr (w.alloc (.cells (U .u64 l) 23)) B 23 .u64 l := by subst hB; exact Arr.new _ _ _ _
  have hK0 : Kept B (fun _ => False) w (w.alloc (.cells (U .u64 l) 23)) := (Kept.refl _ _ _).alloc _ (by omega)
  have hlt := hA0.lt
  rw [hB] at hz hz0 ⊢
  have hB' := Lib.hid hB
  clear hB
  (with_reducible refine (awake4_any _ (ht.kept hK0 hz0 hz) (by omega) (by omega)).mono ?_)
  rintro e w1 ⟨rfl, hb1⟩
  have hA1 := hA0.below hb1 hlt
  have hK1 := hK0.trans (S' := fun _ => False) (Kept.of_below hb1) (by omega) (fun _ _ h => h)
  clear hA0 hK0 hb1 hlt
  have hlt := hA1.lt
  have hA3 := hA1.alloc (.cells (U .u64 (List.replicate 25 0)) 23)
  have hN3 := Arr.new w1 23 .u64 (List.replicate 25 0)
  have hK3 := hK1.alloc (.cells (U .u64 (List.replicate 25 0)) 23) (by omega)
  rw [← zero25] at hA3 hN3 hK3
  go_wp2_with (first | (refine wpList_load_arr rfl 23 _ rfl rfl hA1 Tryd.underlying23 rfl 25 inf_a25 hl ?_) | (refine wpList_store_arr rfl 23 _ _ rfl rfl rfl hN3 25 inf_a25 hl rfl ?_))
  obtain ⟨C, hC⟩ : ∃ C, w1.heap.size = C := ⟨_, rfl⟩
  rw [hC] at hN3 hlt ⊢
  have hBC : B < C := hlt
  replace hA3 := hA3.otherRow C (U .u64 l) (by omega)
  replace hN3 := hN3.setRow l
  replace hK3 := hK3.setRow C (U .u64 l) (by omega)
  generalize (World.alloc w1 _).setRow C (U .u64 l) = W at hA3 hN3 hK3 ⊢
  clear hA1 hK1 hC hlt
  (try simp only [Act.put, List.setIfInBounds_toArray, List.set_cons_zero, List.set_cons_succ])
  go_loopw [6] (fun i wr => ∃ k : Nat, k ≤ 24 ∧ i = .int .i64 k ∧ Arr wr B 23 .u64 l ∧ Arr wr C 23 .u64 (permN l k) ∧ Kept B (fun _ => False) w wr) (fun i _ => (24 - intOf i).toNat)
  case atStart => exact ⟨0, by omega, rfl, hA3, hN3, hK3⟩
  case round =>
    clear hA3 hN3 hK3
    obtain ⟨k, hk, rfl, ha, hc, hg⟩ := hrel
    obtain ⟨L, hL⟩ : ∃ L, permN l k = L := ⟨_, rfl⟩
    have hLl : L.length = 25 := by rw [← hL, permN_len, hl]
    have hLw : Ws L := hL ▸ permN_W hw0 k
    rw [hL] at hc
    have HL := Lib.hid hL
    clear hL
    by_cases hlt : k < 24
    · have hlt' : (k : Int) < 24 := by omega
      have hT := ht.kept hg hz0 hz
      have hsz := hc.lt
      go_wp2_with (refine wpList_load_arr rfl 23 _ rfl rfl hc Tryd.underlying23 rfl 25 inf_a25 hLl ?_)
      (with_reducible refine (round_any L k wr hLl hLw hlt hT hT.zt hT.zr).mono ?_)
      rintro e w1 ⟨rfl, hb⟩
      replace ha := ha.below hb (by omega)
      replace hc := hc.below hb (by omega)
      replace hg := hg.trans (S' := fun _ => False) (Kept.of_below hb) (by omega) (fun _ _ h => h)
      have hl2 : (roundS L k).length = 25 := by rw [roundS_len, hLl]
      go_wp2_with (refine wpList_store_arr rfl 23 _ _ rfl rfl rfl hc 25 inf_a25 hl2 hLl ?_)
      go_roundw
      case rel => exact ⟨k + 1, by omega, by go_num, ha.otherRow _ _ (by omega), by rw [permN, HL.out]; exact hc.setRow _, hg.setRow _ _ (by omega)⟩
      case measure => simp [intOf]; omega
    · have hlt' : ¬ ((k : Int) < 24) := by omega
      have hpe : permute l = L := by rw [← HL.out, show k = 24 by omega]; rfl
      have HP := Lib.hid hpe
      clear hlt hk hpe
      go_wp2_with fail
      have hBw : B ≤ w.heap.size := by have := hB'.out; omega
      have T : ∀ {w'}, KS w B B C l L w' → KTab w' := fun h => ht.kept h.k hz0 hz
      have Lt : ∀ {w'}, KS w B B C l L w' → B ≤ w'.heap.size := fun h => h.le hBw
      have hrl : (roundI l i).length = 25 := by rw [roundI_len]; exact hl
      have q1 := fun w => run_equalIn_arr (P := Tryd.prog) (l := L) (m := L) Tryd.underlying23 Tryd.underlying22 inf_u64 hLl hLl w
      simp only [decide_true] at q1
      refine wp_region_hold (KS w B B C l L) (by kernel_rfl) (by kernel_rfl) ⟨ha.drew, hc.drew, hg.drew⟩ ?_
      clear ha hc hg
      ((first | (refine wpHold_step (.agg (U .u64 (l))) ?_ ?_ ?_; focus (with_reducible rfl)) | (refine wpHold_yes (.agg (U .u64 (l))) ?_ ?_ ?_; focus rfl)); (focus (intro w hw; exact gives_load_arr hw 23 _ rfl rfl (hw.a) Tryd.underlying23 rfl 25 inf_a25 hl)); (try simp only [Act.put, List.setIfInBounds_toArray, List.set_cons_zero, List.set_cons_succ]))
      ((first | (refine wpHold_step (.agg (U .u64 L)) ?_ ?_ ?_; focus (with_reducible rfl)) | (refine wpHold_yes (.agg (U .u64 L)) ?_ ?_ ?_; focus rfl)); (focus (intro w hw; unfold Gives; go_simp; exact (permute_any l w hl hw0 (T hw) (T hw).zt (T hw).zr).mono fun e w' ⟨h1, h2⟩ => ⟨by rw [h1, HP.out], hw.below h2 (Lt hw)⟩)); (try simp only [Act.put, List.setIfInBounds_toArray, List.set_cons_zero, List.set_cons_succ]))
      ((first | (refine wpHold_step (.agg (U .u64 (L))) ?_ ?_ ?_; focus (with_reducible rfl)) | (refine wpHold_yes (.agg (U .u64 (L))) ?_ ?_ ?_; focus rfl)); (focus (intro w hw; exact gives_load_arr hw 23 _ rfl rfl (hw.b) Tryd.underlying23 rfl 25 inf_a25 hLl)); (try simp only [Act.put, List.setIfInBounds_toArray, List.set_cons_zero, List.set_cons_succ]))
      ((first | (refine wpHold_step ?_ ?_ ?_ ?_; rotate_left 1; focus (with_reducible rfl)) | (refine wpHold_yes ?_ ?_ ?_ ?_; rotate_left 1; focus rfl)); (focus (intro w hw; unfold Gives; go_simp; refine ⟨?_, hw⟩; with_reducible rfl)); (try simp only [Act.put, List.setIfInBounds_toArray, List.set_cons_zero, List.set_cons_succ]))
      refine wpHold_nil ?_
      intro wr hr
      clear q1
      go_wp2_with fail
      by_cases hi0 : 0 ≤ i
      · have d0 : decide (0 ≤ i) = true := decide_eq_true hi0
        by_cases hi1 : i < 24
        · have d1 : decide (i < 24) = true := decide_eq_true hi1
          refine wp_region_hold (KS w B B C l L) (by kernel_rfl) (by kernel_rfl) ⟨hr.a.drew, hr.b.drew, hr.k.drew⟩ ?_
          ((first | (refine wpHold_step ?_ ?_ ?_ ?_; rotate_left 1; focus (with_reducible rfl)) | (refine wpHold_yes ?_ ?_ ?_ ?_; rotate_left 1; focus rfl)); (focus (intro w hw; unfold Gives; go_simp; refine ⟨?_, hw⟩; with_reducible rfl)); (try simp only [Act.put, List.setIfInBounds_toArray, List.set_cons_zero, List.set_cons_succ]))
          ((first | (refine wpHold_step ?_ ?_ ?_ ?_; rotate_left 1; focus (with_reducible rfl)) | (refine wpHold_yes ?_ ?_ ?_ ?_; rotate_left 1; focus rfl)); (focus (intro w hw; unfold Gives; go_simp; refine ⟨?_, hw⟩; with_reducible rfl)); (try simp only [Act.put, List.setIfInBounds_toArray, List.set_cons_zero, List.set_cons_succ]))
          ((first | (refine wpHold_step ?_ ?_ ?_ ?_; rotate_left 1; focus (with_reducible rfl)) | (refine wpHold_yes ?_ ?_ ?_ ?_; rotate_left 1; focus rfl)); (focus (intro w hw; unfold Gives; go_simp; refine ⟨?_, hw⟩; with_reducible rfl)); (try simp only [Act.put, List.setIfInBounds_toArray, List.set_cons_zero, List.set_cons_succ]))
          ((first | (refine wpHold_step ?_ ?_ ?_ ?_; rotate_left 1; focus (with_reducible rfl)) | (refine wpHold_yes ?_ ?_ ?_ ?_; rotate_left 1; focus rfl)); (focus (intro w hw; unfold Gives; go_simp; refine ⟨?_, hw⟩; with_reducible rfl)); (try simp only [Act.put, List.setIfInBounds_toArray, List.set_cons_zero, List.set_cons_succ]))
          ((first | (refine wpHold_step ?_ ?_ ?_ ?_; rotate_left 1; focus (with_reducible rfl)) | (refine wpHold_yes ?_ ?_ ?_ ?_; rotate_left 1; focus rfl)); (focus (intro w hw; unfold Gives; go_simp; refine ⟨?_, hw⟩; with_reducible rfl)); (try simp only [Act.put, List.setIfInBounds_toArray, List.set_cons_zero, List.set_cons_succ]))
          ((first | (refine wpHold_step ?_ ?_ ?_ ?_; rotate_left 1; focus (with_reducible rfl)) | (refine wpHold_yes ?_ ?_ ?_ ?_; rotate_left 1; focus rfl)); (focus (intro w hw; unfold Gives; go_simp; refine ⟨?_, hw⟩; with_reducible rfl)); (try simp only [Act.put, List.setIfInBounds_toArray, List.set_cons_zero, List.set_cons_succ]))
          ((first | (refine wpHold_step ?_ ?_ ?_ ?_; rotate_left 1; focus (with_reducible rfl)) | (refine wpHold_yes ?_ ?_ ?_ ?_; rotate_left 1; focus rfl)); (focus (intro w hw; unfold Gives; go_simp; refine ⟨?_, hw⟩; with_reducible rfl)); (try simp only [Act.put, List.setIfInBounds_toArray, List.set_cons_zero, List.set_cons_succ]))
          iterate 10 ((refine wpHold_no ?_ ?_; focus rfl); (try simp only [Act.put, List.setIfInBounds_toArray, List.set_cons_zero, List.set_cons_succ]))
          ((first | (refine wpHold_step ?_ ?_ ?_ ?_; rotate_left 1; focus (with_reducible rfl)) | (refine wpHold_yes ?_ ?_ ?_ ?_; rotate_left 1; focus rfl)); (focus (intro w hw; unfold Gives; go_simp; refine ⟨?_, hw⟩; with_reducible rfl)); (try simp only [Act.put, List.setIfInBounds_toArray, List.set_cons_zero, List.set_cons_succ]))
          ((first | (refine wpHold_step ?_ ?_ ?_ ?_; rotate_left 1; focus (with_reducible rfl)) | (refine wpHold_yes ?_ ?_ ?_ ?_; rotate_left 1; focus rfl)); (focus (intro w hw; unfold Gives; go_simp; refine ⟨?_, hw⟩; with_reducible rfl)); (try simp only [Act.put, List.setIfInBounds_toArray, List.set_cons_zero, List.set_cons_succ]))
          refine wpHold_nil ?_
          intro w' hw'
          go_wp2_with fail
          go_ret
          exact ⟨rfl, hB'.out ▸ hw'.k.below⟩
        · have d1 : decide (i < 24) = false := decide_eq_false hi1
          have e1 : roundI l i = l := by rw [roundI, if_neg (by omega)]
          have e2 : rcI i = 0 := by rw [rcI, if_neg (by omega)]
          have q2 := fun w => run_equalIn_arr (P := Tryd.prog) (l := l) (m := l) Tryd.underlying23 Tryd.underlying22 inf_u64 hl hl w
          simp only [decide_true] at q2
          refine wp_region_hold (KS w B B C l L) (by kernel_rfl) (by kernel_rfl) ⟨hr.a.drew, hr.b.drew, hr.k.drew⟩ ?_
          ((first | (refine wpHold_step ?_ ?_ ?_ ?_; rotate_left 1; focus (with_reducible rfl)) | (refine wpHold_yes ?_ ?_ ?_ ?_; rotate_left 1; focus rfl)); (focus (intro w hw; unfold Gives; go_simp; refine ⟨?_, hw⟩; with_reducible rfl)); (try simp only [Act.put, List.setIfInBounds_toArray, List.set_cons_zero, List.set_cons_succ]))
          ((first | (refine wpHold_step ?_ ?_ ?_ ?_; rotate_left 1; focus (with_reducible rfl)) | (refine wpHold_yes ?_ ?_ ?_ ?_; rotate_left 1; focus rfl)); (focus (intro w hw; unfold Gives; go_simp; refine ⟨?_, hw⟩; with_reducible rfl)); (try simp only [Act.put, List.setIfInBounds_toArray, List.set_cons_zero, List.set_cons_succ]))
          ((first | (refine wpHold_step ?_ ?_ ?_ ?_; rotate_left 1; focus (with_reducible rfl)) | (refine wpHold_yes ?_ ?_ ?_ ?_; rotate_left 1; focus rfl)); (focus (intro w hw; unfold Gives; go_simp; refine ⟨?_, hw⟩; with_reducible rfl)); (try simp only [Act.put, List.setIfInBounds_toArray, List.set_cons_zero, List.set_cons_succ]))
          ((first | (refine wpHold_step ?_ ?_ ?_ ?_; rotate_left 1; focus (with_reducible rfl)) | (refine wpHold_yes ?_ ?_ ?_ ?_; rotate_left 1; focus rfl)); (focus (intro w hw; unfold Gives; go_simp; refine ⟨?_, hw⟩; with_reducible rfl)); (try simp only [Act.put, List.setIfInBounds_toArray, List.set_cons_zero, List.set_cons_succ]))
          ((first | (refine wpHold_step ?_ ?_ ?_ ?_; rotate_left 1; focus (with_reducible rfl)) | (refine wpHold_yes ?_ ?_ ?_ ?_; rotate_left 1; focus rfl)); (focus (intro w hw; unfold Gives; go_simp; refine ⟨?_, hw⟩; with_reducible rfl)); (try simp only [Act.put, List.setIfInBounds_toArray, List.set_cons_zero, List.set_cons_succ]))
          ((first | (refine wpHold_step ?_ ?_ ?_ ?_; rotate_left 1; focus (with_reducible rfl)) | (refine wpHold_yes ?_ ?_ ?_ ?_; rotate_left 1; focus rfl)); (focus (intro w hw; unfold Gives; go_simp; refine ⟨?_, hw⟩; with_reducible rfl)); (try simp only [Act.put, List.setIfInBounds_toArray, List.set_cons_zero, List.set_cons_succ]))
          ((first | (refine wpHold_step ?_ ?_ ?_ ?_; rotate_left 1; focus (with_reducible rfl)) | (refine wpHold_yes ?_ ?_ ?_ ?_; rotate_left 1; focus rfl)); (focus (intro w hw; unfold Gives; go_simp; refine ⟨?_, hw⟩; with_reducible rfl)); (try simp only [Act.put, List.setIfInBounds_toArray, List.set_cons_zero, List.set_cons_succ]))
          ((first | (refine wpHold_step (.agg (U .u64 (l))) ?_ ?_ ?_; focus (with_reducible rfl)) | (refine wpHold_yes (.agg (U .u64 (l))) ?_ ?_ ?_; focus rfl)); (focus (intro w hw; exact gives_load_arr hw 23 _ rfl rfl (hw.a) Tryd.underlying23 rfl 25 inf_a25 hl)); (try simp only [Act.put, List.setIfInBounds_toArray, List.set_cons_zero, List.set_cons_succ]))
          ((first | (refine wpHold_step ?_ ?_ ?_ ?_; rotate_left 1; focus (with_reducible rfl)) | (refine wpHold_yes ?_ ?_ ?_ ?_; rotate_left 1; focus rfl)); (focus (intro w hw; unfold Gives; go_simp; refine ⟨?_, hw⟩; with_reducible rfl)); (try simp only [Act.put, List.setIfInBounds_toArray, List.set_cons_zero, List.set_cons_succ]))
          ((first | (refine wpHold_step (.agg (U .u64 l)) ?_ ?_ ?_; focus (with_reducible rfl)) | (refine wpHold_yes (.agg (U .u64 l)) ?_ ?_ ?_; focus rfl)); (focus (intro w hw; unfold Gives; go_simp; exact (roundI_any l i w hl hw0 (T hw) (T hw).zt (T hw).zr).mono fun e w' ⟨h1, h2⟩ => ⟨by rw [h1, e1], hw.below h2 (Lt hw)⟩)); (try simp only [Act.put, List.setIfInBounds_toArray, List.set_cons_zero, List.set_cons_succ]))
          ((first | (refine wpHold_step (.agg (U .u64 (l))) ?_ ?_ ?_; focus (with_reducible rfl)) | (refine wpHold_yes (.agg (U .u64 (l))) ?_ ?_ ?_; focus rfl)); (focus (intro w hw; exact gives_load_arr hw 23 _ rfl rfl (hw.a) Tryd.underlying23 rfl 25 inf_a25 hl)); (try simp only [Act.put, List.setIfInBounds_toArray, List.set_cons_zero, List.set_cons_succ]))
          ((first | (refine wpHold_step ?_ ?_ ?_ ?_; rotate_left 1; focus (with_reducible rfl)) | (refine wpHold_yes ?_ ?_ ?_ ?_; rotate_left 1; focus rfl)); (focus (intro w hw; unfold Gives; go_simp; refine ⟨?_, hw⟩; with_reducible rfl)); (try simp only [Act.put, List.setIfInBounds_toArray, List.set_cons_zero, List.set_cons_succ]))
          ((first | (refine wpHold_step ?_ ?_ ?_ ?_; rotate_left 1; focus (with_reducible rfl)) | (refine wpHold_yes ?_ ?_ ?_ ?_; rotate_left 1; focus rfl)); (focus (intro w hw; unfold Gives; go_simp; refine ⟨?_, hw⟩; with_reducible rfl)); (try simp only [Act.put, List.setIfInBounds_toArray, List.set_cons_zero, List.set_cons_succ]))
          ((first | (refine wpHold_step ?_ ?_ ?_ ?_; rotate_left 1; focus (with_reducible rfl)) | (refine wpHold_yes ?_ ?_ ?_ ?_; rotate_left 1; focus rfl)); (focus (intro w hw; unfold Gives; go_simp; refine ⟨?_, hw⟩; with_reducible rfl)); (try simp only [Act.put, List.setIfInBounds_toArray, List.set_cons_zero, List.set_cons_succ]))
          ((first | (refine wpHold_step (.int .u64 0) ?_ ?_ ?_; focus (with_reducible rfl)) | (refine wpHold_yes (.int .u64 0) ?_ ?_ ?_; focus rfl)); (focus (intro w hw; unfold Gives; go_simp; exact (rc_any i w (T hw)).mono fun e w' ⟨h1, h2⟩ => ⟨by rw [h1, e2], by rw [h2]; exact hw⟩)); (try simp only [Act.put, List.setIfInBounds_toArray, List.set_cons_zero, List.set_cons_succ]))
          ((first | (refine wpHold_step ?_ ?_ ?_ ?_; rotate_left 1; focus (with_reducible rfl)) | (refine wpHold_yes ?_ ?_ ?_ ?_; rotate_left 1; focus rfl)); (focus (intro w hw; unfold Gives; go_simp; refine ⟨?_, hw⟩; with_reducible rfl)); (try simp only [Act.put, List.setIfInBounds_toArray, List.set_cons_zero, List.set_cons_succ]))
          ((first | (refine wpHold_step ?_ ?_ ?_ ?_; rotate_left 1; focus (with_reducible rfl)) | (refine wpHold_yes ?_ ?_ ?_ ?_; rotate_left 1; focus rfl)); (focus (intro w hw; unfold Gives; go_simp; refine ⟨?_, hw⟩; with_reducible rfl)); (try simp only [Act.put, List.setIfInBounds_toArray, List.set_cons_zero, List.set_cons_succ]))
          ((first | (refine wpHold_step ?_ ?_ ?_ ?_; rotate_left 1; focus (with_reducible rfl)) | (refine wpHold_yes ?_ ?_ ?_ ?_; rotate_left 1; focus rfl)); (focus (intro w hw; unfold Gives; go_simp; refine ⟨?_, hw⟩; with_reducible rfl)); (try simp only [Act.put, List.setIfInBounds_toArray, List.set_cons_zero, List.set_cons_succ]))
          ((first | (refine wpHold_step ?_ ?_ ?_ ?_; rotate_left 1; focus (with_reducible rfl)) | (refine wpHold_yes ?_ ?_ ?_ ?_; rotate_left 1; focus rfl)); (focus (intro w hw; unfold Gives; go_simp; refine ⟨?_, hw⟩; with_reducible rfl)); (try simp only [Act.put, List.setIfInBounds_toArray, List.set_cons_zero, List.set_cons_succ]))
          refine wpHold_nil ?_
          intro w' hw'
          go_wp2_with fail
          go_ret
          exact ⟨rfl, hB'.out ▸ hw'.k.below⟩
      · have d0 : decide (0 ≤ i) = false := decide_eq_false hi0
        have e1 : roundI l i = l := by rw [roundI, if_neg (by omega)]
        have e2 : rcI i = 0 := by rw [rcI, if_neg (by omega)]
        have q2 := fun w => run_equalIn_arr (P := Tryd.prog) (l := l) (m := l) Tryd.underlying23 Tryd.underlying22 inf_u64 hl hl w
        simp only [decide_true] at q2
        refine wp_region_hold (KS w B B C l L) (by kernel_rfl) (by kernel_rfl) ⟨hr.a.drew, hr.b.drew, hr.k.drew⟩ ?_
        ((first | (refine wpHold_step ?_ ?_ ?_ ?_; rotate_left 1; focus (with_reducible rfl)) | (refine wpHold_yes ?_ ?_ ?_ ?_; rotate_left 1; focus rfl)); (focus (intro w hw; unfold Gives; go_simp; refine ⟨?_, hw⟩; with_reducible rfl)); (try simp only [Act.put, List.setIfInBounds_toArray, List.set_cons_zero, List.set_cons_succ]))
        ((first | (refine wpHold_step ?_ ?_ ?_ ?_; rotate_left 1; focus (with_reducible rfl)) | (refine wpHold_yes ?_ ?_ ?_ ?_; rotate_left 1; focus rfl)); (focus (intro w hw; unfold Gives; go_simp; refine ⟨?_, hw⟩; with_reducible rfl)); (try simp only [Act.put, List.setIfInBounds_toArray, List.set_cons_zero, List.set_cons_succ]))
        ((first | (refine wpHold_step ?_ ?_ ?_ ?_; rotate_left 1; focus (with_reducible rfl)) | (refine wpHold_yes ?_ ?_ ?_ ?_; rotate_left 1; focus rfl)); (focus (intro w hw; unfold Gives; go_simp; refine ⟨?_, hw⟩; with_reducible rfl)); (try simp only [Act.put, List.setIfInBounds_toArray, List.set_cons_zero, List.set_cons_succ]))
        ((refine wpHold_no ?_ ?_; focus rfl); (try simp only [Act.put, List.setIfInBounds_toArray, List.set_cons_zero, List.set_cons_succ]))
        ((refine wpHold_no ?_ ?_; focus rfl); (try simp only [Act.put, List.setIfInBounds_toArray, List.set_cons_zero, List.set_cons_succ]))
        ((first | (refine wpHold_step ?_ ?_ ?_ ?_; rotate_left 1; focus (with_reducible rfl)) | (refine wpHold_yes ?_ ?_ ?_ ?_; rotate_left 1; focus rfl)); (focus (intro w hw; unfold Gives; go_simp; refine ⟨?_, hw⟩; with_reducible rfl)); (try simp only [Act.put, List.setIfInBounds_toArray, List.set_cons_zero, List.set_cons_succ]))
        ((first | (refine wpHold_step ?_ ?_ ?_ ?_; rotate_left 1; focus (with_reducible rfl)) | (refine wpHold_yes ?_ ?_ ?_ ?_; rotate_left 1; focus rfl)); (focus (intro w hw; unfold Gives; go_simp; refine ⟨?_, hw⟩; with_reducible rfl)); (try simp only [Act.put, List.setIfInBounds_toArray, List.set_cons_zero, List.set_cons_succ]))
        ((first | (refine wpHold_step (.agg (U .u64 (l))) ?_ ?_ ?_; focus (with_reducible rfl)) | (refine wpHold_yes (.agg (U .u64 (l))) ?_ ?_ ?_; focus rfl)); (focus (intro w hw; exact gives_load_arr hw 23 _ rfl rfl (hw.a) Tryd.underlying23 rfl 25 inf_a25 hl)); (try simp only [Act.put, List.setIfInBounds_toArray, List.set_cons_zero, List.set_cons_succ]))
        ((first | (refine wpHold_step ?_ ?_ ?_ ?_; rotate_left 1; focus (with_reducible rfl)) | (refine wpHold_yes ?_ ?_ ?_ ?_; rotate_left 1; focus rfl)); (focus (intro w hw; unfold Gives; go_simp; refine ⟨?_, hw⟩; with_reducible rfl)); (try simp only [Act.put, List.setIfInBounds_toArray, List.set_cons_zero, List.set_cons_succ]))
        ((first | (refine wpHold_step (.agg (U .u64 l)) ?_ ?_ ?_; focus (with_reducible rfl)) | (refine wpHold_yes (.agg (U .u64 l)) ?_ ?_ ?_; focus rfl)); (focus (intro w hw; unfold Gives; go_simp; exact (roundI_any l i w hl hw0 (T hw) (T hw).zt (T hw).zr).mono fun e w' ⟨h1, h2⟩ => ⟨by rw [h1, e1], hw.below h2 (Lt hw)⟩)); (try simp only [Act.put, List.setIfInBounds_toArray, List.set_cons_zero, List.set_cons_succ]))
        ((first | (refine wpHold_step (.agg (U .u64 (l))) ?_ ?_ ?_; focus (with_reducible rfl)) | (refine wpHold_yes (.agg (U .u64 (l))) ?_ ?_ ?_; focus rfl)); (focus (intro w hw; exact gives_load_arr hw 23 _ rfl rfl (hw.a) Tryd.underlying23 rfl 25 inf_a25 hl)); (try simp only [Act.put, List.setIfInBounds_toArray, List.set_cons_zero, List.set_cons_succ]))
        ((first | (refine wpHold_step ?_ ?_ ?_ ?_; rotate_left 1; focus (with_reducible rfl)) | (refine wpHold_yes ?_ ?_ ?_ ?_; rotate_left 1; focus rfl)); (focus (intro w hw; unfold Gives; go_simp; refine ⟨?_, hw⟩; with_reducible rfl)); (try simp only [Act.put, List.setIfInBounds_toArray, List.set_cons_zero, List.set_cons_succ]))
        ((first | (refine wpHold_step ?_ ?_ ?_ ?_; rotate_left 1; focus (with_reducible rfl)) | (refine wpHold_yes ?_ ?_ ?_ ?_; rotate_left 1; focus rfl)); (focus (intro w hw; unfold Gives; go_simp; refine ⟨?_, hw⟩; with_reducible rfl)); (try simp only [Act.put, List.setIfInBounds_toArray, List.set_cons_zero, List.set_cons_succ]))
        ((first | (refine wpHold_step ?_ ?_ ?_ ?_; rotate_left 1; focus (with_reducible rfl)) | (refine wpHold_yes ?_ ?_ ?_ ?_; rotate_left 1; focus rfl)); (focus (intro w hw; unfold Gives; go_simp; refine ⟨?_, hw⟩; with_reducible rfl)); (try simp only [Act.put, List.setIfInBounds_toArray, List.set_cons_zero, List.set_cons_succ]))
        ((first | (refine wpHold_step (.int .u64 0) ?_ ?_ ?_; focus (with_reducible rfl)) | (refine wpHold_yes (.int .u64 0) ?_ ?_ ?_; focus rfl)); (focus (intro w hw; unfold Gives; go_simp; exact (rc_any i w (T hw)).mono fun e w' ⟨h1, h2⟩ => ⟨by rw [h1, e2], by rw [h2]; exact hw⟩)); (try simp only [Act.put, List.setIfInBounds_toArray, List.set_cons_zero, List.set_cons_succ]))
        ((first | (refine wpHold_step ?_ ?_ ?_ ?_; rotate_left 1; focus (with_reducible rfl)) | (refine wpHold_yes ?_ ?_ ?_ ?_; rotate_left 1; focus rfl)); (focus (intro w hw; unfold Gives; go_simp; refine ⟨?_, hw⟩; with_reducible rfl)); (try simp only [Act.put, List.setIfInBounds_toArray, List.set_cons_zero, List.set_cons_succ]))
        ((first | (refine wpHold_step ?_ ?_ ?_ ?_; rotate_left 1; focus (with_reducible rfl)) | (refine wpHold_yes ?_ ?_ ?_ ?_; rotate_left 1; focus rfl)); (focus (intro w hw; unfold Gives; go_simp; refine ⟨?_, hw⟩; with_reducible rfl)); (try simp only [Act.put, List.setIfInBounds_toArray, List.set_cons_zero, List.set_cons_succ]))
        ((first | (refine wpHold_step ?_ ?_ ?_ ?_; rotate_left 1; focus (with_reducible rfl)) | (refine wpHold_yes ?_ ?_ ?_ ?_; rotate_left 1; focus rfl)); (focus (intro w hw; unfold Gives; go_simp; refine ⟨?_, hw⟩; with_reducible rfl)); (try simp only [Act.put, List.setIfInBounds_toArray, List.set_cons_zero, List.set_cons_succ]))
        ((first | (refine wpHold_step ?_ ?_ ?_ ?_; rotate_left 1; focus (with_reducible rfl)) | (refine wpHold_yes ?_ ?_ ?_ ?_; rotate_left 1; focus rfl)); (focus (intro w hw; unfold Gives; go_simp; refine ⟨?_, hw⟩; with_reducible rfl)); (try simp only [Act.put, List.setIfInBounds_toArray, List.set_cons_zero, List.set_cons_succ]))
        refine wpHold_nil ?_
        intro w' hw'
        go_wp2_with fail
        go_ret
        exact ⟨rfl, hB'.out ▸ hw'.k.below⟩

end Go.Proofs.YtabpbnkipdjnlaaDoor
