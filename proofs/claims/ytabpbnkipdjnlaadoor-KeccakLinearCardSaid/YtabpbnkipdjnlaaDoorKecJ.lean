import Derived.Test.YtabpbnkipdjnlaaDoorKecI
namespace Go.Proofs.YtabpbnkipdjnlaaDoor
open Go.RowKit
set_option linter.unusedVariables false
set_option linter.unusedSimpArgs false

/-! ### The plain law of two rounds -/
def midS (l : List Int) : List Int := chiA (rhoB (theta l) 25) (theta l) 25
theorem round_first (l : List Int) (i : Nat) (hl : l.length = 25) (hw : Ws l) : bits .xor .u64 (gt (roundS l i) 0) (gt rcL i) = gt (midS l) 0 := by
  have hA : (midS l).length = 25 := by rw [midS, chiA_len, theta_len, hl]
  have hw2 : Ws (midS l) := chiA_W _ _ (theta_W hw) _
  rw [roundS, gt_st _ _ _ _ (show 0 < _ from by show 0 < (midS l).length; rw [hA]; decide), if_pos rfl]
  show X (X (gt (midS l) 0) (gt rcL i)) (gt rcL i) = _
  rw [X_assoc, show X (gt rcL i) (gt rcL i) = 0 by rw [X, bv_xor, BitVec.xor_self]; rfl, X_comm, X_zero (hw2.gt _)]
theorem round_rest (l : List Int) (i j : Nat) (hl : l.length = 25) (hj : 0 < j) : gt (roundS l i) j = gt (midS l) j := by
  have hA : (midS l).length = 25 := by rw [midS, chiA_len, theta_len, hl]
  rw [roundS, gt_st _ _ _ _ (show 0 < _ from by show 0 < (midS l).length; rw [hA]; decide), if_neg (by omega)]
  rfl

set_option maxHeartbeats 4000000 in
theorem linear_walk (l : List Int) (i k : Int) (w : World) (hl : l.length = 25) (hw0 : Ws l) (hi0 : 0 ≤ i) (hi1 : i < 256) (hk0 : 0 ≤ k) (hk1 : k < 256) (ht : KTab w) :
    Calls Tryd.prog 6 #[.agg (U .u64 l), .int .u8 i, .int .u8 k] w fun e w' => e = .returned (.bool true) ∧ Below w.heap.size w w' := by
  have hz := ht.zt
  have hz0 := ht.zr
  go_enter Tryd.func6, Tryd.ntmps6
  go_wp2_with fail
  obtain ⟨B, hB⟩ : ∃ B, w.heap.size = B := ⟨_, rfl⟩
  have hA0 : Arr (w.alloc (.cells (U .u64 l) 23)) B 23 .u64 l := by subst hB; exact Arr.new _ _ _ _
  have hK0 : Kept B (fun _ => False) w (w.alloc (.cells (U .u64 l) 23)) := (Kept.refl _ _ _).alloc _ (by omega)
  have hlt := hA0.lt
  rw [hB] at hz hz0 ⊢
  have hB' := Lib.hid hB
  clear hB
  (with_reducible refine (awake4_any _ (ht.kept hK0 hz0 hz) (by omega) (by omega)).mono ?_)
  rintro e w1 ⟨rfl, hb1⟩
  have hA1 := hA0.below hb1 hlt
  have hK1 := hK0.trans (S' := fun _ => False) (Kept.of_below hb1) (by omega) (fun _ _ h => h)
  clear hA0 hK0 hb1 hlt
  have hlt := hA1.lt
  obtain ⟨a, ha⟩ : ∃ a : Nat, i % 24 = (a : Int) := ⟨(i % 24).toNat, by omega⟩
  obtain ⟨b, hb⟩ : ∃ b : Nat, k % 24 = (b : Int) := ⟨(k % 24).toNat, by omega⟩
  have ha24 : a < 24 := by omega
  have hb24 : b < 24 := by omega
  go_wp2_with (refine wpList_load_arr rfl 23 _ rfl rfl hA1 Tryd.underlying23 rfl 25 inf_a25 hl ?_)
  (with_reducible refine (round_any l a w1 hl hw0 ha24 (ht.kept hK1 hz0 hz) (by omega) (by omega)).mono ?_)
  rintro e w2 ⟨rfl, hb2⟩
  have hA2 := hA1.below hb2 hlt
  have hK2 := hK1.trans (S' := fun _ => False) (Kept.of_below hb2) (by omega) (fun _ _ h => h)
  clear hA1 hK1 hb2 hlt
  obtain ⟨x, hx⟩ : ∃ x, roundS l a = x := ⟨_, rfl⟩
  have hxl : x.length = 25 := by rw [← hx, roundS_len, hl]
  rw [hx]
  have HX := Lib.hid hx
  clear hx
  have hlt := hA2.lt
  have hA3 := hA2.alloc (.cells (U .u64 (List.replicate 25 0)) 23)
  have hN3 := Arr.new w2 23 .u64 (List.replicate 25 0)
  have hK3 := hK2.alloc (.cells (U .u64 (List.replicate 25 0)) 23) (by omega)
  have hA4 := hA3.otherRow w2.heap.size (U .u64 x) (by omega)
  rw [← zero25] at hA3 hN3 hK3 hA4
  go_wp2_with (first | (refine wpList_store_arr rfl 23 _ _ rfl rfl rfl hN3 25 inf_a25 hxl rfl ?_) | (refine wpList_load_arr rfl 23 _ rfl rfl hA4 Tryd.underlying23 rfl 25 inf_a25 hl ?_))
  obtain ⟨C, hC⟩ : ∃ C, w2.heap.size = C := ⟨_, rfl⟩
  rw [hC] at hN3 hlt hA4 ⊢
  have hBC : B < C := hlt
  have hN4 := hN3.setRow x
  have hK4 := hK3.setRow C (U .u64 x) (by omega)
  generalize (World.alloc w2 _).setRow C (U .u64 x) = W at hA4 hN4 hK4 ⊢
  clear hA2 hK2 hC hlt hA3 hN3 hK3
  have hlt := hN4.lt
  (with_reducible refine (round_any l b W hl hw0 hb24 (ht.kept hK4 hz0 hz) (by omega) (by omega)).mono ?_)
  rintro e w3 ⟨rfl, hb3⟩
  have hA5 := hA4.below hb3 (by omega)
  have hN5 := hN4.below hb3 hlt
  have hK5 := hK4.trans (S' := fun _ => False) (Kept.of_below hb3) (by omega) (fun _ _ h => h)
  clear hA4 hN4 hK4 hb3 hlt
  obtain ⟨y, hy⟩ : ∃ y, roundS l b = y := ⟨_, rfl⟩
  have hyl : y.length = 25 := by rw [← hy, roundS_len, hl]
  rw [hy]
  have HY := Lib.hid hy
  clear hy
  have hlt := hN5.lt
  have hN6 := hN5.alloc (.cells (U .u64 (List.replicate 25 0)) 23)
  have hM6 := Arr.new w3 23 .u64 (List.replicate 25 0)
  have hK6 := hK5.alloc (.cells (U .u64 (List.replicate 25 0)) 23) (by omega)
  rw [← zero25] at hN6 hM6 hK6
  go_wp2_with (refine wpList_store_arr rfl 23 _ _ rfl rfl rfl hM6 25 inf_a25 hyl rfl ?_)
  obtain ⟨D, hD⟩ : ∃ D, w3.heap.size = D := ⟨_, rfl⟩
  rw [hD] at hM6 hlt ⊢
  have hCD : C < D := hlt
  have hN7 := hN6.otherRow D (U .u64 y) (by omega)
  have hM7 := hM6.setRow y
  have hK7 := hK6.setRow D (U .u64 y) (by omega)
  generalize (World.alloc w3 _).setRow D (U .u64 y) = V at hN7 hM7 hK7 ⊢
  clear hA5 hN5 hK5 hD hlt hN6 hM6 hK6
  (try simp only [Act.put, List.setIfInBounds_toArray, List.set_cons_zero, List.set_cons_succ])
  have ea : rcI (a : Int) = gt rcL a := by rw [rcI, if_pos (by omega)]; rfl
  have eb : rcI (b : Int) = gt rcL b := by rw [rcI, if_pos (by omega)]; rfl
  obtain ⟨m, hm⟩ : ∃ m, gt (midS l) 0 = m := ⟨_, rfl⟩
  have f1 : bits .xor .u64 (gt x 0) (gt rcL a) = m := by rw [← HX.out, round_first l a hl hw0, hm]
  have f2 : bits .xor .u64 (gt y 0) (gt rcL b) = m := by rw [← HY.out, round_first l b hl hw0, hm]
  have T : ∀ {w'}, KS w B C D x y w' → KTab w' := fun h => ht.kept h.k hz0 hz
  have c0 : ∀ {w'}, KS w B C D x y w' → w'.cell? ⟨C, 0, none⟩ = some (.int .u64 (gt x 0)) := fun h => h.a.cell 0 (by omega)
  have d0 : ∀ {w'}, KS w B C D x y w' → w'.cell? ⟨D, 0, none⟩ = some (.int .u64 (gt y 0)) := fun h => h.b.cell 0 (by omega)
  refine wp_region_hold (KS w B C D x y) (by kernel_rfl) (by kernel_rfl) ⟨hN7.drew, hM7.drew, hK7.drew⟩ ?_
  clear hN7 hM7 hK7 ha hb
  ((first | (refine wpHold_step ?_ ?_ ?_ ?_; rotate_left 1; focus (with_reducible rfl)) | (refine wpHold_yes ?_ ?_ ?_ ?_; rotate_left 1; focus rfl)); (focus (intro w hw; unfold Gives; go_simp; refine ⟨?_, hw⟩; with_reducible rfl)); (try simp only [Act.put, List.setIfInBounds_toArray, List.set_cons_zero, List.set_cons_succ]))
  ((first | (refine wpHold_step ?_ ?_ ?_ ?_; rotate_left 1; focus (with_reducible rfl)) | (refine wpHold_yes ?_ ?_ ?_ ?_; rotate_left 1; focus rfl)); (focus (intro w hw; have hcell := c0 hw; unfold Gives; go_simp; refine ⟨?_, hw⟩; with_reducible rfl)); (try simp only [Act.put, List.setIfInBounds_toArray, List.set_cons_zero, List.set_cons_succ]))
  ((first | (refine wpHold_step ?_ ?_ ?_ ?_; rotate_left 1; focus (with_reducible rfl)) | (refine wpHold_yes ?_ ?_ ?_ ?_; rotate_left 1; focus rfl)); (focus (intro w hw; unfold Gives; go_simp; refine ⟨?_, hw⟩; with_reducible rfl)); (try simp only [Act.put, List.setIfInBounds_toArray, List.set_cons_zero, List.set_cons_succ]))
  ((first | (refine wpHold_step (.int .u64 (gt rcL a)) ?_ ?_ ?_; focus (with_reducible rfl)) | (refine wpHold_yes (.int .u64 (gt rcL a)) ?_ ?_ ?_; focus rfl)); (focus (intro w hw; unfold Gives; go_simp; exact (rc_any (a : Int) w (T hw)).mono fun e w' ⟨h1, h2⟩ => ⟨by rw [h1, ea], by rw [h2]; exact hw⟩)); (try simp only [Act.put, List.setIfInBounds_toArray, List.set_cons_zero, List.set_cons_succ]))
  ((first | (refine wpHold_step ?_ ?_ ?_ ?_; rotate_left 1; focus (with_reducible rfl)) | (refine wpHold_yes ?_ ?_ ?_ ?_; rotate_left 1; focus rfl)); (focus (intro w hw; unfold Gives; go_simp; refine ⟨?_, hw⟩; with_reducible rfl)); (try simp only [Act.put, List.setIfInBounds_toArray, List.set_cons_zero, List.set_cons_succ]))
  ((first | (refine wpHold_step ?_ ?_ ?_ ?_; rotate_left 1; focus (with_reducible rfl)) | (refine wpHold_yes ?_ ?_ ?_ ?_; rotate_left 1; focus rfl)); (focus (intro w hw; unfold Gives; go_simp; refine ⟨?_, hw⟩; with_reducible rfl)); (try simp only [Act.put, List.setIfInBounds_toArray, List.set_cons_zero, List.set_cons_succ]))
  ((first | (refine wpHold_step ?_ ?_ ?_ ?_; rotate_left 1; focus (with_reducible rfl)) | (refine wpHold_yes ?_ ?_ ?_ ?_; rotate_left 1; focus rfl)); (focus (intro w hw; have hcell := d0 hw; unfold Gives; go_simp; refine ⟨?_, hw⟩; with_reducible rfl)); (try simp only [Act.put, List.setIfInBounds_toArray, List.set_cons_zero, List.set_cons_succ]))
  ((first | (refine wpHold_step ?_ ?_ ?_ ?_; rotate_left 1; focus (with_reducible rfl)) | (refine wpHold_yes ?_ ?_ ?_ ?_; rotate_left 1; focus rfl)); (focus (intro w hw; unfold Gives; go_simp; refine ⟨?_, hw⟩; with_reducible rfl)); (try simp only [Act.put, List.setIfInBounds_toArray, List.set_cons_zero, List.set_cons_succ]))
  ((first | (refine wpHold_step (.int .u64 (gt rcL b)) ?_ ?_ ?_; focus (with_reducible rfl)) | (refine wpHold_yes (.int .u64 (gt rcL b)) ?_ ?_ ?_; focus rfl)); (focus (intro w hw; unfold Gives; go_simp; exact (rc_any (b : Int) w (T hw)).mono fun e w' ⟨h1, h2⟩ => ⟨by rw [h1, eb], by rw [h2]; exact hw⟩)); (try simp only [Act.put, List.setIfInBounds_toArray, List.set_cons_zero, List.set_cons_succ]))
  ((first | (refine wpHold_step ?_ ?_ ?_ ?_; rotate_left 1; focus (with_reducible rfl)) | (refine wpHold_yes ?_ ?_ ?_ ?_; rotate_left 1; focus rfl)); (focus (intro w hw; unfold Gives; go_simp; refine ⟨?_, hw⟩; with_reducible rfl)); (try simp only [Act.put, List.setIfInBounds_toArray, List.set_cons_zero, List.set_cons_succ]))
  ((first | (refine wpHold_step ?_ ?_ ?_ ?_; rotate_left 1; focus (with_reducible rfl)) | (refine wpHold_yes ?_ ?_ ?_ ?_; rotate_left 1; focus rfl)); (focus (intro w hw; unfold Gives; go_simp; refine ⟨?_, hw⟩; with_reducible rfl)); (try simp only [Act.put, List.setIfInBounds_toArray, List.set_cons_zero, List.set_cons_succ]))
  refine wpHold_nil ?_
  intro wr hr
  clear f1 f2 ea eb
  go_wp2_with fail
  go_loopw [11] (fun i wr => ∃ j : Nat, 1 ≤ j ∧ j ≤ 25 ∧ i = .int .i64 j ∧ KS w B C D x y wr) (fun i _ => (25 - intOf i).toNat)
  case atStart => exact ⟨1, by omega, by omega, rfl, hr⟩
  case round =>
    clear hr
    obtain ⟨j, hj1, hj, rfl, hr⟩ := hrel
    by_cases hlt : j < 25
    · have hlt' : (j : Int) < 25 := by omega
      have hcx := hr.a.cell j (by omega)
      have hcy := hr.b.cell j (by omega)
      have hxy : gt x j = gt y j := by rw [← HX.out, ← HY.out, round_rest l a j hl (by omega), round_rest l b j hl (by omega)]
      rw [hxy] at hcx
      clear hxy
      go_wp2_with fail
      go_quiet (fail)
      go_wp2_with fail
      go_roundw
      case rel => exact ⟨j + 1, by omega, by omega, by go_num, hr.a.drewN nq, hr.b.drewN nq, hr.k.drewN nq⟩
      case measure => simp [intOf]; omega
    · have hlt' : ¬ ((j : Int) < 25) := by omega
      clear hlt hj
      go_wp2_with fail
      go_ret
      exact ⟨rfl, hB'.out ▸ hr.k.below⟩

end Go.Proofs.YtabpbnkipdjnlaaDoor
