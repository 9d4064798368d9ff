import Derived.Test.YtabpbnkipdjnlaaDoorKecF
import Derived.Test.YtabpbnkipdjnlaaDoorKecInj
import Derived.Test.YtabpbnkipdjnlaaDoorHold
namespace Go.Proofs.YtabpbnkipdjnlaaDoor
open Go.RowKit
set_option linter.unusedVariables false
set_option linter.unusedSimpArgs false

/-- What a region of a law keeps: the tables, two states' rows, all that was there. -/
structure KSt (w0 : World) (B a b Ta Tb : Nat) (l m : List Int) (w : World) : Prop where
  a : Arr w a Ta .u64 l
  b : Arr w b Tb .u64 m
  k : Kept B (fun _ => False) w0 w
abbrev KS (w0 : World) (B a b : Nat) (l m : List Int) (w : World) : Prop := KSt w0 B a b 23 23 l m w
theorem KSt.below {w0 w w' : World} {B a b Ta Tb : Nat} {l m : List Int} (h : KSt w0 B a b Ta Tb l m w) (hb : Below w.heap.size w w') (hB : B ≤ w.heap.size) : KSt w0 B a b Ta Tb l m w' :=
  ⟨h.a.below hb h.a.lt, h.b.below hb h.b.lt, h.k.trans (S' := fun _ => False) (Kept.of_below hb) hB (fun _ _ h => h)⟩
theorem KSt.le {w0 w : World} {B a b Ta Tb : Nat} {l m : List Int} (h : KSt w0 B a b Ta Tb l m w) (hB : B ≤ w0.heap.size) : B ≤ w.heap.size := Nat.le_trans hB h.k.size

set_option maxHeartbeats 2000000 in
theorem awake4_any (w : World) (ht : KTab w) (hz : 1 < w.heap.size) (hz0 : 0 < w.heap.size) :
    Calls Tryd.prog 15 #[] w fun e w' => e = .returned (.bool true) ∧ Below w.heap.size w w' := by
  go_enter Tryd.func15, Tryd.ntmps15
  have hA0 := Arr.new w 23 .u64 zs25
  have hK0 : Kept w.heap.size (fun _ => False) w (w.alloc (.cells (U .u64 zs25) 23)) := (Kept.refl _ _ _).alloc _ (by omega)
  have hz25 : #[Value.int .u64 0, .int .u64 0, .int .u64 0, .int .u64 0, .int .u64 0, .int .u64 0, .int .u64 0, .int .u64 0, .int .u64 0, .int .u64 0, .int .u64 0, .int .u64 0, .int .u64 0, .int .u64 0, .int .u64 0, .int .u64 0, .int .u64 0, .int .u64 0, .int .u64 0, .int .u64 0, .int .u64 0, .int .u64 0, .int .u64 0, .int .u64 0, .int .u64 0] = U .u64 zs25 := zero25
  rw [← hz25] at hA0 hK0
  have HZ := Lib.hid hz25
  clear hz25
  go_wp2_with (refine wpList_load_arr rfl 23 _ rfl rfl hA0 Tryd.underlying23 rfl 25 inf_a25 rfl ?_)
  rw [HZ.out] at hA0 hK0
  rw [HZ.out]
  clear HZ
  obtain ⟨B, hB⟩ : ∃ B, w.heap.size = B := ⟨_, rfl⟩
  rw [hB] at hA0 hK0 hz hz0
  rw [hB]
  obtain ⟨W, hW⟩ : ∃ W, w.alloc (.cells (U .u64 zs25) 23) = W := ⟨_, rfl⟩
  rw [hW] at hA0 hK0
  rw [hW]
  have hlt := hA0.lt
  have hr : Calls Tryd.prog 20 #[.agg (U .u64 zs25), .int .i64 0] W _ := round_any zs25 0 W rfl (Ws.zeros 25) (by decide) (ht.kept hK0 hz0 hz) (by omega) (by omega)
  (with_reducible refine hr.mono ?_)
  rintro e w1 ⟨rfl, hb⟩
  have hA1 := hA0.below hb hlt
  have hK1 := hK0.trans (S' := fun _ => False) (Kept.of_below hb) (by omega) (fun _ _ h => h)
  obtain ⟨R, hR⟩ : ∃ R, roundS zs25 0 = R := ⟨_, rfl⟩
  have hRl : R.length = 25 := by rw [← hR, roundS_len]; rfl
  have e0 : gt R 0 = 1 := by rw [← hR]; exact zero_round0
  have e1 : gt R 1 = 0 := by rw [← hR]; exact zero_round1
  rw [hR]
  clear hr hW hA0 hK0 hb hlt hR
  have hA2 := hA1.alloc (.cells (U .u64 (List.replicate 25 0)) 23)
  have hN2 := Arr.new w1 23 .u64 (List.replicate 25 0)
  have hK2 := hK1.alloc (.cells (U .u64 (List.replicate 25 0)) 23) (by have := hA1.lt; omega)
  rw [← zero25] at hA2 hN2 hK2
  have hAlt := hA1.lt
  go_wp2_with (refine wpList_store_arr rfl 23 _ _ rfl rfl rfl hN2 25 inf_a25 hRl rfl ?_)
  obtain ⟨C, hC⟩ : ∃ C, w1.heap.size = C := ⟨_, rfl⟩
  rw [hC] at hN2 hAlt
  rw [hC]
  have hBC : B < C := by omega
  replace hA2 := hA2.otherRow C (U .u64 R) (by omega)
  replace hN2 := hN2.setRow R
  replace hK2 := hK2.setRow C (U .u64 R) (by omega)
  generalize (World.alloc w1 _).setRow C (U .u64 R) = W2 at hA2 hN2 hK2 ⊢
  (try simp only [Act.put, List.setIfInBounds_toArray, List.set_cons_zero, List.set_cons_succ])
  have hBw : B ≤ w.heap.size := by omega
  have hz' : 1 < w.heap.size := by omega
  have hz0' : 0 < w.heap.size := by omega
  have T : ∀ {w'}, KS w B B C zs25 R w' → KTab w' := fun h => ht.kept h.k hz0 hz
  have L : ∀ {w'}, KS w B B C zs25 R w' → B ≤ w'.heap.size := fun h => h.le hBw
  refine wp_region_hold (KS w B B C zs25 R) (by kernel_rfl) (by kernel_rfl) ⟨hA2.drew, hN2.drew, hK2.drew⟩ ?_
  clear hA2 hN2 hK2
  have c0 : ∀ {w'}, KS w B B C zs25 R w' → w'.cell? ⟨C, 0, none⟩ = some (.int .u64 1) := fun h => e0 ▸ h.b.cell 0 (by omega)
  have c1 : ∀ {w'}, KS w B B C zs25 R w' → w'.cell? ⟨C, 1, none⟩ = some (.int .u64 0) := fun h => e1 ▸ h.b.cell 1 (by omega)
  have hpl : (permute zs25).length = 25 := by rw [permute_len]; rfl
  have heq := fun w => run_equalIn_arr (P := Tryd.prog) (l := permute zs25) (m := zs25) Tryd.underlying23 Tryd.underlying22 inf_u64 hpl rfl w
  rw [decide_eq_false zero_perm] at heq
  have HEQ := Lib.hid heq
  clear heq e0 e1
  ((first | (refine wpHold_step (.int .u64 1) ?_ ?_ ?_; focus (with_reducible rfl)) | (refine wpHold_yes (.int .u64 1) ?_ ?_ ?_; focus rfl)); (focus (intro w hw; unfold Gives; go_simp; exact (rc_any 0 w (T hw)).mono fun e w' ⟨h1, h2⟩ => ⟨h1, by rw [h2]; exact hw⟩)); (try simp only [Act.put, List.setIfInBounds_toArray, List.set_cons_zero, List.set_cons_succ]))
  ((first | (refine wpHold_step ?_ ?_ ?_ ?_; rotate_left 1; focus (with_reducible rfl)) | (refine wpHold_yes ?_ ?_ ?_ ?_; rotate_left 1; focus rfl)); (focus (intro w hw; unfold Gives; go_simp; refine ⟨?_, hw⟩; with_reducible rfl)); (try simp only [Act.put, List.setIfInBounds_toArray, List.set_cons_zero, List.set_cons_succ]))
  ((first | (refine wpHold_step ?_ ?_ ?_ ?_; rotate_left 1; focus (with_reducible rfl)) | (refine wpHold_yes ?_ ?_ ?_ ?_; rotate_left 1; focus rfl)); (focus (intro w hw; unfold Gives; go_simp; refine ⟨?_, hw⟩; with_reducible rfl)); (try simp only [Act.put, List.setIfInBounds_toArray, List.set_cons_zero, List.set_cons_succ]))
  ((first | (refine wpHold_step (.int .u64 32898) ?_ ?_ ?_; focus (with_reducible rfl)) | (refine wpHold_yes (.int .u64 32898) ?_ ?_ ?_; focus rfl)); (focus (intro w hw; unfold Gives; go_simp; exact (rc_any 1 w (T hw)).mono fun e w' ⟨h1, h2⟩ => ⟨h1, by rw [h2]; exact hw⟩)); (try simp only [Act.put, List.setIfInBounds_toArray, List.set_cons_zero, List.set_cons_succ]))
  ((first | (refine wpHold_step ?_ ?_ ?_ ?_; rotate_left 1; focus (with_reducible rfl)) | (refine wpHold_yes ?_ ?_ ?_ ?_; rotate_left 1; focus rfl)); (focus (intro w hw; unfold Gives; go_simp; refine ⟨?_, hw⟩; with_reducible rfl)); (try simp only [Act.put, List.setIfInBounds_toArray, List.set_cons_zero, List.set_cons_succ]))
  ((first | (refine wpHold_step ?_ ?_ ?_ ?_; rotate_left 1; focus (with_reducible rfl)) | (refine wpHold_yes ?_ ?_ ?_ ?_; rotate_left 1; focus rfl)); (focus (intro w hw; unfold Gives; go_simp; refine ⟨?_, hw⟩; with_reducible rfl)); (try simp only [Act.put, List.setIfInBounds_toArray, List.set_cons_zero, List.set_cons_succ]))
  ((first | (refine wpHold_step ?_ ?_ ?_ ?_; rotate_left 1; focus (with_reducible rfl)) | (refine wpHold_yes ?_ ?_ ?_ ?_; rotate_left 1; focus rfl)); (focus (intro w hw; unfold Gives; go_simp; refine ⟨?_, hw⟩; with_reducible rfl)); (try simp only [Act.put, List.setIfInBounds_toArray, List.set_cons_zero, List.set_cons_succ]))
  ((first | (refine wpHold_step ?_ ?_ ?_ ?_; rotate_left 1; focus (with_reducible rfl)) | (refine wpHold_yes ?_ ?_ ?_ ?_; rotate_left 1; focus rfl)); (focus (intro w hw; unfold Gives; go_simp; refine ⟨?_, hw⟩; with_reducible rfl)); (try simp only [Act.put, List.setIfInBounds_toArray, List.set_cons_zero, List.set_cons_succ]))
  ((first | (refine wpHold_step ?_ ?_ ?_ ?_; rotate_left 1; focus (with_reducible rfl)) | (refine wpHold_yes ?_ ?_ ?_ ?_; rotate_left 1; focus rfl)); (focus (intro w hw; have hcell := c0 hw; unfold Gives; go_simp; refine ⟨?_, hw⟩; with_reducible rfl)); (try simp only [Act.put, List.setIfInBounds_toArray, List.set_cons_zero, List.set_cons_succ]))
  ((first | (refine wpHold_step ?_ ?_ ?_ ?_; rotate_left 1; focus (with_reducible rfl)) | (refine wpHold_yes ?_ ?_ ?_ ?_; rotate_left 1; focus rfl)); (focus (intro w hw; unfold Gives; go_simp; refine ⟨?_, hw⟩; with_reducible rfl)); (try simp only [Act.put, List.setIfInBounds_toArray, List.set_cons_zero, List.set_cons_succ]))
  ((first | (refine wpHold_step ?_ ?_ ?_ ?_; rotate_left 1; focus (with_reducible rfl)) | (refine wpHold_yes ?_ ?_ ?_ ?_; rotate_left 1; focus rfl)); (focus (intro w hw; unfold Gives; go_simp; refine ⟨?_, hw⟩; with_reducible rfl)); (try simp only [Act.put, List.setIfInBounds_toArray, List.set_cons_zero, List.set_cons_succ]))
  ((first | (refine wpHold_step ?_ ?_ ?_ ?_; rotate_left 1; focus (with_reducible rfl)) | (refine wpHold_yes ?_ ?_ ?_ ?_; rotate_left 1; focus rfl)); (focus (intro w hw; unfold Gives; go_simp; refine ⟨?_, hw⟩; with_reducible rfl)); (try simp only [Act.put, List.setIfInBounds_toArray, List.set_cons_zero, List.set_cons_succ]))
  ((first | (refine wpHold_step ?_ ?_ ?_ ?_; rotate_left 1; focus (with_reducible rfl)) | (refine wpHold_yes ?_ ?_ ?_ ?_; rotate_left 1; focus rfl)); (focus (intro w hw; unfold Gives; go_simp; refine ⟨?_, hw⟩; with_reducible rfl)); (try simp only [Act.put, List.setIfInBounds_toArray, List.set_cons_zero, List.set_cons_succ]))
  ((first | (refine wpHold_step ?_ ?_ ?_ ?_; rotate_left 1; focus (with_reducible rfl)) | (refine wpHold_yes ?_ ?_ ?_ ?_; rotate_left 1; focus rfl)); (focus (intro w hw; have hcell := c1 hw; unfold Gives; go_simp; refine ⟨?_, hw⟩; with_reducible rfl)); (try simp only [Act.put, List.setIfInBounds_toArray, List.set_cons_zero, List.set_cons_succ]))
  ((first | (refine wpHold_step ?_ ?_ ?_ ?_; rotate_left 1; focus (with_reducible rfl)) | (refine wpHold_yes ?_ ?_ ?_ ?_; rotate_left 1; focus rfl)); (focus (intro w hw; unfold Gives; go_simp; refine ⟨?_, hw⟩; with_reducible rfl)); (try simp only [Act.put, List.setIfInBounds_toArray, List.set_cons_zero, List.set_cons_succ]))
  ((first | (refine wpHold_step ?_ ?_ ?_ ?_; rotate_left 1; focus (with_reducible rfl)) | (refine wpHold_yes ?_ ?_ ?_ ?_; rotate_left 1; focus rfl)); (focus (intro w hw; unfold Gives; go_simp; refine ⟨?_, hw⟩; with_reducible rfl)); (try simp only [Act.put, List.setIfInBounds_toArray, List.set_cons_zero, List.set_cons_succ]))
  ((first | (refine wpHold_step ?_ ?_ ?_ ?_; rotate_left 1; focus (with_reducible rfl)) | (refine wpHold_yes ?_ ?_ ?_ ?_; rotate_left 1; focus rfl)); (focus (intro w hw; unfold Gives; go_simp; refine ⟨?_, hw⟩; with_reducible rfl)); (try simp only [Act.put, List.setIfInBounds_toArray, List.set_cons_zero, List.set_cons_succ]))
  ((first | (refine wpHold_step (.agg (U .u64 (zs25))) ?_ ?_ ?_; focus (with_reducible rfl)) | (refine wpHold_yes (.agg (U .u64 (zs25))) ?_ ?_ ?_; focus rfl)); (focus (intro w hw; exact gives_load_arr hw 23 _ rfl rfl (hw.a) Tryd.underlying23 rfl 25 inf_a25 rfl)); (try simp only [Act.put, List.setIfInBounds_toArray, List.set_cons_zero, List.set_cons_succ]))
  ((first | (refine wpHold_step (.agg (U .u64 (permute zs25))) ?_ ?_ ?_; focus (with_reducible rfl)) | (refine wpHold_yes (.agg (U .u64 (permute zs25))) ?_ ?_ ?_; focus rfl)); (focus (intro w hw; unfold Gives; go_simp; exact (permute_any zs25 w rfl (Ws.zeros 25) (T hw) (by have := L hw; omega) (by have := L hw; omega)).mono fun e w' ⟨h1, h2⟩ => ⟨h1, hw.below h2 (L hw)⟩)); (try simp only [Act.put, List.setIfInBounds_toArray, List.set_cons_zero, List.set_cons_succ]))
  ((first | (refine wpHold_step (.agg (U .u64 (zs25))) ?_ ?_ ?_; focus (with_reducible rfl)) | (refine wpHold_yes (.agg (U .u64 (zs25))) ?_ ?_ ?_; focus rfl)); (focus (intro w hw; exact gives_load_arr hw 23 _ rfl rfl (hw.a) Tryd.underlying23 rfl 25 inf_a25 rfl)); (try simp only [Act.put, List.setIfInBounds_toArray, List.set_cons_zero, List.set_cons_succ]))
  have heq := HEQ.out
  ((first | (refine wpHold_step ?_ ?_ ?_ ?_; rotate_left 1; focus (with_reducible rfl)) | (refine wpHold_yes ?_ ?_ ?_ ?_; rotate_left 1; focus rfl)); (focus (intro w hw; unfold Gives; go_simp; refine ⟨?_, hw⟩; with_reducible rfl)); (try simp only [Act.put, List.setIfInBounds_toArray, List.set_cons_zero, List.set_cons_succ]))
  ((first | (refine wpHold_step ?_ ?_ ?_ ?_; rotate_left 1; focus (with_reducible rfl)) | (refine wpHold_yes ?_ ?_ ?_ ?_; rotate_left 1; focus rfl)); (focus (intro w hw; unfold Gives; go_simp; refine ⟨?_, hw⟩; with_reducible rfl)); (try simp only [Act.put, List.setIfInBounds_toArray, List.set_cons_zero, List.set_cons_succ]))
  ((first | (refine wpHold_step ?_ ?_ ?_ ?_; rotate_left 1; focus (with_reducible rfl)) | (refine wpHold_yes ?_ ?_ ?_ ?_; rotate_left 1; focus rfl)); (focus (intro w hw; unfold Gives; go_simp; refine ⟨?_, hw⟩; with_reducible rfl)); (try simp only [Act.put, List.setIfInBounds_toArray, List.set_cons_zero, List.set_cons_succ]))
  refine wpHold_nil ?_
  intro w' hw'
  go_wp2_with fail
  go_ret
  exact ⟨rfl, hB ▸ hw'.k.below⟩

end Go.Proofs.YtabpbnkipdjnlaaDoor
