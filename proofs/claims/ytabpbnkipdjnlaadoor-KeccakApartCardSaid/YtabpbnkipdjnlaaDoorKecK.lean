import Derived.Test.YtabpbnkipdjnlaaDoorKecJ
namespace Go.Proofs.YtabpbnkipdjnlaaDoor
open Go.RowKit
set_option linter.unusedVariables false
set_option linter.unusedSimpArgs false

theorem st_same (l : List Int) (k : Nat) (by_ : Int) (hk : k < l.length) (hw : Ws l) (hb : W64 by_) : l = st l k (bits .xor .u64 (gt l k) by_) ↔ by_ = 0 := by
  constructor
  · intro h
    have h1 := congrArg (fun z => gt z k) h
    simp only [gt_st _ _ _ _ hk, if_pos] at h1
    have h2 : bv by_ = 0#64 := by
      have h3 := congrArg bv h1
      rw [bv_xor, bv_nat] at h3
      have h4 := congrArg (bv (gt l k) ^^^ ·) h3
      simp only [← BitVec.xor_assoc, BitVec.xor_self, BitVec.zero_xor] at h4
      exact h4.symm
    rw [← hb.bv_eq, h2]; rfl
  · intro h
    subst h
    have : bits .xor .u64 (gt l k) 0 = gt l k := by
      show X (gt l k) 0 = _
      rw [X_comm, X_zero (hw.gt _)]
    rw [this]
    apply ext_gt _ _ (by rw [st_len])
    intro i hi
    rw [gt_st _ _ _ _ hk]
    by_cases e : i = k
    · rw [if_pos e, e]
    · rw [if_neg e]

set_option maxHeartbeats 4000000 in
theorem apart_walk (l : List Int) (at_ by_ r : Int) (w : World) (hl : l.length = 25) (hw0 : Ws l) (ha0 : 0 ≤ at_) (ha1 : at_ < 256) (hb0 : W64 by_) (hr0 : 0 ≤ r) (hr1 : r < 256) (ht : KTab w) :
    Calls Tryd.prog 4 #[.agg (U .u64 l), .int .u8 at_, .agg #[.int .u64 by_, .int .u8 r]] w fun e w' => e = .returned (.bool true) ∧ Below w.heap.size w w' := by
  have hz := ht.zt
  have hz0 := ht.zr
  go_enter Tryd.func4, Tryd.ntmps4
  go_wp2_with fail
  obtain ⟨B, hB⟩ : ∃ B, w.heap.size = B := ⟨_, rfl⟩
  have hA0 : Arr (w.alloc (.cells (U .u64 l) 23)) B 23 .u64 l := by subst hB; exact Arr.new _ _ _ _
  have hK0 : Kept B (fun _ => False) w (w.alloc (.cells (U .u64 l) 23)) := (Kept.refl _ _ _).alloc _ (by omega)
  have hW1 : ((w.alloc (.cells (U .u64 l) 23)).alloc (.cells #[.int .u64 by_, .int .u8 r] 33)).heap[B + 1]? = some (.cells #[.int .u64 by_, .int .u8 r] 33 (0, 0)) := by
    subst hB; have := heap_alloc_new (w.alloc (.cells (U .u64 l) 23)) (.cells #[.int .u64 by_, .int .u8 r] 33); simpa using this
  have hA1 := hA0.alloc (.cells #[.int .u64 by_, .int .u8 r] 33)
  have hK1 := hK0.alloc (.cells #[.int .u64 by_, .int .u8 r] 33) (by simp; omega)
  rw [hB] at hz hz0 ⊢
  have hB' := Lib.hid hB
  clear hB hA0 hK0
  have hlt : B + 1 < ((w.alloc (.cells (U .u64 l) 23)).alloc (.cells #[.int .u64 by_, .int .u8 r] 33)).heap.size := (Array.getElem?_eq_some_iff.1 hW1).1
  (with_reducible refine (awake4_any _ (ht.kept hK1 hz0 hz) (by omega) (by omega)).mono ?_)
  rintro e w1 ⟨rfl, hb1⟩
  have hA2 := hA1.below hb1 (by omega)
  have hK2 := hK1.trans (S' := fun _ => False) (Kept.of_below hb1) (by omega) (fun _ _ h => h)
  have hW2 := hW1
  rw [← hb1.block (B + 1) hlt] at hW2
  clear hA1 hK1 hW1 hb1 hlt
  have hlt : B + 1 < w1.heap.size := (Array.getElem?_eq_some_iff.1 hW2).1
  have cb : w1.cell? ⟨B + 1, 0, none⟩ = some (.int .u64 by_) := by rw [cell_of_row w1 (B + 1) 0 _ _ _ hW2]; rfl
  have cr : w1.cell? ⟨B + 1, 1, none⟩ = some (.int .u8 r) := by rw [cell_of_row w1 (B + 1) 1 _ _ _ hW2]; rfl
  obtain ⟨k, hk⟩ : ∃ k : Nat, at_ % 25 = (k : Int) := ⟨(at_ % 25).toNat, by omega⟩
  obtain ⟨n, hn⟩ : ∃ n : Nat, r % 24 = (n : Int) := ⟨(r % 24).toNat, by omega⟩
  have hk25 : k < 25 := by omega
  have hkI : (k : Int) < 25 := by omega
  have hn24 : n < 24 := by omega
  have hA3 := hA2.alloc (.cells (U .u64 (List.replicate 25 0)) 23)
  have hN3 := Arr.new w1 23 .u64 (List.replicate 25 0)
  have hK3 := hK2.alloc (.cells (U .u64 (List.replicate 25 0)) 23) (by omega)
  rw [← zero25] at hA3 hN3 hK3
  go_upto_region 6 with (first | (refine wpList_load_arr rfl 23 _ rfl rfl hA2 Tryd.underlying23 rfl 25 inf_a25 hl ?_) | (refine wpList_store_arr rfl 23 _ _ rfl rfl rfl hN3 25 inf_a25 hl rfl ?_))
  obtain ⟨C, hC⟩ : ∃ C, w1.heap.size = C := ⟨_, rfl⟩
  rw [hC] at hN3 hlt ⊢
  have hBC : B < C := by omega
  have hA4 := hA3.otherRow C (U .u64 l) (by omega)
  have hN4 := hN3.setRow l
  have hK4 := hK3.setRow C (U .u64 l) (by omega)
  generalize (World.alloc w1 _).setRow C (U .u64 l) = W at hA4 hN4 hK4 ⊢
  clear hA2 hK2 hC hlt hA3 hN3 hK3 hW2 cb cr
  (try simp only [Act.put, List.setIfInBounds_toArray, List.set_cons_zero, List.set_cons_succ])
  have hck := hN4.cell k (by omega)
  have hcf := hN4.free k
  obtain ⟨v, hv⟩ : ∃ v, bits .xor .u64 (gt l k) by_ = v := ⟨_, rfl⟩
  have hvw : W64 v := hv ▸ W64_xor _ _
  have hA5 := hA4.other C k (.int .u64 v) (by omega)
  have hN5 := hN4.set k v
  have hK5 := hK4.set C k (.int .u64 v) (by omega)
  go_wp2_with fail
  rw [hn]
  obtain ⟨t, ht9⟩ : ∃ t, st l k v = t := ⟨_, rfl⟩
  have htl : t.length = 25 := by rw [← ht9, st_len, hl]
  have htw : Ws t := ht9 ▸ hw0.st k hvw
  have hsame : l = t ↔ by_ = 0 := by rw [← ht9, ← hv]; exact st_same l k by_ (by omega) hw0 hb0
  obtain ⟨q, hq⟩ : ∃ q, (by_ == 0) = q := ⟨_, rfl⟩
  rw [hq]
  have hqd : decide (l = t) = q := by
    rw [← hq]
    by_cases e : by_ = 0
    · rw [decide_eq_true (hsame.2 e), e]; rfl
    · rw [decide_eq_false (fun h => e (hsame.1 h))]; exact (beq_eq_false_iff_ne.2 e).symm
  have d1 : decide (roundS l n = roundS t n) = q := by
    rw [← hqd]
    exact decide_eq_decide.2 ⟨fun h => round_inj l t n hl htl hw0 htw h, fun h => by rw [← h]⟩
  have d2 : decide (permute l = permute t) = q := by
    rw [← hqd]
    exact decide_eq_decide.2 (permute_inj l t hl htl hw0 htw)
  have q1 := fun w => run_equalIn_arr (P := Tryd.prog) (l := roundS l n) (m := roundS t n) Tryd.underlying23 Tryd.underlying22 inf_u64 (by rw [roundS_len, hl]) (by rw [roundS_len, htl]) w
  have q2 := fun w => run_equalIn_arr (P := Tryd.prog) (l := permute l) (m := permute t) Tryd.underlying23 Tryd.underlying22 inf_u64 (by rw [permute_len, hl]) (by rw [permute_len, htl]) w
  rw [d1] at q1
  rw [d2] at q2
  rw [ht9] at hN5
  clear hn hq hqd d1 d2 hsame ht9 hck hcf hv hvw hA4 hN4 hK4 hk
  have T : ∀ {w'}, KS w B B C l t w' → KTab w' := fun h => ht.kept h.k hz0 hz
  have Lt : ∀ {w'}, KS w B B C l t w' → B ≤ w'.heap.size := fun h => h.le (by have := hB'.out; omega)
  have qq : (q == q) = true := by cases q <;> rfl
  have S0 : KS w B B C l t (World.drew (W.setCell ⟨C, k, none⟩ (.int .u64 v))) := ⟨hA5.drew, hN5.drew, hK5.drew⟩
  refine wp_region_hold (KS w B B C l t) (by kernel_rfl) (by kernel_rfl) S0 ?_
  clear S0 hA5 hN5 hK5
  ((first | (refine wpHold_step (.agg (U .u64 (l))) ?_ ?_ ?_; focus (with_reducible rfl)) | (refine wpHold_yes (.agg (U .u64 (l))) ?_ ?_ ?_; focus rfl)); (focus (intro w hw; exact gives_load_arr hw 23 _ rfl rfl (hw.a) Tryd.underlying23 rfl 25 inf_a25 hl)); (try simp only [Act.put, List.setIfInBounds_toArray, List.set_cons_zero, List.set_cons_succ]))
  ((first | (refine wpHold_step ?_ ?_ ?_ ?_; rotate_left 1; focus (with_reducible rfl)) | (refine wpHold_yes ?_ ?_ ?_ ?_; rotate_left 1; focus rfl)); (focus (intro w hw; unfold Gives; go_simp; refine ⟨?_, hw⟩; with_reducible rfl)); (try simp only [Act.put, List.setIfInBounds_toArray, List.set_cons_zero, List.set_cons_succ]))
  ((first | (refine wpHold_step (.agg (U .u64 (roundS l n))) ?_ ?_ ?_; focus (with_reducible rfl)) | (refine wpHold_yes (.agg (U .u64 (roundS l n))) ?_ ?_ ?_; focus rfl)); (focus (intro w hw; unfold Gives; go_simp; exact (round_any l n w hl hw0 hn24 (T hw) (by have := Lt hw; omega) (by have := Lt hw; omega)).mono fun e w' ⟨h1, h2⟩ => ⟨h1, hw.below h2 (Lt hw)⟩)); (try simp only [Act.put, List.setIfInBounds_toArray, List.set_cons_zero, List.set_cons_succ]))
  ((first | (refine wpHold_step (.agg (U .u64 (t))) ?_ ?_ ?_; focus (with_reducible rfl)) | (refine wpHold_yes (.agg (U .u64 (t))) ?_ ?_ ?_; focus rfl)); (focus (intro w hw; exact gives_load_arr hw 23 _ rfl rfl (hw.b) Tryd.underlying23 rfl 25 inf_a25 htl)); (try simp only [Act.put, List.setIfInBounds_toArray, List.set_cons_zero, List.set_cons_succ]))
  ((first | (refine wpHold_step ?_ ?_ ?_ ?_; rotate_left 1; focus (with_reducible rfl)) | (refine wpHold_yes ?_ ?_ ?_ ?_; rotate_left 1; focus rfl)); (focus (intro w hw; unfold Gives; go_simp; refine ⟨?_, hw⟩; with_reducible rfl)); (try simp only [Act.put, List.setIfInBounds_toArray, List.set_cons_zero, List.set_cons_succ]))
  ((first | (refine wpHold_step (.agg (U .u64 (roundS t n))) ?_ ?_ ?_; focus (with_reducible rfl)) | (refine wpHold_yes (.agg (U .u64 (roundS t n))) ?_ ?_ ?_; focus rfl)); (focus (intro w hw; unfold Gives; go_simp; exact (round_any t n w htl htw hn24 (T hw) (by have := Lt hw; omega) (by have := Lt hw; omega)).mono fun e w' ⟨h1, h2⟩ => ⟨h1, hw.below h2 (Lt hw)⟩)); (try simp only [Act.put, List.setIfInBounds_toArray, List.set_cons_zero, List.set_cons_succ]))
  ((first | (refine wpHold_step ?_ ?_ ?_ ?_; rotate_left 1; focus (with_reducible rfl)) | (refine wpHold_yes ?_ ?_ ?_ ?_; rotate_left 1; focus rfl)); (focus (intro w hw; unfold Gives; go_simp; refine ⟨?_, hw⟩; with_reducible rfl)); (try simp only [Act.put, List.setIfInBounds_toArray, List.set_cons_zero, List.set_cons_succ]))
  ((first | (refine wpHold_step ?_ ?_ ?_ ?_; rotate_left 1; focus (with_reducible rfl)) | (refine wpHold_yes ?_ ?_ ?_ ?_; rotate_left 1; focus rfl)); (focus (intro w hw; unfold Gives; go_simp; refine ⟨?_, hw⟩; with_reducible rfl)); (try simp only [Act.put, List.setIfInBounds_toArray, List.set_cons_zero, List.set_cons_succ]))
  ((first | (refine wpHold_step ?_ ?_ ?_ ?_; rotate_left 1; focus (with_reducible rfl)) | (refine wpHold_yes ?_ ?_ ?_ ?_; rotate_left 1; focus rfl)); (focus (intro w hw; unfold Gives; go_simp; refine ⟨?_, hw⟩; with_reducible rfl)); (try simp only [Act.put, List.setIfInBounds_toArray, List.set_cons_zero, List.set_cons_succ]))
  ((first | (refine wpHold_step ?_ ?_ ?_ ?_; rotate_left 1; focus (with_reducible rfl)) | (refine wpHold_yes ?_ ?_ ?_ ?_; rotate_left 1; focus rfl)); (focus (intro w hw; unfold Gives; go_simp; refine ⟨?_, hw⟩; with_reducible rfl)); (try simp only [Act.put, List.setIfInBounds_toArray, List.set_cons_zero, List.set_cons_succ]))
  ((first | (refine wpHold_step (.agg (U .u64 (l))) ?_ ?_ ?_; focus (with_reducible rfl)) | (refine wpHold_yes (.agg (U .u64 (l))) ?_ ?_ ?_; focus rfl)); (focus (intro w hw; exact gives_load_arr hw 23 _ rfl rfl (hw.a) Tryd.underlying23 rfl 25 inf_a25 hl)); (try simp only [Act.put, List.setIfInBounds_toArray, List.set_cons_zero, List.set_cons_succ]))
  ((first | (refine wpHold_step (.agg (U .u64 (permute l))) ?_ ?_ ?_; focus (with_reducible rfl)) | (refine wpHold_yes (.agg (U .u64 (permute l))) ?_ ?_ ?_; focus rfl)); (focus (intro w hw; unfold Gives; go_simp; exact (permute_any l w hl hw0 (T hw) (T hw).zt (T hw).zr).mono fun e w' ⟨h1, h2⟩ => ⟨h1, hw.below h2 (Lt hw)⟩)); (try simp only [Act.put, List.setIfInBounds_toArray, List.set_cons_zero, List.set_cons_succ]))
  ((first | (refine wpHold_step (.agg (U .u64 (t))) ?_ ?_ ?_; focus (with_reducible rfl)) | (refine wpHold_yes (.agg (U .u64 (t))) ?_ ?_ ?_; focus rfl)); (focus (intro w hw; exact gives_load_arr hw 23 _ rfl rfl (hw.b) Tryd.underlying23 rfl 25 inf_a25 htl)); (try simp only [Act.put, List.setIfInBounds_toArray, List.set_cons_zero, List.set_cons_succ]))
  ((first | (refine wpHold_step (.agg (U .u64 (permute t))) ?_ ?_ ?_; focus (with_reducible rfl)) | (refine wpHold_yes (.agg (U .u64 (permute t))) ?_ ?_ ?_; focus rfl)); (focus (intro w hw; unfold Gives; go_simp; exact (permute_any t w htl htw (T hw) (T hw).zt (T hw).zr).mono fun e w' ⟨h1, h2⟩ => ⟨h1, hw.below h2 (Lt hw)⟩)); (try simp only [Act.put, List.setIfInBounds_toArray, List.set_cons_zero, List.set_cons_succ]))
  ((first | (refine wpHold_step ?_ ?_ ?_ ?_; rotate_left 1; focus (with_reducible rfl)) | (refine wpHold_yes ?_ ?_ ?_ ?_; rotate_left 1; focus rfl)); (focus (intro w hw; unfold Gives; go_simp; refine ⟨?_, hw⟩; with_reducible rfl)); (try simp only [Act.put, List.setIfInBounds_toArray, List.set_cons_zero, List.set_cons_succ]))
  ((first | (refine wpHold_step ?_ ?_ ?_ ?_; rotate_left 1; focus (with_reducible rfl)) | (refine wpHold_yes ?_ ?_ ?_ ?_; rotate_left 1; focus rfl)); (focus (intro w hw; unfold Gives; go_simp; refine ⟨?_, hw⟩; with_reducible rfl)); (try simp only [Act.put, List.setIfInBounds_toArray, List.set_cons_zero, List.set_cons_succ]))
  ((first | (refine wpHold_step ?_ ?_ ?_ ?_; rotate_left 1; focus (with_reducible rfl)) | (refine wpHold_yes ?_ ?_ ?_ ?_; rotate_left 1; focus rfl)); (focus (intro w hw; unfold Gives; go_simp; refine ⟨?_, hw⟩; with_reducible rfl)); (try simp only [Act.put, List.setIfInBounds_toArray, List.set_cons_zero, List.set_cons_succ]))
  ((first | (refine wpHold_step ?_ ?_ ?_ ?_; rotate_left 1; focus (with_reducible rfl)) | (refine wpHold_yes ?_ ?_ ?_ ?_; rotate_left 1; focus rfl)); (focus (intro w hw; unfold Gives; go_simp; refine ⟨?_, hw⟩; with_reducible rfl)); (try simp only [Act.put, List.setIfInBounds_toArray, List.set_cons_zero, List.set_cons_succ]))
  ((first | (refine wpHold_step ?_ ?_ ?_ ?_; rotate_left 1; focus (with_reducible rfl)) | (refine wpHold_yes ?_ ?_ ?_ ?_; rotate_left 1; focus rfl)); (focus (intro w hw; unfold Gives; go_simp; refine ⟨?_, hw⟩; with_reducible rfl)); (try simp only [Act.put, List.setIfInBounds_toArray, List.set_cons_zero, List.set_cons_succ]))
  refine wpHold_nil ?_
  intro w' hw'
  go_wp2_with fail
  go_ret
  exact ⟨rfl, hB'.out ▸ hw'.k.below⟩

end Go.Proofs.YtabpbnkipdjnlaaDoor
