/- Digits: of two unlike rows one digit is less and one is more. Conditions: none. -/
import Derived.Test.YtigedohalangbaaDoorD7Pure
import Derived.Test.YtigedohalangbaaDoorOct
namespace Go.Proofs.YtigedohalangbaaDoor
open Go.RowKit
set_option linter.unusedVariables false
set_option linter.unusedSimpArgs false

/-- The digits of two bytes that a number is. -/
theorem dig_put (N : Int) (h0 : 0 ≤ N) (h1 : N < 65536) : ∀ w, w = 1 ∨ w = 2 ∨ w = 4 ∨ w = 8 → ∀ k, k < 8 / w * 2 → gt (digL (putL N 2) w) k = N / 2 ^ (16 - w * (k + 1)) % 2 ^ w := by
  intro w hw k hk
  rw [gt_digL _ _ _ (by rw [putL_len]; exact hk), gt_putL _ _ _ (by rcases hw with rfl | rfl | rfl | rfl <;> omega)]
  unfold dig
  have hk16 : k < 16 := by rcases hw with rfl | rfl | rfl | rfl <;> omega
  rcases hw with rfl | rfl | rfl | rfl
  all_goals
    have : k = 0 ∨ k = 1 ∨ k = 2 ∨ k = 3 ∨ k = 4 ∨ k = 5 ∨ k = 6 ∨ k = 7 ∨ k = 8 ∨ k = 9 ∨ k = 10 ∨ k = 11 ∨ k = 12 ∨ k = 13 ∨ k = 14 ∨ k = 15 := by omega
    rcases this with rfl | rfl | rfl | rfl | rfl | rfl | rfl | rfl | rfl | rfl | rfl | rfl | rfl | rfl | rfl | rfl <;> first | omega | (simp; done) | (simp; omega)
theorem val_step (N : Int) (a w : Nat) : N / 2 ^ (a + w) * 2 ^ w + N / 2 ^ a % 2 ^ w = N / 2 ^ a := by
  have h : (N / 2 ^ a) / 2 ^ w = N / 2 ^ (a + w) := by rw [Int.pow_add, Int.ediv_ediv_of_nonneg (Int.le_of_lt (Int.pow_pos (by decide)))]
  have := Int.mul_ediv_add_emod (N / 2 ^ a) (2 ^ w)
  rw [h, Int.mul_comm] at this
  exact this
theorem val_put (N : Int) (h0 : 0 ≤ N) (h1 : N < 65536) (w : Nat) (hw : w = 1 ∨ w = 2 ∨ w = 4 ∨ w = 8) : ∀ k, k ≤ 8 / w * 2 → valN (digL (putL N 2) w) w k = N / 2 ^ (16 - w * k)
  | 0, _ => by
    simp only [valN, Nat.mul_zero, Nat.sub_zero]
    have : (2 : Int) ^ 16 = 65536 := by decide
    rw [this]; omega
  | k + 1, hk => by
    rw [valN, val_put N h0 h1 w hw k (by omega), dig_put N h0 h1 w hw k (by omega)]
    have e : 16 - w * k = 16 - w * (k + 1) + w := by rcases hw with rfl | rfl | rfl | rfl <;> omega
    rw [e]
    exact val_step N _ w
def lackOf (b : List Int) (w : Nat) : Int := lackN (digL b w) w (8 / w * b.length)
def lackD (b : List Int) (w s : Nat) : List Int := digL (putL (lackOf b w * 2 ^ s) 2) w
def allL (b : List Int) (w v s : Nat) : List Int := digL b w ++ (lackD b w s).take v
theorem lackN_nn (l : List Int) (w : Nat) (h : ∀ i, gt l i < 2 ^ w) : ∀ k, 0 ≤ lackN l w k
  | 0 => Int.le_refl _
  | k + 1 => by have := lackN_nn l w h k; have := h k; simp only [lackN]; omega
theorem digL_lt (b : List Int) (w i : Nat) : gt (digL b w) i < 2 ^ w := by
  have h : (0 : Int) < 2 ^ w := Int.pow_pos (by decide)
  by_cases hi : i < 8 / w * b.length
  · rw [gt_digL _ _ _ hi]; exact (dig_bd _ _ _).2
  · have : gt (digL b w) i = 0 := by
      have : (digL b w).length ≤ i := by rw [digL_len]; omega
      simp [gt, List.getD_eq_getElem?_getD, List.getElem?_eq_none this]
    omega
theorem lackOf_nn (b : List Int) (w : Nat) : 0 ≤ lackOf b w := lackN_nn _ _ (digL_lt b w) _
theorem lackD_val (b : List Int) (w v s : Nat) (hw : w = 1 ∨ w = 2 ∨ w = 4 ∨ w = 8) (hv : w * v + s = 16) (hL : lackOf b w * 2 ^ s < 65536) : valN (lackD b w s) w v = lackOf b w := by
  have hp : (0 : Int) < 2 ^ s := Int.pow_pos (by decide)
  rw [lackD, val_put _ (Int.mul_nonneg (lackOf_nn b w) (Int.le_of_lt hp)) hL w hw v (by rcases hw with rfl | rfl | rfl | rfl <;> omega), show 16 - w * v = s by omega, Int.mul_ediv_cancel _ (Int.ne_of_gt hp)]
theorem back_congr (c d : Int) (w : Nat) : ∀ k, (∀ j, j < k → dig c w j = dig d w j) → back c w k = back d w k
  | 0, _ => rfl
  | k + 1, h => by rw [back, back, back_congr c d w k (fun j hj => h j (by omega)), h k (by omega)]
theorem dig_inj (c d : Int) (hc : B8 c) (hd : B8 d) (w : Nat) (hw : w = 1 ∨ w = 2 ∨ w = 4 ∨ w = 8) (h : ∀ j, j < 8 / w → dig c w j = dig d w j) : c = d := by
  obtain ⟨c1, rfl⟩ : ∃ n : Nat, c = n := ⟨c.toNat, by have := hc.1; omega⟩
  obtain ⟨d1, rfl⟩ : ∃ n : Nat, d = n := ⟨d.toNat, by have := hd.1; omega⟩
  rw [← back_all w hw c1 (by have := hc.2; omega), ← back_all w hw d1 (by have := hd.2; omega), back_congr _ _ w _ h]
theorem digL_inj (a b : List Int) (hl : a.length = b.length) (ha : Bys a) (hb : Bys b) (w : Nat) (hw : w = 1 ∨ w = 2 ∨ w = 4 ∨ w = 8) (h : ∀ i, i < 8 / w * a.length → gt (digL a w) i = gt (digL b w) i) : a = b := by
  apply ext_gt _ _ hl
  intro i hi
  refine dig_inj _ _ (ha.gt i) (hb.gt i) w hw fun j hj => ?_
  have hk : 8 / w * i + j < 8 / w * a.length := by
    have : 8 / w * (i + 1) ≤ 8 / w * a.length := Nat.mul_le_mul_left _ hi
    rw [Nat.mul_succ] at this; omega
  have e := h _ hk
  have hp : 0 < 8 / w := by omega
  rw [gt_digL _ _ _ hk, gt_digL _ _ _ (by rw [← hl]; exact hk)] at e
  have e1 : (8 / w * i + j) / (8 / w) = i := by rw [Nat.mul_add_div hp, Nat.div_eq_of_lt hj, Nat.add_zero]
  have e2 : (8 / w * i + j) % (8 / w) = j := by rw [Nat.mul_add_mod, Nat.mod_eq_of_lt hj]
  rwa [e1, e2] at e
theorem oneway (a b : List Int) (hl : a.length = b.length) (ha : Bys a) (hb : Bys b) (w v s : Nat) (hw : w = 1 ∨ w = 2 ∨ w = 4 ∨ w = 8) (hv : w * v + s = 16) (hLa : lackOf a w * 2 ^ s < 65536) (hLb : lackOf b w * 2 ^ s < 65536)
    (hne : a ≠ b) (hle : ∀ i, i < 8 / w * a.length → gt (digL a w) i ≤ gt (digL b w) i) :
    (∃ i, i < 8 / w * a.length ∧ gt (digL a w) i < gt (digL b w) i) ∧ ∃ j, j < v ∧ gt (lackD b w s) j < gt (lackD a w s) j := by
  have h1 : ∃ i, i < 8 / w * a.length ∧ gt (digL a w) i < gt (digL b w) i := Classical.byContradiction fun hno => hne (digL_inj a b hl ha hb w hw fun i hi => by
    have := hle i hi
    have : ¬ gt (digL a w) i < gt (digL b w) i := fun h => hno ⟨i, hi, h⟩
    omega)
  refine ⟨h1, Classical.byContradiction fun hno => ?_⟩
  have hlt := lackN_lt (digL a w) (digL b w) w _ hle h1
  have hle2 := valN_mono (lackD a w s) (lackD b w s) w v fun j hj => by
    have : ¬ gt (lackD b w s) j < gt (lackD a w s) j := fun h => hno ⟨j, hj, h⟩
    omega
  rw [lackD_val a w v s hw hv hLa, lackD_val b w v s hw hv hLb] at hle2
  unfold lackOf at hle2
  rw [← hl] at hle2
  omega
theorem lackD_len (b : List Int) (w s : Nat) : (lackD b w s).length = 8 / w * 2 := by rw [lackD, digL_len, putL_len]
theorem gt_allL (b : List Int) (w v s i : Nat) (hi : i < 8 / w * b.length) : gt (allL b w v s) i = gt (digL b w) i := by
  have h : i < (digL b w).length := by rw [digL_len]; exact hi
  simp [allL, gt, List.getD_eq_getElem?_getD, List.getElem?_append_left h]
theorem gt_allL2 (b : List Int) (w v s j : Nat) (hj : j < v) : gt (allL b w v s) (8 / w * b.length + j) = gt (lackD b w s) j := by
  simp [allL, gt, List.getD_eq_getElem?_getD, List.getElem?_append_right, digL_len, List.getElem?_take, hj]
theorem allL_len (b : List Int) (w v s : Nat) (hv : v ≤ 8 / w * 2) : (allL b w v s).length = 8 / w * b.length + v := by
  rw [allL, List.length_append, digL_len, List.length_take, lackD_len, Nat.min_eq_left hv]
theorem both7 (a b : List Int) (hl : a.length = b.length) (ha : Bys a) (hb : Bys b) (w v s : Nat) (hw : w = 1 ∨ w = 2 ∨ w = 4 ∨ w = 8) (hv : w * v + s = 16) (hLa : lackOf a w * 2 ^ s < 65536) (hLb : lackOf b w * 2 ^ s < 65536) (hne : a ≠ b) :
    (∃ i, i < 8 / w * a.length + v ∧ gt (allL a w v s) i < gt (allL b w v s) i) ∧ ∃ i, i < 8 / w * a.length + v ∧ gt (allL b w v s) i < gt (allL a w v s) i := by
  by_cases h1 : ∃ i, i < 8 / w * a.length ∧ gt (digL a w) i < gt (digL b w) i
  · obtain ⟨i, hi, h1⟩ := h1
    refine ⟨⟨i, by omega, by rw [gt_allL _ _ _ _ _ hi, gt_allL _ _ _ _ _ (hl ▸ hi)]; exact h1⟩, ?_⟩
    by_cases h2 : ∃ i, i < 8 / w * a.length ∧ gt (digL b w) i < gt (digL a w) i
    · obtain ⟨k, hk, h2⟩ := h2
      exact ⟨k, by omega, by rw [gt_allL _ _ _ _ _ hk, gt_allL _ _ _ _ _ (hl ▸ hk)]; exact h2⟩
    · obtain ⟨_, j, hj, h3⟩ := oneway a b hl ha hb w v s hw hv hLa hLb hne fun k hk => by
        have : ¬ gt (digL b w) k < gt (digL a w) k := fun h => h2 ⟨k, hk, h⟩
        omega
      refine ⟨8 / w * a.length + j, by omega, ?_⟩
      rw [gt_allL2 a w v s j hj, hl, gt_allL2 b w v s j hj]; exact h3
  · obtain ⟨⟨i, hi, h4⟩, j, hj, h3⟩ := oneway b a hl.symm hb ha w v s hw hv hLb hLa (fun h => hne h.symm) fun k hk => by
      have : ¬ gt (digL a w) k < gt (digL b w) k := fun h => h1 ⟨k, by rw [hl]; exact hk, h⟩
      omega
    refine ⟨⟨8 / w * a.length + j, by omega, ?_⟩, i, by rw [hl]; omega, ?_⟩
    · rw [gt_allL2 a w v s j hj, hl, gt_allL2 b w v s j hj]; exact h3
    · rw [gt_allL _ _ _ _ _ hi, gt_allL _ _ _ _ _ (hl ▸ hi)]; exact h4

end Go.Proofs.YtigedohalangbaaDoor
