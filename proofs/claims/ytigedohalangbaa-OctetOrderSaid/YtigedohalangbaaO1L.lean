/- How numbers of eight bytes stand: the first byte that differs tells. -/
import Derived.Test.YtigedohalangbaaO1K
namespace Go.Proofs.Ytigedohalangbaa
open Go.RowKit
set_option linter.unusedVariables false
set_option linter.unusedSimpArgs false

/-- Whether the row l, from its place i on (n of them), stands below m: the first place that differs tells. -/
def lessF (l m : List Int) : Nat → Nat → Bool
  | _, 0 => false
  | i, n + 1 => if gt l i ≠ gt m i then decide (gt l i < gt m i) else lessF l m (i + 1) n
/-- The number of the bytes from place i on, n of them. -/
def beF (l : List Int) : Nat → Nat → Int
  | _, 0 => 0
  | i, n + 1 => gt l i * 256 ^ n + beF l (i + 1) n
theorem beF_bd {l : List Int} (hl : Bys l) : ∀ n i, 0 ≤ beF l i n ∧ beF l i n < 256 ^ n
  | 0, i => by simp [beF]
  | n + 1, i => by
    obtain ⟨h1, h2⟩ := beF_bd hl n (i + 1)
    have hg := hl.gt i
    have hg1 := hg.1; have hg2 := hg.2
    unfold beF
    obtain ⟨D, hD⟩ : ∃ D : Int, 256 ^ n = D := ⟨_, rfl⟩
    rw [Int.pow_succ, hD]
    rw [hD] at h2
    have h3 : gt l i * D ≤ 255 * D := Int.mul_le_mul_of_nonneg_right (by omega) (by omega)
    have h4 : 0 ≤ gt l i * D := Int.mul_nonneg hg1 (by omega)
    omega
theorem beF_snoc (l : List Int) : ∀ n i, beF l i (n + 1) = beF l i n * 256 + gt l (i + n)
  | 0, i => by simp [beF]
  | n + 1, i => by
    rw [beF, beF_snoc l n (i + 1), beF, Int.pow_succ, Int.add_mul, Int.mul_assoc, show i + 1 + n = i + (n + 1) by omega]
    omega
theorem beN_beF (l : List Int) : ∀ n, beN l n = beF l 0 n
  | 0 => rfl
  | n + 1 => by rw [beF_snoc, beN_snoc, beN_beF l n, Nat.zero_add]
theorem lessF_be {l m : List Int} (hl : Bys l) (hm : Bys m) : ∀ n i, lessF l m i n = decide (beF l i n < beF m i n)
  | 0, i => by simp [lessF, beF]
  | n + 1, i => by
    unfold lessF beF
    obtain ⟨a1, a2⟩ := beF_bd hl n (i + 1)
    obtain ⟨b1, b2⟩ := beF_bd hm n (i + 1)
    have ih := lessF_be hl hm n (i + 1)
    rw [ih]
    generalize beF l (i + 1) n = p at *
    generalize beF m (i + 1) n = q at *
    generalize (256 : Int) ^ n = D at *
    generalize gt l i = x at *
    generalize gt m i = y at *
    by_cases h : x = y
    · subst h; simp
    · rw [if_pos h]
      rcases Int.lt_or_gt_of_ne h with h | h
      · have : (x + 1) * D ≤ y * D := Int.mul_le_mul_of_nonneg_right (by omega) (by omega)
        rw [Int.add_mul] at this
        rw [decide_eq_true h, eq_comm, decide_eq_true_eq]
        omega
      · have : (y + 1) * D ≤ x * D := Int.mul_le_mul_of_nonneg_right (by omega) (by omega)
        rw [Int.add_mul] at this
        have hx : ¬ x < y := by omega
        rw [decide_eq_false hx, eq_comm, decide_eq_false_iff_not]
        omega
theorem lessF_put (a b : Int) (ha : 0 ≤ a) (ha1 : a < 18446744073709551616) (hb : 0 ≤ b) (hb1 : b < 18446744073709551616) : lessF (putL a 8) (putL b 8) 0 8 = decide (a < b) := by
  rw [lessF_be (putL_B _ _) (putL_B _ _), ← beN_beF, ← beN_beF, beN_putL a ha, beN_putL b hb]
  have e64 : (2 : Int) ^ (8 * 8) = 18446744073709551616 := by decide
  rw [e64, Int.emod_eq_of_lt ha ha1, Int.emod_eq_of_lt hb hb1]
/-- The last k bytes of eight are the number in k bytes. -/
theorem putL_drop (v : Int) (k : Nat) (hk : k ≤ 8) : (putL v 8).drop (8 - k) = putL v k := by
  apply ext_gt _ _ (by simp [putL_len]; omega)
  intro j hj
  rw [List.length_drop, putL_len] at hj
  rw [gt_drop, gt_putL _ _ _ (by omega), gt_putL _ _ _ (by omega)]
  congr 3; omega
end Go.Proofs.Ytigedohalangbaa
