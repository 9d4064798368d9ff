/- Layer 17: what is told stands for the whole, as rows. Conditions: none. -/
import Derived.Test.YtfaonieaagepjaaDoorF7P
namespace Go.Proofs.YtfaonieaagepjaaDoor
open Go.RowKit
set_option linter.unusedVariables false
set_option linter.unusedSimpArgs false
theorem row_left (l m : List Int) (n k : Nat) (h : (k + 1) * n ≤ l.length) : row (l ++ m) n k = row l n k := by
  unfold row
  rw [List.take_append_of_le_length h]
theorem row_end (l m : List Int) (n k : Nat) (hl : l.length = k * n) (hm : m.length = n) : row (l ++ m) n k = m := by
  unfold row
  rw [List.take_of_length_le (by rw [List.length_append, hl, hm, Nat.succ_mul]; exact Nat.le_refl _), ← hl, List.drop_left]
theorem idx_top (b : List Int) (a k : Nat) : idx b a k / 2 ^ a = k := by
  unfold idx
  have h := dgN_lt b (k * a) a
  rw [Nat.mul_comm, Nat.mul_add_div (Nat.two_pow_pos a), Nat.div_eq_of_lt h, Nat.add_zero]
section
variable {N : Int} {sd : List Int} (hsz : Szd N sd) (sec : List Int) (tree q : Int)
include hsz
theorem row_tell (b : List Int) (a : Nat) : ∀ K k, k < K → row (tellS N sd sec tree q b a K) ((a + 1) * sd.length) k = atL N sd tree q 6 0 (idx b a k) sec ++ pathL N sd sec tree q (idx b a k) a
  | K + 1, k, h => by
    have hlen : (tellS N sd sec tree q b a K).length = K * ((a + 1) * sd.length) := by rw [tellS_len hsz]; simp [Nat.mul_comm, Nat.mul_left_comm]
    rw [tellS]
    rcases Nat.lt_or_ge k K with h1 | h1
    · rw [row_left _ _ _ _ (by rw [hlen]; exact Nat.mul_le_mul_right _ h1)]
      exact row_tell b a K k h1
    · obtain rfl : k = K := by omega
      exact row_end _ _ _ _ hlen (by rw [List.length_append, atL_nd hsz, pathL_len hsz, Nat.add_mul, Nat.one_mul, Nat.mul_comm, Nat.add_comm])
theorem row_path (T0 : List Int) (hT : T0.length = sd.length) (i a : Nat) : ∀ g, g < a → row (T0 ++ pathL N sd sec tree q i a) sd.length (g + 1) = sumT N sd sec tree q g ((nei (i / 2 ^ g) : Nat) : Int) := by
  induction a with
  | zero => intro g hg; omega
  | succ a ih =>
    intro g hg
    have hlen : (T0 ++ pathL N sd sec tree q i a).length = (a + 1) * sd.length := by rw [List.length_append, hT, pathL_len hsz, Nat.add_mul, Nat.one_mul, Nat.mul_comm, Nat.add_comm]
    rw [pathL, ← List.append_assoc]
    rcases Nat.lt_or_ge g a with h1 | h1
    · rw [row_left _ _ _ _ (by rw [hlen]; exact Nat.mul_le_mul_right _ (by omega))]
      exact ih g h1
    · obtain rfl : g = a := by omega
      exact row_end _ _ _ _ hlen (sumT_nd hsz _ _ _ _ _)
theorem climb_sum (i a : Nat) (hi : i < 4294967296) : ∀ g, g ≤ a → climbL N sd tree q (atL N sd tree q 6 0 i sec ++ pathL N sd sec tree q i a) sd.length i g = sumT N sd sec tree q g ((i / 2 ^ g : Nat) : Int)
  | 0, _ => by
    rw [climbL, Nat.pow_zero, Nat.div_one, sumT]
    congr 1
    unfold row
    rw [Nat.zero_mul, List.drop_zero, Nat.zero_add, Nat.one_mul]
    exact List.take_left' (atL_nd hsz _ _ _ _ _ _)
  | g + 1, hg => by
    have ih := climb_sum i a hi g (by omega)
    rw [climbL, row_path hsz sec tree q _ (atL_nd hsz _ _ _ _ _ _) i a g (by omega), ih, sumT]
    obtain ⟨y, hy⟩ : ∃ y, i / 2 ^ g = y := ⟨_, rfl⟩
    have hy2 : i / 2 ^ (g + 1) = y / 2 := by rw [← half_again, hy]
    have hyb : y ≤ i := by rw [← hy]; exact Nat.div_le_self _ _
    have e2 : (i : Int) / 2 ^ (g + 1) = ((y / 2 : Nat) : Int) := by rw [← hy2]; push_cast; rfl
    rw [hy, hy2, e2]
    have e3 : ((g + 1 : Nat) : Int) = (g : Int) + 1 := by push_cast; rfl
    rw [e3]
    congr 1
    by_cases h : y % 2 = 1
    · rw [if_pos h]
      have h1 : nei y = y - 1 := by unfold nei; rw [if_pos h]
      rw [h1, show 2 * ((y / 2 : Nat) : Int) % 4294967296 = ((y - 1 : Nat) : Int) by omega, show (((y - 1 : Nat) : Int) + 1) % 4294967296 = (y : Int) by omega]
    · rw [if_neg h]
      have h1 : nei y = y + 1 := by unfold nei; rw [if_neg h]
      rw [h1, show 2 * ((y / 2 : Nat) : Int) % 4294967296 = (y : Int) by omega, show ((y : Int) + 1) % 4294967296 = ((y + 1 : Nat) : Int) by omega]
theorem stands_sums (b : List Int) (a K : Nat) (ha : a ≤ 14) (hK : K ≤ 40) : ∀ k, k ≤ K → standsS N sd tree q (tellS N sd sec tree q b a K) b sd.length a k = sumsL N sd sec tree q a k
  | 0, _ => rfl
  | k + 1, h => by
    rw [standsS, sumsL, stands_sums b a K ha hK k (by omega), row_tell hsz sec tree q b a K k (by omega), climb_sum hsz sec tree q _ a (by have := idx_lt b a k ha (by omega); omega) a (Nat.le_refl _), idx_top b a k]
/-- What is told stands for the whole. -/
theorem stands_whole (b : List Int) (a K : Nat) (ha : a ≤ 14) (hK : K ≤ 40) : standsL N sd tree q (tellS N sd sec tree q b a K) b sd.length a K = wholeL N sd sec tree q a K := by
  unfold standsL wholeL
  rw [stands_sums hsz sec tree q b a K ha hK K (Nat.le_refl _)]
end
end Go.Proofs.YtfaonieaagepjaaDoor
