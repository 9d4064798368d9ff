/- Digits: the shape, in plain Lean. Conditions: none. -/
import Derived.Test.YtigedohalangbaaDoorD7Both
namespace Go.Proofs.YtigedohalangbaaDoor
open Go.RowKit
set_option linter.unusedVariables false

/-- How many digits tell what all lack: the bits of the greatest lack, in digits. -/
def bitLen : Nat → Nat → Nat
  | 0, _ => 0
  | f + 1, x => if x = 0 then 0 else bitLen f (x / 2) + 1
def uOf (n w : Nat) : Nat := 8 * n / w
def vOf (n w : Nat) : Nat := (bitLen 20 ((2 ^ w - 1) * uOf n w) + w - 1) / w
theorem shape_ok : ∀ w, w = 1 ∨ w = 2 ∨ w = 4 ∨ w = 8 → ∀ n, n ≤ 64 → 1 ≤ n → uOf n w = 8 / w * n ∧ 1 ≤ vOf n w ∧ w * vOf n w ≤ 16 ∧ (2 ^ w - 1) * uOf n w < 2 ^ (w * vOf n w) ∧ (1 < vOf n w → 2 ^ (w * (vOf n w - 1)) ≤ (2 ^ w - 1) * uOf n w) := by
  intro w hw n hn h1
  have h : ∀ w, w = 1 ∨ w = 2 ∨ w = 4 ∨ w = 8 → ∀ n, n < 65 → 1 ≤ n → uOf n w = 8 / w * n ∧ 1 ≤ vOf n w ∧ w * vOf n w ≤ 16 ∧ (2 ^ w - 1) * uOf n w < 2 ^ (w * vOf n w) ∧ (1 < vOf n w → 2 ^ (w * (vOf n w - 1)) ≤ (2 ^ w - 1) * uOf n w) := by
    intro w hw
    rcases hw with rfl | rfl | rfl | rfl <;> decide +kernel
  exact h w hw n (by omega) h1
theorem digL_nn (b : List Int) (w i : Nat) : 0 ≤ gt (digL b w) i := by
  by_cases hi : i < 8 / w * b.length
  · rw [gt_digL _ _ _ hi]; exact (dig_bd _ _ _).1
  · have : (digL b w).length ≤ i := by rw [digL_len]; omega
    simp [gt, List.getD_eq_getElem?_getD, List.getElem?_eq_none this]
theorem lackN_le (l : List Int) (w : Nat) (h : ∀ i, 0 ≤ gt l i) : ∀ k : Nat, lackN l w k ≤ k * (2 ^ w - 1)
  | 0 => by simp [lackN]
  | k + 1 => by
    have h1 := lackN_le l w h k
    have h2 := h k
    have e : ((k + 1 : Nat) : Int) * (2 ^ w - 1) = (k : Int) * (2 ^ w - 1) + (2 ^ w - 1) := by rw [Int.natCast_add, Int.add_mul]; simp
    rw [e, lackN]
    omega
theorem lackOf_lt (b : List Int) (w : Nat) (hw : w = 1 ∨ w = 2 ∨ w = 4 ∨ w = 8) (h1 : 1 ≤ b.length) (h2 : b.length ≤ 64) (s : Nat) (hs : w * vOf b.length w + s = 16) : lackOf b w * 2 ^ s < 65536 := by
  have h := lackN_le (digL b w) w (digL_nn b w) (8 / w * b.length)
  obtain ⟨hu, _, _, hlt, _⟩ := shape_ok w hw b.length h2 h1
  have hp : (0 : Int) < 2 ^ s := Int.pow_pos (by decide)
  have h3 : lackOf b w < 2 ^ (w * vOf b.length w) := by
    have e : (((8 / w * b.length : Nat) : Int) * (2 ^ w - 1)) = (((2 ^ w - 1) * uOf b.length w : Nat) : Int) := by
      rw [hu]
      have e2 : ((2 ^ w - 1 : Nat) : Int) = (2 : Int) ^ w - 1 := by rcases hw with rfl | rfl | rfl | rfl <;> decide
      rw [Int.natCast_mul (2 ^ w - 1), e2, Int.mul_comm]
    have h4 : (((2 ^ w - 1) * uOf b.length w : Nat) : Int) < ((2 ^ (w * vOf b.length w) : Nat) : Int) := Int.ofNat_lt.2 hlt
    rw [show ((2 ^ (w * vOf b.length w) : Nat) : Int) = (2 : Int) ^ (w * vOf b.length w) from Int.natCast_pow 2 _] at h4
    unfold lackOf
    omega
  have h5 := Int.mul_lt_mul_of_pos_right h3 hp
  rw [← Int.pow_add, hs] at h5
  exact h5

end Go.Proofs.YtigedohalangbaaDoor
