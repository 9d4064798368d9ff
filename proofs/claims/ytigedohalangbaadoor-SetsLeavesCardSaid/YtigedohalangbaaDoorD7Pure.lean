/- Digits: what the code of layer 7 computes, in plain Lean. Conditions: none. -/
import Derived.Test.YtigedohalangbaaDoorRow
namespace Go.Proofs.YtigedohalangbaaDoor
open Go.RowKit
set_option linter.unusedVariables false
set_option linter.unusedSimpArgs false

def IsW (w : Nat) : Prop := w = 1 ∨ w = 2 ∨ w = 4 ∨ w = 8
/-- A byte's digit. -/
def dig (c : Int) (w j : Nat) : Int := c / 2 ^ (8 - w * (j + 1)) % 2 ^ w
/-- The digits of bytes. -/
def digL (b : List Int) (w : Nat) : List Int := (List.range (8 / w * b.length)).map fun k => dig (gt b (k / (8 / w))) w (k % (8 / w))
theorem digL_len (b : List Int) (w : Nat) : (digL b w).length = 8 / w * b.length := by simp [digL]
theorem gt_digL (b : List Int) (w k : Nat) (h : k < 8 / w * b.length) : gt (digL b w) k = dig (gt b (k / (8 / w))) w (k % (8 / w)) := by simp [digL, gt, h]
theorem dig_bd (c : Int) (w j : Nat) : 0 ≤ dig c w j ∧ dig c w j < 2 ^ w := by
  have h : (0 : Int) < 2 ^ w := Int.pow_pos (by decide)
  exact ⟨Int.emod_nonneg _ (by omega), Int.emod_lt_of_pos _ h⟩
/-- The digits that have come. -/
theorem digL_snoc (b : List Int) (w k : Nat) (h : k < 8 / w * b.length) : (digL b w).take k ++ [dig (gt b (k / (8 / w))) w (k % (8 / w))] = (digL b w).take (k + 1) := by
  rw [List.take_succ_eq_append_getElem (by rw [digL_len]; exact h)]
  congr 2
  simp [digL]
/-- A digit, bit by bit, as the document makes it. -/
def bitsOf (c : Int) (w j : Nat) : Nat → Int
  | 0 => 0
  | i + 1 => 2 * bitsOf c w j i + c / 2 ^ (7 - (w * j + i)) % 2
theorem bitsOf_dig : ∀ w, w = 1 ∨ w = 2 ∨ w = 4 ∨ w = 8 → ∀ j, j < 8 / w → ∀ c : Nat, c < 256 → bitsOf c w j w = dig c w j := by
  intro w hw
  rcases hw with rfl | rfl | rfl | rfl <;> decide +kernel
/-- The bytes again. -/
def back (c : Int) (w : Nat) : Nat → Int
  | 0 => 0
  | k + 1 => back c w k * 2 ^ w + dig c w k
theorem back_all : ∀ w, w = 1 ∨ w = 2 ∨ w = 4 ∨ w = 8 → ∀ c : Nat, c < 256 → back c w (8 / w) = c := by
  intro w hw
  rcases hw with rfl | rfl | rfl | rfl <;> decide +kernel
def lackN (l : List Int) (w : Nat) : Nat → Int
  | 0 => 0
  | k + 1 => lackN l w k + (2 ^ w - 1 - gt l k)
/-- A number by its digits. -/
def valN (l : List Int) (w : Nat) : Nat → Int
  | 0 => 0
  | k + 1 => valN l w k * 2 ^ w + gt l k
theorem valN_mono (l m : List Int) (w : Nat) : ∀ k, (∀ i, i < k → gt l i ≤ gt m i) → valN l w k ≤ valN m w k
  | 0, _ => Int.le_refl _
  | k + 1, h => by
    have h1 := valN_mono l m w k (fun i hi => h i (by omega))
    have h2 := h k (by omega)
    have h3 : (0 : Int) < 2 ^ w := Int.pow_pos (by decide)
    have h4 := Int.mul_le_mul_of_nonneg_right h1 (Int.le_of_lt h3)
    simp only [valN]; omega
theorem lackN_mono (l m : List Int) (w : Nat) : ∀ k, (∀ i, i < k → gt l i ≤ gt m i) → lackN m w k ≤ lackN l w k
  | 0, _ => Int.le_refl _
  | k + 1, h => by
    have h1 := lackN_mono l m w k (fun i hi => h i (by omega))
    have h2 := h k (by omega)
    simp only [lackN]; omega
theorem lackN_lt (l m : List Int) (w : Nat) : ∀ k, (∀ i, i < k → gt l i ≤ gt m i) → (∃ i, i < k ∧ gt l i < gt m i) → lackN m w k < lackN l w k
  | 0, _, h => by obtain ⟨i, hi, _⟩ := h; omega
  | k + 1, h, he => by
    obtain ⟨i, hi, hlt⟩ := he
    have h2 := h k (by omega)
    by_cases hik : i = k
    · subst hik
      have h1 := lackN_mono l m w i (fun i hi => h i (by omega))
      simp only [lackN]; omega
    · have h1 := lackN_lt l m w k (fun i hi => h i (by omega)) ⟨i, by omega, hlt⟩
      simp only [lackN]; omega

end Go.Proofs.YtigedohalangbaaDoor
