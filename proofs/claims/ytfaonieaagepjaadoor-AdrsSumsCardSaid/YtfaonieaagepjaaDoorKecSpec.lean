import Derived.Test.YtfaonieaagepjaaDoorZA
namespace Go.Proofs.YtfaonieaagepjaaDoor
open Go.RowKit

/-! ### What the program's rounds compute, as the code goes -/
def rcL : List Int := [1, 32898, 9223372036854808714, 9223372039002292224, 32907, 2147483649, 9223372039002292353, 9223372036854808585, 138, 136, 2147516425, 2147483658, 2147516555, 9223372036854775947, 9223372036854808713, 9223372036854808579, 9223372036854808578, 9223372036854775936, 32778, 9223372039002259466, 9223372039002292353, 9223372036854808704, 2147483649, 9223372039002292232]
def turnsL : List Int := [0, 1, 62, 28, 27, 36, 44, 6, 55, 20, 3, 10, 43, 25, 39, 41, 45, 15, 21, 8, 18, 2, 61, 56, 14]
theorem turns_range (i : Nat) : 0 ≤ gt turnsL i ∧ gt turnsL i < 64 := by
  by_cases h : i < 25
  · have : ∀ i : Fin 25, 0 ≤ gt turnsL i ∧ gt turnsL i < 64 := by decide
    exact this ⟨i, h⟩
  · rw [show gt turnsL i = 0 by unfold gt turnsL; rw [List.getD_eq_getElem?_getD, List.getElem?_eq_none (by simp; omega)]; rfl]
    decide
theorem rcL_W : Ws rcL := by
  have h : ∀ x ∈ rcL, 0 ≤ x ∧ x < 18446744073709551616 := by decide
  exact h
def thC (l : List Int) : Nat → List Int
  | 0 => [0, 0, 0, 0, 0]
  | k + 1 => st (thC l k) (k % 5) (bits .xor .u64 (gt (thC l k) (k % 5)) (gt l k))
theorem thC_len (l : List Int) (k : Nat) : (thC l k).length = 5 := by
  induction k with
  | zero => rfl
  | succ k ih => simp [thC, st, ih]
theorem thC_W (l : List Int) (k : Nat) : Ws (thC l k) := by
  induction k with
  | zero => exact Ws.zeros 5
  | succ k ih => exact ih.st _ (W64_xor _ _)
def thA (c : List Int) (l : List Int) : Nat → List Int
  | 0 => l
  | k + 1 => st (thA c l k) k (bits .xor .u64 (gt (thA c l k) k) (bits .xor .u64 (gt c ((k % 5 + 4) % 5)) (rotl (gt c ((k % 5 + 1) % 5)) 1)))
theorem thA_len (c l : List Int) (k : Nat) : (thA c l k).length = l.length := by
  induction k with
  | zero => rfl
  | succ k ih => simp [thA, st, ih]
theorem thA_W (c l : List Int) (h : Ws l) (k : Nat) : Ws (thA c l k) := by
  induction k with
  | zero => exact h
  | succ k ih => exact ih.st _ (W64_xor _ _)
def theta (l : List Int) : List Int := thA (thC l 25) l 25
theorem theta_len (l : List Int) : (theta l).length = l.length := thA_len _ _ _
theorem theta_W {l : List Int} (h : Ws l) : Ws (theta l) := thA_W _ _ h _
/-- rho and pi. -/
def rhoB (l : List Int) : Nat → List Int
  | 0 => List.replicate 25 0
  | k + 1 => st (rhoB l k) (k / 5 + 5 * ((2 * (k % 5) + 3 * (k / 5)) % 5)) (rotl (gt l k) (gt turnsL k).toNat)
theorem rhoB_len (l : List Int) (k : Nat) : (rhoB l k).length = 25 := by
  induction k with
  | zero => rfl
  | succ k ih => simp [rhoB, st, ih]
theorem rhoB_W (l : List Int) (k : Nat) : Ws (rhoB l k) := by
  induction k with
  | zero => exact Ws.zeros 25
  | succ k ih => exact ih.st _ (W64_rotl _ _)
def not64 (x : Int) : Int := bits .xor .u64 (if IntKind.u64.signed = true then -1 else IntKind.u64.max) x
/-- chi. -/
def chiA (b l : List Int) : Nat → List Int
  | 0 => l
  | k + 1 => st (chiA b l k) k (bits .xor .u64 (gt b k) (bits .and .u64 (not64 (gt b (k / 5 * 5 + (k % 5 + 1) % 5))) (gt b (k / 5 * 5 + (k % 5 + 2) % 5))))
theorem chiA_len (b l : List Int) (k : Nat) : (chiA b l k).length = l.length := by
  induction k with
  | zero => rfl
  | succ k ih => simp [chiA, st, ih]
theorem chiA_W (b l : List Int) (h : Ws l) (k : Nat) : Ws (chiA b l k) := by
  induction k with
  | zero => exact h
  | succ k ih => exact ih.st _ (W64_xor _ _)
def roundS (l : List Int) (i : Nat) : List Int :=
  st (chiA (rhoB (theta l) 25) (theta l) 25) 0 (bits .xor .u64 (gt (chiA (rhoB (theta l) 25) (theta l) 25) 0) (gt rcL i))
theorem roundS_len (l : List Int) (i : Nat) : (roundS l i).length = l.length := by
  simp [roundS, st_len, chiA_len, theta_len]
theorem roundS_W {l : List Int} (h : Ws l) (i : Nat) : Ws (roundS l i) := (chiA_W _ _ (theta_W h) _).st _ (W64_xor _ _)
/-- A round, of any number. -/
def roundI (l : List Int) (i : Int) : List Int := if 0 ≤ i ∧ i < 24 then roundS l i.toNat else l
theorem roundI_len (l : List Int) (i : Int) : (roundI l i).length = l.length := by unfold roundI; split; exact roundS_len _ _; rfl
theorem roundI_W {l : List Int} (h : Ws l) (i : Int) : Ws (roundI l i) := by unfold roundI; split; exact roundS_W h _; exact h
def permN (l : List Int) : Nat → List Int
  | 0 => l
  | k + 1 => roundS (permN l k) k
theorem permN_len (l : List Int) (k : Nat) : (permN l k).length = l.length := by
  induction k with
  | zero => rfl
  | succ k ih => simp [permN, roundS_len, ih]
theorem permN_W {l : List Int} (h : Ws l) (k : Nat) : Ws (permN l k) := by
  induction k with
  | zero => exact h
  | succ k ih => exact roundS_W ih _
def permute (l : List Int) : List Int := permN l 24
theorem permute_len (l : List Int) : (permute l).length = l.length := permN_len _ _
theorem permute_W {l : List Int} (h : Ws l) : Ws (permute l) := permN_W h _
/-- A round's constant. -/
def rcI (i : Int) : Int := if 0 ≤ i ∧ i < 24 then gt rcL i.toNat else 0

end Go.Proofs.YtfaonieaagepjaaDoor
