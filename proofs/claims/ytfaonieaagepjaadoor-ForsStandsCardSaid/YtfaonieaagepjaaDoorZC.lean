/- Texts joined into one: KecSpec, KecRefSpec, KecPure, KecInj, KecA, KecB, KecC, KecD, KecE, KecF, KecG, KecH. -/
import Derived.Test.YtfaonieaagepjaaDoorZA
import Derived.Test.YtfaonieaagepjaaDoorProg
import Derived.Deep.DeepCutAuto
import Derived.Deep.CutBlock

namespace Go.Proofs.YtfaonieaagepjaaDoor
open Go.RowKit

/-! ### What the program's rounds compute, as the code goes -/
def rcL : List Int := [1, 32898, 9223372036854808714, 9223372039002292224, 32907, 2147483649, 9223372039002292353, 9223372036854808585, 138, 136, 2147516425, 2147483658, 2147516555, 9223372036854775947, 9223372036854808713, 9223372036854808579, 9223372036854808578, 9223372036854775936, 32778, 9223372039002259466, 9223372039002292353, 9223372036854808704, 2147483649, 9223372039002292232]
def turnsL : List Int := [0, 1, 62, 28, 27, 36, 44, 6, 55, 20, 3, 10, 43, 25, 39, 41, 45, 15, 21, 8, 18, 2, 61, 56, 14]
theorem turns_range (i : Nat) : 0 ≤ gt turnsL i ∧ gt turnsL i < 64 := by
  by_cases h : i < 25
  · have : ∀ i : Fin 25, 0 ≤ gt turnsL i ∧ gt turnsL i < 64 := by decide
    exact this ⟨i, h⟩
  · rw [show gt turnsL i = 0 by unfold gt turnsL; rw [List.getD_eq_getElem?_getD, List.getElem?_eq_none (by simp; omega)]; rfl]
    decide
theorem rcL_W : Ws rcL := by
  have h : ∀ x ∈ rcL, 0 ≤ x ∧ x < 18446744073709551616 := by decide
  exact h
def thC (l : List Int) : Nat → List Int
  | 0 => [0, 0, 0, 0, 0]
  | k + 1 => st (thC l k) (k % 5) (bits .xor .u64 (gt (thC l k) (k % 5)) (gt l k))
theorem thC_len (l : List Int) (k : Nat) : (thC l k).length = 5 := by
  induction k with
  | zero => rfl
  | succ k ih => simp [thC, st, ih]
theorem thC_W (l : List Int) (k : Nat) : Ws (thC l k) := by
  induction k with
  | zero => exact Ws.zeros 5
  | succ k ih => exact ih.st _ (W64_xor _ _)
def thA (c : List Int) (l : List Int) : Nat → List Int
  | 0 => l
  | k + 1 => st (thA c l k) k (bits .xor .u64 (gt (thA c l k) k) (bits .xor .u64 (gt c ((k % 5 + 4) % 5)) (rotl (gt c ((k % 5 + 1) % 5)) 1)))
theorem thA_len (c l : List Int) (k : Nat) : (thA c l k).length = l.length := by
  induction k with
  | zero => rfl
  | succ k ih => simp [thA, st, ih]
theorem thA_W (c l : List Int) (h : Ws l) (k : Nat) : Ws (thA c l k) := by
  induction k with
  | zero => exact h
  | succ k ih => exact ih.st _ (W64_xor _ _)
def theta (l : List Int) : List Int := thA (thC l 25) l 25
theorem theta_len (l : List Int) : (theta l).length = l.length := thA_len _ _ _
theorem theta_W {l : List Int} (h : Ws l) : Ws (theta l) := thA_W _ _ h _
/-- rho and pi. -/
def rhoB (l : List Int) : Nat → List Int
  | 0 => List.replicate 25 0
  | k + 1 => st (rhoB l k) (k / 5 + 5 * ((2 * (k % 5) + 3 * (k / 5)) % 5)) (rotl (gt l k) (gt turnsL k).toNat)
theorem rhoB_len (l : List Int) (k : Nat) : (rhoB l k).length = 25 := by
  induction k with
  | zero => rfl
  | succ k ih => simp [rhoB, st, ih]
theorem rhoB_W (l : List Int) (k : Nat) : Ws (rhoB l k) := by
  induction k with
  | zero => exact Ws.zeros 25
  | succ k ih => exact ih.st _ (W64_rotl _ _)
def not64 (x : Int) : Int := bits .xor .u64 (if IntKind.u64.signed = true then -1 else IntKind.u64.max) x
/-- chi. -/
def chiA (b l : List Int) : Nat → List Int
  | 0 => l
  | k + 1 => st (chiA b l k) k (bits .xor .u64 (gt b k) (bits .and .u64 (not64 (gt b (k / 5 * 5 + (k % 5 + 1) % 5))) (gt b (k / 5 * 5 + (k % 5 + 2) % 5))))
theorem chiA_len (b l : List Int) (k : Nat) : (chiA b l k).length = l.length := by
  induction k with
  | zero => rfl
  | succ k ih => simp [chiA, st, ih]
theorem chiA_W (b l : List Int) (h : Ws l) (k : Nat) : Ws (chiA b l k) := by
  induction k with
  | zero => exact h
  | succ k ih => exact ih.st _ (W64_xor _ _)
def roundS (l : List Int) (i : Nat) : List Int :=
  st (chiA (rhoB (theta l) 25) (theta l) 25) 0 (bits .xor .u64 (gt (chiA (rhoB (theta l) 25) (theta l) 25) 0) (gt rcL i))
theorem roundS_len (l : List Int) (i : Nat) : (roundS l i).length = l.length := by
  simp [roundS, st_len, chiA_len, theta_len]
theorem roundS_W {l : List Int} (h : Ws l) (i : Nat) : Ws (roundS l i) := (chiA_W _ _ (theta_W h) _).st _ (W64_xor _ _)
/-- A round, of any number. -/
def roundI (l : List Int) (i : Int) : List Int := if 0 ≤ i ∧ i < 24 then roundS l i.toNat else l
theorem roundI_len (l : List Int) (i : Int) : (roundI l i).length = l.length := by unfold roundI; split; exact roundS_len _ _; rfl
theorem roundI_W {l : List Int} (h : Ws l) (i : Int) : Ws (roundI l i) := by unfold roundI; split; exact roundS_W h _; exact h
def permN (l : List Int) : Nat → List Int
  | 0 => l
  | k + 1 => roundS (permN l k) k
theorem permN_len (l : List Int) (k : Nat) : (permN l k).length = l.length := by
  induction k with
  | zero => rfl
  | succ k ih => simp [permN, roundS_len, ih]
theorem permN_W {l : List Int} (h : Ws l) (k : Nat) : Ws (permN l k) := by
  induction k with
  | zero => exact h
  | succ k ih => exact roundS_W ih _
def permute (l : List Int) : List Int := permN l 24
theorem permute_len (l : List Int) : (permute l).length = l.length := permN_len _ _
theorem permute_W {l : List Int} (h : Ws l) : Ws (permute l) := permN_W h _
/-- A round's constant. -/
def rcI (i : Int) : Int := if 0 ≤ i ∧ i < 24 then gt rcL i.toNat else 0

end Go.Proofs.YtfaonieaagepjaaDoor

namespace Go.Proofs.YtfaonieaagepjaaDoor
open Go.RowKit

/-! ### What the reference's rounds compute, as the code goes -/
def fC (s : List Int) : Nat → List Int
  | 0 => List.replicate 5 0
  | k + 1 => st (fC s k) k (bits .xor .u64 (bits .xor .u64 (bits .xor .u64 (bits .xor .u64 (gt s k) (gt s (k + 5))) (gt s (k + 10))) (gt s (k + 15))) (gt s (k + 20)))
theorem fC_len (s : List Int) (k : Nat) : (fC s k).length = 5 := by
  induction k with
  | zero => rfl
  | succ k ih => simp [fC, st, ih]
theorem fC_W (s : List Int) (k : Nat) : Ws (fC s k) := by
  induction k with
  | zero => exact Ws.zeros 5
  | succ k ih => exact ih.st _ (W64_xor _ _)
def fT2 (d : Int) (x : Nat) (s : List Int) : Nat → List Int
  | 0 => s
  | y + 1 => st (fT2 d x s y) (x + 5 * y) (bits .xor .u64 (gt (fT2 d x s y) (x + 5 * y)) d)
theorem fT2_len (d : Int) (x : Nat) (s : List Int) (k : Nat) : (fT2 d x s k).length = s.length := by
  induction k with
  | zero => rfl
  | succ k ih => simp [fT2, st, ih]
theorem fT2_W (d : Int) (x : Nat) (s : List Int) (h : Ws s) (k : Nat) : Ws (fT2 d x s k) := by
  induction k with
  | zero => exact h
  | succ k ih => exact ih.st _ (W64_xor _ _)
def fD (c : List Int) (x : Nat) : Int := bits .xor .u64 (gt c ((x + 4) % 5)) (rotl (gt c ((x + 1) % 5)) 1)
def fT (c s : List Int) : Nat → List Int
  | 0 => s
  | x + 1 => fT2 (fD c x) x (fT c s x) 5
theorem fT_len (c s : List Int) (k : Nat) : (fT c s k).length = s.length := by
  induction k with
  | zero => rfl
  | succ k ih => rw [fT, fT2_len, ih]
theorem fT_W (c s : List Int) (h : Ws s) (k : Nat) : Ws (fT c s k) := by
  induction k with
  | zero => exact h
  | succ k ih => exact fT2_W _ _ _ ih _
/-- rho: the state, and the place. -/
def fR (s : List Int) : Nat → List Int × Nat × Nat
  | 0 => (s, 1, 0)
  | t + 1 => (st (fR s t).1 ((fR s t).2.1 + 5 * (fR s t).2.2) (rotl (gt (fR s t).1 ((fR s t).2.1 + 5 * (fR s t).2.2)) ((t + 1) * (t + 2) / 2 % 64)), (fR s t).2.2, (2 * (fR s t).2.1 + 3 * (fR s t).2.2) % 5)
theorem fR_len (s : List Int) (k : Nat) : (fR s k).1.length = s.length := by
  induction k with
  | zero => rfl
  | succ k ih => simp [fR, st, ih]
theorem fR_W (s : List Int) (h : Ws s) (k : Nat) : Ws (fR s k).1 := by
  induction k with
  | zero => exact h
  | succ k ih => exact ih.st _ (W64_rotl _ _)
theorem fR_xy (s : List Int) (k : Nat) : (fR s k).2.1 < 5 ∧ (fR s k).2.2 < 5 := by
  induction k with
  | zero => exact ⟨show (1 : Nat) < 5 by decide, show (0 : Nat) < 5 by decide⟩
  | succ k ih => exact ⟨ih.2, Nat.mod_lt _ (by decide)⟩
def fP2 (s : List Int) (x : Nat) (b : List Int) : Nat → List Int
  | 0 => b
  | y + 1 => st (fP2 s x b y) (y + 5 * ((2 * x + 3 * y) % 5)) (gt s (x + 5 * y))
theorem fP2_len (s : List Int) (x : Nat) (b : List Int) (k : Nat) : (fP2 s x b k).length = b.length := by
  induction k with
  | zero => rfl
  | succ k ih => simp [fP2, st, ih]
theorem fP2_W (s : List Int) (x : Nat) (b : List Int) (hs : Ws s) (h : Ws b) (k : Nat) : Ws (fP2 s x b k) := by
  induction k with
  | zero => exact h
  | succ k ih => exact ih.st _ (hs.gt _)
def fP (s : List Int) : Nat → List Int
  | 0 => List.replicate 25 0
  | x + 1 => fP2 s x (fP s x) 5
theorem fP_len (s : List Int) (k : Nat) : (fP s k).length = 25 := by
  induction k with
  | zero => rfl
  | succ k ih => rw [fP, fP2_len, ih]
theorem fP_W (s : List Int) (hs : Ws s) (k : Nat) : Ws (fP s k) := by
  induction k with
  | zero => exact Ws.zeros 25
  | succ k ih => exact fP2_W _ _ _ hs ih _
def fX2 (b : List Int) (x : Nat) (s : List Int) : Nat → List Int
  | 0 => s
  | y + 1 => st (fX2 b x s y) (x + 5 * y) (bits .xor .u64 (gt b (x + 5 * y)) (bits .and .u64 (bits .xor .u64 (gt b ((x + 1) % 5 + 5 * y)) 18446744073709551615) (gt b ((x + 2) % 5 + 5 * y))))
theorem fX2_len (b : List Int) (x : Nat) (s : List Int) (k : Nat) : (fX2 b x s k).length = s.length := by
  induction k with
  | zero => rfl
  | succ k ih => simp [fX2, st, ih]
theorem fX2_W (b : List Int) (x : Nat) (s : List Int) (h : Ws s) (k : Nat) : Ws (fX2 b x s k) := by
  induction k with
  | zero => exact h
  | succ k ih => exact ih.st _ (W64_xor _ _)
def fX (b s : List Int) : Nat → List Int
  | 0 => s
  | x + 1 => fX2 b x (fX b s x) 5
theorem fX_len (b s : List Int) (k : Nat) : (fX b s k).length = s.length := by
  induction k with
  | zero => rfl
  | succ k ih => rw [fX, fX2_len, ih]
theorem fX_W (b s : List Int) (h : Ws s) (k : Nat) : Ws (fX b s k) := by
  induction k with
  | zero => exact h
  | succ k ih => exact fX2_W _ _ _ ih _
def stepA (s : List Int) : List Int := (fR (fT (fC s 5) s 5) 24).1
def stepB (s : List Int) : List Int := fX (fP (stepA s) 5) (stepA s) 5
def stepS (s : List Int) (rc : Int) : List Int := st (stepB s) 0 (bits .xor .u64 (gt (stepB s) 0) rc)
theorem stepA_len (s : List Int) : (stepA s).length = s.length := by rw [stepA, fR_len, fT_len]
theorem stepA_W {s : List Int} (h : Ws s) : Ws (stepA s) := fR_W _ (fT_W _ _ h _) _
theorem stepB_len (s : List Int) : (stepB s).length = s.length := by rw [stepB, fX_len, stepA_len]
theorem stepB_W {s : List Int} (h : Ws s) : Ws (stepB s) := fX_W _ _ (stepA_W h) _
theorem stepS_len (s : List Int) (rc : Int) : (stepS s rc).length = s.length := by rw [stepS, st_len, stepB_len]
theorem stepS_W {s : List Int} (h : Ws s) (rc : Int) : Ws (stepS s rc) := (stepB_W h).st _ (W64_xor _ _)
def fPerm (s rc : List Int) : Nat → List Int
  | 0 => s
  | k + 1 => stepS (fPerm s rc k) (gt rc k)
theorem fPerm_len (s rc : List Int) (k : Nat) : (fPerm s rc k).length = s.length := by
  induction k with
  | zero => rfl
  | succ k ih => rw [fPerm, stepS_len, ih]
theorem fPerm_W {s : List Int} (h : Ws s) (rc : List Int) (k : Nat) : Ws (fPerm s rc k) := by
  induction k with
  | zero => exact h
  | succ k ih => exact stepS_W ih _

end Go.Proofs.YtfaonieaagepjaaDoor

namespace Go.Proofs.YtfaonieaagepjaaDoor
open Go.RowKit
set_option linter.unusedVariables false
set_option linter.unusedSimpArgs false

abbrev X (a b : Int) : Int := bits .xor .u64 a b
theorem X_comm (a b : Int) : X a b = X b a := by rw [X, X, bv_xor, bv_xor, BitVec.xor_comm]
theorem X_assoc (a b c : Int) : X (X a b) c = X a (X b c) := by simp only [X, bv_xor, bv_nat, BitVec.xor_assoc]
theorem X_zero {a : Int} (h : W64 a) : X 0 a = a := by
  rw [X, bv_xor, show bv 0 = 0#64 from rfl, BitVec.zero_xor, h.bv_eq]

/-! ### theta -/
theorem thA_get (c l : List Int) (n k : Nat) (hl : l.length = 25) (hn : n ≤ 25) (hk : k < 25) :
    gt (thA c l n) k = if k < n then X (gt l k) (fD c (k % 5)) else gt l k := by
  induction n with
  | zero => simp [thA]
  | succ n ih =>
    rw [thA, gt_st _ _ _ _ (by rw [thA_len]; omega)]
    have ih' := ih (by omega)
    by_cases e : k = n
    · subst e
      rw [if_pos rfl, if_pos (by omega), ih', if_neg (by omega), fD]
    · rw [if_neg e, ih']
      by_cases h2 : k < n
      · rw [if_pos h2, if_pos (by omega)]
      · rw [if_neg h2, if_neg (by omega)]
theorem fT2_get (d : Int) (x : Nat) (s : List Int) (n k : Nat) (hl : s.length = 25) (hx : x < 5) (hn : n ≤ 5) (hk : k < 25) :
    gt (fT2 d x s n) k = if k % 5 = x ∧ k / 5 < n then X (gt s k) d else gt s k := by
  induction n with
  | zero => simp [fT2]
  | succ n ih =>
    rw [fT2, gt_st _ _ _ _ (by rw [fT2_len]; omega)]
    have ih' := ih (by omega)
    by_cases e : k = x + 5 * n
    · rw [if_pos e, if_pos (by omega), ← e, ih', if_neg (by omega)]
    · rw [if_neg e, ih']
      by_cases h2 : k % 5 = x ∧ k / 5 < n
      · rw [if_pos h2, if_pos (by omega)]
      · rw [if_neg h2, if_neg (by omega)]
theorem fT_get (c s : List Int) (n k : Nat) (hl : s.length = 25) (hn : n ≤ 5) (hk : k < 25) :
    gt (fT c s n) k = if k % 5 < n then X (gt s k) (fD c (k % 5)) else gt s k := by
  induction n with
  | zero => simp [fT]
  | succ n ih =>
    rw [fT, fT2_get _ _ _ _ _ (by rw [fT_len, hl]) (by omega) (by omega) hk]
    have ih' := ih (by omega)
    by_cases e : k % 5 = n
    · rw [if_pos (by omega), if_pos (by omega), ih', if_neg (by omega), e]
    · rw [if_neg (by omega), ih']
      by_cases h2 : k % 5 < n
      · rw [if_pos h2, if_pos (by omega)]
      · rw [if_neg h2, if_neg (by omega)]
theorem fC_get (s : List Int) (n k : Nat) (hn : n ≤ 5) (hk : k < 5) :
    gt (fC s n) k = if k < n then X (X (X (X (gt s k) (gt s (k + 5))) (gt s (k + 10))) (gt s (k + 15))) (gt s (k + 20)) else 0 := by
  induction n with
  | zero =>
    simp only [fC, gt]
    rw [List.getD_eq_getElem?_getD, List.getElem?_replicate]
    simp [hk]
  | succ n ih =>
    rw [fC, gt_st _ _ _ _ (by rw [fC_len]; omega)]
    have ih' := ih (by omega)
    by_cases e : k = n
    · subst e; rw [if_pos rfl, if_pos (by omega)]
    · rw [if_neg e, ih']
      by_cases h2 : k < n
      · rw [if_pos h2, if_pos (by omega)]
      · rw [if_neg h2, if_neg (by omega)]
theorem thC_step (l : List Int) (n k : Nat) : gt (thC l (n + 1)) k = if k = n % 5 then X (gt (thC l n) (n % 5)) (gt l n) else gt (thC l n) k := by
  rw [thC, gt_st _ _ _ _ (by rw [thC_len]; omega)]
/-- The columns' sums, as the program has them. -/
theorem thC_get (l : List Int) (k : Nat) (hw : Ws l) (hk : k < 5) :
    gt (thC l 25) k = X (X (X (X (gt l k) (gt l (k + 5))) (gt l (k + 10))) (gt l (k + 15))) (gt l (k + 20)) := by
  have h0 : gt (thC l 0) k = 0 := by
    have h : ∀ m : Fin 5, gt ([0, 0, 0, 0, 0] : List Int) m.val = 0 := by decide
    exact h ⟨k, hk⟩
  have part : ∀ (q m : Nat), m ≤ 5 → gt (thC l (5 * q + m)) k = if k < m then X (gt (thC l (5 * q)) k) (gt l (5 * q + k)) else gt (thC l (5 * q)) k := by
    intro q m hm
    induction m with
    | zero => rw [if_neg (by omega)]; rfl
    | succ m ih =>
      have ih' := ih (by omega)
      rw [show 5 * q + (m + 1) = 5 * q + m + 1 from rfl, thC_step]
      by_cases e : k = m
      · subst e
        rw [if_pos (by omega), if_pos (by omega), show (5 * q + k) % 5 = k by omega, ih', if_neg (by omega)]
      · rw [if_neg (by omega), ih']
        by_cases h2 : k < m
        · rw [if_pos h2, if_pos (by omega)]
        · rw [if_neg h2, if_neg (by omega)]
  have block : ∀ q : Nat, gt (thC l (5 * q + 5)) k = X (gt (thC l (5 * q)) k) (gt l (5 * q + k)) := fun q => by
    rw [part q 5 (by omega), if_pos hk]
  have e1 := block 0
  have e2 := block 1
  have e3 := block 2
  have e4 := block 3
  have e5 := block 4
  simp only [Nat.mul_zero, Nat.zero_add, Nat.mul_one, Nat.reduceAdd, Nat.reduceMul] at e1 e2 e3 e4 e5
  rw [e5, e4, e3, e2, e1, h0, X_zero (hw.gt _)]
  simp only [Nat.add_comm]
theorem C_eq (l : List Int) (hw : Ws l) : thC l 25 = fC l 5 := by
  apply ext_gt _ _ (by rw [thC_len, fC_len])
  intro k hk
  rw [thC_len] at hk
  rw [thC_get l k hw hk, fC_get l 5 k (by omega) hk, if_pos hk]
theorem theta_eq (l : List Int) (hl : l.length = 25) (hw : Ws l) : theta l = fT (fC l 5) l 5 := by
  apply ext_gt _ _ (by rw [theta_len, fT_len])
  intro k hk
  rw [theta_len, hl] at hk
  rw [theta, thA_get _ _ _ _ hl (by omega) hk, fT_get _ _ _ _ hl (by omega) hk, if_pos hk, if_pos (by omega), C_eq l hw]
theorem theta_get (l : List Int) (k : Nat) (hl : l.length = 25) (hk : k < 25) : gt (theta l) k = X (gt l k) (fD (thC l 25) (k % 5)) := by
  rw [theta, thA_get _ _ _ _ hl (by omega) hk, if_pos hk]

/-! ### rho and pi -/
/-- Where a place's word comes from. -/
def pinv (m : Nat) : Nat := (3 * (m / 5) + m % 5) % 5 + 5 * (m % 5)
theorem pinv_lt (m : Nat) : pinv m < 25 := by unfold pinv; omega
theorem pinv_spec (n m : Nat) (hn : n < 25) (hm : m < 25) : m = n / 5 + 5 * ((2 * (n % 5) + 3 * (n / 5)) % 5) ↔ pinv m = n := by
  have h : ∀ (n m : Fin 25), m.val = n.val / 5 + 5 * ((2 * (n.val % 5) + 3 * (n.val / 5)) % 5) ↔ pinv m.val = n.val := by decide +kernel
  exact h ⟨n, hn⟩ ⟨m, hm⟩
theorem rhoB_get (l : List Int) (n m : Nat) (hn : n ≤ 25) (hm : m < 25) :
    gt (rhoB l n) m = if pinv m < n then rotl (gt l (pinv m)) (gt turnsL (pinv m)).toNat else 0 := by
  induction n with
  | zero =>
    simp only [rhoB, gt]
    rw [List.getD_eq_getElem?_getD, List.getElem?_replicate]
    simp [hm]
  | succ n ih =>
    rw [rhoB, gt_st _ _ _ _ (by rw [rhoB_len]; omega)]
    have ih' := ih (by omega)
    have hp := pinv_spec n m (by omega) hm
    by_cases e : pinv m = n
    · rw [if_pos (hp.2 e), if_pos (by omega), e]
    · rw [if_neg (fun h => e (hp.1 h)), ih']
      by_cases h2 : pinv m < n
      · rw [if_pos h2, if_pos (by omega)]
      · rw [if_neg h2, if_neg (by omega)]
def xyT : Nat → Nat × Nat
  | 0 => (1, 0)
  | t + 1 => ((xyT t).2, (2 * (xyT t).1 + 3 * (xyT t).2) % 5)
theorem fR_xyT (s : List Int) (t : Nat) : (fR s t).2 = xyT t := by
  induction t with
  | zero => rfl
  | succ t ih => rw [fR, xyT, ih]
/-- When a place's word is turned: 24, if never. -/
def ordT (m : Nat) : Nat := ((List.range 24).find? fun t => (xyT t).1 + 5 * (xyT t).2 == m).getD 24
theorem ordT_spec (t m : Nat) (ht : t < 24) (hm : m < 25) : m = (xyT t).1 + 5 * (xyT t).2 ↔ ordT m = t := by
  have h : ∀ (t : Fin 24) (m : Fin 25), m.val = (xyT t.val).1 + 5 * (xyT t.val).2 ↔ ordT m.val = t.val := by decide +kernel
  exact h ⟨t, ht⟩ ⟨m, hm⟩
theorem ordT_turns (m : Nat) (hm : m < 25) : (ordT m < 24 ∧ (ordT m + 1) * (ordT m + 2) / 2 % 64 = (gt turnsL m).toNat) ∨ (ordT m = 24 ∧ (gt turnsL m).toNat = 0) := by
  have h : ∀ (m : Fin 25), (ordT m.val < 24 ∧ (ordT m.val + 1) * (ordT m.val + 2) / 2 % 64 = (gt turnsL m.val).toNat) ∨ (ordT m.val = 24 ∧ (gt turnsL m.val).toNat = 0) := by decide +kernel
  exact h ⟨m, hm⟩
theorem fR_get (s : List Int) (n m : Nat) (hl : s.length = 25) (hn : n ≤ 24) (hm : m < 25) :
    gt (fR s n).1 m = if ordT m < n then rotl (gt s m) ((ordT m + 1) * (ordT m + 2) / 2 % 64) else gt s m := by
  induction n with
  | zero => simp [fR]
  | succ n ih =>
    have hxy := fR_xy s n
    rw [fR_xyT] at hxy
    rw [fR]
    simp only [fR_xyT]
    rw [gt_st _ _ _ _ (by rw [fR_len]; omega)]
    have ih' := ih (by omega)
    have hp := ordT_spec n m (by omega) hm
    by_cases e : ordT m = n
    · have e2 := hp.2 e
      rw [if_pos e2, if_pos (by omega), ← e2, ih', if_neg (by omega), e]
    · rw [if_neg (fun h => e (hp.1 h)), ih']
      by_cases h2 : ordT m < n
      · rw [if_pos h2, if_pos (by omega)]
      · rw [if_neg h2, if_neg (by omega)]
theorem rotl_zero {x : Int} (h : W64 x) : rotl x 0 = x := by
  have e0 : (bv x).rotateLeft 0 = bv x := by
    rw [BitVec.rotateLeft_def, Nat.zero_mod, BitVec.shiftLeft_zero, BitVec.ushiftRight_eq_zero (by omega), BitVec.or_zero]
  show (((bv x).rotateLeft 0).toNat : Int) = x
  rw [e0]; exact h.bv_eq
theorem fR_all (s : List Int) (m : Nat) (hl : s.length = 25) (hw : Ws s) (hm : m < 25) : gt (fR s 24).1 m = rotl (gt s m) (gt turnsL m).toNat := by
  rw [fR_get s 24 m hl (by omega) hm]
  rcases ordT_turns m hm with ⟨h1, h2⟩ | ⟨h1, h2⟩
  · rw [if_pos h1, h2]
  · rw [if_neg (by omega), h2, rotl_zero (hw.gt _)]
theorem fP2_spec (x y m : Nat) (hx : x < 5) (hy : y < 5) (hm : m < 25) : m = y + 5 * ((2 * x + 3 * y) % 5) ↔ pinv m = x + 5 * y := by
  have h : ∀ (x y : Fin 5) (m : Fin 25), m.val = y.val + 5 * ((2 * x.val + 3 * y.val) % 5) ↔ pinv m.val = x.val + 5 * y.val := by decide +kernel
  exact h ⟨x, hx⟩ ⟨y, hy⟩ ⟨m, hm⟩
theorem fP2_get (s : List Int) (x : Nat) (b : List Int) (n m : Nat) (hb : b.length = 25) (hx : x < 5) (hn : n ≤ 5) (hm : m < 25) :
    gt (fP2 s x b n) m = if pinv m % 5 = x ∧ pinv m / 5 < n then gt s (pinv m) else gt b m := by
  induction n with
  | zero => simp [fP2]
  | succ n ih =>
    rw [fP2, gt_st _ _ _ _ (by rw [fP2_len]; omega)]
    have ih' := ih (by omega)
    have hp := fP2_spec x n m hx (by omega) hm
    by_cases e : pinv m = x + 5 * n
    · rw [if_pos (hp.2 e), if_pos (by omega), e]
    · rw [if_neg (fun h => e (hp.1 h)), ih']
      by_cases h2 : pinv m % 5 = x ∧ pinv m / 5 < n
      · rw [if_pos h2, if_pos (by omega)]
      · rw [if_neg h2, if_neg (by omega)]
theorem fP_get (s : List Int) (n m : Nat) (hn : n ≤ 5) (hm : m < 25) :
    gt (fP s n) m = if pinv m % 5 < n then gt s (pinv m) else 0 := by
  induction n with
  | zero =>
    simp only [fP, gt]
    rw [List.getD_eq_getElem?_getD, List.getElem?_replicate]
    simp [hm]
  | succ n ih =>
    have hlt := pinv_lt m
    rw [fP, fP2_get _ _ _ _ _ (fP_len _ _) (by omega) (by omega) hm]
    have ih' := ih (by omega)
    by_cases e : pinv m % 5 = n
    · rw [if_pos (by omega), if_pos (by omega)]
    · rw [if_neg (by omega), ih']
      by_cases h2 : pinv m % 5 < n
      · rw [if_pos h2, if_pos (by omega)]
      · rw [if_neg h2, if_neg (by omega)]
theorem rho_eq (s : List Int) (hl : s.length = 25) (hw : Ws s) : rhoB s 25 = fP (fR s 24).1 5 := by
  apply ext_gt _ _ (by rw [rhoB_len, fP_len])
  intro m hm
  rw [rhoB_len] at hm
  have := pinv_lt m
  rw [rhoB_get _ _ _ (by omega) hm, if_pos this, fP_get _ _ _ (by omega) hm, if_pos (by omega), fR_all _ _ hl hw this]

/-! ### chi -/
abbrev Cx (b : List Int) (k : Nat) : Int := X (gt b k) (bits .and .u64 (not64 (gt b (k / 5 * 5 + (k % 5 + 1) % 5))) (gt b (k / 5 * 5 + (k % 5 + 2) % 5)))
theorem chiA_get (b l : List Int) (n k : Nat) (hl : l.length = 25) (hn : n ≤ 25) (hk : k < 25) :
    gt (chiA b l n) k = if k < n then Cx b k else gt l k := by
  induction n with
  | zero => simp [chiA]
  | succ n ih =>
    rw [chiA, gt_st _ _ _ _ (by rw [chiA_len]; omega)]
    have ih' := ih (by omega)
    by_cases e : k = n
    · subst e; rw [if_pos rfl, if_pos (by omega)]
    · rw [if_neg e, ih']
      by_cases h2 : k < n
      · rw [if_pos h2, if_pos (by omega)]
      · rw [if_neg h2, if_neg (by omega)]
theorem not64_eq (x : Int) : bits .xor .u64 x 18446744073709551615 = not64 x := by
  rw [not64, show (if IntKind.u64.signed = true then -1 else IntKind.u64.max) = 18446744073709551615 from rfl]
  exact X_comm _ _
theorem fX2_get (b : List Int) (x : Nat) (s : List Int) (n k : Nat) (hl : s.length = 25) (hx : x < 5) (hn : n ≤ 5) (hk : k < 25) :
    gt (fX2 b x s n) k = if k % 5 = x ∧ k / 5 < n then Cx b k else gt s k := by
  induction n with
  | zero => simp [fX2]
  | succ n ih =>
    rw [fX2, gt_st _ _ _ _ (by rw [fX2_len]; omega)]
    have ih' := ih (by omega)
    by_cases e : k = x + 5 * n
    · rw [if_pos e, if_pos (by omega), not64_eq, ← e, show n = k / 5 by omega, show x = k % 5 by omega]
      rw [show (k % 5 + 1) % 5 + 5 * (k / 5) = k / 5 * 5 + (k % 5 + 1) % 5 by omega, show (k % 5 + 2) % 5 + 5 * (k / 5) = k / 5 * 5 + (k % 5 + 2) % 5 by omega]
    · rw [if_neg e, ih']
      by_cases h2 : k % 5 = x ∧ k / 5 < n
      · rw [if_pos h2, if_pos (by omega)]
      · rw [if_neg h2, if_neg (by omega)]
theorem fX_get (b s : List Int) (n k : Nat) (hl : s.length = 25) (hn : n ≤ 5) (hk : k < 25) :
    gt (fX b s n) k = if k % 5 < n then Cx b k else gt s k := by
  induction n with
  | zero => simp [fX]
  | succ n ih =>
    rw [fX, fX2_get _ _ _ _ _ (by rw [fX_len, hl]) (by omega) (by omega) hk]
    have ih' := ih (by omega)
    by_cases e : k % 5 = n
    · rw [if_pos (by omega), if_pos (by omega)]
    · rw [if_neg (by omega), ih']
      by_cases h2 : k % 5 < n
      · rw [if_pos h2, if_pos (by omega)]
      · rw [if_neg h2, if_neg (by omega)]
theorem chi_eq (b s t : List Int) (hs : s.length = 25) (ht : t.length = 25) : chiA b s 25 = fX b t 5 := by
  apply ext_gt _ _ (by rw [chiA_len, fX_len, hs, ht])
  intro k hk
  rw [chiA_len, hs] at hk
  rw [chiA_get _ _ _ _ hs (by omega) hk, fX_get _ _ _ _ ht (by omega) hk, if_pos hk, if_pos (by omega)]

/-- A round is what the document says. -/
theorem round_eq (l : List Int) (i : Nat) (hl : l.length = 25) (hw : Ws l) : stepS l (gt rcL i) = roundS l i := by
  have h1 : theta l = fT (fC l 5) l 5 := theta_eq l hl hw
  have h2 : stepB l = chiA (rhoB (theta l) 25) (theta l) 25 := by
    rw [stepB, stepA, ← h1, ← rho_eq _ (by rw [theta_len, hl]) (theta_W hw)]
    exact (chi_eq _ _ _ (by rw [theta_len, hl]) (by rw [fR_len, theta_len, hl])).symm
  rw [stepS, h2, roundS]
theorem perm_eq (l : List Int) (n : Nat) (hl : l.length = 25) (hw : Ws l) : fPerm l rcL n = permN l n := by
  induction n with
  | zero => rfl
  | succ n ih => rw [fPerm, permN, ih, round_eq _ _ (by rw [permN_len, hl]) (permN_W hw n)]

end Go.Proofs.YtfaonieaagepjaaDoor

namespace Go.Proofs.YtfaonieaagepjaaDoor
open Go.RowKit
set_option linter.unusedVariables false
set_option linter.unusedSimpArgs false

/-! ### Turning words -/
theorem rot_bit (x : BitVec 64) (r i : Nat) (hi : i < 64) : (x.rotateLeft r).getLsbD i = x.getLsbD ((i + 64 - r % 64) % 64) := by
  rw [BitVec.getLsbD_rotateLeft]
  have h := Nat.mod_lt r (show 0 < 64 by decide)
  by_cases h2 : i < r % 64
  · rw [decide_eq_true h2, cond_true]
    congr 1; omega
  · rw [decide_eq_false h2, cond_false, decide_eq_true hi, Bool.true_and]
    congr 1; omega
theorem rot_xor (x y : BitVec 64) (r : Nat) : (x ^^^ y).rotateLeft r = x.rotateLeft r ^^^ y.rotateLeft r := by
  apply BitVec.eq_of_getLsbD_eq
  intro i hi
  rw [BitVec.getLsbD_xor, rot_bit _ _ _ hi, rot_bit _ _ _ hi, rot_bit _ _ _ hi, BitVec.getLsbD_xor]
theorem rot_rot (x : BitVec 64) (r s : Nat) : (x.rotateLeft r).rotateLeft s = x.rotateLeft (r + s) := by
  apply BitVec.eq_of_getLsbD_eq
  intro i hi
  rw [rot_bit _ _ _ hi, rot_bit _ _ _ (Nat.mod_lt _ (by decide)), rot_bit _ _ _ hi]
  congr 1; omega
theorem rot_64 (x : BitVec 64) : x.rotateLeft 64 = x := by
  apply BitVec.eq_of_getLsbD_eq
  intro i hi
  rw [rot_bit _ _ _ hi]
  congr 1; omega
theorem rot_inj {x y : BitVec 64} {r : Nat} (h : x.rotateLeft r = y.rotateLeft r) : x = y := by
  have h2 := congrArg (fun z : BitVec 64 => z.rotateLeft (64 - r % 64)) h
  simp only [rot_rot] at h2
  apply BitVec.eq_of_getLsbD_eq
  intro i hi
  have h3 := congrArg (fun z : BitVec 64 => z.getLsbD i) h2
  simp only [rot_bit _ _ _ hi] at h3
  have e : (i + 64 - (r + (64 - r % 64)) % 64) % 64 = i := by omega
  rw [e] at h3
  exact h3
theorem rotl_inj {x y : Int} {s : Nat} (hx : W64 x) (hy : W64 y) (h : rotl x s = rotl y s) : x = y := by
  have h2 : (bv x).rotateLeft s = (bv y).rotateLeft s := by
    apply BitVec.eq_of_toNat_eq
    exact Int.ofNat.inj h
  rw [← hx.bv_eq, ← hy.bv_eq, rot_inj h2]
theorem X_cancel {a b c : Int} (ha : W64 a) (hb : W64 b) (h : X a c = X b c) : a = b := by
  have h2 : bv a ^^^ bv c = bv b ^^^ bv c := by
    have := congrArg bv h
    simpa only [X, bv_xor, bv_nat] using this
  have h3 : bv a = bv b := by
    have := congrArg (· ^^^ bv c) h2
    simpa only [BitVec.xor_assoc, BitVec.xor_self, BitVec.xor_zero] using this
  rw [← ha.bv_eq, ← hb.bv_eq, h3]

/-! ### theta is one to one -/
/-- A circle of five words. -/
def Per (e : Nat → BitVec 64) : Prop := ∀ x, e (x + 5) = e x
def Tk (k : Nat) (e : Nat → BitVec 64) (x : Nat) : BitVec 64 := e x ^^^ e (x + 4 * k) ^^^ (e (x + k)).rotateLeft k
theorem Tk_twice (k : Nat) (e : Nat → BitVec 64) (he : Per e) (x : Nat) : Tk k (Tk k e) x = Tk (2 * k) e x := by
  have p : e (x + k + 4 * k) = e (x + 4 * k + k) := by rw [show x + k + 4 * k = x + 4 * k + k by omega]
  have q : (x + 4 * k + 4 * k) = x + 4 * (2 * k) := by omega
  have r : x + k + k = x + 2 * k := by omega
  simp only [Tk, rot_xor, rot_rot, p, q, r]
  rw [show k + k = 2 * k by omega]
  generalize e x = a
  generalize e (x + 4 * k) = b
  generalize (e (x + k)).rotateLeft k = c
  generalize e (x + 4 * (2 * k)) = d
  generalize (e (x + 4 * k + k)).rotateLeft k = f
  generalize (e (x + 2 * k)).rotateLeft (2 * k) = g
  apply BitVec.eq_of_getLsbD_eq
  intro i _
  simp only [BitVec.getLsbD_xor]
  generalize a.getLsbD i = a
  generalize b.getLsbD i = b
  generalize c.getLsbD i = c
  generalize d.getLsbD i = d
  generalize f.getLsbD i = f
  generalize g.getLsbD i = g
  revert a b c d f g
  decide
theorem Tk_zero (k : Nat) (x : Nat) (e : Nat → BitVec 64) (h : ∀ x, e x = 0#64) : Tk k e x = 0#64 := by
  simp only [Tk, h, BitVec.xor_self, BitVec.zero_xor]
  apply BitVec.eq_of_getLsbD_eq
  intro i hi
  rw [rot_bit _ _ _ hi]
  simp
theorem T_kernel (e : Nat → BitVec 64) (he : Per e) (h : ∀ x, Tk 1 e x = 0#64) : ∀ x, e x = 0#64 := by
  have up : ∀ k, (∀ x, Tk k e x = 0#64) → ∀ x, Tk (2 * k) e x = 0#64 := fun k hk x => by
    rw [← Tk_twice k e he x]; exact Tk_zero k x _ hk
  have h64 : ∀ x, Tk 64 e x = 0#64 := up 32 (up 16 (up 8 (up 4 (up 2 (up 1 h)))))
  have five : ∀ n x, e (x + 5 * n) = e x := by
    intro n
    induction n with
    | zero => intro x; rfl
    | succ n ih => intro x; rw [show x + 5 * (n + 1) = (x + 5 * n) + 5 by omega, he, ih]
  have hs : ∀ x, e x ^^^ e (x + 1) ^^^ e (x + 4) = 0#64 := by
    intro x
    have := h64 x
    simp only [Tk, rot_64] at this
    rw [show x + 4 * 64 = (x + 1) + 5 * 51 by omega, five, show x + 64 = (x + 4) + 5 * 12 by omega, five] at this
    exact this
  have all : ∀ i x, (e x).getLsbD i = false := by
    intro i x
    have g := fun x => congrArg (fun z : BitVec 64 => z.getLsbD i) (hs x)
    simp only [BitVec.getLsbD_xor, BitVec.getLsbD_zero] at g
    have g0 := g x
    have g1 := g (x + 1)
    have g2 := g (x + 2)
    have g3 := g (x + 3)
    have g4 := g (x + 4)
    rw [show x + 1 + 4 = x + 5 by omega, he, show x + 1 + 1 = x + 2 by omega] at g1
    rw [show x + 2 + 4 = (x + 1) + 5 by omega, he, show x + 2 + 1 = x + 3 by omega] at g2
    rw [show x + 3 + 4 = (x + 2) + 5 by omega, he, show x + 3 + 1 = x + 4 by omega] at g3
    rw [show x + 4 + 1 = x + 5 by omega, he x, show x + 4 + 4 = (x + 3) + 5 by omega, he (x + 3)] at g4
    revert g0 g1 g2 g3 g4
    generalize (e x).getLsbD i = a
    generalize (e (x + 1)).getLsbD i = b
    generalize (e (x + 2)).getLsbD i = c
    generalize (e (x + 3)).getLsbD i = d
    generalize (e (x + 4)).getLsbD i = f
    revert a b c d f
    decide
  intro x
  apply BitVec.eq_of_getLsbD_eq
  intro i _
  rw [all i x]; simp

/-- A column's sum, as a word. -/
def cB (l : List Int) (x : Nat) : BitVec 64 := bv (gt (thC l 25) (x % 5))
theorem cB_per (l : List Int) (x : Nat) : cB l (x + 5) = cB l x := by unfold cB; rw [Nat.add_mod_right]
theorem cB_sum (l : List Int) (k : Nat) (hw : Ws l) (hk : k < 5) :
    cB l k = bv (gt l k) ^^^ bv (gt l (k + 5)) ^^^ bv (gt l (k + 10)) ^^^ bv (gt l (k + 15)) ^^^ bv (gt l (k + 20)) := by
  rw [cB, Nat.mod_eq_of_lt hk, thC_get l k hw hk]
  simp only [X, bv_xor, bv_nat]
def dB (l : List Int) (x : Nat) : BitVec 64 := cB l (x + 4) ^^^ (cB l (x + 1)).rotateLeft 1
theorem bv_rotl (x : Int) (s : Nat) : bv (rotl x s) = (bv x).rotateLeft s := bv_nat _
theorem fD_bv (l : List Int) (x : Nat) : bv (fD (thC l 25) x) = dB l x := by
  rw [fD, bv_xor, bv_nat, bv_rotl]; rfl
theorem theta_bv (l : List Int) (k : Nat) (hl : l.length = 25) (hk : k < 25) : bv (gt (theta l) k) = bv (gt l k) ^^^ dB l (k % 5) := by
  rw [theta_get l k hl hk, X, bv_xor, bv_nat, fD_bv]
theorem theta_col (l : List Int) (x : Nat) (hl : l.length = 25) (hw : Ws l) (hx : x < 5) :
    bv (gt (theta l) x) ^^^ bv (gt (theta l) (x + 5)) ^^^ bv (gt (theta l) (x + 10)) ^^^ bv (gt (theta l) (x + 15)) ^^^ bv (gt (theta l) (x + 20)) = Tk 1 (cB l) x := by
  rw [theta_bv l x hl (by omega), theta_bv l (x + 5) hl (by omega), theta_bv l (x + 10) hl (by omega), theta_bv l (x + 15) hl (by omega), theta_bv l (x + 20) hl (by omega)]
  rw [show (x + 5) % 5 = x % 5 by omega, show (x + 10) % 5 = x % 5 by omega, show (x + 15) % 5 = x % 5 by omega, show (x + 20) % 5 = x % 5 by omega, Nat.mod_eq_of_lt hx]
  rw [Tk, cB_sum l x hw hx, show x + 4 * 1 = x + 4 from rfl]
  have hd : dB l x = cB l (x + 4) ^^^ (cB l (x + 1)).rotateLeft 1 := rfl
  rw [BitVec.xor_assoc (bv (gt l x) ^^^ bv (gt l (x + 5)) ^^^ bv (gt l (x + 10)) ^^^ bv (gt l (x + 15)) ^^^ bv (gt l (x + 20))), ← hd]
  generalize bv (gt l x) = a
  generalize bv (gt l (x + 5)) = b
  generalize bv (gt l (x + 10)) = c
  generalize bv (gt l (x + 15)) = d
  generalize bv (gt l (x + 20)) = f
  generalize dB l x = g
  apply BitVec.eq_of_getLsbD_eq
  intro i _
  simp only [BitVec.getLsbD_xor]
  generalize a.getLsbD i = a
  generalize b.getLsbD i = b
  generalize c.getLsbD i = c
  generalize d.getLsbD i = d
  generalize f.getLsbD i = f
  generalize g.getLsbD i = g
  revert a b c d f g
  decide
theorem Tk_xor (k : Nat) (e f : Nat → BitVec 64) (x : Nat) : Tk k (fun x => e x ^^^ f x) x = Tk k e x ^^^ Tk k f x := by
  simp only [Tk, rot_xor]
  generalize e x = a
  generalize e (x + 4 * k) = b
  generalize (e (x + k)).rotateLeft k = c
  generalize f x = a'
  generalize f (x + 4 * k) = b'
  generalize (f (x + k)).rotateLeft k = c'
  apply BitVec.eq_of_getLsbD_eq
  intro i _
  simp only [BitVec.getLsbD_xor]
  generalize a.getLsbD i = a
  generalize b.getLsbD i = b
  generalize c.getLsbD i = c
  generalize a'.getLsbD i = a'
  generalize b'.getLsbD i = b'
  generalize c'.getLsbD i = c'
  revert a b c a' b' c'
  decide
theorem Tk_per (k : Nat) (e : Nat → BitVec 64) (he : Per e) : Per (Tk k e) := fun x => by
  simp only [Tk]
  rw [he, show x + 5 + 4 * k = (x + 4 * k) + 5 by omega, he, show x + 5 + k = (x + k) + 5 by omega, he]
theorem per_mod (e : Nat → BitVec 64) (he : Per e) (x : Nat) : e x = e (x % 5) := by
  have five : ∀ n x, e (x + 5 * n) = e x := by
    intro n
    induction n with
    | zero => intro x; rfl
    | succ n ih => intro x; rw [show x + 5 * (n + 1) = (x + 5 * n) + 5 by omega, he, ih]
  have := five (x / 5) (x % 5)
  rw [show x % 5 + 5 * (x / 5) = x by omega] at this
  exact this
theorem theta_inj (l m : List Int) (hl : l.length = 25) (hm : m.length = 25) (hw : Ws l) (hv : Ws m) (h : theta l = theta m) : l = m := by
  have hp : Per (fun x => cB l x ^^^ cB m x) := fun x => by simp only [cB_per]
  have hz : ∀ x, Tk 1 (fun x => cB l x ^^^ cB m x) x = 0#64 := by
    intro x
    rw [per_mod _ (Tk_per 1 _ hp) x, Tk_xor, ← theta_col l _ hl hw (Nat.mod_lt _ (by decide)), ← theta_col m _ hm hv (Nat.mod_lt _ (by decide)), h, BitVec.xor_self]
  have hc : ∀ x, cB l x = cB m x := by
    intro x
    have h2 := congrArg (· ^^^ cB m x) (T_kernel _ hp hz x)
    simpa only [BitVec.xor_assoc, BitVec.xor_self, BitVec.xor_zero, BitVec.zero_xor] using h2
  apply ext_gt _ _ (by rw [hl, hm])
  intro k hk
  rw [hl] at hk
  have h1 := theta_bv l k hl hk
  have h2 := theta_bv m k hm hk
  have h3 : dB l (k % 5) = dB m (k % 5) := by unfold dB; rw [hc, hc]
  rw [h, h2, h3] at h1
  have h4 := congrArg (· ^^^ dB m (k % 5)) h1
  simp only [BitVec.xor_assoc, BitVec.xor_self, BitVec.xor_zero] at h4
  rw [← (hw.gt k).bv_eq, ← (hv.gt k).bv_eq, h4]

/-! ### rho and pi, and chi -/
theorem pfwd (n : Nat) (hn : n < 25) : ∃ m, m < 25 ∧ pinv m = n := by
  refine ⟨n / 5 + 5 * ((2 * (n % 5) + 3 * (n / 5)) % 5), by omega, ?_⟩
  exact (pinv_spec n _ hn (by omega)).1 rfl
theorem rho_inj (l m : List Int) (hl : l.length = 25) (hm : m.length = 25) (hw : Ws l) (hv : Ws m) (h : rhoB l 25 = rhoB m 25) : l = m := by
  apply ext_gt _ _ (by rw [hl, hm])
  intro k hk
  rw [hl] at hk
  obtain ⟨p, hp, hpk⟩ := pfwd k hk
  have h1 := congrArg (fun z => gt z p) h
  simp only [rhoB_get _ _ _ (Nat.le_refl 25) hp, hpk, if_pos hk] at h1
  exact rotl_inj (hw.gt _) (hv.gt _) h1
theorem bv_not64 (x : Int) : bv (not64 x) = ~~~ bv x := by
  rw [not64, show (if IntKind.u64.signed = true then -1 else IntKind.u64.max) = 18446744073709551615 from rfl, bv_xor, bv_nat, show bv 18446744073709551615 = BitVec.allOnes 64 from by decide]
  exact BitVec.allOnes_xor
theorem chi_bits : ∀ a b c d e a' b' c' d' e' : Bool, (a ^^ (!b && c)) = (a' ^^ (!b' && c')) → (b ^^ (!c && d)) = (b' ^^ (!c' && d')) → (c ^^ (!d && e)) = (c' ^^ (!d' && e')) → (d ^^ (!e && a)) = (d' ^^ (!e' && a')) → (e ^^ (!a && b)) = (e' ^^ (!a' && b')) →
    a = a' ∧ b = b' ∧ c = c' ∧ d = d' ∧ e = e' := by decide
theorem Cx_bit (b : List Int) (k i : Nat) (hi : i < 64) : (bv (Cx b k)).getLsbD i = ((bv (gt b k)).getLsbD i ^^ (!(bv (gt b (k / 5 * 5 + (k % 5 + 1) % 5))).getLsbD i && (bv (gt b (k / 5 * 5 + (k % 5 + 2) % 5))).getLsbD i)) := by
  rw [Cx, X, bv_xor, bv_nat, bv_and, bv_nat, bv_not64, BitVec.getLsbD_xor, BitVec.getLsbD_and, BitVec.getLsbD_not, decide_eq_true hi, Bool.true_and]
theorem chi_inj (b c s t : List Int) (hb : b.length = 25) (hc : c.length = 25) (hs : s.length = 25) (ht : t.length = 25) (hw : Ws b) (hv : Ws c) (h : chiA b s 25 = chiA c t 25) : b = c := by
  have hx : ∀ k, k < 25 → Cx b k = Cx c k := by
    intro k hk
    have h1 := congrArg (fun z => gt z k) h
    simpa only [chiA_get _ _ _ _ hs (Nat.le_refl 25) hk, chiA_get _ _ _ _ ht (Nat.le_refl 25) hk, if_pos hk] using h1
  have row : ∀ y i, y < 5 → i < 64 → ∀ x, x < 5 → (bv (gt b (y * 5 + x))).getLsbD i = (bv (gt c (y * 5 + x))).getLsbD i := by
    intro y i hy hi
    have q : ∀ x, x < 5 → ((bv (gt b (y * 5 + x))).getLsbD i ^^ (!(bv (gt b (y * 5 + (x + 1) % 5))).getLsbD i && (bv (gt b (y * 5 + (x + 2) % 5))).getLsbD i)) = ((bv (gt c (y * 5 + x))).getLsbD i ^^ (!(bv (gt c (y * 5 + (x + 1) % 5))).getLsbD i && (bv (gt c (y * 5 + (x + 2) % 5))).getLsbD i)) := by
      intro x hx5
      have h1 := congrArg (fun z => (bv z).getLsbD i) (hx (y * 5 + x) (by omega))
      simp only [Cx_bit _ _ _ hi] at h1
      rw [show (y * 5 + x) / 5 = y by omega, show (y * 5 + x) % 5 = x by omega] at h1
      exact h1
    have z := chi_bits _ _ _ _ _ _ _ _ _ _ (q 0 (by decide)) (q 1 (by decide)) (q 2 (by decide)) (q 3 (by decide)) (q 4 (by decide))
    intro x hx5
    obtain rfl | rfl | rfl | rfl | rfl : x = 0 ∨ x = 1 ∨ x = 2 ∨ x = 3 ∨ x = 4 := by omega
    · exact z.1
    · exact z.2.1
    · exact z.2.2.1
    · exact z.2.2.2.1
    · exact z.2.2.2.2
  apply ext_gt _ _ (by rw [hb, hc])
  intro k hk
  rw [hb] at hk
  have e : bv (gt b k) = bv (gt c k) := by
    apply BitVec.eq_of_getLsbD_eq
    intro i hi
    have := row (k / 5) i (by omega) hi (k % 5) (by omega)
    rw [show k / 5 * 5 + k % 5 = k by omega] at this
    exact this
  rw [← (hw.gt k).bv_eq, ← (hv.gt k).bv_eq, e]

/-- A round takes unlike states to unlike ones. -/
theorem round_inj (l m : List Int) (i : Nat) (hl : l.length = 25) (hm : m.length = 25) (hw : Ws l) (hv : Ws m) (h : roundS l i = roundS m i) : l = m := by
  have ha : (chiA (rhoB (theta l) 25) (theta l) 25).length = 25 := by rw [chiA_len, theta_len, hl]
  have hb : (chiA (rhoB (theta m) 25) (theta m) 25).length = 25 := by rw [chiA_len, theta_len, hm]
  have h1 : chiA (rhoB (theta l) 25) (theta l) 25 = chiA (rhoB (theta m) 25) (theta m) 25 := by
    apply ext_gt _ _ (by rw [ha, hb])
    intro k hk
    have h2 := congrArg (fun z => gt z k) h
    simp only [roundS, gt_st _ _ _ _ (show 0 < _ from by rw [ha]; decide), gt_st _ _ _ _ (show 0 < _ from by rw [hb]; decide)] at h2
    by_cases e : k = 0
    · rw [if_pos e, if_pos e] at h2
      rw [e]
      exact X_cancel ((chiA_W _ _ (theta_W hw) _).gt _) ((chiA_W _ _ (theta_W hv) _).gt _) h2
    · rw [if_neg e, if_neg e] at h2
      exact h2
  have h2 := chi_inj _ _ _ _ (rhoB_len _ _) (rhoB_len _ _) (by rw [theta_len, hl]) (by rw [theta_len, hm]) (rhoB_W _ _) (rhoB_W _ _) h1
  have h3 := rho_inj _ _ (by rw [theta_len, hl]) (by rw [theta_len, hm]) (theta_W hw) (theta_W hv) h2
  exact theta_inj l m hl hm hw hv h3
theorem permN_inj (n : Nat) (l m : List Int) (hl : l.length = 25) (hm : m.length = 25) (hw : Ws l) (hv : Ws m) (h : permN l n = permN m n) : l = m := by
  induction n with
  | zero => exact h
  | succ n ih => exact ih (round_inj _ _ n (by rw [permN_len, hl]) (by rw [permN_len, hm]) (permN_W hw n) (permN_W hv n) h)
theorem permute_inj (l m : List Int) (hl : l.length = 25) (hm : m.length = 25) (hw : Ws l) (hv : Ws m) : permute l = permute m ↔ l = m :=
  ⟨permN_inj 24 l m hl hm hw hv, fun h => by rw [h]⟩

/-! ### Answers that the document fixes -/
def zs25 : List Int := List.replicate 25 0
theorem zero_round0 : gt (roundS zs25 0) 0 = 1 := by decide +kernel
theorem zero_round1 : gt (roundS zs25 0) 1 = 0 := by decide +kernel
theorem zero_perm : permute zs25 ≠ zs25 := by
  intro h
  have : gt (permute zs25) 0 ≠ 0 := by decide +kernel
  rw [h] at this
  exact this (by decide)

end Go.Proofs.YtfaonieaagepjaaDoor

namespace Go.Proofs.YtfaonieaagepjaaDoor
open Go.RowKit
set_option maxRecDepth 100000
set_option linter.unusedVariables false
set_option linter.unusedSimpArgs false

/-- The two tables of layer 4 lie as the text lays them. -/
def KTab (w : World) : Prop := Tab w 4 .u64 rcL ∧ Tab w 3 .i64 turnsL

theorem rotl_any (x k : Int) (w : World) (h : W64 x) (hk0 : 0 ≤ k) (hk : k < 64) :
    Calls Tryd.prog 95 #[.int .u64 x, .int .i64 k] w fun e w' => e = .returned (.int .u64 (rotl x k.toNat)) ∧ w' = w := by
  obtain ⟨hx0, hx⟩ := h
  have ha := and63 k hk0 hk
  have hr := rot_eq x k hx0 hx hk0 hk
  go_enter Tryd.func95, Tryd.ntmps95
  go_wp2
  go_ret
  exact ⟨rfl, rfl⟩

set_option maxRecDepth 100000 in
set_option maxHeartbeats 1000000 in
theorem theta_any (l : List Int) (b T : Nat) (w : World) (hl : l.length = 25) (h : Arr w b T .u64 l) :
    Calls Tryd.prog 94 #[.pointer (some ⟨b, 0, none⟩)] w fun e w' => e = .returned (.tuple #[]) ∧ Arr w' b T .u64 (theta l) ∧ Kept w.heap.size (· = b) w w' := by
  have hb := h.lt
  go_enter Tryd.func94, Tryd.ntmps94
  go_wp2
  obtain ⟨B, hB⟩ : ∃ B, w.heap.size = B := ⟨_, rfl⟩
  rw [hB]
  go_loopw [8] (fun i wr => ∃ k : Nat, k ≤ 25 ∧ i = .int .i64 k ∧ Arr wr B 118 .u64 (thC l k) ∧ Arr wr b T .u64 l ∧ Kept B (· = b) w wr) (fun i _ => (25 - intOf i).toNat)
  case atStart => exact ⟨0, by omega, rfl, by subst hB; exact Arr.new w 118 .u64 (thC l 0), h.alloc _, (Kept.refl _ _ _).alloc _ (by omega)⟩
  case round =>
    obtain ⟨k, hk, rfl, hc, ha, hg⟩ := hrel
    by_cases hlt : k < 25
    · have hck := ha.cell k (by omega)
      have hcm := hc.cell (k % 5) (by rw [thC_len]; omega)
      have hcf := hc.free (k % 5)
      have hlt' : (k : Int) < 25 := by omega
      go_wp2_with fail
      go_quiet (fail)
      go_wp2
      go_roundw
      case rel => exact ⟨k + 1, by omega, by go_num, (hc.drewN nq).set _ _, (ha.drewN nq).other _ _ _ (by omega), (hg.drewN nq).set _ _ _ (by omega)⟩
      case measure => simp [intOf]; omega
    · have hk25 : Hid (k = 25) := by show k = 25; omega
      clear hk
      go_wp2
      obtain ⟨c, hcc⟩ : ∃ c, thC l k = c := ⟨_, rfl⟩
      have hcw : Ws c := hcc ▸ thC_W l k
      rw [hcc] at hc
      have HC : Hid (thC l 25 = c) := by rw [← hcc, hk25.out]; rfl
      clear hcc
      go_loopw [22] (fun i wr => ∃ k : Nat, k ≤ 25 ∧ i = .int .i64 k ∧ Arr wr B 118 .u64 c ∧ Arr wr b T .u64 (thA c l k) ∧ Kept B (· = b) w wr) (fun i _ => (25 - intOf i).toNat)
      case atStart => exact ⟨0, by omega, rfl, hc, ha, hg⟩
      case round =>
        clear hc ha hg
        obtain ⟨k, hk, rfl, hc, ha, hg⟩ := hrel
        have hcl : c.length = 5 := by rw [← HC.out, thC_len]
        by_cases hlt : k < 25
        · have hck := ha.cell k (by rw [thA_len]; omega)
          have hc4 := hc.cell ((k % 5 + 4) % 5) (by omega)
          have hc1 := hc.cell ((k % 5 + 1) % 5) (by omega)
          have haf := ha.free k
          have hlt' : (k : Int) < 25 := by omega
          obtain ⟨m4, e4⟩ : ∃ m : Nat, (k % 5 + 4) % 5 = m := ⟨_, rfl⟩
          obtain ⟨m1, e1⟩ : ∃ m : Nat, (k % 5 + 1) % 5 = m := ⟨_, rfl⟩
          have b4 : (m4 : Int) < 5 := by omega
          have b1 : (m1 : Int) < 5 := by omega
          have f4 : (IntKind.i64.wrap ((k : Int) % 5 + 4)).tmod 5 = (m4 : Int) := wtmod _ 5 m4 (by omega) (by omega) (by omega)
          have f1 : (IntKind.i64.wrap ((k : Int) % 5 + 1)).tmod 5 = (m1 : Int) := wtmod _ 5 m1 (by omega) (by omega) (by omega)
          have hr := rotl_any (gt c m1) 1 wr.drew (hcw.gt _) (by decide) (by decide)
          rw [e4] at hc4
          rw [e1] at hc1
          clear hcw
          go_wp2_with fail
          go_still_tail 20, (by kernel_rfl)
          still_call hr
          repeat still_step
          refine wpStill_nil ?_
          change wpList _ _ _ _ _ wr.drew
          go_wp2
          go_roundw
          case rel => exact ⟨k + 1, by omega, by go_num, hc.drew.other _ _ _ (by omega), by have := ha.drew.set k (bits .xor .u64 (gt (thA c l k) k) (bits .xor .u64 (gt c m4) (rotl (gt c m1) 1))); rw [thA, e4, e1]; exact this, hg.drew.set _ _ _ (by omega)⟩
          case measure => simp [intOf]; omega
        · have hk25 : k = 25 := by omega
          go_wp2
          go_end0
          refine ⟨rfl, ?_, hB ▸ hg⟩
          rw [theta, HC.out, ← hk25]; exact ha

end Go.Proofs.YtfaonieaagepjaaDoor

namespace Go.Proofs.YtfaonieaagepjaaDoor
open Go.RowKit
set_option maxRecDepth 100000
set_option linter.unusedVariables false
set_option linter.unusedSimpArgs false

theorem inf_a25 : (Tryd.prog.info? 100).map (·.size) = some 25 := by kernel_rfl
theorem inf_u64 : (Tryd.prog.info? 25).map (·.size) = some 1 := by kernel_rfl

theorem zero25 : #[Value.int .u64 0, .int .u64 0, .int .u64 0, .int .u64 0, .int .u64 0, .int .u64 0, .int .u64 0, .int .u64 0, .int .u64 0, .int .u64 0, .int .u64 0, .int .u64 0, .int .u64 0, .int .u64 0, .int .u64 0, .int .u64 0, .int .u64 0, .int .u64 0, .int .u64 0, .int .u64 0, .int .u64 0, .int .u64 0, .int .u64 0, .int .u64 0, .int .u64 0] = U .u64 (List.replicate 25 0) := rfl

set_option maxHeartbeats 2000000 in
theorem round_any (l : List Int) (i : Nat) (w : World) (hl : l.length = 25) (hw : Ws l) (hi : i < 24) (ht0 : KTab w) (hz : 3 < w.heap.size) (hz0 : 4 < w.heap.size) :
    Calls Tryd.prog 90 #[.agg (U .u64 l), .int .i64 i] w fun e w' => e = .returned (.agg (U .u64 (roundS l i))) ∧ Below w.heap.size w w' := by
  go_enter Tryd.func90, Tryd.ntmps90
  go_wp2_with fail
  obtain ⟨B, hB⟩ : ∃ B, w.heap.size = B := ⟨_, rfl⟩
  have hA0 : Arr (w.alloc (.cells (U .u64 l) 100)) B 100 .u64 l := by subst hB; exact Arr.new _ _ _ _
  have hA : Arr ((w.alloc (.cells (U .u64 l) 100)).alloc (.cells (U .u64 (List.replicate 25 0)) 100)) B 100 .u64 l := hA0.alloc _
  have hR : Arr ((w.alloc (.cells (U .u64 l) 100)).alloc (.cells (U .u64 (List.replicate 25 0)) 100)) (B + 1) 100 .u64 (List.replicate 25 0) := by
    subst hB; have := Arr.new (w.alloc (.cells (U .u64 l) 100)) 100 .u64 (List.replicate 25 0); simpa using this
  have hK : Kept B (fun _ => False) w ((w.alloc (.cells (U .u64 l) 100)).alloc (.cells (U .u64 (List.replicate 25 0)) 100)) :=
    ((Kept.refl _ _ _).alloc _ (by omega)).alloc _ (by simp; omega)
  rw [hB, zero25]
  (with_reducible refine (theta_any l B 100 _ hl hA).mono ?_)
  rintro e w1 ⟨rfl, hA1, hk1⟩
  have hs1 := hk1.size
  simp only [World.size_alloc, hB] at hk1 hs1
  replace hR := hR.kept hk1 (by omega) (by omega)
  replace hK := hK.trans (S := fun _ => False) hk1 (by omega) (by intro k h1 h2; omega)
  obtain ⟨L, hL⟩ : ∃ L, theta l = L := ⟨_, rfl⟩
  rw [hL] at hA1
  have hLl : L.length = 25 := by rw [← hL, theta_len, hl]
  have hLw : Ws L := hL ▸ theta_W hw
  have HL := Lib.hid hL
  rw [hB] at hz hz0
  have hBw : w.heap.size ≤ B ∧ B ≤ w.heap.size := by omega
  have hBv := Lib.hid hB
  clear hA0 hA hB hL hs1 hl
  go_wp2_with (refine wpList_load_arr rfl 100 _ rfl rfl (hA1.alloc _) Tryd.underlying100 rfl 25 inf_a25 hLl ?_)
  obtain ⟨C, hC⟩ : ∃ C, w1.heap.size = C := ⟨_, rfl⟩
  have hCB := hk1.size
  simp only [World.size_alloc] at hCB
  have hb0 : Arr (w1.alloc (.cells (U .u64 (List.replicate 25 0)) 100)) C 100 .u64 (rhoB L 0) := by subst hC; exact Arr.new _ _ _ _
  have hBC : B + 2 ≤ C := by omega
  clear hBw
  replace hA1 := hA1.alloc (.cells (U .u64 (List.replicate 25 0)) 100)
  replace hR := hR.alloc (.cells (U .u64 (List.replicate 25 0)) 100)
  replace hK := hK.alloc (.cells (U .u64 (List.replicate 25 0)) 100) (by omega)
  rw [zero25, hC]
  clear hC hCB hk1
  go_loopw [22] (fun i wr => ∃ k : Nat, k ≤ 25 ∧ i = .int .i64 k ∧ Arr wr C 100 .u64 (rhoB L k) ∧ Arr wr B 100 .u64 L ∧ Arr wr (B + 1) 100 .u64 (List.replicate 25 0) ∧ Kept B (fun _ => False) w wr) (fun i _ => (25 - intOf i).toNat)
  case atStart => exact ⟨0, by omega, rfl, hb0, hA1, hR, hK⟩
  case round =>
    clear hA1 hb0 hR hK
    obtain ⟨k, hk, rfl, hc, ha, hr, hg⟩ := hrel
    by_cases hlt : k < 25
    · have hix := run_index_arr (P := Tryd.prog) Tryd.underlying100 Tryd.underlying25 inf_u64 hLl k hlt
      have htb := ht0.2.kept hg (by omega) (fun h => h) k hlt
      have htr := turns_range k
      have hcf := hc.free (k / 5 + 5 * ((2 * (k % 5) + 3 * (k / 5)) % 5))
      have hcc := hc.cell (k / 5 + 5 * ((2 * (k % 5) + 3 * (k / 5)) % 5)) (by rw [rhoB_len]; omega)
      have hlt' : (k : Int) < 25 := by omega
      go_wp2_with (go_at_call 95; refine (rotl_any _ _ _ (hLw.gt k) htr.1 htr.2).mono ?_; rintro e w' ⟨rfl, rfl⟩)
      go_roundw
      case rel => exact ⟨k + 1, by omega, by go_num, hc.set _ _, ha.other _ _ _ (by omega), hr.other _ _ _ (by omega), hg.set _ _ _ (by omega)⟩
      case measure => simp [intOf]; omega
    · have hk25 : Hid (k = 25) := by show k = 25; omega
      have hlt' : ¬ ((k : Int) < 25) := by omega
      clear hk hlt
      go_wp2_with fail
      obtain ⟨b, hbb⟩ : ∃ b, rhoB L k = b := ⟨_, rfl⟩
      rw [hbb] at hc
      have hbl : b.length = 25 := by rw [← hbb, rhoB_len]
      have HB : Hid (rhoB L 25 = b) := by rw [← hbb, hk25.out]; rfl
      have hbw : Ws b := hbb ▸ rhoB_W _ _
      clear hbb
      go_loopw [46] (fun i wr => ∃ k : Nat, k ≤ 25 ∧ i = .int .i64 k ∧ Arr wr C 100 .u64 b ∧ Arr wr B 100 .u64 (chiA b L k) ∧ Arr wr (B + 1) 100 .u64 (List.replicate 25 0) ∧ Kept B (fun _ => False) w wr) (fun i _ => (25 - intOf i).toNat)
      case atStart => exact ⟨0, by omega, rfl, hc, ha, hr, hg⟩
      case round =>
        clear hc ha hr hg
        obtain ⟨k, hk, rfl, hc, ha, hr, hg⟩ := hrel
        by_cases hlt : k < 25
        · obtain ⟨m1, e1⟩ : ∃ m : Nat, (k % 5 + 1) % 5 = m := ⟨_, rfl⟩
          obtain ⟨m2, e2⟩ : ∃ m : Nat, (k % 5 + 2) % 5 = m := ⟨_, rfl⟩
          obtain ⟨n1, g1⟩ : ∃ m : Nat, k / 5 * 5 + m1 = m := ⟨_, rfl⟩
          obtain ⟨n2, g2⟩ : ∃ m : Nat, k / 5 * 5 + m2 = m := ⟨_, rfl⟩
          have b1 : (n1 : Int) < 25 := by omega
          have b2 : (n2 : Int) < 25 := by omega
          have f1 : (IntKind.i64.wrap ((k : Int) % 5 + 1)).tmod 5 = (m1 : Int) := wtmod _ 5 m1 (by omega) (by omega) (by omega)
          have f2 : (IntKind.i64.wrap ((k : Int) % 5 + 2)).tmod 5 = (m2 : Int) := wtmod _ 5 m2 (by omega) (by omega) (by omega)
          have q1 : IntKind.i64.wrap ((k : Int) / 5 * 5 + (m1 : Int)) = (n1 : Int) := by rw [IntWalk.i64_in _ (by omega)]; omega
          have q2 : IntKind.i64.wrap ((k : Int) / 5 * 5 + (m2 : Int)) = (n2 : Int) := by rw [IntWalk.i64_in _ (by omega)]; omega
          have hck := hc.cell k (by omega)
          have hc1 := hc.cell n1 (by omega)
          have hc2 := hc.cell n2 (by omega)
          have haf := ha.free k
          have hak := ha.cell k (by rw [chiA_len]; omega)
          have hlt' : (k : Int) < 25 := by omega
          go_wp2_with fail
          go_still_tail 22, (by kernel_rfl)
          change wpList _ _ _ _ _ wr.drew
          go_wp2_with fail
          go_roundw
          case rel => exact ⟨k + 1, by omega, by go_num, hc.drew.other _ _ _ (by omega), by have := ha.drew.set k (bits .xor .u64 (gt b k) (bits .and .u64 (not64 (gt b n1)) (gt b n2))); rw [chiA, e1, e2, g1, g2]; exact this, hr.drew.other _ _ _ (by omega), hg.drew.set _ _ _ (by omega)⟩
          case measure => simp [intOf]; omega
        · have hk25 : k = 25 := by omega
          have hlt' : ¬ ((k : Int) < 25) := by omega
          obtain ⟨A, hAA⟩ : ∃ A, chiA b L k = A := ⟨_, rfl⟩
          rw [hAA] at ha
          have hAl : A.length = 25 := by rw [← hAA, chiA_len, hLl]
          have hfin : Hid (st A 0 (bits .xor .u64 (gt A 0) (gt rcL i)) = roundS l i) := by
            show _ = _
            rw [roundS, HL.out, HB.out, ← hk25, hAA]
          clear hk25 hAA
          have hti := ht0.1.kept hg (by omega) (fun h => h) i hi
          have ha0 := ha.cell 0 (by omega)
          have haf := ha.free 0
          go_wp2_with fail
          go_still_tail 7, (by kernel_rfl)
          change wpList _ _ _ _ _ wr.drew
          have ha2 := ha.drew.set 0 (bits .xor .u64 (gt A 0) (gt rcL i))
          go_wp2_with (first | (refine wpList_load_arr rfl 100 _ rfl rfl ha2 Tryd.underlying100 rfl 25 inf_a25 (by rw [st_len, hAl]) ?_) | (refine wpList_store_arr rfl 100 _ _ rfl rfl rfl ((hr.drew).other _ _ _ (by omega)) 25 inf_a25 (by rw [st_len, hAl]) rfl ?_))
          refine bodyPost_arr 4 100 25 Tryd.underlying100 rfl inf_a25 rfl rfl rfl ((hr.drew.other B 0 (.int .u64 (bits .xor .u64 (gt A 0) (gt rcL i))) (by omega)).setRow _) (by rw [st_len, hAl]) ⟨by rw [hfin.out], ?_⟩
          have hk2 := ((hg.drew.set B 0 (.int .u64 (bits .xor .u64 (gt A 0) (gt rcL i))) (by omega)).setRow (B + 1) (U .u64 (st A 0 (bits .xor .u64 (gt A 0) (gt rcL i)))) (by omega)).below
          exact hBv.out ▸ hk2

/-- A round that there isn't. -/
theorem round_none (l : List Int) (i : Int) (w : World) (hl : l.length = 25) (hi : ¬ (0 ≤ i ∧ i < 24)) :
    Calls Tryd.prog 90 #[.agg (U .u64 l), .int .i64 i] w fun e w' => e = .returned (.agg (U .u64 l)) ∧ Below w.heap.size w w' := by
  have hA0 := Arr.new w 100 .u64 l
  have hA : Arr ((w.alloc (.cells (U .u64 l) 100)).alloc (.cells (U .u64 (List.replicate 25 0)) 100)) w.heap.size 100 .u64 l := hA0.alloc _
  have hR : Arr ((w.alloc (.cells (U .u64 l) 100)).alloc (.cells (U .u64 (List.replicate 25 0)) 100)) (w.heap.size + 1) 100 .u64 (List.replicate 25 0) := by
    have := Arr.new (w.alloc (.cells (U .u64 l) 100)) 100 .u64 (List.replicate 25 0); simpa using this
  have hK : Kept w.heap.size (fun _ => False) w ((w.alloc (.cells (U .u64 l) 100)).alloc (.cells (U .u64 (List.replicate 25 0)) 100)) :=
    ((Kept.refl _ _ _).alloc _ (by omega)).alloc _ (by simp)
  rw [← zero25] at hA hR hK
  rcases Int.lt_or_le i 0 with h | h
  all_goals
    go_enter Tryd.func90, Tryd.ntmps90
    have h24 : 24 ≤ i ∨ i < 0 := by omega
    go_wp2_with (first | (refine wpList_load_arr rfl 100 _ rfl rfl hA Tryd.underlying100 rfl 25 inf_a25 hl ?_) | (refine wpList_store_arr rfl 100 _ _ rfl rfl rfl hR 25 inf_a25 hl rfl ?_))
    exact bodyPost_arr 4 100 25 Tryd.underlying100 rfl inf_a25 rfl rfl rfl (hR.setRow _) hl ⟨rfl, (hK.setRow _ _ (by omega)).below⟩

end Go.Proofs.YtfaonieaagepjaaDoor

namespace Go.Proofs.YtfaonieaagepjaaDoor
open Go.RowKit
set_option maxRecDepth 100000
set_option linter.unusedVariables false
set_option linter.unusedSimpArgs false

theorem KTab.kept {w w' : World} {B : Nat} (h : KTab w) (hk : Kept B (fun _ => False) w w') (h0 : 4 < B) (h1 : 3 < B) : KTab w' :=
  ⟨Tab.kept h.1 hk h0 (fun h => h), Tab.kept h.2 hk h1 (fun h => h)⟩
theorem KTab.below {w w' : World} {B : Nat} (h : KTab w) (hk : Below B w w') (h0 : 4 < B) (h1 : 3 < B) : KTab w' := h.kept (Kept.of_below hk) h0 h1

set_option maxHeartbeats 2000000 in
theorem permute_any (l : List Int) (w : World) (hl : l.length = 25) (hw : Ws l) (ht0 : KTab w) (hz : 3 < w.heap.size) (hz0 : 4 < w.heap.size) :
    Calls Tryd.prog 83 #[.agg (U .u64 l)] w fun e w' => e = .returned (.agg (U .u64 (permute l))) ∧ Below w.heap.size w w' := by
  go_enter Tryd.func83, Tryd.ntmps83
  go_wp2_with fail
  obtain ⟨B, hB⟩ : ∃ B, w.heap.size = B := ⟨_, rfl⟩
  have hA0 : Arr (w.alloc (.cells (U .u64 l) 100)) B 100 .u64 l := by subst hB; exact Arr.new _ _ _ _
  have hA := hA0.alloc (.cells (U .u64 (List.replicate 25 0)) 100)
  have hR : Arr ((w.alloc (.cells (U .u64 l) 100)).alloc (.cells (U .u64 (List.replicate 25 0)) 100)) (B + 1) 100 .u64 (List.replicate 25 0) := by
    subst hB; have := Arr.new (w.alloc (.cells (U .u64 l) 100)) 100 .u64 (List.replicate 25 0); simpa using this
  have hK : Kept B (fun _ => False) w ((w.alloc (.cells (U .u64 l) 100)).alloc (.cells (U .u64 (List.replicate 25 0)) 100)) :=
    ((Kept.refl _ _ _).alloc _ (by omega)).alloc _ (by simp; omega)
  rw [hB, zero25]
  rw [hB] at hz hz0
  have hBv := Lib.hid hB
  clear hA0 hB
  go_loopw [4] (fun i wr => ∃ k : Nat, k ≤ 24 ∧ i = .int .i64 k ∧ Arr wr B 100 .u64 (permN l k) ∧ Arr wr (B + 1) 100 .u64 (List.replicate 25 0) ∧ Kept B (fun _ => False) w wr) (fun i _ => (24 - intOf i).toNat)
  case atStart => exact ⟨0, by omega, rfl, hA, hR, hK⟩
  case round =>
    clear hA hR hK
    obtain ⟨k, hk, rfl, ha, hr, hg⟩ := hrel
    obtain ⟨L, hL⟩ : ∃ L, permN l k = L := ⟨_, rfl⟩
    have hLl : L.length = 25 := by rw [← hL, permN_len, hl]
    have hLw : Ws L := hL ▸ permN_W hw k
    rw [hL] at ha
    have HL := Lib.hid hL
    clear hL
    have hsz := hr.lt
    by_cases hlt : k < 24
    · have hlt' : (k : Int) < 24 := by omega
      have hT := ht0.kept hg hz0 hz
      go_wp2_with (first | (refine wpList_load_arr rfl 100 _ rfl rfl ha Tryd.underlying100 rfl 25 inf_a25 hLl ?_))
      (with_reducible refine (round_any L k wr hLl hLw hlt hT (by omega) (by omega)).mono ?_)
      rintro e w1 ⟨rfl, hb⟩
      replace ha := ha.below hb (by omega)
      replace hr := hr.below hb (by omega)
      replace hg := hg.trans (S' := fun _ => False) (Kept.of_below hb) (by omega) (fun _ _ h => h)
      have hl2 : (roundS L k).length = 25 := by rw [roundS_len, hLl]
      go_wp2_with (refine wpList_store_arr rfl 100 _ _ rfl rfl rfl ha 25 inf_a25 hl2 hLl ?_)
      go_roundw
      case rel => exact ⟨k + 1, by omega, by go_num, by rw [permN, HL.out]; exact ha.setRow _, hr.otherRow _ _ (by omega), hg.setRow _ _ (by omega)⟩
      case measure => simp [intOf]; omega
    · have hk24 : k = 24 := by omega
      have hfin : Hid (L = permute l) := by show L = _; rw [← HL.out, hk24]; rfl
      have hlt' : ¬ ((k : Int) < 24) := by omega
      clear hk24 hlt
      go_wp2_with (first | (refine wpList_load_arr rfl 100 _ rfl rfl ha Tryd.underlying100 rfl 25 inf_a25 hLl ?_) | (refine wpList_store_arr rfl 100 _ _ rfl rfl rfl hr 25 inf_a25 hLl rfl ?_))
      refine bodyPost_arr 2 100 25 Tryd.underlying100 rfl inf_a25 rfl rfl rfl (hr.setRow _) hLl ⟨by rw [hfin.out], ?_⟩
      exact hBv.out ▸ (hg.setRow (B + 1) _ (by omega)).below

end Go.Proofs.YtfaonieaagepjaaDoor

namespace Go.Proofs.YtfaonieaagepjaaDoor
open Go.RowKit
set_option maxRecDepth 100000
set_option linter.unusedVariables false
set_option linter.unusedSimpArgs false

theorem inf_a5 : (Tryd.prog.info? 118).map (·.size) = some 5 := by kernel_rfl
theorem zero5 : #[Value.int .u64 0, .int .u64 0, .int .u64 0, .int .u64 0, .int .u64 0] = U .u64 (List.replicate 5 0) := rfl

theorem rol_any (x n : Int) (w : World) (h : W64 x) (hn0 : 0 ≤ n) (hn : n ≤ 1000000000) :
    Calls Tryd.prog 91 #[.int .u64 x, .int .i64 n] w fun e w' => e = .returned (.int .u64 (rotl x (n % 64).toNat)) ∧ w' = w := by
  obtain ⟨hx0, hx⟩ := h
  by_cases h0 : n % 64 = 0
  · have he : rotl x (n % 64).toNat = x := by
      have e0 : (bv x).rotateLeft 0 = bv x := by
        rw [BitVec.rotateLeft_def, Nat.zero_mod, BitVec.shiftLeft_zero, BitVec.ushiftRight_eq_zero (by omega), BitVec.or_zero]
      rw [h0]; show (((bv x).rotateLeft 0).toNat : Int) = x
      rw [e0]; exact bv_toNat x hx0 hx
    have E := Lib.hid he
    clear he
    go_enter Tryd.func91, Tryd.ntmps91
    go_wp2
    go_ret
    exact ⟨by rw [E.out]; rfl, rfl⟩
  · have h1 : ¬ ((n % 64 == 0) = true) := by simpa using h0
    obtain ⟨k, hk⟩ : ∃ k : Int, n % 64 = k := ⟨_, rfl⟩
    rw [hk] at h0 h1 ⊢
    have hr := rot_eq x k hx0 hx (by omega) (by omega)
    have hk0 : 0 ≤ k := by omega
    have hk64 : k < 64 := by omega
    have h2 : (k == 0) = false := by simpa using h0
    go_enter Tryd.func91, Tryd.ntmps91
    go_wp2
    go_ret
    exact ⟨rfl, rfl⟩

theorem rho_arith (t : Nat) (ht : t < 24) : ∃ m : Nat, ((t : Int) + 1) * ((t : Int) + 2) = (m : Int) ∧ m / 2 % 64 = (t + 1) * (t + 2) / 2 % 64 ∧ m ≤ 1000 := by
  have hmb : (t + 1) * (t + 2) ≤ 1000 := Nat.le_trans (Nat.mul_le_mul (show t + 1 ≤ 25 by omega) (show t + 2 ≤ 26 by omega)) (by decide)
  exact ⟨(t + 1) * (t + 2), by push_cast; rfl, rfl, hmb⟩
theorem step_arith1 (k : Nat) (d : Nat) (hk : k < 5) (hd : d ≤ 20) : IntKind.i64.wrap ((k : Int) + (d : Int)) = ((k + d : Nat) : Int) := by
  rw [IntWalk.i64_in _ (by omega)]; omega

set_option maxRecDepth 100000 in
set_option maxHeartbeats 4000000 in
theorem step_any (l : List Int) (rc : Int) (w : World) (hl : l.length = 25) (hw : Ws l) :
    Calls Tryd.prog 87 #[.agg (U .u64 l), .int .u64 rc] w fun e w' => e = .returned (.agg (U .u64 (stepS l rc))) ∧ Below w.heap.size w w' := by
  go_enter Tryd.func87, Tryd.ntmps87
  go_upto_block 0 with (fail)
  obtain ⟨B, hB⟩ : ∃ B, w.heap.size = B := ⟨_, rfl⟩
  have hA0 : Arr (w.alloc (.cells (U .u64 l) 100)) B 100 .u64 l := by subst hB; exact Arr.new _ _ _ _
  have hR0 : Arr ((w.alloc (.cells (U .u64 l) 100)).alloc (.cells (U .u64 (List.replicate 25 0)) 100)) (B + 1) 100 .u64 (List.replicate 25 0) := by
    subst hB; have := Arr.new (w.alloc (.cells (U .u64 l) 100)) 100 .u64 (List.replicate 25 0); simpa using this
  have hC0 : Arr (((w.alloc (.cells (U .u64 l) 100)).alloc (.cells (U .u64 (List.replicate 25 0)) 100)).alloc (.cells (U .u64 (List.replicate 5 0)) 118)) (B + 1 + 1) 118 .u64 (List.replicate 5 0) := by
    subst hB; have := Arr.new ((w.alloc (.cells (U .u64 l) 100)).alloc (.cells (U .u64 (List.replicate 25 0)) 100)) 118 .u64 (List.replicate 5 0); simpa using this
  have hA := (hA0.alloc (.cells (U .u64 (List.replicate 25 0)) 100)).alloc (.cells (U .u64 (List.replicate 5 0)) 118)
  have hR := hR0.alloc (.cells (U .u64 (List.replicate 5 0)) 118)
  have hK : Kept B (fun _ => False) w (((w.alloc (.cells (U .u64 l) 100)).alloc (.cells (U .u64 (List.replicate 25 0)) 100)).alloc (.cells (U .u64 (List.replicate 5 0)) 118)) :=
    (((Kept.refl _ _ _).alloc _ (by omega)).alloc _ (by simp; omega)).alloc _ (by simp; omega)
  rw [hB, zero25, zero5]
  have hBv := Lib.hid hB
  clear hA0 hR0 hB
  obtain ⟨c, hcc⟩ : ∃ c, fC l 5 = c := ⟨_, rfl⟩
  have hcw : Ws c := hcc ▸ fC_W l 5
  have hcl : c.length = 5 := by rw [← hcc, fC_len]
  have HC := Lib.hid hcc
  clear hcc
  go_cut [] (fun wr => Arr wr B 100 .u64 l ∧ Arr wr (B + 1) 100 .u64 (List.replicate 25 0) ∧ Arr wr (B + 1 + 1) 118 .u64 c ∧ Kept B (fun _ => False) w wr)
  case first =>
    go_wp2_with fail
    go_loopw [6] (fun i wr => ∃ k : Nat, k ≤ 5 ∧ i = .int .i64 k ∧ Arr wr B 100 .u64 l ∧ Arr wr (B + 1) 100 .u64 (List.replicate 25 0) ∧ Arr wr (B + 1 + 1) 118 .u64 (fC l k) ∧ Kept B (fun _ => False) w wr) (fun i _ => (5 - intOf i).toNat)
    case atStart => exact ⟨0, by omega, rfl, hA, hR, hC0, hK⟩
    case round =>
      clear hA hR hC0 hK
      obtain ⟨k, hk, rfl, ha, hr, hc, hg⟩ := hrel
      by_cases hlt : k < 5
      · have hlt' : (k : Int) < 5 := by omega
        have q5 : IntKind.i64.wrap ((k : Int) + 5) = ((k + 5 : Nat) : Int) := step_arith1 k 5 hlt (by omega)
        have q10 : IntKind.i64.wrap ((k : Int) + 10) = ((k + 10 : Nat) : Int) := step_arith1 k 10 hlt (by omega)
        have q15 : IntKind.i64.wrap ((k : Int) + 15) = ((k + 15 : Nat) : Int) := step_arith1 k 15 hlt (by omega)
        have q20 : IntKind.i64.wrap ((k : Int) + 20) = ((k + 20 : Nat) : Int) := step_arith1 k 20 hlt (by omega)
        obtain ⟨a5, e5⟩ : ∃ m : Nat, k + 5 = m := ⟨_, rfl⟩
        obtain ⟨a10, e10⟩ : ∃ m : Nat, k + 10 = m := ⟨_, rfl⟩
        obtain ⟨a15, e15⟩ : ∃ m : Nat, k + 15 = m := ⟨_, rfl⟩
        obtain ⟨a20, e20⟩ : ∃ m : Nat, k + 20 = m := ⟨_, rfl⟩
        rw [e5] at q5
        rw [e10] at q10
        rw [e15] at q15
        rw [e20] at q20
        have b0 : (k : Int) < 25 := by omega
        have b5 : (a5 : Int) < 25 := by omega
        have b10 : (a10 : Int) < 25 := by omega
        have b15 : (a15 : Int) < 25 := by omega
        have b20 : (a20 : Int) < 25 := by omega
        have c0 := ha.cell k (by omega)
        have c5 := ha.cell a5 (by omega)
        have c10 := ha.cell a10 (by omega)
        have c15 := ha.cell a15 (by omega)
        have c20 := ha.cell a20 (by omega)
        have cc := hc.cell k (by rw [fC_len]; omega)
        have cf := hc.free k
        go_wp2_with fail
        go_still_tail 25, (by kernel_rfl)
        change wpList _ _ _ _ _ wr.drew
        go_wp2_with fail
        go_roundw
        case rel => exact ⟨k + 1, by omega, by go_num, ha.drew.other _ _ _ (by omega), hr.drew.other _ _ _ (by omega), by have := hc.drew.set k (bits .xor .u64 (bits .xor .u64 (bits .xor .u64 (bits .xor .u64 (gt l k) (gt l a5)) (gt l a10)) (gt l a15)) (gt l a20)); rw [fC, e5, e10, e15, e20]; exact this, hg.drew.set _ _ _ (by omega)⟩
        case measure => simp [intOf]; omega
      · have hlt' : ¬ ((k : Int) < 5) := by omega
        have hk5 : Hid (k = 5) := by show k = 5; omega
        clear hlt hk
        go_wp2_with fail
        go_meet
        exact ⟨ha, hr, by rw [← HC.out, ← hk5.out]; exact hc, hg⟩
  case rest =>
    clear hA hR hC0 hK
    obtain ⟨ha, hr, hc, hg⟩ := hcut
    go_upto_block 2 with (fail)
    obtain ⟨s, hs⟩ : ∃ s, fT c l 5 = s := ⟨_, rfl⟩
    have hsl : s.length = 25 := by rw [← hs, fT_len, hl]
    have hsw : Ws s := hs ▸ fT_W _ _ hw _
    have HS := Lib.hid hs
    clear hs
    go_cut [] (fun wr => Arr wr B 100 .u64 s ∧ Arr wr (B + 1) 100 .u64 (List.replicate 25 0) ∧ Kept B (fun _ => False) w wr)
    case first =>
      go_wp2_with fail
      go_loopw [7] (fun i wr => ∃ k : Nat, k ≤ 5 ∧ i = .int .i64 k ∧ Arr wr B 100 .u64 (fT c l k) ∧ Arr wr (B + 1) 100 .u64 (List.replicate 25 0) ∧ Arr wr (B + 1 + 1) 118 .u64 c ∧ Kept B (fun _ => False) w wr) (fun i _ => (5 - intOf i).toNat)
      case atStart => exact ⟨0, by omega, rfl, ha, hr, hc, hg⟩
      case round =>
        clear ha hr hc hg
        obtain ⟨x, hx, rfl, ha, hr, hc, hg⟩ := hrel
        by_cases hlt : x < 5
        · have hlt' : (x : Int) < 5 := by omega
          obtain ⟨m4, e4⟩ : ∃ m : Nat, (x + 4) % 5 = m := ⟨_, rfl⟩
          obtain ⟨m1, e1⟩ : ∃ m : Nat, (x + 1) % 5 = m := ⟨_, rfl⟩
          have f4 : (IntKind.i64.wrap ((x : Int) + 4)).tmod 5 = (m4 : Int) := wtmod _ 5 m4 (by omega) (by omega) (by omega)
          have f1 : (IntKind.i64.wrap ((x : Int) + 1)).tmod 5 = (m1 : Int) := wtmod _ 5 m1 (by omega) (by omega) (by omega)
          have b4 : (m4 : Int) < 5 := by omega
          have b1 : (m1 : Int) < 5 := by omega
          have c4 := hc.cell m4 (by omega)
          have c1 := hc.cell m1 (by omega)
          go_wp2_with fail
          go_quiet ((go_at_call 91; exact Calls.quiet_of_same (rol_any _ _ _ (hcw.gt m1) (by decide) (by decide))))
          obtain ⟨d, hd⟩ : ∃ d, bits .xor .u64 (gt c m4) (rotl (gt c m1) 1) = d := ⟨_, rfl⟩
          have hfd : Hid (fD c x = d) := by show _ = _; rw [fD, e4, e1, hd]
          rw [hd]
          clear f4 f1 e4 e1 b4 b1 c4 c1 hd
          replace ha := ha.drewN nq
          replace hr := hr.drewN nq
          replace hc := hc.drewN nq
          replace hg := hg.drewN nq
          obtain ⟨wo, hwo⟩ : ∃ wo, wr.drewN nq = wo := ⟨_, rfl⟩
          rw [hwo] at ha hr hc hg
          rw [hwo]
          clear hwo
          obtain ⟨s1, hs1⟩ : ∃ s, fT c l x = s := ⟨_, rfl⟩
          have hsl1 : s1.length = 25 := by rw [← hs1, fT_len, hl]
          rw [hs1] at ha
          have HS1 := Lib.hid hs1
          clear hs1
          go_wp2_with fail
          go_loopw [9] (fun i wr => ∃ y : Nat, y ≤ 5 ∧ i = .int .i64 y ∧ Arr wr B 100 .u64 (fT2 d x s1 y) ∧ Arr wr (B + 1) 100 .u64 (List.replicate 25 0) ∧ Arr wr (B + 1 + 1) 118 .u64 c ∧ Kept B (fun _ => False) w wr) (fun i _ => (5 - intOf i).toNat)
          case atStart => exact ⟨0, by omega, rfl, ha, hr, hc, hg⟩
          case round =>
            clear ha hr hc hg
            obtain ⟨y, hy, rfl, ha, hr, hc, hg⟩ := hrel
            by_cases hlt2 : y < 5
            · have hlt2' : (y : Int) < 5 := by omega
              have cs := ha.cell (x + 5 * y) (by rw [fT2_len]; omega)
              have fs := ha.free (x + 5 * y)
              go_wp2_with fail
              go_roundw
              case rel => exact ⟨y + 1, by omega, by go_num, ha.set _ _, hr.other _ _ _ (by omega), hc.other _ _ _ (by omega), hg.set _ _ _ (by omega)⟩
              case measure => simp [intOf]; omega
            · have hlt2' : ¬ ((y : Int) < 5) := by omega
              have hy5 : Hid (y = 5) := by show y = 5; omega
              clear hlt2 hy
              go_wp2_with fail
              go_roundw
              case rel => exact ⟨x + 1, by omega, by go_num, by rw [fT, HS1.out, hfd.out, ← hy5.out]; exact ha, hr, hc, hg⟩
              case measure => simp [intOf]; omega
        · have hlt' : ¬ ((x : Int) < 5) := by omega
          have HX : Hid (x = 5) := by show x = 5; omega
          clear hlt hx
          go_wp2_with fail
          go_meet
          exact ⟨by rw [← HS.out, ← HX.out]; exact ha, hr, hg⟩
    case rest =>
      clear ha hr hc hg
      obtain ⟨ha, hr, hg⟩ := hcut
      have HA : Hid (stepA l = (fR s 24).1) := by show _ = _; rw [stepA, HC.out, HS.out]
      clear HC HS hcw hcl
      go_upto_block 6 with (fail)
      obtain ⟨L, hL⟩ : ∃ L, (fR s 24).1 = L := ⟨_, rfl⟩
      have hLl : L.length = 25 := by rw [← hL, fR_len, hsl]
      have hLw : Ws L := hL ▸ fR_W _ hsw _
      have HL := Lib.hid hL
      clear hL
      go_cut [] (fun wr => Arr wr B 100 .u64 L ∧ Arr wr (B + 1) 100 .u64 (List.replicate 25 0) ∧ Kept B (fun _ => False) w wr)
      case first =>
        go_wp2_with fail
        go_loopw [10, 11, 12] (fun x y i wr => ∃ t : Nat, t ≤ 24 ∧ i = .int .i64 t ∧ x = .int .i64 (fR s t).2.1 ∧ y = .int .i64 (fR s t).2.2 ∧ Arr wr B 100 .u64 (fR s t).1 ∧ Arr wr (B + 1) 100 .u64 (List.replicate 25 0) ∧ Kept B (fun _ => False) w wr) (fun _ _ i _ => (24 - intOf i).toNat)
        case atStart => exact ⟨0, by omega, rfl, rfl, rfl, ha, hr, hg⟩
        case round =>
          clear ha hr hg
          obtain ⟨t, htt, rfl, rfl, rfl, ha, hr, hg⟩ := hrel
          by_cases hlt : t < 24
          · have hlt' : (t : Int) < 24 := by omega
            obtain ⟨x0, hx0⟩ : ∃ x0, (fR s t).2.1 = x0 := ⟨_, rfl⟩
            obtain ⟨y0, hy0⟩ : ∃ y0, (fR s t).2.2 = y0 := ⟨_, rfl⟩
            obtain ⟨M, hM⟩ : ∃ M, (fR s t).1 = M := ⟨_, rfl⟩
            have hxy := fR_xy s t
            have hMl : M.length = 25 := by rw [← hM, fR_len, hsl]
            have hMw : Ws M := hM ▸ fR_W _ hsw _
            rw [hx0, hy0] at hxy
            rw [hM] at ha
            rw [hx0, hy0]
            have HM := Lib.hid hM
            have HX0 := Lib.hid hx0
            have HY0 := Lib.hid hy0
            clear hM hx0 hy0
            obtain ⟨m, hmi, hh, hmb⟩ := rho_arith t hlt
            have HH := Lib.hid hh
            clear hh
            have cs := ha.cell (x0 + 5 * y0) (by omega)
            have fs := ha.free (x0 + 5 * y0)
            go_wp2_with fail
            (with_reducible refine (rol_any _ _ wr (hMw.gt _) (by omega) (by omega)).mono ?_)
            rintro e w1 ⟨rfl, rfl⟩
            go_wp2_with fail
            go_roundw
            case rel => exact ⟨t + 1, by omega, by go_num, by rw [← HY0.out]; rfl, by rw [fR, HX0.out, HY0.out]; go_num, by have := ha.set (x0 + 5 * y0) (rotl (gt M (x0 + 5 * y0)) (m / 2 % 64)); rw [fR, HX0.out, HY0.out, HM.out, ← HH.out]; exact this, hr.other _ _ _ (by omega), hg.set _ _ _ (by omega)⟩
            case measure => simp [intOf]; omega
          · have hlt' : ¬ ((t : Int) < 24) := by omega
            have ht24 : Hid (t = 24) := by show t = 24; omega
            clear hlt htt
            go_wp2_with fail
            go_meet
            exact ⟨by rw [← HL.out, ← ht24.out]; exact ha, hr, hg⟩
      case rest =>
        clear ha hr hg
        obtain ⟨ha, hr, hg⟩ := hcut
        rw [HL.out] at HA
        clear HL
        go_upto_block 8 with (fail)
        obtain ⟨D, hD⟩ : ∃ D, wc.heap.size = D := ⟨_, rfl⟩
        have hDs := hr.lt
        have hb0 : Arr (wc.alloc (.cells (U .u64 (List.replicate 25 0)) 100)) D 100 .u64 (fP L 0) := by subst hD; exact Arr.new _ _ _ _
        have hBD : B + 2 ≤ D := by omega
        replace ha := ha.alloc (.cells (U .u64 (List.replicate 25 0)) 100)
        replace hr := hr.alloc (.cells (U .u64 (List.replicate 25 0)) 100)
        replace hg := hg.alloc (.cells (U .u64 (List.replicate 25 0)) 100) (by omega)
        rw [zero25, hD]
        clear hD hDs
        obtain ⟨b, hb⟩ : ∃ b, fP L 5 = b := ⟨_, rfl⟩
        have hbl : b.length = 25 := by rw [← hb, fP_len]
        have hbw : Ws b := hb ▸ fP_W _ hLw _
        have HB := Lib.hid hb
        clear hb
        go_cut [] (fun wr => Arr wr B 100 .u64 L ∧ Arr wr (B + 1) 100 .u64 (List.replicate 25 0) ∧ Arr wr D 100 .u64 b ∧ Kept B (fun _ => False) w wr)
        case first =>
          go_wp2_with fail
          go_loopw [10] (fun i wr => ∃ k : Nat, k ≤ 5 ∧ i = .int .i64 k ∧ Arr wr B 100 .u64 L ∧ Arr wr (B + 1) 100 .u64 (List.replicate 25 0) ∧ Arr wr D 100 .u64 (fP L k) ∧ Kept B (fun _ => False) w wr) (fun i _ => (5 - intOf i).toNat)
          case atStart => exact ⟨0, by omega, rfl, ha, hr, hb0, hg⟩
          case round =>
            clear ha hr hg hb0
            obtain ⟨x, hx, rfl, ha, hr, hc, hg⟩ := hrel
            by_cases hlt : x < 5
            · have hlt' : (x : Int) < 5 := by omega
              obtain ⟨s1, hs1⟩ : ∃ s, fP L x = s := ⟨_, rfl⟩
              have hsl1 : s1.length = 25 := by rw [← hs1, fP_len]
              rw [hs1] at hc
              have HS1 := Lib.hid hs1
              clear hs1
              go_wp2_with fail
              go_loopw [11] (fun i wr => ∃ y : Nat, y ≤ 5 ∧ i = .int .i64 y ∧ Arr wr B 100 .u64 L ∧ Arr wr (B + 1) 100 .u64 (List.replicate 25 0) ∧ Arr wr D 100 .u64 (fP2 L x s1 y) ∧ Kept B (fun _ => False) w wr) (fun i _ => (5 - intOf i).toNat)
              case atStart => exact ⟨0, by omega, rfl, ha, hr, hc, hg⟩
              case round =>
                clear ha hr hc hg
                obtain ⟨y, hy, rfl, ha, hr, hc, hg⟩ := hrel
                by_cases hlt2 : y < 5
                · have hlt2' : (y : Int) < 5 := by omega
                  have cs := ha.cell (x + 5 * y) (by omega)
                  have cd := hc.cell (y + 5 * ((2 * x + 3 * y) % 5)) (by rw [fP2_len]; omega)
                  have fs := hc.free (y + 5 * ((2 * x + 3 * y) % 5))
                  go_wp2_with fail
                  go_roundw
                  case rel => exact ⟨y + 1, by omega, by go_num, ha.other _ _ _ (by omega), hr.other _ _ _ (by omega), hc.set _ _, hg.set _ _ _ (by omega)⟩
                  case measure => simp [intOf]; omega
                · have hlt2' : ¬ ((y : Int) < 5) := by omega
                  have hy5 : Hid (y = 5) := by show y = 5; omega
                  clear hlt2 hy
                  go_wp2_with fail
                  go_roundw
                  case rel => exact ⟨x + 1, by omega, by go_num, ha, hr, by rw [fP, HS1.out, ← hy5.out]; exact hc, hg⟩
                  case measure => simp [intOf]; omega
            · have hlt' : ¬ ((x : Int) < 5) := by omega
              have HX : Hid (x = 5) := by show x = 5; omega
              clear hlt hx
              go_wp2_with fail
              go_meet
              exact ⟨ha, hr, by rw [← HB.out, ← HX.out]; exact hc, hg⟩
        case rest =>
          clear ha hr hg hb0
          obtain ⟨ha, hr, hc, hg⟩ := hcut
          go_upto_block 12 with (fail)
          obtain ⟨F, hF⟩ : ∃ F, fX b L 5 = F := ⟨_, rfl⟩
          have hFl : F.length = 25 := by rw [← hF, fX_len, hLl]
          have HF : Hid (stepB l = F) := by show _ = _; rw [stepB, HA.out, HB.out, hF]
          have HF2 := Lib.hid hF
          clear hF HB
          go_cut [] (fun wr => Arr wr B 100 .u64 F ∧ Arr wr (B + 1) 100 .u64 (List.replicate 25 0) ∧ Kept B (fun _ => False) w wr)
          case first =>
            go_wp2_with fail
            go_loopw [10] (fun i wr => ∃ k : Nat, k ≤ 5 ∧ i = .int .i64 k ∧ Arr wr B 100 .u64 (fX b L k) ∧ Arr wr (B + 1) 100 .u64 (List.replicate 25 0) ∧ Arr wr D 100 .u64 b ∧ Kept B (fun _ => False) w wr) (fun i _ => (5 - intOf i).toNat)
            case atStart => exact ⟨0, by omega, rfl, ha, hr, hc, hg⟩
            case round =>
              clear ha hr hc hg
              obtain ⟨x, hx, rfl, ha, hr, hc, hg⟩ := hrel
              by_cases hlt : x < 5
              · have hlt' : (x : Int) < 5 := by omega
                obtain ⟨s1, hs1⟩ : ∃ s, fX b L x = s := ⟨_, rfl⟩
                have hsl1 : s1.length = 25 := by rw [← hs1, fX_len, hLl]
                rw [hs1] at ha
                have HS1 := Lib.hid hs1
                clear hs1
                go_wp2_with fail
                go_loopw [11] (fun i wr => ∃ y : Nat, y ≤ 5 ∧ i = .int .i64 y ∧ Arr wr B 100 .u64 (fX2 b x s1 y) ∧ Arr wr (B + 1) 100 .u64 (List.replicate 25 0) ∧ Arr wr D 100 .u64 b ∧ Kept B (fun _ => False) w wr) (fun i _ => (5 - intOf i).toNat)
                case atStart => exact ⟨0, by omega, rfl, ha, hr, hc, hg⟩
                case round =>
                  clear ha hr hc hg
                  obtain ⟨y, hy, rfl, ha, hr, hc, hg⟩ := hrel
                  by_cases hlt2 : y < 5
                  · have hlt2' : (y : Int) < 5 := by omega
                    obtain ⟨m2, e2⟩ : ∃ m : Nat, (x + 2) % 5 = m := ⟨_, rfl⟩
                    obtain ⟨n0, g0⟩ : ∃ m : Nat, x + 5 * y = m := ⟨_, rfl⟩
                    obtain ⟨n2, g2⟩ : ∃ m : Nat, m2 + 5 * y = m := ⟨_, rfl⟩
                    have f2 : (IntKind.i64.wrap ((x : Int) + 2)).tmod 5 = (m2 : Int) := wtmod _ 5 m2 (by omega) (by omega) (by omega)
                    have p5 : IntKind.i64.wrap (5 * (y : Int)) = 5 * (y : Int) := IntWalk.i64_in _ (by omega)
                    have q0 : IntKind.i64.wrap ((x : Int) + 5 * (y : Int)) = (n0 : Int) := by rw [IntWalk.i64_in _ (by omega)]; omega
                    have q2 : IntKind.i64.wrap ((m2 : Int) + 5 * (y : Int)) = (n2 : Int) := by rw [IntWalk.i64_in _ (by omega)]; omega
                    have b0 : (n0 : Int) < 25 := by omega
                    have b2 : (n2 : Int) < 25 := by omega
                    have c0 := hc.cell n0 (by omega)
                    have c1 := hc.cell ((x + 1) % 5 + 5 * y) (by omega)
                    have c2 := hc.cell n2 (by omega)
                    have cs := ha.cell n0 (by rw [fX2_len]; omega)
                    have fs := ha.free n0
                    go_wp2_with fail
                    go_still_tail 22, (by kernel_rfl)
                    change wpList _ _ _ _ _ wr.drew
                    go_wp2_with fail
                    go_roundw
                    case rel => exact ⟨y + 1, by omega, by go_num, by have := ha.drew.set n0 (bits .xor .u64 (gt b n0) (bits .and .u64 (bits .xor .u64 (gt b ((x + 1) % 5 + 5 * y)) 18446744073709551615) (gt b n2))); rw [fX2, e2, g0, g2]; exact this, hr.drew.other _ _ _ (by omega), hc.drew.other _ _ _ (by omega), hg.drew.set _ _ _ (by omega)⟩
                    case measure => simp [intOf]; omega
                  · have hlt2' : ¬ ((y : Int) < 5) := by omega
                    have hy5 : Hid (y = 5) := by show y = 5; omega
                    clear hlt2 hy
                    go_wp2_with fail
                    go_roundw
                    case rel => exact ⟨x + 1, by omega, by go_num, by rw [fX, HS1.out, ← hy5.out]; exact ha, hr, hc, hg⟩
                    case measure => simp [intOf]; omega
              · have hlt' : ¬ ((x : Int) < 5) := by omega
                have HX : Hid (x = 5) := by show x = 5; omega
                clear hlt hx
                go_wp2_with fail
                go_meet
                exact ⟨by rw [← HF2.out, ← HX.out]; exact ha, hr, hg⟩
          case rest =>
            clear ha hr hg hc
            obtain ⟨ha, hr, hg⟩ := hcut
            have ha0 := ha.cell 0 (by omega)
            have haf := ha.free 0
            obtain ⟨v, hv⟩ : ∃ v, bits .xor .u64 (gt F 0) rc = v := ⟨_, rfl⟩
            have ha2 := ha.set 0 v
            go_wp2_with (first | (refine wpList_load_arr rfl 100 _ rfl rfl ha2 Tryd.underlying100 rfl 25 inf_a25 (by rw [st_len, hFl]) ?_) | (refine wpList_store_arr rfl 100 _ _ rfl rfl rfl (hr.other _ _ _ (by omega)) 25 inf_a25 (by rw [st_len, hFl]) rfl ?_))
            refine bodyPost_arr 4 100 25 Tryd.underlying100 rfl inf_a25 rfl rfl rfl ((hr.other B 0 (.int .u64 v) (by omega)).setRow _) (by rw [st_len, hFl]) ⟨by rw [stepS, HF.out, hv], ?_⟩
            exact hBv.out ▸ ((hg.set B 0 (.int .u64 v) (by omega)).setRow (B + 1) _ (by omega)).below

end Go.Proofs.YtfaonieaagepjaaDoor

namespace Go.Proofs.YtfaonieaagepjaaDoor
open Go.RowKit
set_option maxRecDepth 100000
set_option linter.unusedVariables false
set_option linter.unusedSimpArgs false

theorem inf_a24 : (Tryd.prog.info? 98).map (·.size) = some 24 := by kernel_rfl
theorem zero24 : #[Value.int .u64 0, .int .u64 0, .int .u64 0, .int .u64 0, .int .u64 0, .int .u64 0, .int .u64 0, .int .u64 0, .int .u64 0, .int .u64 0, .int .u64 0, .int .u64 0, .int .u64 0, .int .u64 0, .int .u64 0, .int .u64 0, .int .u64 0, .int .u64 0, .int .u64 0, .int .u64 0, .int .u64 0, .int .u64 0, .int .u64 0, .int .u64 0] = U .u64 (List.replicate 24 0) := rfl
theorem rcL_built : #[Value.int .u64 1, .int .u64 32898, .int .u64 9223372036854808714, .int .u64 9223372039002292224, .int .u64 32907, .int .u64 2147483649, .int .u64 9223372039002292353, .int .u64 9223372036854808585, .int .u64 138, .int .u64 136, .int .u64 2147516425, .int .u64 2147483658, .int .u64 2147516555, .int .u64 9223372036854775947, .int .u64 9223372036854808713, .int .u64 9223372036854808579, .int .u64 9223372036854808578, .int .u64 9223372036854775936, .int .u64 32778, .int .u64 9223372039002259466, .int .u64 9223372039002292353, .int .u64 9223372036854808704, .int .u64 2147483649, .int .u64 9223372039002292232] = U .u64 rcL := rfl

theorem constants_any (w : World) :
    Calls Tryd.prog 78 #[] w fun e w' => e = .returned (.agg (U .u64 rcL)) ∧ Below w.heap.size w w' := by
  go_enter Tryd.func78, Tryd.ntmps78
  have h0 : Arr (w.alloc (.cells (U .u64 (List.replicate 24 0)) 98)) w.heap.size 98 .u64 (List.replicate 24 0) := Arr.new _ _ _ _
  have hk : Kept w.heap.size (fun _ => False) w (w.alloc (.cells (U .u64 (List.replicate 24 0)) 98)) := (Kept.refl _ _ _).alloc _ (by omega)
  rw [← zero24] at h0 hk
  go_wp2_with (refine wpList_store_arr rfl 98 _ _ rfl rfl (congrArg Value.agg rcL_built) h0 24 inf_a24 rfl rfl ?_)
  exact bodyPost_arr 0 98 24 Tryd.underlying98 rfl inf_a24 rfl rfl rfl (h0.setRow _) rfl ⟨rfl, (hk.setRow _ _ (by omega)).below⟩

/-- The register behind t steps. -/
def bitR : Nat → Int
  | 0 => 1
  | t + 1 => if 256 ≤ bitR t * 2 then bits .xor .i64 (bitR t * 2) 369 else bitR t * 2
theorem xor369 (x : Int) (h0 : 256 ≤ x) (h1 : x < 512) : 0 ≤ bits .xor .i64 x 369 ∧ bits .xor .i64 x 369 < 256 := by
  have : ∀ n : Fin 256, 0 ≤ bits .xor .i64 (256 + (n.val : Int)) 369 ∧ bits .xor .i64 (256 + (n.val : Int)) 369 < 256 := by decide +kernel
  have h := this ⟨(x - 256).toNat, by omega⟩
  have e : (256 : Int) + ((x - 256).toNat : Int) = x := by omega
  simp only [e] at h
  exact h
theorem bitR_range (t : Nat) : 0 ≤ bitR t ∧ bitR t < 256 := by
  induction t with
  | zero => exact ⟨by decide, by decide⟩
  | succ t ih =>
    rw [bitR]
    split
    · exact xor369 _ (by omega) (by omega)
    · omega
end Go.Proofs.YtfaonieaagepjaaDoor

namespace Go.Proofs.YtfaonieaagepjaaDoor
open Go.RowKit
set_option maxRecDepth 100000
set_option linter.unusedVariables false
set_option linter.unusedSimpArgs false

/-- A constant, reckoned. -/
def rcF (i : Nat) : Nat → Int
  | 0 => 0
  | j + 1 => bits .or .u64 (rcF i j) (IntKind.u64.wrap (bitR (7 * i + j) % 2 * 2 ^ (2 ^ j - 1)))
theorem pow_arith (k : Nat) (hk : k ≤ 6) : ∃ p : Nat, (2 : Int) ^ k = (p : Int) ∧ p = 2 ^ k ∧ 1 ≤ p ∧ p ≤ 64 := by
  refine ⟨2 ^ k, by push_cast; rfl, rfl, Nat.one_le_two_pow, ?_⟩
  exact Nat.le_trans (Nat.pow_le_pow_right (by decide) hk) (by decide)

/-- The constants that are reckoned are those that are written out. -/
theorem rcF_eq (i : Nat) (hi : i < 24) : rcF i 7 = gt rcL i := by
  have h : ∀ i : Fin 24, rcF i.val 7 = gt rcL i.val := by decide +kernel
  exact h ⟨i, hi⟩

set_option maxHeartbeats 2000000 in
theorem fPermute_any (l rc : List Int) (w : World) (hl : l.length = 25) (hw : Ws l) (hrl : rc.length = 24) :
    Calls Tryd.prog 79 #[.agg (U .u64 l), .agg (U .u64 rc)] w fun e w' => e = .returned (.agg (U .u64 (fPerm l rc 24))) ∧ Below w.heap.size w w' := by
  go_enter Tryd.func79, Tryd.ntmps79
  go_wp2_with fail
  obtain ⟨B, hB⟩ : ∃ B, w.heap.size = B := ⟨_, rfl⟩
  have hA0 : Arr (w.alloc (.cells (U .u64 l) 100)) B 100 .u64 l := by subst hB; exact Arr.new _ _ _ _
  have hC0 : Arr ((w.alloc (.cells (U .u64 l) 100)).alloc (.cells (U .u64 rc) 98)) (B + 1) 98 .u64 rc := by
    subst hB; have := Arr.new (w.alloc (.cells (U .u64 l) 100)) 98 .u64 rc; simpa using this
  have hR0 : Arr (((w.alloc (.cells (U .u64 l) 100)).alloc (.cells (U .u64 rc) 98)).alloc (.cells (U .u64 (List.replicate 25 0)) 100)) (B + 1 + 1) 100 .u64 (List.replicate 25 0) := by
    subst hB; have := Arr.new ((w.alloc (.cells (U .u64 l) 100)).alloc (.cells (U .u64 rc) 98)) 100 .u64 (List.replicate 25 0); simpa using this
  have hA := (hA0.alloc (.cells (U .u64 rc) 98)).alloc (.cells (U .u64 (List.replicate 25 0)) 100)
  have hC := hC0.alloc (.cells (U .u64 (List.replicate 25 0)) 100)
  have hK : Kept B (fun _ => False) w (((w.alloc (.cells (U .u64 l) 100)).alloc (.cells (U .u64 rc) 98)).alloc (.cells (U .u64 (List.replicate 25 0)) 100)) :=
    (((Kept.refl _ _ _).alloc _ (by omega)).alloc _ (by simp; omega)).alloc _ (by simp; omega)
  rw [hB, zero25]
  have hBv := Lib.hid hB
  clear hA0 hC0 hB
  go_loopw [5] (fun i wr => ∃ k : Nat, k ≤ 24 ∧ i = .int .i64 k ∧ Arr wr B 100 .u64 (fPerm l rc k) ∧ Arr wr (B + 1) 98 .u64 rc ∧ Arr wr (B + 1 + 1) 100 .u64 (List.replicate 25 0) ∧ Kept B (fun _ => False) w wr) (fun i _ => (24 - intOf i).toNat)
  case atStart => exact ⟨0, by omega, rfl, hA, hC, hR0, hK⟩
  case round =>
    clear hA hC hR0 hK
    obtain ⟨k, hk, rfl, ha, hc, hr, hg⟩ := hrel
    obtain ⟨L, hL⟩ : ∃ L, fPerm l rc k = L := ⟨_, rfl⟩
    have hLl : L.length = 25 := by rw [← hL, fPerm_len, hl]
    have hLw : Ws L := hL ▸ fPerm_W hw rc k
    rw [hL] at ha
    have HL := Lib.hid hL
    clear hL
    have hsz := hr.lt
    by_cases hlt : k < 24
    · have hlt' : (k : Int) < 24 := by omega
      have hck := hc.cell k (by omega)
      go_wp2_with fail
      go_still_tail 4, (by kernel_rfl)
      refine wpStill_load_arr rfl 100 _ rfl rfl (ha.drew) Tryd.underlying100 rfl 25 inf_a25 hLl ?_
      repeat still_step
      refine wpStill_nil ?_
      change wpList _ _ _ _ _ wr.drew
      have hsz2 : wr.drew.heap.size = wr.heap.size := rfl
      go_wp2_with fail
      (with_reducible refine (step_any L (gt rc k) wr.drew hLl hLw).mono ?_)
      rintro e w1 ⟨rfl, hb⟩
      rw [hsz2] at hb
      replace ha := ha.drew.below hb (by omega)
      replace hc := hc.drew.below hb (by omega)
      replace hr := hr.drew.below hb (by omega)
      replace hg := hg.drew.trans (S' := fun _ => False) (Kept.of_below hb) (by omega) (fun _ _ h => h)
      have hl2 : (stepS L (gt rc k)).length = 25 := by rw [stepS_len, hLl]
      clear hsz2 hb
      go_wp2_with (refine wpList_store_arr rfl 100 _ _ rfl rfl rfl ha 25 inf_a25 hl2 hLl ?_)
      go_roundw
      case rel => exact ⟨k + 1, by omega, by go_num, by rw [fPerm, HL.out]; exact ha.setRow _, hc.otherRow _ _ (by omega), hr.otherRow _ _ (by omega), hg.setRow _ _ (by omega)⟩
      case measure => simp [intOf]; omega
    · have hk24 : k = 24 := by omega
      have hfin : Hid (L = fPerm l rc 24) := by show L = _; rw [← HL.out, hk24]
      have hlt' : ¬ ((k : Int) < 24) := by omega
      clear hk24 hlt
      go_wp2_with (first | (refine wpList_load_arr rfl 100 _ rfl rfl ha Tryd.underlying100 rfl 25 inf_a25 hLl ?_) | (refine wpList_store_arr rfl 100 _ _ rfl rfl rfl hr 25 inf_a25 hLl rfl ?_))
      refine bodyPost_arr 4 100 25 Tryd.underlying100 rfl inf_a25 rfl rfl rfl (hr.setRow _) hLl ⟨by rw [hfin.out], ?_⟩
      exact hBv.out ▸ (hg.setRow (B + 1 + 1) _ (by omega)).below

end Go.Proofs.YtfaonieaagepjaaDoor

namespace Go.Proofs.YtfaonieaagepjaaDoor
open Go.RowKit
set_option maxRecDepth 100000
set_option linter.unusedVariables false
set_option linter.unusedSimpArgs false

/-- What a region of a law keeps: the tables, two states' rows, all that was there. -/
structure KSt (w0 : World) (B a b Ta Tb : Nat) (l m : List Int) (w : World) : Prop where
  a : Arr w a Ta .u64 l
  b : Arr w b Tb .u64 m
  k : Kept B (fun _ => False) w0 w
abbrev KS (w0 : World) (B a b : Nat) (l m : List Int) (w : World) : Prop := KSt w0 B a b 100 100 l m w
theorem KSt.below {w0 w w' : World} {B a b Ta Tb : Nat} {l m : List Int} (h : KSt w0 B a b Ta Tb l m w) (hb : Below w.heap.size w w') (hB : B ≤ w.heap.size) : KSt w0 B a b Ta Tb l m w' :=
  ⟨h.a.below hb h.a.lt, h.b.below hb h.b.lt, h.k.trans (S' := fun _ => False) (Kept.of_below hb) hB (fun _ _ h => h)⟩
theorem KSt.le {w0 w : World} {B a b Ta Tb : Nat} {l m : List Int} (h : KSt w0 B a b Ta Tb l m w) (hB : B ≤ w0.heap.size) : B ≤ w.heap.size := Nat.le_trans hB h.k.size

end Go.Proofs.YtfaonieaagepjaaDoor

namespace Go.Proofs.YtfaonieaagepjaaDoor
open Go.RowKit
set_option maxRecDepth 100000
set_option linter.unusedVariables false
set_option linter.unusedSimpArgs false

/-! ### The contracts, of any number -/
theorem roundI_any (l : List Int) (i : Int) (w : World) (hl : l.length = 25) (hw : Ws l) (ht : KTab w) (hz : 3 < w.heap.size) (hz0 : 4 < w.heap.size) :
    Calls Tryd.prog 90 #[.agg (U .u64 l), .int .i64 i] w fun e w' => e = .returned (.agg (U .u64 (roundI l i))) ∧ Below w.heap.size w w' := by
  by_cases h : 0 ≤ i ∧ i < 24
  · obtain ⟨n, rfl⟩ : ∃ n : Nat, i = n := ⟨i.toNat, by omega⟩
    have e : roundI l (n : Int) = roundS l n := by rw [roundI, if_pos h]; rfl
    rw [e]; exact round_any l n w hl hw (by omega) ht hz hz0
  · have e : roundI l i = l := by rw [roundI, if_neg h]
    rw [e]; exact round_none l i w hl h
theorem fPermuteI_any (l : List Int) (w : World) (hl : l.length = 25) (hw : Ws l) :
    Calls Tryd.prog 79 #[.agg (U .u64 l), .agg (U .u64 rcL)] w fun e w' => e = .returned (.agg (U .u64 (permute l))) ∧ Below w.heap.size w w' := by
  have := fPermute_any l rcL w hl hw rfl
  rw [perm_eq l 24 hl hw] at this
  exact this

theorem KTab.zr {w : World} (h : KTab w) : 4 < w.heap.size := World.block_lt_of_cell? w _ (h.1 0 (by decide))
theorem KTab.zt {w : World} (h : KTab w) : 3 < w.heap.size := World.block_lt_of_cell? w _ (h.2 0 (by decide))

end Go.Proofs.YtfaonieaagepjaaDoor
