import Derived.Test.YtfaonieaagepjaaDoorKecSpec
namespace Go.Proofs.YtfaonieaagepjaaDoor
open Go.RowKit

/-! ### What the reference's rounds compute, as the code goes -/
def fC (s : List Int) : Nat → List Int
  | 0 => List.replicate 5 0
  | k + 1 => st (fC s k) k (bits .xor .u64 (bits .xor .u64 (bits .xor .u64 (bits .xor .u64 (gt s k) (gt s (k + 5))) (gt s (k + 10))) (gt s (k + 15))) (gt s (k + 20)))
theorem fC_len (s : List Int) (k : Nat) : (fC s k).length = 5 := by
  induction k with
  | zero => rfl
  | succ k ih => simp [fC, st, ih]
theorem fC_W (s : List Int) (k : Nat) : Ws (fC s k) := by
  induction k with
  | zero => exact Ws.zeros 5
  | succ k ih => exact ih.st _ (W64_xor _ _)
def fT2 (d : Int) (x : Nat) (s : List Int) : Nat → List Int
  | 0 => s
  | y + 1 => st (fT2 d x s y) (x + 5 * y) (bits .xor .u64 (gt (fT2 d x s y) (x + 5 * y)) d)
theorem fT2_len (d : Int) (x : Nat) (s : List Int) (k : Nat) : (fT2 d x s k).length = s.length := by
  induction k with
  | zero => rfl
  | succ k ih => simp [fT2, st, ih]
theorem fT2_W (d : Int) (x : Nat) (s : List Int) (h : Ws s) (k : Nat) : Ws (fT2 d x s k) := by
  induction k with
  | zero => exact h
  | succ k ih => exact ih.st _ (W64_xor _ _)
def fD (c : List Int) (x : Nat) : Int := bits .xor .u64 (gt c ((x + 4) % 5)) (rotl (gt c ((x + 1) % 5)) 1)
def fT (c s : List Int) : Nat → List Int
  | 0 => s
  | x + 1 => fT2 (fD c x) x (fT c s x) 5
theorem fT_len (c s : List Int) (k : Nat) : (fT c s k).length = s.length := by
  induction k with
  | zero => rfl
  | succ k ih => rw [fT, fT2_len, ih]
theorem fT_W (c s : List Int) (h : Ws s) (k : Nat) : Ws (fT c s k) := by
  induction k with
  | zero => exact h
  | succ k ih => exact fT2_W _ _ _ ih _
/-- rho: the state, and the place. -/
def fR (s : List Int) : Nat → List Int × Nat × Nat
  | 0 => (s, 1, 0)
  | t + 1 => (st (fR s t).1 ((fR s t).2.1 + 5 * (fR s t).2.2) (rotl (gt (fR s t).1 ((fR s t).2.1 + 5 * (fR s t).2.2)) ((t + 1) * (t + 2) / 2 % 64)), (fR s t).2.2, (2 * (fR s t).2.1 + 3 * (fR s t).2.2) % 5)
theorem fR_len (s : List Int) (k : Nat) : (fR s k).1.length = s.length := by
  induction k with
  | zero => rfl
  | succ k ih => simp [fR, st, ih]
theorem fR_W (s : List Int) (h : Ws s) (k : Nat) : Ws (fR s k).1 := by
  induction k with
  | zero => exact h
  | succ k ih => exact ih.st _ (W64_rotl _ _)
theorem fR_xy (s : List Int) (k : Nat) : (fR s k).2.1 < 5 ∧ (fR s k).2.2 < 5 := by
  induction k with
  | zero => exact ⟨show (1 : Nat) < 5 by decide, show (0 : Nat) < 5 by decide⟩
  | succ k ih => exact ⟨ih.2, Nat.mod_lt _ (by decide)⟩
def fP2 (s : List Int) (x : Nat) (b : List Int) : Nat → List Int
  | 0 => b
  | y + 1 => st (fP2 s x b y) (y + 5 * ((2 * x + 3 * y) % 5)) (gt s (x + 5 * y))
theorem fP2_len (s : List Int) (x : Nat) (b : List Int) (k : Nat) : (fP2 s x b k).length = b.length := by
  induction k with
  | zero => rfl
  | succ k ih => simp [fP2, st, ih]
theorem fP2_W (s : List Int) (x : Nat) (b : List Int) (hs : Ws s) (h : Ws b) (k : Nat) : Ws (fP2 s x b k) := by
  induction k with
  | zero => exact h
  | succ k ih => exact ih.st _ (hs.gt _)
def fP (s : List Int) : Nat → List Int
  | 0 => List.replicate 25 0
  | x + 1 => fP2 s x (fP s x) 5
theorem fP_len (s : List Int) (k : Nat) : (fP s k).length = 25 := by
  induction k with
  | zero => rfl
  | succ k ih => rw [fP, fP2_len, ih]
theorem fP_W (s : List Int) (hs : Ws s) (k : Nat) : Ws (fP s k) := by
  induction k with
  | zero => exact Ws.zeros 25
  | succ k ih => exact fP2_W _ _ _ hs ih _
def fX2 (b : List Int) (x : Nat) (s : List Int) : Nat → List Int
  | 0 => s
  | y + 1 => st (fX2 b x s y) (x + 5 * y) (bits .xor .u64 (gt b (x + 5 * y)) (bits .and .u64 (bits .xor .u64 (gt b ((x + 1) % 5 + 5 * y)) 18446744073709551615) (gt b ((x + 2) % 5 + 5 * y))))
theorem fX2_len (b : List Int) (x : Nat) (s : List Int) (k : Nat) : (fX2 b x s k).length = s.length := by
  induction k with
  | zero => rfl
  | succ k ih => simp [fX2, st, ih]
theorem fX2_W (b : List Int) (x : Nat) (s : List Int) (h : Ws s) (k : Nat) : Ws (fX2 b x s k) := by
  induction k with
  | zero => exact h
  | succ k ih => exact ih.st _ (W64_xor _ _)
def fX (b s : List Int) : Nat → List Int
  | 0 => s
  | x + 1 => fX2 b x (fX b s x) 5
theorem fX_len (b s : List Int) (k : Nat) : (fX b s k).length = s.length := by
  induction k with
  | zero => rfl
  | succ k ih => rw [fX, fX2_len, ih]
theorem fX_W (b s : List Int) (h : Ws s) (k : Nat) : Ws (fX b s k) := by
  induction k with
  | zero => exact h
  | succ k ih => exact fX2_W _ _ _ ih _
def stepA (s : List Int) : List Int := (fR (fT (fC s 5) s 5) 24).1
def stepB (s : List Int) : List Int := fX (fP (stepA s) 5) (stepA s) 5
def stepS (s : List Int) (rc : Int) : List Int := st (stepB s) 0 (bits .xor .u64 (gt (stepB s) 0) rc)
theorem stepA_len (s : List Int) : (stepA s).length = s.length := by rw [stepA, fR_len, fT_len]
theorem stepA_W {s : List Int} (h : Ws s) : Ws (stepA s) := fR_W _ (fT_W _ _ h _) _
theorem stepB_len (s : List Int) : (stepB s).length = s.length := by rw [stepB, fX_len, stepA_len]
theorem stepB_W {s : List Int} (h : Ws s) : Ws (stepB s) := fX_W _ _ (stepA_W h) _
theorem stepS_len (s : List Int) (rc : Int) : (stepS s rc).length = s.length := by rw [stepS, st_len, stepB_len]
theorem stepS_W {s : List Int} (h : Ws s) (rc : Int) : Ws (stepS s rc) := (stepB_W h).st _ (W64_xor _ _)
def fPerm (s rc : List Int) : Nat → List Int
  | 0 => s
  | k + 1 => stepS (fPerm s rc k) (gt rc k)
theorem fPerm_len (s rc : List Int) (k : Nat) : (fPerm s rc k).length = s.length := by
  induction k with
  | zero => rfl
  | succ k ih => rw [fPerm, stepS_len, ih]
theorem fPerm_W {s : List Int} (h : Ws s) (rc : List Int) (k : Nat) : Ws (fPerm s rc k) := by
  induction k with
  | zero => exact h
  | succ k ih => exact stepS_W ih _

end Go.Proofs.YtfaonieaagepjaaDoor
