import Derived.Test.YtfaonieaagepjaaDoorKecRefSpec
namespace Go.Proofs.YtfaonieaagepjaaDoor
open Go.RowKit
set_option linter.unusedVariables false
set_option linter.unusedSimpArgs false

abbrev X (a b : Int) : Int := bits .xor .u64 a b
theorem X_comm (a b : Int) : X a b = X b a := by rw [X, X, bv_xor, bv_xor, BitVec.xor_comm]
theorem X_assoc (a b c : Int) : X (X a b) c = X a (X b c) := by simp only [X, bv_xor, bv_nat, BitVec.xor_assoc]
theorem X_zero {a : Int} (h : W64 a) : X 0 a = a := by
  rw [X, bv_xor, show bv 0 = 0#64 from rfl, BitVec.zero_xor, h.bv_eq]

/-! ### theta -/
theorem thA_get (c l : List Int) (n k : Nat) (hl : l.length = 25) (hn : n ≤ 25) (hk : k < 25) :
    gt (thA c l n) k = if k < n then X (gt l k) (fD c (k % 5)) else gt l k := by
  induction n with
  | zero => simp [thA]
  | succ n ih =>
    rw [thA, gt_st _ _ _ _ (by rw [thA_len]; omega)]
    have ih' := ih (by omega)
    by_cases e : k = n
    · subst e
      rw [if_pos rfl, if_pos (by omega), ih', if_neg (by omega), fD]
    · rw [if_neg e, ih']
      by_cases h2 : k < n
      · rw [if_pos h2, if_pos (by omega)]
      · rw [if_neg h2, if_neg (by omega)]
theorem fT2_get (d : Int) (x : Nat) (s : List Int) (n k : Nat) (hl : s.length = 25) (hx : x < 5) (hn : n ≤ 5) (hk : k < 25) :
    gt (fT2 d x s n) k = if k % 5 = x ∧ k / 5 < n then X (gt s k) d else gt s k := by
  induction n with
  | zero => simp [fT2]
  | succ n ih =>
    rw [fT2, gt_st _ _ _ _ (by rw [fT2_len]; omega)]
    have ih' := ih (by omega)
    by_cases e : k = x + 5 * n
    · rw [if_pos e, if_pos (by omega), ← e, ih', if_neg (by omega)]
    · rw [if_neg e, ih']
      by_cases h2 : k % 5 = x ∧ k / 5 < n
      · rw [if_pos h2, if_pos (by omega)]
      · rw [if_neg h2, if_neg (by omega)]
theorem fT_get (c s : List Int) (n k : Nat) (hl : s.length = 25) (hn : n ≤ 5) (hk : k < 25) :
    gt (fT c s n) k = if k % 5 < n then X (gt s k) (fD c (k % 5)) else gt s k := by
  induction n with
  | zero => simp [fT]
  | succ n ih =>
    rw [fT, fT2_get _ _ _ _ _ (by rw [fT_len, hl]) (by omega) (by omega) hk]
    have ih' := ih (by omega)
    by_cases e : k % 5 = n
    · rw [if_pos (by omega), if_pos (by omega), ih', if_neg (by omega), e]
    · rw [if_neg (by omega), ih']
      by_cases h2 : k % 5 < n
      · rw [if_pos h2, if_pos (by omega)]
      · rw [if_neg h2, if_neg (by omega)]
theorem fC_get (s : List Int) (n k : Nat) (hn : n ≤ 5) (hk : k < 5) :
    gt (fC s n) k = if k < n then X (X (X (X (gt s k) (gt s (k + 5))) (gt s (k + 10))) (gt s (k + 15))) (gt s (k + 20)) else 0 := by
  induction n with
  | zero =>
    simp only [fC, gt]
    rw [List.getD_eq_getElem?_getD, List.getElem?_replicate]
    simp [hk]
  | succ n ih =>
    rw [fC, gt_st _ _ _ _ (by rw [fC_len]; omega)]
    have ih' := ih (by omega)
    by_cases e : k = n
    · subst e; rw [if_pos rfl, if_pos (by omega)]
    · rw [if_neg e, ih']
      by_cases h2 : k < n
      · rw [if_pos h2, if_pos (by omega)]
      · rw [if_neg h2, if_neg (by omega)]
theorem thC_step (l : List Int) (n k : Nat) : gt (thC l (n + 1)) k = if k = n % 5 then X (gt (thC l n) (n % 5)) (gt l n) else gt (thC l n) k := by
  rw [thC, gt_st _ _ _ _ (by rw [thC_len]; omega)]
/-- The columns' sums, as the program has them. -/
theorem thC_get (l : List Int) (k : Nat) (hw : Ws l) (hk : k < 5) :
    gt (thC l 25) k = X (X (X (X (gt l k) (gt l (k + 5))) (gt l (k + 10))) (gt l (k + 15))) (gt l (k + 20)) := by
  have h0 : gt (thC l 0) k = 0 := by
    have h : ∀ m : Fin 5, gt ([0, 0, 0, 0, 0] : List Int) m.val = 0 := by decide
    exact h ⟨k, hk⟩
  have part : ∀ (q m : Nat), m ≤ 5 → gt (thC l (5 * q + m)) k = if k < m then X (gt (thC l (5 * q)) k) (gt l (5 * q + k)) else gt (thC l (5 * q)) k := by
    intro q m hm
    induction m with
    | zero => rw [if_neg (by omega)]; rfl
    | succ m ih =>
      have ih' := ih (by omega)
      rw [show 5 * q + (m + 1) = 5 * q + m + 1 from rfl, thC_step]
      by_cases e : k = m
      · subst e
        rw [if_pos (by omega), if_pos (by omega), show (5 * q + k) % 5 = k by omega, ih', if_neg (by omega)]
      · rw [if_neg (by omega), ih']
        by_cases h2 : k < m
        · rw [if_pos h2, if_pos (by omega)]
        · rw [if_neg h2, if_neg (by omega)]
  have block : ∀ q : Nat, gt (thC l (5 * q + 5)) k = X (gt (thC l (5 * q)) k) (gt l (5 * q + k)) := fun q => by
    rw [part q 5 (by omega), if_pos hk]
  have e1 := block 0
  have e2 := block 1
  have e3 := block 2
  have e4 := block 3
  have e5 := block 4
  simp only [Nat.mul_zero, Nat.zero_add, Nat.mul_one, Nat.reduceAdd, Nat.reduceMul] at e1 e2 e3 e4 e5
  rw [e5, e4, e3, e2, e1, h0, X_zero (hw.gt _)]
  simp only [Nat.add_comm]
theorem C_eq (l : List Int) (hw : Ws l) : thC l 25 = fC l 5 := by
  apply ext_gt _ _ (by rw [thC_len, fC_len])
  intro k hk
  rw [thC_len] at hk
  rw [thC_get l k hw hk, fC_get l 5 k (by omega) hk, if_pos hk]
theorem theta_eq (l : List Int) (hl : l.length = 25) (hw : Ws l) : theta l = fT (fC l 5) l 5 := by
  apply ext_gt _ _ (by rw [theta_len, fT_len])
  intro k hk
  rw [theta_len, hl] at hk
  rw [theta, thA_get _ _ _ _ hl (by omega) hk, fT_get _ _ _ _ hl (by omega) hk, if_pos hk, if_pos (by omega), C_eq l hw]
theorem theta_get (l : List Int) (k : Nat) (hl : l.length = 25) (hk : k < 25) : gt (theta l) k = X (gt l k) (fD (thC l 25) (k % 5)) := by
  rw [theta, thA_get _ _ _ _ hl (by omega) hk, if_pos hk]

/-! ### rho and pi -/
/-- Where a place's word comes from. -/
def pinv (m : Nat) : Nat := (3 * (m / 5) + m % 5) % 5 + 5 * (m % 5)
theorem pinv_lt (m : Nat) : pinv m < 25 := by unfold pinv; omega
theorem pinv_spec (n m : Nat) (hn : n < 25) (hm : m < 25) : m = n / 5 + 5 * ((2 * (n % 5) + 3 * (n / 5)) % 5) ↔ pinv m = n := by
  have h : ∀ (n m : Fin 25), m.val = n.val / 5 + 5 * ((2 * (n.val % 5) + 3 * (n.val / 5)) % 5) ↔ pinv m.val = n.val := by decide +kernel
  exact h ⟨n, hn⟩ ⟨m, hm⟩
theorem rhoB_get (l : List Int) (n m : Nat) (hn : n ≤ 25) (hm : m < 25) :
    gt (rhoB l n) m = if pinv m < n then rotl (gt l (pinv m)) (gt turnsL (pinv m)).toNat else 0 := by
  induction n with
  | zero =>
    simp only [rhoB, gt]
    rw [List.getD_eq_getElem?_getD, List.getElem?_replicate]
    simp [hm]
  | succ n ih =>
    rw [rhoB, gt_st _ _ _ _ (by rw [rhoB_len]; omega)]
    have ih' := ih (by omega)
    have hp := pinv_spec n m (by omega) hm
    by_cases e : pinv m = n
    · rw [if_pos (hp.2 e), if_pos (by omega), e]
    · rw [if_neg (fun h => e (hp.1 h)), ih']
      by_cases h2 : pinv m < n
      · rw [if_pos h2, if_pos (by omega)]
      · rw [if_neg h2, if_neg (by omega)]
def xyT : Nat → Nat × Nat
  | 0 => (1, 0)
  | t + 1 => ((xyT t).2, (2 * (xyT t).1 + 3 * (xyT t).2) % 5)
theorem fR_xyT (s : List Int) (t : Nat) : (fR s t).2 = xyT t := by
  induction t with
  | zero => rfl
  | succ t ih => rw [fR, xyT, ih]
/-- When a place's word is turned: 24, if never. -/
def ordT (m : Nat) : Nat := ((List.range 24).find? fun t => (xyT t).1 + 5 * (xyT t).2 == m).getD 24
theorem ordT_spec (t m : Nat) (ht : t < 24) (hm : m < 25) : m = (xyT t).1 + 5 * (xyT t).2 ↔ ordT m = t := by
  have h : ∀ (t : Fin 24) (m : Fin 25), m.val = (xyT t.val).1 + 5 * (xyT t.val).2 ↔ ordT m.val = t.val := by decide +kernel
  exact h ⟨t, ht⟩ ⟨m, hm⟩
theorem ordT_turns (m : Nat) (hm : m < 25) : (ordT m < 24 ∧ (ordT m + 1) * (ordT m + 2) / 2 % 64 = (gt turnsL m).toNat) ∨ (ordT m = 24 ∧ (gt turnsL m).toNat = 0) := by
  have h : ∀ (m : Fin 25), (ordT m.val < 24 ∧ (ordT m.val + 1) * (ordT m.val + 2) / 2 % 64 = (gt turnsL m.val).toNat) ∨ (ordT m.val = 24 ∧ (gt turnsL m.val).toNat = 0) := by decide +kernel
  exact h ⟨m, hm⟩
theorem fR_get (s : List Int) (n m : Nat) (hl : s.length = 25) (hn : n ≤ 24) (hm : m < 25) :
    gt (fR s n).1 m = if ordT m < n then rotl (gt s m) ((ordT m + 1) * (ordT m + 2) / 2 % 64) else gt s m := by
  induction n with
  | zero => simp [fR]
  | succ n ih =>
    have hxy := fR_xy s n
    rw [fR_xyT] at hxy
    rw [fR]
    simp only [fR_xyT]
    rw [gt_st _ _ _ _ (by rw [fR_len]; omega)]
    have ih' := ih (by omega)
    have hp := ordT_spec n m (by omega) hm
    by_cases e : ordT m = n
    · have e2 := hp.2 e
      rw [if_pos e2, if_pos (by omega), ← e2, ih', if_neg (by omega), e]
    · rw [if_neg (fun h => e (hp.1 h)), ih']
      by_cases h2 : ordT m < n
      · rw [if_pos h2, if_pos (by omega)]
      · rw [if_neg h2, if_neg (by omega)]
theorem rotl_zero {x : Int} (h : W64 x) : rotl x 0 = x := by
  have e0 : (bv x).rotateLeft 0 = bv x := by
    rw [BitVec.rotateLeft_def, Nat.zero_mod, BitVec.shiftLeft_zero, BitVec.ushiftRight_eq_zero (by omega), BitVec.or_zero]
  show (((bv x).rotateLeft 0).toNat : Int) = x
  rw [e0]; exact h.bv_eq
theorem fR_all (s : List Int) (m : Nat) (hl : s.length = 25) (hw : Ws s) (hm : m < 25) : gt (fR s 24).1 m = rotl (gt s m) (gt turnsL m).toNat := by
  rw [fR_get s 24 m hl (by omega) hm]
  rcases ordT_turns m hm with ⟨h1, h2⟩ | ⟨h1, h2⟩
  · rw [if_pos h1, h2]
  · rw [if_neg (by omega), h2, rotl_zero (hw.gt _)]
theorem fP2_spec (x y m : Nat) (hx : x < 5) (hy : y < 5) (hm : m < 25) : m = y + 5 * ((2 * x + 3 * y) % 5) ↔ pinv m = x + 5 * y := by
  have h : ∀ (x y : Fin 5) (m : Fin 25), m.val = y.val + 5 * ((2 * x.val + 3 * y.val) % 5) ↔ pinv m.val = x.val + 5 * y.val := by decide +kernel
  exact h ⟨x, hx⟩ ⟨y, hy⟩ ⟨m, hm⟩
theorem fP2_get (s : List Int) (x : Nat) (b : List Int) (n m : Nat) (hb : b.length = 25) (hx : x < 5) (hn : n ≤ 5) (hm : m < 25) :
    gt (fP2 s x b n) m = if pinv m % 5 = x ∧ pinv m / 5 < n then gt s (pinv m) else gt b m := by
  induction n with
  | zero => simp [fP2]
  | succ n ih =>
    rw [fP2, gt_st _ _ _ _ (by rw [fP2_len]; omega)]
    have ih' := ih (by omega)
    have hp := fP2_spec x n m hx (by omega) hm
    by_cases e : pinv m = x + 5 * n
    · rw [if_pos (hp.2 e), if_pos (by omega), e]
    · rw [if_neg (fun h => e (hp.1 h)), ih']
      by_cases h2 : pinv m % 5 = x ∧ pinv m / 5 < n
      · rw [if_pos h2, if_pos (by omega)]
      · rw [if_neg h2, if_neg (by omega)]
theorem fP_get (s : List Int) (n m : Nat) (hn : n ≤ 5) (hm : m < 25) :
    gt (fP s n) m = if pinv m % 5 < n then gt s (pinv m) else 0 := by
  induction n with
  | zero =>
    simp only [fP, gt]
    rw [List.getD_eq_getElem?_getD, List.getElem?_replicate]
    simp [hm]
  | succ n ih =>
    have hlt := pinv_lt m
    rw [fP, fP2_get _ _ _ _ _ (fP_len _ _) (by omega) (by omega) hm]
    have ih' := ih (by omega)
    by_cases e : pinv m % 5 = n
    · rw [if_pos (by omega), if_pos (by omega)]
    · rw [if_neg (by omega), ih']
      by_cases h2 : pinv m % 5 < n
      · rw [if_pos h2, if_pos (by omega)]
      · rw [if_neg h2, if_neg (by omega)]
theorem rho_eq (s : List Int) (hl : s.length = 25) (hw : Ws s) : rhoB s 25 = fP (fR s 24).1 5 := by
  apply ext_gt _ _ (by rw [rhoB_len, fP_len])
  intro m hm
  rw [rhoB_len] at hm
  have := pinv_lt m
  rw [rhoB_get _ _ _ (by omega) hm, if_pos this, fP_get _ _ _ (by omega) hm, if_pos (by omega), fR_all _ _ hl hw this]

/-! ### chi -/
abbrev Cx (b : List Int) (k : Nat) : Int := X (gt b k) (bits .and .u64 (not64 (gt b (k / 5 * 5 + (k % 5 + 1) % 5))) (gt b (k / 5 * 5 + (k % 5 + 2) % 5)))
theorem chiA_get (b l : List Int) (n k : Nat) (hl : l.length = 25) (hn : n ≤ 25) (hk : k < 25) :
    gt (chiA b l n) k = if k < n then Cx b k else gt l k := by
  induction n with
  | zero => simp [chiA]
  | succ n ih =>
    rw [chiA, gt_st _ _ _ _ (by rw [chiA_len]; omega)]
    have ih' := ih (by omega)
    by_cases e : k = n
    · subst e; rw [if_pos rfl, if_pos (by omega)]
    · rw [if_neg e, ih']
      by_cases h2 : k < n
      · rw [if_pos h2, if_pos (by omega)]
      · rw [if_neg h2, if_neg (by omega)]
theorem not64_eq (x : Int) : bits .xor .u64 x 18446744073709551615 = not64 x := by
  rw [not64, show (if IntKind.u64.signed = true then -1 else IntKind.u64.max) = 18446744073709551615 from rfl]
  exact X_comm _ _
theorem fX2_get (b : List Int) (x : Nat) (s : List Int) (n k : Nat) (hl : s.length = 25) (hx : x < 5) (hn : n ≤ 5) (hk : k < 25) :
    gt (fX2 b x s n) k = if k % 5 = x ∧ k / 5 < n then Cx b k else gt s k := by
  induction n with
  | zero => simp [fX2]
  | succ n ih =>
    rw [fX2, gt_st _ _ _ _ (by rw [fX2_len]; omega)]
    have ih' := ih (by omega)
    by_cases e : k = x + 5 * n
    · rw [if_pos e, if_pos (by omega), not64_eq, ← e, show n = k / 5 by omega, show x = k % 5 by omega]
      rw [show (k % 5 + 1) % 5 + 5 * (k / 5) = k / 5 * 5 + (k % 5 + 1) % 5 by omega, show (k % 5 + 2) % 5 + 5 * (k / 5) = k / 5 * 5 + (k % 5 + 2) % 5 by omega]
    · rw [if_neg e, ih']
      by_cases h2 : k % 5 = x ∧ k / 5 < n
      · rw [if_pos h2, if_pos (by omega)]
      · rw [if_neg h2, if_neg (by omega)]
theorem fX_get (b s : List Int) (n k : Nat) (hl : s.length = 25) (hn : n ≤ 5) (hk : k < 25) :
    gt (fX b s n) k = if k % 5 < n then Cx b k else gt s k := by
  induction n with
  | zero => simp [fX]
  | succ n ih =>
    rw [fX, fX2_get _ _ _ _ _ (by rw [fX_len, hl]) (by omega) (by omega) hk]
    have ih' := ih (by omega)
    by_cases e : k % 5 = n
    · rw [if_pos (by omega), if_pos (by omega)]
    · rw [if_neg (by omega), ih']
      by_cases h2 : k % 5 < n
      · rw [if_pos h2, if_pos (by omega)]
      · rw [if_neg h2, if_neg (by omega)]
theorem chi_eq (b s t : List Int) (hs : s.length = 25) (ht : t.length = 25) : chiA b s 25 = fX b t 5 := by
  apply ext_gt _ _ (by rw [chiA_len, fX_len, hs, ht])
  intro k hk
  rw [chiA_len, hs] at hk
  rw [chiA_get _ _ _ _ hs (by omega) hk, fX_get _ _ _ _ ht (by omega) hk, if_pos hk, if_pos (by omega)]

/-- A round is what the document says. -/
theorem round_eq (l : List Int) (i : Nat) (hl : l.length = 25) (hw : Ws l) : stepS l (gt rcL i) = roundS l i := by
  have h1 : theta l = fT (fC l 5) l 5 := theta_eq l hl hw
  have h2 : stepB l = chiA (rhoB (theta l) 25) (theta l) 25 := by
    rw [stepB, stepA, ← h1, ← rho_eq _ (by rw [theta_len, hl]) (theta_W hw)]
    exact (chi_eq _ _ _ (by rw [theta_len, hl]) (by rw [fR_len, theta_len, hl])).symm
  rw [stepS, h2, roundS]
theorem perm_eq (l : List Int) (n : Nat) (hl : l.length = 25) (hw : Ws l) : fPerm l rcL n = permN l n := by
  induction n with
  | zero => rfl
  | succ n ih => rw [fPerm, permN, ih, round_eq _ _ (by rw [permN_len, hl]) (permN_W hw n)]

end Go.Proofs.YtfaonieaagepjaaDoor
