/- A block into a state word by word is the same as byte by byte; a state's words, taken apart from the low byte on, are its first bytes. Conditions: none of the program. -/
import Derived.Test.YtfaonieaagepjaaDoorShF
import Derived.Test.YtfaonieaagepjaaDoorKecH
namespace Go.Proofs.YtfaonieaagepjaaDoor
open Go.RowKit
set_option maxRecDepth 100000
set_option linter.unusedVariables false

/-! ### Bytes put together to a word, the last one first -/
def wle (l : List Int) (o : Nat) : Nat → Int
  | 0 => 0
  | m + 1 => wle l o m * 256 + gt l (o + 7 - m)
/-- .. the first one first. -/
def wlo (l : List Int) (o : Nat) : Nat → Int
  | 0 => 0
  | m + 1 => wlo l o m + gt l (o + m) * 256 ^ m
theorem wle_bd {l : List Int} (h : Bys l) (o m : Nat) : 0 ≤ wle l o m ∧ wle l o m < 256 ^ m := by
  induction m with
  | zero => simp [wle]
  | succ m ih =>
    have := h.gt (o + 7 - m)
    unfold B8 at this
    rw [wle, Int.pow_succ]
    omega
theorem wlo_bd {l : List Int} (h : Bys l) (o m : Nat) : 0 ≤ wlo l o m ∧ wlo l o m < 256 ^ m := by
  induction m with
  | zero => simp [wlo]
  | succ m ih =>
    have h1 := h.gt (o + m)
    unfold B8 at h1
    have hp : (0 : Int) < 256 ^ m := Int.pow_pos (by decide)
    rw [wlo, Int.pow_succ]
    generalize (256 : Int) ^ m = P at *
    generalize gt l (o + m) = g at *
    have h2 : 0 ≤ g * P := Int.mul_nonneg h1.1 (by omega)
    have h3 : g * P ≤ 255 * P := Int.mul_le_mul_of_nonneg_right (by omega) (by omega)
    omega
theorem wle_wlo (l : List Int) (o : Nat) : wle l o 8 = wlo l o 8 := by
  simp only [wle, wlo, show o + 7 - 0 = o + 7 by omega, show o + 7 - 1 = o + 6 by omega, show o + 7 - 2 = o + 5 by omega, show o + 7 - 3 = o + 4 by omega, show o + 7 - 4 = o + 3 by omega, show o + 7 - 5 = o + 2 by omega, show o + 7 - 6 = o + 1 by omega, show o + 7 - 7 = o by omega, Nat.add_zero]
  omega

/-! ### Parts that don't meet, put together -/
theorem nat_xor_parts (x y k : Nat) (h : x < 2 ^ k) : x ^^^ (y * 2 ^ k) = x + y * 2 ^ k := by
  apply Nat.eq_of_testBit_eq
  intro i
  rw [Nat.add_comm, Nat.mul_comm, Nat.testBit_two_pow_mul_add y h i, Nat.testBit_xor, Nat.testBit_two_pow_mul]
  by_cases hi : i < k
  · have : ¬ k ≤ i := by omega
    simp [hi, this]
  · have h2 : x < 2 ^ i := Nat.lt_of_lt_of_le h (Nat.pow_le_pow_right (by decide) (by omega))
    simp [hi, Nat.testBit_lt_two_pow h2, show k ≤ i by omega]
theorem X_parts (a x y : Int) (k : Nat) (hx0 : 0 ≤ x) (hx : x < 2 ^ k) (hy0 : 0 ≤ y) (hy : x + y * 2 ^ k < 18446744073709551616) : X (X a x) (y * 2 ^ k) = X a (x + y * 2 ^ k) := by
  rw [X_assoc]
  congr 1
  obtain ⟨x, rfl⟩ : ∃ n : Nat, x = n := ⟨x.toNat, by omega⟩
  obtain ⟨y, rfl⟩ : ∃ n : Nat, y = n := ⟨y.toNat, by omega⟩
  have hx' : x < 2 ^ k := by
    have h := hx
    rw [show (2 : Int) ^ k = ((2 ^ k : Nat) : Int) by push_cast; rfl] at h
    omega
  have e : (y : Int) * 2 ^ k = ((y * 2 ^ k : Nat) : Int) := by push_cast; rfl
  rw [e] at hy ⊢
  have hs := nat_xor_parts x y k hx'
  generalize y * 2 ^ k = z at *
  rw [X, bv_xor, BitVec.toNat_xor, bv_natCast, bv_natCast, Nat.mod_eq_of_lt (by omega), Nat.mod_eq_of_lt (by omega), hs]
  push_cast; rfl

/-! ### A block into a state, word by word -/
def xorW (s l : List Int) : Nat → List Int
  | 0 => s
  | i + 1 => st (xorW s l i) i (X (gt (xorW s l i) i) (wle l (8 * i) 8))
theorem xorW_len (s l : List Int) (i : Nat) : (xorW s l i).length = s.length := by
  induction i with
  | zero => rfl
  | succ i ih => rw [xorW, st_len, ih]
theorem xorW_W {s : List Int} (l : List Int) (h : Ws s) (j : Nat) : Ws (xorW s l j) := by
  induction j with
  | zero => exact h
  | succ j ih => exact ih.st _ (W64_xor _ _)
theorem st_st (l : List Int) (i : Nat) (x y : Int) : st (st l i x) i y = st l i y := by simp [st]
theorem st_self (l : List Int) (i : Nat) (h : i < l.length) : st l i (gt l i) = l := by
  apply ext_gt _ _ (by simp [st_len])
  intro j hj
  rw [gt_st _ _ _ _ h]
  split
  · subst_vars; rfl
  · rfl
theorem mixN_word (s l : List Int) (i : Nat) (hs : s.length = 25) (hw : Ws s) (hl : Bys l) (hi : i < 17) : ∀ m, m ≤ 8 →
    mixN s l (8 * i + m) = st (mixN s l (8 * i)) i (X (gt (mixN s l (8 * i)) i) (wlo l (8 * i) m))
  | 0, _ => by
    have hW := (mixN_W l hw (8 * i)).gt i
    have hz : X (gt (mixN s l (8 * i)) i) 0 = gt (mixN s l (8 * i)) i := by rw [X_comm, X_zero hW]
    rw [Nat.add_zero, wlo, hz, st_self _ _ (by rw [mixN_len]; omega)]
  | m + 1, hm => by
    have hd : (8 * i + m) / 8 = i := by omega
    have hr : (8 * i + m) % 8 = m := by omega
    have hb := hl.gt (8 * i + m)
    have hbd := wlo_bd hl (8 * i) (m + 1)
    have hbd' := wlo_bd hl (8 * i) m
    have e256 : ∀ n : Nat, (256 : Int) ^ n = 2 ^ (8 * n) := fun n => by rw [Int.pow_mul]; rfl
    have hp : (256 : Int) ^ (m + 1) ≤ 18446744073709551616 := by
      have : ∀ m, m ≤ 7 → (256 : Int) ^ (m + 1) ≤ 18446744073709551616 := by decide
      exact this m (by omega)
    rw [wlo, e256] at hbd
    rw [show 8 * i + (m + 1) = 8 * i + m + 1 by omega, mixN, mixN_word s l i hs hw hl hi m (by omega), hd, hr, st_st, gt_st _ _ _ _ (by rw [mixN_len]; omega), if_pos rfl]
    have hlt : wlo l (8 * i) (m + 1) < 18446744073709551616 := by have := (wlo_bd hl (8 * i) (m + 1)).2; omega
    rw [wlo, e256] at hlt
    have h1 : (0 : Int) ≤ gt l (8 * i + m) * 2 ^ (8 * m) := Int.mul_nonneg hb.1 (Int.pow_nonneg (by decide))
    have hwr : IntKind.u64.wrap (gt l (8 * i + m) * 2 ^ (8 * m)) = gt l (8 * i + m) * 2 ^ (8 * m) := by
      rw [IntKind.wrap_u64]
      omega
    rw [hwr, wlo, e256]
    congr 1
    exact X_parts _ _ _ _ hbd'.1 (by rw [← e256]; exact hbd'.2) hb.1 hlt
theorem mixN_xorW (s l : List Int) (hs : s.length = 25) (hw : Ws s) (hl : Bys l) : ∀ i, i ≤ 17 → mixN s l (8 * i) = xorW s l i
  | 0, _ => rfl
  | i + 1, hi => by
    rw [show 8 * (i + 1) = 8 * i + 8 by omega, mixN_word s l i hs hw hl (by omega) 8 (Nat.le_refl _), mixN_xorW s l hs hw hl i (by omega), xorW, wle_wlo]

/-! ### The first bytes of a state, one by one -/
def gave (s : List Int) (n : Nat) : List Int := (List.range n).map (byteAt s)
theorem gave_len (s : List Int) (n : Nat) : (gave s n).length = n := by simp [gave]
theorem gave_succ (s : List Int) (n : Nat) : gave s (n + 1) = gave s n ++ [byteAt s n] := by simp [gave, List.range_succ]
theorem gt_giveN (s : List Int) (j i : Nat) (hj : j ≤ 136) : gt (giveN s j) i = if i < j then byteAt s i else 0 := by
  induction j with
  | zero =>
    simp only [giveN, gt, List.getD_eq_getElem?_getD, List.getElem?_replicate]
    split <;> simp
  | succ j ih =>
    rw [giveN, gt_st _ _ _ _ (by rw [giveN_len]; omega), ih (by omega)]
    by_cases h : i = j
    · subst h; simp
    · rw [if_neg h]
      by_cases h2 : i < j
      · rw [if_pos h2, if_pos (by omega)]
      · rw [if_neg h2, if_neg (by omega)]
theorem giveL_gave (s : List Int) : giveL s = gave s 136 := by
  apply ext_gt _ _ (by rw [giveL_len, gave_len])
  intro i hi
  rw [giveL_len] at hi
  rw [giveL, gt_giveN _ _ _ (Nat.le_refl _), if_pos hi]
  simp [gave, gt, hi]
theorem seg_block (S : List Int) (q : Nat) : seg S (136 * q) 136 = giveL (iterP S q) := by
  apply ext_gt _ _ (by rw [seg_len, giveL_len])
  intro i hi
  rw [seg_len] at hi
  rw [gt_seg _ _ _ _ hi, sb, show (136 * q + i) / 136 = q by omega, show (136 * q + i) % 136 = i by omega]
theorem seg_blocks (S : List Int) (q m : Nat) (hm : m ≤ 136) : seg S 0 (136 * q) ++ gave (iterP S q) m = seg S 0 (136 * q + m) := by
  have h : gave (iterP S q) m = seg S (0 + 136 * q) m := by
    have h1 := seg_sub S (136 * q) 136 0 m (by omega)
    rw [seg_block, giveL_gave, List.drop_zero, Nat.zero_add, Nat.add_zero] at h1
    rw [Nat.zero_add, ← h1]
    simp only [gave, ← List.map_take, List.take_range, Nat.min_eq_left hm]
  rw [h, seg_append]

end Go.Proofs.YtfaonieaagepjaaDoor
