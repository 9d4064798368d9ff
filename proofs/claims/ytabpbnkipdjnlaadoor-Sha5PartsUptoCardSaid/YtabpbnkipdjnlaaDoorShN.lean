/- ShakeOne, walked. Conditions: the text reads as bytes; the tables. -/
import Derived.Test.YtabpbnkipdjnlaaDoorShJ
namespace Go.Proofs.YtabpbnkipdjnlaaDoor
open Go.RowKit
set_option linter.unusedVariables false
set_option linter.unusedSimpArgs false

/-! ### The law's block is the text with its end -/
def cpN (l : List Int) : Nat → List Int
  | 0 => List.replicate 136 0
  | j + 1 => st (cpN l j) j (gt l j)
theorem cpN_len (l : List Int) (j : Nat) : (cpN l j).length = 136 := by
  induction j with
  | zero => simp [cpN]
  | succ j ih => rw [cpN, st_len, ih]
theorem gt_cpN (l : List Int) (i : Nat) (hi : i < 136) : ∀ j, j ≤ 136 → gt (cpN l j) i = if i < j then gt l i else 0
  | 0, _ => by rw [cpN, gt_rep _ _ _ hi]; simp
  | j + 1, hj => by
    rw [cpN, gt_st _ _ _ _ (by rw [cpN_len]; omega), gt_cpN l i hi j (by omega)]
    by_cases h : i = j
    · rw [if_pos h, if_pos (by omega), h]
    · rw [if_neg h]
      by_cases h2 : i < j
      · rw [if_pos h2, if_pos (by omega)]
      · rw [if_neg h2, if_neg (by omega)]
theorem one_block (l : List Int) (h : l.length ≤ 135) : st (st (cpN l l.length) l.length 31) 135 (bits .xor .u8 (gt (st (cpN l l.length) l.length 31) 135) 128) = textL l := by
  have hp : padJ l = 135 - l.length := by unfold padJ; omega
  have e : st (cpN l l.length) l.length 31 = padZ l (padJ l) := by
    apply ext_gt _ _ (by rw [st_len, cpN_len, padZ_len, hp]; omega)
    intro i hi
    rw [st_len, cpN_len] at hi
    rw [gt_st _ _ _ _ (by rw [cpN_len]; omega), gt_cpN l i hi _ (by omega), padZ]
    by_cases h1 : i < l.length
    · rw [if_neg (by omega), if_pos h1, gt_append_left _ _ _ (by simp; omega), gt_append_left _ _ _ h1]
    · by_cases h2 : i = l.length
      · subst h2
        rw [if_pos rfl, gt_append_left _ _ _ (by simp), gt_append_right _ _ _ (Nat.le_refl _), Nat.sub_self]
        rfl
      · rw [if_neg h2, if_neg h1, gt_append_right _ _ _ (by simp; omega), gt_rep _ _ _ (by simp; omega)]
  have hl : (padZ l (padJ l)).length - 1 = 135 := by rw [padZ_len, hp]; omega
  rw [e, textL, hl]
theorem textL_len (l : List Int) (h : l.length ≤ 135) : (textL l).length = 136 := by
  rw [← one_block l h, st_len, st_len, cpN_len]

/-! ### Put together by 'or' -/
def orN (l : List Int) : Nat → List Int
  | 0 => List.replicate 25 0
  | j + 1 => st (orN l j) (j / 8) (bits .or .u64 (gt (orN l j) (j / 8)) (IntKind.u64.wrap (gt l j * 2 ^ (8 * (j % 8)))))
theorem orN_len (l : List Int) (j : Nat) : (orN l j).length = 25 := by
  induction j with
  | zero => simp [orN]
  | succ j ih => rw [orN, st_len, ih]
theorem or_parts (x y : Int) (k : Nat) (hx0 : 0 ≤ x) (hx : x < 2 ^ k) (hy0 : 0 ≤ y) (hy : x + y * 2 ^ k < 18446744073709551616) : bits .or .u64 x (y * 2 ^ k) = x + y * 2 ^ k := by
  obtain ⟨x, rfl⟩ : ∃ n : Nat, x = n := ⟨x.toNat, by omega⟩
  obtain ⟨y, rfl⟩ : ∃ n : Nat, y = n := ⟨y.toNat, by omega⟩
  have hx' : x < 2 ^ k := by
    have h := hx
    rw [show (2 : Int) ^ k = ((2 ^ k : Nat) : Int) by push_cast; rfl] at h
    omega
  have e : (y : Int) * 2 ^ k = ((y * 2 ^ k : Nat) : Int) := by push_cast; rfl
  rw [e] at hy ⊢
  have hs : x ||| (y * 2 ^ k) = x + y * 2 ^ k := by
    rw [Nat.or_comm, Nat.mul_comm, ← Nat.two_pow_add_eq_or_of_lt hx', Nat.add_comm]
  generalize y * 2 ^ k = z at *
  rw [bv_or, BitVec.toNat_or, bv_natCast, bv_natCast, Nat.mod_eq_of_lt (by omega), Nat.mod_eq_of_lt (by omega), hs]
  push_cast; rfl
theorem xorW_rest (l : List Int) (s : List Int) (hs : s.length = 25) : ∀ n i, n ≤ i → i < 25 → gt (xorW s l n) i = gt s i
  | 0, _, _, _ => rfl
  | n + 1, i, h, hi => by
    rw [xorW, gt_st _ _ _ _ (by rw [xorW_len]; omega), if_neg (by omega), xorW_rest l s hs n i (by omega) hi]
theorem orN_mixN (l : List Int) (hl : Bys l) : ∀ j, j ≤ 136 → orN l j = mixN (List.replicate 25 0) l j
  | 0, _ => rfl
  | j + 1, hj => by
    have ih := orN_mixN l hl j (by omega)
    obtain ⟨i, hi⟩ : ∃ i, j / 8 = i := ⟨_, rfl⟩
    obtain ⟨m, hm⟩ : ∃ m, j % 8 = m := ⟨_, rfl⟩
    have hjm : j = 8 * i + m := by omega
    have hw : gt (mixN (List.replicate 25 0) l j) i = wlo l (8 * i) m := by
      rw [hjm, mixN_word (List.replicate 25 0) l i (by simp) (Ws.zeros 25) hl (by omega) m (by omega), gt_st _ _ _ _ (by rw [mixN_len]; simp; omega), if_pos rfl,
        mixN_xorW _ l (by simp) (Ws.zeros 25) hl i (by omega), xorW_rest l _ (by simp) i i (Nat.le_refl _) (by omega), gt_rep _ _ _ (by omega)]
      have hb := wlo_bd hl (8 * i) m
      have hp : ∀ m, m ≤ 8 → (256 : Int) ^ m ≤ 18446744073709551616 := by decide
      have := hp m (by omega)
      exact X_zero ⟨hb.1, by omega⟩
    rw [orN, mixN, ih, hi, hm, hw]
    congr 1
    have hb := hl.gt j
    have hbd := wlo_bd hl (8 * i) (m + 1)
    have hbd' := wlo_bd hl (8 * i) m
    have e256 : ∀ n : Nat, (256 : Int) ^ n = 2 ^ (8 * n) := fun n => by rw [Int.pow_mul]; rfl
    have hp : (256 : Int) ^ (m + 1) ≤ 18446744073709551616 := by
      have : ∀ m, m ≤ 7 → (256 : Int) ^ (m + 1) ≤ 18446744073709551616 := by decide
      exact this m (by omega)
    have hlt : wlo l (8 * i) (m + 1) < 18446744073709551616 := by omega
    rw [wlo, e256, ← hjm] at hlt
    have h1 : (0 : Int) ≤ gt l j * 2 ^ (8 * m) := Int.mul_nonneg hb.1 (Int.pow_nonneg (by decide))
    have hwr : IntKind.u64.wrap (gt l j * 2 ^ (8 * m)) = gt l j * 2 ^ (8 * m) := by
      rw [IntKind.wrap_u64]
      omega
    have hx := X_parts 0 (wlo l (8 * i) m) (gt l j) (8 * m) hbd'.1 (by rw [← e256]; exact hbd'.2) hb.1 hlt
    rw [X_zero ⟨hbd'.1, by omega⟩, X_zero ⟨by omega, hlt⟩] at hx
    rw [hwr, or_parts _ _ _ hbd'.1 (by rw [← e256]; exact hbd'.2) hb.1 hlt]
    exact hx.symm

end Go.Proofs.YtabpbnkipdjnlaaDoor
