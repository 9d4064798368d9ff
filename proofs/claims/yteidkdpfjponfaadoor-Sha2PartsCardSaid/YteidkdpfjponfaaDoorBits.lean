import Derived.Test.YteidkdpfjponfaaDoorBase
namespace Go.Proofs.YteidkdpfjponfaaDoor
open Go.RowKit

/-! ### Words of 64 bits -/
abbrev bv (x : Int) : BitVec 64 := BitVec.ofInt 64 x
theorem bv_nat (z : BitVec 64) : bv (z.toNat : Int) = z := by
  apply BitVec.eq_of_toNat_eq; simp [bv]
theorem bv_toNat (x : Int) (h0 : 0 ≤ x) (h1 : x < 18446744073709551616) : ((bv x).toNat : Int) = x := by
  simp only [bv, BitVec.toNat_ofInt]; omega
theorem wrap64_toNat (z : BitVec 64) : IntKind.u64.wrap (z.toNat : Int) = (z.toNat : Int) := by
  have := z.isLt
  rw [IntKind.wrap_u64]
  omega
theorem bv_xor (a b : Int) : bits .xor .u64 a b = ((bv a ^^^ bv b).toNat : Int) := wrap64_toNat _
theorem bv_and (a b : Int) : bits .and .u64 a b = ((bv a &&& bv b).toNat : Int) := wrap64_toNat _
theorem bv_or (a b : Int) : bits .or .u64 a b = ((bv a ||| bv b).toNat : Int) := wrap64_toNat _
def rotl (x : Int) (s : Nat) : Int := ((bv x).rotateLeft s).toNat
theorem bv_natCast (X : Nat) : (bv (X : Int)).toNat = X % 18446744073709551616 := by
  simp only [bv, BitVec.ofInt_natCast, BitVec.toNat_ofNat]
theorem bv_wrap (x : Int) : bv (IntKind.u64.wrap x) = bv x := by
  apply BitVec.eq_of_toNat_eq
  simp only [bv, BitVec.toNat_ofInt, IntKind.wrap_u64]
  omega
theorem bv_shl (X s : Nat) : bv ((X : Int) * 2 ^ s) = bv X <<< s := by
  apply BitVec.eq_of_toNat_eq
  rw [show (X : Int) * 2 ^ s = ((X * 2 ^ s : Nat) : Int) by push_cast; rfl, bv_natCast, BitVec.toNat_shiftLeft, bv_natCast, Nat.shiftLeft_eq]
  simp [Nat.mul_mod]
theorem bv_shr (X s : Nat) (h : X < 18446744073709551616) : bv ((X : Int) / 2 ^ s) = bv X >>> s := by
  apply BitVec.eq_of_toNat_eq
  rw [show (X : Int) / 2 ^ s = ((X / 2 ^ s : Nat) : Int) by push_cast; rfl, bv_natCast, BitVec.toNat_ushiftRight, bv_natCast, Nat.shiftRight_eq_div_pow, Nat.mod_eq_of_lt h]
  exact Nat.mod_eq_of_lt (Nat.lt_of_le_of_lt (Nat.div_le_self _ _) h)
theorem rot_eq (x k : Int) (h0 : 0 ≤ x) (h1 : x < 18446744073709551616) (hk0 : 0 ≤ k) (hk : k < 64) :
    bits .or .u64 (IntKind.u64.wrap (x * 2 ^ k.toNat)) (x / 2 ^ (64 - k).toNat) = rotl x k.toNat := by
  obtain ⟨s, rfl⟩ : ∃ s : Nat, k = s := ⟨k.toNat, by omega⟩
  obtain ⟨X, rfl⟩ : ∃ X : Nat, x = X := ⟨x.toNat, by omega⟩
  have hs : s < 64 := by omega
  have e : (64 - (s : Int)).toNat = 64 - s := by omega
  rw [bv_or, rotl, BitVec.rotateLeft_def, e, Int.toNat_natCast, Nat.mod_eq_of_lt hs, bv_wrap, bv_shl, bv_shr X _ (by omega)]
theorem and63 (k : Int) (h0 : 0 ≤ k) (h1 : k < 64) : bits .and .u64 k 63 = k := by
  obtain ⟨n, rfl⟩ : ∃ n : Nat, k = n := ⟨k.toNat, by omega⟩
  have := u64_and_nat n 63 (by omega) (by decide)
  rw [show ((63 : Nat) : Int) = 63 from rfl] at this
  rw [this, show (63 : Nat) = 2 ^ 6 - 1 from rfl, Nat.and_two_pow_sub_one_eq_mod]
  omega
/-- A word of 64 bits, as a number. -/
def W64 (x : Int) : Prop := 0 ≤ x ∧ x < 18446744073709551616
theorem W64.toNat (z : BitVec 64) : W64 (z.toNat : Int) := ⟨by omega, by have := z.isLt; omega⟩
theorem W64_xor (a b : Int) : W64 (bits .xor .u64 a b) := by rw [bv_xor]; exact W64.toNat _
theorem W64_and (a b : Int) : W64 (bits .and .u64 a b) := by rw [bv_and]; exact W64.toNat _
theorem W64_or (a b : Int) : W64 (bits .or .u64 a b) := by rw [bv_or]; exact W64.toNat _
theorem W64_rotl (a : Int) (s : Nat) : W64 (rotl a s) := W64.toNat _
theorem W64_zero : W64 0 := ⟨by decide, by decide⟩
theorem W64.bv_eq {x : Int} (h : W64 x) : ((bv x).toNat : Int) = x := bv_toNat x h.1 h.2
def Ws (l : List Int) : Prop := ∀ x ∈ l, W64 x
theorem Ws.gt {l : List Int} (h : Ws l) (i : Nat) : W64 (gt l i) := by
  unfold Proofs.YteidkdpfjponfaaDoor.gt
  rw [List.getD_eq_getElem?_getD]
  by_cases hi : i < l.length
  · rw [List.getElem?_eq_getElem hi]; exact h _ (List.getElem_mem hi)
  · rw [List.getElem?_eq_none (by omega)]; exact W64_zero
theorem Ws.st {l : List Int} (h : Ws l) (i : Nat) {x : Int} (hx : W64 x) : Ws (st l i x) := by
  intro y hy
  rcases List.mem_or_eq_of_mem_set hy with h1 | h1
  · exact h y h1
  · exact h1 ▸ hx
theorem Ws.zeros (n : Nat) : Ws (List.replicate n 0) := fun x hx => by rw [(List.mem_replicate.1 hx).2]; exact W64_zero
theorem or_parts (x y : Int) (k : Nat) (hx0 : 0 ≤ x) (hx : x < 2 ^ k) (hy0 : 0 ≤ y) (hy : x + y * 2 ^ k < 18446744073709551616) : bits .or .u64 x (y * 2 ^ k) = x + y * 2 ^ k := by
  obtain ⟨x, rfl⟩ : ∃ n : Nat, x = n := ⟨x.toNat, by omega⟩
  obtain ⟨y, rfl⟩ : ∃ n : Nat, y = n := ⟨y.toNat, by omega⟩
  have hx' : x < 2 ^ k := by
    have h := hx
    rw [show (2 : Int) ^ k = ((2 ^ k : Nat) : Int) by push_cast; rfl] at h
    omega
  have e : (y : Int) * 2 ^ k = ((y * 2 ^ k : Nat) : Int) := by push_cast; rfl
  rw [e] at hy ⊢
  have hs : x ||| (y * 2 ^ k) = x + y * 2 ^ k := by
    rw [Nat.or_comm, Nat.mul_comm, ← Nat.two_pow_add_eq_or_of_lt hx', Nat.add_comm]
  generalize y * 2 ^ k = z at *
  rw [bv_or, BitVec.toNat_or, bv_natCast, bv_natCast, Nat.mod_eq_of_lt (by omega), Nat.mod_eq_of_lt (by omega), hs]
  push_cast; rfl

end Go.Proofs.YteidkdpfjponfaaDoor
