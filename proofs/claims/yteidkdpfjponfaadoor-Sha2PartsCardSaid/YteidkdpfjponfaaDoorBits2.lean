/- Words of 32 bits. Conditions: none. -/
import Derived.Test.YteidkdpfjponfaaDoorBase
import Derived.Laws.BitsAllLaws
import Derived.Laws.BitsLemmas
namespace Go.Proofs.YteidkdpfjponfaaDoor
open Go.RowKit

/-! ### Words of 32 bits -/
abbrev bw (x : Int) : BitVec 32 := BitVec.ofInt 32 x
theorem bw_nat (z : BitVec 32) : bw (z.toNat : Int) = z := by
  apply BitVec.eq_of_toNat_eq; simp [bw]
theorem bw_toNat (x : Int) (h0 : 0 ≤ x) (h1 : x < 4294967296) : ((bw x).toNat : Int) = x := by
  simp only [bw, BitVec.toNat_ofInt]; omega
theorem wrap32_toNat (z : BitVec 32) : IntKind.u32.wrap (z.toNat : Int) = (z.toNat : Int) := by
  have := z.isLt
  rw [IntKind.wrap_u32]
  omega
theorem bw_xor (a b : Int) : bits .xor .u32 a b = ((bw a ^^^ bw b).toNat : Int) := wrap32_toNat _
theorem bw_and (a b : Int) : bits .and .u32 a b = ((bw a &&& bw b).toNat : Int) := wrap32_toNat _
theorem bw_or (a b : Int) : bits .or .u32 a b = ((bw a ||| bw b).toNat : Int) := wrap32_toNat _
def rotw (x : Int) (s : Nat) : Int := ((bw x).rotateLeft s).toNat
theorem bw_natCast (X : Nat) : (bw (X : Int)).toNat = X % 4294967296 := by
  simp only [bw, BitVec.ofInt_natCast, BitVec.toNat_ofNat]
theorem bw_wrap (x : Int) : bw (IntKind.u32.wrap x) = bw x := by
  apply BitVec.eq_of_toNat_eq
  simp only [bw, BitVec.toNat_ofInt, IntKind.wrap_u32]
  omega
theorem bw_shl (X s : Nat) : bw ((X : Int) * 2 ^ s) = bw X <<< s := by
  apply BitVec.eq_of_toNat_eq
  rw [show (X : Int) * 2 ^ s = ((X * 2 ^ s : Nat) : Int) by push_cast; rfl, bw_natCast, BitVec.toNat_shiftLeft, bw_natCast, Nat.shiftLeft_eq]
  simp [Nat.mul_mod]
theorem bw_shr (X s : Nat) (h : X < 4294967296) : bw ((X : Int) / 2 ^ s) = bw X >>> s := by
  apply BitVec.eq_of_toNat_eq
  rw [show (X : Int) / 2 ^ s = ((X / 2 ^ s : Nat) : Int) by push_cast; rfl, bw_natCast, BitVec.toNat_ushiftRight, bw_natCast, Nat.shiftRight_eq_div_pow, Nat.mod_eq_of_lt h]
  exact Nat.mod_eq_of_lt (Nat.lt_of_le_of_lt (Nat.div_le_self _ _) h)
theorem rotw_eq (x k : Int) (h0 : 0 ≤ x) (h1 : x < 4294967296) (hk0 : 0 ≤ k) (hk : k < 32) :
    bits .or .u32 (IntKind.u32.wrap (x * 2 ^ k.toNat)) (x / 2 ^ (32 - k).toNat) = rotw x k.toNat := by
  obtain ⟨s, rfl⟩ : ∃ s : Nat, k = s := ⟨k.toNat, by omega⟩
  obtain ⟨X, rfl⟩ : ∃ X : Nat, x = X := ⟨x.toNat, by omega⟩
  have hs : s < 32 := by omega
  have e : (32 - (s : Int)).toNat = 32 - s := by omega
  rw [bw_or, rotw, BitVec.rotateLeft_def, e, Int.toNat_natCast, Nat.mod_eq_of_lt hs, bw_wrap, bw_shl, bw_shr X _ (by omega)]
theorem and31 (k : Int) (h0 : 0 ≤ k) (h1 : k < 32) : bits .and .u32 k 31 = k := by
  obtain ⟨n, rfl⟩ : ∃ n : Nat, k = n := ⟨k.toNat, by omega⟩
  have := u32_and_nat n 31 (by omega) (by decide)
  rw [show ((31 : Nat) : Int) = 31 from rfl] at this
  rw [this, show (31 : Nat) = 2 ^ 5 - 1 from rfl, Nat.and_two_pow_sub_one_eq_mod]
  omega
/-- A word of 32 bits, as a number. -/
def W32 (x : Int) : Prop := 0 ≤ x ∧ x < 4294967296
theorem W32.toNat (z : BitVec 32) : W32 (z.toNat : Int) := ⟨by omega, by have := z.isLt; omega⟩
theorem W32_xor (a b : Int) : W32 (bits .xor .u32 a b) := by rw [bw_xor]; exact W32.toNat _
theorem W32_and (a b : Int) : W32 (bits .and .u32 a b) := by rw [bw_and]; exact W32.toNat _
theorem W32_or (a b : Int) : W32 (bits .or .u32 a b) := by rw [bw_or]; exact W32.toNat _
theorem W32_rotw (a : Int) (s : Nat) : W32 (rotw a s) := W32.toNat _
theorem W32_zero : W32 0 := ⟨by decide, by decide⟩
theorem W32.bw_eq {x : Int} (h : W32 x) : ((bw x).toNat : Int) = x := bw_toNat x h.1 h.2
def Ww (l : List Int) : Prop := ∀ x ∈ l, W32 x
theorem Ww.gt {l : List Int} (h : Ww l) (i : Nat) : W32 (gt l i) := by
  unfold Proofs.YteidkdpfjponfaaDoor.gt
  rw [List.getD_eq_getElem?_getD]
  by_cases hi : i < l.length
  · rw [List.getElem?_eq_getElem hi]; exact h _ (List.getElem_mem hi)
  · rw [List.getElem?_eq_none (by omega)]; exact W32_zero
theorem Ww.st {l : List Int} (h : Ww l) (i : Nat) {x : Int} (hx : W32 x) : Ww (st l i x) := by
  intro y hy
  rcases List.mem_or_eq_of_mem_set hy with h1 | h1
  · exact h y h1
  · exact h1 ▸ hx
theorem Ww.zeros (n : Nat) : Ww (List.replicate n 0) := fun x hx => by rw [(List.mem_replicate.1 hx).2]; exact W32_zero
theorem or_partsw (x y : Int) (k : Nat) (hx0 : 0 ≤ x) (hx : x < 2 ^ k) (hy0 : 0 ≤ y) (hy : x + y * 2 ^ k < 4294967296) : bits .or .u32 x (y * 2 ^ k) = x + y * 2 ^ k := by
  obtain ⟨x, rfl⟩ : ∃ n : Nat, x = n := ⟨x.toNat, by omega⟩
  obtain ⟨y, rfl⟩ : ∃ n : Nat, y = n := ⟨y.toNat, by omega⟩
  have hx' : x < 2 ^ k := by
    have h := hx
    rw [show (2 : Int) ^ k = ((2 ^ k : Nat) : Int) by push_cast; rfl] at h
    omega
  have e : (y : Int) * 2 ^ k = ((y * 2 ^ k : Nat) : Int) := by push_cast; rfl
  rw [e] at hy ⊢
  have hs : x ||| (y * 2 ^ k) = x + y * 2 ^ k := by
    rw [Nat.or_comm, Nat.mul_comm, ← Nat.two_pow_add_eq_or_of_lt hx', Nat.add_comm]
  generalize y * 2 ^ k = z at *
  rw [bw_or, BitVec.toNat_or, bw_natCast, bw_natCast, Nat.mod_eq_of_lt (by omega), Nat.mod_eq_of_lt (by omega), hs]
  push_cast; rfl

end Go.Proofs.YteidkdpfjponfaaDoor
