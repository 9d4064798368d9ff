/- Exclusive or of bytes, in plain Lean. Conditions: the lists are bytes. -/
import Derived.Test.YtigedohalangbaaO1B
namespace Go.Proofs.Ytigedohalangbaa
open Go.RowKit
set_option linter.unusedVariables false

abbrev bv8 (x : Int) : BitVec 8 := BitVec.ofInt 8 x
theorem bv8_nat (z : BitVec 8) : bv8 (z.toNat : Int) = z := by
  apply BitVec.eq_of_toNat_eq; simp [bv8]
theorem wrap8_toNat (z : BitVec 8) : IntKind.u8.wrap (z.toNat : Int) = (z.toNat : Int) := by
  have := z.isLt
  rw [IntKind.wrap_u8]
  omega
theorem bx8 (a b : Int) : bits .xor .u8 a b = ((bv8 a ^^^ bv8 b).toNat : Int) := wrap8_toNat _
theorem bv8_toNat (x : Int) (h : B8 x) : ((bv8 x).toNat : Int) = x := by
  have h0 := h.1
  have h1 := h.2
  simp only [bv8, BitVec.toNat_ofInt]; omega
theorem bx8_comm (a b : Int) : bits .xor .u8 a b = bits .xor .u8 b a := by rw [bx8, bx8, BitVec.xor_comm]
theorem bx8_assoc (a b c : Int) : bits .xor .u8 (bits .xor .u8 a b) c = bits .xor .u8 a (bits .xor .u8 b c) := by
  rw [bx8, bx8, bx8, bx8, bv8_nat, bv8_nat, BitVec.xor_assoc]
theorem bx8_self (a : Int) : bits .xor .u8 a a = 0 := by rw [bx8, BitVec.xor_self]; rfl
theorem bx8_zero (a : Int) (h : B8 a) : bits .xor .u8 a 0 = a := by
  rw [bx8, show bv8 0 = 0#8 from rfl, BitVec.xor_zero, bv8_toNat a h]
theorem bx8_twice (a b : Int) (h : B8 a) : bits .xor .u8 (bits .xor .u8 a b) b = a := by
  rw [bx8_assoc, bx8_self, bx8_zero a h]
theorem xorL_comm (l m : List Int) : xorL l m = xorL m l := by
  apply ext_gt _ _ (by rw [xorL_len, xorL_len, Nat.min_comm])
  intro i hi
  rw [xorL_len] at hi
  rw [gt_xorL _ _ _ hi, gt_xorL _ _ _ (by omega), bx8_comm]
theorem xorL_assoc (l m n : List Int) : xorL (xorL l m) n = xorL l (xorL m n) := by
  apply ext_gt _ _ (by simp only [xorL_len]; omega)
  intro i hi
  simp only [xorL_len] at hi
  rw [gt_xorL _ _ _ (by rw [xorL_len]; omega), gt_xorL _ _ _ (by omega), gt_xorL _ _ _ (by rw [xorL_len]; omega), gt_xorL _ _ _ (by omega), bx8_assoc]
theorem xorL_self (l : List Int) : xorL l l = List.replicate l.length 0 := by
  apply ext_gt _ _ (by rw [xorL_len, List.length_replicate, Nat.min_self])
  intro i hi
  rw [xorL_len] at hi
  rw [gt_xorL _ _ _ hi, bx8_self, gt_rep _ _ _ (by omega)]
theorem xorL_zero (l : List Int) (h : Bys l) : xorL l (List.replicate l.length 0) = l := by
  apply ext_gt _ _ (by rw [xorL_len, List.length_replicate, Nat.min_self])
  intro i hi
  rw [xorL_len, List.length_replicate] at hi
  rw [gt_xorL _ _ _ (by rw [List.length_replicate]; exact hi), gt_rep _ _ _ (by omega), bx8_zero _ (h.gt i)]
theorem xorL_twice (l m : List Int) (h : Bys l) : xorL (xorL l m) m = l.take (min l.length m.length) := by
  apply ext_gt _ _ (by rw [xorL_len, xorL_len, List.length_take]; omega)
  intro i hi
  rw [xorL_len, xorL_len] at hi
  rw [gt_xorL _ _ _ (by rw [xorL_len]; omega), gt_xorL _ _ _ (by omega), gt_take _ _ _ (by omega), bx8_twice _ _ (h.gt i)]

end Go.Proofs.Ytigedohalangbaa
