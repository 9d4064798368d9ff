/- bits.Len of a number below 2^16, digits.Shape. Conditions: none of the program. -/
import Derived.Test.YtigedohalangbaaDoorD7B
import Derived.Deep.Cut
import Derived.Test.YtigedohalangbaaDoorD7Shape
namespace Go.Proofs.YtigedohalangbaaDoor
open Go.RowKit
set_option linter.unusedVariables false
set_option linter.unusedSimpArgs false

theorem byte_getD (b : ByteArray) (i : Nat) (h : i < b.size) : b[i] = b.data.toList.getD i 0 := by
  have h' : i < b.data.toList.length := by simpa using h
  rw [List.getD_eq_getElem?_getD, List.getElem?_eq_getElem h']
  rfl
theorem ret_int {k : IntKind} {a b : Int} (h : a = b) : Ending.returned (.int k a) = .returned (.int k b) := by rw [h]
set_option maxRecDepth 100000 in
theorem len64_any (x : Nat) (w : World) (hx : x < 65536) :
    Calls Tryd.prog 39 #[.int .u64 (x : Int)] w fun e w' => e = .returned (.int .i64 (bitLen 20 x : Nat)) ∧ w = w' := by
  have h1 : ¬ ((x : Int) ≥ 4294967296) := by omega
  have h2 : ¬ ((x : Int) ≥ 65536) := by omega
  have h3 : (x : Int) < 65536 := by omega
  by_cases h4 : x < 256
  · have h4I : ¬ ((x : Int) ≥ 256) := by omega
    go_enter Tryd.func39, Tryd.ntmps39
    go_wp2_with fail
    go_ret
    refine ⟨ret_int ?_, rfl⟩
    rw [byte_getD]
    clear h1 h2 h3 h4I hx
    revert x
    decide +kernel
  · have h4I : (x : Int) ≥ 256 := by omega
    obtain ⟨y, hy⟩ : ∃ y : Nat, (x : Int) / 2 ^ 8 = y := ⟨x / 256, by omega⟩
    have hy1 : y = x / 256 := by omega
    have hy2 : y < 256 := by omega
    have hbl : bitLen 20 x = 8 + bitLen 12 (x / 2 / 2 / 2 / 2 / 2 / 2 / 2 / 2) := by
      simp only [bitLen, if_neg (show ¬ x = 0 by omega), if_neg (show ¬ x / 2 = 0 by omega), if_neg (show ¬ x / 2 / 2 = 0 by omega), if_neg (show ¬ x / 2 / 2 / 2 = 0 by omega), if_neg (show ¬ x / 2 / 2 / 2 / 2 = 0 by omega), if_neg (show ¬ x / 2 / 2 / 2 / 2 / 2 = 0 by omega), if_neg (show ¬ x / 2 / 2 / 2 / 2 / 2 / 2 = 0 by omega), if_neg (show ¬ x / 2 / 2 / 2 / 2 / 2 / 2 / 2 = 0 by omega)]
      omega
    rw [show x / 2 / 2 / 2 / 2 / 2 / 2 / 2 / 2 = y by omega] at hbl
    have HB := Lib.hid hbl
    have HY := Lib.hid hy1
    have HY2 := Lib.hid hy
    clear hbl hy1 hy
    have h7 : ((x : Int) ≥ 4294967296) = False := by simp; omega
    clear h7
    go_enter Tryd.func39, Tryd.ntmps39
    go_upto_region 10 with (fail)
    have e1 : (x : Int) / 256 = (y : Int) := by have := HY.out; omega
    rw [e1]
    have hy3 : (y : Int) < 256 := by omega
    clear e1 h1 h2 h3 h4 h4I hx
    go_wp2_with fail
    go_ret
    refine ⟨ret_int ?_, rfl⟩
    rw [byte_getD, HB.out]
    clear HY HY2 HB hy3
    revert y
    decide +kernel
theorem len_any (x : Nat) (w : World) (hx : x < 65536) :
    Calls Tryd.prog 29 #[.int .u64 (x : Int)] w fun e w' => e = .returned (.int .i64 (bitLen 20 x : Nat)) ∧ w = w' := by
  have hL := len64_any x w hx
  generalize (bitLen 20 x : Int) = z at *
  go_enter Tryd.func29, Tryd.ntmps29
  go_wp2_with fail
  refine hL.mono ?_
  rintro e w' ⟨rfl, rfl⟩
  clear hL
  go_wp2_with fail
  go_ret
  exact ⟨rfl, rfl⟩

/-! ### digits.Shape -/
theorem shape_none (n wd : Int) (w : World) (h : n < 1 ∨ 64 < n ∨ mayB wd = false) :
    Calls Tryd.prog 18 #[.int .i64 n, .int .i64 wd] w fun e w' => e = .returned (.tuple #[.int .i64 0, .int .i64 0, .int .i64 0]) ∧ Below w.heap.size w w' := by
  by_cases h1 : n < 1
  · have h1' : decide (n < 1) = true := by simpa using h1
    go_enter Tryd.func18, Tryd.ntmps18
    go_wp2_with fail
    go_ret3
    exact ⟨rfl, Below.refl _ _⟩
  · have h1' : decide (n < 1) = false := by simpa using h1
    by_cases h2 : n > 64
    · have h2' : decide (n > 64) = true := by simpa using h2
      go_enter Tryd.func18, Tryd.ntmps18
      go_wp2_with fail
      go_ret3
      exact ⟨rfl, Below.refl _ _⟩
    · have h2' : decide (n > 64) = false := by simpa using h2
      have hM := may_any false wd w (by rcases h with h | h | h; omega; omega; exact h)
      clear h
      go_enter Tryd.func18, Tryd.ntmps18
      go_wp2_with (with_reducible refine hM.mono ?_; rintro e w' ⟨rfl, hb⟩)
      go_ret3
      exact ⟨rfl, hb⟩
theorem len_at (X : Int) (x L : Nat) (w : World) (hX : X = x) (hx : x < 65536) (hL : bitLen 20 x = L) :
    Calls Tryd.prog 29 #[.int .u64 X] w fun e w' => e = .returned (.int .i64 (L : Int)) ∧ w = w' := by
  subst hX hL
  exact len_any x w hx
theorem bitLen_le : ∀ f x, x < 2 ^ f → ∀ k, x < 2 ^ k → bitLen f x ≤ k
  | 0, x, h, k, hk => Nat.zero_le _
  | f + 1, x, h, 0, hk => by
    have : x = 0 := by simpa using hk
    simp [bitLen, this]
  | f + 1, x, h, k + 1, hk => by
    rw [bitLen]
    split
    · omega
    · have h1 : x / 2 < 2 ^ f := by rw [Nat.pow_succ] at h; omega
      have h2 : x / 2 < 2 ^ k := by rw [Nat.pow_succ] at hk; omega
      have := bitLen_le f (x / 2) h1 k h2
      omega
def ShapePost (n w : Nat) (W : World) (e : Ending) (W' : World) : Prop := e = .returned (.tuple #[.int .i64 (uOf n w : Nat), .int .i64 (vOf n w : Nat), .int .i64 (16 - (w : Int) * (vOf n w : Nat))]) ∧ Below W.heap.size W W'
theorem shape_mk {n w : Nat} {W W' : World} {a b c : Int} (ha : a = (uOf n w : Nat)) (hb : b = (vOf n w : Nat)) (hc : c = 16 - (w : Int) * (vOf n w : Nat)) (hB : Below W.heap.size W W') :
    ShapePost n w W (.returned (.tuple #[.int .i64 a, .int .i64 b, .int .i64 c])) W' := by subst ha hb hc; exact ⟨rfl, hB⟩
set_option maxHeartbeats 400000 in
theorem shape_1 (n : Nat) (w : World) (h1 : 1 ≤ n) (h64 : n ≤ 64) :
    Calls Tryd.prog 18 #[.int .i64 (n : Int), .int .i64 1] w (ShapePost n 1 w) := by
  obtain ⟨u, hu⟩ : ∃ u, uOf n 1 = u := ⟨_, rfl⟩
  have hu1 : u = 8 * n / 1 := hu.symm
  obtain ⟨L, hL⟩ : ∃ L, bitLen 20 (1 * u) = L := ⟨_, rfl⟩
  have hL16 : L ≤ 16 := by rw [← hL]; exact bitLen_le _ _ (by have : (2:Nat) ^ 20 = 1048576 := rfl; omega) 16 (by have : (2:Nat) ^ 16 = 65536 := rfl; omega)
  have hv : vOf n 1 = (L + 1 - 1) / 1 := by unfold vOf; rw [hu]; exact congrArg (fun z => (z + 1 - 1) / 1) hL
  have i1 : (1 : Int) ≤ (n : Int) := by omega
  have i2 : (n : Int) ≤ 64 := by omega
  have hM := may_any true 1 w rfl
  have HL := Lib.hid hL
  have HU := Lib.hid hu
  have HV := Lib.hid hv
  have HU1 := Lib.hid hu1
  clear hL hu hu1 hv
  go_enter Tryd.func18, Tryd.ntmps18
  go_wp2_with (first | (with_reducible refine hM.mono ?_; rintro e w' ⟨rfl, hb⟩) | (refine (len_at _ (1 * u) L _ ?_ ?_ HL.out).mono ?_; rotate_left 2; rintro e w' ⟨rfl, rfl⟩))
  · go_ret3
    exact shape_mk (by rw [HU.out, HU1.out]; omega) (by rw [HV.out]; omega) (by rw [HV.out]; omega) hb
  · have := HU1.out; omega
  · have := HU1.out; omega
set_option maxHeartbeats 400000 in
theorem shape_2 (n : Nat) (w : World) (h1 : 1 ≤ n) (h64 : n ≤ 64) :
    Calls Tryd.prog 18 #[.int .i64 (n : Int), .int .i64 2] w (ShapePost n 2 w) := by
  obtain ⟨u, hu⟩ : ∃ u, uOf n 2 = u := ⟨_, rfl⟩
  have hu1 : u = 8 * n / 2 := hu.symm
  obtain ⟨L, hL⟩ : ∃ L, bitLen 20 (3 * u) = L := ⟨_, rfl⟩
  have hL16 : L ≤ 16 := by rw [← hL]; exact bitLen_le _ _ (by have : (2:Nat) ^ 20 = 1048576 := rfl; omega) 16 (by have : (2:Nat) ^ 16 = 65536 := rfl; omega)
  have hv : vOf n 2 = (L + 2 - 1) / 2 := by unfold vOf; rw [hu]; exact congrArg (fun z => (z + 2 - 1) / 2) hL
  have i1 : (1 : Int) ≤ (n : Int) := by omega
  have i2 : (n : Int) ≤ 64 := by omega
  have hM := may_any true 2 w rfl
  have HL := Lib.hid hL
  have HU := Lib.hid hu
  have HV := Lib.hid hv
  have HU1 := Lib.hid hu1
  clear hL hu hu1 hv
  go_enter Tryd.func18, Tryd.ntmps18
  go_wp2_with (first | (with_reducible refine hM.mono ?_; rintro e w' ⟨rfl, hb⟩) | (refine (len_at _ (3 * u) L _ ?_ ?_ HL.out).mono ?_; rotate_left 2; rintro e w' ⟨rfl, rfl⟩))
  · go_ret3
    exact shape_mk (by rw [HU.out, HU1.out]; omega) (by rw [HV.out]; omega) (by rw [HV.out]; omega) hb
  · have := HU1.out; omega
  · have := HU1.out; omega
set_option maxHeartbeats 400000 in
theorem shape_4 (n : Nat) (w : World) (h1 : 1 ≤ n) (h64 : n ≤ 64) :
    Calls Tryd.prog 18 #[.int .i64 (n : Int), .int .i64 4] w (ShapePost n 4 w) := by
  obtain ⟨u, hu⟩ : ∃ u, uOf n 4 = u := ⟨_, rfl⟩
  have hu1 : u = 8 * n / 4 := hu.symm
  obtain ⟨L, hL⟩ : ∃ L, bitLen 20 (15 * u) = L := ⟨_, rfl⟩
  have hL16 : L ≤ 16 := by rw [← hL]; exact bitLen_le _ _ (by have : (2:Nat) ^ 20 = 1048576 := rfl; omega) 16 (by have : (2:Nat) ^ 16 = 65536 := rfl; omega)
  have hv : vOf n 4 = (L + 4 - 1) / 4 := by unfold vOf; rw [hu]; exact congrArg (fun z => (z + 4 - 1) / 4) hL
  have i1 : (1 : Int) ≤ (n : Int) := by omega
  have i2 : (n : Int) ≤ 64 := by omega
  have hM := may_any true 4 w rfl
  have HL := Lib.hid hL
  have HU := Lib.hid hu
  have HV := Lib.hid hv
  have HU1 := Lib.hid hu1
  clear hL hu hu1 hv
  go_enter Tryd.func18, Tryd.ntmps18
  go_wp2_with (first | (with_reducible refine hM.mono ?_; rintro e w' ⟨rfl, hb⟩) | (refine (len_at _ (15 * u) L _ ?_ ?_ HL.out).mono ?_; rotate_left 2; rintro e w' ⟨rfl, rfl⟩))
  · go_ret3
    exact shape_mk (by rw [HU.out, HU1.out]; omega) (by rw [HV.out]; omega) (by rw [HV.out]; omega) hb
  · have := HU1.out; omega
  · have := HU1.out; omega
set_option maxHeartbeats 400000 in
theorem shape_8 (n : Nat) (w : World) (h1 : 1 ≤ n) (h64 : n ≤ 64) :
    Calls Tryd.prog 18 #[.int .i64 (n : Int), .int .i64 8] w (ShapePost n 8 w) := by
  obtain ⟨u, hu⟩ : ∃ u, uOf n 8 = u := ⟨_, rfl⟩
  have hu1 : u = 8 * n / 8 := hu.symm
  obtain ⟨L, hL⟩ : ∃ L, bitLen 20 (255 * u) = L := ⟨_, rfl⟩
  have hL16 : L ≤ 16 := by rw [← hL]; exact bitLen_le _ _ (by have : (2:Nat) ^ 20 = 1048576 := rfl; omega) 16 (by have : (2:Nat) ^ 16 = 65536 := rfl; omega)
  have hv : vOf n 8 = (L + 8 - 1) / 8 := by unfold vOf; rw [hu]; exact congrArg (fun z => (z + 8 - 1) / 8) hL
  have i1 : (1 : Int) ≤ (n : Int) := by omega
  have i2 : (n : Int) ≤ 64 := by omega
  have hM := may_any true 8 w rfl
  have HL := Lib.hid hL
  have HU := Lib.hid hu
  have HV := Lib.hid hv
  have HU1 := Lib.hid hu1
  clear hL hu hu1 hv
  go_enter Tryd.func18, Tryd.ntmps18
  go_wp2_with (first | (with_reducible refine hM.mono ?_; rintro e w' ⟨rfl, hb⟩) | (refine (len_at _ (255 * u) L _ ?_ ?_ HL.out).mono ?_; rotate_left 2; rintro e w' ⟨rfl, rfl⟩))
  · go_ret3
    exact shape_mk (by rw [HU.out, HU1.out]; omega) (by rw [HV.out]; omega) (by rw [HV.out]; omega) hb
  · have := HU1.out; omega
  · have := HU1.out; omega
theorem shape_any (n wd : Nat) (w : World) (hw : IsW wd) (h1 : 1 ≤ n) (h64 : n ≤ 64) :
    Calls Tryd.prog 18 #[.int .i64 (n : Int), .int .i64 (wd : Int)] w (ShapePost n wd w) := by
  rcases hw with rfl | rfl | rfl | rfl
  · exact shape_1 n w h1 h64
  · exact shape_2 n w h1 h64
  · exact shape_4 n w h1 h64
  · exact shape_8 n w h1 h64

end Go.Proofs.YtigedohalangbaaDoor
