/- DigitsShapes, walked. Conditions: the two bytes are bytes. -/
import Derived.Test.YtigedohalangbaaD7M
namespace Go.Proofs.Ytigedohalangbaa
open Go.RowKit
set_option linter.unusedVariables false
set_option linter.unusedSimpArgs false

theorem v_of : ∀ n, n ≤ 64 → 1 ≤ n → (4 ≤ vOf n 1 ∧ vOf n 1 ≤ 10) ∧ (2 ≤ vOf n 2 ∧ vOf n 2 ≤ 5) ∧ (2 ≤ vOf n 4 ∧ vOf n 4 ≤ 3) ∧ (1 ≤ vOf n 8 ∧ vOf n 8 ≤ 2) := by
  intro n hn
  have h : ∀ n, n < 65 → 1 ≤ n → (4 ≤ vOf n 1 ∧ vOf n 1 ≤ 10) ∧ (2 ≤ vOf n 2 ∧ vOf n 2 ≤ 5) ∧ (2 ≤ vOf n 4 ∧ vOf n 4 ≤ 3) ∧ (1 ≤ vOf n 8 ∧ vOf n 8 ≤ 2) := by decide +kernel
  exact h n (by omega)

set_option maxRecDepth 100000 in
set_option maxHeartbeats 1000000 in
theorem shapes7_1_4 (n x k : Nat) (w : World) (hn1 : (n : Int) < 256) (hx1 : (x : Int) < 256) (hq : x % 4 = 0) (hk : 1 + n % 64 = k) (hv : vOf k 1 = 4) :
    Calls Try.prog 6 #[.int .u8 (n : Int), .int .u8 (x : Int)] w fun e w' => e = .returned (.bool true) ∧ Below w.heap.size w w' := by
  have hqI : ((x : Int) % 4) = 0 := by omega
  have hkI : (1 + (n : Int) % 64) = (k : Int) := by omega
  have hk1 : 1 ≤ k := by omega
  have hk64 : k ≤ 64 := by omega
  have hok := shape_ok 1 (.inl rfl) k hk64 hk1
  obtain ⟨u, hu⟩ : ∃ u, uOf k 1 = u := ⟨_, rfl⟩
  rw [hu, hv] at hok
  have hS : ∀ W, Calls Try.prog 14 #[.int .i64 (k : Int), .int .i64 1] W (fun e W' => e = .returned (.tuple #[.int .i64 (u : Int), .int .i64 4, .int .i64 12]) ∧ Below W.heap.size W W') := fun W => by
    refine (shape_any k 1 W (.inl rfl) hk1 hk64).mono ?_
    rintro e w' ⟨rfl, hB⟩
    rw [hu, hv]
    exact ⟨rfl, hB⟩
  have e1 : (u : Int) ≤ 512 := by have := hok.1; omega
  have e0 : (0 : Int) ≤ (u : Int) := by omega
  have f1 : ((u : Int)) < 16 := by have h := hok.2.2.2.1; rw [show (2 : Nat) ^ (1 * 4) = 16 from rfl, show (2 : Nat) ^ 1 - 1 = 1 from rfl] at h; omega
  have f2 : 8 ≤ ((u : Int)) := by have h := hok.2.2.2.2 (by decide); rw [show (2 : Nat) ^ (1 * (4 - 1)) = 8 from rfl, show (2 : Nat) ^ 1 - 1 = 1 from rfl] at h; omega
  have f3 : ((u : Int) != 8 * (k : Int)) = false := by have := hok.1; simp; omega
  obtain ⟨N, hN⟩ : ∃ N, u + 4 = N := ⟨_, rfl⟩
  have hN2 : uOf k 1 + vOf k 1 = N := by rw [hu, hv]; exact hN
  have f4 : ((N : Int) == (u : Int) + 4) = true := by simp; omega
  have hAz := fun W b (h : Arr W b 5 .u8 (List.replicate k 0)) => all_zeros k 1 N W b (.inl rfl) hk1 hk64 h hN2
  obtain ⟨Z, hZ⟩ : ∃ Z : List Int, List.replicate k 0 = Z := ⟨_, rfl⟩
  have hmk : ∀ wx, (Instr.makeSlice 22 (.int .i64 (k : Int)) (.int .i64 (k : Int))).run Try.prog wx = .ok (.slice (some ⟨wx.heap.size, 0, none⟩) k k) (wx.alloc (.cells (U .u8 Z) 5)) := fun wx => by
    rw [← hZ]; exact run_make_nums (P := Try.prog) wx 22 5 .u8 1 Try.underlying22 inf_u8 .i64 .i64 k k (Nat.le_refl _) (by omega) (by omega)
  rw [hZ] at hAz
  have HS := Lib.hid hS
  have HAZ := Lib.hid hAz
  clear hS hAz hZ hN hN2 hu hv hok hk hq
  go_enter Try.func6, Try.ntmps6
  go_wp2_with fail
  (with_reducible refine (awake7_any w).mono ?_)
  rintro e w1 ⟨rfl, hb1⟩
  have hs1 := hb1.size
  have hK2 : Below w.heap.size w (w1.alloc (.cells #[.int .i64 1, .int .i64 2, .int .i64 4, .int .i64 8] 3)) := hb1.alloc hs1 _
  have hW4 : Arr (w1.alloc (.cells #[.int .i64 1, .int .i64 2, .int .i64 4, .int .i64 8] 3)) w1.heap.size 3 .i64 [1, 2, 4, 8] := Arr.new w1 3 .i64 [1, 2, 4, 8]
  have hcl : (w1.alloc (.cells #[.int .i64 1, .int .i64 2, .int .i64 4, .int .i64 8] 3)).cell? ⟨w1.heap.size, 0, none⟩ = some (.int .i64 1) := hW4.cell 0 (by decide)
  clear hW4
  go_wp2_with fail
  obtain ⟨w2, hw2⟩ : ∃ w2, w1.alloc (.cells #[.int .i64 1, .int .i64 2, .int .i64 4, .int .i64 8] 3) = w2 := ⟨_, rfl⟩
  rw [hw2] at hK2 ⊢
  have hs2 := hK2.size
  clear hw2 hcl hb1
  refine (HS.out w2).mono ?_
  rintro e w3 ⟨rfl, hb3⟩
  have hK3 : Below w.heap.size w w3 := hK2.trans (hb3.mono hs2)
  have hs3 := hK3.size
  clear hb3 hK2
  go_wp2_with fail
  have hZA := Arr.new w3 5 .u8 Z
  refine (HAZ.out _ w3.heap.size hZA).mono ?_
  rintro e w4 ⟨A4, c4, l4, rfl, _, _, hb4⟩
  have hK4 : Below w.heap.size w w4 := (hK3.alloc hs3 _).trans (hb4.mono (by simp; omega))
  clear hb4 hZA hmk hK3
  go_wp2_with fail
  go_ret
  exact ⟨rfl, hK4⟩

set_option maxRecDepth 100000 in
set_option maxHeartbeats 1000000 in
theorem shapes7_1_5 (n x k : Nat) (w : World) (hn1 : (n : Int) < 256) (hx1 : (x : Int) < 256) (hq : x % 4 = 0) (hk : 1 + n % 64 = k) (hv : vOf k 1 = 5) :
    Calls Try.prog 6 #[.int .u8 (n : Int), .int .u8 (x : Int)] w fun e w' => e = .returned (.bool true) ∧ Below w.heap.size w w' := by
  have hqI : ((x : Int) % 4) = 0 := by omega
  have hkI : (1 + (n : Int) % 64) = (k : Int) := by omega
  have hk1 : 1 ≤ k := by omega
  have hk64 : k ≤ 64 := by omega
  have hok := shape_ok 1 (.inl rfl) k hk64 hk1
  obtain ⟨u, hu⟩ : ∃ u, uOf k 1 = u := ⟨_, rfl⟩
  rw [hu, hv] at hok
  have hS : ∀ W, Calls Try.prog 14 #[.int .i64 (k : Int), .int .i64 1] W (fun e W' => e = .returned (.tuple #[.int .i64 (u : Int), .int .i64 5, .int .i64 11]) ∧ Below W.heap.size W W') := fun W => by
    refine (shape_any k 1 W (.inl rfl) hk1 hk64).mono ?_
    rintro e w' ⟨rfl, hB⟩
    rw [hu, hv]
    exact ⟨rfl, hB⟩
  have e1 : (u : Int) ≤ 512 := by have := hok.1; omega
  have e0 : (0 : Int) ≤ (u : Int) := by omega
  have f1 : ((u : Int)) < 32 := by have h := hok.2.2.2.1; rw [show (2 : Nat) ^ (1 * 5) = 32 from rfl, show (2 : Nat) ^ 1 - 1 = 1 from rfl] at h; omega
  have f2 : 16 ≤ ((u : Int)) := by have h := hok.2.2.2.2 (by decide); rw [show (2 : Nat) ^ (1 * (5 - 1)) = 16 from rfl, show (2 : Nat) ^ 1 - 1 = 1 from rfl] at h; omega
  have f3 : ((u : Int) != 8 * (k : Int)) = false := by have := hok.1; simp; omega
  obtain ⟨N, hN⟩ : ∃ N, u + 5 = N := ⟨_, rfl⟩
  have hN2 : uOf k 1 + vOf k 1 = N := by rw [hu, hv]; exact hN
  have f4 : ((N : Int) == (u : Int) + 5) = true := by simp; omega
  have hAz := fun W b (h : Arr W b 5 .u8 (List.replicate k 0)) => all_zeros k 1 N W b (.inl rfl) hk1 hk64 h hN2
  obtain ⟨Z, hZ⟩ : ∃ Z : List Int, List.replicate k 0 = Z := ⟨_, rfl⟩
  have hmk : ∀ wx, (Instr.makeSlice 22 (.int .i64 (k : Int)) (.int .i64 (k : Int))).run Try.prog wx = .ok (.slice (some ⟨wx.heap.size, 0, none⟩) k k) (wx.alloc (.cells (U .u8 Z) 5)) := fun wx => by
    rw [← hZ]; exact run_make_nums (P := Try.prog) wx 22 5 .u8 1 Try.underlying22 inf_u8 .i64 .i64 k k (Nat.le_refl _) (by omega) (by omega)
  rw [hZ] at hAz
  have HS := Lib.hid hS
  have HAZ := Lib.hid hAz
  clear hS hAz hZ hN hN2 hu hv hok hk hq
  go_enter Try.func6, Try.ntmps6
  go_wp2_with fail
  (with_reducible refine (awake7_any w).mono ?_)
  rintro e w1 ⟨rfl, hb1⟩
  have hs1 := hb1.size
  have hK2 : Below w.heap.size w (w1.alloc (.cells #[.int .i64 1, .int .i64 2, .int .i64 4, .int .i64 8] 3)) := hb1.alloc hs1 _
  have hW4 : Arr (w1.alloc (.cells #[.int .i64 1, .int .i64 2, .int .i64 4, .int .i64 8] 3)) w1.heap.size 3 .i64 [1, 2, 4, 8] := Arr.new w1 3 .i64 [1, 2, 4, 8]
  have hcl : (w1.alloc (.cells #[.int .i64 1, .int .i64 2, .int .i64 4, .int .i64 8] 3)).cell? ⟨w1.heap.size, 0, none⟩ = some (.int .i64 1) := hW4.cell 0 (by decide)
  clear hW4
  go_wp2_with fail
  obtain ⟨w2, hw2⟩ : ∃ w2, w1.alloc (.cells #[.int .i64 1, .int .i64 2, .int .i64 4, .int .i64 8] 3) = w2 := ⟨_, rfl⟩
  rw [hw2] at hK2 ⊢
  have hs2 := hK2.size
  clear hw2 hcl hb1
  refine (HS.out w2).mono ?_
  rintro e w3 ⟨rfl, hb3⟩
  have hK3 : Below w.heap.size w w3 := hK2.trans (hb3.mono hs2)
  have hs3 := hK3.size
  clear hb3 hK2
  go_wp2_with fail
  have hZA := Arr.new w3 5 .u8 Z
  refine (HAZ.out _ w3.heap.size hZA).mono ?_
  rintro e w4 ⟨A4, c4, l4, rfl, _, _, hb4⟩
  have hK4 : Below w.heap.size w w4 := (hK3.alloc hs3 _).trans (hb4.mono (by simp; omega))
  clear hb4 hZA hmk hK3
  go_wp2_with fail
  go_ret
  exact ⟨rfl, hK4⟩

set_option maxRecDepth 100000 in
set_option maxHeartbeats 1000000 in
theorem shapes7_1_6 (n x k : Nat) (w : World) (hn1 : (n : Int) < 256) (hx1 : (x : Int) < 256) (hq : x % 4 = 0) (hk : 1 + n % 64 = k) (hv : vOf k 1 = 6) :
    Calls Try.prog 6 #[.int .u8 (n : Int), .int .u8 (x : Int)] w fun e w' => e = .returned (.bool true) ∧ Below w.heap.size w w' := by
  have hqI : ((x : Int) % 4) = 0 := by omega
  have hkI : (1 + (n : Int) % 64) = (k : Int) := by omega
  have hk1 : 1 ≤ k := by omega
  have hk64 : k ≤ 64 := by omega
  have hok := shape_ok 1 (.inl rfl) k hk64 hk1
  obtain ⟨u, hu⟩ : ∃ u, uOf k 1 = u := ⟨_, rfl⟩
  rw [hu, hv] at hok
  have hS : ∀ W, Calls Try.prog 14 #[.int .i64 (k : Int), .int .i64 1] W (fun e W' => e = .returned (.tuple #[.int .i64 (u : Int), .int .i64 6, .int .i64 10]) ∧ Below W.heap.size W W') := fun W => by
    refine (shape_any k 1 W (.inl rfl) hk1 hk64).mono ?_
    rintro e w' ⟨rfl, hB⟩
    rw [hu, hv]
    exact ⟨rfl, hB⟩
  have e1 : (u : Int) ≤ 512 := by have := hok.1; omega
  have e0 : (0 : Int) ≤ (u : Int) := by omega
  have f1 : ((u : Int)) < 64 := by have h := hok.2.2.2.1; rw [show (2 : Nat) ^ (1 * 6) = 64 from rfl, show (2 : Nat) ^ 1 - 1 = 1 from rfl] at h; omega
  have f2 : 32 ≤ ((u : Int)) := by have h := hok.2.2.2.2 (by decide); rw [show (2 : Nat) ^ (1 * (6 - 1)) = 32 from rfl, show (2 : Nat) ^ 1 - 1 = 1 from rfl] at h; omega
  have f3 : ((u : Int) != 8 * (k : Int)) = false := by have := hok.1; simp; omega
  obtain ⟨N, hN⟩ : ∃ N, u + 6 = N := ⟨_, rfl⟩
  have hN2 : uOf k 1 + vOf k 1 = N := by rw [hu, hv]; exact hN
  have f4 : ((N : Int) == (u : Int) + 6) = true := by simp; omega
  have hAz := fun W b (h : Arr W b 5 .u8 (List.replicate k 0)) => all_zeros k 1 N W b (.inl rfl) hk1 hk64 h hN2
  obtain ⟨Z, hZ⟩ : ∃ Z : List Int, List.replicate k 0 = Z := ⟨_, rfl⟩
  have hmk : ∀ wx, (Instr.makeSlice 22 (.int .i64 (k : Int)) (.int .i64 (k : Int))).run Try.prog wx = .ok (.slice (some ⟨wx.heap.size, 0, none⟩) k k) (wx.alloc (.cells (U .u8 Z) 5)) := fun wx => by
    rw [← hZ]; exact run_make_nums (P := Try.prog) wx 22 5 .u8 1 Try.underlying22 inf_u8 .i64 .i64 k k (Nat.le_refl _) (by omega) (by omega)
  rw [hZ] at hAz
  have HS := Lib.hid hS
  have HAZ := Lib.hid hAz
  clear hS hAz hZ hN hN2 hu hv hok hk hq
  go_enter Try.func6, Try.ntmps6
  go_wp2_with fail
  (with_reducible refine (awake7_any w).mono ?_)
  rintro e w1 ⟨rfl, hb1⟩
  have hs1 := hb1.size
  have hK2 : Below w.heap.size w (w1.alloc (.cells #[.int .i64 1, .int .i64 2, .int .i64 4, .int .i64 8] 3)) := hb1.alloc hs1 _
  have hW4 : Arr (w1.alloc (.cells #[.int .i64 1, .int .i64 2, .int .i64 4, .int .i64 8] 3)) w1.heap.size 3 .i64 [1, 2, 4, 8] := Arr.new w1 3 .i64 [1, 2, 4, 8]
  have hcl : (w1.alloc (.cells #[.int .i64 1, .int .i64 2, .int .i64 4, .int .i64 8] 3)).cell? ⟨w1.heap.size, 0, none⟩ = some (.int .i64 1) := hW4.cell 0 (by decide)
  clear hW4
  go_wp2_with fail
  obtain ⟨w2, hw2⟩ : ∃ w2, w1.alloc (.cells #[.int .i64 1, .int .i64 2, .int .i64 4, .int .i64 8] 3) = w2 := ⟨_, rfl⟩
  rw [hw2] at hK2 ⊢
  have hs2 := hK2.size
  clear hw2 hcl hb1
  refine (HS.out w2).mono ?_
  rintro e w3 ⟨rfl, hb3⟩
  have hK3 : Below w.heap.size w w3 := hK2.trans (hb3.mono hs2)
  have hs3 := hK3.size
  clear hb3 hK2
  go_wp2_with fail
  have hZA := Arr.new w3 5 .u8 Z
  refine (HAZ.out _ w3.heap.size hZA).mono ?_
  rintro e w4 ⟨A4, c4, l4, rfl, _, _, hb4⟩
  have hK4 : Below w.heap.size w w4 := (hK3.alloc hs3 _).trans (hb4.mono (by simp; omega))
  clear hb4 hZA hmk hK3
  go_wp2_with fail
  go_ret
  exact ⟨rfl, hK4⟩

set_option maxRecDepth 100000 in
set_option maxHeartbeats 1000000 in
theorem shapes7_1_7 (n x k : Nat) (w : World) (hn1 : (n : Int) < 256) (hx1 : (x : Int) < 256) (hq : x % 4 = 0) (hk : 1 + n % 64 = k) (hv : vOf k 1 = 7) :
    Calls Try.prog 6 #[.int .u8 (n : Int), .int .u8 (x : Int)] w fun e w' => e = .returned (.bool true) ∧ Below w.heap.size w w' := by
  have hqI : ((x : Int) % 4) = 0 := by omega
  have hkI : (1 + (n : Int) % 64) = (k : Int) := by omega
  have hk1 : 1 ≤ k := by omega
  have hk64 : k ≤ 64 := by omega
  have hok := shape_ok 1 (.inl rfl) k hk64 hk1
  obtain ⟨u, hu⟩ : ∃ u, uOf k 1 = u := ⟨_, rfl⟩
  rw [hu, hv] at hok
  have hS : ∀ W, Calls Try.prog 14 #[.int .i64 (k : Int), .int .i64 1] W (fun e W' => e = .returned (.tuple #[.int .i64 (u : Int), .int .i64 7, .int .i64 9]) ∧ Below W.heap.size W W') := fun W => by
    refine (shape_any k 1 W (.inl rfl) hk1 hk64).mono ?_
    rintro e w' ⟨rfl, hB⟩
    rw [hu, hv]
    exact ⟨rfl, hB⟩
  have e1 : (u : Int) ≤ 512 := by have := hok.1; omega
  have e0 : (0 : Int) ≤ (u : Int) := by omega
  have f1 : ((u : Int)) < 128 := by have h := hok.2.2.2.1; rw [show (2 : Nat) ^ (1 * 7) = 128 from rfl, show (2 : Nat) ^ 1 - 1 = 1 from rfl] at h; omega
  have f2 : 64 ≤ ((u : Int)) := by have h := hok.2.2.2.2 (by decide); rw [show (2 : Nat) ^ (1 * (7 - 1)) = 64 from rfl, show (2 : Nat) ^ 1 - 1 = 1 from rfl] at h; omega
  have f3 : ((u : Int) != 8 * (k : Int)) = false := by have := hok.1; simp; omega
  obtain ⟨N, hN⟩ : ∃ N, u + 7 = N := ⟨_, rfl⟩
  have hN2 : uOf k 1 + vOf k 1 = N := by rw [hu, hv]; exact hN
  have f4 : ((N : Int) == (u : Int) + 7) = true := by simp; omega
  have hAz := fun W b (h : Arr W b 5 .u8 (List.replicate k 0)) => all_zeros k 1 N W b (.inl rfl) hk1 hk64 h hN2
  obtain ⟨Z, hZ⟩ : ∃ Z : List Int, List.replicate k 0 = Z := ⟨_, rfl⟩
  have hmk : ∀ wx, (Instr.makeSlice 22 (.int .i64 (k : Int)) (.int .i64 (k : Int))).run Try.prog wx = .ok (.slice (some ⟨wx.heap.size, 0, none⟩) k k) (wx.alloc (.cells (U .u8 Z) 5)) := fun wx => by
    rw [← hZ]; exact run_make_nums (P := Try.prog) wx 22 5 .u8 1 Try.underlying22 inf_u8 .i64 .i64 k k (Nat.le_refl _) (by omega) (by omega)
  rw [hZ] at hAz
  have HS := Lib.hid hS
  have HAZ := Lib.hid hAz
  clear hS hAz hZ hN hN2 hu hv hok hk hq
  go_enter Try.func6, Try.ntmps6
  go_wp2_with fail
  (with_reducible refine (awake7_any w).mono ?_)
  rintro e w1 ⟨rfl, hb1⟩
  have hs1 := hb1.size
  have hK2 : Below w.heap.size w (w1.alloc (.cells #[.int .i64 1, .int .i64 2, .int .i64 4, .int .i64 8] 3)) := hb1.alloc hs1 _
  have hW4 : Arr (w1.alloc (.cells #[.int .i64 1, .int .i64 2, .int .i64 4, .int .i64 8] 3)) w1.heap.size 3 .i64 [1, 2, 4, 8] := Arr.new w1 3 .i64 [1, 2, 4, 8]
  have hcl : (w1.alloc (.cells #[.int .i64 1, .int .i64 2, .int .i64 4, .int .i64 8] 3)).cell? ⟨w1.heap.size, 0, none⟩ = some (.int .i64 1) := hW4.cell 0 (by decide)
  clear hW4
  go_wp2_with fail
  obtain ⟨w2, hw2⟩ : ∃ w2, w1.alloc (.cells #[.int .i64 1, .int .i64 2, .int .i64 4, .int .i64 8] 3) = w2 := ⟨_, rfl⟩
  rw [hw2] at hK2 ⊢
  have hs2 := hK2.size
  clear hw2 hcl hb1
  refine (HS.out w2).mono ?_
  rintro e w3 ⟨rfl, hb3⟩
  have hK3 : Below w.heap.size w w3 := hK2.trans (hb3.mono hs2)
  have hs3 := hK3.size
  clear hb3 hK2
  go_wp2_with fail
  have hZA := Arr.new w3 5 .u8 Z
  refine (HAZ.out _ w3.heap.size hZA).mono ?_
  rintro e w4 ⟨A4, c4, l4, rfl, _, _, hb4⟩
  have hK4 : Below w.heap.size w w4 := (hK3.alloc hs3 _).trans (hb4.mono (by simp; omega))
  clear hb4 hZA hmk hK3
  go_wp2_with fail
  go_ret
  exact ⟨rfl, hK4⟩

set_option maxRecDepth 100000 in
set_option maxHeartbeats 1000000 in
theorem shapes7_1_8 (n x k : Nat) (w : World) (hn1 : (n : Int) < 256) (hx1 : (x : Int) < 256) (hq : x % 4 = 0) (hk : 1 + n % 64 = k) (hv : vOf k 1 = 8) :
    Calls Try.prog 6 #[.int .u8 (n : Int), .int .u8 (x : Int)] w fun e w' => e = .returned (.bool true) ∧ Below w.heap.size w w' := by
  have hqI : ((x : Int) % 4) = 0 := by omega
  have hkI : (1 + (n : Int) % 64) = (k : Int) := by omega
  have hk1 : 1 ≤ k := by omega
  have hk64 : k ≤ 64 := by omega
  have hok := shape_ok 1 (.inl rfl) k hk64 hk1
  obtain ⟨u, hu⟩ : ∃ u, uOf k 1 = u := ⟨_, rfl⟩
  rw [hu, hv] at hok
  have hS : ∀ W, Calls Try.prog 14 #[.int .i64 (k : Int), .int .i64 1] W (fun e W' => e = .returned (.tuple #[.int .i64 (u : Int), .int .i64 8, .int .i64 8]) ∧ Below W.heap.size W W') := fun W => by
    refine (shape_any k 1 W (.inl rfl) hk1 hk64).mono ?_
    rintro e w' ⟨rfl, hB⟩
    rw [hu, hv]
    exact ⟨rfl, hB⟩
  have e1 : (u : Int) ≤ 512 := by have := hok.1; omega
  have e0 : (0 : Int) ≤ (u : Int) := by omega
  have f1 : ((u : Int)) < 256 := by have h := hok.2.2.2.1; rw [show (2 : Nat) ^ (1 * 8) = 256 from rfl, show (2 : Nat) ^ 1 - 1 = 1 from rfl] at h; omega
  have f2 : 128 ≤ ((u : Int)) := by have h := hok.2.2.2.2 (by decide); rw [show (2 : Nat) ^ (1 * (8 - 1)) = 128 from rfl, show (2 : Nat) ^ 1 - 1 = 1 from rfl] at h; omega
  have f3 : ((u : Int) != 8 * (k : Int)) = false := by have := hok.1; simp; omega
  obtain ⟨N, hN⟩ : ∃ N, u + 8 = N := ⟨_, rfl⟩
  have hN2 : uOf k 1 + vOf k 1 = N := by rw [hu, hv]; exact hN
  have f4 : ((N : Int) == (u : Int) + 8) = true := by simp; omega
  have hAz := fun W b (h : Arr W b 5 .u8 (List.replicate k 0)) => all_zeros k 1 N W b (.inl rfl) hk1 hk64 h hN2
  obtain ⟨Z, hZ⟩ : ∃ Z : List Int, List.replicate k 0 = Z := ⟨_, rfl⟩
  have hmk : ∀ wx, (Instr.makeSlice 22 (.int .i64 (k : Int)) (.int .i64 (k : Int))).run Try.prog wx = .ok (.slice (some ⟨wx.heap.size, 0, none⟩) k k) (wx.alloc (.cells (U .u8 Z) 5)) := fun wx => by
    rw [← hZ]; exact run_make_nums (P := Try.prog) wx 22 5 .u8 1 Try.underlying22 inf_u8 .i64 .i64 k k (Nat.le_refl _) (by omega) (by omega)
  rw [hZ] at hAz
  have HS := Lib.hid hS
  have HAZ := Lib.hid hAz
  clear hS hAz hZ hN hN2 hu hv hok hk hq
  go_enter Try.func6, Try.ntmps6
  go_wp2_with fail
  (with_reducible refine (awake7_any w).mono ?_)
  rintro e w1 ⟨rfl, hb1⟩
  have hs1 := hb1.size
  have hK2 : Below w.heap.size w (w1.alloc (.cells #[.int .i64 1, .int .i64 2, .int .i64 4, .int .i64 8] 3)) := hb1.alloc hs1 _
  have hW4 : Arr (w1.alloc (.cells #[.int .i64 1, .int .i64 2, .int .i64 4, .int .i64 8] 3)) w1.heap.size 3 .i64 [1, 2, 4, 8] := Arr.new w1 3 .i64 [1, 2, 4, 8]
  have hcl : (w1.alloc (.cells #[.int .i64 1, .int .i64 2, .int .i64 4, .int .i64 8] 3)).cell? ⟨w1.heap.size, 0, none⟩ = some (.int .i64 1) := hW4.cell 0 (by decide)
  clear hW4
  go_wp2_with fail
  obtain ⟨w2, hw2⟩ : ∃ w2, w1.alloc (.cells #[.int .i64 1, .int .i64 2, .int .i64 4, .int .i64 8] 3) = w2 := ⟨_, rfl⟩
  rw [hw2] at hK2 ⊢
  have hs2 := hK2.size
  clear hw2 hcl hb1
  refine (HS.out w2).mono ?_
  rintro e w3 ⟨rfl, hb3⟩
  have hK3 : Below w.heap.size w w3 := hK2.trans (hb3.mono hs2)
  have hs3 := hK3.size
  clear hb3 hK2
  go_wp2_with fail
  have hZA := Arr.new w3 5 .u8 Z
  refine (HAZ.out _ w3.heap.size hZA).mono ?_
  rintro e w4 ⟨A4, c4, l4, rfl, _, _, hb4⟩
  have hK4 : Below w.heap.size w w4 := (hK3.alloc hs3 _).trans (hb4.mono (by simp; omega))
  clear hb4 hZA hmk hK3
  go_wp2_with fail
  go_ret
  exact ⟨rfl, hK4⟩

set_option maxRecDepth 100000 in
set_option maxHeartbeats 1000000 in
theorem shapes7_1_9 (n x k : Nat) (w : World) (hn1 : (n : Int) < 256) (hx1 : (x : Int) < 256) (hq : x % 4 = 0) (hk : 1 + n % 64 = k) (hv : vOf k 1 = 9) :
    Calls Try.prog 6 #[.int .u8 (n : Int), .int .u8 (x : Int)] w fun e w' => e = .returned (.bool true) ∧ Below w.heap.size w w' := by
  have hqI : ((x : Int) % 4) = 0 := by omega
  have hkI : (1 + (n : Int) % 64) = (k : Int) := by omega
  have hk1 : 1 ≤ k := by omega
  have hk64 : k ≤ 64 := by omega
  have hok := shape_ok 1 (.inl rfl) k hk64 hk1
  obtain ⟨u, hu⟩ : ∃ u, uOf k 1 = u := ⟨_, rfl⟩
  rw [hu, hv] at hok
  have hS : ∀ W, Calls Try.prog 14 #[.int .i64 (k : Int), .int .i64 1] W (fun e W' => e = .returned (.tuple #[.int .i64 (u : Int), .int .i64 9, .int .i64 7]) ∧ Below W.heap.size W W') := fun W => by
    refine (shape_any k 1 W (.inl rfl) hk1 hk64).mono ?_
    rintro e w' ⟨rfl, hB⟩
    rw [hu, hv]
    exact ⟨rfl, hB⟩
  have e1 : (u : Int) ≤ 512 := by have := hok.1; omega
  have e0 : (0 : Int) ≤ (u : Int) := by omega
  have f1 : ((u : Int)) < 512 := by have h := hok.2.2.2.1; rw [show (2 : Nat) ^ (1 * 9) = 512 from rfl, show (2 : Nat) ^ 1 - 1 = 1 from rfl] at h; omega
  have f2 : 256 ≤ ((u : Int)) := by have h := hok.2.2.2.2 (by decide); rw [show (2 : Nat) ^ (1 * (9 - 1)) = 256 from rfl, show (2 : Nat) ^ 1 - 1 = 1 from rfl] at h; omega
  have f3 : ((u : Int) != 8 * (k : Int)) = false := by have := hok.1; simp; omega
  obtain ⟨N, hN⟩ : ∃ N, u + 9 = N := ⟨_, rfl⟩
  have hN2 : uOf k 1 + vOf k 1 = N := by rw [hu, hv]; exact hN
  have f4 : ((N : Int) == (u : Int) + 9) = true := by simp; omega
  have hAz := fun W b (h : Arr W b 5 .u8 (List.replicate k 0)) => all_zeros k 1 N W b (.inl rfl) hk1 hk64 h hN2
  obtain ⟨Z, hZ⟩ : ∃ Z : List Int, List.replicate k 0 = Z := ⟨_, rfl⟩
  have hmk : ∀ wx, (Instr.makeSlice 22 (.int .i64 (k : Int)) (.int .i64 (k : Int))).run Try.prog wx = .ok (.slice (some ⟨wx.heap.size, 0, none⟩) k k) (wx.alloc (.cells (U .u8 Z) 5)) := fun wx => by
    rw [← hZ]; exact run_make_nums (P := Try.prog) wx 22 5 .u8 1 Try.underlying22 inf_u8 .i64 .i64 k k (Nat.le_refl _) (by omega) (by omega)
  rw [hZ] at hAz
  have HS := Lib.hid hS
  have HAZ := Lib.hid hAz
  clear hS hAz hZ hN hN2 hu hv hok hk hq
  go_enter Try.func6, Try.ntmps6
  go_wp2_with fail
  (with_reducible refine (awake7_any w).mono ?_)
  rintro e w1 ⟨rfl, hb1⟩
  have hs1 := hb1.size
  have hK2 : Below w.heap.size w (w1.alloc (.cells #[.int .i64 1, .int .i64 2, .int .i64 4, .int .i64 8] 3)) := hb1.alloc hs1 _
  have hW4 : Arr (w1.alloc (.cells #[.int .i64 1, .int .i64 2, .int .i64 4, .int .i64 8] 3)) w1.heap.size 3 .i64 [1, 2, 4, 8] := Arr.new w1 3 .i64 [1, 2, 4, 8]
  have hcl : (w1.alloc (.cells #[.int .i64 1, .int .i64 2, .int .i64 4, .int .i64 8] 3)).cell? ⟨w1.heap.size, 0, none⟩ = some (.int .i64 1) := hW4.cell 0 (by decide)
  clear hW4
  go_wp2_with fail
  obtain ⟨w2, hw2⟩ : ∃ w2, w1.alloc (.cells #[.int .i64 1, .int .i64 2, .int .i64 4, .int .i64 8] 3) = w2 := ⟨_, rfl⟩
  rw [hw2] at hK2 ⊢
  have hs2 := hK2.size
  clear hw2 hcl hb1
  refine (HS.out w2).mono ?_
  rintro e w3 ⟨rfl, hb3⟩
  have hK3 : Below w.heap.size w w3 := hK2.trans (hb3.mono hs2)
  have hs3 := hK3.size
  clear hb3 hK2
  go_wp2_with fail
  have hZA := Arr.new w3 5 .u8 Z
  refine (HAZ.out _ w3.heap.size hZA).mono ?_
  rintro e w4 ⟨A4, c4, l4, rfl, _, _, hb4⟩
  have hK4 : Below w.heap.size w w4 := (hK3.alloc hs3 _).trans (hb4.mono (by simp; omega))
  clear hb4 hZA hmk hK3
  go_wp2_with fail
  go_ret
  exact ⟨rfl, hK4⟩

set_option maxRecDepth 100000 in
set_option maxHeartbeats 1000000 in
theorem shapes7_1_10 (n x k : Nat) (w : World) (hn1 : (n : Int) < 256) (hx1 : (x : Int) < 256) (hq : x % 4 = 0) (hk : 1 + n % 64 = k) (hv : vOf k 1 = 10) :
    Calls Try.prog 6 #[.int .u8 (n : Int), .int .u8 (x : Int)] w fun e w' => e = .returned (.bool true) ∧ Below w.heap.size w w' := by
  have hqI : ((x : Int) % 4) = 0 := by omega
  have hkI : (1 + (n : Int) % 64) = (k : Int) := by omega
  have hk1 : 1 ≤ k := by omega
  have hk64 : k ≤ 64 := by omega
  have hok := shape_ok 1 (.inl rfl) k hk64 hk1
  obtain ⟨u, hu⟩ : ∃ u, uOf k 1 = u := ⟨_, rfl⟩
  rw [hu, hv] at hok
  have hS : ∀ W, Calls Try.prog 14 #[.int .i64 (k : Int), .int .i64 1] W (fun e W' => e = .returned (.tuple #[.int .i64 (u : Int), .int .i64 10, .int .i64 6]) ∧ Below W.heap.size W W') := fun W => by
    refine (shape_any k 1 W (.inl rfl) hk1 hk64).mono ?_
    rintro e w' ⟨rfl, hB⟩
    rw [hu, hv]
    exact ⟨rfl, hB⟩
  have e1 : (u : Int) ≤ 512 := by have := hok.1; omega
  have e0 : (0 : Int) ≤ (u : Int) := by omega
  have f1 : ((u : Int)) < 1024 := by have h := hok.2.2.2.1; rw [show (2 : Nat) ^ (1 * 10) = 1024 from rfl, show (2 : Nat) ^ 1 - 1 = 1 from rfl] at h; omega
  have f2 : 512 ≤ ((u : Int)) := by have h := hok.2.2.2.2 (by decide); rw [show (2 : Nat) ^ (1 * (10 - 1)) = 512 from rfl, show (2 : Nat) ^ 1 - 1 = 1 from rfl] at h; omega
  have f3 : ((u : Int) != 8 * (k : Int)) = false := by have := hok.1; simp; omega
  obtain ⟨N, hN⟩ : ∃ N, u + 10 = N := ⟨_, rfl⟩
  have hN2 : uOf k 1 + vOf k 1 = N := by rw [hu, hv]; exact hN
  have f4 : ((N : Int) == (u : Int) + 10) = true := by simp; omega
  have hAz := fun W b (h : Arr W b 5 .u8 (List.replicate k 0)) => all_zeros k 1 N W b (.inl rfl) hk1 hk64 h hN2
  obtain ⟨Z, hZ⟩ : ∃ Z : List Int, List.replicate k 0 = Z := ⟨_, rfl⟩
  have hmk : ∀ wx, (Instr.makeSlice 22 (.int .i64 (k : Int)) (.int .i64 (k : Int))).run Try.prog wx = .ok (.slice (some ⟨wx.heap.size, 0, none⟩) k k) (wx.alloc (.cells (U .u8 Z) 5)) := fun wx => by
    rw [← hZ]; exact run_make_nums (P := Try.prog) wx 22 5 .u8 1 Try.underlying22 inf_u8 .i64 .i64 k k (Nat.le_refl _) (by omega) (by omega)
  rw [hZ] at hAz
  have HS := Lib.hid hS
  have HAZ := Lib.hid hAz
  clear hS hAz hZ hN hN2 hu hv hok hk hq
  go_enter Try.func6, Try.ntmps6
  go_wp2_with fail
  (with_reducible refine (awake7_any w).mono ?_)
  rintro e w1 ⟨rfl, hb1⟩
  have hs1 := hb1.size
  have hK2 : Below w.heap.size w (w1.alloc (.cells #[.int .i64 1, .int .i64 2, .int .i64 4, .int .i64 8] 3)) := hb1.alloc hs1 _
  have hW4 : Arr (w1.alloc (.cells #[.int .i64 1, .int .i64 2, .int .i64 4, .int .i64 8] 3)) w1.heap.size 3 .i64 [1, 2, 4, 8] := Arr.new w1 3 .i64 [1, 2, 4, 8]
  have hcl : (w1.alloc (.cells #[.int .i64 1, .int .i64 2, .int .i64 4, .int .i64 8] 3)).cell? ⟨w1.heap.size, 0, none⟩ = some (.int .i64 1) := hW4.cell 0 (by decide)
  clear hW4
  go_wp2_with fail
  obtain ⟨w2, hw2⟩ : ∃ w2, w1.alloc (.cells #[.int .i64 1, .int .i64 2, .int .i64 4, .int .i64 8] 3) = w2 := ⟨_, rfl⟩
  rw [hw2] at hK2 ⊢
  have hs2 := hK2.size
  clear hw2 hcl hb1
  refine (HS.out w2).mono ?_
  rintro e w3 ⟨rfl, hb3⟩
  have hK3 : Below w.heap.size w w3 := hK2.trans (hb3.mono hs2)
  have hs3 := hK3.size
  clear hb3 hK2
  go_wp2_with fail
  have hZA := Arr.new w3 5 .u8 Z
  refine (HAZ.out _ w3.heap.size hZA).mono ?_
  rintro e w4 ⟨A4, c4, l4, rfl, _, _, hb4⟩
  have hK4 : Below w.heap.size w w4 := (hK3.alloc hs3 _).trans (hb4.mono (by simp; omega))
  clear hb4 hZA hmk hK3
  go_wp2_with fail
  go_ret
  exact ⟨rfl, hK4⟩

set_option maxRecDepth 100000 in
set_option maxHeartbeats 1000000 in
theorem shapes7_2_2 (n x k : Nat) (w : World) (hn1 : (n : Int) < 256) (hx1 : (x : Int) < 256) (hq : x % 4 = 1) (hk : 1 + n % 64 = k) (hv : vOf k 2 = 2) :
    Calls Try.prog 6 #[.int .u8 (n : Int), .int .u8 (x : Int)] w fun e w' => e = .returned (.bool true) ∧ Below w.heap.size w w' := by
  have hqI : ((x : Int) % 4) = 1 := by omega
  have hkI : (1 + (n : Int) % 64) = (k : Int) := by omega
  have hk1 : 1 ≤ k := by omega
  have hk64 : k ≤ 64 := by omega
  have hok := shape_ok 2 (.inr (.inl rfl)) k hk64 hk1
  obtain ⟨u, hu⟩ : ∃ u, uOf k 2 = u := ⟨_, rfl⟩
  rw [hu, hv] at hok
  have hS : ∀ W, Calls Try.prog 14 #[.int .i64 (k : Int), .int .i64 2] W (fun e W' => e = .returned (.tuple #[.int .i64 (u : Int), .int .i64 2, .int .i64 12]) ∧ Below W.heap.size W W') := fun W => by
    refine (shape_any k 2 W (.inr (.inl rfl)) hk1 hk64).mono ?_
    rintro e w' ⟨rfl, hB⟩
    rw [hu, hv]
    exact ⟨rfl, hB⟩
  have e1 : (u : Int) ≤ 512 := by have := hok.1; omega
  have e0 : (0 : Int) ≤ (u : Int) := by omega
  have f1 : (3 * (u : Int)) < 16 := by have h := hok.2.2.2.1; rw [show (2 : Nat) ^ (2 * 2) = 16 from rfl, show (2 : Nat) ^ 2 - 1 = 3 from rfl] at h; omega
  have f2 : 4 ≤ (3 * (u : Int)) := by have h := hok.2.2.2.2 (by decide); rw [show (2 : Nat) ^ (2 * (2 - 1)) = 4 from rfl, show (2 : Nat) ^ 2 - 1 = 3 from rfl] at h; omega
  have f3 : ((u : Int) * 2 != 8 * (k : Int)) = false := by have := hok.1; simp; omega
  obtain ⟨N, hN⟩ : ∃ N, u + 2 = N := ⟨_, rfl⟩
  have hN2 : uOf k 2 + vOf k 2 = N := by rw [hu, hv]; exact hN
  have f4 : ((N : Int) == (u : Int) + 2) = true := by simp; omega
  have hAz := fun W b (h : Arr W b 5 .u8 (List.replicate k 0)) => all_zeros k 2 N W b (.inr (.inl rfl)) hk1 hk64 h hN2
  obtain ⟨Z, hZ⟩ : ∃ Z : List Int, List.replicate k 0 = Z := ⟨_, rfl⟩
  have hmk : ∀ wx, (Instr.makeSlice 22 (.int .i64 (k : Int)) (.int .i64 (k : Int))).run Try.prog wx = .ok (.slice (some ⟨wx.heap.size, 0, none⟩) k k) (wx.alloc (.cells (U .u8 Z) 5)) := fun wx => by
    rw [← hZ]; exact run_make_nums (P := Try.prog) wx 22 5 .u8 1 Try.underlying22 inf_u8 .i64 .i64 k k (Nat.le_refl _) (by omega) (by omega)
  rw [hZ] at hAz
  have HS := Lib.hid hS
  have HAZ := Lib.hid hAz
  clear hS hAz hZ hN hN2 hu hv hok hk hq
  go_enter Try.func6, Try.ntmps6
  go_wp2_with fail
  (with_reducible refine (awake7_any w).mono ?_)
  rintro e w1 ⟨rfl, hb1⟩
  have hs1 := hb1.size
  have hK2 : Below w.heap.size w (w1.alloc (.cells #[.int .i64 1, .int .i64 2, .int .i64 4, .int .i64 8] 3)) := hb1.alloc hs1 _
  have hW4 : Arr (w1.alloc (.cells #[.int .i64 1, .int .i64 2, .int .i64 4, .int .i64 8] 3)) w1.heap.size 3 .i64 [1, 2, 4, 8] := Arr.new w1 3 .i64 [1, 2, 4, 8]
  have hcl : (w1.alloc (.cells #[.int .i64 1, .int .i64 2, .int .i64 4, .int .i64 8] 3)).cell? ⟨w1.heap.size, 1, none⟩ = some (.int .i64 2) := hW4.cell 1 (by decide)
  clear hW4
  go_wp2_with fail
  obtain ⟨w2, hw2⟩ : ∃ w2, w1.alloc (.cells #[.int .i64 1, .int .i64 2, .int .i64 4, .int .i64 8] 3) = w2 := ⟨_, rfl⟩
  rw [hw2] at hK2 ⊢
  have hs2 := hK2.size
  clear hw2 hcl hb1
  refine (HS.out w2).mono ?_
  rintro e w3 ⟨rfl, hb3⟩
  have hK3 : Below w.heap.size w w3 := hK2.trans (hb3.mono hs2)
  have hs3 := hK3.size
  clear hb3 hK2
  go_wp2_with fail
  have hZA := Arr.new w3 5 .u8 Z
  refine (HAZ.out _ w3.heap.size hZA).mono ?_
  rintro e w4 ⟨A4, c4, l4, rfl, _, _, hb4⟩
  have hK4 : Below w.heap.size w w4 := (hK3.alloc hs3 _).trans (hb4.mono (by simp; omega))
  clear hb4 hZA hmk hK3
  go_wp2_with fail
  go_ret
  exact ⟨rfl, hK4⟩

set_option maxRecDepth 100000 in
set_option maxHeartbeats 1000000 in
theorem shapes7_2_3 (n x k : Nat) (w : World) (hn1 : (n : Int) < 256) (hx1 : (x : Int) < 256) (hq : x % 4 = 1) (hk : 1 + n % 64 = k) (hv : vOf k 2 = 3) :
    Calls Try.prog 6 #[.int .u8 (n : Int), .int .u8 (x : Int)] w fun e w' => e = .returned (.bool true) ∧ Below w.heap.size w w' := by
  have hqI : ((x : Int) % 4) = 1 := by omega
  have hkI : (1 + (n : Int) % 64) = (k : Int) := by omega
  have hk1 : 1 ≤ k := by omega
  have hk64 : k ≤ 64 := by omega
  have hok := shape_ok 2 (.inr (.inl rfl)) k hk64 hk1
  obtain ⟨u, hu⟩ : ∃ u, uOf k 2 = u := ⟨_, rfl⟩
  rw [hu, hv] at hok
  have hS : ∀ W, Calls Try.prog 14 #[.int .i64 (k : Int), .int .i64 2] W (fun e W' => e = .returned (.tuple #[.int .i64 (u : Int), .int .i64 3, .int .i64 10]) ∧ Below W.heap.size W W') := fun W => by
    refine (shape_any k 2 W (.inr (.inl rfl)) hk1 hk64).mono ?_
    rintro e w' ⟨rfl, hB⟩
    rw [hu, hv]
    exact ⟨rfl, hB⟩
  have e1 : (u : Int) ≤ 512 := by have := hok.1; omega
  have e0 : (0 : Int) ≤ (u : Int) := by omega
  have f1 : (3 * (u : Int)) < 64 := by have h := hok.2.2.2.1; rw [show (2 : Nat) ^ (2 * 3) = 64 from rfl, show (2 : Nat) ^ 2 - 1 = 3 from rfl] at h; omega
  have f2 : 16 ≤ (3 * (u : Int)) := by have h := hok.2.2.2.2 (by decide); rw [show (2 : Nat) ^ (2 * (3 - 1)) = 16 from rfl, show (2 : Nat) ^ 2 - 1 = 3 from rfl] at h; omega
  have f3 : ((u : Int) * 2 != 8 * (k : Int)) = false := by have := hok.1; simp; omega
  obtain ⟨N, hN⟩ : ∃ N, u + 3 = N := ⟨_, rfl⟩
  have hN2 : uOf k 2 + vOf k 2 = N := by rw [hu, hv]; exact hN
  have f4 : ((N : Int) == (u : Int) + 3) = true := by simp; omega
  have hAz := fun W b (h : Arr W b 5 .u8 (List.replicate k 0)) => all_zeros k 2 N W b (.inr (.inl rfl)) hk1 hk64 h hN2
  obtain ⟨Z, hZ⟩ : ∃ Z : List Int, List.replicate k 0 = Z := ⟨_, rfl⟩
  have hmk : ∀ wx, (Instr.makeSlice 22 (.int .i64 (k : Int)) (.int .i64 (k : Int))).run Try.prog wx = .ok (.slice (some ⟨wx.heap.size, 0, none⟩) k k) (wx.alloc (.cells (U .u8 Z) 5)) := fun wx => by
    rw [← hZ]; exact run_make_nums (P := Try.prog) wx 22 5 .u8 1 Try.underlying22 inf_u8 .i64 .i64 k k (Nat.le_refl _) (by omega) (by omega)
  rw [hZ] at hAz
  have HS := Lib.hid hS
  have HAZ := Lib.hid hAz
  clear hS hAz hZ hN hN2 hu hv hok hk hq
  go_enter Try.func6, Try.ntmps6
  go_wp2_with fail
  (with_reducible refine (awake7_any w).mono ?_)
  rintro e w1 ⟨rfl, hb1⟩
  have hs1 := hb1.size
  have hK2 : Below w.heap.size w (w1.alloc (.cells #[.int .i64 1, .int .i64 2, .int .i64 4, .int .i64 8] 3)) := hb1.alloc hs1 _
  have hW4 : Arr (w1.alloc (.cells #[.int .i64 1, .int .i64 2, .int .i64 4, .int .i64 8] 3)) w1.heap.size 3 .i64 [1, 2, 4, 8] := Arr.new w1 3 .i64 [1, 2, 4, 8]
  have hcl : (w1.alloc (.cells #[.int .i64 1, .int .i64 2, .int .i64 4, .int .i64 8] 3)).cell? ⟨w1.heap.size, 1, none⟩ = some (.int .i64 2) := hW4.cell 1 (by decide)
  clear hW4
  go_wp2_with fail
  obtain ⟨w2, hw2⟩ : ∃ w2, w1.alloc (.cells #[.int .i64 1, .int .i64 2, .int .i64 4, .int .i64 8] 3) = w2 := ⟨_, rfl⟩
  rw [hw2] at hK2 ⊢
  have hs2 := hK2.size
  clear hw2 hcl hb1
  refine (HS.out w2).mono ?_
  rintro e w3 ⟨rfl, hb3⟩
  have hK3 : Below w.heap.size w w3 := hK2.trans (hb3.mono hs2)
  have hs3 := hK3.size
  clear hb3 hK2
  go_wp2_with fail
  have hZA := Arr.new w3 5 .u8 Z
  refine (HAZ.out _ w3.heap.size hZA).mono ?_
  rintro e w4 ⟨A4, c4, l4, rfl, _, _, hb4⟩
  have hK4 : Below w.heap.size w w4 := (hK3.alloc hs3 _).trans (hb4.mono (by simp; omega))
  clear hb4 hZA hmk hK3
  go_wp2_with fail
  go_ret
  exact ⟨rfl, hK4⟩

set_option maxRecDepth 100000 in
set_option maxHeartbeats 1000000 in
theorem shapes7_2_4 (n x k : Nat) (w : World) (hn1 : (n : Int) < 256) (hx1 : (x : Int) < 256) (hq : x % 4 = 1) (hk : 1 + n % 64 = k) (hv : vOf k 2 = 4) :
    Calls Try.prog 6 #[.int .u8 (n : Int), .int .u8 (x : Int)] w fun e w' => e = .returned (.bool true) ∧ Below w.heap.size w w' := by
  have hqI : ((x : Int) % 4) = 1 := by omega
  have hkI : (1 + (n : Int) % 64) = (k : Int) := by omega
  have hk1 : 1 ≤ k := by omega
  have hk64 : k ≤ 64 := by omega
  have hok := shape_ok 2 (.inr (.inl rfl)) k hk64 hk1
  obtain ⟨u, hu⟩ : ∃ u, uOf k 2 = u := ⟨_, rfl⟩
  rw [hu, hv] at hok
  have hS : ∀ W, Calls Try.prog 14 #[.int .i64 (k : Int), .int .i64 2] W (fun e W' => e = .returned (.tuple #[.int .i64 (u : Int), .int .i64 4, .int .i64 8]) ∧ Below W.heap.size W W') := fun W => by
    refine (shape_any k 2 W (.inr (.inl rfl)) hk1 hk64).mono ?_
    rintro e w' ⟨rfl, hB⟩
    rw [hu, hv]
    exact ⟨rfl, hB⟩
  have e1 : (u : Int) ≤ 512 := by have := hok.1; omega
  have e0 : (0 : Int) ≤ (u : Int) := by omega
  have f1 : (3 * (u : Int)) < 256 := by have h := hok.2.2.2.1; rw [show (2 : Nat) ^ (2 * 4) = 256 from rfl, show (2 : Nat) ^ 2 - 1 = 3 from rfl] at h; omega
  have f2 : 64 ≤ (3 * (u : Int)) := by have h := hok.2.2.2.2 (by decide); rw [show (2 : Nat) ^ (2 * (4 - 1)) = 64 from rfl, show (2 : Nat) ^ 2 - 1 = 3 from rfl] at h; omega
  have f3 : ((u : Int) * 2 != 8 * (k : Int)) = false := by have := hok.1; simp; omega
  obtain ⟨N, hN⟩ : ∃ N, u + 4 = N := ⟨_, rfl⟩
  have hN2 : uOf k 2 + vOf k 2 = N := by rw [hu, hv]; exact hN
  have f4 : ((N : Int) == (u : Int) + 4) = true := by simp; omega
  have hAz := fun W b (h : Arr W b 5 .u8 (List.replicate k 0)) => all_zeros k 2 N W b (.inr (.inl rfl)) hk1 hk64 h hN2
  obtain ⟨Z, hZ⟩ : ∃ Z : List Int, List.replicate k 0 = Z := ⟨_, rfl⟩
  have hmk : ∀ wx, (Instr.makeSlice 22 (.int .i64 (k : Int)) (.int .i64 (k : Int))).run Try.prog wx = .ok (.slice (some ⟨wx.heap.size, 0, none⟩) k k) (wx.alloc (.cells (U .u8 Z) 5)) := fun wx => by
    rw [← hZ]; exact run_make_nums (P := Try.prog) wx 22 5 .u8 1 Try.underlying22 inf_u8 .i64 .i64 k k (Nat.le_refl _) (by omega) (by omega)
  rw [hZ] at hAz
  have HS := Lib.hid hS
  have HAZ := Lib.hid hAz
  clear hS hAz hZ hN hN2 hu hv hok hk hq
  go_enter Try.func6, Try.ntmps6
  go_wp2_with fail
  (with_reducible refine (awake7_any w).mono ?_)
  rintro e w1 ⟨rfl, hb1⟩
  have hs1 := hb1.size
  have hK2 : Below w.heap.size w (w1.alloc (.cells #[.int .i64 1, .int .i64 2, .int .i64 4, .int .i64 8] 3)) := hb1.alloc hs1 _
  have hW4 : Arr (w1.alloc (.cells #[.int .i64 1, .int .i64 2, .int .i64 4, .int .i64 8] 3)) w1.heap.size 3 .i64 [1, 2, 4, 8] := Arr.new w1 3 .i64 [1, 2, 4, 8]
  have hcl : (w1.alloc (.cells #[.int .i64 1, .int .i64 2, .int .i64 4, .int .i64 8] 3)).cell? ⟨w1.heap.size, 1, none⟩ = some (.int .i64 2) := hW4.cell 1 (by decide)
  clear hW4
  go_wp2_with fail
  obtain ⟨w2, hw2⟩ : ∃ w2, w1.alloc (.cells #[.int .i64 1, .int .i64 2, .int .i64 4, .int .i64 8] 3) = w2 := ⟨_, rfl⟩
  rw [hw2] at hK2 ⊢
  have hs2 := hK2.size
  clear hw2 hcl hb1
  refine (HS.out w2).mono ?_
  rintro e w3 ⟨rfl, hb3⟩
  have hK3 : Below w.heap.size w w3 := hK2.trans (hb3.mono hs2)
  have hs3 := hK3.size
  clear hb3 hK2
  go_wp2_with fail
  have hZA := Arr.new w3 5 .u8 Z
  refine (HAZ.out _ w3.heap.size hZA).mono ?_
  rintro e w4 ⟨A4, c4, l4, rfl, _, _, hb4⟩
  have hK4 : Below w.heap.size w w4 := (hK3.alloc hs3 _).trans (hb4.mono (by simp; omega))
  clear hb4 hZA hmk hK3
  go_wp2_with fail
  go_ret
  exact ⟨rfl, hK4⟩

set_option maxRecDepth 100000 in
set_option maxHeartbeats 1000000 in
theorem shapes7_2_5 (n x k : Nat) (w : World) (hn1 : (n : Int) < 256) (hx1 : (x : Int) < 256) (hq : x % 4 = 1) (hk : 1 + n % 64 = k) (hv : vOf k 2 = 5) :
    Calls Try.prog 6 #[.int .u8 (n : Int), .int .u8 (x : Int)] w fun e w' => e = .returned (.bool true) ∧ Below w.heap.size w w' := by
  have hqI : ((x : Int) % 4) = 1 := by omega
  have hkI : (1 + (n : Int) % 64) = (k : Int) := by omega
  have hk1 : 1 ≤ k := by omega
  have hk64 : k ≤ 64 := by omega
  have hok := shape_ok 2 (.inr (.inl rfl)) k hk64 hk1
  obtain ⟨u, hu⟩ : ∃ u, uOf k 2 = u := ⟨_, rfl⟩
  rw [hu, hv] at hok
  have hS : ∀ W, Calls Try.prog 14 #[.int .i64 (k : Int), .int .i64 2] W (fun e W' => e = .returned (.tuple #[.int .i64 (u : Int), .int .i64 5, .int .i64 6]) ∧ Below W.heap.size W W') := fun W => by
    refine (shape_any k 2 W (.inr (.inl rfl)) hk1 hk64).mono ?_
    rintro e w' ⟨rfl, hB⟩
    rw [hu, hv]
    exact ⟨rfl, hB⟩
  have e1 : (u : Int) ≤ 512 := by have := hok.1; omega
  have e0 : (0 : Int) ≤ (u : Int) := by omega
  have f1 : (3 * (u : Int)) < 1024 := by have h := hok.2.2.2.1; rw [show (2 : Nat) ^ (2 * 5) = 1024 from rfl, show (2 : Nat) ^ 2 - 1 = 3 from rfl] at h; omega
  have f2 : 256 ≤ (3 * (u : Int)) := by have h := hok.2.2.2.2 (by decide); rw [show (2 : Nat) ^ (2 * (5 - 1)) = 256 from rfl, show (2 : Nat) ^ 2 - 1 = 3 from rfl] at h; omega
  have f3 : ((u : Int) * 2 != 8 * (k : Int)) = false := by have := hok.1; simp; omega
  obtain ⟨N, hN⟩ : ∃ N, u + 5 = N := ⟨_, rfl⟩
  have hN2 : uOf k 2 + vOf k 2 = N := by rw [hu, hv]; exact hN
  have f4 : ((N : Int) == (u : Int) + 5) = true := by simp; omega
  have hAz := fun W b (h : Arr W b 5 .u8 (List.replicate k 0)) => all_zeros k 2 N W b (.inr (.inl rfl)) hk1 hk64 h hN2
  obtain ⟨Z, hZ⟩ : ∃ Z : List Int, List.replicate k 0 = Z := ⟨_, rfl⟩
  have hmk : ∀ wx, (Instr.makeSlice 22 (.int .i64 (k : Int)) (.int .i64 (k : Int))).run Try.prog wx = .ok (.slice (some ⟨wx.heap.size, 0, none⟩) k k) (wx.alloc (.cells (U .u8 Z) 5)) := fun wx => by
    rw [← hZ]; exact run_make_nums (P := Try.prog) wx 22 5 .u8 1 Try.underlying22 inf_u8 .i64 .i64 k k (Nat.le_refl _) (by omega) (by omega)
  rw [hZ] at hAz
  have HS := Lib.hid hS
  have HAZ := Lib.hid hAz
  clear hS hAz hZ hN hN2 hu hv hok hk hq
  go_enter Try.func6, Try.ntmps6
  go_wp2_with fail
  (with_reducible refine (awake7_any w).mono ?_)
  rintro e w1 ⟨rfl, hb1⟩
  have hs1 := hb1.size
  have hK2 : Below w.heap.size w (w1.alloc (.cells #[.int .i64 1, .int .i64 2, .int .i64 4, .int .i64 8] 3)) := hb1.alloc hs1 _
  have hW4 : Arr (w1.alloc (.cells #[.int .i64 1, .int .i64 2, .int .i64 4, .int .i64 8] 3)) w1.heap.size 3 .i64 [1, 2, 4, 8] := Arr.new w1 3 .i64 [1, 2, 4, 8]
  have hcl : (w1.alloc (.cells #[.int .i64 1, .int .i64 2, .int .i64 4, .int .i64 8] 3)).cell? ⟨w1.heap.size, 1, none⟩ = some (.int .i64 2) := hW4.cell 1 (by decide)
  clear hW4
  go_wp2_with fail
  obtain ⟨w2, hw2⟩ : ∃ w2, w1.alloc (.cells #[.int .i64 1, .int .i64 2, .int .i64 4, .int .i64 8] 3) = w2 := ⟨_, rfl⟩
  rw [hw2] at hK2 ⊢
  have hs2 := hK2.size
  clear hw2 hcl hb1
  refine (HS.out w2).mono ?_
  rintro e w3 ⟨rfl, hb3⟩
  have hK3 : Below w.heap.size w w3 := hK2.trans (hb3.mono hs2)
  have hs3 := hK3.size
  clear hb3 hK2
  go_wp2_with fail
  have hZA := Arr.new w3 5 .u8 Z
  refine (HAZ.out _ w3.heap.size hZA).mono ?_
  rintro e w4 ⟨A4, c4, l4, rfl, _, _, hb4⟩
  have hK4 : Below w.heap.size w w4 := (hK3.alloc hs3 _).trans (hb4.mono (by simp; omega))
  clear hb4 hZA hmk hK3
  go_wp2_with fail
  go_ret
  exact ⟨rfl, hK4⟩

set_option maxRecDepth 100000 in
set_option maxHeartbeats 1000000 in
theorem shapes7_4_2 (n x k : Nat) (w : World) (hn1 : (n : Int) < 256) (hx1 : (x : Int) < 256) (hq : x % 4 = 2) (hk : 1 + n % 64 = k) (hv : vOf k 4 = 2) :
    Calls Try.prog 6 #[.int .u8 (n : Int), .int .u8 (x : Int)] w fun e w' => e = .returned (.bool true) ∧ Below w.heap.size w w' := by
  have hqI : ((x : Int) % 4) = 2 := by omega
  have hkI : (1 + (n : Int) % 64) = (k : Int) := by omega
  have hk1 : 1 ≤ k := by omega
  have hk64 : k ≤ 64 := by omega
  have hok := shape_ok 4 (.inr (.inr (.inl rfl))) k hk64 hk1
  obtain ⟨u, hu⟩ : ∃ u, uOf k 4 = u := ⟨_, rfl⟩
  rw [hu, hv] at hok
  have hS : ∀ W, Calls Try.prog 14 #[.int .i64 (k : Int), .int .i64 4] W (fun e W' => e = .returned (.tuple #[.int .i64 (u : Int), .int .i64 2, .int .i64 8]) ∧ Below W.heap.size W W') := fun W => by
    refine (shape_any k 4 W (.inr (.inr (.inl rfl))) hk1 hk64).mono ?_
    rintro e w' ⟨rfl, hB⟩
    rw [hu, hv]
    exact ⟨rfl, hB⟩
  have e1 : (u : Int) ≤ 512 := by have := hok.1; omega
  have e0 : (0 : Int) ≤ (u : Int) := by omega
  have f1 : (15 * (u : Int)) < 256 := by have h := hok.2.2.2.1; rw [show (2 : Nat) ^ (4 * 2) = 256 from rfl, show (2 : Nat) ^ 4 - 1 = 15 from rfl] at h; omega
  have f2 : 16 ≤ (15 * (u : Int)) := by have h := hok.2.2.2.2 (by decide); rw [show (2 : Nat) ^ (4 * (2 - 1)) = 16 from rfl, show (2 : Nat) ^ 4 - 1 = 15 from rfl] at h; omega
  have f3 : ((u : Int) * 4 != 8 * (k : Int)) = false := by have := hok.1; simp; omega
  obtain ⟨N, hN⟩ : ∃ N, u + 2 = N := ⟨_, rfl⟩
  have hN2 : uOf k 4 + vOf k 4 = N := by rw [hu, hv]; exact hN
  have f4 : ((N : Int) == (u : Int) + 2) = true := by simp; omega
  have hAz := fun W b (h : Arr W b 5 .u8 (List.replicate k 0)) => all_zeros k 4 N W b (.inr (.inr (.inl rfl))) hk1 hk64 h hN2
  obtain ⟨Z, hZ⟩ : ∃ Z : List Int, List.replicate k 0 = Z := ⟨_, rfl⟩
  have hmk : ∀ wx, (Instr.makeSlice 22 (.int .i64 (k : Int)) (.int .i64 (k : Int))).run Try.prog wx = .ok (.slice (some ⟨wx.heap.size, 0, none⟩) k k) (wx.alloc (.cells (U .u8 Z) 5)) := fun wx => by
    rw [← hZ]; exact run_make_nums (P := Try.prog) wx 22 5 .u8 1 Try.underlying22 inf_u8 .i64 .i64 k k (Nat.le_refl _) (by omega) (by omega)
  rw [hZ] at hAz
  have HS := Lib.hid hS
  have HAZ := Lib.hid hAz
  clear hS hAz hZ hN hN2 hu hv hok hk hq
  go_enter Try.func6, Try.ntmps6
  go_wp2_with fail
  (with_reducible refine (awake7_any w).mono ?_)
  rintro e w1 ⟨rfl, hb1⟩
  have hs1 := hb1.size
  have hK2 : Below w.heap.size w (w1.alloc (.cells #[.int .i64 1, .int .i64 2, .int .i64 4, .int .i64 8] 3)) := hb1.alloc hs1 _
  have hW4 : Arr (w1.alloc (.cells #[.int .i64 1, .int .i64 2, .int .i64 4, .int .i64 8] 3)) w1.heap.size 3 .i64 [1, 2, 4, 8] := Arr.new w1 3 .i64 [1, 2, 4, 8]
  have hcl : (w1.alloc (.cells #[.int .i64 1, .int .i64 2, .int .i64 4, .int .i64 8] 3)).cell? ⟨w1.heap.size, 2, none⟩ = some (.int .i64 4) := hW4.cell 2 (by decide)
  clear hW4
  go_wp2_with fail
  obtain ⟨w2, hw2⟩ : ∃ w2, w1.alloc (.cells #[.int .i64 1, .int .i64 2, .int .i64 4, .int .i64 8] 3) = w2 := ⟨_, rfl⟩
  rw [hw2] at hK2 ⊢
  have hs2 := hK2.size
  clear hw2 hcl hb1
  refine (HS.out w2).mono ?_
  rintro e w3 ⟨rfl, hb3⟩
  have hK3 : Below w.heap.size w w3 := hK2.trans (hb3.mono hs2)
  have hs3 := hK3.size
  clear hb3 hK2
  go_wp2_with fail
  have hZA := Arr.new w3 5 .u8 Z
  refine (HAZ.out _ w3.heap.size hZA).mono ?_
  rintro e w4 ⟨A4, c4, l4, rfl, _, _, hb4⟩
  have hK4 : Below w.heap.size w w4 := (hK3.alloc hs3 _).trans (hb4.mono (by simp; omega))
  clear hb4 hZA hmk hK3
  go_wp2_with fail
  go_ret
  exact ⟨rfl, hK4⟩

set_option maxRecDepth 100000 in
set_option maxHeartbeats 1000000 in
theorem shapes7_4_3 (n x k : Nat) (w : World) (hn1 : (n : Int) < 256) (hx1 : (x : Int) < 256) (hq : x % 4 = 2) (hk : 1 + n % 64 = k) (hv : vOf k 4 = 3) :
    Calls Try.prog 6 #[.int .u8 (n : Int), .int .u8 (x : Int)] w fun e w' => e = .returned (.bool true) ∧ Below w.heap.size w w' := by
  have hqI : ((x : Int) % 4) = 2 := by omega
  have hkI : (1 + (n : Int) % 64) = (k : Int) := by omega
  have hk1 : 1 ≤ k := by omega
  have hk64 : k ≤ 64 := by omega
  have hok := shape_ok 4 (.inr (.inr (.inl rfl))) k hk64 hk1
  obtain ⟨u, hu⟩ : ∃ u, uOf k 4 = u := ⟨_, rfl⟩
  rw [hu, hv] at hok
  have hS : ∀ W, Calls Try.prog 14 #[.int .i64 (k : Int), .int .i64 4] W (fun e W' => e = .returned (.tuple #[.int .i64 (u : Int), .int .i64 3, .int .i64 4]) ∧ Below W.heap.size W W') := fun W => by
    refine (shape_any k 4 W (.inr (.inr (.inl rfl))) hk1 hk64).mono ?_
    rintro e w' ⟨rfl, hB⟩
    rw [hu, hv]
    exact ⟨rfl, hB⟩
  have e1 : (u : Int) ≤ 512 := by have := hok.1; omega
  have e0 : (0 : Int) ≤ (u : Int) := by omega
  have f1 : (15 * (u : Int)) < 4096 := by have h := hok.2.2.2.1; rw [show (2 : Nat) ^ (4 * 3) = 4096 from rfl, show (2 : Nat) ^ 4 - 1 = 15 from rfl] at h; omega
  have f2 : 256 ≤ (15 * (u : Int)) := by have h := hok.2.2.2.2 (by decide); rw [show (2 : Nat) ^ (4 * (3 - 1)) = 256 from rfl, show (2 : Nat) ^ 4 - 1 = 15 from rfl] at h; omega
  have f3 : ((u : Int) * 4 != 8 * (k : Int)) = false := by have := hok.1; simp; omega
  obtain ⟨N, hN⟩ : ∃ N, u + 3 = N := ⟨_, rfl⟩
  have hN2 : uOf k 4 + vOf k 4 = N := by rw [hu, hv]; exact hN
  have f4 : ((N : Int) == (u : Int) + 3) = true := by simp; omega
  have hAz := fun W b (h : Arr W b 5 .u8 (List.replicate k 0)) => all_zeros k 4 N W b (.inr (.inr (.inl rfl))) hk1 hk64 h hN2
  obtain ⟨Z, hZ⟩ : ∃ Z : List Int, List.replicate k 0 = Z := ⟨_, rfl⟩
  have hmk : ∀ wx, (Instr.makeSlice 22 (.int .i64 (k : Int)) (.int .i64 (k : Int))).run Try.prog wx = .ok (.slice (some ⟨wx.heap.size, 0, none⟩) k k) (wx.alloc (.cells (U .u8 Z) 5)) := fun wx => by
    rw [← hZ]; exact run_make_nums (P := Try.prog) wx 22 5 .u8 1 Try.underlying22 inf_u8 .i64 .i64 k k (Nat.le_refl _) (by omega) (by omega)
  rw [hZ] at hAz
  have HS := Lib.hid hS
  have HAZ := Lib.hid hAz
  clear hS hAz hZ hN hN2 hu hv hok hk hq
  go_enter Try.func6, Try.ntmps6
  go_wp2_with fail
  (with_reducible refine (awake7_any w).mono ?_)
  rintro e w1 ⟨rfl, hb1⟩
  have hs1 := hb1.size
  have hK2 : Below w.heap.size w (w1.alloc (.cells #[.int .i64 1, .int .i64 2, .int .i64 4, .int .i64 8] 3)) := hb1.alloc hs1 _
  have hW4 : Arr (w1.alloc (.cells #[.int .i64 1, .int .i64 2, .int .i64 4, .int .i64 8] 3)) w1.heap.size 3 .i64 [1, 2, 4, 8] := Arr.new w1 3 .i64 [1, 2, 4, 8]
  have hcl : (w1.alloc (.cells #[.int .i64 1, .int .i64 2, .int .i64 4, .int .i64 8] 3)).cell? ⟨w1.heap.size, 2, none⟩ = some (.int .i64 4) := hW4.cell 2 (by decide)
  clear hW4
  go_wp2_with fail
  obtain ⟨w2, hw2⟩ : ∃ w2, w1.alloc (.cells #[.int .i64 1, .int .i64 2, .int .i64 4, .int .i64 8] 3) = w2 := ⟨_, rfl⟩
  rw [hw2] at hK2 ⊢
  have hs2 := hK2.size
  clear hw2 hcl hb1
  refine (HS.out w2).mono ?_
  rintro e w3 ⟨rfl, hb3⟩
  have hK3 : Below w.heap.size w w3 := hK2.trans (hb3.mono hs2)
  have hs3 := hK3.size
  clear hb3 hK2
  go_wp2_with fail
  have hZA := Arr.new w3 5 .u8 Z
  refine (HAZ.out _ w3.heap.size hZA).mono ?_
  rintro e w4 ⟨A4, c4, l4, rfl, _, _, hb4⟩
  have hK4 : Below w.heap.size w w4 := (hK3.alloc hs3 _).trans (hb4.mono (by simp; omega))
  clear hb4 hZA hmk hK3
  go_wp2_with fail
  go_ret
  exact ⟨rfl, hK4⟩

set_option maxRecDepth 100000 in
set_option maxHeartbeats 1000000 in
theorem shapes7_8_1 (n x k : Nat) (w : World) (hn1 : (n : Int) < 256) (hx1 : (x : Int) < 256) (hq : x % 4 = 3) (hk : 1 + n % 64 = k) (hv : vOf k 8 = 1) :
    Calls Try.prog 6 #[.int .u8 (n : Int), .int .u8 (x : Int)] w fun e w' => e = .returned (.bool true) ∧ Below w.heap.size w w' := by
  have hqI : ((x : Int) % 4) = 3 := by omega
  have hkI : (1 + (n : Int) % 64) = (k : Int) := by omega
  have hk1 : 1 ≤ k := by omega
  have hk64 : k ≤ 64 := by omega
  have hok := shape_ok 8 (.inr (.inr (.inr rfl))) k hk64 hk1
  obtain ⟨u, hu⟩ : ∃ u, uOf k 8 = u := ⟨_, rfl⟩
  rw [hu, hv] at hok
  have hS : ∀ W, Calls Try.prog 14 #[.int .i64 (k : Int), .int .i64 8] W (fun e W' => e = .returned (.tuple #[.int .i64 (u : Int), .int .i64 1, .int .i64 8]) ∧ Below W.heap.size W W') := fun W => by
    refine (shape_any k 8 W (.inr (.inr (.inr rfl))) hk1 hk64).mono ?_
    rintro e w' ⟨rfl, hB⟩
    rw [hu, hv]
    exact ⟨rfl, hB⟩
  have e1 : (u : Int) ≤ 512 := by have := hok.1; omega
  have e0 : (0 : Int) ≤ (u : Int) := by omega
  have f1 : (255 * (u : Int)) < 256 := by have h := hok.2.2.2.1; rw [show (2 : Nat) ^ (8 * 1) = 256 from rfl, show (2 : Nat) ^ 8 - 1 = 255 from rfl] at h; omega
  have f2 : True := trivial
  have f3 : ((u : Int) * 8 != 8 * (k : Int)) = false := by have := hok.1; simp; omega
  obtain ⟨N, hN⟩ : ∃ N, u + 1 = N := ⟨_, rfl⟩
  have hN2 : uOf k 8 + vOf k 8 = N := by rw [hu, hv]; exact hN
  have f4 : ((N : Int) == (u : Int) + 1) = true := by simp; omega
  have hAz := fun W b (h : Arr W b 5 .u8 (List.replicate k 0)) => all_zeros k 8 N W b (.inr (.inr (.inr rfl))) hk1 hk64 h hN2
  obtain ⟨Z, hZ⟩ : ∃ Z : List Int, List.replicate k 0 = Z := ⟨_, rfl⟩
  have hmk : ∀ wx, (Instr.makeSlice 22 (.int .i64 (k : Int)) (.int .i64 (k : Int))).run Try.prog wx = .ok (.slice (some ⟨wx.heap.size, 0, none⟩) k k) (wx.alloc (.cells (U .u8 Z) 5)) := fun wx => by
    rw [← hZ]; exact run_make_nums (P := Try.prog) wx 22 5 .u8 1 Try.underlying22 inf_u8 .i64 .i64 k k (Nat.le_refl _) (by omega) (by omega)
  rw [hZ] at hAz
  have HS := Lib.hid hS
  have HAZ := Lib.hid hAz
  clear hS hAz hZ hN hN2 hu hv hok hk hq
  go_enter Try.func6, Try.ntmps6
  go_wp2_with fail
  (with_reducible refine (awake7_any w).mono ?_)
  rintro e w1 ⟨rfl, hb1⟩
  have hs1 := hb1.size
  have hK2 : Below w.heap.size w (w1.alloc (.cells #[.int .i64 1, .int .i64 2, .int .i64 4, .int .i64 8] 3)) := hb1.alloc hs1 _
  have hW4 : Arr (w1.alloc (.cells #[.int .i64 1, .int .i64 2, .int .i64 4, .int .i64 8] 3)) w1.heap.size 3 .i64 [1, 2, 4, 8] := Arr.new w1 3 .i64 [1, 2, 4, 8]
  have hcl : (w1.alloc (.cells #[.int .i64 1, .int .i64 2, .int .i64 4, .int .i64 8] 3)).cell? ⟨w1.heap.size, 3, none⟩ = some (.int .i64 8) := hW4.cell 3 (by decide)
  clear hW4
  go_wp2_with fail
  obtain ⟨w2, hw2⟩ : ∃ w2, w1.alloc (.cells #[.int .i64 1, .int .i64 2, .int .i64 4, .int .i64 8] 3) = w2 := ⟨_, rfl⟩
  rw [hw2] at hK2 ⊢
  have hs2 := hK2.size
  clear hw2 hcl hb1
  refine (HS.out w2).mono ?_
  rintro e w3 ⟨rfl, hb3⟩
  have hK3 : Below w.heap.size w w3 := hK2.trans (hb3.mono hs2)
  have hs3 := hK3.size
  clear hb3 hK2
  go_wp2_with fail
  have hZA := Arr.new w3 5 .u8 Z
  refine (HAZ.out _ w3.heap.size hZA).mono ?_
  rintro e w4 ⟨A4, c4, l4, rfl, _, _, hb4⟩
  have hK4 : Below w.heap.size w w4 := (hK3.alloc hs3 _).trans (hb4.mono (by simp; omega))
  clear hb4 hZA hmk hK3
  go_wp2_with fail
  go_ret
  exact ⟨rfl, hK4⟩

set_option maxRecDepth 1000000 in
set_option maxHeartbeats 1000000 in
theorem shapes7_8_2 (n x k : Nat) (w : World) (hn1 : (n : Int) < 256) (hx1 : (x : Int) < 256) (hq : x % 4 = 3) (hk : 1 + n % 64 = k) (hv : vOf k 8 = 2) :
    Calls Try.prog 6 #[.int .u8 (n : Int), .int .u8 (x : Int)] w fun e w' => e = .returned (.bool true) ∧ Below w.heap.size w w' := by
  have hqI : ((x : Int) % 4) = 3 := by omega
  have hkI : (1 + (n : Int) % 64) = (k : Int) := by omega
  have hk1 : 1 ≤ k := by omega
  have hk64 : k ≤ 64 := by omega
  have hok := shape_ok 8 (.inr (.inr (.inr rfl))) k hk64 hk1
  obtain ⟨u, hu⟩ : ∃ u, uOf k 8 = u := ⟨_, rfl⟩
  rw [hu, hv] at hok
  have hS : ∀ W, Calls Try.prog 14 #[.int .i64 (k : Int), .int .i64 8] W (fun e W' => e = .returned (.tuple #[.int .i64 (u : Int), .int .i64 2, .int .i64 0]) ∧ Below W.heap.size W W') := fun W => by
    refine (shape_any k 8 W (.inr (.inr (.inr rfl))) hk1 hk64).mono ?_
    rintro e w' ⟨rfl, hB⟩
    rw [hu, hv]
    exact ⟨rfl, hB⟩
  have e1 : (u : Int) ≤ 512 := by have := hok.1; omega
  have e0 : (0 : Int) ≤ (u : Int) := by omega
  have f1 : (255 * (u : Int)) < 65536 := by have h := hok.2.2.2.1; rw [show (2 : Nat) ^ (8 * 2) = 65536 from rfl, show (2 : Nat) ^ 8 - 1 = 255 from rfl] at h; omega
  have f2 : 256 ≤ (255 * (u : Int)) := by have h := hok.2.2.2.2 (by decide); rw [show (2 : Nat) ^ (8 * (2 - 1)) = 256 from rfl, show (2 : Nat) ^ 8 - 1 = 255 from rfl] at h; omega
  have f3 : ((u : Int) * 8 != 8 * (k : Int)) = false := by have := hok.1; simp; omega
  obtain ⟨N, hN⟩ : ∃ N, u + 2 = N := ⟨_, rfl⟩
  have hN2 : uOf k 8 + vOf k 8 = N := by rw [hu, hv]; exact hN
  have f4 : ((N : Int) == (u : Int) + 2) = true := by simp; omega
  have hAz := fun W b (h : Arr W b 5 .u8 (List.replicate k 0)) => all_zeros k 8 N W b (.inr (.inr (.inr rfl))) hk1 hk64 h hN2
  obtain ⟨Z, hZ⟩ : ∃ Z : List Int, List.replicate k 0 = Z := ⟨_, rfl⟩
  have hmk : ∀ wx, (Instr.makeSlice 22 (.int .i64 (k : Int)) (.int .i64 (k : Int))).run Try.prog wx = .ok (.slice (some ⟨wx.heap.size, 0, none⟩) k k) (wx.alloc (.cells (U .u8 Z) 5)) := fun wx => by
    rw [← hZ]; exact run_make_nums (P := Try.prog) wx 22 5 .u8 1 Try.underlying22 inf_u8 .i64 .i64 k k (Nat.le_refl _) (by omega) (by omega)
  rw [hZ] at hAz
  have HS := Lib.hid hS
  have HAZ := Lib.hid hAz
  clear hS hAz hZ hN hN2 hu hv hok hk hq
  go_enter Try.func6, Try.ntmps6
  go_wp2_with fail
  (with_reducible refine (awake7_any w).mono ?_)
  rintro e w1 ⟨rfl, hb1⟩
  have hs1 := hb1.size
  have hK2 : Below w.heap.size w (w1.alloc (.cells #[.int .i64 1, .int .i64 2, .int .i64 4, .int .i64 8] 3)) := hb1.alloc hs1 _
  have hW4 : Arr (w1.alloc (.cells #[.int .i64 1, .int .i64 2, .int .i64 4, .int .i64 8] 3)) w1.heap.size 3 .i64 [1, 2, 4, 8] := Arr.new w1 3 .i64 [1, 2, 4, 8]
  have hcl : (w1.alloc (.cells #[.int .i64 1, .int .i64 2, .int .i64 4, .int .i64 8] 3)).cell? ⟨w1.heap.size, 3, none⟩ = some (.int .i64 8) := hW4.cell 3 (by decide)
  clear hW4
  go_wp2_with fail
  obtain ⟨w2, hw2⟩ : ∃ w2, w1.alloc (.cells #[.int .i64 1, .int .i64 2, .int .i64 4, .int .i64 8] 3) = w2 := ⟨_, rfl⟩
  rw [hw2] at hK2 ⊢
  have hs2 := hK2.size
  clear hw2 hcl hb1
  refine (HS.out w2).mono ?_
  rintro e w3 ⟨rfl, hb3⟩
  have hK3 : Below w.heap.size w w3 := hK2.trans (hb3.mono hs2)
  have hs3 := hK3.size
  clear hb3 hK2
  go_wp2_with fail
  have hZA := Arr.new w3 5 .u8 Z
  refine (HAZ.out _ w3.heap.size hZA).mono ?_
  rintro e w4 ⟨A4, c4, l4, rfl, _, _, hb4⟩
  have hK4 : Below w.heap.size w w4 := (hK3.alloc hs3 _).trans (hb4.mono (by simp; omega))
  clear hb4 hZA hmk hK3
  go_wp2_with fail
  go_ret
  exact ⟨rfl, hK4⟩

theorem shapes7_walk (n x : Int) (w : World) (hn : B8 n) (hx : B8 x) :
    Calls Try.prog 6 #[.int .u8 n, .int .u8 x] w fun e w' => e = .returned (.bool true) ∧ Below w.heap.size w w' := by
  obtain ⟨n, rfl⟩ : ∃ m : Nat, n = m := ⟨n.toNat, by have := hn.1; omega⟩
  obtain ⟨x, rfl⟩ : ∃ m : Nat, x = m := ⟨x.toNat, by have := hx.1; omega⟩
  obtain ⟨k, hk⟩ : ∃ k, 1 + n % 64 = k := ⟨_, rfl⟩
  have hv := v_of k (by omega) (by omega)
  have h : x % 4 = 0 ∨ x % 4 = 1 ∨ x % 4 = 2 ∨ x % 4 = 3 := by omega
  rcases h with h | h | h | h
  · have hc : vOf k 1 = 4 ∨ vOf k 1 = 5 ∨ vOf k 1 = 6 ∨ vOf k 1 = 7 ∨ vOf k 1 = 8 ∨ vOf k 1 = 9 ∨ vOf k 1 = 10 := by have := hv.1; omega
    rcases hc with hc | hc | hc | hc | hc | hc | hc
    · exact shapes7_1_4 n x k w hn.2 hx.2 h hk hc
    · exact shapes7_1_5 n x k w hn.2 hx.2 h hk hc
    · exact shapes7_1_6 n x k w hn.2 hx.2 h hk hc
    · exact shapes7_1_7 n x k w hn.2 hx.2 h hk hc
    · exact shapes7_1_8 n x k w hn.2 hx.2 h hk hc
    · exact shapes7_1_9 n x k w hn.2 hx.2 h hk hc
    · exact shapes7_1_10 n x k w hn.2 hx.2 h hk hc
  · have hc : vOf k 2 = 2 ∨ vOf k 2 = 3 ∨ vOf k 2 = 4 ∨ vOf k 2 = 5 := by have := hv.2.1; omega
    rcases hc with hc | hc | hc | hc
    · exact shapes7_2_2 n x k w hn.2 hx.2 h hk hc
    · exact shapes7_2_3 n x k w hn.2 hx.2 h hk hc
    · exact shapes7_2_4 n x k w hn.2 hx.2 h hk hc
    · exact shapes7_2_5 n x k w hn.2 hx.2 h hk hc
  · have hc : vOf k 4 = 2 ∨ vOf k 4 = 3 := by have := hv.2.2.1; omega
    rcases hc with hc | hc
    · exact shapes7_4_2 n x k w hn.2 hx.2 h hk hc
    · exact shapes7_4_3 n x k w hn.2 hx.2 h hk hc
  · have hc : vOf k 8 = 1 ∨ vOf k 8 = 2 := by have := hv.2.2.2; omega
    rcases hc with hc | hc
    · exact shapes7_8_1 n x k w hn.2 hx.2 h hk hc
    · exact shapes7_8_2 n x k w hn.2 hx.2 h hk hc
end Go.Proofs.Ytigedohalangbaa
