/- The document's answers of layer 7: Lack, Shape. Conditions: the texts read as bytes. -/
import Derived.Test.YtigedohalangbaaD7G
namespace Go.Proofs.Ytigedohalangbaa
open Go.RowKit
set_option linter.unusedVariables false
set_option linter.unusedSimpArgs false

theorem rlack_none (A : Option Addr) (L c : Nat) (wd : Int) (w : World) (hw : mayB wd = false) :
    Calls Try.prog 22 #[.slice A L c, .int .i64 wd] w fun e w' => e = .returned (.int .i64 0) ∧ Below w.heap.size w w' := by
  have hO := rof_none A L c wd w hw
  by_cases h0 : 0 < wd
  · go_enter Try.func22, Try.ntmps22
    go_wp2_with fail
    refine hO.mono ?_
    rintro e w1 ⟨A1, c1, rfl, hO1, hb1⟩
    have hM := rmay_any false wd w1 hw
    clear hO hO1
    go_wp2_with fail
    go_loopg [7] 0 (fun g s7 wr => wr = w1 ∧ s7 = .int .i64 0)
    case atStart => exact ⟨rfl, rfl⟩
    case round =>
      obtain ⟨rfl, rfl⟩ := hrel
      go_wp2_with (with_reducible refine hM.mono ?_; rintro e w' ⟨rfl, rfl⟩)
      clear hM
      go_loopg [8, 9] 0 (fun g s8 s9 w2 => w2 = wr ∧ s8 = .int .i64 0 ∧ s9 = .int .i64 0)
      case atStart => exact ⟨rfl, rfl, rfl⟩
      case round =>
        obtain ⟨rfl, rfl, rfl⟩ := hrel
        go_wp2_with fail
        go_ret
        exact ⟨rfl, hb1⟩
  · have h0' : ¬ (0 : Int) < wd := h0
    go_enter Try.func22, Try.ntmps22
    go_wp2_with fail
    refine hO.mono ?_
    rintro e w1 ⟨A1, c1, rfl, hO1, hb1⟩
    clear hO hO1
    go_wp2_with fail
    go_loopg [7] 0 (fun g s7 wr => wr = w1 ∧ s7 = .int .i64 0)
    case atStart => exact ⟨rfl, rfl⟩
    case round =>
      obtain ⟨rfl, rfl⟩ := hrel
      go_wp2_with fail
      go_loopg [8, 9] 0 (fun g s8 s9 w2 => w2 = wr ∧ s8 = .int .i64 0 ∧ s9 = .int .i64 0)
      case atStart => exact ⟨rfl, rfl, rfl⟩
      case round =>
        obtain ⟨rfl, rfl, rfl⟩ := hrel
        go_wp2_with fail
        go_ret
        exact ⟨rfl, hb1⟩

def twos : Nat → Int
  | 0 => 1
  | i + 1 => twos i * 2
theorem twos_bd : ∀ i, i ≤ 20 → 1 ≤ twos i ∧ twos i ≤ 1048576 := by decide
theorem twos_eq : ∀ i, i ≤ 20 → twos i = 2 ^ i := by decide

set_option maxRecDepth 100000 in
set_option maxHeartbeats 1000000 in
theorem rlack_1 (b : List Int) (A : Option Addr) (L c : Nat) (w : World) (hL : b.length = L) (hL2 : L ≤ 1000000) (hb : Bys b) (hr : Rd w w.heap.size .u8 A b) :
    Calls Try.prog 22 #[.slice A L c, .int .i64 1] w fun e w' => e = .returned (.int .i64 (lackOf b 1)) ∧ Below w.heap.size w w' := by
  have hO := rof_any b A L c 1 w (.inl rfl) hL hL2 hb hr
  obtain ⟨N, hN⟩ : ∃ N, (digL b 1).length = N := ⟨_, rfl⟩
  have hN2 : N = 8 / 1 * L := by rw [← hN, digL_len, hL]
  have hN3 : N ≤ 8000000 := by omega
  have hres : lackOf b 1 = lackN (digL b 1) 1 N := by rw [lackOf, ← hN, digL_len]
  rw [hres]
  obtain ⟨D, hD⟩ : ∃ D, digL b 1 = D := ⟨_, rfl⟩
  have hnn := digL_nn b 1
  have hlt := digL_lt b 1
  unfold OfPost at hO
  rw [hD] at hO hN hnn hlt ⊢
  rw [hN] at hO
  have HN := Lib.hid hN
  have HNN := Lib.hid hnn
  have HLT := Lib.hid hlt
  clear hD hN hN2 hnn hlt hres
  go_enter Try.func22, Try.ntmps22
  go_wp2_with fail
  refine hO.mono ?_
  rintro e w1 ⟨A1, c1, rfl, hO1, hb1⟩
  have hM := rmay_any true 1 w1 rfl
  have hR1 := hO1.rd
  clear hO hO1
  go_wp2_with fail
  go_loopg [6, 7] 1 (fun g s6 s7 wr => wr = w1 ∧ ∃ i : Nat, i ≤ 1 ∧ g = 1 - i ∧ s7 = .int .i64 i ∧ s6 = .int .i64 (twos i))
  case atStart => exact ⟨rfl, 0, Nat.zero_le _, rfl, rfl, rfl⟩
  case round =>
    obtain ⟨rfl, i, hi, hg, rfl, rfl⟩ := hrel
    have HG := Lib.hid hg
    clear hg
    have htb := twos_bd i (by omega)
    obtain ⟨t, ht⟩ : ∃ t, twos i = t := ⟨_, rfl⟩
    rw [ht] at htb ⊢
    have ht0 := htb.1
    have ht1 := htb.2
    have HT := Lib.hid ht
    clear htb ht
    by_cases hli : i < 1
    · have hliI : (i : Int) < 1 := by omega
      go_wp2_with (with_reducible refine hM.mono ?_; rintro e w' ⟨rfl, rfl⟩)
      go_roundg (1 - (i + 1))
      case measure => have := HG.out; omega
      case rel => exact ⟨rfl, i + 1, by omega, rfl, by go_num, by rw [twos, HT.out]⟩
    · have hliI : ¬ (i : Int) < 1 := by omega
      obtain rfl : i = 1 := by omega
      have ht16 : t = twos 1 := HT.out.symm
      rw [show twos 1 = 2 by decide] at ht16
      subst ht16
      clear hM
      go_wp2_with fail
      go_loopg [8, 9] N (fun g s8 s9 w2 => w2 = wr ∧ ∃ k : Nat, k ≤ N ∧ g = N - k ∧ s9 = .int .i64 k ∧ s8 = .int .i64 (lackN D 1 k))
      case atStart => exact ⟨rfl, 0, Nat.zero_le _, rfl, rfl, rfl⟩
      case round =>
        obtain ⟨rfl, k, hk, hg, rfl, rfl⟩ := hrel
        have HG2 := Lib.hid hg
        clear hg
        have hb2 := lackN_le D 1 HNN.out k
        have hb3 := lackN_nn D 1 HLT.out k
        rw [show ((2 : Int) ^ 1 - 1) = 1 by decide] at hb2
        obtain ⟨x, hx⟩ : ∃ x, lackN D 1 k = x := ⟨_, rfl⟩
        rw [hx] at hb2 hb3 ⊢
        have hb4 : x ≤ 2040000000 := by omega
        have HX := Lib.hid hx
        clear hx hb2
        by_cases hlk : k < N
        · have hlkI : (k : Int) < (N : Int) := by omega
          obtain ⟨ad, rfl, hadB, hca⟩ := hR1.at_ (i := k) (by have := HN.out; omega)
          have hy0 := HNN.out k
          have hy1 := HLT.out k
          rw [show ((2 : Int) ^ 1) = 2 by decide] at hy1
          obtain ⟨y, hy⟩ : ∃ y, gt D k = y := ⟨_, rfl⟩
          rw [hy] at hca hy0 hy1
          have HY := Lib.hid hy
          clear hy
          go_wp2_with fail
          go_roundg (N - (k + 1))
          case measure => have := HG2.out; omega
          case rel => exact ⟨rfl, k + 1, by omega, rfl, by go_num, by rw [lackN, HX.out, HY.out, show ((2 : Int) ^ 1 - 1) = 1 by decide]; congr 1; omega⟩
        · have hlkI : ¬ (k : Int) < (N : Int) := by omega
          obtain rfl : k = N := by omega
          go_wp2_with fail
          go_ret
          exact ⟨by rw [HX.out]; rfl, hb1⟩
set_option maxRecDepth 100000 in
set_option maxHeartbeats 1000000 in
theorem rlack_2 (b : List Int) (A : Option Addr) (L c : Nat) (w : World) (hL : b.length = L) (hL2 : L ≤ 1000000) (hb : Bys b) (hr : Rd w w.heap.size .u8 A b) :
    Calls Try.prog 22 #[.slice A L c, .int .i64 2] w fun e w' => e = .returned (.int .i64 (lackOf b 2)) ∧ Below w.heap.size w w' := by
  have hO := rof_any b A L c 2 w (.inr (.inl rfl)) hL hL2 hb hr
  obtain ⟨N, hN⟩ : ∃ N, (digL b 2).length = N := ⟨_, rfl⟩
  have hN2 : N = 8 / 2 * L := by rw [← hN, digL_len, hL]
  have hN3 : N ≤ 8000000 := by omega
  have hres : lackOf b 2 = lackN (digL b 2) 2 N := by rw [lackOf, ← hN, digL_len]
  rw [hres]
  obtain ⟨D, hD⟩ : ∃ D, digL b 2 = D := ⟨_, rfl⟩
  have hnn := digL_nn b 2
  have hlt := digL_lt b 2
  unfold OfPost at hO
  rw [hD] at hO hN hnn hlt ⊢
  rw [hN] at hO
  have HN := Lib.hid hN
  have HNN := Lib.hid hnn
  have HLT := Lib.hid hlt
  clear hD hN hN2 hnn hlt hres
  go_enter Try.func22, Try.ntmps22
  go_wp2_with fail
  refine hO.mono ?_
  rintro e w1 ⟨A1, c1, rfl, hO1, hb1⟩
  have hM := rmay_any true 2 w1 rfl
  have hR1 := hO1.rd
  clear hO hO1
  go_wp2_with fail
  go_loopg [6, 7] 2 (fun g s6 s7 wr => wr = w1 ∧ ∃ i : Nat, i ≤ 2 ∧ g = 2 - i ∧ s7 = .int .i64 i ∧ s6 = .int .i64 (twos i))
  case atStart => exact ⟨rfl, 0, Nat.zero_le _, rfl, rfl, rfl⟩
  case round =>
    obtain ⟨rfl, i, hi, hg, rfl, rfl⟩ := hrel
    have HG := Lib.hid hg
    clear hg
    have htb := twos_bd i (by omega)
    obtain ⟨t, ht⟩ : ∃ t, twos i = t := ⟨_, rfl⟩
    rw [ht] at htb ⊢
    have ht0 := htb.1
    have ht1 := htb.2
    have HT := Lib.hid ht
    clear htb ht
    by_cases hli : i < 2
    · have hliI : (i : Int) < 2 := by omega
      go_wp2_with (with_reducible refine hM.mono ?_; rintro e w' ⟨rfl, rfl⟩)
      go_roundg (2 - (i + 1))
      case measure => have := HG.out; omega
      case rel => exact ⟨rfl, i + 1, by omega, rfl, by go_num, by rw [twos, HT.out]⟩
    · have hliI : ¬ (i : Int) < 2 := by omega
      obtain rfl : i = 2 := by omega
      have ht16 : t = twos 2 := HT.out.symm
      rw [show twos 2 = 4 by decide] at ht16
      subst ht16
      clear hM
      go_wp2_with fail
      go_loopg [8, 9] N (fun g s8 s9 w2 => w2 = wr ∧ ∃ k : Nat, k ≤ N ∧ g = N - k ∧ s9 = .int .i64 k ∧ s8 = .int .i64 (lackN D 2 k))
      case atStart => exact ⟨rfl, 0, Nat.zero_le _, rfl, rfl, rfl⟩
      case round =>
        obtain ⟨rfl, k, hk, hg, rfl, rfl⟩ := hrel
        have HG2 := Lib.hid hg
        clear hg
        have hb2 := lackN_le D 2 HNN.out k
        have hb3 := lackN_nn D 2 HLT.out k
        rw [show ((2 : Int) ^ 2 - 1) = 3 by decide] at hb2
        obtain ⟨x, hx⟩ : ∃ x, lackN D 2 k = x := ⟨_, rfl⟩
        rw [hx] at hb2 hb3 ⊢
        have hb4 : x ≤ 2040000000 := by omega
        have HX := Lib.hid hx
        clear hx hb2
        by_cases hlk : k < N
        · have hlkI : (k : Int) < (N : Int) := by omega
          obtain ⟨ad, rfl, hadB, hca⟩ := hR1.at_ (i := k) (by have := HN.out; omega)
          have hy0 := HNN.out k
          have hy1 := HLT.out k
          rw [show ((2 : Int) ^ 2) = 4 by decide] at hy1
          obtain ⟨y, hy⟩ : ∃ y, gt D k = y := ⟨_, rfl⟩
          rw [hy] at hca hy0 hy1
          have HY := Lib.hid hy
          clear hy
          go_wp2_with fail
          go_roundg (N - (k + 1))
          case measure => have := HG2.out; omega
          case rel => exact ⟨rfl, k + 1, by omega, rfl, by go_num, by rw [lackN, HX.out, HY.out, show ((2 : Int) ^ 2 - 1) = 3 by decide]; congr 1; omega⟩
        · have hlkI : ¬ (k : Int) < (N : Int) := by omega
          obtain rfl : k = N := by omega
          go_wp2_with fail
          go_ret
          exact ⟨by rw [HX.out]; rfl, hb1⟩
set_option maxRecDepth 100000 in
set_option maxHeartbeats 1000000 in
theorem rlack_4 (b : List Int) (A : Option Addr) (L c : Nat) (w : World) (hL : b.length = L) (hL2 : L ≤ 1000000) (hb : Bys b) (hr : Rd w w.heap.size .u8 A b) :
    Calls Try.prog 22 #[.slice A L c, .int .i64 4] w fun e w' => e = .returned (.int .i64 (lackOf b 4)) ∧ Below w.heap.size w w' := by
  have hO := rof_any b A L c 4 w (.inr (.inr (.inl rfl))) hL hL2 hb hr
  obtain ⟨N, hN⟩ : ∃ N, (digL b 4).length = N := ⟨_, rfl⟩
  have hN2 : N = 8 / 4 * L := by rw [← hN, digL_len, hL]
  have hN3 : N ≤ 8000000 := by omega
  have hres : lackOf b 4 = lackN (digL b 4) 4 N := by rw [lackOf, ← hN, digL_len]
  rw [hres]
  obtain ⟨D, hD⟩ : ∃ D, digL b 4 = D := ⟨_, rfl⟩
  have hnn := digL_nn b 4
  have hlt := digL_lt b 4
  unfold OfPost at hO
  rw [hD] at hO hN hnn hlt ⊢
  rw [hN] at hO
  have HN := Lib.hid hN
  have HNN := Lib.hid hnn
  have HLT := Lib.hid hlt
  clear hD hN hN2 hnn hlt hres
  go_enter Try.func22, Try.ntmps22
  go_wp2_with fail
  refine hO.mono ?_
  rintro e w1 ⟨A1, c1, rfl, hO1, hb1⟩
  have hM := rmay_any true 4 w1 rfl
  have hR1 := hO1.rd
  clear hO hO1
  go_wp2_with fail
  go_loopg [6, 7] 4 (fun g s6 s7 wr => wr = w1 ∧ ∃ i : Nat, i ≤ 4 ∧ g = 4 - i ∧ s7 = .int .i64 i ∧ s6 = .int .i64 (twos i))
  case atStart => exact ⟨rfl, 0, Nat.zero_le _, rfl, rfl, rfl⟩
  case round =>
    obtain ⟨rfl, i, hi, hg, rfl, rfl⟩ := hrel
    have HG := Lib.hid hg
    clear hg
    have htb := twos_bd i (by omega)
    obtain ⟨t, ht⟩ : ∃ t, twos i = t := ⟨_, rfl⟩
    rw [ht] at htb ⊢
    have ht0 := htb.1
    have ht1 := htb.2
    have HT := Lib.hid ht
    clear htb ht
    by_cases hli : i < 4
    · have hliI : (i : Int) < 4 := by omega
      go_wp2_with (with_reducible refine hM.mono ?_; rintro e w' ⟨rfl, rfl⟩)
      go_roundg (4 - (i + 1))
      case measure => have := HG.out; omega
      case rel => exact ⟨rfl, i + 1, by omega, rfl, by go_num, by rw [twos, HT.out]⟩
    · have hliI : ¬ (i : Int) < 4 := by omega
      obtain rfl : i = 4 := by omega
      have ht16 : t = twos 4 := HT.out.symm
      rw [show twos 4 = 16 by decide] at ht16
      subst ht16
      clear hM
      go_wp2_with fail
      go_loopg [8, 9] N (fun g s8 s9 w2 => w2 = wr ∧ ∃ k : Nat, k ≤ N ∧ g = N - k ∧ s9 = .int .i64 k ∧ s8 = .int .i64 (lackN D 4 k))
      case atStart => exact ⟨rfl, 0, Nat.zero_le _, rfl, rfl, rfl⟩
      case round =>
        obtain ⟨rfl, k, hk, hg, rfl, rfl⟩ := hrel
        have HG2 := Lib.hid hg
        clear hg
        have hb2 := lackN_le D 4 HNN.out k
        have hb3 := lackN_nn D 4 HLT.out k
        rw [show ((2 : Int) ^ 4 - 1) = 15 by decide] at hb2
        obtain ⟨x, hx⟩ : ∃ x, lackN D 4 k = x := ⟨_, rfl⟩
        rw [hx] at hb2 hb3 ⊢
        have hb4 : x ≤ 2040000000 := by omega
        have HX := Lib.hid hx
        clear hx hb2
        by_cases hlk : k < N
        · have hlkI : (k : Int) < (N : Int) := by omega
          obtain ⟨ad, rfl, hadB, hca⟩ := hR1.at_ (i := k) (by have := HN.out; omega)
          have hy0 := HNN.out k
          have hy1 := HLT.out k
          rw [show ((2 : Int) ^ 4) = 16 by decide] at hy1
          obtain ⟨y, hy⟩ : ∃ y, gt D k = y := ⟨_, rfl⟩
          rw [hy] at hca hy0 hy1
          have HY := Lib.hid hy
          clear hy
          go_wp2_with fail
          go_roundg (N - (k + 1))
          case measure => have := HG2.out; omega
          case rel => exact ⟨rfl, k + 1, by omega, rfl, by go_num, by rw [lackN, HX.out, HY.out, show ((2 : Int) ^ 4 - 1) = 15 by decide]; congr 1; omega⟩
        · have hlkI : ¬ (k : Int) < (N : Int) := by omega
          obtain rfl : k = N := by omega
          go_wp2_with fail
          go_ret
          exact ⟨by rw [HX.out]; rfl, hb1⟩
set_option maxRecDepth 100000 in
set_option maxHeartbeats 1000000 in
theorem rlack_8 (b : List Int) (A : Option Addr) (L c : Nat) (w : World) (hL : b.length = L) (hL2 : L ≤ 1000000) (hb : Bys b) (hr : Rd w w.heap.size .u8 A b) :
    Calls Try.prog 22 #[.slice A L c, .int .i64 8] w fun e w' => e = .returned (.int .i64 (lackOf b 8)) ∧ Below w.heap.size w w' := by
  have hO := rof_any b A L c 8 w (.inr (.inr (.inr rfl))) hL hL2 hb hr
  obtain ⟨N, hN⟩ : ∃ N, (digL b 8).length = N := ⟨_, rfl⟩
  have hN2 : N = 8 / 8 * L := by rw [← hN, digL_len, hL]
  have hN3 : N ≤ 8000000 := by omega
  have hres : lackOf b 8 = lackN (digL b 8) 8 N := by rw [lackOf, ← hN, digL_len]
  rw [hres]
  obtain ⟨D, hD⟩ : ∃ D, digL b 8 = D := ⟨_, rfl⟩
  have hnn := digL_nn b 8
  have hlt := digL_lt b 8
  unfold OfPost at hO
  rw [hD] at hO hN hnn hlt ⊢
  rw [hN] at hO
  have HN := Lib.hid hN
  have HNN := Lib.hid hnn
  have HLT := Lib.hid hlt
  clear hD hN hN2 hnn hlt hres
  go_enter Try.func22, Try.ntmps22
  go_wp2_with fail
  refine hO.mono ?_
  rintro e w1 ⟨A1, c1, rfl, hO1, hb1⟩
  have hM := rmay_any true 8 w1 rfl
  have hR1 := hO1.rd
  clear hO hO1
  go_wp2_with fail
  go_loopg [6, 7] 8 (fun g s6 s7 wr => wr = w1 ∧ ∃ i : Nat, i ≤ 8 ∧ g = 8 - i ∧ s7 = .int .i64 i ∧ s6 = .int .i64 (twos i))
  case atStart => exact ⟨rfl, 0, Nat.zero_le _, rfl, rfl, rfl⟩
  case round =>
    obtain ⟨rfl, i, hi, hg, rfl, rfl⟩ := hrel
    have HG := Lib.hid hg
    clear hg
    have htb := twos_bd i (by omega)
    obtain ⟨t, ht⟩ : ∃ t, twos i = t := ⟨_, rfl⟩
    rw [ht] at htb ⊢
    have ht0 := htb.1
    have ht1 := htb.2
    have HT := Lib.hid ht
    clear htb ht
    by_cases hli : i < 8
    · have hliI : (i : Int) < 8 := by omega
      go_wp2_with (with_reducible refine hM.mono ?_; rintro e w' ⟨rfl, rfl⟩)
      go_roundg (8 - (i + 1))
      case measure => have := HG.out; omega
      case rel => exact ⟨rfl, i + 1, by omega, rfl, by go_num, by rw [twos, HT.out]⟩
    · have hliI : ¬ (i : Int) < 8 := by omega
      obtain rfl : i = 8 := by omega
      have ht16 : t = twos 8 := HT.out.symm
      rw [show twos 8 = 256 by decide] at ht16
      subst ht16
      clear hM
      go_wp2_with fail
      go_loopg [8, 9] N (fun g s8 s9 w2 => w2 = wr ∧ ∃ k : Nat, k ≤ N ∧ g = N - k ∧ s9 = .int .i64 k ∧ s8 = .int .i64 (lackN D 8 k))
      case atStart => exact ⟨rfl, 0, Nat.zero_le _, rfl, rfl, rfl⟩
      case round =>
        obtain ⟨rfl, k, hk, hg, rfl, rfl⟩ := hrel
        have HG2 := Lib.hid hg
        clear hg
        have hb2 := lackN_le D 8 HNN.out k
        have hb3 := lackN_nn D 8 HLT.out k
        rw [show ((2 : Int) ^ 8 - 1) = 255 by decide] at hb2
        obtain ⟨x, hx⟩ : ∃ x, lackN D 8 k = x := ⟨_, rfl⟩
        rw [hx] at hb2 hb3 ⊢
        have hb4 : x ≤ 2040000000 := by omega
        have HX := Lib.hid hx
        clear hx hb2
        by_cases hlk : k < N
        · have hlkI : (k : Int) < (N : Int) := by omega
          obtain ⟨ad, rfl, hadB, hca⟩ := hR1.at_ (i := k) (by have := HN.out; omega)
          have hy0 := HNN.out k
          have hy1 := HLT.out k
          rw [show ((2 : Int) ^ 8) = 256 by decide] at hy1
          obtain ⟨y, hy⟩ : ∃ y, gt D k = y := ⟨_, rfl⟩
          rw [hy] at hca hy0 hy1
          have HY := Lib.hid hy
          clear hy
          go_wp2_with fail
          go_roundg (N - (k + 1))
          case measure => have := HG2.out; omega
          case rel => exact ⟨rfl, k + 1, by omega, rfl, by go_num, by rw [lackN, HX.out, HY.out, show ((2 : Int) ^ 8 - 1) = 255 by decide]; congr 1; omega⟩
        · have hlkI : ¬ (k : Int) < (N : Int) := by omega
          obtain rfl : k = N := by omega
          go_wp2_with fail
          go_ret
          exact ⟨by rw [HX.out]; rfl, hb1⟩
theorem rlack_any (b : List Int) (A : Option Addr) (L c wd : Nat) (w : World) (hw : IsW wd) (hL : b.length = L) (hL2 : L ≤ 1000000) (hb : Bys b) (hr : Rd w w.heap.size .u8 A b) :
    Calls Try.prog 22 #[.slice A L c, .int .i64 (wd : Int)] w fun e w' => e = .returned (.int .i64 (lackOf b wd)) ∧ Below w.heap.size w w' := by
  rcases hw with rfl | rfl | rfl | rfl
  · exact rlack_1 b A L c w hL hL2 hb hr
  · exact rlack_2 b A L c w hL hL2 hb hr
  · exact rlack_4 b A L c w hL hL2 hb hr
  · exact rlack_8 b A L c w hL hL2 hb hr

/-! ### Shape -/
def digN : Nat → Nat → Nat → Nat
  | 0, _, _ => 0
  | f + 1, x, B => if x = 0 then 0 else digN f (x / B) B + 1
theorem digN_v : ∀ w, w = 1 ∨ w = 2 ∨ w = 4 ∨ w = 8 → ∀ n, n ≤ 64 → digN 20 ((2 ^ w - 1) * uOf n w) (2 ^ w) = vOf n w := by
  intro w hw n hn
  have h : ∀ w, w = 1 ∨ w = 2 ∨ w = 4 ∨ w = 8 → ∀ n, n < 65 → digN 20 ((2 ^ w - 1) * uOf n w) (2 ^ w) = vOf n w := by
    intro w hw
    rcases hw with rfl | rfl | rfl | rfl <;> decide +kernel
  exact h w hw n (by omega)
theorem vOf_le : ∀ w, w = 1 ∨ w = 2 ∨ w = 4 ∨ w = 8 → ∀ n, n ≤ 64 → vOf n w ≤ 16 := by
  intro w hw n hn
  have h : ∀ w, w = 1 ∨ w = 2 ∨ w = 4 ∨ w = 8 → ∀ n, n < 65 → vOf n w ≤ 16 := by
    intro w hw
    rcases hw with rfl | rfl | rfl | rfl <;> decide +kernel
  exact h w hw n (by omega)

theorem rshape_none (n wd : Int) (w : World) (h : n < 1 ∨ 64 < n ∨ mayB wd = false) :
    Calls Try.prog 15 #[.int .i64 n, .int .i64 wd] w fun e w' => e = .returned (.tuple #[.int .i64 0, .int .i64 0, .int .i64 0]) ∧ w = w' := by
  by_cases h1 : n < 1
  · have h1' : decide (n < 1) = true := by simpa using h1
    go_enter Try.func15, Try.ntmps15
    go_wp2_with fail
    go_ret3
    exact ⟨rfl, rfl⟩
  · have h1' : decide (n < 1) = false := by simpa using h1
    by_cases h2 : n > 64
    · have h2' : decide (n > 64) = true := by simpa using h2
      go_enter Try.func15, Try.ntmps15
      go_wp2_with fail
      go_ret3
      exact ⟨rfl, rfl⟩
    · have h2' : decide (n > 64) = false := by simpa using h2
      have hM := rmay_any false wd w (by rcases h with h | h | h; omega; omega; exact h)
      clear h
      go_enter Try.func15, Try.ntmps15
      go_wp2_with (with_reducible refine hM.mono ?_; rintro e w' ⟨rfl, rfl⟩)
      go_ret3
      exact ⟨rfl, rfl⟩
set_option maxRecDepth 100000 in
set_option maxHeartbeats 1000000 in
theorem rshape_1 (n : Nat) (w : World) (h1 : 1 ≤ n) (h64 : n ≤ 64) :
    Calls Try.prog 15 #[.int .i64 (n : Int), .int .i64 1] w (ShapePost n 1 w) := by
  have hM := rmay_any true 1 w rfl
  have i1 : ¬ (n : Int) < 1 := by omega
  have i2 : ¬ (n : Int) > 64 := by omega
  obtain ⟨u, hu⟩ : ∃ u, uOf n 1 = u := ⟨_, rfl⟩
  obtain ⟨V, hV⟩ : ∃ V, vOf n 1 = V := ⟨_, rfl⟩
  have hu1 : (8 * (n : Int) / 1) = (u : Int) := by rw [← hu, uOf]; omega
  have hu2 : u ≤ 512 := by rw [← hu, uOf]; omega
  have hv := digN_v 1 (.inl rfl) n h64
  rw [hu, hV] at hv
  have hv1 := vOf_le 1 (.inl rfl) n h64
  rw [hV] at hv1
  have HU := Lib.hid hu
  have HU1 := Lib.hid hu1
  have HV := Lib.hid hV
  have HV1 := Lib.hid hv
  clear hu hV hv
  go_enter Try.func15, Try.ntmps15
  go_wp2_with (with_reducible refine hM.mono ?_; rintro e w' ⟨rfl, rfl⟩)
  clear hM
  go_loopg [7, 8] 1 (fun g s7 s8 wr => wr = w ∧ ∃ i : Nat, i ≤ 1 ∧ g = 1 - i ∧ s8 = .int .i64 i ∧ s7 = .int .i64 (twos i))
  case atStart => exact ⟨rfl, 0, Nat.zero_le _, rfl, rfl, rfl⟩
  case round =>
    obtain ⟨rfl, i, hi, hg, rfl, rfl⟩ := hrel
    have HG := Lib.hid hg
    clear hg
    have htb := twos_bd i (by omega)
    obtain ⟨t, ht⟩ : ∃ t, twos i = t := ⟨_, rfl⟩
    rw [ht] at htb ⊢
    have ht0 := htb.1
    have ht1 := htb.2
    have HT := Lib.hid ht
    clear htb ht
    by_cases hli : i < 1
    · have hliI : (i : Int) < 1 := by omega
      go_wp2_with fail
      go_roundg (1 - (i + 1))
      case measure => have := HG.out; omega
      case rel => exact ⟨rfl, i + 1, by omega, rfl, by go_num, by rw [twos, HT.out]⟩
    · have hliI : ¬ (i : Int) < 1 := by omega
      obtain rfl : i = 1 := by omega
      have ht16 : t = twos 1 := HT.out.symm
      rw [show twos 1 = 2 by decide] at ht16
      subst ht16
      have hu3 : (0 : Int) ≤ (u : Int) := by omega
      have hu4 : (u : Int) ≤ 512 := by omega
      go_wp2_with fail
      go_loopg [10, 11] (1 * u) (fun g s10 s11 w2 => w2 = wr ∧ ∃ x v f : Nat, x ≤ 1 * u ∧ g = x ∧ s11 = .int .i64 x ∧ s10 = .int .i64 v ∧ V = v + digN f x 2 ∧ x < 2 ^ f)
      case atStart => exact ⟨rfl, 1 * u, 0, 20, Nat.le_refl _, rfl, by have := HU1.out; congr 1; first | done | (push_cast; omega), rfl, by have := HV1.out; rw [← this]; simp, by have : (2 : Nat) ^ 20 = 1048576 := rfl; omega⟩
      case round =>
        obtain ⟨rfl, x, v, f, hx, hg, rfl, rfl, hVv, hf⟩ := hrel
        have HG2 := Lib.hid hg
        have HVV := Lib.hid hVv
        have HF := Lib.hid hf
        have hvV : v ≤ 16 := by omega
        clear hg hVv hf
        by_cases hx0 : 0 < x
        · have hxI : (x : Int) > 0 := by omega
          have hxn : (x : Int) ≤ 200000 := by omega
          go_wp2_with fail
          go_roundg (x / 2)
          case measure => have := HG2.out; omega
          case rel =>
            obtain ⟨f', rfl⟩ : ∃ f', f = f' + 1 := by
              cases f with
              | zero => have h := HF.out; simp at h; omega
              | succ f' => exact ⟨f', rfl⟩
            have h := HVV.out
            rw [digN, if_neg (by omega)] at h
            have h2 := HF.out
            rw [Nat.pow_succ] at h2
            exact ⟨rfl, x / 2, v + 1, f', by omega, rfl, by congr 1, by go_num, by omega, by omega⟩
        · have hxI : ¬ (x : Int) > 0 := by omega
          obtain rfl : x = 0 := by omega
          have hVe : v = V := by
            have h := HVV.out
            cases f with
            | zero => simp [digN] at h; omega
            | succ f' => simp [digN] at h; omega
          have HVE := Lib.hid hVe
          clear hVe
          go_wp2_with fail
          go_ret3
          exact shape_mk (by have := HU1.out; rw [HU.out]; first | done | omega) (by rw [HV.out, HVE.out]) (by rw [HV.out, ← HVE.out]; omega) (Below.refl _ _)
set_option maxRecDepth 100000 in
set_option maxHeartbeats 1000000 in
theorem rshape_2 (n : Nat) (w : World) (h1 : 1 ≤ n) (h64 : n ≤ 64) :
    Calls Try.prog 15 #[.int .i64 (n : Int), .int .i64 2] w (ShapePost n 2 w) := by
  have hM := rmay_any true 2 w rfl
  have i1 : ¬ (n : Int) < 1 := by omega
  have i2 : ¬ (n : Int) > 64 := by omega
  obtain ⟨u, hu⟩ : ∃ u, uOf n 2 = u := ⟨_, rfl⟩
  obtain ⟨V, hV⟩ : ∃ V, vOf n 2 = V := ⟨_, rfl⟩
  have hu1 : (8 * (n : Int) / 2) = (u : Int) := by rw [← hu, uOf]; omega
  have hu2 : u ≤ 512 := by rw [← hu, uOf]; omega
  have hv := digN_v 2 (.inr (.inl rfl)) n h64
  rw [hu, hV] at hv
  have hv1 := vOf_le 2 (.inr (.inl rfl)) n h64
  rw [hV] at hv1
  have HU := Lib.hid hu
  have HU1 := Lib.hid hu1
  have HV := Lib.hid hV
  have HV1 := Lib.hid hv
  clear hu hV hv
  go_enter Try.func15, Try.ntmps15
  go_wp2_with (with_reducible refine hM.mono ?_; rintro e w' ⟨rfl, rfl⟩)
  clear hM
  go_loopg [7, 8] 2 (fun g s7 s8 wr => wr = w ∧ ∃ i : Nat, i ≤ 2 ∧ g = 2 - i ∧ s8 = .int .i64 i ∧ s7 = .int .i64 (twos i))
  case atStart => exact ⟨rfl, 0, Nat.zero_le _, rfl, rfl, rfl⟩
  case round =>
    obtain ⟨rfl, i, hi, hg, rfl, rfl⟩ := hrel
    have HG := Lib.hid hg
    clear hg
    have htb := twos_bd i (by omega)
    obtain ⟨t, ht⟩ : ∃ t, twos i = t := ⟨_, rfl⟩
    rw [ht] at htb ⊢
    have ht0 := htb.1
    have ht1 := htb.2
    have HT := Lib.hid ht
    clear htb ht
    by_cases hli : i < 2
    · have hliI : (i : Int) < 2 := by omega
      go_wp2_with fail
      go_roundg (2 - (i + 1))
      case measure => have := HG.out; omega
      case rel => exact ⟨rfl, i + 1, by omega, rfl, by go_num, by rw [twos, HT.out]⟩
    · have hliI : ¬ (i : Int) < 2 := by omega
      obtain rfl : i = 2 := by omega
      have ht16 : t = twos 2 := HT.out.symm
      rw [show twos 2 = 4 by decide] at ht16
      subst ht16
      have hu3 : (0 : Int) ≤ (u : Int) := by omega
      have hu4 : (u : Int) ≤ 512 := by omega
      go_wp2_with fail
      go_loopg [10, 11] (3 * u) (fun g s10 s11 w2 => w2 = wr ∧ ∃ x v f : Nat, x ≤ 3 * u ∧ g = x ∧ s11 = .int .i64 x ∧ s10 = .int .i64 v ∧ V = v + digN f x 4 ∧ x < 2 ^ f)
      case atStart => exact ⟨rfl, 3 * u, 0, 20, Nat.le_refl _, rfl, by have := HU1.out; congr 1; first | done | (push_cast; omega), rfl, by have := HV1.out; rw [← this]; simp, by have : (2 : Nat) ^ 20 = 1048576 := rfl; omega⟩
      case round =>
        obtain ⟨rfl, x, v, f, hx, hg, rfl, rfl, hVv, hf⟩ := hrel
        have HG2 := Lib.hid hg
        have HVV := Lib.hid hVv
        have HF := Lib.hid hf
        have hvV : v ≤ 16 := by omega
        clear hg hVv hf
        by_cases hx0 : 0 < x
        · have hxI : (x : Int) > 0 := by omega
          have hxn : (x : Int) ≤ 200000 := by omega
          go_wp2_with fail
          go_roundg (x / 4)
          case measure => have := HG2.out; omega
          case rel =>
            obtain ⟨f', rfl⟩ : ∃ f', f = f' + 1 := by
              cases f with
              | zero => have h := HF.out; simp at h; omega
              | succ f' => exact ⟨f', rfl⟩
            have h := HVV.out
            rw [digN, if_neg (by omega)] at h
            have h2 := HF.out
            rw [Nat.pow_succ] at h2
            exact ⟨rfl, x / 4, v + 1, f', by omega, rfl, by congr 1, by go_num, by omega, by omega⟩
        · have hxI : ¬ (x : Int) > 0 := by omega
          obtain rfl : x = 0 := by omega
          have hVe : v = V := by
            have h := HVV.out
            cases f with
            | zero => simp [digN] at h; omega
            | succ f' => simp [digN] at h; omega
          have HVE := Lib.hid hVe
          clear hVe
          go_wp2_with fail
          go_ret3
          exact shape_mk (by have := HU1.out; rw [HU.out]; first | done | omega) (by rw [HV.out, HVE.out]) (by rw [HV.out, ← HVE.out]; omega) (Below.refl _ _)
set_option maxRecDepth 100000 in
set_option maxHeartbeats 1000000 in
theorem rshape_4 (n : Nat) (w : World) (h1 : 1 ≤ n) (h64 : n ≤ 64) :
    Calls Try.prog 15 #[.int .i64 (n : Int), .int .i64 4] w (ShapePost n 4 w) := by
  have hM := rmay_any true 4 w rfl
  have i1 : ¬ (n : Int) < 1 := by omega
  have i2 : ¬ (n : Int) > 64 := by omega
  obtain ⟨u, hu⟩ : ∃ u, uOf n 4 = u := ⟨_, rfl⟩
  obtain ⟨V, hV⟩ : ∃ V, vOf n 4 = V := ⟨_, rfl⟩
  have hu1 : (8 * (n : Int) / 4) = (u : Int) := by rw [← hu, uOf]; omega
  have hu2 : u ≤ 512 := by rw [← hu, uOf]; omega
  have hv := digN_v 4 (.inr (.inr (.inl rfl))) n h64
  rw [hu, hV] at hv
  have hv1 := vOf_le 4 (.inr (.inr (.inl rfl))) n h64
  rw [hV] at hv1
  have HU := Lib.hid hu
  have HU1 := Lib.hid hu1
  have HV := Lib.hid hV
  have HV1 := Lib.hid hv
  clear hu hV hv
  go_enter Try.func15, Try.ntmps15
  go_wp2_with (with_reducible refine hM.mono ?_; rintro e w' ⟨rfl, rfl⟩)
  clear hM
  go_loopg [7, 8] 4 (fun g s7 s8 wr => wr = w ∧ ∃ i : Nat, i ≤ 4 ∧ g = 4 - i ∧ s8 = .int .i64 i ∧ s7 = .int .i64 (twos i))
  case atStart => exact ⟨rfl, 0, Nat.zero_le _, rfl, rfl, rfl⟩
  case round =>
    obtain ⟨rfl, i, hi, hg, rfl, rfl⟩ := hrel
    have HG := Lib.hid hg
    clear hg
    have htb := twos_bd i (by omega)
    obtain ⟨t, ht⟩ : ∃ t, twos i = t := ⟨_, rfl⟩
    rw [ht] at htb ⊢
    have ht0 := htb.1
    have ht1 := htb.2
    have HT := Lib.hid ht
    clear htb ht
    by_cases hli : i < 4
    · have hliI : (i : Int) < 4 := by omega
      go_wp2_with fail
      go_roundg (4 - (i + 1))
      case measure => have := HG.out; omega
      case rel => exact ⟨rfl, i + 1, by omega, rfl, by go_num, by rw [twos, HT.out]⟩
    · have hliI : ¬ (i : Int) < 4 := by omega
      obtain rfl : i = 4 := by omega
      have ht16 : t = twos 4 := HT.out.symm
      rw [show twos 4 = 16 by decide] at ht16
      subst ht16
      have hu3 : (0 : Int) ≤ (u : Int) := by omega
      have hu4 : (u : Int) ≤ 512 := by omega
      go_wp2_with fail
      go_loopg [10, 11] (15 * u) (fun g s10 s11 w2 => w2 = wr ∧ ∃ x v f : Nat, x ≤ 15 * u ∧ g = x ∧ s11 = .int .i64 x ∧ s10 = .int .i64 v ∧ V = v + digN f x 16 ∧ x < 2 ^ f)
      case atStart => exact ⟨rfl, 15 * u, 0, 20, Nat.le_refl _, rfl, by have := HU1.out; congr 1; first | done | (push_cast; omega), rfl, by have := HV1.out; rw [← this]; simp, by have : (2 : Nat) ^ 20 = 1048576 := rfl; omega⟩
      case round =>
        obtain ⟨rfl, x, v, f, hx, hg, rfl, rfl, hVv, hf⟩ := hrel
        have HG2 := Lib.hid hg
        have HVV := Lib.hid hVv
        have HF := Lib.hid hf
        have hvV : v ≤ 16 := by omega
        clear hg hVv hf
        by_cases hx0 : 0 < x
        · have hxI : (x : Int) > 0 := by omega
          have hxn : (x : Int) ≤ 200000 := by omega
          go_wp2_with fail
          go_roundg (x / 16)
          case measure => have := HG2.out; omega
          case rel =>
            obtain ⟨f', rfl⟩ : ∃ f', f = f' + 1 := by
              cases f with
              | zero => have h := HF.out; simp at h; omega
              | succ f' => exact ⟨f', rfl⟩
            have h := HVV.out
            rw [digN, if_neg (by omega)] at h
            have h2 := HF.out
            rw [Nat.pow_succ] at h2
            exact ⟨rfl, x / 16, v + 1, f', by omega, rfl, by congr 1, by go_num, by omega, by omega⟩
        · have hxI : ¬ (x : Int) > 0 := by omega
          obtain rfl : x = 0 := by omega
          have hVe : v = V := by
            have h := HVV.out
            cases f with
            | zero => simp [digN] at h; omega
            | succ f' => simp [digN] at h; omega
          have HVE := Lib.hid hVe
          clear hVe
          go_wp2_with fail
          go_ret3
          exact shape_mk (by have := HU1.out; rw [HU.out]; first | done | omega) (by rw [HV.out, HVE.out]) (by rw [HV.out, ← HVE.out]; omega) (Below.refl _ _)
set_option maxRecDepth 100000 in
set_option maxHeartbeats 1000000 in
theorem rshape_8 (n : Nat) (w : World) (h1 : 1 ≤ n) (h64 : n ≤ 64) :
    Calls Try.prog 15 #[.int .i64 (n : Int), .int .i64 8] w (ShapePost n 8 w) := by
  have hM := rmay_any true 8 w rfl
  have i1 : ¬ (n : Int) < 1 := by omega
  have i2 : ¬ (n : Int) > 64 := by omega
  obtain ⟨u, hu⟩ : ∃ u, uOf n 8 = u := ⟨_, rfl⟩
  obtain ⟨V, hV⟩ : ∃ V, vOf n 8 = V := ⟨_, rfl⟩
  have hu1 : (8 * (n : Int) / 8) = (u : Int) := by rw [← hu, uOf]; omega
  have hu2 : u ≤ 512 := by rw [← hu, uOf]; omega
  have hv := digN_v 8 (.inr (.inr (.inr rfl))) n h64
  rw [hu, hV] at hv
  have hv1 := vOf_le 8 (.inr (.inr (.inr rfl))) n h64
  rw [hV] at hv1
  have HU := Lib.hid hu
  have HU1 := Lib.hid hu1
  have HV := Lib.hid hV
  have HV1 := Lib.hid hv
  clear hu hV hv
  go_enter Try.func15, Try.ntmps15
  go_wp2_with (with_reducible refine hM.mono ?_; rintro e w' ⟨rfl, rfl⟩)
  clear hM
  go_loopg [7, 8] 8 (fun g s7 s8 wr => wr = w ∧ ∃ i : Nat, i ≤ 8 ∧ g = 8 - i ∧ s8 = .int .i64 i ∧ s7 = .int .i64 (twos i))
  case atStart => exact ⟨rfl, 0, Nat.zero_le _, rfl, rfl, rfl⟩
  case round =>
    obtain ⟨rfl, i, hi, hg, rfl, rfl⟩ := hrel
    have HG := Lib.hid hg
    clear hg
    have htb := twos_bd i (by omega)
    obtain ⟨t, ht⟩ : ∃ t, twos i = t := ⟨_, rfl⟩
    rw [ht] at htb ⊢
    have ht0 := htb.1
    have ht1 := htb.2
    have HT := Lib.hid ht
    clear htb ht
    by_cases hli : i < 8
    · have hliI : (i : Int) < 8 := by omega
      go_wp2_with fail
      go_roundg (8 - (i + 1))
      case measure => have := HG.out; omega
      case rel => exact ⟨rfl, i + 1, by omega, rfl, by go_num, by rw [twos, HT.out]⟩
    · have hliI : ¬ (i : Int) < 8 := by omega
      obtain rfl : i = 8 := by omega
      have ht16 : t = twos 8 := HT.out.symm
      rw [show twos 8 = 256 by decide] at ht16
      subst ht16
      have hu3 : (0 : Int) ≤ (u : Int) := by omega
      have hu4 : (u : Int) ≤ 512 := by omega
      go_wp2_with fail
      go_loopg [10, 11] (255 * u) (fun g s10 s11 w2 => w2 = wr ∧ ∃ x v f : Nat, x ≤ 255 * u ∧ g = x ∧ s11 = .int .i64 x ∧ s10 = .int .i64 v ∧ V = v + digN f x 256 ∧ x < 2 ^ f)
      case atStart => exact ⟨rfl, 255 * u, 0, 20, Nat.le_refl _, rfl, by have := HU1.out; congr 1; first | done | (push_cast; omega), rfl, by have := HV1.out; rw [← this]; simp, by have : (2 : Nat) ^ 20 = 1048576 := rfl; omega⟩
      case round =>
        obtain ⟨rfl, x, v, f, hx, hg, rfl, rfl, hVv, hf⟩ := hrel
        have HG2 := Lib.hid hg
        have HVV := Lib.hid hVv
        have HF := Lib.hid hf
        have hvV : v ≤ 16 := by omega
        clear hg hVv hf
        by_cases hx0 : 0 < x
        · have hxI : (x : Int) > 0 := by omega
          have hxn : (x : Int) ≤ 200000 := by omega
          go_wp2_with fail
          go_roundg (x / 256)
          case measure => have := HG2.out; omega
          case rel =>
            obtain ⟨f', rfl⟩ : ∃ f', f = f' + 1 := by
              cases f with
              | zero => have h := HF.out; simp at h; omega
              | succ f' => exact ⟨f', rfl⟩
            have h := HVV.out
            rw [digN, if_neg (by omega)] at h
            have h2 := HF.out
            rw [Nat.pow_succ] at h2
            exact ⟨rfl, x / 256, v + 1, f', by omega, rfl, by congr 1, by go_num, by omega, by omega⟩
        · have hxI : ¬ (x : Int) > 0 := by omega
          obtain rfl : x = 0 := by omega
          have hVe : v = V := by
            have h := HVV.out
            cases f with
            | zero => simp [digN] at h; omega
            | succ f' => simp [digN] at h; omega
          have HVE := Lib.hid hVe
          clear hVe
          go_wp2_with fail
          go_ret3
          exact shape_mk (by have := HU1.out; rw [HU.out]; first | done | omega) (by rw [HV.out, HVE.out]) (by rw [HV.out, ← HVE.out]; omega) (Below.refl _ _)
theorem rshape_any (n wd : Nat) (w : World) (hw : IsW wd) (h1 : 1 ≤ n) (h64 : n ≤ 64) :
    Calls Try.prog 15 #[.int .i64 (n : Int), .int .i64 (wd : Int)] w (ShapePost n wd w) := by
  rcases hw with rfl | rfl | rfl | rfl
  · exact rshape_1 n w h1 h64
  · exact rshape_2 n w h1 h64
  · exact rshape_4 n w h1 h64
  · exact rshape_8 n w h1 h64

end Go.Proofs.Ytigedohalangbaa
