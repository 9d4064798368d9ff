/- The document's answers of layer 7: May, Ints, Of. Conditions: the texts read as bytes, the slices as numbers. -/
import Derived.Test.YtigedohalangbaaD7F
import Derived.Test.YtigedohalangbaaHold
import Derived.Deep.LoopGhost
namespace Go.Proofs.Ytigedohalangbaa
open Go.RowKit
set_option linter.unusedVariables false
set_option linter.unusedSimpArgs false

theorem rmay_any (b : Bool) (v : Int) (w : World) (hb : mayB v = b) : Calls Try.prog 17 #[.int .i64 v] w fun e w' => e = .returned (.bool b) ∧ w = w' := by
  by_cases h : v = 1 ∨ v = 2 ∨ v = 4 ∨ v = 8
  · rcases h with rfl | rfl | rfl | rfl
    all_goals
      obtain rfl := hb
      go_enter Try.func17, Try.ntmps17
      go_wp2_with fail
      go_ret
      exact ⟨rfl, rfl⟩
  · have hf : mayB v = false := by simpa [mayB] using h
    have h1 : (v == 1) = false := beq_eq_false_iff_ne.2 fun e => h (.inl e)
    have h2 : (v == 2) = false := beq_eq_false_iff_ne.2 fun e => h (.inr (.inl e))
    have h4 : (v == 4) = false := beq_eq_false_iff_ne.2 fun e => h (.inr (.inr (.inl e)))
    have h8 : (v == 8) = false := beq_eq_false_iff_ne.2 fun e => h (.inr (.inr (.inr e)))
    obtain rfl : b = false := by rw [← hb, hf]
    clear h hf hb
    go_enter Try.func17, Try.ntmps17
    go_wp2_with fail
    go_ret
    exact ⟨rfl, rfl⟩

set_option maxHeartbeats 1000000 in
theorem ints_true (w : World) (A A' : Option Addr) (l : List Int) (n c c' B B' : Nat) (hA : Rd w B .i64 A l) (hB : Rd w B' .i64 A' l) (hn : l.length = n) (hm : n ≤ 9223372036854775807) :
    Calls Try.prog 18 #[.slice A n c, .slice A' n c'] w fun e w' => e = .returned (.bool true) ∧ ∃ q, w' = w.drewN q := by
  go_enter Try.func18, Try.ntmps18
  go_wp2_with fail
  go_loopg [5] n (fun g s5 wr => ∃ j : Nat, s5 = .int .i64 j ∧ g = n - j ∧ j ≤ n ∧ ∃ q, wr = w.drewN q)
  case atStart => exact ⟨0, rfl, rfl, Nat.zero_le _, 0, rfl⟩
  case round =>
    obtain ⟨j, rfl, hg, hj, q, rfl⟩ := hrel
    have HG := Lib.hid hg
    clear hg
    by_cases hlt : j < n
    · have hltI : (j : Int) < (n : Int) := by omega
      obtain ⟨a, rfl, _, hca⟩ := hA.at_ (i := j) (by omega)
      obtain ⟨a', rfl, _, hcb⟩ := hB.at_ (i := j) (by omega)
      obtain ⟨y, hy⟩ : ∃ y, gt l j = y := ⟨_, rfl⟩
      rw [hy] at hca hcb
      clear hy
      go_wp2_with fail
      go_quiet (fail)
      go_wp2_with fail
      go_roundg (n - (j + 1))
      case measure => have := HG.out; omega
      case rel => exact ⟨j + 1, by go_num, rfl, by omega, _, rfl⟩
    · have hltI : ¬ (j : Int) < (n : Int) := by omega
      go_wp2_with fail
      go_ret
      exact ⟨rfl, q, rfl⟩

theorem rof_none (A : Option Addr) (L c : Nat) (wd : Int) (w : World) (hw : mayB wd = false) :
    Calls Try.prog 20 #[.slice A L c, .int .i64 wd] w (OfPost w []) := by
  have hM := rmay_any false wd w hw
  go_enter Try.func20, Try.ntmps20
  go_wp2_with (with_reducible refine hM.mono ?_; rintro e w' ⟨rfl, rfl⟩)
  go_ret
  exact ⟨none, 0, rfl, Proofs.Ytigedohalangbaa.Own.nil _ _ _ _, Below.refl _ _⟩

theorem bitsOf_bd (c : Int) (w j : Nat) : ∀ i, 0 ≤ bitsOf c w j i ∧ bitsOf c w j i < 2 ^ i
  | 0 => by simp [bitsOf]
  | i + 1 => by
    have h := bitsOf_bd c w j i
    rw [bitsOf, Int.pow_succ]
    omega
theorem bitsOf_dig' (w : Nat) (hw : IsW w) (j : Nat) (hj : j < 8 / w) (c : Int) (hc : B8 c) : bitsOf c w j w = dig c w j := by
  obtain ⟨n, rfl⟩ : ∃ n : Nat, c = n := ⟨c.toNat, by have := hc.1; omega⟩
  exact bitsOf_dig w hw j hj n (by have := hc.2; omega)

set_option maxRecDepth 100000 in
set_option maxHeartbeats 1000000 in
theorem rof_1 (b : List Int) (A : Option Addr) (L c : Nat) (w : World) (hL : b.length = L) (hL2 : L ≤ 1000000) (hb : Bys b) (hr : Rd w w.heap.size .u8 A b) :
    Calls Try.prog 20 #[.slice A L c, .int .i64 1] w (OfPost w (digL b 1)) := by
  have hM := rmay_any true 1 w rfl
  have hmx : (10000000 : Nat) ≤ maxLen := by decide
  have hO0 := Proofs.Ytigedohalangbaa.Own.nil w w.heap.size 3 .i64
  go_enter Try.func20, Try.ntmps20
  go_wp2_with (with_reducible refine hM.mono ?_; rintro e w' ⟨rfl, rfl⟩)
  clear hM
  go_loopg [5, 6, 7, 8, 9] (8 * L) (fun g s5 s6 _ _ _ wr => ∃ k : Nat, k ≤ 8 * L ∧ g = 8 * L - k ∧ s6 = .int .i64 ((1 * k : Nat) : Int) ∧ Proofs.Ytigedohalangbaa.Own wr w.heap.size 3 .i64 s5 ((digL b 1).take k) ∧ Kept w.heap.size (fun _ => False) w wr)
  case atStart => exact ⟨0, Nat.zero_le _, rfl, rfl, hO0, Kept.refl _ _ _⟩
  case round =>
    clear hO0
    obtain ⟨k, hk, hg, rfl, hO, hK⟩ := hrel
    have HG := Lib.hid hg
    clear hg
    obtain ⟨a, ha⟩ : ∃ a, 1 * k = a := ⟨_, rfl⟩
    rw [ha]
    have HA := Lib.hid ha
    have hWs := hK.size
    by_cases hlt : k < 8 * L
    · have hltI : (a : Int) < 8 * (L : Int) := by omega
      have haL : a ≤ 8000000 := by omega
      have hkL : k / 8 < L := by omega
      obtain ⟨ad, rfl, hadB, hca⟩ := hr.at_ (i := k / 8) (by omega)
      obtain ⟨p, hp⟩ : ∃ p, k / 8 = p := ⟨_, rfl⟩
      obtain ⟨j, hj⟩ : ∃ j, k % 8 = j := ⟨_, rfl⟩
      obtain ⟨y, hy⟩ : ∃ y, gt b (k / 8) = y := ⟨_, rfl⟩
      have hyb := hb.gt (k / 8)
      have hsn := digL_snoc b 1 k (by rw [hL]; omega)
      rw [show 8 / 1 = 8 from rfl, hj, hy] at hsn
      rw [hy] at hyb hca
      rw [hp] at hca hkL
      have hdg := bitsOf_dig' 1 (.inl rfl) j (by omega) y hyb
      have hc1 : wr.cell? (ad.add p) = some (.int .u8 y) := hK.cell hca (by rw [block_plus]; exact hadB) (fun h => h)
      have hyb0 := hyb.1
      have hyb1 := hyb.2
      have hlk : ((digL b 1).take k).length = k := by rw [List.length_take, digL_len, hL]; omega
      have HSN := Lib.hid hsn
      have HDG := Lib.hid hdg
      have HP := Lib.hid hp
      have HJ := Lib.hid hj
      have HLK := Lib.hid hlk
      clear ha hsn hdg hyb hca hy hp hj hlk
      go_wp2_with fail
      obtain ⟨wo, rfl⟩ : ∃ wo : World, wo = wr := ⟨_, rfl⟩
      go_loopg [7, 8, 9] 1 (fun g s7 s8 _ wr => wr = wo ∧ ∃ i : Nat, i ≤ 1 ∧ g = 1 - i ∧ s8 = .int .i64 i ∧ s7 = .int .i64 (bitsOf y 1 j i))
      case atStart => exact ⟨rfl, 0, Nat.zero_le _, rfl, rfl, rfl⟩
      case round =>
        obtain ⟨rfl, i, hi, hg, rfl, rfl⟩ := hrel
        have HG2 := Lib.hid hg
        clear hg
        have hbd := bitsOf_bd y 1 j i
        obtain ⟨d, hd⟩ : ∃ d, bitsOf y 1 j i = d := ⟨_, rfl⟩
        have hpw : (2 : Int) ^ i ≤ 2 ^ 8 := by
          have h : (2 : Nat) ^ i ≤ 2 ^ 8 := Nat.pow_le_pow_right (by decide) (by omega)
          exact_mod_cast h
        rw [hd] at hbd ⊢
        have hd0 := hbd.1
        have hd1 : d < 256 := by have := hbd.2; rw [show (2 : Int) ^ 8 = 256 by decide] at hpw; omega
        have HD := Lib.hid hd
        clear hbd hpw hd
        by_cases hli : i < 1
        · have hliI : (i : Int) < 1 := by omega
          obtain ⟨r, ht⟩ : ∃ r : Nat, r = 1 * j + i := ⟨_, rfl⟩
          obtain ⟨z, hz⟩ : ∃ z, y / 2 ^ (7 - r) = z := ⟨_, rfl⟩
          have hnx : bitsOf y 1 j (i + 1) = 2 * d + z % 2 := by rw [bitsOf, HD.out, ← ht, hz]
          have q1 : ((a : Int) + (i : Int)) / 8 = (p : Int) := by have h1 := HA.out; have h2 := HP.out; omega
          have q2 : ((a : Int) + (i : Int)) % 8 = (r : Int) := by have h1 := HA.out; have h2 := HJ.out; omega
          have q3 : r ≤ 7 := by have h2 := HJ.out; omega
          have z0 : 0 ≤ z := by rw [← hz]; exact Int.ediv_nonneg hyb0 (Int.le_of_lt (Int.pow_pos (by decide)))
          have z1 : z < 256 := by rw [← hz]; exact Int.lt_of_le_of_lt (Int.ediv_le_self _ hyb0) hyb1
          have HNX := Lib.hid hnx
          clear ht hnx
          go_wp2_with fail
          go_roundg (1 - (i + 1))
          case measure => have := HG2.out; omega
          case rel => exact ⟨rfl, i + 1, by omega, rfl, by go_num, by rw [HNX.out]⟩
        · have hliI : ¬ (i : Int) < 1 := by omega
          obtain rfl : i = 1 := by omega
          have hdx : d = dig y 1 j := by rw [← HD.out]; exact HDG.out
          have hE : Arr (wr.alloc (.cells #[.int .i64 d] 3)) wr.heap.size 3 .i64 [d] := Arr.new wr 3 .i64 [d]
          have hRE : Rd (wr.alloc (.cells #[.int .i64 d] 3)) (wr.heap.size + 1) .i64 (some ⟨wr.heap.size, 0, none⟩) [d] := Rd.of_arr hE (Nat.lt_succ_self _)
          have hOE := hO.alloc (.cells #[.int .i64 d] 3)
          have hsn2 : (digL b 1).take k ++ [d] = (digL b 1).take (k + 1) := by rw [hdx]; exact HSN.out
          have hl2 : ((digL b 1).take (k + 1)).length = k + 1 := by rw [← hsn2, List.length_append, HLK.out]; rfl
          have HL2 := Lib.hid hl2
          have HS2 := Lib.hid hsn2
          have hKE : Kept w.heap.size (fun _ => False) w (wr.alloc (.cells #[.int .i64 d] 3)) := hK.alloc _ hWs
          clear hdx hl2 hsn2 hE hc1
          go_wp2_with (at_builtin; refine wpList_app rfl _ _ 28 3 .i64 8 rfl Try.underlying28 inf_int hOE hRE rfl rfl rfl _ HS2.out (k + 1) HL2.out (by omega) (by omega) (by simp; omega) ?_; intro A1 c1 w1 hO1 hg1 hf1)
          have hK1 := hKE.grew hOE hg1 (Nat.le_refl _) (by simp; omega)
          go_roundg (8 * L - (k + 1))
          case measure => have := HG.out; omega
          case rel => exact ⟨k + 1, by omega, rfl, by have := HA.out; congr 1; push_cast; omega, hO1, hK1⟩
    · have hltI : ¬ (a : Int) < 8 * (L : Int) := by omega
      obtain rfl : k = 8 * L := by omega
      rw [List.take_of_length_le (by rw [digL_len, hL]; omega)] at hO
      clear ha
      obtain ⟨A1, c1, rfl, _⟩ := hO.form
      go_wp2_with fail
      go_ret
      exact ⟨A1, c1, rfl, hO, hK.below⟩
set_option maxRecDepth 100000 in
set_option maxHeartbeats 1000000 in
theorem rof_2 (b : List Int) (A : Option Addr) (L c : Nat) (w : World) (hL : b.length = L) (hL2 : L ≤ 1000000) (hb : Bys b) (hr : Rd w w.heap.size .u8 A b) :
    Calls Try.prog 20 #[.slice A L c, .int .i64 2] w (OfPost w (digL b 2)) := by
  have hM := rmay_any true 2 w rfl
  have hmx : (10000000 : Nat) ≤ maxLen := by decide
  have hO0 := Proofs.Ytigedohalangbaa.Own.nil w w.heap.size 3 .i64
  go_enter Try.func20, Try.ntmps20
  go_wp2_with (with_reducible refine hM.mono ?_; rintro e w' ⟨rfl, rfl⟩)
  clear hM
  go_loopg [5, 6, 7, 8, 9] (4 * L) (fun g s5 s6 _ _ _ wr => ∃ k : Nat, k ≤ 4 * L ∧ g = 4 * L - k ∧ s6 = .int .i64 ((2 * k : Nat) : Int) ∧ Proofs.Ytigedohalangbaa.Own wr w.heap.size 3 .i64 s5 ((digL b 2).take k) ∧ Kept w.heap.size (fun _ => False) w wr)
  case atStart => exact ⟨0, Nat.zero_le _, rfl, rfl, hO0, Kept.refl _ _ _⟩
  case round =>
    clear hO0
    obtain ⟨k, hk, hg, rfl, hO, hK⟩ := hrel
    have HG := Lib.hid hg
    clear hg
    obtain ⟨a, ha⟩ : ∃ a, 2 * k = a := ⟨_, rfl⟩
    rw [ha]
    have HA := Lib.hid ha
    have hWs := hK.size
    by_cases hlt : k < 4 * L
    · have hltI : (a : Int) < 8 * (L : Int) := by omega
      have haL : a ≤ 8000000 := by omega
      have hkL : k / 4 < L := by omega
      obtain ⟨ad, rfl, hadB, hca⟩ := hr.at_ (i := k / 4) (by omega)
      obtain ⟨p, hp⟩ : ∃ p, k / 4 = p := ⟨_, rfl⟩
      obtain ⟨j, hj⟩ : ∃ j, k % 4 = j := ⟨_, rfl⟩
      obtain ⟨y, hy⟩ : ∃ y, gt b (k / 4) = y := ⟨_, rfl⟩
      have hyb := hb.gt (k / 4)
      have hsn := digL_snoc b 2 k (by rw [hL]; omega)
      rw [show 8 / 2 = 4 from rfl, hj, hy] at hsn
      rw [hy] at hyb hca
      rw [hp] at hca hkL
      have hdg := bitsOf_dig' 2 (.inr (.inl rfl)) j (by omega) y hyb
      have hc1 : wr.cell? (ad.add p) = some (.int .u8 y) := hK.cell hca (by rw [block_plus]; exact hadB) (fun h => h)
      have hyb0 := hyb.1
      have hyb1 := hyb.2
      have hlk : ((digL b 2).take k).length = k := by rw [List.length_take, digL_len, hL]; omega
      have HSN := Lib.hid hsn
      have HDG := Lib.hid hdg
      have HP := Lib.hid hp
      have HJ := Lib.hid hj
      have HLK := Lib.hid hlk
      clear ha hsn hdg hyb hca hy hp hj hlk
      go_wp2_with fail
      obtain ⟨wo, rfl⟩ : ∃ wo : World, wo = wr := ⟨_, rfl⟩
      go_loopg [7, 8, 9] 2 (fun g s7 s8 _ wr => wr = wo ∧ ∃ i : Nat, i ≤ 2 ∧ g = 2 - i ∧ s8 = .int .i64 i ∧ s7 = .int .i64 (bitsOf y 2 j i))
      case atStart => exact ⟨rfl, 0, Nat.zero_le _, rfl, rfl, rfl⟩
      case round =>
        obtain ⟨rfl, i, hi, hg, rfl, rfl⟩ := hrel
        have HG2 := Lib.hid hg
        clear hg
        have hbd := bitsOf_bd y 2 j i
        obtain ⟨d, hd⟩ : ∃ d, bitsOf y 2 j i = d := ⟨_, rfl⟩
        have hpw : (2 : Int) ^ i ≤ 2 ^ 8 := by
          have h : (2 : Nat) ^ i ≤ 2 ^ 8 := Nat.pow_le_pow_right (by decide) (by omega)
          exact_mod_cast h
        rw [hd] at hbd ⊢
        have hd0 := hbd.1
        have hd1 : d < 256 := by have := hbd.2; rw [show (2 : Int) ^ 8 = 256 by decide] at hpw; omega
        have HD := Lib.hid hd
        clear hbd hpw hd
        by_cases hli : i < 2
        · have hliI : (i : Int) < 2 := by omega
          obtain ⟨r, ht⟩ : ∃ r : Nat, r = 2 * j + i := ⟨_, rfl⟩
          obtain ⟨z, hz⟩ : ∃ z, y / 2 ^ (7 - r) = z := ⟨_, rfl⟩
          have hnx : bitsOf y 2 j (i + 1) = 2 * d + z % 2 := by rw [bitsOf, HD.out, ← ht, hz]
          have q1 : ((a : Int) + (i : Int)) / 8 = (p : Int) := by have h1 := HA.out; have h2 := HP.out; omega
          have q2 : ((a : Int) + (i : Int)) % 8 = (r : Int) := by have h1 := HA.out; have h2 := HJ.out; omega
          have q3 : r ≤ 7 := by have h2 := HJ.out; omega
          have z0 : 0 ≤ z := by rw [← hz]; exact Int.ediv_nonneg hyb0 (Int.le_of_lt (Int.pow_pos (by decide)))
          have z1 : z < 256 := by rw [← hz]; exact Int.lt_of_le_of_lt (Int.ediv_le_self _ hyb0) hyb1
          have HNX := Lib.hid hnx
          clear ht hnx
          go_wp2_with fail
          go_roundg (2 - (i + 1))
          case measure => have := HG2.out; omega
          case rel => exact ⟨rfl, i + 1, by omega, rfl, by go_num, by rw [HNX.out]⟩
        · have hliI : ¬ (i : Int) < 2 := by omega
          obtain rfl : i = 2 := by omega
          have hdx : d = dig y 2 j := by rw [← HD.out]; exact HDG.out
          have hE : Arr (wr.alloc (.cells #[.int .i64 d] 3)) wr.heap.size 3 .i64 [d] := Arr.new wr 3 .i64 [d]
          have hRE : Rd (wr.alloc (.cells #[.int .i64 d] 3)) (wr.heap.size + 1) .i64 (some ⟨wr.heap.size, 0, none⟩) [d] := Rd.of_arr hE (Nat.lt_succ_self _)
          have hOE := hO.alloc (.cells #[.int .i64 d] 3)
          have hsn2 : (digL b 2).take k ++ [d] = (digL b 2).take (k + 1) := by rw [hdx]; exact HSN.out
          have hl2 : ((digL b 2).take (k + 1)).length = k + 1 := by rw [← hsn2, List.length_append, HLK.out]; rfl
          have HL2 := Lib.hid hl2
          have HS2 := Lib.hid hsn2
          have hKE : Kept w.heap.size (fun _ => False) w (wr.alloc (.cells #[.int .i64 d] 3)) := hK.alloc _ hWs
          clear hdx hl2 hsn2 hE hc1
          go_wp2_with (at_builtin; refine wpList_app rfl _ _ 28 3 .i64 8 rfl Try.underlying28 inf_int hOE hRE rfl rfl rfl _ HS2.out (k + 1) HL2.out (by omega) (by omega) (by simp; omega) ?_; intro A1 c1 w1 hO1 hg1 hf1)
          have hK1 := hKE.grew hOE hg1 (Nat.le_refl _) (by simp; omega)
          go_roundg (4 * L - (k + 1))
          case measure => have := HG.out; omega
          case rel => exact ⟨k + 1, by omega, rfl, by have := HA.out; congr 1; push_cast; omega, hO1, hK1⟩
    · have hltI : ¬ (a : Int) < 8 * (L : Int) := by omega
      obtain rfl : k = 4 * L := by omega
      rw [List.take_of_length_le (by rw [digL_len, hL]; omega)] at hO
      clear ha
      obtain ⟨A1, c1, rfl, _⟩ := hO.form
      go_wp2_with fail
      go_ret
      exact ⟨A1, c1, rfl, hO, hK.below⟩
set_option maxRecDepth 100000 in
set_option maxHeartbeats 1000000 in
theorem rof_4 (b : List Int) (A : Option Addr) (L c : Nat) (w : World) (hL : b.length = L) (hL2 : L ≤ 1000000) (hb : Bys b) (hr : Rd w w.heap.size .u8 A b) :
    Calls Try.prog 20 #[.slice A L c, .int .i64 4] w (OfPost w (digL b 4)) := by
  have hM := rmay_any true 4 w rfl
  have hmx : (10000000 : Nat) ≤ maxLen := by decide
  have hO0 := Proofs.Ytigedohalangbaa.Own.nil w w.heap.size 3 .i64
  go_enter Try.func20, Try.ntmps20
  go_wp2_with (with_reducible refine hM.mono ?_; rintro e w' ⟨rfl, rfl⟩)
  clear hM
  go_loopg [5, 6, 7, 8, 9] (2 * L) (fun g s5 s6 _ _ _ wr => ∃ k : Nat, k ≤ 2 * L ∧ g = 2 * L - k ∧ s6 = .int .i64 ((4 * k : Nat) : Int) ∧ Proofs.Ytigedohalangbaa.Own wr w.heap.size 3 .i64 s5 ((digL b 4).take k) ∧ Kept w.heap.size (fun _ => False) w wr)
  case atStart => exact ⟨0, Nat.zero_le _, rfl, rfl, hO0, Kept.refl _ _ _⟩
  case round =>
    clear hO0
    obtain ⟨k, hk, hg, rfl, hO, hK⟩ := hrel
    have HG := Lib.hid hg
    clear hg
    obtain ⟨a, ha⟩ : ∃ a, 4 * k = a := ⟨_, rfl⟩
    rw [ha]
    have HA := Lib.hid ha
    have hWs := hK.size
    by_cases hlt : k < 2 * L
    · have hltI : (a : Int) < 8 * (L : Int) := by omega
      have haL : a ≤ 8000000 := by omega
      have hkL : k / 2 < L := by omega
      obtain ⟨ad, rfl, hadB, hca⟩ := hr.at_ (i := k / 2) (by omega)
      obtain ⟨p, hp⟩ : ∃ p, k / 2 = p := ⟨_, rfl⟩
      obtain ⟨j, hj⟩ : ∃ j, k % 2 = j := ⟨_, rfl⟩
      obtain ⟨y, hy⟩ : ∃ y, gt b (k / 2) = y := ⟨_, rfl⟩
      have hyb := hb.gt (k / 2)
      have hsn := digL_snoc b 4 k (by rw [hL]; omega)
      rw [show 8 / 4 = 2 from rfl, hj, hy] at hsn
      rw [hy] at hyb hca
      rw [hp] at hca hkL
      have hdg := bitsOf_dig' 4 (.inr (.inr (.inl rfl))) j (by omega) y hyb
      have hc1 : wr.cell? (ad.add p) = some (.int .u8 y) := hK.cell hca (by rw [block_plus]; exact hadB) (fun h => h)
      have hyb0 := hyb.1
      have hyb1 := hyb.2
      have hlk : ((digL b 4).take k).length = k := by rw [List.length_take, digL_len, hL]; omega
      have HSN := Lib.hid hsn
      have HDG := Lib.hid hdg
      have HP := Lib.hid hp
      have HJ := Lib.hid hj
      have HLK := Lib.hid hlk
      clear ha hsn hdg hyb hca hy hp hj hlk
      go_wp2_with fail
      obtain ⟨wo, rfl⟩ : ∃ wo : World, wo = wr := ⟨_, rfl⟩
      go_loopg [7, 8, 9] 4 (fun g s7 s8 _ wr => wr = wo ∧ ∃ i : Nat, i ≤ 4 ∧ g = 4 - i ∧ s8 = .int .i64 i ∧ s7 = .int .i64 (bitsOf y 4 j i))
      case atStart => exact ⟨rfl, 0, Nat.zero_le _, rfl, rfl, rfl⟩
      case round =>
        obtain ⟨rfl, i, hi, hg, rfl, rfl⟩ := hrel
        have HG2 := Lib.hid hg
        clear hg
        have hbd := bitsOf_bd y 4 j i
        obtain ⟨d, hd⟩ : ∃ d, bitsOf y 4 j i = d := ⟨_, rfl⟩
        have hpw : (2 : Int) ^ i ≤ 2 ^ 8 := by
          have h : (2 : Nat) ^ i ≤ 2 ^ 8 := Nat.pow_le_pow_right (by decide) (by omega)
          exact_mod_cast h
        rw [hd] at hbd ⊢
        have hd0 := hbd.1
        have hd1 : d < 256 := by have := hbd.2; rw [show (2 : Int) ^ 8 = 256 by decide] at hpw; omega
        have HD := Lib.hid hd
        clear hbd hpw hd
        by_cases hli : i < 4
        · have hliI : (i : Int) < 4 := by omega
          obtain ⟨r, ht⟩ : ∃ r : Nat, r = 4 * j + i := ⟨_, rfl⟩
          obtain ⟨z, hz⟩ : ∃ z, y / 2 ^ (7 - r) = z := ⟨_, rfl⟩
          have hnx : bitsOf y 4 j (i + 1) = 2 * d + z % 2 := by rw [bitsOf, HD.out, ← ht, hz]
          have q1 : ((a : Int) + (i : Int)) / 8 = (p : Int) := by have h1 := HA.out; have h2 := HP.out; omega
          have q2 : ((a : Int) + (i : Int)) % 8 = (r : Int) := by have h1 := HA.out; have h2 := HJ.out; omega
          have q3 : r ≤ 7 := by have h2 := HJ.out; omega
          have z0 : 0 ≤ z := by rw [← hz]; exact Int.ediv_nonneg hyb0 (Int.le_of_lt (Int.pow_pos (by decide)))
          have z1 : z < 256 := by rw [← hz]; exact Int.lt_of_le_of_lt (Int.ediv_le_self _ hyb0) hyb1
          have HNX := Lib.hid hnx
          clear ht hnx
          go_wp2_with fail
          go_roundg (4 - (i + 1))
          case measure => have := HG2.out; omega
          case rel => exact ⟨rfl, i + 1, by omega, rfl, by go_num, by rw [HNX.out]⟩
        · have hliI : ¬ (i : Int) < 4 := by omega
          obtain rfl : i = 4 := by omega
          have hdx : d = dig y 4 j := by rw [← HD.out]; exact HDG.out
          have hE : Arr (wr.alloc (.cells #[.int .i64 d] 3)) wr.heap.size 3 .i64 [d] := Arr.new wr 3 .i64 [d]
          have hRE : Rd (wr.alloc (.cells #[.int .i64 d] 3)) (wr.heap.size + 1) .i64 (some ⟨wr.heap.size, 0, none⟩) [d] := Rd.of_arr hE (Nat.lt_succ_self _)
          have hOE := hO.alloc (.cells #[.int .i64 d] 3)
          have hsn2 : (digL b 4).take k ++ [d] = (digL b 4).take (k + 1) := by rw [hdx]; exact HSN.out
          have hl2 : ((digL b 4).take (k + 1)).length = k + 1 := by rw [← hsn2, List.length_append, HLK.out]; rfl
          have HL2 := Lib.hid hl2
          have HS2 := Lib.hid hsn2
          have hKE : Kept w.heap.size (fun _ => False) w (wr.alloc (.cells #[.int .i64 d] 3)) := hK.alloc _ hWs
          clear hdx hl2 hsn2 hE hc1
          go_wp2_with (at_builtin; refine wpList_app rfl _ _ 28 3 .i64 8 rfl Try.underlying28 inf_int hOE hRE rfl rfl rfl _ HS2.out (k + 1) HL2.out (by omega) (by omega) (by simp; omega) ?_; intro A1 c1 w1 hO1 hg1 hf1)
          have hK1 := hKE.grew hOE hg1 (Nat.le_refl _) (by simp; omega)
          go_roundg (2 * L - (k + 1))
          case measure => have := HG.out; omega
          case rel => exact ⟨k + 1, by omega, rfl, by have := HA.out; congr 1; push_cast; omega, hO1, hK1⟩
    · have hltI : ¬ (a : Int) < 8 * (L : Int) := by omega
      obtain rfl : k = 2 * L := by omega
      rw [List.take_of_length_le (by rw [digL_len, hL]; omega)] at hO
      clear ha
      obtain ⟨A1, c1, rfl, _⟩ := hO.form
      go_wp2_with fail
      go_ret
      exact ⟨A1, c1, rfl, hO, hK.below⟩
set_option maxRecDepth 100000 in
set_option maxHeartbeats 1000000 in
theorem rof_8 (b : List Int) (A : Option Addr) (L c : Nat) (w : World) (hL : b.length = L) (hL2 : L ≤ 1000000) (hb : Bys b) (hr : Rd w w.heap.size .u8 A b) :
    Calls Try.prog 20 #[.slice A L c, .int .i64 8] w (OfPost w (digL b 8)) := by
  have hM := rmay_any true 8 w rfl
  have hmx : (10000000 : Nat) ≤ maxLen := by decide
  have hO0 := Proofs.Ytigedohalangbaa.Own.nil w w.heap.size 3 .i64
  go_enter Try.func20, Try.ntmps20
  go_wp2_with (with_reducible refine hM.mono ?_; rintro e w' ⟨rfl, rfl⟩)
  clear hM
  go_loopg [5, 6, 7, 8, 9] (1 * L) (fun g s5 s6 _ _ _ wr => ∃ k : Nat, k ≤ 1 * L ∧ g = 1 * L - k ∧ s6 = .int .i64 ((8 * k : Nat) : Int) ∧ Proofs.Ytigedohalangbaa.Own wr w.heap.size 3 .i64 s5 ((digL b 8).take k) ∧ Kept w.heap.size (fun _ => False) w wr)
  case atStart => exact ⟨0, Nat.zero_le _, rfl, rfl, hO0, Kept.refl _ _ _⟩
  case round =>
    clear hO0
    obtain ⟨k, hk, hg, rfl, hO, hK⟩ := hrel
    have HG := Lib.hid hg
    clear hg
    obtain ⟨a, ha⟩ : ∃ a, 8 * k = a := ⟨_, rfl⟩
    rw [ha]
    have HA := Lib.hid ha
    have hWs := hK.size
    by_cases hlt : k < 1 * L
    · have hltI : (a : Int) < 8 * (L : Int) := by omega
      have haL : a ≤ 8000000 := by omega
      have hkL : k / 1 < L := by omega
      obtain ⟨ad, rfl, hadB, hca⟩ := hr.at_ (i := k / 1) (by omega)
      obtain ⟨p, hp⟩ : ∃ p, k / 1 = p := ⟨_, rfl⟩
      obtain ⟨j, hj⟩ : ∃ j, k % 1 = j := ⟨_, rfl⟩
      obtain ⟨y, hy⟩ : ∃ y, gt b (k / 1) = y := ⟨_, rfl⟩
      have hyb := hb.gt (k / 1)
      have hsn := digL_snoc b 8 k (by rw [hL]; omega)
      rw [show 8 / 8 = 1 from rfl, hj, hy] at hsn
      rw [hy] at hyb hca
      rw [hp] at hca hkL
      have hdg := bitsOf_dig' 8 (.inr (.inr (.inr rfl))) j (by omega) y hyb
      have hc1 : wr.cell? (ad.add p) = some (.int .u8 y) := hK.cell hca (by rw [block_plus]; exact hadB) (fun h => h)
      have hyb0 := hyb.1
      have hyb1 := hyb.2
      have hlk : ((digL b 8).take k).length = k := by rw [List.length_take, digL_len, hL]; omega
      have HSN := Lib.hid hsn
      have HDG := Lib.hid hdg
      have HP := Lib.hid hp
      have HJ := Lib.hid hj
      have HLK := Lib.hid hlk
      clear ha hsn hdg hyb hca hy hp hj hlk
      go_wp2_with fail
      obtain ⟨wo, rfl⟩ : ∃ wo : World, wo = wr := ⟨_, rfl⟩
      go_loopg [7, 8, 9] 8 (fun g s7 s8 _ wr => wr = wo ∧ ∃ i : Nat, i ≤ 8 ∧ g = 8 - i ∧ s8 = .int .i64 i ∧ s7 = .int .i64 (bitsOf y 8 j i))
      case atStart => exact ⟨rfl, 0, Nat.zero_le _, rfl, rfl, rfl⟩
      case round =>
        obtain ⟨rfl, i, hi, hg, rfl, rfl⟩ := hrel
        have HG2 := Lib.hid hg
        clear hg
        have hbd := bitsOf_bd y 8 j i
        obtain ⟨d, hd⟩ : ∃ d, bitsOf y 8 j i = d := ⟨_, rfl⟩
        have hpw : (2 : Int) ^ i ≤ 2 ^ 8 := by
          have h : (2 : Nat) ^ i ≤ 2 ^ 8 := Nat.pow_le_pow_right (by decide) (by omega)
          exact_mod_cast h
        rw [hd] at hbd ⊢
        have hd0 := hbd.1
        have hd1 : d < 256 := by have := hbd.2; rw [show (2 : Int) ^ 8 = 256 by decide] at hpw; omega
        have HD := Lib.hid hd
        clear hbd hpw hd
        by_cases hli : i < 8
        · have hliI : (i : Int) < 8 := by omega
          obtain ⟨r, ht⟩ : ∃ r : Nat, r = 8 * j + i := ⟨_, rfl⟩
          obtain ⟨z, hz⟩ : ∃ z, y / 2 ^ (7 - r) = z := ⟨_, rfl⟩
          have hnx : bitsOf y 8 j (i + 1) = 2 * d + z % 2 := by rw [bitsOf, HD.out, ← ht, hz]
          have q1 : ((a : Int) + (i : Int)) / 8 = (p : Int) := by have h1 := HA.out; have h2 := HP.out; omega
          have q2 : ((a : Int) + (i : Int)) % 8 = (r : Int) := by have h1 := HA.out; have h2 := HJ.out; omega
          have q3 : r ≤ 7 := by have h2 := HJ.out; omega
          have z0 : 0 ≤ z := by rw [← hz]; exact Int.ediv_nonneg hyb0 (Int.le_of_lt (Int.pow_pos (by decide)))
          have z1 : z < 256 := by rw [← hz]; exact Int.lt_of_le_of_lt (Int.ediv_le_self _ hyb0) hyb1
          have HNX := Lib.hid hnx
          clear ht hnx
          go_wp2_with fail
          go_roundg (8 - (i + 1))
          case measure => have := HG2.out; omega
          case rel => exact ⟨rfl, i + 1, by omega, rfl, by go_num, by rw [HNX.out]⟩
        · have hliI : ¬ (i : Int) < 8 := by omega
          obtain rfl : i = 8 := by omega
          have hdx : d = dig y 8 j := by rw [← HD.out]; exact HDG.out
          have hE : Arr (wr.alloc (.cells #[.int .i64 d] 3)) wr.heap.size 3 .i64 [d] := Arr.new wr 3 .i64 [d]
          have hRE : Rd (wr.alloc (.cells #[.int .i64 d] 3)) (wr.heap.size + 1) .i64 (some ⟨wr.heap.size, 0, none⟩) [d] := Rd.of_arr hE (Nat.lt_succ_self _)
          have hOE := hO.alloc (.cells #[.int .i64 d] 3)
          have hsn2 : (digL b 8).take k ++ [d] = (digL b 8).take (k + 1) := by rw [hdx]; exact HSN.out
          have hl2 : ((digL b 8).take (k + 1)).length = k + 1 := by rw [← hsn2, List.length_append, HLK.out]; rfl
          have HL2 := Lib.hid hl2
          have HS2 := Lib.hid hsn2
          have hKE : Kept w.heap.size (fun _ => False) w (wr.alloc (.cells #[.int .i64 d] 3)) := hK.alloc _ hWs
          clear hdx hl2 hsn2 hE hc1
          go_wp2_with (at_builtin; refine wpList_app rfl _ _ 28 3 .i64 8 rfl Try.underlying28 inf_int hOE hRE rfl rfl rfl _ HS2.out (k + 1) HL2.out (by omega) (by omega) (by simp; omega) ?_; intro A1 c1 w1 hO1 hg1 hf1)
          have hK1 := hKE.grew hOE hg1 (Nat.le_refl _) (by simp; omega)
          go_roundg (1 * L - (k + 1))
          case measure => have := HG.out; omega
          case rel => exact ⟨k + 1, by omega, rfl, by have := HA.out; congr 1; push_cast; omega, hO1, hK1⟩
    · have hltI : ¬ (a : Int) < 8 * (L : Int) := by omega
      obtain rfl : k = 1 * L := by omega
      rw [List.take_of_length_le (by rw [digL_len, hL]; omega)] at hO
      clear ha
      obtain ⟨A1, c1, rfl, _⟩ := hO.form
      go_wp2_with fail
      go_ret
      exact ⟨A1, c1, rfl, hO, hK.below⟩
theorem rof_any (b : List Int) (A : Option Addr) (L c wd : Nat) (w : World) (hw : IsW wd) (hL : b.length = L) (hL2 : L ≤ 1000000) (hb : Bys b) (hr : Rd w w.heap.size .u8 A b) :
    Calls Try.prog 20 #[.slice A L c, .int .i64 (wd : Int)] w (OfPost w (digL b wd)) := by
  rcases hw with rfl | rfl | rfl | rfl
  · exact rof_1 b A L c w hL hL2 hb hr
  · exact rof_2 b A L c w hL hL2 hb hr
  · exact rof_4 b A L c w hL hL2 hb hr
  · exact rof_8 b A L c w hL hL2 hb hr

end Go.Proofs.Ytigedohalangbaa
