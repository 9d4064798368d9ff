/- The document's answers of layer 1: Put, Get, Fill. Conditions: small counts. -/
import Derived.Test.YtigedohalangbaaOct
import Derived.Test.YtigedohalangbaaRp
import Derived.Deep.LoopGhost
namespace Go.Proofs.Ytigedohalangbaa
open Go.RowKit
set_option linter.unusedVariables false
set_option linter.unusedSimpArgs false

theorem putL_succ (v : Int) (i : Nat) : putL v (i + 1) = [v / 2 ^ (8 * i) % 256] ++ putL v i := by
  apply ext_gt _ _ (by simp [putL_len])
  intro j hj
  rw [putL_len] at hj
  rw [gt_putL _ _ _ hj]
  rcases Nat.eq_zero_or_pos j with h | h
  · subst h
    rw [gt_append_left _ _ _ (by simp)]
    simp [gt]
  · rw [gt_append_right _ _ _ (by simp; omega), List.length_singleton, gt_putL _ _ _ (by omega)]
    congr 3; omega
theorem rput_none (v n : Int) (w : World) (hn : n < 0 ∨ 8 < n) :
    Calls Try.prog 30 #[.int .u64 v, .int .i64 n] w fun e w' => e = .returned (.slice none 0 0) ∧ w = w' := by
  by_cases h1 : n < 0
  · have h1B : decide (n < 0) = true := by simpa using h1
    clear hn
    go_enter Try.func30, Try.ntmps30
    go_wp2_with fail
    go_ret
    exact ⟨rfl, rfl⟩
  · have h1B : decide (n < 0) = false := by simpa using h1
    have h2B : decide (n > 8) = true := by simp; omega
    clear hn
    go_enter Try.func30, Try.ntmps30
    go_wp2_with fail
    go_ret
    exact ⟨rfl, rfl⟩
theorem put_none (v n : Int) (w : World) (hn : n < 0 ∨ 8 < n) :
    Calls Try.prog 26 #[.int .u64 v, .int .i64 n] w fun e w' => e = .returned (.slice none 0 0) ∧ w = w' := by
  by_cases h1 : n < 0
  · have h1B : decide (n < 0) = true := by simpa using h1
    clear hn
    go_enter Try.func26, Try.ntmps26
    go_wp2_with fail
    go_ret
    exact ⟨rfl, rfl⟩
  · have h1B : decide (n < 0) = false := by simpa using h1
    have h2B : decide (n > 8) = true := by simp; omega
    clear hn
    go_enter Try.func26, Try.ntmps26
    go_wp2_with fail
    go_ret
    exact ⟨rfl, rfl⟩
set_option maxRecDepth 100000 in
set_option maxHeartbeats 1000000 in
theorem rput_any (v : Int) (n : Nat) (w : World) (hn : n ≤ 8) (hv0 : 0 ≤ v) (hv1 : v < 18446744073709551616) :
    Calls Try.prog 30 #[.int .u64 v, .int .i64 (n : Int)] w (PutPost w v n) := by
  have h1 : ¬ (n : Int) < 0 := by omega
  have h2 : ¬ (n : Int) > 8 := by omega
  have hmx : (100 : Nat) ≤ maxLen := by decide
  have hO0 := Own.lit (b := w.heap.size) (e := 5) (k := .u8) w [] (Nat.le_refl _) (Nat.zero_le _)
  have hK0 : Kept w.heap.size (fun _ => False) w (w.alloc (.cells #[] 5)) := (Kept.refl _ _ w).alloc _ (Nat.le_refl _)
  have HV := Lib.hid (And.intro hv0 hv1)
  clear hv0 hv1
  go_enter Try.func30, Try.ntmps30
  go_wp2_with fail
  go_loopg [0, 5, 6] n (fun g s0 s5 s6 wr => ∃ i : Nat, s6 = .int .i64 i ∧ g = n - i ∧ i ≤ n ∧ s0 = .int .u64 (v / 2 ^ (8 * i)) ∧ Own wr w.heap.size 5 .u8 s5 (putL v i) ∧ Kept w.heap.size (fun _ => False) w wr)
  case atStart => exact ⟨0, rfl, rfl, Nat.zero_le _, by simp, hO0, hK0⟩
  case round =>
    clear hO0 hK0
    obtain ⟨i, rfl, hg, hi, rfl, hO, hK⟩ := hrel
    have HG := Lib.hid hg
    clear hg
    by_cases hlt : i < n
    · have hltI : (i : Int) < (n : Int) := by omega
      obtain ⟨x, hx⟩ : ∃ x, v / 2 ^ (8 * i) = x := ⟨_, rfl⟩
      have hx0 : 0 ≤ x := by rw [← hx]; exact Int.ediv_nonneg HV.out.1 (Int.le_of_lt (Int.pow_pos (by decide)))
      have hx1 : x < 18446744073709551616 := by rw [← hx]; exact Int.lt_of_le_of_lt (Int.ediv_le_self _ HV.out.1) HV.out.2
      have hnx : v / 2 ^ (8 * (i + 1)) = x / 256 := by
        rw [Nat.mul_succ, Int.pow_add, ← Int.ediv_ediv_of_nonneg (Int.le_of_lt (Int.pow_pos (by decide))), hx]; rfl
      have hps : putL v (i + 1) = [x % 256] ++ putL v i := by rw [putL_succ, hx]
      obtain ⟨A1, c1, rfl, hlc, hcm, hR, _⟩ := hO.form
      rw [hx]
      have hWs := hK.size
      have hOe := Own.lit (b := w.heap.size) (e := 5) (k := .u8) wr [x % 256] hWs (by simp; omega)
      have hRe := hR.alloc (Nat.le_refl _) (.cells #[.int .u8 (x % 256)] 5)
      have hKe : Kept w.heap.size (fun _ => False) w (wr.alloc (.cells #[.int .u8 (x % 256)] 5)) := hK.alloc _ hWs
      rw [putL_len] at *
      have hpl : (putL v (i + 1)).length = i + 1 := putL_len _ _
      have HPS := Lib.hid hps.symm
      have HNX := Lib.hid hnx
      have HPL := Lib.hid hpl
      have HX := Lib.hid hx
      have hpi : (putL v i).length = i := putL_len _ _
      have HPI := Lib.hid hpi
      clear hx hnx hps hO hR hlc hpl hpi
      go_wp2_with (at_builtin; refine wpList_app rfl _ _ 22 5 .u8 1 rfl Try.underlying22 inf_u8 hOe hRe rfl rfl HPI.out _ HPS.out (i + 1) HPL.out (by omega) (by omega) (by simp; omega) ?_; intro A2 c2 w3 hO3 hg3 hf3)
      have hK3 := hKe.grew hOe hg3 (Nat.le_refl _) (by simp; omega)
      go_roundg (n - (i + 1))
      case measure => have := HG.out; omega
      case rel => exact ⟨i + 1, by go_num, rfl, by omega, by rw [HNX.out], hO3, hK3⟩
    · have hltI : ¬ (i : Int) < (n : Int) := by omega
      obtain rfl : i = n := by omega
      obtain ⟨A1, c1, rfl, _⟩ := hO.form
      go_wp2_with fail
      go_ret
      rw [putL_len] at hO ⊢
      exact ⟨A1, c1, rfl, hO, hK.below⟩

theorem rget_none (A : Option Addr) (n c : Nat) (w : World) (hn : 8 < n) :
    Calls Try.prog 28 #[.slice A n c] w fun e w' => e = .returned (.tuple #[.int .u64 0, .bool false]) ∧ w = w' := by
  have h1 : (n : Int) > 8 := by omega
  go_enter Try.func28, Try.ntmps28
  go_wp2_with fail
  go_ret2
  exact ⟨rfl, rfl⟩
theorem get_none (A : Option Addr) (n c : Nat) (w : World) (hn : 8 < n) :
    Calls Try.prog 27 #[.slice A n c] w fun e w' => e = .returned (.tuple #[.int .u64 0, .bool false]) ∧ w = w' := by
  have h1 : (n : Int) > 8 := by omega
  go_enter Try.func27, Try.ntmps27
  go_wp2_with fail
  go_ret2
  exact ⟨rfl, rfl⟩
theorem beN_lt64 {l : List Int} (h : Bys l) (j : Nat) (hj : j ≤ 8) : beN l j < 18446744073709551616 := by
  have h1 := (beN_bd h j).2
  have h2 : ∀ j, j ≤ 8 → (256 : Int) ^ j ≤ 18446744073709551616 := by decide
  have := h2 j hj
  omega
theorem rget_any (l : List Int) (A : Option Addr) (c B n : Nat) (w : World) (hr : Rd w B .u8 A l) (hb : Bys l) (hn : l.length = n) (h8 : n ≤ 8) :
    Calls Try.prog 28 #[.slice A n c] w fun e w' => e = .returned (.tuple #[.int .u64 (beN l n), .bool true]) ∧ w = w' := by
  have hnI : ¬ (n : Int) > 8 := by omega
  go_enter Try.func28, Try.ntmps28
  go_wp2_with fail
  go_loopg [4, 5] n (fun g s4 s5 wr => w = wr ∧ ∃ i : Nat, i ≤ n ∧ g = n - i ∧ s5 = .int .i64 i ∧ s4 = .int .u64 (beN l i))
  case atStart => exact ⟨rfl, 0, Nat.zero_le _, rfl, rfl, rfl⟩
  case round =>
    obtain ⟨rfl, i, hi, hg, rfl, rfl⟩ := hrel
    have HG := Lib.hid hg
    clear hg
    by_cases hlt : i < n
    · have hltI : (i : Int) < (n : Int) := by omega
      obtain ⟨ad, rfl, _, hc⟩ := hr.at_ (i := i) (by omega)
      have hbd := beN_bd hb i
      have hnx := beN_lt64 hb (i + 1) (by omega)
      have hyb := hb.gt i
      obtain ⟨x, hx⟩ : ∃ x, beN l i = x := ⟨_, rfl⟩
      obtain ⟨y, hy⟩ : ∃ y, gt l i = y := ⟨_, rfl⟩
      rw [beN, hx, hy] at hnx
      rw [hx] at hbd ⊢
      rw [hy] at hc hyb
      have hx0 := hbd.1
      have hy0 := hyb.1
      have hy1 := hyb.2
      have w1 : IntKind.u64.wrap (x * 256) = x * 256 := by rw [IntKind.wrap_u64]; omega
      have w2 : IntKind.u64.wrap (x * 256 + y) = x * 256 + y := by rw [IntKind.wrap_u64]; omega
      have HX := Lib.hid hx
      have HY := Lib.hid hy
      clear hx hy hbd hyb hnx
      go_wp2_with fail
      go_roundg (n - (i + 1))
      case measure => have := HG.out; omega
      case rel => exact ⟨rfl, i + 1, by omega, rfl, by go_num, by rw [beN, HX.out, HY.out]⟩
    · have hltI : ¬ (i : Int) < (n : Int) := by omega
      obtain rfl : i = n := by omega
      go_wp2_with fail
      go_ret2
      exact ⟨rfl, rfl⟩
theorem rfill_none (x n : Int) (w : World) (hn : n < 0 ∨ 65536 < n) :
    Calls Try.prog 36 #[.int .u8 x, .int .i64 n] w fun e w' => e = .returned (.slice none 0 0) ∧ w = w' := by
  by_cases h1 : n < 0
  · have h1B : decide (0 < n) = false := by simp; omega
    clear hn
    go_enter Try.func36, Try.ntmps36
    go_wp2_with fail
    go_loopg [5, 6] 0 (fun g s5 s6 wr => wr = w ∧ s5 = .slice none 0 0 ∧ s6 = .int .i64 0)
    case atStart => exact ⟨rfl, rfl, rfl⟩
    case round =>
      obtain ⟨rfl, rfl, rfl⟩ := hrel
      go_wp2_with fail
      go_ret
      exact ⟨rfl, rfl⟩
  · have h1B : decide (0 < n) = true := by simp; omega
    have h2B : decide (n ≤ 65536) = false := by simp; omega
    clear hn
    go_enter Try.func36, Try.ntmps36
    go_wp2_with fail
    go_loopg [5, 6] 0 (fun g s5 s6 wr => wr = w ∧ s5 = .slice none 0 0 ∧ s6 = .int .i64 0)
    case atStart => exact ⟨rfl, rfl, rfl⟩
    case round =>
      obtain ⟨rfl, rfl, rfl⟩ := hrel
      go_wp2_with fail
      go_ret
      exact ⟨rfl, rfl⟩
set_option maxRecDepth 100000 in
set_option maxHeartbeats 1000000 in
theorem rfill_any (x : Int) (n : Nat) (w : World) (hn : n ≤ 65536) :
    Calls Try.prog 36 #[.int .u8 x, .int .i64 (n : Int)] w (CatPost w (List.replicate n x)) := by
  have h2B : (n : Int) ≤ 65536 := by omega
  have hmx : (65537 : Nat) ≤ maxLen := by decide
  have hO0 := Own.nil w w.heap.size 5 .u8
  go_enter Try.func36, Try.ntmps36
  go_wp2_with fail
  go_loopg [5, 6] n (fun g s5 s6 wr => ∃ i : Nat, s6 = .int .i64 i ∧ g = n - i ∧ i ≤ n ∧ Own wr w.heap.size 5 .u8 s5 (List.replicate i x) ∧ Kept w.heap.size (fun _ => False) w wr)
  case atStart => exact ⟨0, rfl, rfl, Nat.zero_le _, hO0, Kept.refl _ _ _⟩
  case round =>
    clear hO0
    obtain ⟨i, rfl, hg, hi, hO, hK⟩ := hrel
    have HG := Lib.hid hg
    clear hg
    by_cases hlt : i < n
    · have hltI : (i : Int) < (n : Int) := by omega
      have hWs := hK.size
      have hE : Arr (wr.alloc (.cells #[.int .u8 x] 5)) wr.heap.size 5 .u8 [x] := Arr.new wr 5 .u8 [x]
      have hRE : Rd (wr.alloc (.cells #[.int .u8 x] 5)) (wr.heap.size + 1) .u8 (some ⟨wr.heap.size, 0, none⟩) [x] := Rd.of_arr hE (Nat.lt_succ_self _)
      have hOE := hO.alloc (.cells #[.int .u8 x] 5)
      have hKE : Kept w.heap.size (fun _ => False) w (wr.alloc (.cells #[.int .u8 x] 5)) := hK.alloc _ hWs
      have hs2 : List.replicate i x ++ [x] = List.replicate (i + 1) x := by rw [List.replicate_succ']
      have hl2 : (List.replicate (i + 1) x).length = i + 1 := by simp
      have HS := Lib.hid hs2
      have HL := Lib.hid hl2
      clear hs2 hl2 hE hO
      go_wp2_with (at_builtin; refine wpList_app rfl _ _ 22 5 .u8 1 rfl Try.underlying22 inf_u8 hOE hRE rfl rfl rfl _ HS.out (i + 1) HL.out (by omega) (by omega) (by simp; omega) ?_; intro A1 c1 w1 hO1 hg1 hf1)
      have hK1 := hKE.grew hOE hg1 (Nat.le_refl _) (by simp; omega)
      go_roundg (n - (i + 1))
      case measure => have := HG.out; omega
      case rel => exact ⟨i + 1, by go_num, rfl, by omega, hO1, hK1⟩
    · have hltI : ¬ (i : Int) < (n : Int) := by omega
      obtain rfl : i = n := by omega
      obtain ⟨A1, c1, rfl, _⟩ := hO.form
      go_wp2_with fail
      go_ret
      unfold CatPost
      rw [List.length_replicate]
      exact ⟨A1, c1, rfl, hO.frs, hK.below⟩

end Go.Proofs.Ytigedohalangbaa
