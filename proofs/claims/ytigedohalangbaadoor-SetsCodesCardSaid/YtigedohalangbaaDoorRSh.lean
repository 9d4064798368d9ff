/- The document's answers of layer 7, for layer 8's seat: May, Shape (the same texts as in D7G, D7H). -/
import Derived.Test.YtigedohalangbaaDoorD7F
import Derived.Test.YtigedohalangbaaDoorHold
import Derived.Deep.LoopGhost
namespace Go.Proofs.YtigedohalangbaaDoor
open Go.RowKit
set_option linter.unusedVariables false
set_option linter.unusedSimpArgs false

theorem rmay_any (b : Bool) (v : Int) (w : World) (hb : mayB v = b) : Calls Tryd.prog 36 #[.int .i64 v] w fun e w' => e = .returned (.bool b) ∧ w = w' := by
  by_cases h : v = 1 ∨ v = 2 ∨ v = 4 ∨ v = 8
  · rcases h with rfl | rfl | rfl | rfl
    all_goals
      obtain rfl := hb
      go_enter Tryd.func36, Tryd.ntmps36
      go_wp2_with fail
      go_ret
      exact ⟨rfl, rfl⟩
  · have hf : mayB v = false := by simpa [mayB] using h
    have h1 : (v == 1) = false := beq_eq_false_iff_ne.2 fun e => h (.inl e)
    have h2 : (v == 2) = false := beq_eq_false_iff_ne.2 fun e => h (.inr (.inl e))
    have h4 : (v == 4) = false := beq_eq_false_iff_ne.2 fun e => h (.inr (.inr (.inl e)))
    have h8 : (v == 8) = false := beq_eq_false_iff_ne.2 fun e => h (.inr (.inr (.inr e)))
    obtain rfl : b = false := by rw [← hb, hf]
    clear h hf hb
    go_enter Tryd.func36, Tryd.ntmps36
    go_wp2_with fail
    go_ret
    exact ⟨rfl, rfl⟩

set_option maxHeartbeats 1000000 in
def twos : Nat → Int
  | 0 => 1
  | i + 1 => twos i * 2
theorem twos_bd : ∀ i, i ≤ 20 → 1 ≤ twos i ∧ twos i ≤ 1048576 := by decide
theorem twos_eq : ∀ i, i ≤ 20 → twos i = 2 ^ i := by decide

/-! ### Shape -/
def digN : Nat → Nat → Nat → Nat
  | 0, _, _ => 0
  | f + 1, x, B => if x = 0 then 0 else digN f (x / B) B + 1
theorem digN_v : ∀ w, w = 1 ∨ w = 2 ∨ w = 4 ∨ w = 8 → ∀ n, n ≤ 64 → digN 20 ((2 ^ w - 1) * uOf n w) (2 ^ w) = vOf n w := by
  intro w hw n hn
  have h : ∀ w, w = 1 ∨ w = 2 ∨ w = 4 ∨ w = 8 → ∀ n, n < 65 → digN 20 ((2 ^ w - 1) * uOf n w) (2 ^ w) = vOf n w := by
    intro w hw
    rcases hw with rfl | rfl | rfl | rfl <;> decide +kernel
  exact h w hw n (by omega)
theorem vOf_le : ∀ w, w = 1 ∨ w = 2 ∨ w = 4 ∨ w = 8 → ∀ n, n ≤ 64 → vOf n w ≤ 16 := by
  intro w hw n hn
  have h : ∀ w, w = 1 ∨ w = 2 ∨ w = 4 ∨ w = 8 → ∀ n, n < 65 → vOf n w ≤ 16 := by
    intro w hw
    rcases hw with rfl | rfl | rfl | rfl <;> decide +kernel
  exact h w hw n (by omega)

theorem rshape_none (n wd : Int) (w : World) (h : n < 1 ∨ 64 < n ∨ mayB wd = false) :
    Calls Tryd.prog 25 #[.int .i64 n, .int .i64 wd] w fun e w' => e = .returned (.tuple #[.int .i64 0, .int .i64 0, .int .i64 0]) ∧ w = w' := by
  by_cases h1 : n < 1
  · have h1' : decide (n < 1) = true := by simpa using h1
    go_enter Tryd.func25, Tryd.ntmps25
    go_wp2_with fail
    go_ret3
    exact ⟨rfl, rfl⟩
  · have h1' : decide (n < 1) = false := by simpa using h1
    by_cases h2 : n > 64
    · have h2' : decide (n > 64) = true := by simpa using h2
      go_enter Tryd.func25, Tryd.ntmps25
      go_wp2_with fail
      go_ret3
      exact ⟨rfl, rfl⟩
    · have h2' : decide (n > 64) = false := by simpa using h2
      have hM := rmay_any false wd w (by rcases h with h | h | h; omega; omega; exact h)
      clear h
      go_enter Tryd.func25, Tryd.ntmps25
      go_wp2_with (with_reducible refine hM.mono ?_; rintro e w' ⟨rfl, rfl⟩)
      go_ret3
      exact ⟨rfl, rfl⟩
set_option maxRecDepth 100000 in
set_option maxHeartbeats 1000000 in
theorem rshape_1 (n : Nat) (w : World) (h1 : 1 ≤ n) (h64 : n ≤ 64) :
    Calls Tryd.prog 25 #[.int .i64 (n : Int), .int .i64 1] w (ShapePost n 1 w) := by
  have hM := rmay_any true 1 w rfl
  have i1 : ¬ (n : Int) < 1 := by omega
  have i2 : ¬ (n : Int) > 64 := by omega
  obtain ⟨u, hu⟩ : ∃ u, uOf n 1 = u := ⟨_, rfl⟩
  obtain ⟨V, hV⟩ : ∃ V, vOf n 1 = V := ⟨_, rfl⟩
  have hu1 : (8 * (n : Int) / 1) = (u : Int) := by rw [← hu, uOf]; omega
  have hu2 : u ≤ 512 := by rw [← hu, uOf]; omega
  have hv := digN_v 1 (.inl rfl) n h64
  rw [hu, hV] at hv
  have hv1 := vOf_le 1 (.inl rfl) n h64
  rw [hV] at hv1
  have HU := Lib.hid hu
  have HU1 := Lib.hid hu1
  have HV := Lib.hid hV
  have HV1 := Lib.hid hv
  clear hu hV hv
  go_enter Tryd.func25, Tryd.ntmps25
  go_wp2_with (with_reducible refine hM.mono ?_; rintro e w' ⟨rfl, rfl⟩)
  clear hM
  go_loopg [7, 8] 1 (fun g s7 s8 wr => wr = w ∧ ∃ i : Nat, i ≤ 1 ∧ g = 1 - i ∧ s8 = .int .i64 i ∧ s7 = .int .i64 (twos i))
  case atStart => exact ⟨rfl, 0, Nat.zero_le _, rfl, rfl, rfl⟩
  case round =>
    obtain ⟨rfl, i, hi, hg, rfl, rfl⟩ := hrel
    have HG := Lib.hid hg
    clear hg
    have htb := twos_bd i (by omega)
    obtain ⟨t, ht⟩ : ∃ t, twos i = t := ⟨_, rfl⟩
    rw [ht] at htb ⊢
    have ht0 := htb.1
    have ht1 := htb.2
    have HT := Lib.hid ht
    clear htb ht
    by_cases hli : i < 1
    · have hliI : (i : Int) < 1 := by omega
      go_wp2_with fail
      go_roundg (1 - (i + 1))
      case measure => have := HG.out; omega
      case rel => exact ⟨rfl, i + 1, by omega, rfl, by go_num, by rw [twos, HT.out]⟩
    · have hliI : ¬ (i : Int) < 1 := by omega
      obtain rfl : i = 1 := by omega
      have ht16 : t = twos 1 := HT.out.symm
      rw [show twos 1 = 2 by decide] at ht16
      subst ht16
      have hu3 : (0 : Int) ≤ (u : Int) := by omega
      have hu4 : (u : Int) ≤ 512 := by omega
      go_wp2_with fail
      go_loopg [10, 11] (1 * u) (fun g s10 s11 w2 => w2 = wr ∧ ∃ x v f : Nat, x ≤ 1 * u ∧ g = x ∧ s11 = .int .i64 x ∧ s10 = .int .i64 v ∧ V = v + digN f x 2 ∧ x < 2 ^ f)
      case atStart => exact ⟨rfl, 1 * u, 0, 20, Nat.le_refl _, rfl, by have := HU1.out; congr 1; first | done | (push_cast; omega), rfl, by have := HV1.out; rw [← this]; simp, by have : (2 : Nat) ^ 20 = 1048576 := rfl; omega⟩
      case round =>
        obtain ⟨rfl, x, v, f, hx, hg, rfl, rfl, hVv, hf⟩ := hrel
        have HG2 := Lib.hid hg
        have HVV := Lib.hid hVv
        have HF := Lib.hid hf
        have hvV : v ≤ 16 := by omega
        clear hg hVv hf
        by_cases hx0 : 0 < x
        · have hxI : (x : Int) > 0 := by omega
          have hxn : (x : Int) ≤ 200000 := by omega
          go_wp2_with fail
          go_roundg (x / 2)
          case measure => have := HG2.out; omega
          case rel =>
            obtain ⟨f', rfl⟩ : ∃ f', f = f' + 1 := by
              cases f with
              | zero => have h := HF.out; simp at h; omega
              | succ f' => exact ⟨f', rfl⟩
            have h := HVV.out
            rw [digN, if_neg (by omega)] at h
            have h2 := HF.out
            rw [Nat.pow_succ] at h2
            exact ⟨rfl, x / 2, v + 1, f', by omega, rfl, by congr 1, by go_num, by omega, by omega⟩
        · have hxI : ¬ (x : Int) > 0 := by omega
          obtain rfl : x = 0 := by omega
          have hVe : v = V := by
            have h := HVV.out
            cases f with
            | zero => simp [digN] at h; omega
            | succ f' => simp [digN] at h; omega
          have HVE := Lib.hid hVe
          clear hVe
          go_wp2_with fail
          go_ret3
          exact shape_mk (by have := HU1.out; rw [HU.out]; first | done | omega) (by rw [HV.out, HVE.out]) (by rw [HV.out, ← HVE.out]; omega) (Below.refl _ _)
set_option maxRecDepth 100000 in
set_option maxHeartbeats 1000000 in
theorem rshape_2 (n : Nat) (w : World) (h1 : 1 ≤ n) (h64 : n ≤ 64) :
    Calls Tryd.prog 25 #[.int .i64 (n : Int), .int .i64 2] w (ShapePost n 2 w) := by
  have hM := rmay_any true 2 w rfl
  have i1 : ¬ (n : Int) < 1 := by omega
  have i2 : ¬ (n : Int) > 64 := by omega
  obtain ⟨u, hu⟩ : ∃ u, uOf n 2 = u := ⟨_, rfl⟩
  obtain ⟨V, hV⟩ : ∃ V, vOf n 2 = V := ⟨_, rfl⟩
  have hu1 : (8 * (n : Int) / 2) = (u : Int) := by rw [← hu, uOf]; omega
  have hu2 : u ≤ 512 := by rw [← hu, uOf]; omega
  have hv := digN_v 2 (.inr (.inl rfl)) n h64
  rw [hu, hV] at hv
  have hv1 := vOf_le 2 (.inr (.inl rfl)) n h64
  rw [hV] at hv1
  have HU := Lib.hid hu
  have HU1 := Lib.hid hu1
  have HV := Lib.hid hV
  have HV1 := Lib.hid hv
  clear hu hV hv
  go_enter Tryd.func25, Tryd.ntmps25
  go_wp2_with (with_reducible refine hM.mono ?_; rintro e w' ⟨rfl, rfl⟩)
  clear hM
  go_loopg [7, 8] 2 (fun g s7 s8 wr => wr = w ∧ ∃ i : Nat, i ≤ 2 ∧ g = 2 - i ∧ s8 = .int .i64 i ∧ s7 = .int .i64 (twos i))
  case atStart => exact ⟨rfl, 0, Nat.zero_le _, rfl, rfl, rfl⟩
  case round =>
    obtain ⟨rfl, i, hi, hg, rfl, rfl⟩ := hrel
    have HG := Lib.hid hg
    clear hg
    have htb := twos_bd i (by omega)
    obtain ⟨t, ht⟩ : ∃ t, twos i = t := ⟨_, rfl⟩
    rw [ht] at htb ⊢
    have ht0 := htb.1
    have ht1 := htb.2
    have HT := Lib.hid ht
    clear htb ht
    by_cases hli : i < 2
    · have hliI : (i : Int) < 2 := by omega
      go_wp2_with fail
      go_roundg (2 - (i + 1))
      case measure => have := HG.out; omega
      case rel => exact ⟨rfl, i + 1, by omega, rfl, by go_num, by rw [twos, HT.out]⟩
    · have hliI : ¬ (i : Int) < 2 := by omega
      obtain rfl : i = 2 := by omega
      have ht16 : t = twos 2 := HT.out.symm
      rw [show twos 2 = 4 by decide] at ht16
      subst ht16
      have hu3 : (0 : Int) ≤ (u : Int) := by omega
      have hu4 : (u : Int) ≤ 512 := by omega
      go_wp2_with fail
      go_loopg [10, 11] (3 * u) (fun g s10 s11 w2 => w2 = wr ∧ ∃ x v f : Nat, x ≤ 3 * u ∧ g = x ∧ s11 = .int .i64 x ∧ s10 = .int .i64 v ∧ V = v + digN f x 4 ∧ x < 2 ^ f)
      case atStart => exact ⟨rfl, 3 * u, 0, 20, Nat.le_refl _, rfl, by have := HU1.out; congr 1; first | done | (push_cast; omega), rfl, by have := HV1.out; rw [← this]; simp, by have : (2 : Nat) ^ 20 = 1048576 := rfl; omega⟩
      case round =>
        obtain ⟨rfl, x, v, f, hx, hg, rfl, rfl, hVv, hf⟩ := hrel
        have HG2 := Lib.hid hg
        have HVV := Lib.hid hVv
        have HF := Lib.hid hf
        have hvV : v ≤ 16 := by omega
        clear hg hVv hf
        by_cases hx0 : 0 < x
        · have hxI : (x : Int) > 0 := by omega
          have hxn : (x : Int) ≤ 200000 := by omega
          go_wp2_with fail
          go_roundg (x / 4)
          case measure => have := HG2.out; omega
          case rel =>
            obtain ⟨f', rfl⟩ : ∃ f', f = f' + 1 := by
              cases f with
              | zero => have h := HF.out; simp at h; omega
              | succ f' => exact ⟨f', rfl⟩
            have h := HVV.out
            rw [digN, if_neg (by omega)] at h
            have h2 := HF.out
            rw [Nat.pow_succ] at h2
            exact ⟨rfl, x / 4, v + 1, f', by omega, rfl, by congr 1, by go_num, by omega, by omega⟩
        · have hxI : ¬ (x : Int) > 0 := by omega
          obtain rfl : x = 0 := by omega
          have hVe : v = V := by
            have h := HVV.out
            cases f with
            | zero => simp [digN] at h; omega
            | succ f' => simp [digN] at h; omega
          have HVE := Lib.hid hVe
          clear hVe
          go_wp2_with fail
          go_ret3
          exact shape_mk (by have := HU1.out; rw [HU.out]; first | done | omega) (by rw [HV.out, HVE.out]) (by rw [HV.out, ← HVE.out]; omega) (Below.refl _ _)
set_option maxRecDepth 100000 in
set_option maxHeartbeats 1000000 in
theorem rshape_4 (n : Nat) (w : World) (h1 : 1 ≤ n) (h64 : n ≤ 64) :
    Calls Tryd.prog 25 #[.int .i64 (n : Int), .int .i64 4] w (ShapePost n 4 w) := by
  have hM := rmay_any true 4 w rfl
  have i1 : ¬ (n : Int) < 1 := by omega
  have i2 : ¬ (n : Int) > 64 := by omega
  obtain ⟨u, hu⟩ : ∃ u, uOf n 4 = u := ⟨_, rfl⟩
  obtain ⟨V, hV⟩ : ∃ V, vOf n 4 = V := ⟨_, rfl⟩
  have hu1 : (8 * (n : Int) / 4) = (u : Int) := by rw [← hu, uOf]; omega
  have hu2 : u ≤ 512 := by rw [← hu, uOf]; omega
  have hv := digN_v 4 (.inr (.inr (.inl rfl))) n h64
  rw [hu, hV] at hv
  have hv1 := vOf_le 4 (.inr (.inr (.inl rfl))) n h64
  rw [hV] at hv1
  have HU := Lib.hid hu
  have HU1 := Lib.hid hu1
  have HV := Lib.hid hV
  have HV1 := Lib.hid hv
  clear hu hV hv
  go_enter Tryd.func25, Tryd.ntmps25
  go_wp2_with (with_reducible refine hM.mono ?_; rintro e w' ⟨rfl, rfl⟩)
  clear hM
  go_loopg [7, 8] 4 (fun g s7 s8 wr => wr = w ∧ ∃ i : Nat, i ≤ 4 ∧ g = 4 - i ∧ s8 = .int .i64 i ∧ s7 = .int .i64 (twos i))
  case atStart => exact ⟨rfl, 0, Nat.zero_le _, rfl, rfl, rfl⟩
  case round =>
    obtain ⟨rfl, i, hi, hg, rfl, rfl⟩ := hrel
    have HG := Lib.hid hg
    clear hg
    have htb := twos_bd i (by omega)
    obtain ⟨t, ht⟩ : ∃ t, twos i = t := ⟨_, rfl⟩
    rw [ht] at htb ⊢
    have ht0 := htb.1
    have ht1 := htb.2
    have HT := Lib.hid ht
    clear htb ht
    by_cases hli : i < 4
    · have hliI : (i : Int) < 4 := by omega
      go_wp2_with fail
      go_roundg (4 - (i + 1))
      case measure => have := HG.out; omega
      case rel => exact ⟨rfl, i + 1, by omega, rfl, by go_num, by rw [twos, HT.out]⟩
    · have hliI : ¬ (i : Int) < 4 := by omega
      obtain rfl : i = 4 := by omega
      have ht16 : t = twos 4 := HT.out.symm
      rw [show twos 4 = 16 by decide] at ht16
      subst ht16
      have hu3 : (0 : Int) ≤ (u : Int) := by omega
      have hu4 : (u : Int) ≤ 512 := by omega
      go_wp2_with fail
      go_loopg [10, 11] (15 * u) (fun g s10 s11 w2 => w2 = wr ∧ ∃ x v f : Nat, x ≤ 15 * u ∧ g = x ∧ s11 = .int .i64 x ∧ s10 = .int .i64 v ∧ V = v + digN f x 16 ∧ x < 2 ^ f)
      case atStart => exact ⟨rfl, 15 * u, 0, 20, Nat.le_refl _, rfl, by have := HU1.out; congr 1; first | done | (push_cast; omega), rfl, by have := HV1.out; rw [← this]; simp, by have : (2 : Nat) ^ 20 = 1048576 := rfl; omega⟩
      case round =>
        obtain ⟨rfl, x, v, f, hx, hg, rfl, rfl, hVv, hf⟩ := hrel
        have HG2 := Lib.hid hg
        have HVV := Lib.hid hVv
        have HF := Lib.hid hf
        have hvV : v ≤ 16 := by omega
        clear hg hVv hf
        by_cases hx0 : 0 < x
        · have hxI : (x : Int) > 0 := by omega
          have hxn : (x : Int) ≤ 200000 := by omega
          go_wp2_with fail
          go_roundg (x / 16)
          case measure => have := HG2.out; omega
          case rel =>
            obtain ⟨f', rfl⟩ : ∃ f', f = f' + 1 := by
              cases f with
              | zero => have h := HF.out; simp at h; omega
              | succ f' => exact ⟨f', rfl⟩
            have h := HVV.out
            rw [digN, if_neg (by omega)] at h
            have h2 := HF.out
            rw [Nat.pow_succ] at h2
            exact ⟨rfl, x / 16, v + 1, f', by omega, rfl, by congr 1, by go_num, by omega, by omega⟩
        · have hxI : ¬ (x : Int) > 0 := by omega
          obtain rfl : x = 0 := by omega
          have hVe : v = V := by
            have h := HVV.out
            cases f with
            | zero => simp [digN] at h; omega
            | succ f' => simp [digN] at h; omega
          have HVE := Lib.hid hVe
          clear hVe
          go_wp2_with fail
          go_ret3
          exact shape_mk (by have := HU1.out; rw [HU.out]; first | done | omega) (by rw [HV.out, HVE.out]) (by rw [HV.out, ← HVE.out]; omega) (Below.refl _ _)
set_option maxRecDepth 100000 in
set_option maxHeartbeats 1000000 in
theorem rshape_8 (n : Nat) (w : World) (h1 : 1 ≤ n) (h64 : n ≤ 64) :
    Calls Tryd.prog 25 #[.int .i64 (n : Int), .int .i64 8] w (ShapePost n 8 w) := by
  have hM := rmay_any true 8 w rfl
  have i1 : ¬ (n : Int) < 1 := by omega
  have i2 : ¬ (n : Int) > 64 := by omega
  obtain ⟨u, hu⟩ : ∃ u, uOf n 8 = u := ⟨_, rfl⟩
  obtain ⟨V, hV⟩ : ∃ V, vOf n 8 = V := ⟨_, rfl⟩
  have hu1 : (8 * (n : Int) / 8) = (u : Int) := by rw [← hu, uOf]; omega
  have hu2 : u ≤ 512 := by rw [← hu, uOf]; omega
  have hv := digN_v 8 (.inr (.inr (.inr rfl))) n h64
  rw [hu, hV] at hv
  have hv1 := vOf_le 8 (.inr (.inr (.inr rfl))) n h64
  rw [hV] at hv1
  have HU := Lib.hid hu
  have HU1 := Lib.hid hu1
  have HV := Lib.hid hV
  have HV1 := Lib.hid hv
  clear hu hV hv
  go_enter Tryd.func25, Tryd.ntmps25
  go_wp2_with (with_reducible refine hM.mono ?_; rintro e w' ⟨rfl, rfl⟩)
  clear hM
  go_loopg [7, 8] 8 (fun g s7 s8 wr => wr = w ∧ ∃ i : Nat, i ≤ 8 ∧ g = 8 - i ∧ s8 = .int .i64 i ∧ s7 = .int .i64 (twos i))
  case atStart => exact ⟨rfl, 0, Nat.zero_le _, rfl, rfl, rfl⟩
  case round =>
    obtain ⟨rfl, i, hi, hg, rfl, rfl⟩ := hrel
    have HG := Lib.hid hg
    clear hg
    have htb := twos_bd i (by omega)
    obtain ⟨t, ht⟩ : ∃ t, twos i = t := ⟨_, rfl⟩
    rw [ht] at htb ⊢
    have ht0 := htb.1
    have ht1 := htb.2
    have HT := Lib.hid ht
    clear htb ht
    by_cases hli : i < 8
    · have hliI : (i : Int) < 8 := by omega
      go_wp2_with fail
      go_roundg (8 - (i + 1))
      case measure => have := HG.out; omega
      case rel => exact ⟨rfl, i + 1, by omega, rfl, by go_num, by rw [twos, HT.out]⟩
    · have hliI : ¬ (i : Int) < 8 := by omega
      obtain rfl : i = 8 := by omega
      have ht16 : t = twos 8 := HT.out.symm
      rw [show twos 8 = 256 by decide] at ht16
      subst ht16
      have hu3 : (0 : Int) ≤ (u : Int) := by omega
      have hu4 : (u : Int) ≤ 512 := by omega
      go_wp2_with fail
      go_loopg [10, 11] (255 * u) (fun g s10 s11 w2 => w2 = wr ∧ ∃ x v f : Nat, x ≤ 255 * u ∧ g = x ∧ s11 = .int .i64 x ∧ s10 = .int .i64 v ∧ V = v + digN f x 256 ∧ x < 2 ^ f)
      case atStart => exact ⟨rfl, 255 * u, 0, 20, Nat.le_refl _, rfl, by have := HU1.out; congr 1; first | done | (push_cast; omega), rfl, by have := HV1.out; rw [← this]; simp, by have : (2 : Nat) ^ 20 = 1048576 := rfl; omega⟩
      case round =>
        obtain ⟨rfl, x, v, f, hx, hg, rfl, rfl, hVv, hf⟩ := hrel
        have HG2 := Lib.hid hg
        have HVV := Lib.hid hVv
        have HF := Lib.hid hf
        have hvV : v ≤ 16 := by omega
        clear hg hVv hf
        by_cases hx0 : 0 < x
        · have hxI : (x : Int) > 0 := by omega
          have hxn : (x : Int) ≤ 200000 := by omega
          go_wp2_with fail
          go_roundg (x / 256)
          case measure => have := HG2.out; omega
          case rel =>
            obtain ⟨f', rfl⟩ : ∃ f', f = f' + 1 := by
              cases f with
              | zero => have h := HF.out; simp at h; omega
              | succ f' => exact ⟨f', rfl⟩
            have h := HVV.out
            rw [digN, if_neg (by omega)] at h
            have h2 := HF.out
            rw [Nat.pow_succ] at h2
            exact ⟨rfl, x / 256, v + 1, f', by omega, rfl, by congr 1, by go_num, by omega, by omega⟩
        · have hxI : ¬ (x : Int) > 0 := by omega
          obtain rfl : x = 0 := by omega
          have hVe : v = V := by
            have h := HVV.out
            cases f with
            | zero => simp [digN] at h; omega
            | succ f' => simp [digN] at h; omega
          have HVE := Lib.hid hVe
          clear hVe
          go_wp2_with fail
          go_ret3
          exact shape_mk (by have := HU1.out; rw [HU.out]; first | done | omega) (by rw [HV.out, HVE.out]) (by rw [HV.out, ← HVE.out]; omega) (Below.refl _ _)
theorem rshape_any (n wd : Nat) (w : World) (hw : IsW wd) (h1 : 1 ≤ n) (h64 : n ≤ 64) :
    Calls Tryd.prog 25 #[.int .i64 (n : Int), .int .i64 (wd : Int)] w (ShapePost n wd w) := by
  rcases hw with rfl | rfl | rfl | rfl
  · exact rshape_1 n w h1 h64
  · exact rshape_2 n w h1 h64
  · exact rshape_4 n w h1 h64
  · exact rshape_8 n w h1 h64

end Go.Proofs.YtigedohalangbaaDoor
