/- Texts joined into one: F7A, F7B, F7C, F7D, F7E, F7F, F7G, F7H, F7I, F7J, F7K. -/
import Derived.Test.YtfaonieaagepjaaDoorA4L
import Derived.Test.YtfaonieaagepjaaDoorZG
import Derived.Test.YtfaonieaagepjaaDoorA4K

/- Layer 17: which sets may be, walked. Conditions: none. -/
namespace Go.Proofs.YtfaonieaagepjaaDoor
open Go.RowKit
set_option linter.unusedVariables false
set_option linter.unusedSimpArgs false
/-- A set of few-times signatures. -/
structure Fw where
  n : Int
  la : Int
  h : Int
  k : Int
  a : Int
def Fw.cs (f : Fw) : Array Value := #[.int .i64 f.n, .int .i64 f.la, .int .i64 f.h, .int .i64 f.k, .int .i64 f.a]
def I64 (x : Int) : Prop := -9223372036854775808 ≤ x ∧ x ≤ 9223372036854775807
structure Fw.ok (f : Fw) : Prop where
  n : I64 f.n
  la : I64 f.la
  h : I64 f.h
  k : I64 f.k
  a : I64 f.a
structure Fw.may (f : Fw) : Prop where
  n : f.n = 16 ∨ f.n = 24 ∨ f.n = 32
  la : 1 ≤ f.la ∧ f.la ≤ 22
  h : 1 ≤ f.h ∧ f.h ≤ 9
  lh : (f.la - 1) * f.h ≤ 63
  k : 1 ≤ f.k ∧ f.k ≤ 40
  a : 1 ≤ f.a ∧ f.a ≤ 14
theorem in_yes (n m : Int) (w : World) (h1 : 1 ≤ n) (h2 : n ≤ m) : Calls Tryd.prog 51 #[.int .i64 n, .int .i64 m] w fun e w' => e = .returned (.bool true) ∧ w' = w := by
  go_enter Tryd.func51, Tryd.ntmps51
  go_wp2_with fail
  go_ret
  exact ⟨rfl, rfl⟩
theorem in_no (n m : Int) (w : World) (h : ¬ (1 ≤ n ∧ n ≤ m)) : Calls Tryd.prog 51 #[.int .i64 n, .int .i64 m] w fun e w' => e = .returned (.bool false) ∧ w' = w := by
  go_enter Tryd.func51, Tryd.ntmps51
  by_cases h1 : 1 ≤ n
  · have h2 : ¬ n ≤ m := fun hh => h ⟨h1, hh⟩
    clear h
    go_wp2_with fail
    go_ret
    exact ⟨rfl, rfl⟩
  · clear h
    go_wp2_with fail
    go_ret
    exact ⟨rfl, rfl⟩
theorem mul_bd {a b : Int} (ha : 0 ≤ a ∧ a ≤ 21) (hb : 1 ≤ b ∧ b ≤ 9) : 0 ≤ a * b ∧ a * b ≤ 189 := by
  constructor
  · exact Int.mul_nonneg ha.1 (by omega)
  · exact Int.le_trans (Int.mul_le_mul ha.2 hb.2 (by omega) (by decide)) (by decide)
set_option maxRecDepth 100000 in
set_option maxHeartbeats 4000000 in
theorem may_yes (f : Fw) (w : World) (hf : f.ok) (hm : f.may) : Calls Tryd.prog 19 #[.agg f.cs] w fun e w' => e = .returned (.bool true) ∧ Below w.heap.size w w' := by
  obtain ⟨n, la, h, k, a⟩ := f
  obtain ⟨on, ola, oh, ok, oa⟩ := hf
  dsimp only at on ola oh ok oa
  unfold I64 at on ola oh ok oa
  have hX := Blk.new w 23 (Fw.cs ⟨n, la, h, k, a⟩)
  have hK := bal (Below.refl w.heap.size w) (Nat.le_refl _) (.cells (Fw.cs ⟨n, la, h, k, a⟩) 23)
  go_enter Tryd.func19, Tryd.ntmps19
  go_upto_region 1 with fail
  change Code.wp _ _ _ _ (w.alloc (.cells (Fw.cs ⟨n, la, h, k, a⟩) 23))
  generalize w.alloc (.cells (Fw.cs ⟨n, la, h, k, a⟩) 23) = w0 at hX hK ⊢
  have h0 := hX.cell 0 (.int .i64 n) rfl
  have h1 := hX.cell 1 (.int .i64 la) rfl
  have h2 := hX.cell 2 (.int .i64 h) rfl
  have h3 := hX.cell 3 (.int .i64 k) rfl
  have h4 := hX.cell 4 (.int .i64 a) rfl
  clear hX
  obtain ⟨hn, hla, hh, hlh, hk, ha⟩ := hm
  dsimp only at hn hla hh hlh hk ha
  have hm := mul_bd (a := la - 1) (b := h) (by omega) (by omega)
  rcases hn with hn | hn | hn
  · subst hn
    go_wp2_with (first | (with_reducible refine (in_yes la 22 _ (by omega) (by omega)).mono ?_; rintro e w9 ⟨rfl, hw9⟩; subst hw9) | (with_reducible refine (in_yes h 9 _ (by omega) (by omega)).mono ?_; rintro e w9 ⟨rfl, hw9⟩; subst hw9) | (with_reducible refine (in_yes k 40 _ (by omega) (by omega)).mono ?_; rintro e w9 ⟨rfl, hw9⟩; subst hw9) | (with_reducible refine (in_yes a 14 _ (by omega) (by omega)).mono ?_; rintro e w9 ⟨rfl, hw9⟩; subst hw9))
    go_ret
    exact ⟨rfl, hK⟩
  · subst hn
    go_wp2_with (first | (with_reducible refine (in_yes la 22 _ (by omega) (by omega)).mono ?_; rintro e w9 ⟨rfl, hw9⟩; subst hw9) | (with_reducible refine (in_yes h 9 _ (by omega) (by omega)).mono ?_; rintro e w9 ⟨rfl, hw9⟩; subst hw9) | (with_reducible refine (in_yes k 40 _ (by omega) (by omega)).mono ?_; rintro e w9 ⟨rfl, hw9⟩; subst hw9) | (with_reducible refine (in_yes a 14 _ (by omega) (by omega)).mono ?_; rintro e w9 ⟨rfl, hw9⟩; subst hw9))
    go_ret
    exact ⟨rfl, hK⟩
  · subst hn
    go_wp2_with (first | (with_reducible refine (in_yes la 22 _ (by omega) (by omega)).mono ?_; rintro e w9 ⟨rfl, hw9⟩; subst hw9) | (with_reducible refine (in_yes h 9 _ (by omega) (by omega)).mono ?_; rintro e w9 ⟨rfl, hw9⟩; subst hw9) | (with_reducible refine (in_yes k 40 _ (by omega) (by omega)).mono ?_; rintro e w9 ⟨rfl, hw9⟩; subst hw9) | (with_reducible refine (in_yes a 14 _ (by omega) (by omega)).mono ?_; rintro e w9 ⟨rfl, hw9⟩; subst hw9))
    go_ret
    exact ⟨rfl, hK⟩
set_option maxRecDepth 100000 in
set_option maxHeartbeats 4000000 in
theorem may_no (f : Fw) (w : World) (hf : f.ok) (hm : ¬ f.may) : Calls Tryd.prog 19 #[.agg f.cs] w fun e w' => e = .returned (.bool false) ∧ Below w.heap.size w w' := by
  obtain ⟨n, la, h, k, a⟩ := f
  obtain ⟨on, ola, oh, ok, oa⟩ := hf
  dsimp only at on ola oh ok oa
  unfold I64 at on ola oh ok oa
  have hX := Blk.new w 23 (Fw.cs ⟨n, la, h, k, a⟩)
  have hK := bal (Below.refl w.heap.size w) (Nat.le_refl _) (.cells (Fw.cs ⟨n, la, h, k, a⟩) 23)
  go_enter Tryd.func19, Tryd.ntmps19
  go_upto_region 1 with fail
  change Code.wp _ _ _ _ (w.alloc (.cells (Fw.cs ⟨n, la, h, k, a⟩) 23))
  generalize w.alloc (.cells (Fw.cs ⟨n, la, h, k, a⟩) 23) = w0 at hX hK ⊢
  have h0 := hX.cell 0 (.int .i64 n) rfl
  have h1 := hX.cell 1 (.int .i64 la) rfl
  have h2 := hX.cell 2 (.int .i64 h) rfl
  have h3 := hX.cell 3 (.int .i64 k) rfl
  have h4 := hX.cell 4 (.int .i64 a) rfl
  clear hX
  have hno : ¬ Fw.may ⟨n, la, h, k, a⟩ := hm
  clear hm
  by_cases hn : n = 16 ∨ n = 24 ∨ n = 32
  · have hno2 : ¬ ((1 ≤ la ∧ la ≤ 22) ∧ (1 ≤ h ∧ h ≤ 9) ∧ (la - 1) * h ≤ 63 ∧ (1 ≤ k ∧ k ≤ 40) ∧ (1 ≤ a ∧ a ≤ 14)) := fun hh => hno ⟨hn, hh.1, hh.2.1, hh.2.2.1, hh.2.2.2.1, hh.2.2.2.2⟩
    clear hno
    rcases hn with hn | hn | hn
    · subst hn
      by_cases hla : 1 ≤ la ∧ la ≤ 22
      · by_cases hh : 1 ≤ h ∧ h ≤ 9
        · have hm := mul_bd (a := la - 1) (b := h) (by omega) (by omega)
          by_cases hlh : (la - 1) * h ≤ 63
          · by_cases hk : 1 ≤ k ∧ k ≤ 40
            · by_cases ha : 1 ≤ a ∧ a ≤ 14
              · exact absurd ⟨hla, hh, hlh, hk, ha⟩ hno2
              · go_wp2_with (first | (with_reducible refine (in_yes la 22 _ (by omega) (by omega)).mono ?_; rintro e w9 ⟨rfl, hw9⟩; subst hw9) | (with_reducible refine (in_yes h 9 _ (by omega) (by omega)).mono ?_; rintro e w9 ⟨rfl, hw9⟩; subst hw9) | (with_reducible refine (in_yes k 40 _ (by omega) (by omega)).mono ?_; rintro e w9 ⟨rfl, hw9⟩; subst hw9) | (with_reducible refine (in_no a 14 _ (by omega)).mono ?_; rintro e w9 ⟨rfl, hw9⟩; subst hw9))
                go_ret
                exact ⟨rfl, hK⟩
            · go_wp2_with (first | (with_reducible refine (in_yes la 22 _ (by omega) (by omega)).mono ?_; rintro e w9 ⟨rfl, hw9⟩; subst hw9) | (with_reducible refine (in_yes h 9 _ (by omega) (by omega)).mono ?_; rintro e w9 ⟨rfl, hw9⟩; subst hw9) | (with_reducible refine (in_no k 40 _ (by omega)).mono ?_; rintro e w9 ⟨rfl, hw9⟩; subst hw9))
              go_ret
              exact ⟨rfl, hK⟩
          · go_wp2_with (first | (with_reducible refine (in_yes la 22 _ (by omega) (by omega)).mono ?_; rintro e w9 ⟨rfl, hw9⟩; subst hw9) | (with_reducible refine (in_yes h 9 _ (by omega) (by omega)).mono ?_; rintro e w9 ⟨rfl, hw9⟩; subst hw9))
            go_ret
            exact ⟨rfl, hK⟩
        · go_wp2_with (first | (with_reducible refine (in_yes la 22 _ (by omega) (by omega)).mono ?_; rintro e w9 ⟨rfl, hw9⟩; subst hw9) | (with_reducible refine (in_no h 9 _ (by omega)).mono ?_; rintro e w9 ⟨rfl, hw9⟩; subst hw9))
          go_ret
          exact ⟨rfl, hK⟩
      · go_wp2_with (first | (with_reducible refine (in_no la 22 _ (by omega)).mono ?_; rintro e w9 ⟨rfl, hw9⟩; subst hw9))
        go_ret
        exact ⟨rfl, hK⟩
    · subst hn
      by_cases hla : 1 ≤ la ∧ la ≤ 22
      · by_cases hh : 1 ≤ h ∧ h ≤ 9
        · have hm := mul_bd (a := la - 1) (b := h) (by omega) (by omega)
          by_cases hlh : (la - 1) * h ≤ 63
          · by_cases hk : 1 ≤ k ∧ k ≤ 40
            · by_cases ha : 1 ≤ a ∧ a ≤ 14
              · exact absurd ⟨hla, hh, hlh, hk, ha⟩ hno2
              · go_wp2_with (first | (with_reducible refine (in_yes la 22 _ (by omega) (by omega)).mono ?_; rintro e w9 ⟨rfl, hw9⟩; subst hw9) | (with_reducible refine (in_yes h 9 _ (by omega) (by omega)).mono ?_; rintro e w9 ⟨rfl, hw9⟩; subst hw9) | (with_reducible refine (in_yes k 40 _ (by omega) (by omega)).mono ?_; rintro e w9 ⟨rfl, hw9⟩; subst hw9) | (with_reducible refine (in_no a 14 _ (by omega)).mono ?_; rintro e w9 ⟨rfl, hw9⟩; subst hw9))
                go_ret
                exact ⟨rfl, hK⟩
            · go_wp2_with (first | (with_reducible refine (in_yes la 22 _ (by omega) (by omega)).mono ?_; rintro e w9 ⟨rfl, hw9⟩; subst hw9) | (with_reducible refine (in_yes h 9 _ (by omega) (by omega)).mono ?_; rintro e w9 ⟨rfl, hw9⟩; subst hw9) | (with_reducible refine (in_no k 40 _ (by omega)).mono ?_; rintro e w9 ⟨rfl, hw9⟩; subst hw9))
              go_ret
              exact ⟨rfl, hK⟩
          · go_wp2_with (first | (with_reducible refine (in_yes la 22 _ (by omega) (by omega)).mono ?_; rintro e w9 ⟨rfl, hw9⟩; subst hw9) | (with_reducible refine (in_yes h 9 _ (by omega) (by omega)).mono ?_; rintro e w9 ⟨rfl, hw9⟩; subst hw9))
            go_ret
            exact ⟨rfl, hK⟩
        · go_wp2_with (first | (with_reducible refine (in_yes la 22 _ (by omega) (by omega)).mono ?_; rintro e w9 ⟨rfl, hw9⟩; subst hw9) | (with_reducible refine (in_no h 9 _ (by omega)).mono ?_; rintro e w9 ⟨rfl, hw9⟩; subst hw9))
          go_ret
          exact ⟨rfl, hK⟩
      · go_wp2_with (first | (with_reducible refine (in_no la 22 _ (by omega)).mono ?_; rintro e w9 ⟨rfl, hw9⟩; subst hw9))
        go_ret
        exact ⟨rfl, hK⟩
    · subst hn
      by_cases hla : 1 ≤ la ∧ la ≤ 22
      · by_cases hh : 1 ≤ h ∧ h ≤ 9
        · have hm := mul_bd (a := la - 1) (b := h) (by omega) (by omega)
          by_cases hlh : (la - 1) * h ≤ 63
          · by_cases hk : 1 ≤ k ∧ k ≤ 40
            · by_cases ha : 1 ≤ a ∧ a ≤ 14
              · exact absurd ⟨hla, hh, hlh, hk, ha⟩ hno2
              · go_wp2_with (first | (with_reducible refine (in_yes la 22 _ (by omega) (by omega)).mono ?_; rintro e w9 ⟨rfl, hw9⟩; subst hw9) | (with_reducible refine (in_yes h 9 _ (by omega) (by omega)).mono ?_; rintro e w9 ⟨rfl, hw9⟩; subst hw9) | (with_reducible refine (in_yes k 40 _ (by omega) (by omega)).mono ?_; rintro e w9 ⟨rfl, hw9⟩; subst hw9) | (with_reducible refine (in_no a 14 _ (by omega)).mono ?_; rintro e w9 ⟨rfl, hw9⟩; subst hw9))
                go_ret
                exact ⟨rfl, hK⟩
            · go_wp2_with (first | (with_reducible refine (in_yes la 22 _ (by omega) (by omega)).mono ?_; rintro e w9 ⟨rfl, hw9⟩; subst hw9) | (with_reducible refine (in_yes h 9 _ (by omega) (by omega)).mono ?_; rintro e w9 ⟨rfl, hw9⟩; subst hw9) | (with_reducible refine (in_no k 40 _ (by omega)).mono ?_; rintro e w9 ⟨rfl, hw9⟩; subst hw9))
              go_ret
              exact ⟨rfl, hK⟩
          · go_wp2_with (first | (with_reducible refine (in_yes la 22 _ (by omega) (by omega)).mono ?_; rintro e w9 ⟨rfl, hw9⟩; subst hw9) | (with_reducible refine (in_yes h 9 _ (by omega) (by omega)).mono ?_; rintro e w9 ⟨rfl, hw9⟩; subst hw9))
            go_ret
            exact ⟨rfl, hK⟩
        · go_wp2_with (first | (with_reducible refine (in_yes la 22 _ (by omega) (by omega)).mono ?_; rintro e w9 ⟨rfl, hw9⟩; subst hw9) | (with_reducible refine (in_no h 9 _ (by omega)).mono ?_; rintro e w9 ⟨rfl, hw9⟩; subst hw9))
          go_ret
          exact ⟨rfl, hK⟩
      · go_wp2_with (first | (with_reducible refine (in_no la 22 _ (by omega)).mono ?_; rintro e w9 ⟨rfl, hw9⟩; subst hw9))
        go_ret
        exact ⟨rfl, hK⟩
  · clear hno
    have n1 : ¬ n = 16 := by omega
    have n2 : ¬ n = 24 := by omega
    have n3 : ¬ n = 32 := by omega
    have m1 : (n != 16) = true := by simp [n1]
    have m2 : (n != 24) = true := by simp [n2]
    have m3 : (n != 32) = true := by simp [n3]
    clear hn
    go_wp2_with fail
    go_ret
    exact ⟨by first | rfl | (simp; omega), hK⟩
set_option maxRecDepth 100000 in
set_option maxHeartbeats 4000000 in
theorem rmay_yes (f : Fw) (w : World) (hf : f.ok) (hm : f.may) : Calls Tryd.prog 17 #[.agg f.cs] w fun e w' => e = .returned (.bool true) ∧ Below w.heap.size w w' := by
  obtain ⟨n, la, h, k, a⟩ := f
  obtain ⟨on, ola, oh, ok, oa⟩ := hf
  dsimp only at on ola oh ok oa
  unfold I64 at on ola oh ok oa
  have hX := Blk.new w 23 (Fw.cs ⟨n, la, h, k, a⟩)
  have hK := bal (Below.refl w.heap.size w) (Nat.le_refl _) (.cells (Fw.cs ⟨n, la, h, k, a⟩) 23)
  go_enter Tryd.func17, Tryd.ntmps17
  go_upto_region 1 with fail
  change Code.wp _ _ _ _ (w.alloc (.cells (Fw.cs ⟨n, la, h, k, a⟩) 23))
  generalize w.alloc (.cells (Fw.cs ⟨n, la, h, k, a⟩) 23) = w0 at hX hK ⊢
  have h0 := hX.cell 0 (.int .i64 n) rfl
  have h1 := hX.cell 1 (.int .i64 la) rfl
  have h2 := hX.cell 2 (.int .i64 h) rfl
  have h3 := hX.cell 3 (.int .i64 k) rfl
  have h4 := hX.cell 4 (.int .i64 a) rfl
  clear hX
  obtain ⟨hn, hla, hh, hlh, hk, ha⟩ := hm
  dsimp only at hn hla hh hlh hk ha
  have hm := mul_bd (a := la - 1) (b := h) (by omega) (by omega)
  rcases hn with hn | hn | hn
  · subst hn
    go_wp2_with fail
    go_ret
    exact ⟨by first | rfl | (simp; omega), hK⟩
  · subst hn
    go_wp2_with fail
    go_ret
    exact ⟨by first | rfl | (simp; omega), hK⟩
  · subst hn
    go_wp2_with fail
    go_ret
    exact ⟨by first | rfl | (simp; omega), hK⟩
set_option maxRecDepth 100000 in
set_option maxHeartbeats 4000000 in
theorem rmay_no (f : Fw) (w : World) (hf : f.ok) (hm : ¬ f.may) : Calls Tryd.prog 17 #[.agg f.cs] w fun e w' => e = .returned (.bool false) ∧ Below w.heap.size w w' := by
  obtain ⟨n, la, h, k, a⟩ := f
  obtain ⟨on, ola, oh, ok, oa⟩ := hf
  dsimp only at on ola oh ok oa
  unfold I64 at on ola oh ok oa
  have hX := Blk.new w 23 (Fw.cs ⟨n, la, h, k, a⟩)
  have hK := bal (Below.refl w.heap.size w) (Nat.le_refl _) (.cells (Fw.cs ⟨n, la, h, k, a⟩) 23)
  go_enter Tryd.func17, Tryd.ntmps17
  go_upto_region 1 with fail
  change Code.wp _ _ _ _ (w.alloc (.cells (Fw.cs ⟨n, la, h, k, a⟩) 23))
  generalize w.alloc (.cells (Fw.cs ⟨n, la, h, k, a⟩) 23) = w0 at hX hK ⊢
  have h0 := hX.cell 0 (.int .i64 n) rfl
  have h1 := hX.cell 1 (.int .i64 la) rfl
  have h2 := hX.cell 2 (.int .i64 h) rfl
  have h3 := hX.cell 3 (.int .i64 k) rfl
  have h4 := hX.cell 4 (.int .i64 a) rfl
  clear hX
  have hno : ¬ Fw.may ⟨n, la, h, k, a⟩ := hm
  clear hm
  by_cases hn : n = 16 ∨ n = 24 ∨ n = 32
  · have hno2 : ¬ ((1 ≤ la ∧ la ≤ 22) ∧ (1 ≤ h ∧ h ≤ 9) ∧ (la - 1) * h ≤ 63 ∧ (1 ≤ k ∧ k ≤ 40) ∧ (1 ≤ a ∧ a ≤ 14)) := fun hh => hno ⟨hn, hh.1, hh.2.1, hh.2.2.1, hh.2.2.2.1, hh.2.2.2.2⟩
    clear hno
    rcases hn with hn | hn | hn
    · subst hn
      by_cases hla : 1 ≤ la ∧ la ≤ 22
      · by_cases hh : 1 ≤ h ∧ h ≤ 9
        · have hm := mul_bd (a := la - 1) (b := h) (by omega) (by omega)
          by_cases hlh : (la - 1) * h ≤ 63
          · by_cases hk : 1 ≤ k ∧ k ≤ 40
            · by_cases ha : 1 ≤ a ∧ a ≤ 14
              · exact absurd ⟨hla, hh, hlh, hk, ha⟩ hno2
              · by_cases hlo : 0 < a
                · have hup : ¬ a < 15 := by omega
                  go_wp2_with fail
                  go_ret
                  exact ⟨by first | rfl | (simp; omega), hK⟩
                · go_wp2_with fail
                  go_ret
                  exact ⟨by first | rfl | (simp; omega), hK⟩
            · by_cases hlo : 0 < k
              · have hup : ¬ k < 41 := by omega
                go_wp2_with fail
                go_ret
                exact ⟨by first | rfl | (simp; omega), hK⟩
              · go_wp2_with fail
                go_ret
                exact ⟨by first | rfl | (simp; omega), hK⟩
          · go_wp2_with fail
            go_ret
            exact ⟨by first | rfl | (simp; omega), hK⟩
        · by_cases hlo : 0 < h
          · have hup : ¬ h < 10 := by omega
            go_wp2_with fail
            go_ret
            exact ⟨by first | rfl | (simp; omega), hK⟩
          · go_wp2_with fail
            go_ret
            exact ⟨by first | rfl | (simp; omega), hK⟩
      · by_cases hlo : 0 < la
        · have hup : ¬ la < 23 := by omega
          go_wp2_with fail
          go_ret
          exact ⟨by first | rfl | (simp; omega), hK⟩
        · go_wp2_with fail
          go_ret
          exact ⟨by first | rfl | (simp; omega), hK⟩
    · subst hn
      by_cases hla : 1 ≤ la ∧ la ≤ 22
      · by_cases hh : 1 ≤ h ∧ h ≤ 9
        · have hm := mul_bd (a := la - 1) (b := h) (by omega) (by omega)
          by_cases hlh : (la - 1) * h ≤ 63
          · by_cases hk : 1 ≤ k ∧ k ≤ 40
            · by_cases ha : 1 ≤ a ∧ a ≤ 14
              · exact absurd ⟨hla, hh, hlh, hk, ha⟩ hno2
              · by_cases hlo : 0 < a
                · have hup : ¬ a < 15 := by omega
                  go_wp2_with fail
                  go_ret
                  exact ⟨by first | rfl | (simp; omega), hK⟩
                · go_wp2_with fail
                  go_ret
                  exact ⟨by first | rfl | (simp; omega), hK⟩
            · by_cases hlo : 0 < k
              · have hup : ¬ k < 41 := by omega
                go_wp2_with fail
                go_ret
                exact ⟨by first | rfl | (simp; omega), hK⟩
              · go_wp2_with fail
                go_ret
                exact ⟨by first | rfl | (simp; omega), hK⟩
          · go_wp2_with fail
            go_ret
            exact ⟨by first | rfl | (simp; omega), hK⟩
        · by_cases hlo : 0 < h
          · have hup : ¬ h < 10 := by omega
            go_wp2_with fail
            go_ret
            exact ⟨by first | rfl | (simp; omega), hK⟩
          · go_wp2_with fail
            go_ret
            exact ⟨by first | rfl | (simp; omega), hK⟩
      · by_cases hlo : 0 < la
        · have hup : ¬ la < 23 := by omega
          go_wp2_with fail
          go_ret
          exact ⟨by first | rfl | (simp; omega), hK⟩
        · go_wp2_with fail
          go_ret
          exact ⟨by first | rfl | (simp; omega), hK⟩
    · subst hn
      by_cases hla : 1 ≤ la ∧ la ≤ 22
      · by_cases hh : 1 ≤ h ∧ h ≤ 9
        · have hm := mul_bd (a := la - 1) (b := h) (by omega) (by omega)
          by_cases hlh : (la - 1) * h ≤ 63
          · by_cases hk : 1 ≤ k ∧ k ≤ 40
            · by_cases ha : 1 ≤ a ∧ a ≤ 14
              · exact absurd ⟨hla, hh, hlh, hk, ha⟩ hno2
              · by_cases hlo : 0 < a
                · have hup : ¬ a < 15 := by omega
                  go_wp2_with fail
                  go_ret
                  exact ⟨by first | rfl | (simp; omega), hK⟩
                · go_wp2_with fail
                  go_ret
                  exact ⟨by first | rfl | (simp; omega), hK⟩
            · by_cases hlo : 0 < k
              · have hup : ¬ k < 41 := by omega
                go_wp2_with fail
                go_ret
                exact ⟨by first | rfl | (simp; omega), hK⟩
              · go_wp2_with fail
                go_ret
                exact ⟨by first | rfl | (simp; omega), hK⟩
          · go_wp2_with fail
            go_ret
            exact ⟨by first | rfl | (simp; omega), hK⟩
        · by_cases hlo : 0 < h
          · have hup : ¬ h < 10 := by omega
            go_wp2_with fail
            go_ret
            exact ⟨by first | rfl | (simp; omega), hK⟩
          · go_wp2_with fail
            go_ret
            exact ⟨by first | rfl | (simp; omega), hK⟩
      · by_cases hlo : 0 < la
        · have hup : ¬ la < 23 := by omega
          go_wp2_with fail
          go_ret
          exact ⟨by first | rfl | (simp; omega), hK⟩
        · go_wp2_with fail
          go_ret
          exact ⟨by first | rfl | (simp; omega), hK⟩
  · clear hno
    have n1 : ¬ n = 16 := by omega
    have n2 : ¬ n = 24 := by omega
    have n3 : ¬ n = 32 := by omega
    have m1 : (n != 16) = true := by simp [n1]
    have m2 : (n != 24) = true := by simp [n2]
    have m3 : (n != 32) = true := by simp [n3]
    clear hn
    go_wp2_with fail
    go_ret
    exact ⟨by first | rfl | (simp; omega), hK⟩
end Go.Proofs.YtfaonieaagepjaaDoor

/- Layer 17: sums at an address of a place, secrets, the sums of a tree, walked. Conditions: small lengths, words of their kinds, the tables. -/
namespace Go.Proofs.YtfaonieaagepjaaDoor
open Go.RowKit
set_option linter.unusedVariables false
set_option linter.unusedSimpArgs false
def U64 (x : Int) : Prop := 0 ≤ x ∧ x < 18446744073709551616
theorem W32.z : W32 0 := ⟨by decide, by decide⟩
def plc (f : Fw) (A : Option Addr) (n c : Nat) (tree q : Int) : Array Value := #[.int .i64 f.n, .int .i64 f.la, .int .i64 f.h, .int .i64 f.k, .int .i64 f.a, .slice A n c, .int .u64 tree, .int .u32 q]
/-- A sum at an address of the place. -/
def atL (N : Int) (sd : List Int) (tree q kd g i : Int) (x : List Int) : List Int := twO N sd ⟨0, tree, kd, q, g, i⟩ x
theorem atL_len (N : Int) (sd : List Int) (tree q kd g i : Int) (x : List Int) : (atL N sd tree q kd g i x).length ≤ 32 := twO_len _ _ _ _
theorem cat_n (w : World) (A : Option Addr) (c B n M : Nat) (ls : List (List Int)) (hp : Parts w B A ls) (hn : ls.length = n) (hB : B ≤ w.heap.size) (hc : n ≤ c) (hn47 : n ≤ 140737488355328) (hM : ls.flatten.length = M) (hl : M ≤ 140737488355328) :
    Calls Tryd.prog 55 #[.slice A n c] w (OutP w ls.flatten M) := by
  subst hM
  exact cat_any w A c B n ls _ rfl hp hn hB hc hn47 hl
set_option maxRecDepth 100000 in
set_option maxHeartbeats 2000000 in
theorem tweak_any (f : Fw) (sd : List Int) (Asd : Option Addr) (nd cd : Nat) (tree q kd g i : Int) (ls : List (List Int)) (A : Option Addr) (m c M B : Nat) (w : World) (ht : U64 tree) (hq : W32 q) (hkd : W32 kd) (hg : W32 g) (hi : W32 i)
    (h1 : Rd w w.heap.size .u8 Asd sd) (hn1 : sd.length = nd) (hc1 : nd ≤ cd) (hb1 : Bys sd) (hP : Parts w B A ls) (hB : B ≤ w.heap.size) (hm : ls.length = m) (hmc : m ≤ c) (hm47 : m ≤ 1000) (hls : ls.flatten.length ≤ 200000) (hbl : Bys ls.flatten) (hT : KTab w) (hM : (atL f.n sd tree q kd g i ls.flatten).length = M) :
    Calls Tryd.prog 47 #[.agg (plc f Asd nd cd tree q), .int .u32 kd, .int .u32 g, .int .u32 i, .slice A m c] w (OutR w (atL f.n sd tree q kd g i ls.flatten) M) := by
  obtain ⟨T, hTT⟩ : ∃ T, ls.flatten = T := ⟨_, rfl⟩
  rw [hTT] at hls hbl hM ⊢
  obtain ⟨nT, hnT⟩ : ∃ n, T.length = n := ⟨_, rfl⟩
  rw [hnT] at hls
  have hd : (⟨0, tree, kd, q, g, i⟩ : Ad).ok := ⟨W32.z, ht, hkd, hq, hg, hi⟩
  have hX := Blk.new w 67 (plc f Asd nd cd tree q)
  have hK := bal (Below.refl w.heap.size w) (Nat.le_refl _) (.cells (plc f Asd nd cd tree q) 67)
  have hPl := hP
  go_enter Tryd.func47, Tryd.ntmps47
  go_upto_region 1 with fail
  change Code.wp _ _ _ _ (w.alloc (.cells (plc f Asd nd cd tree q) 67))
  generalize w.alloc (.cells (plc f Asd nd cd tree q) 67) = w0 at hX hK ⊢
  have h0 := hX.cell 0 (.int .i64 f.n) rfl
  have h5 := hX.cell 5 (.slice Asd nd cd) rfl
  have h6 := hX.cell 6 (.int .u64 tree) rfl
  have h7 := hX.cell 7 (.int .u32 q) rfl
  have hl0 := hX.lt
  have hl5 := hl0
  have hl6 := hl0
  have hl7 := hl0
  clear hX
  refine Ls.start (fun w' => w'.cell? ⟨w.heap.size, 0, none⟩ = some (.int .i64 f.n) ∧ w'.cell? ⟨w.heap.size, 5, none⟩ = some (.slice Asd nd cd) ∧ w'.cell? ⟨w.heap.size, 6, none⟩ = some (.int .u64 tree) ∧ w'.cell? ⟨w.heap.size, 7, none⟩ = some (.int .u32 q)) [(0, true), (1, true), (2, true), (3, true), (4, true), (5, true), (6, true), (7, true), (8, true), (9, true), (10, true), (11, true), (12, true), (13, true), (14, false), (15, false), (16, true)] (by kernel_rfl) (by kernel_rfl) (by kernel_rfl) (by kernel_rfl) ⟨h0, h5, h6, h7⟩ ?_
  (refine Ls.val ?_ rfl (fun _ _ _ h => h) (by kernel_rfl) ?_ ?_; rotate_left 1; focus (intro w hw; go_simp; with_reducible rfl)); (try simp (config := {maxSteps := 2000000}) only [Act.put, List.getElem_toArray, List.getElem_cons_succ, List.getElem_cons_zero, List.setIfInBounds_toArray, List.set_cons_zero, List.set_cons_succ])
  (refine Ls.val ?_ rfl (fun _ _ _ h => h) (by kernel_rfl) ?_ ?_; rotate_left 1; focus (intro w hw; go_simp; with_reducible rfl)); (try simp (config := {maxSteps := 2000000}) only [Act.put, List.getElem_toArray, List.getElem_cons_succ, List.getElem_cons_zero, List.setIfInBounds_toArray, List.set_cons_zero, List.set_cons_succ])
  (refine Ls.val ?_ rfl (fun _ _ _ h => h) (by kernel_rfl) ?_ ?_; rotate_left 1; focus (intro w hw; have hcell := hw.1; go_simp; with_reducible rfl)); (try simp (config := {maxSteps := 2000000}) only [Act.put, List.getElem_toArray, List.getElem_cons_succ, List.getElem_cons_zero, List.setIfInBounds_toArray, List.set_cons_zero, List.set_cons_succ])
  (refine Ls.val ?_ rfl (fun _ _ _ h => h) (by kernel_rfl) ?_ ?_; rotate_left 1; focus (intro w hw; go_simp; with_reducible rfl)); (try simp (config := {maxSteps := 2000000}) only [Act.put, List.getElem_toArray, List.getElem_cons_succ, List.getElem_cons_zero, List.setIfInBounds_toArray, List.set_cons_zero, List.set_cons_succ])
  (refine Ls.val ?_ rfl (fun _ _ _ h => h) (by kernel_rfl) ?_ ?_; rotate_left 1; focus (intro w hw; have hcell := hw.2.1; go_simp; with_reducible rfl)); (try simp (config := {maxSteps := 2000000}) only [Act.put, List.getElem_toArray, List.getElem_cons_succ, List.getElem_cons_zero, List.setIfInBounds_toArray, List.set_cons_zero, List.set_cons_succ])
  (refine Ls.val ?_ rfl (fun _ _ _ h => h) (by kernel_rfl) ?_ ?_; rotate_left 1; focus (intro w hw; go_simp; with_reducible rfl)); (try simp (config := {maxSteps := 2000000}) only [Act.put, List.getElem_toArray, List.getElem_cons_succ, List.getElem_cons_zero, List.setIfInBounds_toArray, List.set_cons_zero, List.set_cons_succ])
  (refine Ls.val ?_ rfl (fun _ _ _ h => h) (by kernel_rfl) ?_ ?_; rotate_left 1; focus (intro w hw; have hcell := hw.2.2.1; go_simp; with_reducible rfl)); (try simp (config := {maxSteps := 2000000}) only [Act.put, List.getElem_toArray, List.getElem_cons_succ, List.getElem_cons_zero, List.setIfInBounds_toArray, List.set_cons_zero, List.set_cons_succ])
  (refine Ls.val ?_ rfl (fun _ _ _ h => h) (by kernel_rfl) ?_ ?_; rotate_left 1; focus (intro w hw; go_simp; with_reducible rfl)); (try simp (config := {maxSteps := 2000000}) only [Act.put, List.getElem_toArray, List.getElem_cons_succ, List.getElem_cons_zero, List.setIfInBounds_toArray, List.set_cons_zero, List.set_cons_succ])
  (refine Ls.val ?_ rfl (fun _ _ _ h => h) (by kernel_rfl) ?_ ?_; rotate_left 1; focus (intro w hw; go_simp; with_reducible rfl)); (try simp (config := {maxSteps := 2000000}) only [Act.put, List.getElem_toArray, List.getElem_cons_succ, List.getElem_cons_zero, List.setIfInBounds_toArray, List.set_cons_zero, List.set_cons_succ])
  (refine Ls.val ?_ rfl (fun _ _ _ h => h) (by kernel_rfl) ?_ ?_; rotate_left 1; focus (intro w hw; have hcell := hw.2.2.2; go_simp; with_reducible rfl)); (try simp (config := {maxSteps := 2000000}) only [Act.put, List.getElem_toArray, List.getElem_cons_succ, List.getElem_cons_zero, List.setIfInBounds_toArray, List.set_cons_zero, List.set_cons_succ])
  (refine Ls.val ?_ rfl (fun _ _ _ h => h) (by kernel_rfl) ?_ ?_; rotate_left 1; focus (intro w hw; go_simp; with_reducible rfl)); (try simp (config := {maxSteps := 2000000}) only [Act.put, List.getElem_toArray, List.getElem_cons_succ, List.getElem_cons_zero, List.setIfInBounds_toArray, List.set_cons_zero, List.set_cons_succ])
  (refine Ls.val ?_ rfl (fun _ _ _ h => h) (by kernel_rfl) ?_ ?_; rotate_left 1; focus (intro w hw; go_simp; with_reducible rfl)); (try simp (config := {maxSteps := 2000000}) only [Act.put, List.getElem_toArray, List.getElem_cons_succ, List.getElem_cons_zero, List.setIfInBounds_toArray, List.set_cons_zero, List.set_cons_succ])
  refine Ls.val (.agg (Ad.cs ⟨0, tree, kd, q, g, i⟩)) rfl (fun _ _ _ h => h) (by kernel_rfl) (fun w hw => by kernel_rfl) ?_; (try simp (config := {maxSteps := 2000000}) only [Act.put, List.getElem_toArray, List.getElem_cons_succ, List.getElem_cons_zero, List.setIfInBounds_toArray, List.set_cons_zero, List.set_cons_succ])
  (refine Ls.val ?_ rfl (fun _ _ _ h => h) (by kernel_rfl) ?_ ?_; rotate_left 1; focus (intro w hw; go_simp; with_reducible rfl)); (try simp (config := {maxSteps := 2000000}) only [Act.put, List.getElem_toArray, List.getElem_cons_succ, List.getElem_cons_zero, List.setIfInBounds_toArray, List.set_cons_zero, List.set_cons_succ])
  have hK1 := bdw hK
  have hc0_1 := cdw h0
  have hl0_1 := (show _ < w0.drew.heap.size from hl0)
  have hc5_1 := cdw h5
  have hl5_1 := (show _ < w0.drew.heap.size from hl5)
  have hc6_1 := cdw h6
  have hl6_1 := (show _ < w0.drew.heap.size from hl6)
  have hc7_1 := cdw h7
  have hl7_1 := (show _ < w0.drew.heap.size from hl7)
  generalize w0.drew = v1 at hK1 hc0_1 hl0_1 hc5_1 hl5_1 hc6_1 hl6_1 hc7_1 hl7_1 ⊢
  clear hK h0 hl0 h5 hl5 h6 hl6 h7 hl7
  refine Ls.call rfl (by kernel_rfl) (by kernel_rfl) (fun _ => (cat_n v1 A c B m nT ls (hPl.below (hK1.mono hB)) hm (Nat.le_trans hB hK1.size) hmc (by omega) (by rw [hTT]; exact hnT) (by omega)).mono ?_)
  rintro e v2 ⟨A2, c2, rfl, hF2, hb2⟩
  have hK2 := bnx hK1 hb2 hK1.size
  have hc0_2 := cell_bel hc0_1 hb2 hl0_1
  have hl0_2 := Nat.lt_of_lt_of_le hl0_1 hb2.size
  have hc5_2 := cell_bel hc5_1 hb2 hl5_1
  have hl5_2 := Nat.lt_of_lt_of_le hl5_1 hb2.size
  have hc6_2 := cell_bel hc6_1 hb2 hl6_1
  have hl6_2 := Nat.lt_of_lt_of_le hl6_1 hb2.size
  have hc7_2 := cell_bel hc7_1 hb2 hl7_1
  have hl7_2 := Nat.lt_of_lt_of_le hl7_1 hb2.size
  have hcT : nT ≤ c2 := by have := hF2.cap; rw [hTT, hnT] at this; exact this
  have hAT : A2 = A2 := rfl
  refine ⟨_, rfl, ⟨hc0_2, hc5_2, hc6_2, hc7_2⟩, ?_⟩
  (try simp (config := {maxSteps := 2000000}) only [Act.put, List.getElem_toArray, List.getElem_cons_succ, List.getElem_cons_zero, List.setIfInBounds_toArray, List.set_cons_zero, List.set_cons_succ])
  have hRT := (hTT ▸ hF2.rd)
  have hBT_2 := Below.refl v2.heap.size v2
  clear hK1 hc0_1 hl0_1 hc5_1 hl5_1 hc6_1 hl6_1 hc7_1 hl7_1 hb2 hF2
  refine Ls.call rfl (by kernel_rfl) (by kernel_rfl) (fun _ => (tw_o f.n sd ⟨0, tree, kd, q, g, i⟩ T Asd A2 nd cd nT c2 M v2 hd (h1.bel hK2) hn1 hc1 hb1 (hRT.bel hBT_2) hnT hcT hbl (by omega) (hT.bel hK2) hM).mono ?_)
  rintro e v3 ⟨A3, c3, rfl, hF3, hh3, hb3⟩
  have hK3 := bnx hK2 hb3 hK2.size
  have hBT_3 := bnx hBT_2 hb3 hBT_2.size
  have hc0_3 := cell_bel hc0_2 hb3 hl0_2
  have hl0_3 := Nat.lt_of_lt_of_le hl0_2 hb3.size
  have hc5_3 := cell_bel hc5_2 hb3 hl5_2
  have hl5_3 := Nat.lt_of_lt_of_le hl5_2 hb3.size
  have hc6_3 := cell_bel hc6_2 hb3 hl6_2
  have hl6_3 := Nat.lt_of_lt_of_le hl6_2 hb3.size
  have hc7_3 := cell_bel hc7_2 hb3 hl7_2
  have hl7_3 := Nat.lt_of_lt_of_le hl7_2 hb3.size
  refine ⟨_, rfl, ⟨hc0_3, hc5_3, hc6_3, hc7_3⟩, ?_⟩
  (try simp (config := {maxSteps := 2000000}) only [Act.put, List.getElem_toArray, List.getElem_cons_succ, List.getElem_cons_zero, List.setIfInBounds_toArray, List.set_cons_zero, List.set_cons_succ])
  clear hK2 hBT_2 hc0_2 hl0_2 hc5_2 hl5_2 hc6_2 hl6_2 hc7_2 hl7_2 hb3
  (refine Ls.val ?_ rfl (fun _ _ _ h => h) (by kernel_rfl) ?_ ?_; rotate_left 1; focus (intro w hw; go_simp; with_reducible rfl)); (try simp (config := {maxSteps := 2000000}) only [Act.put, List.getElem_toArray, List.getElem_cons_succ, List.getElem_cons_zero, List.setIfInBounds_toArray, List.set_cons_zero, List.set_cons_succ])
  refine Ls.done ?_
  intro _
  go_wp2_with fail
  go_ret
  exact ⟨_, _, rfl, hF3, hh3, hK3⟩
set_option maxRecDepth 100000 in
set_option maxHeartbeats 2000000 in
theorem secret_any (f : Fw) (sec sd : List Int) (Asc Asl Asd : Option Addr) (nsc csc nsl csl nd cd : Nat) (tree q i : Int) (M : Nat) (w : World) (ht : U64 tree) (hq : W32 q) (hi : W32 i) (h1 : Rd w w.heap.size .u8 Asd sd) (hn1 : sd.length = nd) (hc1 : nd ≤ cd) (hb1 : Bys sd) (hsec : Rd w w.heap.size .u8 Asc sec) (hnsc : sec.length = nsc) (hcsc : nsc ≤ csc) (hbsc : Bys sec) (hsm : nsc ≤ 100000) (hT : KTab w) (hM : (atL f.n sd tree q 6 0 i sec).length = M) :
    Calls Tryd.prog 54 #[.agg (plc f Asd nd cd tree q), .agg #[.slice Asc nsc csc, .slice Asl nsl csl, .slice Asd nd cd], .int .u32 i] w (OutR w (atL f.n sd tree q 6 0 i sec) M) := by
  have hX := (Blk.new w 67 (plc f Asd nd cd tree q)).alloc (.cells #[.slice Asc nsc csc, .slice Asl nsl csl, .slice Asd nd cd] 39)
  have hY := Blk.new (w.alloc (.cells (plc f Asd nd cd tree q) 67)) 39 #[.slice Asc nsc csc, .slice Asl nsl csl, .slice Asd nd cd]
  have hK := bal (bal (Below.refl w.heap.size w) (Nat.le_refl _) (.cells (plc f Asd nd cd tree q) 67)) (by simp) (.cells #[.slice Asc nsc csc, .slice Asl nsl csl, .slice Asd nd cd] 39)
  have hz1 : (w.alloc (.cells (plc f Asd nd cd tree q) 67)).heap.size = w.heap.size + 1 := by simp
  go_enter Tryd.func54, Tryd.ntmps54
  go_upto_region 1 with fail
  change Code.wp _ _ _ _ ((w.alloc (.cells (plc f Asd nd cd tree q) 67)).alloc (.cells #[.slice Asc nsc csc, .slice Asl nsl csl, .slice Asd nd cd] 39))
  generalize (w.alloc (.cells (plc f Asd nd cd tree q) 67)).alloc (.cells #[.slice Asc nsc csc, .slice Asl nsl csl, .slice Asd nd cd] 39) = w0 at hX hY hK ⊢
  rw [hz1] at hY
  clear hz1
  have h0 := hY.cell 0 (.slice Asc nsc csc) rfl
  have hl0 := hY.lt
  have hlx := hX.lt
  clear hY
  go_wp2_with (refine wpList_blk_yes (t := 67) (T := 67) (by rfl) rfl rfl Tryd.underlying67 rfl (by kernel_rfl) hX ?_)
  have hP := parts_of (w := w0) (T := 24) [.slice Asc nsc csc] [sec] rfl (fun i hi => match i, hi with | 0, _ => (hsec.bel hK).pt hnsc hcsc | m + 1, h => absurd h (by simp))
  have hz1 : (w0.alloc (.cells #[.slice Asc nsc csc] 24)).heap.size = w0.heap.size + 1 := by simp
  have hK1 := bal hK hK.size (.cells #[.slice Asc nsc csc] 24)
  have hc0_1 := cell_al h0 hl0 (.cells #[.slice Asc nsc csc] 24)
  have hl0_1 := Nat.lt_of_lt_of_le hl0 (al_le w0 (.cells #[.slice Asc nsc csc] 24))
  have hcx_1 := hX.alloc (.cells #[.slice Asc nsc csc] 24)
  have hlx_1 := Nat.lt_of_lt_of_le hlx (al_le w0 (.cells #[.slice Asc nsc csc] 24))
  change Calls _ _ _ (w0.alloc (.cells #[.slice Asc nsc csc] 24)) _
  change Parts (w0.alloc (.cells #[.slice Asc nsc csc] 24)) _ _ _ at hP
  generalize w0.alloc (.cells #[.slice Asc nsc csc] 24) = v1 at hK1 hc0_1 hl0_1 hcx_1 hlx_1 hz1 hP ⊢
  clear hK h0 hl0 hX hlx
  have hfl : [sec].flatten = sec := by simp
  (with_reducible refine (tweak_any f sd Asd nd cd tree q 6 0 i [sec] (some ⟨w0.heap.size, 0, none⟩) 1 1 M (w0.heap.size + 1) v1 ht hq (W32.small (by decide) (by decide)) W32.z hi (h1.bel hK1) hn1 hc1 hb1 hP (by omega) rfl (by decide) (by decide) (by rw [hfl]; omega) (by rw [hfl]; exact hbsc) (hT.bel hK1) (by rw [hfl]; exact hM)).mono ?_)
  rintro e v2 ⟨A2, c2, rfl, hF2, hh2, hb2⟩
  have hK2 := bnx hK1 hb2 hK1.size
  have hc0_2 := cell_bel hc0_1 hb2 hl0_1
  have hl0_2 := Nat.lt_of_lt_of_le hl0_1 hb2.size
  have hcx_2 := hcx_1.below hb2 hlx_1
  have hlx_2 := Nat.lt_of_lt_of_le hlx_1 hb2.size
  clear hK1 hc0_1 hl0_1 hcx_1 hlx_1 hb2
  rw [hfl] at hF2
  go_wp2_with fail
  go_ret
  exact ⟨_, _, rfl, hF2, hh2, hK2⟩
/-- The i-th sum of a height. -/
def sumT (N : Int) (sd sec : List Int) (tree q : Int) : Nat → Int → List Int
  | 0, i => atL N sd tree q 3 0 i (atL N sd tree q 6 0 i sec)
  | g + 1, i => atL N sd tree q 3 ((g + 1 : Nat) : Int) i (sumT N sd sec tree q g ((2 * i) % 4294967296) ++ sumT N sd sec tree q g (((2 * i) % 4294967296 + 1) % 4294967296))
theorem sumT_len (N : Int) (sd sec : List Int) (tree q : Int) (g : Nat) (i : Int) : (sumT N sd sec tree q g i).length ≤ 32 := by
  cases g <;> exact atL_len _ _ _ _ _ _ _ _
theorem giveN_By (s : List Int) : ∀ n, Bys (giveN s n)
  | 0 => Bys.rep 136 ⟨by decide, by decide⟩
  | n + 1 => (giveN_By s n).st n ⟨Int.emod_nonneg _ (by decide), Int.emod_lt_of_pos _ (by decide)⟩
theorem seg_By (S : List Int) (p n : Nat) : Bys (seg S p n) := fun x hx => by
  simp only [seg, List.mem_map, List.mem_range] at hx
  obtain ⟨j, _, rfl⟩ := hx
  exact (giveN_By _ _).gt _
theorem atL_B (N : Int) (sd : List Int) (tree q kd g i : Int) (x : List Int) : Bys (atL N sd tree q kd g i x) := by
  unfold atL twO; split
  · unfold twL; exact seg_By _ _ _
  · exact Bys.nil
theorem sumT_By (N : Int) (sd sec : List Int) (tree q : Int) (g : Nat) (i : Int) : Bys (sumT N sd sec tree q g i) := by
  cases g <;> exact atL_B _ _ _ _ _ _ _ _
theorem sub_one (g : Nat) (hg : g < 1000) : IntKind.u32.wrap (((g + 1 : Nat) : Int) - 1) = (g : Int) := by
  unfold IntKind.wrap
  simp [IntKind.bits, IntKind.signed]
  omega
set_option maxRecDepth 100000 in
set_option maxHeartbeats 4000000 in
theorem sums_fn (f : Fw) (sec sd : List Int) (Asc Asl Asd : Option Addr) (nsc csc nsl csl nd cd : Nat) (tree q : Int) (bp bm bf : Nat) (ht : U64 tree) (hq : W32 q) (hn1 : sd.length = nd) (hc1 : nd ≤ cd) (hb1 : Bys sd) (hnsc : sec.length = nsc) (hcsc : nsc ≤ csc) (hbsc : Bys sec) (hsm : nsc ≤ 100000) :
    ∀ (g : Nat), g ≤ 100 → ∀ (i : Int) (M : Nat) (w : World), W32 i → Rd w w.heap.size .u8 Asd sd → Rd w w.heap.size .u8 Asc sec → KTab w → Blk w bp 67 (plc f Asd nd cd tree q) → Blk w bm 39 #[.slice Asc nsc csc, .slice Asl nsl csl, .slice Asd nd cd] → w.cell? ⟨bf, 0, none⟩ = some (.func (.func 73) #[] #[.pointer (some ⟨bp, 0, none⟩), .pointer (some ⟨bm, 0, none⟩), .pointer (some ⟨bf, 0, none⟩)]) → bf < w.heap.size → (sumT f.n sd sec tree q g i).length = M →
      Calls Tryd.prog 73 #[.int .u32 g, .int .u32 i, .pointer (some ⟨bp, 0, none⟩), .pointer (some ⟨bm, 0, none⟩), .pointer (some ⟨bf, 0, none⟩)] w (OutR w (sumT f.n sd sec tree q g i) M) := by
  intro g
  induction g with
  | zero =>
    intro hg i M w hi h1 hsec hT hXp hXm hcf hlf hM
    have hlp := hXp.lt
    have hlm := hXm.lt
    have hK := Below.refl w.heap.size w
    obtain ⟨m1, hm1⟩ : ∃ m, (atL f.n sd tree q 6 0 i sec).length = m := ⟨_, rfl⟩
    have hm32 : m1 ≤ 32 := by have := atL_len f.n sd tree q 6 0 i sec; omega
    go_enter Tryd.func73, Tryd.ntmps73
    go_upto_region 2 with fail
    refine Ls.start (fun w' => Blk w' bp 67 (plc f Asd nd cd tree q) ∧ Blk w' bm 39 #[.slice Asc nsc csc, .slice Asl nsl csl, .slice Asd nd cd] ∧ w'.cell? ⟨bf, 0, none⟩ = some (.func (.func 73) #[] #[.pointer (some ⟨bp, 0, none⟩), .pointer (some ⟨bm, 0, none⟩), .pointer (some ⟨bf, 0, none⟩)])) [(0, true), (1, true), (2, true), (3, true), (4, true), (5, false), (6, false), (7, false), (8, true)] (by kernel_rfl) (by kernel_rfl) (by kernel_rfl) (by kernel_rfl) ⟨hXp.drew, hXm.drew, hcf⟩ ?_
    refine Ls.val (.agg (plc f Asd nd cd tree q)) rfl (fun _ _ _ h => h) (by kernel_rfl) (fun w hw => exec_load_row w rfl (by kernel_rfl) Tryd.underlying67 rfl (by kernel_rfl) hw.1) ?_; (try simp (config := {maxSteps := 2000000}) only [Act.put, List.getElem_toArray, List.getElem_cons_succ, List.getElem_cons_zero, List.setIfInBounds_toArray, List.set_cons_zero, List.set_cons_succ])
    (refine Ls.val ?_ rfl (fun _ _ _ h => h) (by kernel_rfl) ?_ ?_; rotate_left 1; focus (intro w hw; go_simp; with_reducible rfl)); (try simp (config := {maxSteps := 2000000}) only [Act.put, List.getElem_toArray, List.getElem_cons_succ, List.getElem_cons_zero, List.setIfInBounds_toArray, List.set_cons_zero, List.set_cons_succ])
    refine Ls.val (.agg (plc f Asd nd cd tree q)) rfl (fun _ _ _ h => h) (by kernel_rfl) (fun w hw => exec_load_row w rfl (by kernel_rfl) Tryd.underlying67 rfl (by kernel_rfl) hw.1) ?_; (try simp (config := {maxSteps := 2000000}) only [Act.put, List.getElem_toArray, List.getElem_cons_succ, List.getElem_cons_zero, List.setIfInBounds_toArray, List.set_cons_zero, List.set_cons_succ])
    refine Ls.val (.agg #[.slice Asc nsc csc, .slice Asl nsl csl, .slice Asd nd cd]) rfl (fun _ _ _ h => h) (by kernel_rfl) (fun w hw => exec_load_row w rfl (by kernel_rfl) Tryd.underlying39 rfl (by kernel_rfl) hw.2.1) ?_; (try simp (config := {maxSteps := 2000000}) only [Act.put, List.getElem_toArray, List.getElem_cons_succ, List.getElem_cons_zero, List.setIfInBounds_toArray, List.set_cons_zero, List.set_cons_succ])
    (refine Ls.val ?_ rfl (fun _ _ _ h => h) (by kernel_rfl) ?_ ?_; rotate_left 1; focus (intro w hw; go_simp; with_reducible rfl)); (try simp (config := {maxSteps := 2000000}) only [Act.put, List.getElem_toArray, List.getElem_cons_succ, List.getElem_cons_zero, List.setIfInBounds_toArray, List.set_cons_zero, List.set_cons_succ])
    have hK1 := bdw hK
    have hcp_1 := hXp.drew
    have hlp_1 := (show _ < w.drew.heap.size from hlp)
    have hcm_1 := hXm.drew
    have hlm_1 := (show _ < w.drew.heap.size from hlm)
    have hcf_1 := cdw hcf
    have hlf_1 := (show _ < w.drew.heap.size from hlf)
    generalize w.drew = v1 at hK1 hcp_1 hlp_1 hcm_1 hlm_1 hcf_1 hlf_1 ⊢
    clear hK hXp hlp hXm hlm hcf hlf
    refine Ls.call rfl (by kernel_rfl) (by kernel_rfl) (fun _ => (secret_any f sec sd Asc Asl Asd nsc csc nsl csl nd cd tree q i m1 v1 ht hq hi (h1.bel hK1) hn1 hc1 hb1 (hsec.bel hK1) hnsc hcsc hbsc hsm (hT.bel hK1) hm1).mono ?_)
    rintro e v2 ⟨A2, c2, rfl, hF2, hh2, hb2⟩
    have hK2 := bnx hK1 hb2 hK1.size
    have hcp_2 := hcp_1.below hb2 hlp_1
    have hlp_2 := Nat.lt_of_lt_of_le hlp_1 hb2.size
    have hcm_2 := hcm_1.below hb2 hlm_1
    have hlm_2 := Nat.lt_of_lt_of_le hlm_1 hb2.size
    have hcf_2 := cell_bel hcf_1 hb2 hlf_1
    have hlf_2 := Nat.lt_of_lt_of_le hlf_1 hb2.size
    have hcx := hh2
    refine ⟨_, rfl, ⟨hcp_2, hcm_2, hcf_2⟩, ?_⟩
    (try simp (config := {maxSteps := 2000000}) only [Act.put, List.getElem_toArray, List.getElem_cons_succ, List.getElem_cons_zero, List.setIfInBounds_toArray, List.set_cons_zero, List.set_cons_succ])
    have hRX := hF2
    have hBX_2 := Below.refl v2.heap.size v2
    clear hK1 hcp_1 hlp_1 hcm_1 hlm_1 hcf_1 hlf_1 hb2 hF2 hh2
    have hP := parts_of (w := v2) (T := 24) [.slice A2 m1 c2] [atL f.n sd tree q 6 0 i sec] rfl (fun i hi => match i, hi with | 0, _ => (hRX.bel hBX_2).pt hm1 hcx | m + 1, h => absurd h (by simp))
    have hz3 : (v2.alloc (.cells #[.slice A2 m1 c2] 24)).heap.size = v2.heap.size + 1 := by simp
    have hK3 := bal hK2 hK2.size (.cells #[.slice A2 m1 c2] 24)
    have hBX_3 := bal hBX_2 hBX_2.size (.cells #[.slice A2 m1 c2] 24)
    have hcp_3 := hcp_2.alloc (.cells #[.slice A2 m1 c2] 24)
    have hlp_3 := Nat.lt_of_lt_of_le hlp_2 (al_le v2 (.cells #[.slice A2 m1 c2] 24))
    have hcm_3 := hcm_2.alloc (.cells #[.slice A2 m1 c2] 24)
    have hlm_3 := Nat.lt_of_lt_of_le hlm_2 (al_le v2 (.cells #[.slice A2 m1 c2] 24))
    have hcf_3 := cell_al hcf_2 hlf_2 (.cells #[.slice A2 m1 c2] 24)
    have hlf_3 := Nat.lt_of_lt_of_le hlf_2 (al_le v2 (.cells #[.slice A2 m1 c2] 24))
    refine Ls.made (w' := v2.alloc (.cells #[.slice A2 m1 c2] 24)) (.slice (some ⟨v2.heap.size, 0, none⟩) 1 1) rfl (by kernel_rfl) (by kernel_rfl) (fun _ => ⟨hcp_3, hcm_3, hcf_3⟩) ?_
    (try simp (config := {maxSteps := 2000000}) only [Act.put, List.getElem_toArray, List.getElem_cons_succ, List.getElem_cons_zero, List.setIfInBounds_toArray, List.set_cons_zero, List.set_cons_succ])
    generalize v2.alloc (.cells #[.slice A2 m1 c2] 24) = v3 at hK3 hBX_3 hcp_3 hlp_3 hcm_3 hlm_3 hcf_3 hlf_3 hz3 hP ⊢
    clear hK2 hBX_2 hcp_2 hlp_2 hcm_2 hlm_2 hcf_2 hlf_2
    clear hRX hBX_3
    have hfl : [atL f.n sd tree q 6 0 i sec].flatten = atL f.n sd tree q 6 0 i sec := by simp
    refine Ls.call rfl (by kernel_rfl) (by kernel_rfl) (fun _ => (tweak_any f sd Asd nd cd tree q 3 0 i [atL f.n sd tree q 6 0 i sec] (some ⟨v2.heap.size, 0, none⟩) 1 1 M (v2.heap.size + 1) v3 ht hq (W32.small (by decide) (by decide)) W32.z hi (h1.bel hK3) hn1 hc1 hb1 hP (by omega) rfl (by decide) (by decide) (by rw [hfl]; omega) (by rw [hfl]; exact atL_B _ _ _ _ _ _ _ _) (hT.bel hK3) (by rw [hfl]; exact hM)).mono ?_)
    rintro e v4 ⟨A4, c4, rfl, hF4, hh4, hb4⟩
    have hK4 := bnx hK3 hb4 hK3.size
    have hcp_4 := hcp_3.below hb4 hlp_3
    have hlp_4 := Nat.lt_of_lt_of_le hlp_3 hb4.size
    have hcm_4 := hcm_3.below hb4 hlm_3
    have hlm_4 := Nat.lt_of_lt_of_le hlm_3 hb4.size
    have hcf_4 := cell_bel hcf_3 hb4 hlf_3
    have hlf_4 := Nat.lt_of_lt_of_le hlf_3 hb4.size
    rw [hfl] at hF4
    refine ⟨_, rfl, ⟨hcp_4, hcm_4, hcf_4⟩, ?_⟩
    (try simp (config := {maxSteps := 2000000}) only [Act.put, List.getElem_toArray, List.getElem_cons_succ, List.getElem_cons_zero, List.setIfInBounds_toArray, List.set_cons_zero, List.set_cons_succ])
    clear hK3 hcp_3 hlp_3 hcm_3 hlm_3 hcf_3 hlf_3 hb4
    (refine Ls.val ?_ rfl (fun _ _ _ h => h) (by kernel_rfl) ?_ ?_; rotate_left 1; focus (intro w hw; go_simp; with_reducible rfl)); (try simp (config := {maxSteps := 2000000}) only [Act.put, List.getElem_toArray, List.getElem_cons_succ, List.getElem_cons_zero, List.setIfInBounds_toArray, List.set_cons_zero, List.set_cons_succ])
    refine Ls.done ?_
    intro _
    go_wp2_with fail
    go_ret
    exact ⟨_, _, rfl, hF4, hh4, hK4⟩
  | succ g ih =>
    intro hg i M w hi h1 hsec hT hXp hXm hcf hlf hM
    have hlp := hXp.lt
    have hlm := hXm.lt
    have hK := Below.refl w.heap.size w
    have hi2 : W32 ((2 * i) % 4294967296) := ⟨by omega, by omega⟩
    have hi3 : W32 (((2 * i) % 4294967296 + 1) % 4294967296) := ⟨by omega, by omega⟩
    obtain ⟨m1, hm1⟩ : ∃ m, (sumT f.n sd sec tree q g ((2 * i) % 4294967296)).length = m := ⟨_, rfl⟩
    obtain ⟨m2, hm2⟩ : ∃ m, (sumT f.n sd sec tree q g (((2 * i) % 4294967296 + 1) % 4294967296)).length = m := ⟨_, rfl⟩
    have hm32 : m1 ≤ 32 := by have := sumT_len f.n sd sec tree q g ((2 * i) % 4294967296); omega
    have hn32 : m2 ≤ 32 := by have := sumT_len f.n sd sec tree q g (((2 * i) % 4294967296 + 1) % 4294967296); omega
    have hgW : W32 ((g + 1 : Nat) : Int) := ⟨by omega, by omega⟩
    have hgne : ¬ ((g + 1 : Nat) : Int) = 0 := by omega
    go_enter Tryd.func73, Tryd.ntmps73
    go_upto_region 3 with fail
    refine Ls.start (fun w' => Blk w' bp 67 (plc f Asd nd cd tree q) ∧ Blk w' bm 39 #[.slice Asc nsc csc, .slice Asl nsl csl, .slice Asd nd cd] ∧ w'.cell? ⟨bf, 0, none⟩ = some (.func (.func 73) #[] #[.pointer (some ⟨bp, 0, none⟩), .pointer (some ⟨bm, 0, none⟩), .pointer (some ⟨bf, 0, none⟩)])) [(0, true), (1, true), (2, true), (3, true), (4, true), (5, true), (6, true), (7, true), (9, true), (10, true), (11, true), (12, true), (13, true), (14, true), (8, false), (15, false), (16, false), (17, false), (18, true)] (by kernel_rfl) (by kernel_rfl) (by kernel_rfl) (by kernel_rfl) ⟨hXp.drew, hXm.drew, hcf⟩ ?_
    refine Ls.val (.agg (plc f Asd nd cd tree q)) rfl (fun _ _ _ h => h) (by kernel_rfl) (fun w hw => exec_load_row w rfl (by kernel_rfl) Tryd.underlying67 rfl (by kernel_rfl) hw.1) ?_; (try simp (config := {maxSteps := 2000000}) only [Act.put, List.getElem_toArray, List.getElem_cons_succ, List.getElem_cons_zero, List.setIfInBounds_toArray, List.set_cons_zero, List.set_cons_succ])
    (refine Ls.val ?_ rfl (fun _ _ _ h => h) (by kernel_rfl) ?_ ?_; rotate_left 1; focus (intro w hw; go_simp; with_reducible rfl)); (try simp (config := {maxSteps := 2000000}) only [Act.put, List.getElem_toArray, List.getElem_cons_succ, List.getElem_cons_zero, List.setIfInBounds_toArray, List.set_cons_zero, List.set_cons_succ])
    (refine Ls.val ?_ rfl (fun _ _ _ h => h) (by kernel_rfl) ?_ ?_; rotate_left 1; focus (intro w hw; go_simp; with_reducible rfl)); (try simp (config := {maxSteps := 2000000}) only [Act.put, List.getElem_toArray, List.getElem_cons_succ, List.getElem_cons_zero, List.setIfInBounds_toArray, List.set_cons_zero, List.set_cons_succ])
    refine Ls.val (.func (.func 73) #[] #[.pointer (some ⟨bp, 0, none⟩), .pointer (some ⟨bm, 0, none⟩), .pointer (some ⟨bf, 0, none⟩)]) rfl (fun _ _ _ h => h) (by kernel_rfl) (fun w hw => exec_load_cell w rfl (by kernel_rfl) Tryd.underlying76 rfl hw.2.2) ?_; (try simp (config := {maxSteps := 2000000}) only [Act.put, List.getElem_toArray, List.getElem_cons_succ, List.getElem_cons_zero, List.setIfInBounds_toArray, List.set_cons_zero, List.set_cons_succ])
    (refine Ls.val ?_ rfl (fun _ _ _ h => h) (by kernel_rfl) ?_ ?_; rotate_left 1; focus (intro w hw; go_simp; with_reducible rfl)); (try simp (config := {maxSteps := 2000000}) only [Act.put, List.getElem_toArray, List.getElem_cons_succ, List.getElem_cons_zero, List.setIfInBounds_toArray, List.set_cons_zero, List.set_cons_succ])
    refine Ls.val (.int .u32 (g : Int)) rfl (fun _ _ _ h => h) (by kernel_rfl) (by intro w hw; go_simp; first | rfl | (rw [sub_one g (by omega)]) | (have := sub_one g (by omega); simp_all)) ?_; (try simp (config := {maxSteps := 2000000}) only [Act.put, List.getElem_toArray, List.getElem_cons_succ, List.getElem_cons_zero, List.setIfInBounds_toArray, List.set_cons_zero, List.set_cons_succ])
    (refine Ls.val ?_ rfl (fun _ _ _ h => h) (by kernel_rfl) ?_ ?_; rotate_left 1; focus (intro w hw; go_simp; with_reducible rfl)); (try simp (config := {maxSteps := 2000000}) only [Act.put, List.getElem_toArray, List.getElem_cons_succ, List.getElem_cons_zero, List.setIfInBounds_toArray, List.set_cons_zero, List.set_cons_succ])
    (refine Ls.val ?_ rfl (fun _ _ _ h => h) (by kernel_rfl) ?_ ?_; rotate_left 1; focus (intro w hw; go_simp; with_reducible rfl)); (try simp (config := {maxSteps := 2000000}) only [Act.put, List.getElem_toArray, List.getElem_cons_succ, List.getElem_cons_zero, List.setIfInBounds_toArray, List.set_cons_zero, List.set_cons_succ])
    refine Ls.val (.func (.func 73) #[] #[.pointer (some ⟨bp, 0, none⟩), .pointer (some ⟨bm, 0, none⟩), .pointer (some ⟨bf, 0, none⟩)]) rfl (fun _ _ _ h => h) (by kernel_rfl) (fun w hw => exec_load_cell w rfl (by kernel_rfl) Tryd.underlying76 rfl hw.2.2) ?_; (try simp (config := {maxSteps := 2000000}) only [Act.put, List.getElem_toArray, List.getElem_cons_succ, List.getElem_cons_zero, List.setIfInBounds_toArray, List.set_cons_zero, List.set_cons_succ])
    (refine Ls.val ?_ rfl (fun _ _ _ h => h) (by kernel_rfl) ?_ ?_; rotate_left 1; focus (intro w hw; go_simp; with_reducible rfl)); (try simp (config := {maxSteps := 2000000}) only [Act.put, List.getElem_toArray, List.getElem_cons_succ, List.getElem_cons_zero, List.setIfInBounds_toArray, List.set_cons_zero, List.set_cons_succ])
    refine Ls.val (.int .u32 (g : Int)) rfl (fun _ _ _ h => h) (by kernel_rfl) (by intro w hw; go_simp; first | rfl | (rw [sub_one g (by omega)]) | (have := sub_one g (by omega); simp_all)) ?_; (try simp (config := {maxSteps := 2000000}) only [Act.put, List.getElem_toArray, List.getElem_cons_succ, List.getElem_cons_zero, List.setIfInBounds_toArray, List.set_cons_zero, List.set_cons_succ])
    (refine Ls.val ?_ rfl (fun _ _ _ h => h) (by kernel_rfl) ?_ ?_; rotate_left 1; focus (intro w hw; go_simp; with_reducible rfl)); (try simp (config := {maxSteps := 2000000}) only [Act.put, List.getElem_toArray, List.getElem_cons_succ, List.getElem_cons_zero, List.setIfInBounds_toArray, List.set_cons_zero, List.set_cons_succ])
    (refine Ls.val ?_ rfl (fun _ _ _ h => h) (by kernel_rfl) ?_ ?_; rotate_left 1; focus (intro w hw; go_simp; with_reducible rfl)); (try simp (config := {maxSteps := 2000000}) only [Act.put, List.getElem_toArray, List.getElem_cons_succ, List.getElem_cons_zero, List.setIfInBounds_toArray, List.set_cons_zero, List.set_cons_succ])
    (refine Ls.val ?_ rfl (fun _ _ _ h => h) (by kernel_rfl) ?_ ?_; rotate_left 1; focus (intro w hw; go_simp; with_reducible rfl)); (try simp (config := {maxSteps := 2000000}) only [Act.put, List.getElem_toArray, List.getElem_cons_succ, List.getElem_cons_zero, List.setIfInBounds_toArray, List.set_cons_zero, List.set_cons_succ])
    have hK1 := bdw hK
    have hcp_1 := hXp.drew
    have hlp_1 := (show _ < w.drew.heap.size from hlp)
    have hcm_1 := hXm.drew
    have hlm_1 := (show _ < w.drew.heap.size from hlm)
    have hcf_1 := cdw hcf
    have hlf_1 := (show _ < w.drew.heap.size from hlf)
    generalize w.drew = v1 at hK1 hcp_1 hlp_1 hcm_1 hlm_1 hcf_1 hlf_1 ⊢
    clear hK hXp hlp hXm hlm hcf hlf
    refine Ls.call rfl (by kernel_rfl) (by kernel_rfl) (fun _ => (ih (by omega) ((2 * i) % 4294967296) m1 v1 hi2 (h1.bel hK1) (hsec.bel hK1) (hT.bel hK1) hcp_1 hcm_1 hcf_1 hlf_1 hm1).mono ?_)
    rintro e v2 ⟨A2, c2, rfl, hF2, hh2, hb2⟩
    have hK2 := bnx hK1 hb2 hK1.size
    have hcp_2 := hcp_1.below hb2 hlp_1
    have hlp_2 := Nat.lt_of_lt_of_le hlp_1 hb2.size
    have hcm_2 := hcm_1.below hb2 hlm_1
    have hlm_2 := Nat.lt_of_lt_of_le hlm_1 hb2.size
    have hcf_2 := cell_bel hcf_1 hb2 hlf_1
    have hlf_2 := Nat.lt_of_lt_of_le hlf_1 hb2.size
    have hcX := hh2
    refine ⟨_, rfl, ⟨hcp_2, hcm_2, hcf_2⟩, ?_⟩
    (try simp (config := {maxSteps := 2000000}) only [Act.put, List.getElem_toArray, List.getElem_cons_succ, List.getElem_cons_zero, List.setIfInBounds_toArray, List.set_cons_zero, List.set_cons_succ])
    have hRX := hF2
    have hBX_2 := Below.refl v2.heap.size v2
    clear hK1 hcp_1 hlp_1 hcm_1 hlm_1 hcf_1 hlf_1 hb2 hF2 hh2
    refine Ls.call rfl (by kernel_rfl) (by kernel_rfl) (fun _ => (ih (by omega) (((2 * i) % 4294967296 + 1) % 4294967296) m2 v2 hi3 (h1.bel hK2) (hsec.bel hK2) (hT.bel hK2) hcp_2 hcm_2 hcf_2 hlf_2 hm2).mono ?_)
    rintro e v3 ⟨A3, c3, rfl, hF3, hh3, hb3⟩
    have hK3 := bnx hK2 hb3 hK2.size
    have hBX_3 := bnx hBX_2 hb3 hBX_2.size
    have hcp_3 := hcp_2.below hb3 hlp_2
    have hlp_3 := Nat.lt_of_lt_of_le hlp_2 hb3.size
    have hcm_3 := hcm_2.below hb3 hlm_2
    have hlm_3 := Nat.lt_of_lt_of_le hlm_2 hb3.size
    have hcf_3 := cell_bel hcf_2 hb3 hlf_2
    have hlf_3 := Nat.lt_of_lt_of_le hlf_2 hb3.size
    have hcZ := hh3
    refine ⟨_, rfl, ⟨hcp_3, hcm_3, hcf_3⟩, ?_⟩
    (try simp (config := {maxSteps := 2000000}) only [Act.put, List.getElem_toArray, List.getElem_cons_succ, List.getElem_cons_zero, List.setIfInBounds_toArray, List.set_cons_zero, List.set_cons_succ])
    have hRZ := hF3
    have hBZ_3 := Below.refl v3.heap.size v3
    clear hK2 hBX_2 hcp_2 hlp_2 hcm_2 hlm_2 hcf_2 hlf_2 hb3 hF3 hh3
    have hP := parts_of (w := v3) (T := 24) [.slice A2 m1 c2, .slice A3 m2 c3] [sumT f.n sd sec tree q g ((2 * i) % 4294967296), sumT f.n sd sec tree q g (((2 * i) % 4294967296 + 1) % 4294967296)] rfl (fun i hi => match i, hi with | 0, _ => (hRX.bel hBX_3).pt hm1 hcX | 1, _ => (hRZ.bel hBZ_3).pt hm2 hcZ | m + 2, h => absurd h (by simp))
    have hz4 : (v3.alloc (.cells #[.slice A2 m1 c2, .slice A3 m2 c3] 24)).heap.size = v3.heap.size + 1 := by simp
    have hK4 := bal hK3 hK3.size (.cells #[.slice A2 m1 c2, .slice A3 m2 c3] 24)
    have hBX_4 := bal hBX_3 hBX_3.size (.cells #[.slice A2 m1 c2, .slice A3 m2 c3] 24)
    have hBZ_4 := bal hBZ_3 hBZ_3.size (.cells #[.slice A2 m1 c2, .slice A3 m2 c3] 24)
    have hcp_4 := hcp_3.alloc (.cells #[.slice A2 m1 c2, .slice A3 m2 c3] 24)
    have hlp_4 := Nat.lt_of_lt_of_le hlp_3 (al_le v3 (.cells #[.slice A2 m1 c2, .slice A3 m2 c3] 24))
    have hcm_4 := hcm_3.alloc (.cells #[.slice A2 m1 c2, .slice A3 m2 c3] 24)
    have hlm_4 := Nat.lt_of_lt_of_le hlm_3 (al_le v3 (.cells #[.slice A2 m1 c2, .slice A3 m2 c3] 24))
    have hcf_4 := cell_al hcf_3 hlf_3 (.cells #[.slice A2 m1 c2, .slice A3 m2 c3] 24)
    have hlf_4 := Nat.lt_of_lt_of_le hlf_3 (al_le v3 (.cells #[.slice A2 m1 c2, .slice A3 m2 c3] 24))
    refine Ls.made (w' := v3.alloc (.cells #[.slice A2 m1 c2, .slice A3 m2 c3] 24)) (.slice (some ⟨v3.heap.size, 0, none⟩) 2 2) rfl (by kernel_rfl) (by kernel_rfl) (fun _ => ⟨hcp_4, hcm_4, hcf_4⟩) ?_
    (try simp (config := {maxSteps := 2000000}) only [Act.put, List.getElem_toArray, List.getElem_cons_succ, List.getElem_cons_zero, List.setIfInBounds_toArray, List.set_cons_zero, List.set_cons_succ])
    generalize v3.alloc (.cells #[.slice A2 m1 c2, .slice A3 m2 c3] 24) = v4 at hK4 hBX_4 hBZ_4 hcp_4 hlp_4 hcm_4 hlm_4 hcf_4 hlf_4 hz4 hP ⊢
    clear hK3 hBX_3 hBZ_3 hcp_3 hlp_3 hcm_3 hlm_3 hcf_3 hlf_3
    clear hRX hBX_4
    clear hRZ hBZ_4
    have hfl : [sumT f.n sd sec tree q g ((2 * i) % 4294967296), sumT f.n sd sec tree q g (((2 * i) % 4294967296 + 1) % 4294967296)].flatten = sumT f.n sd sec tree q g ((2 * i) % 4294967296) ++ sumT f.n sd sec tree q g (((2 * i) % 4294967296 + 1) % 4294967296) := by simp
    refine Ls.call rfl (by kernel_rfl) (by kernel_rfl) (fun _ => (tweak_any f sd Asd nd cd tree q 3 ((g + 1 : Nat) : Int) i [sumT f.n sd sec tree q g ((2 * i) % 4294967296), sumT f.n sd sec tree q g (((2 * i) % 4294967296 + 1) % 4294967296)] (some ⟨v3.heap.size, 0, none⟩) 2 2 M (v3.heap.size + 1) v4 ht hq (W32.small (by decide) (by decide)) hgW hi (h1.bel hK4) hn1 hc1 hb1 hP (by omega) rfl (by decide) (by decide) (by rw [hfl, List.length_append]; omega) (by rw [hfl]; exact (sumT_By _ _ _ _ _ _ _).append (sumT_By _ _ _ _ _ _ _)) (hT.bel hK4) (by rw [hfl]; exact hM)).mono ?_)
    rintro e v5 ⟨A5, c5, rfl, hF5, hh5, hb5⟩
    have hK5 := bnx hK4 hb5 hK4.size
    have hcp_5 := hcp_4.below hb5 hlp_4
    have hlp_5 := Nat.lt_of_lt_of_le hlp_4 hb5.size
    have hcm_5 := hcm_4.below hb5 hlm_4
    have hlm_5 := Nat.lt_of_lt_of_le hlm_4 hb5.size
    have hcf_5 := cell_bel hcf_4 hb5 hlf_4
    have hlf_5 := Nat.lt_of_lt_of_le hlf_4 hb5.size
    rw [hfl] at hF5
    refine ⟨_, rfl, ⟨hcp_5, hcm_5, hcf_5⟩, ?_⟩
    (try simp (config := {maxSteps := 2000000}) only [Act.put, List.getElem_toArray, List.getElem_cons_succ, List.getElem_cons_zero, List.setIfInBounds_toArray, List.set_cons_zero, List.set_cons_succ])
    clear hK4 hcp_4 hlp_4 hcm_4 hlm_4 hcf_4 hlf_4 hb5
    (refine Ls.val ?_ rfl (fun _ _ _ h => h) (by kernel_rfl) ?_ ?_; rotate_left 1; focus (intro w hw; go_simp; with_reducible rfl)); (try simp (config := {maxSteps := 2000000}) only [Act.put, List.getElem_toArray, List.getElem_cons_succ, List.getElem_cons_zero, List.setIfInBounds_toArray, List.set_cons_zero, List.set_cons_succ])
    refine Ls.done ?_
    intro _
    go_wp2_with fail
    go_ret
    exact ⟨_, _, rfl, hF5, hh5, hK5⟩
end Go.Proofs.YtfaonieaagepjaaDoor

/- Layer 17, the reference: sums at an address, the sums of a tree, walked. Conditions: small lengths, words of their kinds. -/
namespace Go.Proofs.YtfaonieaagepjaaDoor
open Go.RowKit
set_option linter.unusedVariables false
set_option linter.unusedSimpArgs false
theorem Blk.free {w : World} {b T : Nat} {cs : Array Value} (h : Blk w b T cs) (i : Nat) : w.frozen? ⟨b, i, none⟩ = false := frozen_of_row w b i _ _ h
theorem Blk.set {w : World} {b T : Nat} {cs : Array Value} (h : Blk w b T cs) (i : Nat) (v : Value) : Blk (w.setCell ⟨b, i, none⟩ v) b T (cs.setIfInBounds i v) := by
  rw [setCell_eq_setRow w b i cs T (0, 0) v h]; exact h.setRow _
theorem Blk.setO {w : World} {b T : Nat} {cs : Array Value} (h : Blk w b T cs) (c i : Nat) (v : Value) (hne : b ≠ c) : Blk (w.setCell ⟨c, i, none⟩ v) b T cs := by
  unfold Blk at *; rw [heap_setCell_other w ⟨c, i, none⟩ b v (by simpa using hne)]; exact h
set_option maxRecDepth 100000 in
set_option maxHeartbeats 2000000 in
theorem rat_any (f : Fw) (sd : List Int) (Asd : Option Addr) (nd cd : Nat) (tree q kd k0 b0 c0 i : Int) (g : Nat) (x : List Int) (A : Option Addr) (m c M : Nat) (w : World) (ht : U64 tree) (hq : W32 q) (hkd : W32 kd) (hg : g ≤ 100) (hi : W32 i)
    (h1 : Rd w w.heap.size .u8 Asd sd) (hn1 : sd.length = nd) (hc1 : nd ≤ cd) (hb1 : Bys sd) (h2 : Rd w w.heap.size .u8 A x) (hm : x.length = m) (hmc : m ≤ c) (hml : m ≤ 200000) (hbx : Bys x) (hM : (atL f.n sd tree q kd g i x).length = M) :
    Calls Tryd.prog 49 #[.agg f.cs, .slice Asd nd cd, .agg (Ad.cs ⟨0, tree, k0, q, b0, c0⟩), .int .u32 kd, .int .i64 g, .int .u32 i, .slice A m c] w (OutR w (atL f.n sd tree q kd g i x) M) := by
  obtain ⟨d, hdd⟩ : ∃ d : Ad, (⟨0, tree, k0, q, b0, c0⟩ : Ad) = d := ⟨_, rfl⟩
  rw [hdd]
  have hgW : W32 (g : Int) := ⟨by omega, by omega⟩
  have hd : (⟨0, tree, kd, q, g, i⟩ : Ad).ok := ⟨W32.z, ht, hkd, hq, hgW, hi⟩
  have hM' : (twO f.n sd ⟨0, tree, kd, q, g, i⟩ x).length = M := hM
  have hgm : (g : Int) % 4294967296 = g := by omega
  have hF := (Blk.new w 23 f.cs).alloc (.cells d.cs 46)
  have hX := Blk.new (w.alloc (.cells f.cs 23)) 46 d.cs
  have hK := ((Kept.refl w.heap.size (fun _ => False) w).alloc (.cells f.cs 23) (Nat.le_refl _)).alloc (.cells d.cs 46) (by simp)
  have hz : (w.alloc (.cells f.cs 23)).heap.size = w.heap.size + 1 := by simp
  go_enter Tryd.func49, Tryd.ntmps49
  go_upto_region 1 with fail
  change Code.wp _ _ _ _ ((w.alloc (.cells f.cs 23)).alloc (.cells d.cs 46))
  generalize (w.alloc (.cells f.cs 23)).alloc (.cells d.cs 46) = w0 at hF hX hK ⊢
  rw [hz] at hX
  clear hz
  have hcell := hX.cell 2 (.int .u32 d.kd) rfl
  have hfree := hX.free 2
  go_upto_region 2 with fail
  have hX0 := hX.set 2 (.int .u32 kd)
  have hF0 := hF.setO (w.heap.size + 1) 2 (.int .u32 kd) (by omega)
  have hK0 := hK.set (w.heap.size + 1) 2 (.int .u32 kd) (.inl (by omega))
  generalize w0.setCell ⟨w.heap.size + 1, 2, none⟩ (.int .u32 kd) = u0 at hX0 hF0 hK0 ⊢
  clear hcell hfree hX hF hK
  have hX := hX0
  have hF := hF0
  have hK := hK0
  clear hX0 hF0 hK0
  have hcell := hX.cell 4 (.int .u32 d.b) rfl
  have hfree := hX.free 4
  go_upto_region 3 with fail
  have hX1 := hX.set 4 (.int .u32 g)
  have hF1 := hF.setO (w.heap.size + 1) 4 (.int .u32 g) (by omega)
  have hK1 := hK.set (w.heap.size + 1) 4 (.int .u32 g) (.inl (by omega))
  generalize u0.setCell ⟨w.heap.size + 1, 4, none⟩ (.int .u32 g) = u1 at hX1 hF1 hK1 ⊢
  clear hcell hfree hX hF hK
  have hX := hX1
  have hF := hF1
  have hK := hK1
  clear hX1 hF1 hK1
  have hcell := hX.cell 5 (.int .u32 d.c) rfl
  have hfree := hX.free 5
  go_upto_region 4 with fail
  have hX2 := hX.set 5 (.int .u32 i)
  have hF2 := hF.setO (w.heap.size + 1) 5 (.int .u32 i) (by omega)
  have hK2 := hK.set (w.heap.size + 1) 5 (.int .u32 i) (.inl (by omega))
  generalize u1.setCell ⟨w.heap.size + 1, 5, none⟩ (.int .u32 i) = u2 at hX2 hF2 hK2 ⊢
  clear hcell hfree hX hF hK
  have hX := hX2
  have hF := hF2
  have hK := hK2
  clear hX2 hF2 hK2
  have hXX : Blk u2 (w.heap.size + 1) 46 (Ad.cs ⟨0, tree, kd, q, g, i⟩) := by rw [← hdd] at hX; exact hX
  have hKK := hK.below
  have h0 := hF.cell 0 (.int .i64 f.n) rfl
  clear hX hK hF hdd
  go_wp2_with (refine wpList_blk_yes (t := 46) (T := 46) (by rfl) rfl rfl Tryd.underlying46 rfl (by kernel_rfl) hXX ?_)
  (with_reducible refine (rtw_o f.n sd ⟨0, tree, kd, q, g, i⟩ x Asd A nd cd m c M u2 hd (h1.bel hKK) hn1 hc1 hb1 (h2.bel hKK) hm hmc hbx (by omega) hM').mono ?_)
  rintro e v1 ⟨A1, c1, rfl, hR1, hh1, hb1⟩
  have hK1 := bnx hKK hb1 hKK.size
  clear hKK hb1
  go_wp2_with fail
  go_ret
  exact ⟨_, _, rfl, hR1, hh1, hK1⟩
set_option maxRecDepth 100000 in
set_option maxHeartbeats 4000000 in
theorem rsum_any (f : Fw) (sec sd : List Int) (Asc Asl Asd : Option Addr) (nsc csc nsl csl nd cd : Nat) (tree q : Int) (ht : U64 tree) (hq : W32 q) (hn1 : sd.length = nd) (hc1 : nd ≤ cd) (hb1 : Bys sd) (hnsc : sec.length = nsc) (hcsc : nsc ≤ csc) (hbsc : Bys sec) (hsm : nsc ≤ 100000) :
    ∀ (g : Nat), g ≤ 100 → ∀ (i : Int) (M : Nat) (w : World), W32 i → Rd w w.heap.size .u8 Asd sd → Rd w w.heap.size .u8 Asc sec → (sumT f.n sd sec tree q g i).length = M →
      Calls Tryd.prog 53 #[.agg f.cs, .agg #[.slice Asc nsc csc, .slice Asl nsl csl, .slice Asd nd cd], .agg (Ad.cs ⟨0, tree, 0, q, 0, 0⟩), .int .i64 g, .int .u32 i] w (OutR w (sumT f.n sd sec tree q g i) M) := by
  intro g
  induction g with
  | zero =>
    intro hg i M w hi h1 hsec hM
    obtain ⟨m1, hm1⟩ : ∃ m, (atL f.n sd tree q 6 0 i sec).length = m := ⟨_, rfl⟩
    have hm32 : m1 ≤ 32 := by have := atL_len f.n sd tree q 6 0 i sec; omega
    have hmx : (200000000 : Nat) ≤ maxLen := by decide
    have hXf := ((Blk.new w 23 f.cs).alloc (.cells #[.slice Asc nsc csc, .slice Asl nsl csl, .slice Asd nd cd] 39)).alloc (.cells (Ad.cs ⟨0, tree, 0, q, 0, 0⟩) 46)
    have hXm := (Blk.new (w.alloc (.cells f.cs 23)) 39 #[.slice Asc nsc csc, .slice Asl nsl csl, .slice Asd nd cd]).alloc (.cells (Ad.cs ⟨0, tree, 0, q, 0, 0⟩) 46)
    have hXa := Blk.new ((w.alloc (.cells f.cs 23)).alloc (.cells #[.slice Asc nsc csc, .slice Asl nsl csl, .slice Asd nd cd] 39)) 46 (Ad.cs ⟨0, tree, 0, q, 0, 0⟩)
    have hK := bal (bal (bal (Below.refl w.heap.size w) (Nat.le_refl _) (.cells f.cs 23)) (by simp) (.cells #[.slice Asc nsc csc, .slice Asl nsl csl, .slice Asd nd cd] 39)) (by simp; omega) (.cells (Ad.cs ⟨0, tree, 0, q, 0, 0⟩) 46)
    have hz1 : (w.alloc (.cells f.cs 23)).heap.size = w.heap.size + 1 := by simp
    have hz2 : ((w.alloc (.cells f.cs 23)).alloc (.cells #[.slice Asc nsc csc, .slice Asl nsl csl, .slice Asd nd cd] 39)).heap.size = w.heap.size + 2 := by simp
    go_enter Tryd.func53, Tryd.ntmps53
    go_upto_region 1 with fail
    change Code.wp _ _ _ _ (((w.alloc (.cells f.cs 23)).alloc (.cells #[.slice Asc nsc csc, .slice Asl nsl csl, .slice Asd nd cd] 39)).alloc (.cells (Ad.cs ⟨0, tree, 0, q, 0, 0⟩) 46))
    generalize (((w.alloc (.cells f.cs 23)).alloc (.cells #[.slice Asc nsc csc, .slice Asl nsl csl, .slice Asd nd cd] 39)).alloc (.cells (Ad.cs ⟨0, tree, 0, q, 0, 0⟩) 46)) = w0 at hXf hXm hXa hK ⊢
    rw [hz1] at hXm
    rw [hz2] at hXa
    clear hz1 hz2
    have hlf := hXf.lt
    have hlm := hXm.lt
    have hla := hXa.lt
    have hm0 := hXm.cell 0 (.slice Asc nsc csc) rfl
    have hm2 := hXm.cell 2 (.slice Asd nd cd) rfl
    have hl0 := hlm
    have hl2 := hlm
    go_upto_region 2 with fail
    refine Ls.start (fun w' => Blk w' w.heap.size 23 f.cs ∧ Blk w' (w.heap.size + 1) 39 #[.slice Asc nsc csc, .slice Asl nsl csl, .slice Asd nd cd] ∧ Blk w' (w.heap.size + 2) 46 (Ad.cs ⟨0, tree, 0, q, 0, 0⟩) ∧ w'.cell? ⟨w.heap.size + 1, 0, none⟩ = some (.slice Asc nsc csc) ∧ w'.cell? ⟨w.heap.size + 1, 2, none⟩ = some (.slice Asd nd cd)) [(0, true), (1, true), (2, true), (3, true), (4, true), (5, true), (6, true), (7, true), (8, true), (9, true), (10, true), (11, true), (12, false), (13, false), (14, true)] (by kernel_rfl) (by kernel_rfl) (by kernel_rfl) (by kernel_rfl) ⟨hXf.drew, hXm.drew, hXa.drew, hm0, hm2⟩ ?_
    refine Ls.val (.agg f.cs) rfl (fun _ _ _ h => h) (by kernel_rfl) (fun w hw => exec_load_row w rfl (by kernel_rfl) Tryd.underlying23 rfl (by kernel_rfl) hw.1) ?_; (try simp (config := {maxSteps := 2000000}) only [Act.put, List.getElem_toArray, List.getElem_cons_succ, List.getElem_cons_zero, List.setIfInBounds_toArray, List.set_cons_zero, List.set_cons_succ])
    (refine Ls.val ?_ rfl (fun _ _ _ h => h) (by kernel_rfl) ?_ ?_; rotate_left 1; focus (intro w hw; go_simp; with_reducible rfl)); (try simp (config := {maxSteps := 2000000}) only [Act.put, List.getElem_toArray, List.getElem_cons_succ, List.getElem_cons_zero, List.setIfInBounds_toArray, List.set_cons_zero, List.set_cons_succ])
    (refine Ls.val ?_ rfl (fun _ _ _ h => h) (by kernel_rfl) ?_ ?_; rotate_left 1; focus (intro w hw; have hcell := hw.2.2.2.2; go_simp; with_reducible rfl)); (try simp (config := {maxSteps := 2000000}) only [Act.put, List.getElem_toArray, List.getElem_cons_succ, List.getElem_cons_zero, List.setIfInBounds_toArray, List.set_cons_zero, List.set_cons_succ])
    refine Ls.val (.agg (Ad.cs ⟨0, tree, 0, q, 0, 0⟩)) rfl (fun _ _ _ h => h) (by kernel_rfl) (fun w hw => exec_load_row w rfl (by kernel_rfl) Tryd.underlying46 rfl (by kernel_rfl) hw.2.2.1) ?_; (try simp (config := {maxSteps := 2000000}) only [Act.put, List.getElem_toArray, List.getElem_cons_succ, List.getElem_cons_zero, List.setIfInBounds_toArray, List.set_cons_zero, List.set_cons_succ])
    (refine Ls.val ?_ rfl (fun _ _ _ h => h) (by kernel_rfl) ?_ ?_; rotate_left 1; focus (intro w hw; go_simp; with_reducible rfl)); (try simp (config := {maxSteps := 2000000}) only [Act.put, List.getElem_toArray, List.getElem_cons_succ, List.getElem_cons_zero, List.setIfInBounds_toArray, List.set_cons_zero, List.set_cons_succ])
    refine Ls.val (.agg f.cs) rfl (fun _ _ _ h => h) (by kernel_rfl) (fun w hw => exec_load_row w rfl (by kernel_rfl) Tryd.underlying23 rfl (by kernel_rfl) hw.1) ?_; (try simp (config := {maxSteps := 2000000}) only [Act.put, List.getElem_toArray, List.getElem_cons_succ, List.getElem_cons_zero, List.setIfInBounds_toArray, List.set_cons_zero, List.set_cons_succ])
    (refine Ls.val ?_ rfl (fun _ _ _ h => h) (by kernel_rfl) ?_ ?_; rotate_left 1; focus (intro w hw; go_simp; with_reducible rfl)); (try simp (config := {maxSteps := 2000000}) only [Act.put, List.getElem_toArray, List.getElem_cons_succ, List.getElem_cons_zero, List.setIfInBounds_toArray, List.set_cons_zero, List.set_cons_succ])
    (refine Ls.val ?_ rfl (fun _ _ _ h => h) (by kernel_rfl) ?_ ?_; rotate_left 1; focus (intro w hw; have hcell := hw.2.2.2.2; go_simp; with_reducible rfl)); (try simp (config := {maxSteps := 2000000}) only [Act.put, List.getElem_toArray, List.getElem_cons_succ, List.getElem_cons_zero, List.setIfInBounds_toArray, List.set_cons_zero, List.set_cons_succ])
    refine Ls.val (.agg (Ad.cs ⟨0, tree, 0, q, 0, 0⟩)) rfl (fun _ _ _ h => h) (by kernel_rfl) (fun w hw => exec_load_row w rfl (by kernel_rfl) Tryd.underlying46 rfl (by kernel_rfl) hw.2.2.1) ?_; (try simp (config := {maxSteps := 2000000}) only [Act.put, List.getElem_toArray, List.getElem_cons_succ, List.getElem_cons_zero, List.setIfInBounds_toArray, List.set_cons_zero, List.set_cons_succ])
    (refine Ls.val ?_ rfl (fun _ _ _ h => h) (by kernel_rfl) ?_ ?_; rotate_left 1; focus (intro w hw; go_simp; with_reducible rfl)); (try simp (config := {maxSteps := 2000000}) only [Act.put, List.getElem_toArray, List.getElem_cons_succ, List.getElem_cons_zero, List.setIfInBounds_toArray, List.set_cons_zero, List.set_cons_succ])
    (refine Ls.val ?_ rfl (fun _ _ _ h => h) (by kernel_rfl) ?_ ?_; rotate_left 1; focus (intro w hw; go_simp; with_reducible rfl)); (try simp (config := {maxSteps := 2000000}) only [Act.put, List.getElem_toArray, List.getElem_cons_succ, List.getElem_cons_zero, List.setIfInBounds_toArray, List.set_cons_zero, List.set_cons_succ])
    (refine Ls.val ?_ rfl (fun _ _ _ h => h) (by kernel_rfl) ?_ ?_; rotate_left 1; focus (intro w hw; have hcell := hw.2.2.2.1; go_simp; with_reducible rfl)); (try simp (config := {maxSteps := 2000000}) only [Act.put, List.getElem_toArray, List.getElem_cons_succ, List.getElem_cons_zero, List.setIfInBounds_toArray, List.set_cons_zero, List.set_cons_succ])
    have hK1 := bdw hK
    have hcf_1 := hXf.drew
    have hlf_1 := (show _ < w0.drew.heap.size from hlf)
    have hcm_1 := hXm.drew
    have hlm_1 := (show _ < w0.drew.heap.size from hlm)
    have hca_1 := hXa.drew
    have hla_1 := (show _ < w0.drew.heap.size from hla)
    have hc0_1 := cdw hm0
    have hl0_1 := (show _ < w0.drew.heap.size from hl0)
    have hc2_1 := cdw hm2
    have hl2_1 := (show _ < w0.drew.heap.size from hl2)
    generalize w0.drew = v1 at hK1 hcf_1 hlf_1 hcm_1 hlm_1 hca_1 hla_1 hc0_1 hl0_1 hc2_1 hl2_1 ⊢
    clear hK hXf hlf hXm hlm hXa hla hm0 hl0 hm2 hl2
    refine Ls.call rfl (by kernel_rfl) (by kernel_rfl) (fun _ => (rat_any f sd Asd nd cd tree q 6 0 0 0 i 0 sec Asc nsc csc m1 v1 ht hq (W32.small (by decide) (by decide)) (by decide) hi (h1.bel hK1) hn1 hc1 hb1 (hsec.bel hK1) hnsc hcsc (by omega) hbsc hm1).mono ?_)
    rintro e v2 ⟨A2, c2, rfl, hF2, hh2, hb2⟩
    have hK2 := bnx hK1 hb2 hK1.size
    have hcf_2 := hcf_1.below hb2 hlf_1
    have hlf_2 := Nat.lt_of_lt_of_le hlf_1 hb2.size
    have hcm_2 := hcm_1.below hb2 hlm_1
    have hlm_2 := Nat.lt_of_lt_of_le hlm_1 hb2.size
    have hca_2 := hca_1.below hb2 hla_1
    have hla_2 := Nat.lt_of_lt_of_le hla_1 hb2.size
    have hc0_2 := cell_bel hc0_1 hb2 hl0_1
    have hl0_2 := Nat.lt_of_lt_of_le hl0_1 hb2.size
    have hc2_2 := cell_bel hc2_1 hb2 hl2_1
    have hl2_2 := Nat.lt_of_lt_of_le hl2_1 hb2.size
    have hcx := hh2
    refine ⟨_, rfl, ⟨hcf_2, hcm_2, hca_2, hc0_2, hc2_2⟩, ?_⟩
    (try simp (config := {maxSteps := 2000000}) only [Act.put, List.getElem_toArray, List.getElem_cons_succ, List.getElem_cons_zero, List.setIfInBounds_toArray, List.set_cons_zero, List.set_cons_succ])
    have hRX := hF2
    have hBX_2 := Below.refl v2.heap.size v2
    clear hK1 hcf_1 hlf_1 hcm_1 hlm_1 hca_1 hla_1 hc0_1 hl0_1 hc2_1 hl2_1 hb2 hF2 hh2
    refine Ls.call rfl (by kernel_rfl) (by kernel_rfl) (fun _ => (rat_any f sd Asd nd cd tree q 3 0 0 0 i 0 (atL f.n sd tree q 6 0 i sec) A2 m1 c2 M v2 ht hq (W32.small (by decide) (by decide)) (by decide) hi (h1.bel hK2) hn1 hc1 hb1 (hRX.bel hBX_2) hm1 hcx (by omega) (atL_B _ _ _ _ _ _ _ _) hM).mono ?_)
    rintro e v3 ⟨A3, c3, rfl, hF3, hh3, hb3⟩
    have hK3 := bnx hK2 hb3 hK2.size
    have hBX_3 := bnx hBX_2 hb3 hBX_2.size
    have hcf_3 := hcf_2.below hb3 hlf_2
    have hlf_3 := Nat.lt_of_lt_of_le hlf_2 hb3.size
    have hcm_3 := hcm_2.below hb3 hlm_2
    have hlm_3 := Nat.lt_of_lt_of_le hlm_2 hb3.size
    have hca_3 := hca_2.below hb3 hla_2
    have hla_3 := Nat.lt_of_lt_of_le hla_2 hb3.size
    have hc0_3 := cell_bel hc0_2 hb3 hl0_2
    have hl0_3 := Nat.lt_of_lt_of_le hl0_2 hb3.size
    have hc2_3 := cell_bel hc2_2 hb3 hl2_2
    have hl2_3 := Nat.lt_of_lt_of_le hl2_2 hb3.size
    refine ⟨_, rfl, ⟨hcf_3, hcm_3, hca_3, hc0_3, hc2_3⟩, ?_⟩
    (try simp (config := {maxSteps := 2000000}) only [Act.put, List.getElem_toArray, List.getElem_cons_succ, List.getElem_cons_zero, List.setIfInBounds_toArray, List.set_cons_zero, List.set_cons_succ])
    clear hK2 hBX_2 hcf_2 hlf_2 hcm_2 hlm_2 hca_2 hla_2 hc0_2 hl0_2 hc2_2 hl2_2 hb3
    (refine Ls.val ?_ rfl (fun _ _ _ h => h) (by kernel_rfl) ?_ ?_; rotate_left 1; focus (intro w hw; go_simp; with_reducible rfl)); (try simp (config := {maxSteps := 2000000}) only [Act.put, List.getElem_toArray, List.getElem_cons_succ, List.getElem_cons_zero, List.setIfInBounds_toArray, List.set_cons_zero, List.set_cons_succ])
    refine Ls.done ?_
    intro _
    go_wp2_with fail
    go_ret
    exact ⟨_, _, rfl, hF3, hh3, hK3⟩
  | succ g ih =>
    intro hg i M w hi h1 hsec hM
    have hSS : sumT f.n sd sec tree q (g + 1) i = atL f.n sd tree q 3 ((g + 1 : Nat) : Int) i ((sumT f.n sd sec tree q g ((2 * i) % 4294967296)) ++ (sumT f.n sd sec tree q g ((2 * i) % 4294967296 + 1))) := by
      show atL f.n sd tree q 3 ((g + 1 : Nat) : Int) i ((sumT f.n sd sec tree q g ((2 * i) % 4294967296)) ++ sumT f.n sd sec tree q g (((2 * i) % 4294967296 + 1) % 4294967296)) = _
      rw [show (((2 * i) % 4294967296 + 1) % 4294967296) = ((2 * i) % 4294967296 + 1) by omega]
    rw [hSS] at hM ⊢
    clear hSS
    have hi2 : W32 ((2 * i) % 4294967296) := ⟨by omega, by omega⟩
    have hi3 : W32 ((2 * i) % 4294967296 + 1) := ⟨by omega, by omega⟩
    obtain ⟨m1, hm1⟩ : ∃ m, (sumT f.n sd sec tree q g ((2 * i) % 4294967296)).length = m := ⟨_, rfl⟩
    obtain ⟨m2, hm2⟩ : ∃ m, (sumT f.n sd sec tree q g ((2 * i) % 4294967296 + 1)).length = m := ⟨_, rfl⟩
    have hm32 : m1 ≤ 32 := by have := sumT_len f.n sd sec tree q g ((2 * i) % 4294967296); omega
    have hn32 : m2 ≤ 32 := by have := sumT_len f.n sd sec tree q g ((2 * i) % 4294967296 + 1); omega
    have hgne : ¬ ((g + 1 : Nat) : Int) = 0 := by omega
    have hmx : (200000000 : Nat) ≤ maxLen := by decide
    have hXf := ((Blk.new w 23 f.cs).alloc (.cells #[.slice Asc nsc csc, .slice Asl nsl csl, .slice Asd nd cd] 39)).alloc (.cells (Ad.cs ⟨0, tree, 0, q, 0, 0⟩) 46)
    have hXm := (Blk.new (w.alloc (.cells f.cs 23)) 39 #[.slice Asc nsc csc, .slice Asl nsl csl, .slice Asd nd cd]).alloc (.cells (Ad.cs ⟨0, tree, 0, q, 0, 0⟩) 46)
    have hXa := Blk.new ((w.alloc (.cells f.cs 23)).alloc (.cells #[.slice Asc nsc csc, .slice Asl nsl csl, .slice Asd nd cd] 39)) 46 (Ad.cs ⟨0, tree, 0, q, 0, 0⟩)
    have hK := bal (bal (bal (Below.refl w.heap.size w) (Nat.le_refl _) (.cells f.cs 23)) (by simp) (.cells #[.slice Asc nsc csc, .slice Asl nsl csl, .slice Asd nd cd] 39)) (by simp; omega) (.cells (Ad.cs ⟨0, tree, 0, q, 0, 0⟩) 46)
    have hz1 : (w.alloc (.cells f.cs 23)).heap.size = w.heap.size + 1 := by simp
    have hz2 : ((w.alloc (.cells f.cs 23)).alloc (.cells #[.slice Asc nsc csc, .slice Asl nsl csl, .slice Asd nd cd] 39)).heap.size = w.heap.size + 2 := by simp
    go_enter Tryd.func53, Tryd.ntmps53
    go_upto_region 1 with fail
    change Code.wp _ _ _ _ (((w.alloc (.cells f.cs 23)).alloc (.cells #[.slice Asc nsc csc, .slice Asl nsl csl, .slice Asd nd cd] 39)).alloc (.cells (Ad.cs ⟨0, tree, 0, q, 0, 0⟩) 46))
    generalize (((w.alloc (.cells f.cs 23)).alloc (.cells #[.slice Asc nsc csc, .slice Asl nsl csl, .slice Asd nd cd] 39)).alloc (.cells (Ad.cs ⟨0, tree, 0, q, 0, 0⟩) 46)) = w0 at hXf hXm hXa hK ⊢
    rw [hz1] at hXm
    rw [hz2] at hXa
    clear hz1 hz2
    have hlf := hXf.lt
    have hlm := hXm.lt
    have hla := hXa.lt
    have hm0 := hXm.cell 0 (.slice Asc nsc csc) rfl
    have hm2 := hXm.cell 2 (.slice Asd nd cd) rfl
    have hl0 := hlm
    have hl2 := hlm
    go_wp2_with (first | (refine wpList_blk_yes (t := 23) (T := 23) (by rfl) rfl rfl Tryd.underlying23 rfl (by kernel_rfl) hXf ?_) | (refine wpList_blk_yes (t := 39) (T := 39) (by rfl) rfl rfl Tryd.underlying39 rfl (by kernel_rfl) hXm ?_) | (refine wpList_blk_yes (t := 46) (T := 46) (by rfl) rfl rfl Tryd.underlying46 rfl (by kernel_rfl) hXa ?_))
    (with_reducible refine (ih (by omega) ((2 * i) % 4294967296) m1 w0 hi2 (h1.bel hK) (hsec.bel hK) hm1).mono ?_)
    rintro e v1 ⟨A1, c1, rfl, hF1, hh1, hb1⟩
    have hK1 := bnx hK hb1 hK.size
    have hcf_1 := hXf.below hb1 hlf
    have hlf_1 := Nat.lt_of_lt_of_le hlf hb1.size
    have hcm_1 := hXm.below hb1 hlm
    have hlm_1 := Nat.lt_of_lt_of_le hlm hb1.size
    have hca_1 := hXa.below hb1 hla
    have hla_1 := Nat.lt_of_lt_of_le hla hb1.size
    have hc0_1 := cell_bel hm0 hb1 hl0
    have hl0_1 := Nat.lt_of_lt_of_le hl0 hb1.size
    have hc2_1 := cell_bel hm2 hb1 hl2
    have hl2_1 := Nat.lt_of_lt_of_le hl2 hb1.size
    have hcX := hh1
    have hRX := hF1
    have hBX_1 := Below.refl v1.heap.size v1
    clear hK hXf hlf hXm hlm hXa hla hm0 hl0 hm2 hl2 hb1 hF1 hh1
    go_wp2_with (first | (refine wpList_blk_yes (t := 23) (T := 23) (by rfl) rfl rfl Tryd.underlying23 rfl (by kernel_rfl) hcf_1 ?_) | (refine wpList_blk_yes (t := 39) (T := 39) (by rfl) rfl rfl Tryd.underlying39 rfl (by kernel_rfl) hcm_1 ?_) | (refine wpList_blk_yes (t := 46) (T := 46) (by rfl) rfl rfl Tryd.underlying46 rfl (by kernel_rfl) hca_1 ?_))
    (with_reducible refine (ih (by omega) ((2 * i) % 4294967296 + 1) m2 v1 hi3 (h1.bel hK1) (hsec.bel hK1) hm2).mono ?_)
    rintro e v2 ⟨A2, c2, rfl, hF2, hh2, hb2⟩
    have hK2 := bnx hK1 hb2 hK1.size
    have hBX_2 := bnx hBX_1 hb2 hBX_1.size
    have hcf_2 := hcf_1.below hb2 hlf_1
    have hlf_2 := Nat.lt_of_lt_of_le hlf_1 hb2.size
    have hcm_2 := hcm_1.below hb2 hlm_1
    have hlm_2 := Nat.lt_of_lt_of_le hlm_1 hb2.size
    have hca_2 := hca_1.below hb2 hla_1
    have hla_2 := Nat.lt_of_lt_of_le hla_1 hb2.size
    have hc0_2 := cell_bel hc0_1 hb2 hl0_1
    have hl0_2 := Nat.lt_of_lt_of_le hl0_1 hb2.size
    have hc2_2 := cell_bel hc2_1 hb2 hl2_1
    have hl2_2 := Nat.lt_of_lt_of_le hl2_1 hb2.size
    have hcZ := hh2
    have hRZ := hF2
    have hBZ_2 := Below.refl v2.heap.size v2
    clear hK1 hBX_1 hcf_1 hlf_1 hcm_1 hlm_1 hca_1 hla_1 hc0_1 hl0_1 hc2_1 hl2_1 hb2 hF2 hh2
    go_upto_region 5 with fail
    refine Ls.start (fun w' => Blk w' w.heap.size 23 f.cs ∧ Blk w' (w.heap.size + 1) 39 #[.slice Asc nsc csc, .slice Asl nsl csl, .slice Asd nd cd] ∧ Blk w' (w.heap.size + 2) 46 (Ad.cs ⟨0, tree, 0, q, 0, 0⟩) ∧ w'.cell? ⟨w.heap.size + 1, 0, none⟩ = some (.slice Asc nsc csc) ∧ w'.cell? ⟨w.heap.size + 1, 2, none⟩ = some (.slice Asd nd cd)) [(0, true), (1, true), (2, true), (3, true), (4, true), (5, true), (7, true), (9, true), (6, false), (8, false), (10, false), (11, false), (12, true)] (by kernel_rfl) (by kernel_rfl) (by kernel_rfl) (by kernel_rfl) ⟨hcf_2.drew, hcm_2.drew, hca_2.drew, hc0_2, hc2_2⟩ ?_
    refine Ls.val (.agg f.cs) rfl (fun _ _ _ h => h) (by kernel_rfl) (fun w hw => exec_load_row w rfl (by kernel_rfl) Tryd.underlying23 rfl (by kernel_rfl) hw.1) ?_; (try simp (config := {maxSteps := 2000000}) only [Act.put, List.getElem_toArray, List.getElem_cons_succ, List.getElem_cons_zero, List.setIfInBounds_toArray, List.set_cons_zero, List.set_cons_succ])
    (refine Ls.val ?_ rfl (fun _ _ _ h => h) (by kernel_rfl) ?_ ?_; rotate_left 1; focus (intro w hw; go_simp; with_reducible rfl)); (try simp (config := {maxSteps := 2000000}) only [Act.put, List.getElem_toArray, List.getElem_cons_succ, List.getElem_cons_zero, List.setIfInBounds_toArray, List.set_cons_zero, List.set_cons_succ])
    (refine Ls.val ?_ rfl (fun _ _ _ h => h) (by kernel_rfl) ?_ ?_; rotate_left 1; focus (intro w hw; have hcell := hw.2.2.2.2; go_simp; with_reducible rfl)); (try simp (config := {maxSteps := 2000000}) only [Act.put, List.getElem_toArray, List.getElem_cons_succ, List.getElem_cons_zero, List.setIfInBounds_toArray, List.set_cons_zero, List.set_cons_succ])
    refine Ls.val (.agg (Ad.cs ⟨0, tree, 0, q, 0, 0⟩)) rfl (fun _ _ _ h => h) (by kernel_rfl) (fun w hw => exec_load_row w rfl (by kernel_rfl) Tryd.underlying46 rfl (by kernel_rfl) hw.2.2.1) ?_; (try simp (config := {maxSteps := 2000000}) only [Act.put, List.getElem_toArray, List.getElem_cons_succ, List.getElem_cons_zero, List.setIfInBounds_toArray, List.set_cons_zero, List.set_cons_succ])
    (refine Ls.val ?_ rfl (fun _ _ _ h => h) (by kernel_rfl) ?_ ?_; rotate_left 1; focus (intro w hw; go_simp; with_reducible rfl)); (try simp (config := {maxSteps := 2000000}) only [Act.put, List.getElem_toArray, List.getElem_cons_succ, List.getElem_cons_zero, List.setIfInBounds_toArray, List.set_cons_zero, List.set_cons_succ])
    (refine Ls.val ?_ rfl (fun _ _ _ h => h) (by kernel_rfl) ?_ ?_; rotate_left 1; focus (intro w hw; go_simp; with_reducible rfl)); (try simp (config := {maxSteps := 2000000}) only [Act.put, List.getElem_toArray, List.getElem_cons_succ, List.getElem_cons_zero, List.setIfInBounds_toArray, List.set_cons_zero, List.set_cons_succ])
    (refine Ls.val ?_ rfl (fun _ _ _ h => h) (by kernel_rfl) ?_ ?_; rotate_left 1; focus (intro w hw; go_simp; with_reducible rfl)); (try simp (config := {maxSteps := 2000000}) only [Act.put, List.getElem_toArray, List.getElem_cons_succ, List.getElem_cons_zero, List.setIfInBounds_toArray, List.set_cons_zero, List.set_cons_succ])
    (refine Ls.val ?_ rfl (fun _ _ _ h => h) (by kernel_rfl) ?_ ?_; rotate_left 1; focus (intro w hw; go_simp; with_reducible rfl)); (try simp (config := {maxSteps := 2000000}) only [Act.put, List.getElem_toArray, List.getElem_cons_succ, List.getElem_cons_zero, List.setIfInBounds_toArray, List.set_cons_zero, List.set_cons_succ])
    have hK3 := bdw hK2
    have hBX_3 := bdw hBX_2
    have hBZ_3 := bdw hBZ_2
    have hcf_3 := hcf_2.drew
    have hlf_3 := (show _ < v2.drew.heap.size from hlf_2)
    have hcm_3 := hcm_2.drew
    have hlm_3 := (show _ < v2.drew.heap.size from hlm_2)
    have hca_3 := hca_2.drew
    have hla_3 := (show _ < v2.drew.heap.size from hla_2)
    have hc0_3 := cdw hc0_2
    have hl0_3 := (show _ < v2.drew.heap.size from hl0_2)
    have hc2_3 := cdw hc2_2
    have hl2_3 := (show _ < v2.drew.heap.size from hl2_2)
    generalize v2.drew = v3 at hK3 hBX_3 hBZ_3 hcf_3 hlf_3 hcm_3 hlm_3 hca_3 hla_3 hc0_3 hl0_3 hc2_3 hl2_3 ⊢
    clear hK2 hBX_2 hBZ_2 hcf_2 hlf_2 hcm_2 hlm_2 hca_2 hla_2 hc0_2 hl0_2 hc2_2 hl2_2
    have hKq4 := (Kept.refl v3.heap.size (fun _ => False) v3).alloc (.cells #[] 5) (Nat.le_refl _)
    have hO4 := Own.lit (b := v3.heap.size) (e := 5) (k := .u8) v3 [] (Nat.le_refl _) (Nat.zero_le _)
    refine Ls.made (w' := v3.alloc (.cells #[] 5)) (.slice (some ⟨v3.heap.size, 0, none⟩) 0 0) rfl (by kernel_rfl) (by kernel_rfl) (fun _ => ⟨hcf_3.below hKq4.below hlf_3, hcm_3.below hKq4.below hlm_3, hca_3.below hKq4.below hla_3, cell_bel hc0_3 hKq4.below hl0_3, cell_bel hc2_3 hKq4.below hl2_3⟩) ?_
    (try simp (config := {maxSteps := 2000000}) only [Act.put, List.getElem_toArray, List.getElem_cons_succ, List.getElem_cons_zero, List.setIfInBounds_toArray, List.set_cons_zero, List.set_cons_succ])
    change Own (v3.alloc (.cells #[] 5)) _ _ _ _ _ at hO4
    generalize v3.alloc (.cells #[] 5) = u4 at hKq4 hO4 ⊢
    refine Ls.app (c := c1) rfl rfl (.tmp 52) (.tmp 53) 24 5 .u8 1 rfl Tryd.underlying24 inf_u8 hO4 (((hRX.bel hBX_3).below hKq4.below).more hKq4.below.size) (by kernel_rfl) (by kernel_rfl) hm1 (sumT f.n sd sec tree q g ((2 * i) % 4294967296)) rfl m1 hm1 (by omega) (by omega) hKq4.below.size ?_
    intro hSx Aa5 ca5 ua5 hOa5 hga5 hfa5
    have hKq5 := hKq4.grew hO4 hga5 (Nat.le_refl _) hKq4.below.size
    refine ⟨⟨hcf_3.below hKq5.below hlf_3, hcm_3.below hKq5.below hlm_3, hca_3.below hKq5.below hla_3, cell_bel hc0_3 hKq5.below hl0_3, cell_bel hc2_3 hKq5.below hl2_3⟩, ?_⟩
    (try simp (config := {maxSteps := 2000000}) only [Act.put, List.getElem_toArray, List.getElem_cons_succ, List.getElem_cons_zero, List.setIfInBounds_toArray, List.set_cons_zero, List.set_cons_succ])
    clear hO4 hKq4 hSx hga5 hfa5
    obtain ⟨T, hTT⟩ : ∃ T, (sumT f.n sd sec tree q g ((2 * i) % 4294967296)) ++ (sumT f.n sd sec tree q g ((2 * i) % 4294967296 + 1)) = T := ⟨_, rfl⟩
    obtain ⟨nT, hnT⟩ : ∃ q, m1 + m2 = q := ⟨_, rfl⟩
    have hTl : T.length = nT := by rw [← hTT, List.length_append, hm1, hm2, hnT]
    have hTb : Bys T := by rw [← hTT]; exact (sumT_By _ _ _ _ _ _ _).append (sumT_By _ _ _ _ _ _ _)
    have hMT : (atL f.n sd tree q 3 ((g + 1 : Nat) : Int) i T).length = M := by rw [← hTT]; exact hM
    refine Ls.app (c := c2) rfl rfl (.tmp 54) (.tmp 55) 24 5 .u8 1 rfl Tryd.underlying24 inf_u8 hOa5 (((hRZ.bel hBZ_3).below hKq5.below).more hKq5.below.size) (by kernel_rfl) (by kernel_rfl) hm2 T hTT nT hTl (by omega) (by omega) hKq5.below.size ?_
    intro hSx Aa6 ca6 ua6 hOa6 hga6 hfa6
    have hKq6 := hKq5.grew hOa5 hga6 (Nat.le_refl _) hKq5.below.size
    refine ⟨⟨hcf_3.below hKq6.below hlf_3, hcm_3.below hKq6.below hlm_3, hca_3.below hKq6.below hla_3, cell_bel hc0_3 hKq6.below hl0_3, cell_bel hc2_3 hKq6.below hl2_3⟩, ?_⟩
    (try simp (config := {maxSteps := 2000000}) only [Act.put, List.getElem_toArray, List.getElem_cons_succ, List.getElem_cons_zero, List.setIfInBounds_toArray, List.set_cons_zero, List.set_cons_succ])
    clear hOa5 hKq5 hSx hga6 hfa6
    have hbq := hKq6.below
    have hK6 := bnx hK3 hbq hK3.size
    have hBX_6 := bnx hBX_3 hbq hBX_3.size
    have hBZ_6 := bnx hBZ_3 hbq hBZ_3.size
    have hcf_6 := hcf_3.below hbq hlf_3
    have hlf_6 := Nat.lt_of_lt_of_le hlf_3 hbq.size
    have hcm_6 := hcm_3.below hbq hlm_3
    have hlm_6 := Nat.lt_of_lt_of_le hlm_3 hbq.size
    have hca_6 := hca_3.below hbq hla_3
    have hla_6 := Nat.lt_of_lt_of_le hla_3 hbq.size
    have hc0_6 := cell_bel hc0_3 hbq hl0_3
    have hl0_6 := Nat.lt_of_lt_of_le hl0_3 hbq.size
    have hc2_6 := cell_bel hc2_3 hbq hl2_3
    have hl2_6 := Nat.lt_of_lt_of_le hl2_3 hbq.size
    have hcT : nT ≤ ca6 := by have := hOa6.len.2; rw [hTl] at this; exact this
    have hRT := hOa6.rd
    have hBT_4 := Below.refl ua6.heap.size ua6
    clear hOa6 hKq6 hbq hK3 hBX_3 hBZ_3 hcf_3 hlf_3 hcm_3 hlm_3 hca_3 hla_3 hc0_3 hl0_3 hc2_3 hl2_3
    refine Ls.call rfl (by kernel_rfl) (by kernel_rfl) (fun _ => (rat_any f sd Asd nd cd tree q 3 0 0 0 i (g + 1) T Aa6 nT ca6 M ua6 ht hq (W32.small (by decide) (by decide)) (by omega) hi (h1.bel hK6) hn1 hc1 hb1 (hRT.bel hBT_4) hTl hcT (by omega) hTb hMT).mono ?_)
    rintro e v7 ⟨A7, c7, rfl, hF7, hh7, hb7⟩
    have hK7 := bnx hK6 hb7 hK6.size
    have hBX_7 := bnx hBX_6 hb7 hBX_6.size
    have hBZ_7 := bnx hBZ_6 hb7 hBZ_6.size
    have hBT_7 := bnx hBT_4 hb7 hBT_4.size
    have hcf_7 := hcf_6.below hb7 hlf_6
    have hlf_7 := Nat.lt_of_lt_of_le hlf_6 hb7.size
    have hcm_7 := hcm_6.below hb7 hlm_6
    have hlm_7 := Nat.lt_of_lt_of_le hlm_6 hb7.size
    have hca_7 := hca_6.below hb7 hla_6
    have hla_7 := Nat.lt_of_lt_of_le hla_6 hb7.size
    have hc0_7 := cell_bel hc0_6 hb7 hl0_6
    have hl0_7 := Nat.lt_of_lt_of_le hl0_6 hb7.size
    have hc2_7 := cell_bel hc2_6 hb7 hl2_6
    have hl2_7 := Nat.lt_of_lt_of_le hl2_6 hb7.size
    rw [← hTT] at hF7
    refine ⟨_, rfl, ⟨hcf_7, hcm_7, hca_7, hc0_7, hc2_7⟩, ?_⟩
    (try simp (config := {maxSteps := 2000000}) only [Act.put, List.getElem_toArray, List.getElem_cons_succ, List.getElem_cons_zero, List.setIfInBounds_toArray, List.set_cons_zero, List.set_cons_succ])
    clear hK6 hBX_6 hBZ_6 hBT_4 hcf_6 hlf_6 hcm_6 hlm_6 hca_6 hla_6 hc0_6 hl0_6 hc2_6 hl2_6 hb7
    (refine Ls.val ?_ rfl (fun _ _ _ h => h) (by kernel_rfl) ?_ ?_; rotate_left 1; focus (intro w hw; go_simp; with_reducible rfl)); (try simp (config := {maxSteps := 2000000}) only [Act.put, List.getElem_toArray, List.getElem_cons_succ, List.getElem_cons_zero, List.setIfInBounds_toArray, List.set_cons_zero, List.set_cons_succ])
    refine Ls.done ?_
    intro _
    go_wp2_with fail
    go_ret
    exact ⟨_, _, rfl, hF7, hh7, hK7⟩
end Go.Proofs.YtfaonieaagepjaaDoor

/- Layer 17: which sets can be made, walked, in the program and in the reference. Conditions: none. -/
namespace Go.Proofs.YtfaonieaagepjaaDoor
open Go.RowKit
set_option linter.unusedVariables false
set_option linter.unusedSimpArgs false
structure Fw.made (f : Fw) (nsc nsl nd : Nat) : Prop where
  may : f.may
  h : f.h ≤ 6
  a : f.a ≤ 6
  c : (nsc : Int) = f.n
  l : (nsl : Int) = f.n
  d : (nd : Int) = f.n
set_option maxRecDepth 100000 in
set_option maxHeartbeats 4000000 in
theorem made_yes (f : Fw) (Asc Asl Asd : Option Addr) (nsc csc nsl csl nd cd : Nat) (w : World) (hf : f.ok) (hm : f.made nsc nsl nd) :
    Calls Tryd.prog 20 #[.agg f.cs, .agg #[.slice Asc nsc csc, .slice Asl nsl csl, .slice Asd nd cd]] w fun e w' => e = .returned (.bool true) ∧ Below w.heap.size w w' := by
  have hF := (Blk.new w 23 f.cs).alloc (.cells #[.slice Asc nsc csc, .slice Asl nsl csl, .slice Asd nd cd] 39)
  have hM := Blk.new (w.alloc (.cells f.cs 23)) 39 #[.slice Asc nsc csc, .slice Asl nsl csl, .slice Asd nd cd]
  have hK := bal (bal (Below.refl w.heap.size w) (Nat.le_refl _) (.cells f.cs 23)) (by simp) (.cells #[.slice Asc nsc csc, .slice Asl nsl csl, .slice Asd nd cd] 39)
  have hz : (w.alloc (.cells f.cs 23)).heap.size = w.heap.size + 1 := by simp
  go_enter Tryd.func20, Tryd.ntmps20
  go_upto_region 1 with fail
  change Code.wp _ _ _ _ ((w.alloc (.cells f.cs 23)).alloc (.cells #[.slice Asc nsc csc, .slice Asl nsl csl, .slice Asd nd cd] 39))
  generalize (w.alloc (.cells f.cs 23)).alloc (.cells #[.slice Asc nsc csc, .slice Asl nsl csl, .slice Asd nd cd] 39) = w0 at hF hM hK ⊢
  rw [hz] at hM
  clear hz
  have h0 := hF.cell 0 (.int .i64 f.n) rfl
  have h2 := hF.cell 2 (.int .i64 f.h) rfl
  have h4 := hF.cell 4 (.int .i64 f.a) rfl
  have hlf := hF.lt
  have m0 := hM.cell 0 (.slice Asc nsc csc) rfl
  have m1 := hM.cell 1 (.slice Asl nsl csl) rfl
  have m2 := hM.cell 2 (.slice Asd nd cd) rfl
  have hlm := hM.lt
  clear hM
  obtain ⟨hmay, hh, ha, hc, hl, hd⟩ := hm
  have esc : ((nsc : Int) == f.n) = true := by simp; omega
  have esl : ((nsl : Int) == f.n) = true := by simp; omega
  have ed : ((nd : Int) == f.n) = true := by simp; omega
  go_wp2_with (refine wpList_blk_yes (t := 23) (T := 23) (by rfl) rfl rfl Tryd.underlying23 rfl (by kernel_rfl) hF ?_)
  (with_reducible refine (may_yes f w0 hf hmay).mono ?_)
  rintro e w1 ⟨rfl, hb⟩
  have hK1 := bnx hK hb hK.size
  have h0_1 := cell_bel h0 hb hlf
  have h2_1 := cell_bel h2 hb hlf
  have h4_1 := cell_bel h4 hb hlf
  have m0_1 := cell_bel m0 hb hlm
  have m1_1 := cell_bel m1 hb hlm
  have m2_1 := cell_bel m2 hb hlm
  clear h0 h2 h4 m0 m1 m2 hF hb
  go_wp2_with fail
  go_ret
  exact ⟨by first | rfl | (simp; omega), hK1⟩
set_option maxRecDepth 100000 in
set_option maxHeartbeats 4000000 in
theorem made_no (f : Fw) (Asc Asl Asd : Option Addr) (nsc csc nsl csl nd cd : Nat) (w : World) (hf : f.ok) (hm : ¬ f.made nsc nsl nd) :
    Calls Tryd.prog 20 #[.agg f.cs, .agg #[.slice Asc nsc csc, .slice Asl nsl csl, .slice Asd nd cd]] w fun e w' => e = .returned (.bool false) ∧ Below w.heap.size w w' := by
  have hF := (Blk.new w 23 f.cs).alloc (.cells #[.slice Asc nsc csc, .slice Asl nsl csl, .slice Asd nd cd] 39)
  have hM := Blk.new (w.alloc (.cells f.cs 23)) 39 #[.slice Asc nsc csc, .slice Asl nsl csl, .slice Asd nd cd]
  have hK := bal (bal (Below.refl w.heap.size w) (Nat.le_refl _) (.cells f.cs 23)) (by simp) (.cells #[.slice Asc nsc csc, .slice Asl nsl csl, .slice Asd nd cd] 39)
  have hz : (w.alloc (.cells f.cs 23)).heap.size = w.heap.size + 1 := by simp
  go_enter Tryd.func20, Tryd.ntmps20
  go_upto_region 1 with fail
  change Code.wp _ _ _ _ ((w.alloc (.cells f.cs 23)).alloc (.cells #[.slice Asc nsc csc, .slice Asl nsl csl, .slice Asd nd cd] 39))
  generalize (w.alloc (.cells f.cs 23)).alloc (.cells #[.slice Asc nsc csc, .slice Asl nsl csl, .slice Asd nd cd] 39) = w0 at hF hM hK ⊢
  rw [hz] at hM
  clear hz
  have h0 := hF.cell 0 (.int .i64 f.n) rfl
  have h2 := hF.cell 2 (.int .i64 f.h) rfl
  have h4 := hF.cell 4 (.int .i64 f.a) rfl
  have hlf := hF.lt
  have m0 := hM.cell 0 (.slice Asc nsc csc) rfl
  have m1 := hM.cell 1 (.slice Asl nsl csl) rfl
  have m2 := hM.cell 2 (.slice Asd nd cd) rfl
  have hlm := hM.lt
  clear hM
  by_cases qsc : (nsc : Int) = f.n
  · have esc : ((nsc : Int) == f.n) = true := by simp; omega
    by_cases qsl : (nsl : Int) = f.n
    · have esl : ((nsl : Int) == f.n) = true := by simp; omega
      by_cases qd : (nd : Int) = f.n
      · have ed : ((nd : Int) == f.n) = true := by simp; omega
        by_cases hmay : f.may
        · go_wp2_with (refine wpList_blk_yes (t := 23) (T := 23) (by rfl) rfl rfl Tryd.underlying23 rfl (by kernel_rfl) hF ?_)
          (with_reducible refine (may_yes f w0 hf hmay).mono ?_)
          rintro e w1 ⟨rfl, hb⟩
          have hK1 := bnx hK hb hK.size
          have h0_1 := cell_bel h0 hb hlf
          have h2_1 := cell_bel h2 hb hlf
          have h4_1 := cell_bel h4 hb hlf
          have m0_1 := cell_bel m0 hb hlm
          have m1_1 := cell_bel m1 hb hlm
          have m2_1 := cell_bel m2 hb hlm
          clear h0 h2 h4 m0 m1 m2 hF hb
          by_cases hh : f.h ≤ 6
          · by_cases ha : f.a ≤ 6
            · exact absurd ⟨hmay, hh, ha, qsc, qsl, qd⟩ hm
            · go_wp2_with fail
              go_ret
              exact ⟨by first | rfl | (simp; omega), hK1⟩
          · go_wp2_with fail
            go_ret
            exact ⟨by first | rfl | (simp; omega), hK1⟩
        · go_wp2_with (refine wpList_blk_yes (t := 23) (T := 23) (by rfl) rfl rfl Tryd.underlying23 rfl (by kernel_rfl) hF ?_)
          (with_reducible refine (may_no f w0 hf hmay).mono ?_)
          rintro e w1 ⟨rfl, hb⟩
          have hK1 := bnx hK hb hK.size
          have h0_1 := cell_bel h0 hb hlf
          have h2_1 := cell_bel h2 hb hlf
          have h4_1 := cell_bel h4 hb hlf
          have m0_1 := cell_bel m0 hb hlm
          have m1_1 := cell_bel m1 hb hlm
          have m2_1 := cell_bel m2 hb hlm
          clear h0 h2 h4 m0 m1 m2 hF hb
          go_wp2_with fail
          go_ret
          exact ⟨by first | rfl | (simp; omega), hK1⟩
      · have ed : ((nd : Int) == f.n) = false := by simp; omega
        by_cases hmay : f.may
        · go_wp2_with (refine wpList_blk_yes (t := 23) (T := 23) (by rfl) rfl rfl Tryd.underlying23 rfl (by kernel_rfl) hF ?_)
          (with_reducible refine (may_yes f w0 hf hmay).mono ?_)
          rintro e w1 ⟨rfl, hb⟩
          have hK1 := bnx hK hb hK.size
          have h0_1 := cell_bel h0 hb hlf
          have h2_1 := cell_bel h2 hb hlf
          have h4_1 := cell_bel h4 hb hlf
          have m0_1 := cell_bel m0 hb hlm
          have m1_1 := cell_bel m1 hb hlm
          have m2_1 := cell_bel m2 hb hlm
          clear h0 h2 h4 m0 m1 m2 hF hb
          by_cases hh : f.h ≤ 6
          · by_cases ha : f.a ≤ 6
            · go_wp2_with fail
              go_ret
              exact ⟨by first | rfl | (simp; omega), hK1⟩
            · go_wp2_with fail
              go_ret
              exact ⟨by first | rfl | (simp; omega), hK1⟩
          · go_wp2_with fail
            go_ret
            exact ⟨by first | rfl | (simp; omega), hK1⟩
        · go_wp2_with (refine wpList_blk_yes (t := 23) (T := 23) (by rfl) rfl rfl Tryd.underlying23 rfl (by kernel_rfl) hF ?_)
          (with_reducible refine (may_no f w0 hf hmay).mono ?_)
          rintro e w1 ⟨rfl, hb⟩
          have hK1 := bnx hK hb hK.size
          have h0_1 := cell_bel h0 hb hlf
          have h2_1 := cell_bel h2 hb hlf
          have h4_1 := cell_bel h4 hb hlf
          have m0_1 := cell_bel m0 hb hlm
          have m1_1 := cell_bel m1 hb hlm
          have m2_1 := cell_bel m2 hb hlm
          clear h0 h2 h4 m0 m1 m2 hF hb
          go_wp2_with fail
          go_ret
          exact ⟨by first | rfl | (simp; omega), hK1⟩
    · have esl : ((nsl : Int) == f.n) = false := by simp; omega
      by_cases hmay : f.may
      · go_wp2_with (refine wpList_blk_yes (t := 23) (T := 23) (by rfl) rfl rfl Tryd.underlying23 rfl (by kernel_rfl) hF ?_)
        (with_reducible refine (may_yes f w0 hf hmay).mono ?_)
        rintro e w1 ⟨rfl, hb⟩
        have hK1 := bnx hK hb hK.size
        have h0_1 := cell_bel h0 hb hlf
        have h2_1 := cell_bel h2 hb hlf
        have h4_1 := cell_bel h4 hb hlf
        have m0_1 := cell_bel m0 hb hlm
        have m1_1 := cell_bel m1 hb hlm
        have m2_1 := cell_bel m2 hb hlm
        clear h0 h2 h4 m0 m1 m2 hF hb
        by_cases hh : f.h ≤ 6
        · by_cases ha : f.a ≤ 6
          · go_wp2_with fail
            go_ret
            exact ⟨by first | rfl | (simp; omega), hK1⟩
          · go_wp2_with fail
            go_ret
            exact ⟨by first | rfl | (simp; omega), hK1⟩
        · go_wp2_with fail
          go_ret
          exact ⟨by first | rfl | (simp; omega), hK1⟩
      · go_wp2_with (refine wpList_blk_yes (t := 23) (T := 23) (by rfl) rfl rfl Tryd.underlying23 rfl (by kernel_rfl) hF ?_)
        (with_reducible refine (may_no f w0 hf hmay).mono ?_)
        rintro e w1 ⟨rfl, hb⟩
        have hK1 := bnx hK hb hK.size
        have h0_1 := cell_bel h0 hb hlf
        have h2_1 := cell_bel h2 hb hlf
        have h4_1 := cell_bel h4 hb hlf
        have m0_1 := cell_bel m0 hb hlm
        have m1_1 := cell_bel m1 hb hlm
        have m2_1 := cell_bel m2 hb hlm
        clear h0 h2 h4 m0 m1 m2 hF hb
        go_wp2_with fail
        go_ret
        exact ⟨by first | rfl | (simp; omega), hK1⟩
  · have esc : ((nsc : Int) == f.n) = false := by simp; omega
    by_cases hmay : f.may
    · go_wp2_with (refine wpList_blk_yes (t := 23) (T := 23) (by rfl) rfl rfl Tryd.underlying23 rfl (by kernel_rfl) hF ?_)
      (with_reducible refine (may_yes f w0 hf hmay).mono ?_)
      rintro e w1 ⟨rfl, hb⟩
      have hK1 := bnx hK hb hK.size
      have h0_1 := cell_bel h0 hb hlf
      have h2_1 := cell_bel h2 hb hlf
      have h4_1 := cell_bel h4 hb hlf
      have m0_1 := cell_bel m0 hb hlm
      have m1_1 := cell_bel m1 hb hlm
      have m2_1 := cell_bel m2 hb hlm
      clear h0 h2 h4 m0 m1 m2 hF hb
      by_cases hh : f.h ≤ 6
      · by_cases ha : f.a ≤ 6
        · go_wp2_with fail
          go_ret
          exact ⟨by first | rfl | (simp; omega), hK1⟩
        · go_wp2_with fail
          go_ret
          exact ⟨by first | rfl | (simp; omega), hK1⟩
      · go_wp2_with fail
        go_ret
        exact ⟨by first | rfl | (simp; omega), hK1⟩
    · go_wp2_with (refine wpList_blk_yes (t := 23) (T := 23) (by rfl) rfl rfl Tryd.underlying23 rfl (by kernel_rfl) hF ?_)
      (with_reducible refine (may_no f w0 hf hmay).mono ?_)
      rintro e w1 ⟨rfl, hb⟩
      have hK1 := bnx hK hb hK.size
      have h0_1 := cell_bel h0 hb hlf
      have h2_1 := cell_bel h2 hb hlf
      have h4_1 := cell_bel h4 hb hlf
      have m0_1 := cell_bel m0 hb hlm
      have m1_1 := cell_bel m1 hb hlm
      have m2_1 := cell_bel m2 hb hlm
      clear h0 h2 h4 m0 m1 m2 hF hb
      go_wp2_with fail
      go_ret
      exact ⟨by first | rfl | (simp; omega), hK1⟩
set_option maxRecDepth 100000 in
set_option maxHeartbeats 4000000 in
theorem rmade_yes (f : Fw) (Asc Asl Asd : Option Addr) (nsc csc nsl csl nd cd : Nat) (w : World) (hf : f.ok) (hm : f.made nsc nsl nd) :
    Calls Tryd.prog 21 #[.agg f.cs, .agg #[.slice Asc nsc csc, .slice Asl nsl csl, .slice Asd nd cd]] w fun e w' => e = .returned (.bool true) ∧ Below w.heap.size w w' := by
  have hF := (Blk.new w 23 f.cs).alloc (.cells #[.slice Asc nsc csc, .slice Asl nsl csl, .slice Asd nd cd] 39)
  have hM := Blk.new (w.alloc (.cells f.cs 23)) 39 #[.slice Asc nsc csc, .slice Asl nsl csl, .slice Asd nd cd]
  have hK := bal (bal (Below.refl w.heap.size w) (Nat.le_refl _) (.cells f.cs 23)) (by simp) (.cells #[.slice Asc nsc csc, .slice Asl nsl csl, .slice Asd nd cd] 39)
  have hz : (w.alloc (.cells f.cs 23)).heap.size = w.heap.size + 1 := by simp
  go_enter Tryd.func21, Tryd.ntmps21
  go_upto_region 1 with fail
  change Code.wp _ _ _ _ ((w.alloc (.cells f.cs 23)).alloc (.cells #[.slice Asc nsc csc, .slice Asl nsl csl, .slice Asd nd cd] 39))
  generalize (w.alloc (.cells f.cs 23)).alloc (.cells #[.slice Asc nsc csc, .slice Asl nsl csl, .slice Asd nd cd] 39) = w0 at hF hM hK ⊢
  rw [hz] at hM
  clear hz
  have h0 := hF.cell 0 (.int .i64 f.n) rfl
  have h2 := hF.cell 2 (.int .i64 f.h) rfl
  have h4 := hF.cell 4 (.int .i64 f.a) rfl
  have hlf := hF.lt
  have m0 := hM.cell 0 (.slice Asc nsc csc) rfl
  have m1 := hM.cell 1 (.slice Asl nsl csl) rfl
  have m2 := hM.cell 2 (.slice Asd nd cd) rfl
  have hlm := hM.lt
  clear hM
  obtain ⟨hmay, hh, ha, hc, hl, hd⟩ := hm
  have esc : ((nsc : Int) == f.n) = true := by simp; omega
  have esl : ((nsl : Int) == f.n) = true := by simp; omega
  have ed : ((nd : Int) == f.n) = true := by simp; omega
  have hh7 : f.h < 7 := by omega
  have ha7 : f.a < 7 := by omega
  go_wp2_with (refine wpList_blk_yes (t := 23) (T := 23) (by rfl) rfl rfl Tryd.underlying23 rfl (by kernel_rfl) hF ?_)
  (with_reducible refine (rmay_yes f w0 hf hmay).mono ?_)
  rintro e w1 ⟨rfl, hb⟩
  have hK1 := bnx hK hb hK.size
  have h0_1 := cell_bel h0 hb hlf
  have h2_1 := cell_bel h2 hb hlf
  have h4_1 := cell_bel h4 hb hlf
  have m0_1 := cell_bel m0 hb hlm
  have m1_1 := cell_bel m1 hb hlm
  have m2_1 := cell_bel m2 hb hlm
  clear h0 h2 h4 m0 m1 m2 hF hb
  go_wp2_with fail
  go_ret
  exact ⟨by first | rfl | (simp; omega), hK1⟩
set_option maxRecDepth 100000 in
set_option maxHeartbeats 4000000 in
theorem rmade_no (f : Fw) (Asc Asl Asd : Option Addr) (nsc csc nsl csl nd cd : Nat) (w : World) (hf : f.ok) (hm : ¬ f.made nsc nsl nd) :
    Calls Tryd.prog 21 #[.agg f.cs, .agg #[.slice Asc nsc csc, .slice Asl nsl csl, .slice Asd nd cd]] w fun e w' => e = .returned (.bool false) ∧ Below w.heap.size w w' := by
  have hF := (Blk.new w 23 f.cs).alloc (.cells #[.slice Asc nsc csc, .slice Asl nsl csl, .slice Asd nd cd] 39)
  have hM := Blk.new (w.alloc (.cells f.cs 23)) 39 #[.slice Asc nsc csc, .slice Asl nsl csl, .slice Asd nd cd]
  have hK := bal (bal (Below.refl w.heap.size w) (Nat.le_refl _) (.cells f.cs 23)) (by simp) (.cells #[.slice Asc nsc csc, .slice Asl nsl csl, .slice Asd nd cd] 39)
  have hz : (w.alloc (.cells f.cs 23)).heap.size = w.heap.size + 1 := by simp
  go_enter Tryd.func21, Tryd.ntmps21
  go_upto_region 1 with fail
  change Code.wp _ _ _ _ ((w.alloc (.cells f.cs 23)).alloc (.cells #[.slice Asc nsc csc, .slice Asl nsl csl, .slice Asd nd cd] 39))
  generalize (w.alloc (.cells f.cs 23)).alloc (.cells #[.slice Asc nsc csc, .slice Asl nsl csl, .slice Asd nd cd] 39) = w0 at hF hM hK ⊢
  rw [hz] at hM
  clear hz
  have h0 := hF.cell 0 (.int .i64 f.n) rfl
  have h2 := hF.cell 2 (.int .i64 f.h) rfl
  have h4 := hF.cell 4 (.int .i64 f.a) rfl
  have hlf := hF.lt
  have m0 := hM.cell 0 (.slice Asc nsc csc) rfl
  have m1 := hM.cell 1 (.slice Asl nsl csl) rfl
  have m2 := hM.cell 2 (.slice Asd nd cd) rfl
  have hlm := hM.lt
  clear hM
  by_cases hmay : f.may
  · go_wp2_with (refine wpList_blk_yes (t := 23) (T := 23) (by rfl) rfl rfl Tryd.underlying23 rfl (by kernel_rfl) hF ?_)
    (with_reducible refine (rmay_yes f w0 hf hmay).mono ?_)
    rintro e w1 ⟨rfl, hb⟩
    have hK1 := bnx hK hb hK.size
    have h0_1 := cell_bel h0 hb hlf
    have h2_1 := cell_bel h2 hb hlf
    have h4_1 := cell_bel h4 hb hlf
    have m0_1 := cell_bel m0 hb hlm
    have m1_1 := cell_bel m1 hb hlm
    have m2_1 := cell_bel m2 hb hlm
    clear h0 h2 h4 m0 m1 m2 hF hb
    by_cases hh : f.h < 7
    · by_cases ha : f.a < 7
      · by_cases qsc : (nsc : Int) = f.n
        · have esc : ((nsc : Int) == f.n) = true := by simp; omega
          by_cases qsl : (nsl : Int) = f.n
          · have esl : ((nsl : Int) == f.n) = true := by simp; omega
            by_cases qd : (nd : Int) = f.n
            · have ed : ((nd : Int) == f.n) = true := by simp; omega
              exact absurd ⟨hmay, by omega, by omega, qsc, qsl, qd⟩ hm
            · have ed : ((nd : Int) == f.n) = false := by simp; omega
              go_wp2_with fail
              go_ret
              exact ⟨by first | rfl | (simp; omega), hK1⟩
          · have esl : ((nsl : Int) == f.n) = false := by simp; omega
            go_wp2_with fail
            go_ret
            exact ⟨by first | rfl | (simp; omega), hK1⟩
        · have esc : ((nsc : Int) == f.n) = false := by simp; omega
          go_wp2_with fail
          go_ret
          exact ⟨by first | rfl | (simp; omega), hK1⟩
      · go_wp2_with fail
        go_ret
        exact ⟨by first | rfl | (simp; omega), hK1⟩
    · go_wp2_with fail
      go_ret
      exact ⟨by first | rfl | (simp; omega), hK1⟩
  · go_wp2_with (refine wpList_blk_yes (t := 23) (T := 23) (by rfl) rfl rfl Tryd.underlying23 rfl (by kernel_rfl) hF ?_)
    (with_reducible refine (rmay_no f w0 hf hmay).mono ?_)
    rintro e w1 ⟨rfl, hb⟩
    have hK1 := bnx hK hb hK.size
    have h0_1 := cell_bel h0 hb hlf
    have h2_1 := cell_bel h2 hb hlf
    have h4_1 := cell_bel h4 hb hlf
    have m0_1 := cell_bel m0 hb hlm
    have m1_1 := cell_bel m1 hb hlm
    have m2_1 := cell_bel m2 hb hlm
    clear h0 h2 h4 m0 m1 m2 hF hb
    go_wp2_with fail
    go_ret
    exact ⟨by first | rfl | (simp; omega), hK1⟩
end Go.Proofs.YtfaonieaagepjaaDoor

/- Layer 17: the whole, walked, in the program and in the reference. Conditions: small lengths, words of their kinds, the tables. -/
namespace Go.Proofs.YtfaonieaagepjaaDoor
open Go.RowKit
set_option linter.unusedVariables false
set_option linter.unusedSimpArgs false
/-- A seed as long as a sum. -/
structure Szd (N : Int) (sd : List Int) : Prop where
  n : N = 16 ∨ N = 24 ∨ N = 32
  e : N = sd.length
theorem Fw.made.szd {f : Fw} {nsc nsl nd : Nat} {sd : List Int} (h : f.made nsc nsl nd) (hn : sd.length = nd) : Szd f.n sd := ⟨h.may.n, by rw [hn]; exact h.d.symm⟩
theorem atL_nd {N : Int} {sd : List Int} (h : Szd N sd) (tree q kd g i : Int) (x : List Int) : (atL N sd tree q kd g i x).length = sd.length := by
  unfold atL twO
  rw [if_pos ⟨h.n, h.e⟩, twL_len]
theorem sumT_nd {N : Int} {sd : List Int} (h : Szd N sd) (sec : List Int) (tree q : Int) (g : Nat) (i : Int) : (sumT N sd sec tree q g i).length = sd.length := by
  cases g <;> exact atL_nd h _ _ _ _ _ _
def sumsL (N : Int) (sd sec : List Int) (tree q : Int) (a : Nat) : Nat → List Int
  | 0 => []
  | k + 1 => sumsL N sd sec tree q a k ++ sumT N sd sec tree q a k
theorem sumsL_len {N : Int} {sd : List Int} (h : Szd N sd) (sec : List Int) (tree q : Int) (a : Nat) : ∀ k, (sumsL N sd sec tree q a k).length = sd.length * k
  | 0 => rfl
  | k + 1 => by rw [sumsL, List.length_append, sumsL_len h sec tree q a k, sumT_nd h, Nat.mul_succ]
theorem sumsL_B (N : Int) (sd sec : List Int) (tree q : Int) (a : Nat) : ∀ k, Bys (sumsL N sd sec tree q a k)
  | 0 => Bys.nil
  | k + 1 => (sumsL_B N sd sec tree q a k).append (sumT_By _ _ _ _ _ _ _)
def wholeL (N : Int) (sd sec : List Int) (tree q : Int) (a k : Nat) : List Int := atL N sd tree q 4 0 0 (sumsL N sd sec tree q a k)
theorem wpList_store_func {P : Program} {ops : Array Oper} {rest : List Oper} {o : Oper} {a : Act} {w : World} {Q : Exit → Act → World → Prop} (hgd : o.guard = none) (ty : TypeId) (x y : Operand) (ho : o.op = .store ty x y)
    (g t : Nat) (fn : Fn) (bs cs old : Array Value) (hx : a.eval x = .pointer (some ⟨g, 0, none⟩)) (hy : a.eval y = .func fn bs cs) (hg : Blk w g t old) (hi : (P.info? ty).map (·.size) = some 1) (hold : old.size = 1)
    (h : wpList P ops Q rest (a.put o.dst undef) (w.setRow g #[.func fn bs cs])) : wpList P ops Q (o :: rest) a w :=
  wpList_plain hgd fun _ hK => by
    have hh := hK _ _ h
    have this := run_storeCells_from (P := P) g t [.func fn bs cs] 0 old w hg (by simp [hold]) (fun v hv => by
      obtain rfl := List.mem_singleton.1 hv; rfl)
    have h3 : (storeVar ty ⟨g, 0, none⟩ (.func fn bs cs)).run P w = .ok () (w.setRow g #[.func fn bs cs]) := by
      cases hq : P.info? ty with
      | none => simp [hq] at hi
      | some i =>
        have hs : i.size = 1 := by simpa [hq] using hi
        obtain ⟨v0, rfl⟩ : ∃ v0, old = #[v0] := by
          match old, hold with
          | ⟨[v0]⟩, _ => exact ⟨v0, rfl⟩
        simp at this
        simp [storeVar, sizeOf, typeInfo, hq, Value.cells, hs, this]
    unfold Oper.wp execOp
    simp only [ho, hx, hy, Instr.storeAt, Instr.sureAddr, Sem.run_bind, Sem.run_pure, Result.andThen_ok, h3]
    exact hh
/-- What sums tells: the function, in its boxes. -/
structure SumsAt (f : Fw) (Asc Asl Asd : Option Addr) (nsc csc nsl csl nd cd : Nat) (tree q : Int) (b : Nat) (w : World) : Prop where
  p : Blk w b 67 (plc f Asd nd cd tree q)
  m : Blk w (b + 1) 39 #[.slice Asc nsc csc, .slice Asl nsl csl, .slice Asd nd cd]
  f : w.cell? ⟨b + 2, 0, none⟩ = some (.func (.func 73) #[] #[.pointer (some ⟨b, 0, none⟩), .pointer (some ⟨b + 1, 0, none⟩), .pointer (some ⟨b + 2, 0, none⟩)])
  lt : b + 2 < w.heap.size
theorem SumsAt.below {f : Fw} {Asc Asl Asd : Option Addr} {nsc csc nsl csl nd cd : Nat} {tree q : Int} {b : Nat} {w w' : World} (h : SumsAt f Asc Asl Asd nsc csc nsl csl nd cd tree q b w) (hb : Below w.heap.size w w') : SumsAt f Asc Asl Asd nsc csc nsl csl nd cd tree q b w' :=
  ⟨h.p.below hb h.p.lt, h.m.below hb h.m.lt, cell_bel h.f hb h.lt, Nat.lt_of_lt_of_le h.lt hb.size⟩
theorem SumsAt.kept {f : Fw} {Asc Asl Asd : Option Addr} {nsc csc nsl csl nd cd : Nat} {tree q : Int} {b B : Nat} {w w' : World} (h : SumsAt f Asc Asl Asd nsc csc nsl csl nd cd tree q b w) (hk : Kept B (fun _ => False) w w') (hB : w.heap.size = B) : SumsAt f Asc Asl Asd nsc csc nsl csl nd cd tree q b w' := by
  subst hB; exact h.below hk.below
set_option maxRecDepth 100000 in
theorem sums_any (f : Fw) (Asc Asl Asd : Option Addr) (nsc csc nsl csl nd cd : Nat) (tree q : Int) (w : World) :
    Calls Tryd.prog 52 #[.agg (plc f Asd nd cd tree q), .agg #[.slice Asc nsc csc, .slice Asl nsl csl, .slice Asd nd cd]] w fun e w' => e = .returned (.func (.func 73) #[] #[.pointer (some ⟨w.heap.size, 0, none⟩), .pointer (some ⟨w.heap.size + 1, 0, none⟩), .pointer (some ⟨w.heap.size + 2, 0, none⟩)]) ∧ SumsAt f Asc Asl Asd nsc csc nsl csl nd cd tree q w.heap.size w' ∧ Below w.heap.size w w' := by
  have hP := ((Blk.new w 67 (plc f Asd nd cd tree q)).alloc (.cells #[.slice Asc nsc csc, .slice Asl nsl csl, .slice Asd nd cd] 39)).alloc (.cells #[.nilFunc] 76)
  have hM := (Blk.new (w.alloc (.cells (plc f Asd nd cd tree q) 67)) 39 #[.slice Asc nsc csc, .slice Asl nsl csl, .slice Asd nd cd]).alloc (.cells #[.nilFunc] 76)
  have hF := Blk.new ((w.alloc (.cells (plc f Asd nd cd tree q) 67)).alloc (.cells #[.slice Asc nsc csc, .slice Asl nsl csl, .slice Asd nd cd] 39)) 76 #[.nilFunc]
  have hK := (((Kept.refl w.heap.size (fun _ => False) w).alloc (.cells (plc f Asd nd cd tree q) 67) (Nat.le_refl _)).alloc (.cells #[.slice Asc nsc csc, .slice Asl nsl csl, .slice Asd nd cd] 39) (by simp)).alloc (.cells #[.nilFunc] 76) (by simp; omega)
  have hz1 : (w.alloc (.cells (plc f Asd nd cd tree q) 67)).heap.size = w.heap.size + 1 := by simp
  have hz2 : ((w.alloc (.cells (plc f Asd nd cd tree q) 67)).alloc (.cells #[.slice Asc nsc csc, .slice Asl nsl csl, .slice Asd nd cd] 39)).heap.size = w.heap.size + 2 := by simp
  go_enter Tryd.func52, Tryd.ntmps52
  go_upto_region 2 with fail
  change Code.wp _ _ _ _ (((w.alloc (.cells (plc f Asd nd cd tree q) 67)).alloc (.cells #[.slice Asc nsc csc, .slice Asl nsl csl, .slice Asd nd cd] 39)).alloc (.cells #[.nilFunc] 76))
  generalize ((w.alloc (.cells (plc f Asd nd cd tree q) 67)).alloc (.cells #[.slice Asc nsc csc, .slice Asl nsl csl, .slice Asd nd cd] 39)).alloc (.cells #[.nilFunc] 76) = w0 at hP hM hF hK ⊢
  rw [hz1] at hM
  rw [hz2] at hF
  clear hz1 hz2
  go_upto_region 3 with (refine wpList_store_func (o := ⟨none, _, _, _, _, _⟩) rfl _ _ _ rfl (w.heap.size + 2) _ _ _ _ _ rfl rfl hF (by kernel_rfl) rfl ?_)
  have hF1 := hF.setRow #[.func (.func 73) #[] #[.pointer (some ⟨w.heap.size, 0, none⟩), .pointer (some ⟨w.heap.size + 1, 0, none⟩), .pointer (some ⟨w.heap.size + 2, 0, none⟩)]]
  have hP1 := hP.otherRow (w.heap.size + 2) #[.func (.func 73) #[] #[.pointer (some ⟨w.heap.size, 0, none⟩), .pointer (some ⟨w.heap.size + 1, 0, none⟩), .pointer (some ⟨w.heap.size + 2, 0, none⟩)]] (by omega)
  have hM1 := hM.otherRow (w.heap.size + 2) #[.func (.func 73) #[] #[.pointer (some ⟨w.heap.size, 0, none⟩), .pointer (some ⟨w.heap.size + 1, 0, none⟩), .pointer (some ⟨w.heap.size + 2, 0, none⟩)]] (by omega)
  have hK1 := hK.setRow (w.heap.size + 2) #[.func (.func 73) #[] #[.pointer (some ⟨w.heap.size, 0, none⟩), .pointer (some ⟨w.heap.size + 1, 0, none⟩), .pointer (some ⟨w.heap.size + 2, 0, none⟩)]] (.inl (by omega))
  generalize w0.setRow (w.heap.size + 2) #[.func (.func 73) #[] #[.pointer (some ⟨w.heap.size, 0, none⟩), .pointer (some ⟨w.heap.size + 1, 0, none⟩), .pointer (some ⟨w.heap.size + 2, 0, none⟩)]] = w1 at hF1 hP1 hM1 hK1 ⊢
  have hc1 := hF1.cell 0 (.func (.func 73) #[] #[.pointer (some ⟨w.heap.size, 0, none⟩), .pointer (some ⟨w.heap.size + 1, 0, none⟩), .pointer (some ⟨w.heap.size + 2, 0, none⟩)]) rfl
  clear hF hP hM hK
  go_wp2_with fail
  go_ret
  exact ⟨rfl, ⟨hP1, hM1, hc1, hF1.lt⟩, hK1.below⟩
set_option maxRecDepth 100000 in
theorem whole_no (f : Fw) (kn an : Nat) (hkn : f.k = kn) (han : f.a = an) (hf : f.ok) (Asc Asl Asd : Option Addr) (nsc csc nsl csl nd cd : Nat) (tree q : Int) (w : World) (hno : ¬ f.made nsc nsl nd) :
    Calls Tryd.prog 24 #[.agg f.cs, .agg #[.slice Asc nsc csc, .slice Asl nsl csl, .slice Asd nd cd], .int .u64 tree, .int .u32 q] w (NilP w) := by
  have hF := (Blk.new w 23 f.cs).alloc (.cells #[.slice Asc nsc csc, .slice Asl nsl csl, .slice Asd nd cd] 39)
  have hM := Blk.new (w.alloc (.cells f.cs 23)) 39 #[.slice Asc nsc csc, .slice Asl nsl csl, .slice Asd nd cd]
  have hK := bal (bal (Below.refl w.heap.size w) (Nat.le_refl _) (.cells f.cs 23)) (by simp) (.cells #[.slice Asc nsc csc, .slice Asl nsl csl, .slice Asd nd cd] 39)
  have hz : (w.alloc (.cells f.cs 23)).heap.size = w.heap.size + 1 := by simp
  have hmx : (200000000 : Nat) ≤ maxLen := by decide
  go_enter Tryd.func24, Tryd.ntmps24
  go_upto_region 1 with fail
  change Code.wp _ _ _ _ ((w.alloc (.cells f.cs 23)).alloc (.cells #[.slice Asc nsc csc, .slice Asl nsl csl, .slice Asd nd cd] 39))
  generalize (w.alloc (.cells f.cs 23)).alloc (.cells #[.slice Asc nsc csc, .slice Asl nsl csl, .slice Asd nd cd] 39) = w0 at hF hM hK ⊢
  rw [hz] at hM
  clear hz
  have h3 := hF.cell 3 (.int .i64 f.k) rfl
  have h4 := hF.cell 4 (.int .i64 f.a) rfl
  rw [hkn] at h3
  rw [han] at h4
  have hlf := hF.lt
  have hlf3 := hlf
  have hlf4 := hlf
  have m2 := hM.cell 2 (.slice Asd nd cd) rfl
  have hlm := hM.lt
  have hlm2 := hlm
  go_wp2_with (first | (refine wpList_blk_yes (t := 23) (T := 23) (by rfl) rfl rfl Tryd.underlying23 rfl (by kernel_rfl) hF ?_) | (refine wpList_blk_yes (t := 39) (T := 39) (by rfl) rfl rfl Tryd.underlying39 rfl (by kernel_rfl) hM ?_))
  (with_reducible refine (made_no f Asc Asl Asd nsc csc nsl csl nd cd w0 hf hno).mono ?_)
  rintro e v1 ⟨rfl, hb1⟩
  have hK1 := bnx hK hb1 hK.size
  have hcf_1 := hF.below hb1 hlf
  have hlf_1 := Nat.lt_of_lt_of_le hlf hb1.size
  have hcm_1 := hM.below hb1 hlm
  have hlm_1 := Nat.lt_of_lt_of_le hlm hb1.size
  have hc3_1 := cell_bel h3 hb1 hlf3
  have hl3_1 := Nat.lt_of_lt_of_le hlf3 hb1.size
  have hc4_1 := cell_bel h4 hb1 hlf4
  have hl4_1 := Nat.lt_of_lt_of_le hlf4 hb1.size
  have hc2_1 := cell_bel m2 hb1 hlm2
  have hl2_1 := Nat.lt_of_lt_of_le hlm2 hb1.size
  clear hK hF hlf hM hlm h3 hlf3 h4 hlf4 m2 hlm2 hb1
  go_wp2_with fail
  go_ret
  exact ⟨rfl, hK1⟩
def WhJ (w0 : World) (B : Nat) (N : Int) (sd sec : List Int) (tree q : Int) (a n kn gk : Nat) (v x : Value) (w : World) : Prop :=
  ∃ (i : Nat) (A : Option Addr) (c : Nat), v = .slice A (n * i) c ∧ x = .int .u32 i ∧ i ≤ kn ∧ gk = kn - i ∧ Own w B 5 .u8 (.slice A (n * i) c) (sumsL N sd sec tree q a i) ∧ Kept B (fun _ => False) w0 w
set_option maxRecDepth 100000 in
set_option maxHeartbeats 2000000 in
theorem whole_any (f : Fw) (kn an : Nat) (hkn : f.k = kn) (han : f.a = an) (hf : f.ok) (sec sd : List Int) (Asc Asl Asd : Option Addr) (nsc csc nsl csl nd cd : Nat) (tree q : Int) (w : World) (ht : U64 tree) (hq : W32 q) (hm : f.made nsc nsl nd) (h1 : Rd w w.heap.size .u8 Asd sd) (hn1 : sd.length = nd) (hc1 : nd ≤ cd) (hb1 : Bys sd) (hsec : Rd w w.heap.size .u8 Asc sec) (hnsc : sec.length = nsc) (hcsc : nsc ≤ csc) (hbsc : Bys sec) (hT : KTab w) :
    Calls Tryd.prog 24 #[.agg f.cs, .agg #[.slice Asc nsc csc, .slice Asl nsl csl, .slice Asd nd cd], .int .u64 tree, .int .u32 q] w (OutR w (wholeL f.n sd sec tree q an kn) nd) := by
  have hsz := hm.szd hn1
  have hk40 : kn ≤ 40 := by have := hm.may.k; omega
  have ha6 : an ≤ 6 := by have := hm.a; omega
  have hn32 : nd ≤ 32 := by have := hsz.n; have := hsz.e; omega
  have hcs : nsc ≤ 32 := by have := hm.c; have := hm.d; omega
  have hF := (Blk.new w 23 f.cs).alloc (.cells #[.slice Asc nsc csc, .slice Asl nsl csl, .slice Asd nd cd] 39)
  have hM := Blk.new (w.alloc (.cells f.cs 23)) 39 #[.slice Asc nsc csc, .slice Asl nsl csl, .slice Asd nd cd]
  have hK := bal (bal (Below.refl w.heap.size w) (Nat.le_refl _) (.cells f.cs 23)) (by simp) (.cells #[.slice Asc nsc csc, .slice Asl nsl csl, .slice Asd nd cd] 39)
  have hz : (w.alloc (.cells f.cs 23)).heap.size = w.heap.size + 1 := by simp
  have hmx : (200000000 : Nat) ≤ maxLen := by decide
  go_enter Tryd.func24, Tryd.ntmps24
  go_upto_region 1 with fail
  change Code.wp _ _ _ _ ((w.alloc (.cells f.cs 23)).alloc (.cells #[.slice Asc nsc csc, .slice Asl nsl csl, .slice Asd nd cd] 39))
  generalize (w.alloc (.cells f.cs 23)).alloc (.cells #[.slice Asc nsc csc, .slice Asl nsl csl, .slice Asd nd cd] 39) = w0 at hF hM hK ⊢
  rw [hz] at hM
  clear hz
  have h3 := hF.cell 3 (.int .i64 f.k) rfl
  have h4 := hF.cell 4 (.int .i64 f.a) rfl
  rw [hkn] at h3
  rw [han] at h4
  have hlf := hF.lt
  have hlf3 := hlf
  have hlf4 := hlf
  have m2 := hM.cell 2 (.slice Asd nd cd) rfl
  have hlm := hM.lt
  have hlm2 := hlm
  go_wp2_with (first | (refine wpList_blk_yes (t := 23) (T := 23) (by rfl) rfl rfl Tryd.underlying23 rfl (by kernel_rfl) hF ?_) | (refine wpList_blk_yes (t := 39) (T := 39) (by rfl) rfl rfl Tryd.underlying39 rfl (by kernel_rfl) hM ?_))
  (with_reducible refine (made_yes f Asc Asl Asd nsc csc nsl csl nd cd w0 hf hm).mono ?_)
  rintro e v1 ⟨rfl, hb1⟩
  have hK1 := bnx hK hb1 hK.size
  have hcf_1 := hF.below hb1 hlf
  have hlf_1 := Nat.lt_of_lt_of_le hlf hb1.size
  have hcm_1 := hM.below hb1 hlm
  have hlm_1 := Nat.lt_of_lt_of_le hlm hb1.size
  have hc3_1 := cell_bel h3 hb1 hlf3
  have hl3_1 := Nat.lt_of_lt_of_le hlf3 hb1.size
  have hc4_1 := cell_bel h4 hb1 hlf4
  have hl4_1 := Nat.lt_of_lt_of_le hlf4 hb1.size
  have hc2_1 := cell_bel m2 hb1 hlm2
  have hl2_1 := Nat.lt_of_lt_of_le hlm2 hb1.size
  clear hK hF hlf hM hlm h3 hlf3 h4 hlf4 m2 hlm2 hb1
  have hZ := Blk.new v1 67 #[.int .i64 0, .int .i64 0, .int .i64 0, .int .i64 0, .int .i64 0, .slice none 0 0, .int .u64 0, .int .u32 0]
  go_upto_region 4 with (first | (refine wpList_blk_yes (t := 23) (T := 23) (by rfl) rfl rfl Tryd.underlying23 rfl (by kernel_rfl) hcf_1 ?_) | (refine wpList_blk_yes (t := 39) (T := 39) (by rfl) rfl rfl Tryd.underlying39 rfl (by kernel_rfl) hcm_1 ?_) | (refine wpList_val_yes (o := ⟨some 22, _, _, _, _, _⟩) (.agg (plc f Asd nd cd tree q)) (by rfl) (by kernel_rfl) ?_) | (refine wpList_store_row (o := ⟨none, _, _, _, _, _⟩) rfl 67 _ _ rfl _ (plc f Asd nd cd tree q) rfl (by kernel_rfl) _ #[.int .i64 0, .int .i64 0, .int .i64 0, .int .i64 0, .int .i64 0, .slice none 0 0, .int .u64 0, .int .u32 0] hZ (by kernel_rfl) rfl (by kernel_rfl) ?_))
  have hpk := ((Kept.refl v1.heap.size (fun _ => False) v1).alloc (.cells #[.int .i64 0, .int .i64 0, .int .i64 0, .int .i64 0, .int .i64 0, .slice none 0 0, .int .u64 0, .int .u32 0] 67) (Nat.le_refl _)).setRow v1.heap.size (plc f Asd nd cd tree q) (.inl (Nat.le_refl _))
  have hpb := hZ.setRow (plc f Asd nd cd tree q)
  change Code.wp _ _ _ _ ((v1.alloc (.cells #[.int .i64 0, .int .i64 0, .int .i64 0, .int .i64 0, .int .i64 0, .slice none 0 0, .int .u64 0, .int .u32 0] 67)).setRow v1.heap.size (plc f Asd nd cd tree q))
  generalize (v1.alloc (.cells #[.int .i64 0, .int .i64 0, .int .i64 0, .int .i64 0, .int .i64 0, .slice none 0 0, .int .u64 0, .int .u32 0] 67)).setRow v1.heap.size (plc f Asd nd cd tree q) = v2 at hpk hpb ⊢
  have hbq := hpk.below
  have hK2 := bnx hK1 hbq hK1.size
  have hcf_2 := hcf_1.below hbq hlf_1
  have hlf_2 := Nat.lt_of_lt_of_le hlf_1 hbq.size
  have hcm_2 := hcm_1.below hbq hlm_1
  have hlm_2 := Nat.lt_of_lt_of_le hlm_1 hbq.size
  have hc3_2 := cell_bel hc3_1 hbq hl3_1
  have hl3_2 := Nat.lt_of_lt_of_le hl3_1 hbq.size
  have hc4_2 := cell_bel hc4_1 hbq hl4_1
  have hl4_2 := Nat.lt_of_lt_of_le hl4_1 hbq.size
  have hc2_2 := cell_bel hc2_1 hbq hl2_1
  have hl2_2 := Nat.lt_of_lt_of_le hl2_1 hbq.size
  have hlp := hpb.lt
  clear hpk hbq hZ hK1 hcf_1 hlf_1 hcm_1 hlm_1 hc3_1 hl3_1 hc4_1 hl4_1 hc2_1 hl2_1
  go_wp2_with (first | (refine wpList_blk_yes (t := 67) (T := 67) (by rfl) rfl rfl Tryd.underlying67 rfl (by kernel_rfl) hpb ?_) | (refine wpList_blk_yes (t := 39) (T := 39) (by rfl) rfl rfl Tryd.underlying39 rfl (by kernel_rfl) hcm_2 ?_))
  (with_reducible refine (sums_any f Asc Asl Asd nsc csc nsl csl nd cd tree q v2).mono ?_)
  rintro e v3 ⟨rfl, hS3, hb3⟩
  have hK3 := bnx hK2 hb3 hK2.size
  have hcf_3 := hcf_2.below hb3 hlf_2
  have hlf_3 := Nat.lt_of_lt_of_le hlf_2 hb3.size
  have hcm_3 := hcm_2.below hb3 hlm_2
  have hlm_3 := Nat.lt_of_lt_of_le hlm_2 hb3.size
  have hc3_3 := cell_bel hc3_2 hb3 hl3_2
  have hl3_3 := Nat.lt_of_lt_of_le hl3_2 hb3.size
  have hc4_3 := cell_bel hc4_2 hb3 hl4_2
  have hl4_3 := Nat.lt_of_lt_of_le hl4_2 hb3.size
  have hc2_3 := cell_bel hc2_2 hb3 hl2_2
  have hl2_3 := Nat.lt_of_lt_of_le hl2_2 hb3.size
  have hcp_3 := hpb.below hb3 hlp
  have hlp_3 := Nat.lt_of_lt_of_le hlp hb3.size
  clear hK2 hcf_2 hlf_2 hcm_2 hlm_2 hc3_2 hl3_2 hc4_2 hl4_2 hc2_2 hl2_2 hpb hlp hb3
  obtain ⟨bb, hbb⟩ : ∃ bb, v2.heap.size = bb := ⟨_, rfl⟩
  rw [hbb] at hS3 ⊢
  clear hbb
  have hkm : (kn : Int) % 4294967296 = kn := by omega
  have ham : (an : Int) % 4294967296 = an := by omega
  have hTb := hT.bel hK3
  have hr1 := h1.bel hK3
  have hr2 := hsec.bel hK3
  have hK0 := Kept.refl v3.heap.size (fun _ => False) v3
  obtain ⟨B, hB⟩ : ∃ B, v3.heap.size = B := ⟨_, rfl⟩
  rw [hB] at hK0
  have HB := Lib.hid hB
  have HS := Lib.hid hS3
  have HSZ := Lib.hid hsz
  clear hS3 hsz
  go_upto_region 7 with fail
  go_loopg [11, 29] kn (fun gk v x wr => WhJ v3 B f.n sd sec tree q an nd kn gk v x wr)
  case atStart => exact ⟨0, none, 0, rfl, rfl, Nat.zero_le _, rfl, Own.nil _ _ _ _, hK0⟩
  case round =>
    clear hK0
    obtain ⟨wq, rfl⟩ : ∃ wq : World, wq = wr := ⟨_, rfl⟩
    obtain ⟨i, Ao, co, rfl, rfl, hi, hgk, hO, hK⟩ := hrel
    have HGK := Lib.hid hgk
    have hwl : B ≤ wq.heap.size := by have := hK.size; have := HB.out; omega
    have hbw : Below v3.heap.size v3 wq := by rw [HB.out]; exact hK.below
    clear hgk
    by_cases hlt : i < kn
    · have hltI : (i : Int) < (kn : Int) := by omega
      have hSq := HS.out.below hbw
      have hA4 := cell_bel hc4_3 hbw hl4_3
      have hiW : W32 (i : Int) := ⟨by omega, by omega⟩
      have hsl := sumT_nd HSZ.out sec tree q an (i : Int)
      rw [hn1] at hsl
      have hta : sumsL f.n sd sec tree q an (i + 1) = sumsL f.n sd sec tree q an i ++ sumT f.n sd sec tree q an (i : Int) := rfl
      have HTA := Lib.hid hta
      have hLn : (sumsL f.n sd sec tree q an (i + 1)).length = nd * (i + 1) := by rw [sumsL_len HSZ.out, hn1]
      have hmul : nd * (i + 1) ≤ 1280 := Nat.le_trans (Nat.mul_le_mul hn32 (show i + 1 ≤ 40 by omega)) (by decide)
      have HLN := Lib.hid (And.intro hLn hmul)
      clear hta hLn hmul
      go_wp2_with fail
      (with_reducible refine (sums_fn f sec sd Asc Asl Asd nsc csc nsl csl nd cd tree q bb (bb + 1) (bb + 2) ht hq hn1 hc1 hb1 hnsc hcsc hbsc (by omega) an (by omega) i nd wq hiW (hr1.bel hbw) (hr2.bel hbw) (hTb.bel hbw) hSq.p hSq.m hSq.f hSq.lt hsl).mono ?_)
      rintro e w1 ⟨A1, c1, rfl, hR1, hh1, hb1'⟩
      have hK1 := kbl hK hwl hb1'
      have hOo := hO.below hb1' (Nat.le_refl _)
      have hz1' := hb1'.size
      clear hb1' hO hK hbw hSq hA4
      go_wp2_with (at_builtin; refine wpList_app rfl (.tmp 32) (.tmp 38) 24 5 .u8 1 rfl Tryd.underlying24 inf_u8 hOo hR1 rfl rfl hsl _ HTA.out.symm (nd * (i + 1)) HLN.out.1 (by have := HLN.out.2; omega) (by have := HLN.out.2; omega) (by omega) ?_; intro A2 c2 w2 hO2 hg2 hf2)
      have hK2 := hK1.grew hOo hg2 (Nat.le_refl _) (by omega)
      go_roundg (kn - (i + 1))
      case measure => have := HGK.out; omega
      case rel => exact ⟨i + 1, A2, c2, rfl, by go_num, by omega, rfl, hO2, hK2⟩
    · have hltI : ¬ (i : Int) < (kn : Int) := by omega
      obtain rfl : i = kn := by omega
      have hpq := hcp_3.below hbw hlp_3
      have hlq := Nat.lt_of_lt_of_le hlp_3 hbw.size
      have hKq := bnx hK3 hbw hK3.size
      have hRt := hO.rd
      have hcT := hO.len.2
      have hLn : (sumsL f.n sd sec tree q an i).length = nd * i := by rw [sumsL_len HSZ.out, hn1]
      have hmul : nd * i ≤ 1280 := Nat.le_trans (Nat.mul_le_mul hn32 hk40) (by decide)
      rw [hLn] at hcT
      have hfl : [sumsL f.n sd sec tree q an i].flatten = sumsL f.n sd sec tree q an i := by simp
      have hMM : (atL f.n sd tree q 4 0 0 [sumsL f.n sd sec tree q an i].flatten).length = nd := by rw [atL_nd HSZ.out, hn1]
      obtain ⟨nT, hnT⟩ : ∃ q, nd * i = q := ⟨_, rfl⟩
      rw [hnT] at hcT hLn hmul ⊢
      have hP := parts_of (w := wq) (T := 24) [.slice Ao nT co] [sumsL f.n sd sec tree q an i] rfl (fun i hi => match i, hi with | 0, _ => hRt.pt hLn hcT | m + 1, h => absurd h (by simp))
      have hKz := bal hKq hKq.size (.cells #[.slice Ao nT co] 24)
      have hz : (wq.alloc (.cells #[.slice Ao nT co] 24)).heap.size = wq.heap.size + 1 := by simp
      clear hO hK hnT
      go_wp2_with (refine wpList_blk_yes (t := 67) (T := 67) (by rfl) rfl rfl Tryd.underlying67 rfl (by kernel_rfl) hpq ?_)
      change Calls _ _ _ (wq.alloc (.cells #[.slice Ao nT co] 24)) _
      change Parts (wq.alloc (.cells #[.slice Ao nT co] 24)) _ _ _ at hP
      generalize wq.alloc (.cells #[.slice Ao nT co] 24) = wz at hP hKz hz ⊢
      (with_reducible refine (tweak_any f sd Asd nd cd tree q 4 0 0 [sumsL f.n sd sec tree q an i] (some ⟨wq.heap.size, 0, none⟩) 1 1 nd (wq.heap.size + 1) wz ht hq (W32.small (by decide) (by decide)) W32.z W32.z (h1.bel hKz) hn1 hc1 hb1 hP (by omega) rfl (by decide) (by decide) (by rw [hfl]; omega) (by rw [hfl]; exact sumsL_B _ _ _ _ _ _ _) (hT.bel hKz) hMM).mono ?_)
      rintro e w3 ⟨A3, c3, rfl, hR3, hh3, hb3⟩
      rw [hfl] at hR3
      have hK3 := bnx hKz hb3 hKz.size
      go_wp2_with fail
      go_ret
      exact ⟨_, _, rfl, hR3, hh3, hK3⟩
end Go.Proofs.YtfaonieaagepjaaDoor

/- Layer 17, the reference: the whole, walked. Conditions: small lengths, words of their kinds. -/
namespace Go.Proofs.YtfaonieaagepjaaDoor
open Go.RowKit
set_option linter.unusedVariables false
set_option linter.unusedSimpArgs false
theorem rat_0 (f : Fw) (sd : List Int) (Asd : Option Addr) (nd cd : Nat) (tree q kd k0 b0 c0 i : Int) (x : List Int) (A : Option Addr) (m c M : Nat) (w : World) (ht : U64 tree) (hq : W32 q) (hkd : W32 kd) (hi : W32 i)
    (h1 : Rd w w.heap.size .u8 Asd sd) (hn1 : sd.length = nd) (hc1 : nd ≤ cd) (hb1 : Bys sd) (h2 : Rd w w.heap.size .u8 A x) (hm : x.length = m) (hmc : m ≤ c) (hml : m ≤ 200000) (hbx : Bys x) (hM : (atL f.n sd tree q kd 0 i x).length = M) :
    Calls Tryd.prog 49 #[.agg f.cs, .slice Asd nd cd, .agg (Ad.cs ⟨0, tree, k0, q, b0, c0⟩), .int .u32 kd, .int .i64 0, .int .u32 i, .slice A m c] w (OutR w (atL f.n sd tree q kd 0 i x) M) :=
  rat_any f sd Asd nd cd tree q kd k0 b0 c0 i 0 x A m c M w ht hq hkd (by decide) hi h1 hn1 hc1 hb1 h2 hm hmc hml hbx hM
set_option maxRecDepth 100000 in
theorem rwhole_no (f : Fw) (kn an : Nat) (hkn : f.k = kn) (han : f.a = an) (hf : f.ok) (Asc Asl Asd : Option Addr) (nsc csc nsl csl nd cd : Nat) (tree q : Int) (w : World) (hno : ¬ f.made nsc nsl nd) :
    Calls Tryd.prog 25 #[.agg f.cs, .agg #[.slice Asc nsc csc, .slice Asl nsl csl, .slice Asd nd cd], .int .u64 tree, .int .u32 q] w (NilP w) := by
  have hF := (Blk.new w 23 f.cs).alloc (.cells #[.slice Asc nsc csc, .slice Asl nsl csl, .slice Asd nd cd] 39)
  have hM := Blk.new (w.alloc (.cells f.cs 23)) 39 #[.slice Asc nsc csc, .slice Asl nsl csl, .slice Asd nd cd]
  have hK := bal (bal (Below.refl w.heap.size w) (Nat.le_refl _) (.cells f.cs 23)) (by simp) (.cells #[.slice Asc nsc csc, .slice Asl nsl csl, .slice Asd nd cd] 39)
  have hz : (w.alloc (.cells f.cs 23)).heap.size = w.heap.size + 1 := by simp
  have hmx : (200000000 : Nat) ≤ maxLen := by decide
  go_enter Tryd.func25, Tryd.ntmps25
  go_upto_region 1 with fail
  change Code.wp _ _ _ _ ((w.alloc (.cells f.cs 23)).alloc (.cells #[.slice Asc nsc csc, .slice Asl nsl csl, .slice Asd nd cd] 39))
  generalize (w.alloc (.cells f.cs 23)).alloc (.cells #[.slice Asc nsc csc, .slice Asl nsl csl, .slice Asd nd cd] 39) = w0 at hF hM hK ⊢
  rw [hz] at hM
  clear hz
  have h3 := hF.cell 3 (.int .i64 f.k) rfl
  have h4 := hF.cell 4 (.int .i64 f.a) rfl
  rw [hkn] at h3
  rw [han] at h4
  have hlf := hF.lt
  have hlf3 := hlf
  have hlf4 := hlf
  have m2 := hM.cell 2 (.slice Asd nd cd) rfl
  have hlm := hM.lt
  have hlm2 := hlm
  go_wp2_with (first | (refine wpList_blk_yes (t := 23) (T := 23) (by rfl) rfl rfl Tryd.underlying23 rfl (by kernel_rfl) hF ?_) | (refine wpList_blk_yes (t := 39) (T := 39) (by rfl) rfl rfl Tryd.underlying39 rfl (by kernel_rfl) hM ?_))
  (with_reducible refine (rmade_no f Asc Asl Asd nsc csc nsl csl nd cd w0 hf hno).mono ?_)
  rintro e v1 ⟨rfl, hb1⟩
  have hK1 := bnx hK hb1 hK.size
  have hcf_1 := hF.below hb1 hlf
  have hlf_1 := Nat.lt_of_lt_of_le hlf hb1.size
  have hcm_1 := hM.below hb1 hlm
  have hlm_1 := Nat.lt_of_lt_of_le hlm hb1.size
  have hc3_1 := cell_bel h3 hb1 hlf3
  have hl3_1 := Nat.lt_of_lt_of_le hlf3 hb1.size
  have hc4_1 := cell_bel h4 hb1 hlf4
  have hl4_1 := Nat.lt_of_lt_of_le hlf4 hb1.size
  have hc2_1 := cell_bel m2 hb1 hlm2
  have hl2_1 := Nat.lt_of_lt_of_le hlm2 hb1.size
  clear hK hF hlf hM hlm h3 hlf3 h4 hlf4 m2 hlm2 hb1
  go_wp2_with fail
  go_ret
  exact ⟨rfl, hK1⟩
def RWhJ (w0 : World) (B : Nat) (N : Int) (sd sec : List Int) (tree q : Int) (a n kn gk : Nat) (v x : Value) (w : World) : Prop :=
  ∃ (i : Nat) (A : Option Addr) (c : Nat), v = .slice A (n * i) c ∧ x = .int .i64 i ∧ i ≤ kn ∧ gk = kn - i ∧ Own w B 5 .u8 (.slice A (n * i) c) (sumsL N sd sec tree q a i) ∧ Kept B (fun _ => False) w0 w
set_option maxRecDepth 100000 in
set_option maxHeartbeats 2000000 in
theorem rwhole_any (f : Fw) (kn an : Nat) (hkn : f.k = kn) (han : f.a = an) (hf : f.ok) (sec sd : List Int) (Asc Asl Asd : Option Addr) (nsc csc nsl csl nd cd : Nat) (tree q : Int) (w : World) (ht : U64 tree) (hq : W32 q) (hm : f.made nsc nsl nd) (h1 : Rd w w.heap.size .u8 Asd sd) (hn1 : sd.length = nd) (hc1 : nd ≤ cd) (hb1 : Bys sd) (hsec : Rd w w.heap.size .u8 Asc sec) (hnsc : sec.length = nsc) (hcsc : nsc ≤ csc) (hbsc : Bys sec) :
    Calls Tryd.prog 25 #[.agg f.cs, .agg #[.slice Asc nsc csc, .slice Asl nsl csl, .slice Asd nd cd], .int .u64 tree, .int .u32 q] w (OutR w (wholeL f.n sd sec tree q an kn) nd) := by
  have hsz := hm.szd hn1
  have hk40 : kn ≤ 40 := by have := hm.may.k; omega
  have ha6 : an ≤ 6 := by have := hm.a; omega
  have hn32 : nd ≤ 32 := by have := hsz.n; have := hsz.e; omega
  have hcs : nsc ≤ 32 := by have := hm.c; have := hm.d; omega
  have hF := (Blk.new w 23 f.cs).alloc (.cells #[.slice Asc nsc csc, .slice Asl nsl csl, .slice Asd nd cd] 39)
  have hM := Blk.new (w.alloc (.cells f.cs 23)) 39 #[.slice Asc nsc csc, .slice Asl nsl csl, .slice Asd nd cd]
  have hK := bal (bal (Below.refl w.heap.size w) (Nat.le_refl _) (.cells f.cs 23)) (by simp) (.cells #[.slice Asc nsc csc, .slice Asl nsl csl, .slice Asd nd cd] 39)
  have hz : (w.alloc (.cells f.cs 23)).heap.size = w.heap.size + 1 := by simp
  have hmx : (200000000 : Nat) ≤ maxLen := by decide
  go_enter Tryd.func25, Tryd.ntmps25
  go_upto_region 1 with fail
  change Code.wp _ _ _ _ ((w.alloc (.cells f.cs 23)).alloc (.cells #[.slice Asc nsc csc, .slice Asl nsl csl, .slice Asd nd cd] 39))
  generalize (w.alloc (.cells f.cs 23)).alloc (.cells #[.slice Asc nsc csc, .slice Asl nsl csl, .slice Asd nd cd] 39) = w0 at hF hM hK ⊢
  rw [hz] at hM
  clear hz
  have h3 := hF.cell 3 (.int .i64 f.k) rfl
  have h4 := hF.cell 4 (.int .i64 f.a) rfl
  rw [hkn] at h3
  rw [han] at h4
  have hlf := hF.lt
  have hlf3 := hlf
  have hlf4 := hlf
  have m2 := hM.cell 2 (.slice Asd nd cd) rfl
  have hlm := hM.lt
  have hlm2 := hlm
  go_wp2_with (first | (refine wpList_blk_yes (t := 23) (T := 23) (by rfl) rfl rfl Tryd.underlying23 rfl (by kernel_rfl) hF ?_) | (refine wpList_blk_yes (t := 39) (T := 39) (by rfl) rfl rfl Tryd.underlying39 rfl (by kernel_rfl) hM ?_))
  (with_reducible refine (rmade_yes f Asc Asl Asd nsc csc nsl csl nd cd w0 hf hm).mono ?_)
  rintro e v1 ⟨rfl, hb1⟩
  have hK1 := bnx hK hb1 hK.size
  have hcf_1 := hF.below hb1 hlf
  have hlf_1 := Nat.lt_of_lt_of_le hlf hb1.size
  have hcm_1 := hM.below hb1 hlm
  have hlm_1 := Nat.lt_of_lt_of_le hlm hb1.size
  have hc3_1 := cell_bel h3 hb1 hlf3
  have hl3_1 := Nat.lt_of_lt_of_le hlf3 hb1.size
  have hc4_1 := cell_bel h4 hb1 hlf4
  have hl4_1 := Nat.lt_of_lt_of_le hlf4 hb1.size
  have hc2_1 := cell_bel m2 hb1 hlm2
  have hl2_1 := Nat.lt_of_lt_of_le hlm2 hb1.size
  clear hK hF hlf hM hlm h3 hlf3 h4 hlf4 m2 hlm2 hb1
  have hZ := Blk.new v1 46 #[.int .u32 0, .int .u64 0, .int .u32 0, .int .u32 0, .int .u32 0, .int .u32 0]
  go_upto_region 5 with (first | (refine wpList_val_yes (o := ⟨some 18, _, _, _, _, _⟩) (.agg (Ad.cs ⟨0, tree, 0, q, 0, 0⟩)) (by rfl) (by kernel_rfl) ?_) | (refine wpList_store_row (o := ⟨none, _, _, _, _, _⟩) rfl 46 _ _ rfl _ (Ad.cs ⟨0, tree, 0, q, 0, 0⟩) rfl (by kernel_rfl) _ #[.int .u32 0, .int .u64 0, .int .u32 0, .int .u32 0, .int .u32 0, .int .u32 0] hZ (by kernel_rfl) rfl (by kernel_rfl) ?_))
  have hpk := ((Kept.refl v1.heap.size (fun _ => False) v1).alloc (.cells #[.int .u32 0, .int .u64 0, .int .u32 0, .int .u32 0, .int .u32 0, .int .u32 0] 46) (Nat.le_refl _)).setRow v1.heap.size (Ad.cs ⟨0, tree, 0, q, 0, 0⟩) (.inl (Nat.le_refl _))
  have hpb := hZ.setRow (Ad.cs ⟨0, tree, 0, q, 0, 0⟩)
  change Code.wp _ _ _ _ ((v1.alloc (.cells #[.int .u32 0, .int .u64 0, .int .u32 0, .int .u32 0, .int .u32 0, .int .u32 0] 46)).setRow v1.heap.size (Ad.cs ⟨0, tree, 0, q, 0, 0⟩))
  obtain ⟨ba, hba⟩ : ∃ b, v1.heap.size = b := ⟨_, rfl⟩
  have hbq := hpk.below
  generalize (v1.alloc (.cells #[.int .u32 0, .int .u64 0, .int .u32 0, .int .u32 0, .int .u32 0, .int .u32 0] 46)).setRow v1.heap.size (Ad.cs ⟨0, tree, 0, q, 0, 0⟩) = v2 at hpk hpb hbq ⊢
  have hK2 := bnx hK1 hbq hK1.size
  have hcf_2 := hcf_1.below hbq hlf_1
  have hlf_2 := Nat.lt_of_lt_of_le hlf_1 hbq.size
  have hcm_2 := hcm_1.below hbq hlm_1
  have hlm_2 := Nat.lt_of_lt_of_le hlm_1 hbq.size
  have hc3_2 := cell_bel hc3_1 hbq hl3_1
  have hl3_2 := Nat.lt_of_lt_of_le hl3_1 hbq.size
  have hc4_2 := cell_bel hc4_1 hbq hl4_1
  have hl4_2 := Nat.lt_of_lt_of_le hl4_1 hbq.size
  have hc2_2 := cell_bel hc2_1 hbq hl2_1
  have hl2_2 := Nat.lt_of_lt_of_le hl2_1 hbq.size
  rw [hba] at hpb ⊢
  have hlp := hpb.lt
  clear hpk hbq hZ hba hK1 hcf_1 hlf_1 hcm_1 hlm_1 hc3_1 hl3_1 hc4_1 hl4_1 hc2_1 hl2_1
  have hr1 := h1.bel hK2
  have hr2 := hsec.bel hK2
  have hK0 := Kept.refl v2.heap.size (fun _ => False) v2
  obtain ⟨B, hB⟩ : ∃ B, v2.heap.size = B := ⟨_, rfl⟩
  rw [hB] at hK0
  have HB := Lib.hid hB
  have HSZ := Lib.hid hsz
  clear hsz
  go_upto_region 6 with fail
  go_loopg [9, 11] kn (fun gk v x wr => RWhJ v2 B f.n sd sec tree q an nd kn gk v x wr)
  case atStart => exact ⟨0, none, 0, rfl, rfl, Nat.zero_le _, rfl, Own.nil _ _ _ _, hK0⟩
  case round =>
    clear hK0
    obtain ⟨wq, rfl⟩ : ∃ wq : World, wq = wr := ⟨_, rfl⟩
    obtain ⟨i, Ao, co, rfl, rfl, hi, hgk, hO, hK⟩ := hrel
    have HGK := Lib.hid hgk
    have hwl : B ≤ wq.heap.size := by have := hK.size; have := HB.out; omega
    have hbw : Below v2.heap.size v2 wq := by rw [HB.out]; exact hK.below
    clear hgk
    by_cases hlt : i < kn
    · have hltI : (i : Int) < (kn : Int) := by omega
      have hqf := hcf_2.below hbw hlf_2
      have hqm := hcm_2.below hbw hlm_2
      have hqa := hpb.below hbw hlp
      have hq3 := cell_bel hc3_2 hbw hl3_2
      have hq4 := cell_bel hc4_2 hbw hl4_2
      have hq2 := cell_bel hc2_2 hbw hl2_2
      have hiW : W32 (i : Int) := ⟨by omega, by omega⟩
      have him : (i : Int) % 4294967296 = i := by omega
      have hsl := sumT_nd HSZ.out sec tree q an (i : Int)
      rw [hn1] at hsl
      have hta : sumsL f.n sd sec tree q an (i + 1) = sumsL f.n sd sec tree q an i ++ sumT f.n sd sec tree q an (i : Int) := rfl
      have HTA := Lib.hid hta
      have hLn : (sumsL f.n sd sec tree q an (i + 1)).length = nd * (i + 1) := by rw [sumsL_len HSZ.out, hn1]
      have hmul : nd * (i + 1) ≤ 1280 := Nat.le_trans (Nat.mul_le_mul hn32 (show i + 1 ≤ 40 by omega)) (by decide)
      have HLN := Lib.hid (And.intro hLn hmul)
      clear hta hLn hmul
      go_wp2_with (first | (refine wpList_blk_yes (t := 23) (T := 23) (by rfl) rfl rfl Tryd.underlying23 rfl (by kernel_rfl) hqf ?_) | (refine wpList_blk_yes (t := 39) (T := 39) (by rfl) rfl rfl Tryd.underlying39 rfl (by kernel_rfl) hqm ?_) | (refine wpList_blk_yes (t := 46) (T := 46) (by rfl) rfl rfl Tryd.underlying46 rfl (by kernel_rfl) hqa ?_))
      (with_reducible refine (rsum_any f sec sd Asc Asl Asd nsc csc nsl csl nd cd tree q ht hq hn1 hc1 hb1 hnsc hcsc hbsc (by omega) an (by omega) i nd wq hiW (hr1.bel hbw) (hr2.bel hbw) hsl).mono ?_)
      rintro e w1 ⟨A1, c1, rfl, hR1, hh1, hb1'⟩
      have hK1 := kbl hK hwl hb1'
      have hOo := hO.below hb1' (Nat.le_refl _)
      have hz1' := hb1'.size
      clear hb1' hO hK hbw hqf hqm hqa hq3 hq4 hq2
      go_wp2_with (at_builtin; refine wpList_app rfl (.tmp 25) (.tmp 33) 24 5 .u8 1 rfl Tryd.underlying24 inf_u8 hOo hR1 rfl rfl hsl _ HTA.out.symm (nd * (i + 1)) HLN.out.1 (by have := HLN.out.2; omega) (by have := HLN.out.2; omega) (by omega) ?_; intro A2 c2 w2 hO2 hg2 hf2)
      have hK2 := hK1.grew hOo hg2 (Nat.le_refl _) (by omega)
      go_roundg (kn - (i + 1))
      case measure => have := HGK.out; omega
      case rel => exact ⟨i + 1, A2, c2, rfl, by go_num, by omega, rfl, hO2, hK2⟩
    · have hltI : ¬ (i : Int) < (kn : Int) := by omega
      obtain rfl : i = kn := by omega
      have hqf := hcf_2.below hbw hlf_2
      have hqm := hcm_2.below hbw hlm_2
      have hqa := hpb.below hbw hlp
      have hq3 := cell_bel hc3_2 hbw hl3_2
      have hq4 := cell_bel hc4_2 hbw hl4_2
      have hq2 := cell_bel hc2_2 hbw hl2_2
      have hKq := bnx hK2 hbw hK2.size
      have hRt := hO.rd
      have hcT := hO.len.2
      have hLn : (sumsL f.n sd sec tree q an i).length = nd * i := by rw [sumsL_len HSZ.out, hn1]
      have hmul : nd * i ≤ 1280 := Nat.le_trans (Nat.mul_le_mul hn32 hk40) (by decide)
      rw [hLn] at hcT
      have hMM : (atL f.n sd tree q 4 0 0 (sumsL f.n sd sec tree q an i)).length = nd := by rw [atL_nd HSZ.out, hn1]
      obtain ⟨nT, hnT⟩ : ∃ q, nd * i = q := ⟨_, rfl⟩
      rw [hnT] at hcT hLn hmul ⊢
      clear hO hK hnT
      go_wp2_with (first | (refine wpList_blk_yes (t := 23) (T := 23) (by rfl) rfl rfl Tryd.underlying23 rfl (by kernel_rfl) hqf ?_) | (refine wpList_blk_yes (t := 39) (T := 39) (by rfl) rfl rfl Tryd.underlying39 rfl (by kernel_rfl) hqm ?_) | (refine wpList_blk_yes (t := 46) (T := 46) (by rfl) rfl rfl Tryd.underlying46 rfl (by kernel_rfl) hqa ?_))
      (with_reducible refine (rat_0 f sd Asd nd cd tree q 4 0 0 0 0 (sumsL f.n sd sec tree q an i) Ao nT co nd wq ht hq (W32.small (by decide) (by decide)) W32.z (h1.bel hKq) hn1 hc1 hb1 hRt hLn hcT (by omega) (sumsL_B _ _ _ _ _ _ _) hMM).mono ?_)
      rintro e w3 ⟨A3, c3, rfl, hR3, hh3, hb3⟩
      have hK3 := bnx hKq hb3 hKq.size
      go_wp2_with fail
      go_ret
      exact ⟨_, _, rfl, hR3, hh3, hK3⟩
end Go.Proofs.YtfaonieaagepjaaDoor

/- Layer 17: where a secret and its sums lead, walked. Conditions: small lengths, words of their kinds, the tables. -/
namespace Go.Proofs.YtfaonieaagepjaaDoor
open Go.RowKit
set_option linter.unusedVariables false
set_option linter.unusedSimpArgs false
theorem size_u8 : (Tryd.prog.info? 5).map (·.size) = some 1 := by kernel_rfl
theorem cut_any (A : Option Addr) (m c lo up n : Nat) (h1 : lo ≤ up) (h2 : up ≤ c) (hn : up - lo = n) (wx : World) : (Instr.slice 24 (.slice A m c) (some (.int .i64 (lo : Int))) (some (.int .i64 (up : Int))) none).run Tryd.prog wx = .ok (.slice (if c = lo then A else A.map (·.add lo)) n (c - lo)) wx := by
  subst hn
  exact run_slice_ab (P := Tryd.prog) 24 5 Tryd.underlying24 size_u8 A m c lo up h1 h2 .i64 .i64 wx
theorem mulw (g j nd lo : Nat) (h : (g + j) * nd = lo) (hl : lo ≤ 1000000) : wrap64 (((g : Int) + (j : Int)) * (nd : Int)) = (lo : Int) := by
  have e : ((g : Int) + (j : Int)) * (nd : Int) = (lo : Int) := by rw [← h, Int.natCast_mul, Int.natCast_add]
  rw [e]
  exact IntWalk.wrap64_in _ ⟨by omega, by omega⟩
def row (l : List Int) (n k : Nat) : List Int := (l.take ((k + 1) * n)).drop (k * n)
theorem row_len (l : List Int) (n k : Nat) (h : (k + 1) * n ≤ l.length) : (row l n k).length = n := by
  unfold row
  rw [List.length_drop, List.length_take, Nat.min_eq_left h, Nat.succ_mul]; omega
theorem row_B {l : List Int} (h : Bys l) (n k : Nat) : Bys (row l n k) := (h.take _).drop _
theorem and_one (x : Int) (h0 : 0 ≤ x) (h1 : x < 4294967296) : bits .and .u32 x 1 = x % 2 := by
  obtain ⟨n, rfl⟩ : ∃ n : Nat, x = n := ⟨x.toNat, by omega⟩
  rw [bw_and]
  have e : (bw (n : Int)).toNat = n := by simp [bw]; omega
  rw [BitVec.toNat_and, e]
  have e1 : (bw 1).toNat = 1 := by decide
  rw [e1, Nat.and_one_is_mod]; push_cast; rfl
theorem shr_W (i g : Nat) (hi : i < 4294967296) : 0 ≤ (i : Int) / 2 ^ g ∧ (i : Int) / 2 ^ g < 4294967296 :=
  ⟨Int.ediv_nonneg (by omega) (Int.le_of_lt (Int.pow_pos (by decide))), Int.lt_of_le_of_lt (Int.ediv_le_self _ (by omega)) (by omega)⟩
def climbL (N : Int) (sd : List Int) (tree q : Int) (told : List Int) (n : Nat) (i : Nat) : Nat → List Int
  | 0 => atL N sd tree q 3 0 i (row told n 0)
  | g + 1 => atL N sd tree q 3 ((g : Int) + 1) ((i : Int) / 2 ^ (g + 1))
      (if i / 2 ^ g % 2 = 1 then row told n (g + 1) ++ climbL N sd tree q told n i g else climbL N sd tree q told n i g ++ row told n (g + 1))
theorem climbL_len {N : Int} {sd : List Int} (h : Szd N sd) (tree q : Int) (told : List Int) (n i g : Nat) : (climbL N sd tree q told n i g).length = sd.length := by
  cases g <;> exact atL_nd h _ _ _ _ _ _
theorem climbL_B (N : Int) (sd : List Int) (tree q : Int) (told : List Int) (n i g : Nat) : Bys (climbL N sd tree q told n i g) := by
  cases g <;> exact atL_B _ _ _ _ _ _ _ _
def ClJ (w0 : World) (N : Int) (sd : List Int) (tree q : Int) (told : List Int) (n i a gk : Nat) (v x : Value) (w : World) : Prop :=
  ∃ (g : Nat) (A : Option Addr) (c : Nat), v = .slice A n c ∧ x = .int .u32 g ∧ g ≤ a ∧ gk = a - g ∧ Rd w w.heap.size .u8 A (climbL N sd tree q told n i g) ∧ n ≤ c ∧ Below w0.heap.size w0 w
set_option maxRecDepth 100000 in
set_option maxHeartbeats 2000000 in
theorem climb_any (f : Fw) (an : Nat) (han : f.a = an) (ha14 : an ≤ 14) (sd told : List Int) (Asd A : Option Addr) (nd cd m c i : Nat) (tree q : Int) (w : World) (ht : U64 tree) (hq : W32 q) (hi : i < 4294967296) (hsz : Szd f.n sd)
    (h1 : Rd w w.heap.size .u8 Asd sd) (hn1 : sd.length = nd) (hc1 : nd ≤ cd) (hb1 : Bys sd) (h2 : Rd w w.heap.size .u8 A told) (hm : told.length = m) (hmc : m ≤ c) (hmn : m = (an + 1) * nd) (hbt : Bys told) (hT : KTab w) :
    Calls Tryd.prog 46 #[.agg (plc f Asd nd cd tree q), .int .u32 i, .slice A m c] w (OutR w (climbL f.n sd tree q told nd i an) nd) := by
  have hN : (nd : Int) = f.n := by rw [← hn1]; exact hsz.e.symm
  have hn32 : nd ≤ 32 := by have := hsz.n; omega
  have hn0 : 0 < nd := by have := hsz.n; omega
  have hlen : ∀ k, k ≤ an → (k + 1) * nd ≤ m := fun k hk => by rw [hmn]; exact Nat.mul_le_mul_right _ (by omega)
  have hm480 : m ≤ 480 := by rw [hmn]; exact Nat.le_trans (Nat.mul_le_mul (show an + 1 ≤ 15 by omega) hn32) (by decide)
  have hX := Blk.new w 67 (plc f Asd nd cd tree q)
  have hK := bal (Below.refl w.heap.size w) (Nat.le_refl _) (.cells (plc f Asd nd cd tree q) 67)
  go_enter Tryd.func46, Tryd.ntmps46
  go_upto_region 1 with fail
  change Code.wp _ _ _ _ (w.alloc (.cells (plc f Asd nd cd tree q) 67))
  generalize w.alloc (.cells (plc f Asd nd cd tree q) 67) = w0 at hX hK ⊢
  have h0 := hX.cell 0 (.int .i64 f.n) rfl
  rw [← hN] at h0
  have HN := Lib.hid hN
  clear hN
  have h4 := hX.cell 4 (.int .i64 f.a) rfl
  rw [han] at h4
  have hlx := hX.lt
  have hl0 := hlx
  have hl4 := hlx
  go_upto_region 2 with fail
  have hr0 : (row told nd 0).length = nd := row_len _ _ _ (by rw [hm]; exact hlen 0 (Nat.zero_le _))
  have hrow0 : row told nd 0 = told.take nd := by unfold row; simp
  have hmnd : nd ≤ m := by have := hlen 0 (Nat.zero_le _); omega
  have hndc : nd ≤ c := by omega
  refine Ls.start (fun w' => Blk w' w.heap.size 67 (plc f Asd nd cd tree q)) [(0, true), (1, true), (2, true), (3, true), (4, true), (5, false), (6, false), (7, true)] (by kernel_rfl) (by kernel_rfl) (by kernel_rfl) (by kernel_rfl) hX.drew ?_
  refine Ls.val (.agg (plc f Asd nd cd tree q)) rfl (fun _ _ _ h => h) (by kernel_rfl) (fun w hw => exec_load_row w rfl (by kernel_rfl) Tryd.underlying67 rfl (by kernel_rfl) hw) ?_; (try simp (config := {maxSteps := 2000000}) only [Act.put, List.getElem_toArray, List.getElem_cons_succ, List.getElem_cons_zero, List.setIfInBounds_toArray, List.set_cons_zero, List.set_cons_succ])
  (refine Ls.val ?_ rfl (fun _ _ _ h => h) (by kernel_rfl) ?_ ?_; rotate_left 1; focus (intro w hw; go_simp; with_reducible rfl)); (try simp (config := {maxSteps := 2000000}) only [Act.put, List.getElem_toArray, List.getElem_cons_succ, List.getElem_cons_zero, List.setIfInBounds_toArray, List.set_cons_zero, List.set_cons_succ])
  (refine Ls.val ?_ rfl (fun _ _ _ h => h) (by kernel_rfl) ?_ ?_; rotate_left 1; focus (intro w hw; go_simp; with_reducible rfl)); (try simp (config := {maxSteps := 2000000}) only [Act.put, List.getElem_toArray, List.getElem_cons_succ, List.getElem_cons_zero, List.setIfInBounds_toArray, List.set_cons_zero, List.set_cons_succ])
  (refine Ls.val ?_ rfl (fun _ _ _ h => h) (by kernel_rfl) ?_ ?_; rotate_left 1; focus (intro w hw; go_simp; with_reducible rfl)); (try simp (config := {maxSteps := 2000000}) only [Act.put, List.getElem_toArray, List.getElem_cons_succ, List.getElem_cons_zero, List.setIfInBounds_toArray, List.set_cons_zero, List.set_cons_succ])
  (refine Ls.val ?_ rfl (fun _ _ _ h => h) (by kernel_rfl) ?_ ?_; rotate_left 1; focus (intro w hw; go_simp; with_reducible rfl)); (try simp (config := {maxSteps := 2000000}) only [Act.put, List.getElem_toArray, List.getElem_cons_succ, List.getElem_cons_zero, List.setIfInBounds_toArray, List.set_cons_zero, List.set_cons_succ])
  have hK1 := bdw hK
  have hcp_1 := hX.drew
  have hlp_1 := (show _ < w0.drew.heap.size from hlx)
  have hc0_1 := cdw h0
  have hl0_1 := (show _ < w0.drew.heap.size from hl0)
  have hc4_1 := cdw h4
  have hl4_1 := (show _ < w0.drew.heap.size from hl4)
  generalize w0.drew = v1 at hK1 hcp_1 hlp_1 hc0_1 hl0_1 hc4_1 hl4_1 ⊢
  clear hK hX hlx h0 hl0 h4 hl4
  have hP := parts_of (w := v1) (T := 24) [.slice A nd c] [row told nd 0] rfl (fun i hi => match i, hi with | 0, _ => (hrow0 ▸ ((h2.bel hK1).tk nd) : Rd _ _ _ _ (row told nd 0)).pt hr0 (by omega) | m + 1, h => absurd h (by simp))
  have hz2 : (v1.alloc (.cells #[.slice A nd c] 24)).heap.size = v1.heap.size + 1 := by simp
  have hK2 := bal hK1 hK1.size (.cells #[.slice A nd c] 24)
  have hcp_2 := hcp_1.alloc (.cells #[.slice A nd c] 24)
  have hlp_2 := Nat.lt_of_lt_of_le hlp_1 (al_le v1 (.cells #[.slice A nd c] 24))
  have hc0_2 := cell_al hc0_1 hl0_1 (.cells #[.slice A nd c] 24)
  have hl0_2 := Nat.lt_of_lt_of_le hl0_1 (al_le v1 (.cells #[.slice A nd c] 24))
  have hc4_2 := cell_al hc4_1 hl4_1 (.cells #[.slice A nd c] 24)
  have hl4_2 := Nat.lt_of_lt_of_le hl4_1 (al_le v1 (.cells #[.slice A nd c] 24))
  refine Ls.made (w' := v1.alloc (.cells #[.slice A nd c] 24)) (.slice (some ⟨v1.heap.size, 0, none⟩) 1 1) rfl (by kernel_rfl) (by kernel_rfl) (fun _ => hcp_2) ?_
  (try simp (config := {maxSteps := 2000000}) only [Act.put, List.getElem_toArray, List.getElem_cons_succ, List.getElem_cons_zero, List.setIfInBounds_toArray, List.set_cons_zero, List.set_cons_succ])
  generalize v1.alloc (.cells #[.slice A nd c] 24) = v2 at hK2 hcp_2 hlp_2 hc0_2 hl0_2 hc4_2 hl4_2 hz2 hP ⊢
  clear hK1 hcp_1 hlp_1 hc0_1 hl0_1 hc4_1 hl4_1
  have hfl : [row told nd 0].flatten = row told nd 0 := by simp
  refine Ls.call rfl (by kernel_rfl) (by kernel_rfl) (fun _ => (tweak_any f sd Asd nd cd tree q 3 0 i [row told nd 0] (some ⟨v1.heap.size, 0, none⟩) 1 1 nd (v1.heap.size + 1) v2 ht hq (W32.small (by decide) (by decide)) W32.z ⟨by omega, by omega⟩ (h1.bel hK2) hn1 hc1 hb1 hP (by omega) rfl (by decide) (by decide) (by rw [hfl]; omega) (by rw [hfl]; exact row_B hbt _ _) (hT.bel hK2) (by rw [atL_nd hsz]; exact hn1)).mono ?_)
  rintro e v3 ⟨A3, c3, rfl, hF3, hh3, hb3⟩
  have hK3 := bnx hK2 hb3 hK2.size
  have hcp_3 := hcp_2.below hb3 hlp_2
  have hlp_3 := Nat.lt_of_lt_of_le hlp_2 hb3.size
  have hc0_3 := cell_bel hc0_2 hb3 hl0_2
  have hl0_3 := Nat.lt_of_lt_of_le hl0_2 hb3.size
  have hc4_3 := cell_bel hc4_2 hb3 hl4_2
  have hl4_3 := Nat.lt_of_lt_of_le hl4_2 hb3.size
  rw [hfl] at hF3
  have hcx := hh3
  refine ⟨_, rfl, hcp_3, ?_⟩
  (try simp (config := {maxSteps := 2000000}) only [Act.put, List.getElem_toArray, List.getElem_cons_succ, List.getElem_cons_zero, List.setIfInBounds_toArray, List.set_cons_zero, List.set_cons_succ])
  have hRx := hF3
  have hBx_3 := Below.refl v3.heap.size v3
  clear hK2 hcp_2 hlp_2 hc0_2 hl0_2 hc4_2 hl4_2 hb3 hF3 hh3 hP
  (refine Ls.val ?_ rfl (fun _ _ _ h => h) (by kernel_rfl) ?_ ?_; rotate_left 1; focus (intro w hw; go_simp; with_reducible rfl)); (try simp (config := {maxSteps := 2000000}) only [Act.put, List.getElem_toArray, List.getElem_cons_succ, List.getElem_cons_zero, List.setIfInBounds_toArray, List.set_cons_zero, List.set_cons_succ])
  refine Ls.done ?_
  intro _
  have ham : (an : Int) % 4294967296 = an := by omega
  have hx0 := (hRx.bel hBx_3)
  have hK0 := Below.refl v3.heap.size v3
  have HSZ := Lib.hid hsz
  have HLEN := Lib.hid hlen
  clear hsz hlen hmn
  go_upto_region 4 with fail
  go_loopg [8, 27] an (fun gk v x wr => ClJ v3 f.n sd tree q told nd i an gk v x wr)
  case atStart => exact ⟨0, _, _, rfl, rfl, Nat.zero_le _, rfl, hx0, hcx, hK0⟩
  case round =>
    clear hK0 hx0
    obtain ⟨wq, rfl⟩ : ∃ wq : World, wq = wr := ⟨_, rfl⟩
    obtain ⟨g, Ao, co, rfl, rfl, hg, hgk, hO, hco, hbw⟩ := hrel
    have HGK := Lib.hid hgk
    clear hgk
    by_cases hlt : g < an
    · have hltI : (g : Int) < (an : Int) := by omega
      have hpq := hcp_3.below hbw hlp_3
      obtain ⟨lo, hlo⟩ : ∃ lo, (g + 1) * nd = lo := ⟨_, rfl⟩
      obtain ⟨up, hup⟩ : ∃ up, (g + 2) * nd = up := ⟨_, rfl⟩
      have hle := HLEN.out (g + 1) (by omega)
      have e2 : (g + 2) * nd = (g + 1) * nd + nd := by rw [show g + 2 = (g + 1) + 1 from rfl, Nat.add_mul (g + 1) 1 nd, Nat.one_mul]
      have hupm : up ≤ m := by rw [← hup]; exact hle
      have hud : up - lo = nd := by rw [← hlo, ← hup, e2]; omega
      have hlup : lo ≤ up := by rw [← hlo, ← hup, e2]; omega
      clear e2
      have hsl := cut_any A m c lo up nd hlup (Nat.le_trans hupm hmc) hud
      obtain ⟨Ax, hAx⟩ : ∃ q, (if c = lo then A else A.map (·.add lo)) = q := ⟨_, rfl⟩
      have hcutR := ((h2.bel (bnx hK3 hbw hK3.size))).cut lo up c (by rw [hm]; exact hupm) (Nat.le_trans hupm hmc)
      rw [hAx] at hsl hcutR
      have hrw : (told.take up).drop lo = row told nd (g + 1) := by unfold row; rw [← hlo, ← hup]
      rw [hrw] at hcutR
      have hrl : (row told nd (g + 1)).length = nd := row_len _ _ _ (by rw [hm]; exact hle)
      have hcl : nd ≤ c - lo := by omega
      have hxl : (climbL f.n sd tree q told nd i g).length = nd := by rw [climbL_len HSZ.out]; exact hn1
      have hi2 : W32 ((i : Int) / 2 ^ (g + 1)) := shr_W i (g + 1) hi
      have hg1 : W32 ((g : Int) + 1) := ⟨by omega, by omega⟩
      have hb0 := and_one ((i : Int) / 2 ^ g) (shr_W i g hi).1 (shr_W i g hi).2
      have hb2 : ((i : Int) / 2 ^ g) % 2 = ((i / 2 ^ g % 2 : Nat) : Int) := by push_cast; rfl
      rw [hb2] at hb0
      have HLO := Lib.hid (And.intro hlo hup)
      have hKq := bnx hK3 hbw hK3.size
      clear hlo hup hle hud hb2 hAx hrw
      by_cases hbit : i / 2 ^ g % 2 = 1
      · rw [hbit] at hb0
        have hb1I : bits .and .u32 ((i : Int) / 2 ^ g) 1 = 1 := hb0
        have hcl2 : climbL f.n sd tree q told nd i (g + 1) = atL f.n sd tree q 3 ((g : Int) + 1) ((i : Int) / 2 ^ (g + 1)) (row told nd (g + 1) ++ climbL f.n sd tree q told nd i g) := by rw [climbL, if_pos hbit]
        have HCL := Lib.hid hcl2
        clear hcl2 hb0 hbit
        have hfl : [row told nd (g + 1), climbL f.n sd tree q told nd i g].flatten = row told nd (g + 1) ++ climbL f.n sd tree q told nd i g := by simp
        have hP := parts_of (w := wq) (T := 24) [.slice Ax nd (c - lo), .slice Ao nd co] [row told nd (g + 1), climbL f.n sd tree q told nd i g] rfl (fun i hi => match i, hi with | 0, _ => hcutR.pt hrl hcl | 1, _ => hO.pt hxl hco | m + 2, h => absurd h (by simp))
        have hKz := bal hKq hKq.size (.cells #[.slice Ax nd (c - lo), .slice Ao nd co] 24)
        have hKy := bal hbw hbw.size (.cells #[.slice Ax nd (c - lo), .slice Ao nd co] 24)
        have hz : (wq.alloc (.cells #[.slice Ax nd (c - lo), .slice Ao nd co] 24)).heap.size = wq.heap.size + 1 := by simp
        have hMM : (atL f.n sd tree q 3 ((g : Int) + 1) ((i : Int) / 2 ^ (g + 1)) [row told nd (g + 1), climbL f.n sd tree q told nd i g].flatten).length = nd := by rw [atL_nd HSZ.out]; exact hn1
        have hw1 : wrap64 (((g : Int) + 1) * (nd : Int)) = (lo : Int) := mulw g 1 nd lo HLO.out.1 (Nat.le_trans hlup (Nat.le_trans hupm (Nat.le_trans hm480 (by decide))))
        have hw2 : wrap64 (((g : Int) + 2) * (nd : Int)) = (up : Int) := mulw g 2 nd up HLO.out.2 (Nat.le_trans hupm (Nat.le_trans hm480 (by decide)))
        go_wp2_with (refine wpList_blk_yes (t := 67) (T := 67) (by rfl) rfl rfl Tryd.underlying67 rfl (by kernel_rfl) hpq ?_)
        clear hw1 hw2
        change Calls _ _ _ (wq.alloc (.cells #[.slice Ax nd (c - lo), .slice Ao nd co] 24)) _
        change Parts (wq.alloc (.cells #[.slice Ax nd (c - lo), .slice Ao nd co] 24)) _ _ _ at hP
        generalize wq.alloc (.cells #[.slice Ax nd (c - lo), .slice Ao nd co] 24) = wz at hP hKz hKy hz ⊢
        (with_reducible refine (tweak_any f sd Asd nd cd tree q 3 ((g : Int) + 1) ((i : Int) / 2 ^ (g + 1)) [row told nd (g + 1), climbL f.n sd tree q told nd i g] (some ⟨wq.heap.size, 0, none⟩) 2 2 nd (wq.heap.size + 1) wz ht hq (W32.small (by decide) (by decide)) hg1 hi2 (h1.bel hKz) hn1 hc1 hb1 hP (by omega) rfl (by decide) (by decide) (by rw [hfl, List.length_append]; omega) (by rw [hfl]; exact (row_B hbt _ _).append (climbL_B _ _ _ _ _ _ _ _)) (hT.bel hKz) hMM).mono ?_)
        rintro e w3 ⟨A3', c3', rfl, hR3, hh3, hb3⟩
        rw [hfl, ← HCL.out] at hR3
        have hK3 := bnx hKy hb3 hKy.size
        clear hKz hKy hP hO hcutR hsl
        go_wp2_with fail
        go_roundg (an - (g + 1))
        case measure => have := HGK.out; omega
        case rel => exact ⟨g + 1, A3', c3', rfl, by go_num, by omega, rfl, hR3, hh3, hK3⟩
      · have hbz : i / 2 ^ g % 2 = 0 := by omega
        rw [hbz] at hb0
        have hb1I : bits .and .u32 ((i : Int) / 2 ^ g) 1 = 0 := hb0
        have hcl2 : climbL f.n sd tree q told nd i (g + 1) = atL f.n sd tree q 3 ((g : Int) + 1) ((i : Int) / 2 ^ (g + 1)) (climbL f.n sd tree q told nd i g ++ row told nd (g + 1)) := by rw [climbL, if_neg hbit]
        have HCL := Lib.hid hcl2
        clear hcl2 hb0 hbit
        have hfl : [climbL f.n sd tree q told nd i g, row told nd (g + 1)].flatten = climbL f.n sd tree q told nd i g ++ row told nd (g + 1) := by simp
        have hP := parts_of (w := wq) (T := 24) [.slice Ao nd co, .slice Ax nd (c - lo)] [climbL f.n sd tree q told nd i g, row told nd (g + 1)] rfl (fun i hi => match i, hi with | 0, _ => hO.pt hxl hco | 1, _ => hcutR.pt hrl hcl | m + 2, h => absurd h (by simp))
        have hKz := bal hKq hKq.size (.cells #[.slice Ao nd co, .slice Ax nd (c - lo)] 24)
        have hKy := bal hbw hbw.size (.cells #[.slice Ao nd co, .slice Ax nd (c - lo)] 24)
        have hz : (wq.alloc (.cells #[.slice Ao nd co, .slice Ax nd (c - lo)] 24)).heap.size = wq.heap.size + 1 := by simp
        have hMM : (atL f.n sd tree q 3 ((g : Int) + 1) ((i : Int) / 2 ^ (g + 1)) [climbL f.n sd tree q told nd i g, row told nd (g + 1)].flatten).length = nd := by rw [atL_nd HSZ.out]; exact hn1
        have hw1 : wrap64 (((g : Int) + 1) * (nd : Int)) = (lo : Int) := mulw g 1 nd lo HLO.out.1 (Nat.le_trans hlup (Nat.le_trans hupm (Nat.le_trans hm480 (by decide))))
        have hw2 : wrap64 (((g : Int) + 2) * (nd : Int)) = (up : Int) := mulw g 2 nd up HLO.out.2 (Nat.le_trans hupm (Nat.le_trans hm480 (by decide)))
        go_wp2_with (refine wpList_blk_yes (t := 67) (T := 67) (by rfl) rfl rfl Tryd.underlying67 rfl (by kernel_rfl) hpq ?_)
        clear hw1 hw2
        change Calls _ _ _ (wq.alloc (.cells #[.slice Ao nd co, .slice Ax nd (c - lo)] 24)) _
        change Parts (wq.alloc (.cells #[.slice Ao nd co, .slice Ax nd (c - lo)] 24)) _ _ _ at hP
        generalize wq.alloc (.cells #[.slice Ao nd co, .slice Ax nd (c - lo)] 24) = wz at hP hKz hKy hz ⊢
        (with_reducible refine (tweak_any f sd Asd nd cd tree q 3 ((g : Int) + 1) ((i : Int) / 2 ^ (g + 1)) [climbL f.n sd tree q told nd i g, row told nd (g + 1)] (some ⟨wq.heap.size, 0, none⟩) 2 2 nd (wq.heap.size + 1) wz ht hq (W32.small (by decide) (by decide)) hg1 hi2 (h1.bel hKz) hn1 hc1 hb1 hP (by omega) rfl (by decide) (by decide) (by rw [hfl, List.length_append]; omega) (by rw [hfl]; exact (climbL_B _ _ _ _ _ _ _ _).append (row_B hbt _ _)) (hT.bel hKz) hMM).mono ?_)
        rintro e w3 ⟨A3', c3', rfl, hR3, hh3, hb3⟩
        rw [hfl, ← HCL.out] at hR3
        have hK3 := bnx hKy hb3 hKy.size
        clear hKz hKy hP hO hcutR hsl
        go_wp2_with fail
        go_roundg (an - (g + 1))
        case measure => have := HGK.out; omega
        case rel => exact ⟨g + 1, A3', c3', rfl, by go_num, by omega, rfl, hR3, hh3, hK3⟩
    · have hltI : ¬ (g : Int) < (an : Int) := by omega
      obtain rfl : g = an := by omega
      have hKq := bnx hK3 hbw hK3.size
      go_wp2_with fail
      go_ret
      exact ⟨_, _, rfl, hO, hco, hKq⟩
end Go.Proofs.YtfaonieaagepjaaDoor

/- Layer 17: whether rows of words are the same; two to n; the reference's digits. Conditions: small lengths. -/
namespace Go.Proofs.YtfaonieaagepjaaDoor
open Go.RowKit
set_option linter.unusedVariables false
set_option linter.unusedSimpArgs false
set_option maxHeartbeats 1000000 in
theorem words_same (w : World) (A A' : Option Addr) (l m : List Int) (c c' B B' : Nat) (hA : Rd w B .u32 A l) (hB : Rd w B' .u32 A' m) (hm : m.length ≤ 9223372036854775807) :
    Calls Tryd.prog 22 #[.slice A l.length c, .slice A' m.length c'] w fun e w' => e = .returned (.bool (decide (l = m))) ∧ ∃ q, w' = w.drewN q := by
  go_enter Tryd.func22, Tryd.ntmps22
  by_cases hne : l.length = m.length
  · go_wp2_with fail
    go_loopw [5] (fun i wr => ∃ j : Nat, i = .int .i64 j ∧ j ≤ l.length ∧ (∀ p, p < j → gt l p = gt m p) ∧ ∃ q, wr = w.drewN q) (fun i _ => (l.length - intOf i).toNat)
    case atStart => exact ⟨0, rfl, Nat.zero_le _, fun p hp => absurd hp (by omega), 0, rfl⟩
    case round =>
      obtain ⟨j, rfl, hj, hsame, q, rfl⟩ := hrel
      by_cases hlt : j < l.length
      · have hltI : j < m.length := by omega
        obtain ⟨a, rfl, _, hca⟩ := hA.at_ hlt
        obtain ⟨a', rfl, _, hcb⟩ := hB.at_ (i := j) (by omega)
        by_cases he : gt l j = gt m j
        · rw [he] at hca
          go_wp2_with fail
          go_quiet (fail)
          go_wp2_with fail
          go_roundw
          case rel => exact ⟨j + 1, by go_num, by omega, fun p hp => by
            rcases Nat.lt_or_ge p j with h | h
            · exact hsame p h
            · rw [show p = j by omega]; exact he, _, rfl⟩
          case measure => simp [intOf]; omega
        · have hb : (gt l j == gt m j) = false := beq_eq_false_iff_ne.2 he
          go_wp2_with fail
          go_quiet (fail)
          go_wp2_with fail
          go_ret
          exact ⟨by rw [decide_eq_false (fun e => he (by rw [e]))]; rfl, q + nq, by simp⟩
      · have hltI : ¬ (j < m.length) := by omega
        go_wp2_with fail
        go_ret
        have hlm : l = m := ext_gt l m hne (fun i hi => hsame i (by omega))
        exact ⟨by rw [decide_eq_true hlm]; rfl, q, rfl⟩
  · go_wp2_with fail
    go_ret
    exact ⟨by rw [decide_eq_false (fun e => hne (by rw [e]))]; rfl, 0, rfl⟩

set_option maxRecDepth 100000 in
theorem pow_any (n : Nat) (w : World) (hn : n ≤ 14) : Calls Tryd.prog 48 #[.int .i64 n] w fun e w' => e = .returned (.int .u32 ((2 ^ n : Nat) : Int)) ∧ w' = w := by
  go_enter Tryd.func48, Tryd.ntmps48
  go_wp2_with fail
  go_loopg [3, 4] n (fun gk v x wr => ∃ (i p : Nat), v = .int .u32 p ∧ x = .int .i64 i ∧ i ≤ n ∧ gk = n - i ∧ p = 2 ^ i ∧ wr = w)
  case atStart => exact ⟨0, 1, rfl, rfl, Nat.zero_le _, rfl, rfl, rfl⟩
  case round =>
    obtain ⟨i, p, rfl, rfl, hi, hgk, hp, rfl⟩ := hrel
    have HGK := Lib.hid (And.intro hgk hp)
    by_cases hlt : i < n
    · have hltI : (i : Int) < (n : Int) := by omega
      have hpb : p ≤ 8192 := by rw [hp]; exact Nat.le_trans (Nat.pow_le_pow_right (by decide) (show i ≤ 13 by omega)) (by decide)
      clear hgk hp
      go_wp2_with fail
      go_roundg (n - (i + 1))
      case measure => have := HGK.out.1; omega
      case rel => exact ⟨i + 1, p * 2, by go_num, by go_num, by omega, rfl, by rw [HGK.out.2, Nat.pow_succ], rfl⟩
    · have hltI : ¬ (i : Int) < (n : Int) := by omega
      obtain rfl : i = n := by omega
      clear hgk hp
      go_wp2_with fail
      go_ret
      exact ⟨by show Ending.returned (Value.int .u32 (p : Int)) = _; rw [HGK.out.2]; first | rfl | (push_cast; rfl), rfl⟩
/-- The j-th bit of bytes, from the front on. -/
def bitN (b : List Int) (j : Nat) : Int := gt b (j / 8) / 2 ^ (7 - j % 8) % 2
def dgN (b : List Int) (s : Nat) : Nat → Int
  | 0 => 0
  | t + 1 => 2 * dgN b s t + bitN b (s + t)
def digsL (b : List Int) (a : Nat) : Nat → List Int
  | 0 => []
  | k + 1 => digsL b a k ++ [dgN b (k * a) a]
theorem digsL_len (b : List Int) (a : Nat) : ∀ k, (digsL b a k).length = k
  | 0 => rfl
  | k + 1 => by rw [digsL, List.length_append, digsL_len b a k]; rfl
theorem bitN_bd (b : List Int) (j : Nat) : 0 ≤ bitN b j ∧ bitN b j ≤ 1 := by
  unfold bitN
  have h0 := Int.emod_nonneg (gt b (j / 8) / 2 ^ (7 - j % 8)) (show (2 : Int) ≠ 0 by decide)
  have h1 := Int.emod_lt_of_pos (gt b (j / 8) / 2 ^ (7 - j % 8)) (show (0 : Int) < 2 by decide)
  omega
theorem dgN_bd (b : List Int) (s : Nat) : ∀ t, 0 ≤ dgN b s t ∧ dgN b s t < ((2 ^ t : Nat) : Int)
  | 0 => ⟨Int.le_refl _, by show (0 : Int) < ((2 ^ 0 : Nat) : Int); decide⟩
  | t + 1 => by
    have h := dgN_bd b s t
    have hb := bitN_bd b (s + t)
    rw [dgN, Nat.pow_succ]
    omega
end Go.Proofs.YtfaonieaagepjaaDoor

/- Layer 17, the reference: digits, walked. Conditions: small lengths. -/
namespace Go.Proofs.YtfaonieaagepjaaDoor
open Go.RowKit
set_option linter.unusedVariables false
set_option linter.unusedSimpArgs false
theorem inf_u32 : (Tryd.prog.info? 26).map (fun i => (i.zero, i.size, i.bytes)) = some (some (.int .u32 0), 1, 4) := by kernel_rfl
theorem mulk (k a lo : Nat) (h : k * a = lo) (hl : lo ≤ 1000000) : wrap64 ((k : Int) * (a : Int)) = (lo : Int) := by
  rw [← Int.natCast_mul, h]
  exact IntWalk.wrap64_in _ ⟨by omega, by omega⟩
set_option maxRecDepth 100000 in
theorem rdigits_may (f : Fw) (A : Option Addr) (L c : Nat) (w : World) (hf : f.ok) (hno : ¬ f.may) :
    Calls Tryd.prog 23 #[.agg f.cs, .slice A L c] w (NilP w) := by
  have hF := Blk.new w 23 f.cs
  have hK := bal (Below.refl w.heap.size w) (Nat.le_refl _) (.cells f.cs 23)
  have hmx : (200000000 : Nat) ≤ maxLen := by decide
  go_enter Tryd.func23, Tryd.ntmps23
  go_upto_region 1 with fail
  change Code.wp _ _ _ _ (w.alloc (.cells f.cs 23))
  generalize w.alloc (.cells f.cs 23) = w0 at hF hK ⊢
  have hlf := hF.lt
  go_wp2_with (refine wpList_blk_yes (t := 23) (T := 23) (by rfl) rfl rfl Tryd.underlying23 rfl (by kernel_rfl) hF ?_)
  (with_reducible refine (rmay_no f w0 hf hno).mono ?_)
  rintro e w1 ⟨rfl, hb⟩
  have hK1 := bnx hK hb hK.size
  go_wp2_with fail
  go_ret
  exact ⟨rfl, hK1⟩
set_option maxRecDepth 100000 in
theorem rdigits_short (f : Fw) (kn an : Nat) (hkn : f.k = kn) (han : f.a = an) (A : Option Addr) (L c : Nat) (w : World) (hf : f.ok) (hm : f.may) (hL : L ≤ 100000) (hlt8 : 8 * L < kn * an) :
    Calls Tryd.prog 23 #[.agg f.cs, .slice A L c] w (NilP w) := by
  have hF := Blk.new w 23 f.cs
  have hK := bal (Below.refl w.heap.size w) (Nat.le_refl _) (.cells f.cs 23)
  have hmx : (200000000 : Nat) ≤ maxLen := by decide
  go_enter Tryd.func23, Tryd.ntmps23
  go_upto_region 1 with fail
  change Code.wp _ _ _ _ (w.alloc (.cells f.cs 23))
  generalize w.alloc (.cells f.cs 23) = w0 at hF hK ⊢
  have hlf := hF.lt
  have h3 := hF.cell 3 (.int .i64 f.k) rfl
  have h4 := hF.cell 4 (.int .i64 f.a) rfl
  rw [hkn] at h3
  rw [han] at h4
  have hk40 : kn ≤ 40 := by have := hm.k; omega
  have ha14 : an ≤ 14 := by have := hm.a; omega
  have ha1 : 1 ≤ an := by have := hm.a; omega
  have hk1 : 1 ≤ kn := by have := hm.k; omega
  obtain ⟨P, hP⟩ : ∃ P, kn * an = P := ⟨_, rfl⟩
  have hP560 : P ≤ 560 := by rw [← hP]; exact Nat.le_trans (Nat.mul_le_mul hk40 ha14) (by decide)
  rw [hP] at hlt8
  go_wp2_with (refine wpList_blk_yes (t := 23) (T := 23) (by rfl) rfl rfl Tryd.underlying23 rfl (by kernel_rfl) hF ?_)
  (with_reducible refine (rmay_yes f w0 hf hm).mono ?_)
  rintro e w1 ⟨rfl, hb⟩
  have hK1 := bnx hK hb hK.size
  have h3' := cell_bel h3 hb hlf
  have h4' := cell_bel h4 hb hlf
  have hlf' := Nat.lt_of_lt_of_le hlf hb.size
  clear hb hF h3 h4 hlf hK
  have hl8 : (8 : Int) * (L : Int) < (P : Int) := by omega
  have hw := mulk kn an P hP (Nat.le_trans hP560 (by decide))
  have hl8I := hl8
  clear hl8 hlt8 hP
  go_wp2_with fail
  go_ret
  exact ⟨rfl, hK1⟩
/-- What a call has left: words, to be read. -/
def OutW (w : World) (L : List Int) (n : Nat) (e : Ending) (w' : World) : Prop :=
  ∃ A c, e = .returned (.slice A n c) ∧ Rd w' w'.heap.size .u32 A L ∧ n ≤ c ∧ Below w.heap.size w w'
def RdJ (w0 : World) (B : Nat) (b : List Int) (a kn gk : Nat) (v x : Value) (w : World) : Prop :=
  ∃ (k : Nat) (A : Option Addr) (c : Nat), v = .slice A k c ∧ x = .int .i64 k ∧ k ≤ kn ∧ gk = kn - k ∧ Own w B 26 .u32 (.slice A k c) (digsL b a k) ∧ Kept B (fun _ => False) w0 w
set_option maxRecDepth 100000 in
set_option maxHeartbeats 2000000 in
theorem rdigits_any (f : Fw) (kn an : Nat) (hkn : f.k = kn) (han : f.a = an) (b : List Int) (A : Option Addr) (L c : Nat) (w : World) (hf : f.ok) (hm : f.may) (hr : Rd w w.heap.size .u8 A b) (hL0 : b.length = L) (hLc : L ≤ c) (hL : L ≤ 100000) (hlt8 : ¬ 8 * L < kn * an) (hb : Bys b) :
    Calls Tryd.prog 23 #[.agg f.cs, .slice A L c] w (OutW w (digsL b an kn) kn) := by
  have hF := Blk.new w 23 f.cs
  have hK := bal (Below.refl w.heap.size w) (Nat.le_refl _) (.cells f.cs 23)
  have hmx : (200000000 : Nat) ≤ maxLen := by decide
  go_enter Tryd.func23, Tryd.ntmps23
  go_upto_region 1 with fail
  change Code.wp _ _ _ _ (w.alloc (.cells f.cs 23))
  generalize w.alloc (.cells f.cs 23) = w0 at hF hK ⊢
  have hlf := hF.lt
  have h3 := hF.cell 3 (.int .i64 f.k) rfl
  have h4 := hF.cell 4 (.int .i64 f.a) rfl
  rw [hkn] at h3
  rw [han] at h4
  have hk40 : kn ≤ 40 := by have := hm.k; omega
  have ha14 : an ≤ 14 := by have := hm.a; omega
  have ha1 : 1 ≤ an := by have := hm.a; omega
  have hk1 : 1 ≤ kn := by have := hm.k; omega
  obtain ⟨P, hP⟩ : ∃ P, kn * an = P := ⟨_, rfl⟩
  have hP560 : P ≤ 560 := by rw [← hP]; exact Nat.le_trans (Nat.mul_le_mul hk40 ha14) (by decide)
  rw [hP] at hlt8
  go_wp2_with (refine wpList_blk_yes (t := 23) (T := 23) (by rfl) rfl rfl Tryd.underlying23 rfl (by kernel_rfl) hF ?_)
  (with_reducible refine (rmay_yes f w0 hf hm).mono ?_)
  rintro e w1 ⟨rfl, hbb⟩
  have hK1 := bnx hK hbb hK.size
  have h3' := cell_bel h3 hbb hlf
  have h4' := cell_bel h4 hbb hlf
  have hlf' := Nat.lt_of_lt_of_le hlf hbb.size
  clear hbb hF h3 h4 hlf hK
  have hl8 : ¬ (8 : Int) * (L : Int) < (P : Int) := by omega
  have hr1 := hr.bel hK1
  have HPP := Lib.hid hP
  have H8 := Lib.hid hlt8
  have hw := mulk kn an P hP (Nat.le_trans hP560 (by decide))
  have hl8I := hl8
  clear hP hlt8 hl8
  have HX := Lib.hid (And.intro hL0 (And.intro hLc (And.intro hr hr1)))
  clear hL0 hLc hr hr1
  go_wp2_with fail
  obtain ⟨hL0, hLc, hr, hr1⟩ := HX.out
  clear HX
  clear hw hl8I
  have hK0 := Kept.refl w1.heap.size (fun _ => False) w1
  obtain ⟨B, hB⟩ : ∃ B, w1.heap.size = B := ⟨_, rfl⟩
  rw [hB] at hK0
  have HB := Lib.hid hB
  clear hB
  go_loopg [5, 6] kn (fun gk v x wr => RdJ w1 B b an kn gk v x wr)
  case atStart => exact ⟨0, none, 0, rfl, rfl, Nat.zero_le _, rfl, Own.nil _ _ _ _, hK0⟩
  case round =>
    clear hK0
    obtain ⟨wq, rfl⟩ : ∃ wq : World, wq = wr := ⟨_, rfl⟩
    obtain ⟨k, Ao, co, rfl, rfl, hk, hgk, hO, hKq⟩ := hrel
    have HGK := Lib.hid hgk
    have hwl : B ≤ wq.heap.size := by have := hKq.size; have := HB.out; omega
    have hbw : Below w1.heap.size w1 wq := by rw [HB.out]; exact hKq.below
    have h3q := cell_bel h3' hbw hlf'
    have h4q := cell_bel h4' hbw hlf'
    clear hgk
    by_cases hlt : k < kn
    · have hltI : (k : Int) < (kn : Int) := by omega
      obtain ⟨s, hs⟩ : ∃ s, k * an = s := ⟨_, rfl⟩
      have hs2 : (k + 1) * an = s + an := by rw [Nat.add_mul, Nat.one_mul, hs]
      have hsP : s + an ≤ P := by rw [← hs2, ← HPP.out]; exact Nat.mul_le_mul_right _ (by omega)
      obtain ⟨up, hup⟩ : ∃ up, s + an = up := ⟨_, rfl⟩
      rw [hup] at hs2 hsP
      have HS := Lib.hid (And.intro hs (And.intro hs2 hup))
      have hrq := hr1.bel hbw
      clear hs hs2 hup
      have hw1 := mulk k an s HS.out.1 (by have := HS.out.2.2; omega)
      have HW1 := Lib.hid hw1
      go_upto_region 9 with fail
      clear hw1
      obtain ⟨wo, hwo⟩ : ∃ wo : World, wo = wq := ⟨_, rfl⟩
      go_loopg [7, 8] an (fun gk v x wr => ∃ (t i : Nat), v = .int .u32 (dgN b s t) ∧ x = .int .i64 i ∧ i = s + t ∧ t ≤ an ∧ gk = an - t ∧ wr = wo)
      case atStart => exact ⟨0, s, rfl, by rw [HW1.out], rfl, Nat.zero_le _, rfl, hwo.symm⟩
      case round =>
        obtain ⟨t, i, rfl, rfl, hi, htl, hgt, rfl⟩ := hrel
        subst hwo
        have HT := Lib.hid (And.intro hi hgt)
        clear hi hgt
        by_cases hlt2 : t < an
        · have hiu : (i : Int) < (up : Int) := by have := HT.out.1; have := HS.out.2.2; omega
          have hdb := dgN_bd b s t
          have hd2 : ((2 ^ t : Nat) : Int) ≤ 16384 := by exact_mod_cast Nat.le_trans (Nat.pow_le_pow_right (by decide) (show t ≤ 14 by omega)) (by decide)
          obtain ⟨d, hd⟩ : ∃ d, dgN b s t = d := ⟨_, rfl⟩
          rw [hd] at hdb ⊢
          have hd0 : 0 ≤ d := hdb.1
          have hd1 : d ≤ 16384 := by omega
          have hiL : i / 8 < L := by have := HT.out.1; have := HS.out.2.2; omega
          obtain ⟨ad, rfl, hab, hcell⟩ := hrq.at_ (i := i / 8) (by omega)
          obtain ⟨y, hy⟩ : ∃ y, gt b (i / 8) = y := ⟨_, rfl⟩
          have hyb := hb.gt (i / 8)
          rw [hy] at hcell hyb
          have hy0 := hyb.1
          have hy1 := hyb.2
          have hbit : bitN b i = y / 2 ^ (7 - i % 8) % 2 := by unfold bitN; rw [hy]
          have HD := Lib.hid (And.intro hd hbit)
          have hiLI : (i : Int) / 8 < (L : Int) := by omega
          clear hdb hd2 hd hyb hbit hy
          have hw2 : wrap64 (((k : Int) + 1) * (an : Int)) = (up : Int) := mulw k 1 an up HS.out.2.1 (Nat.le_trans hsP (Nat.le_trans hP560 (by decide)))
          go_wp2_with fail
          go_roundg (an - (t + 1))
          case measure => have := HT.out.2; omega
          case rel => exact ⟨t + 1, i + 1, by rw [dgN, HD.out.1, ← HT.out.1, HD.out.2], by go_num, by have := HT.out.1; omega, by omega, rfl, rfl⟩
        · have hiu : ¬ (i : Int) < (up : Int) := by have := HT.out.1; have := HS.out.2.2; omega
          obtain rfl : t = an := by omega
          obtain ⟨d, hd⟩ : ∃ d, dgN b s t = d := ⟨_, rfl⟩
          have hta : digsL b t (k + 1) = digsL b t k ++ [d] := by rw [digsL, HS.out.1, hd]
          have HTA := Lib.hid hta
          rw [hd]
          have hsz : (wr.alloc (.cells (U .u32 [d]) 26)).heap.size = wr.heap.size + 1 := by simp
          have hO1 := hO.alloc (.cells (U .u32 [d]) 26)
          have hN1 := Rd.of_arr (B := wr.heap.size + 1) (Arr.new wr 26 .u32 [d]) (by omega)
          have hKa := hKq.alloc (.cells (U .u32 [d]) 26) hwl
          clear hd hta
          have hw2 : wrap64 (((k : Int) + 1) * (t : Int)) = (up : Int) := mulw k 1 t up HS.out.2.1 (Nat.le_trans hsP (Nat.le_trans hP560 (by decide)))
          go_upto_region 12 with fail
          clear hw2
          go_wp2_with (at_builtin; refine wpList_app rfl (.tmp 57) (.tmp 59) 33 26 .u32 4 rfl Tryd.underlying33 inf_u32 hO1 hN1 rfl rfl rfl (digsL b t (k + 1)) HTA.out.symm (k + 1) (digsL_len _ _ _) (by omega) (by omega) (Nat.le_trans hwl (al_le wr _)) ?_; intro A2 c2 w2 hO2 hg2 hf2)
          have hK2 := hKa.grew hO1 hg2 (Nat.le_refl _) (by rw [hsz]; exact Nat.le_succ_of_le hwl)
          go_roundg (kn - (k + 1))
          case measure => have := HGK.out; omega
          case rel => exact ⟨k + 1, A2, c2, rfl, by go_num, by omega, rfl, hO2, hK2⟩
    · have hltI : ¬ (k : Int) < (kn : Int) := by omega
      obtain rfl : k = kn := by omega
      have hKz := bnx hK1 hbw hK1.size
      have hRz := hO.rd
      have hcz := hO.len.2
      rw [digsL_len] at hcz
      clear hO hKq
      go_wp2_with fail
      go_ret
      exact ⟨_, _, rfl, hRz, hcz, hKz⟩
end Go.Proofs.YtfaonieaagepjaaDoor

/- Layer 17, the reference: which sets are not too dear, walked. Conditions: none. -/
namespace Go.Proofs.YtfaonieaagepjaaDoor
open Go.RowKit
set_option linter.unusedVariables false
set_option linter.unusedSimpArgs false
def Fw.light (f : Fw) : Prop := ¬ f.may ∨ 6 < f.a ∨ 6 < f.h ∨ (f.a ≤ 3 ∧ f.k ≤ 6 ∧ f.h ≤ 2 ∧ f.la ≤ 3)
set_option maxRecDepth 100000 in
set_option maxHeartbeats 4000000 in
theorem light_yes (f : Fw) (w : World) (hf : f.ok) (hl : f.light) : Calls Tryd.prog 18 #[.agg f.cs] w fun e w' => e = .returned (.bool true) ∧ Below w.heap.size w w' := by
  have hF := Blk.new w 23 f.cs
  have hK := bal (Below.refl w.heap.size w) (Nat.le_refl _) (.cells f.cs 23)
  go_enter Tryd.func18, Tryd.ntmps18
  go_upto_region 1 with fail
  change Code.wp _ _ _ _ (w.alloc (.cells f.cs 23))
  generalize w.alloc (.cells f.cs 23) = w0 at hF hK ⊢
  have hlf := hF.lt
  have h1 := hF.cell 1 (.int .i64 f.la) rfl
  have h2 := hF.cell 2 (.int .i64 f.h) rfl
  have h3 := hF.cell 3 (.int .i64 f.k) rfl
  have h4 := hF.cell 4 (.int .i64 f.a) rfl
  by_cases hmay : f.may
  · go_wp2_with (refine wpList_blk_yes (t := 23) (T := 23) (by rfl) rfl rfl Tryd.underlying23 rfl (by kernel_rfl) hF ?_)
    (with_reducible refine (rmay_yes f w0 hf hmay).mono ?_)
    rintro e w1 ⟨rfl, hb⟩
    have hK1 := bnx hK hb hK.size
    have h1_1 := cell_bel h1 hb hlf
    have h2_1 := cell_bel h2 hb hlf
    have h3_1 := cell_bel h3 hb hlf
    have h4_1 := cell_bel h4 hb hlf
    clear h1 h2 h3 h4 hF hb
    by_cases qa : 6 < f.a
    · go_wp2_with fail
      go_ret
      exact ⟨by first | rfl | (simp; omega), hK1⟩
    · by_cases qh : 6 < f.h
      · go_wp2_with fail
        go_ret
        exact ⟨by first | rfl | (simp; omega), hK1⟩
      · by_cases q0 : f.a ≤ 3
        · by_cases q1 : f.k ≤ 6
          · by_cases q2 : f.h ≤ 2
            · by_cases q3 : f.la ≤ 3
              · go_wp2_with fail
                go_ret
                exact ⟨by first | rfl | (simp; omega), hK1⟩
              · exact absurd hl (fun hh => by rcases hh with hh | hh | hh | hh <;> first | exact hh hmay | omega)
            · exact absurd hl (fun hh => by rcases hh with hh | hh | hh | hh <;> first | exact hh hmay | omega)
          · exact absurd hl (fun hh => by rcases hh with hh | hh | hh | hh <;> first | exact hh hmay | omega)
        · exact absurd hl (fun hh => by rcases hh with hh | hh | hh | hh <;> first | exact hh hmay | omega)
  · go_wp2_with (refine wpList_blk_yes (t := 23) (T := 23) (by rfl) rfl rfl Tryd.underlying23 rfl (by kernel_rfl) hF ?_)
    (with_reducible refine (rmay_no f w0 hf hmay).mono ?_)
    rintro e w1 ⟨rfl, hb⟩
    have hK1 := bnx hK hb hK.size
    have h1_1 := cell_bel h1 hb hlf
    have h2_1 := cell_bel h2 hb hlf
    have h3_1 := cell_bel h3 hb hlf
    have h4_1 := cell_bel h4 hb hlf
    clear h1 h2 h3 h4 hF hb
    go_wp2_with fail
    go_ret
    exact ⟨by first | rfl | (simp; omega), hK1⟩
set_option maxRecDepth 100000 in
set_option maxHeartbeats 4000000 in
theorem light_no (f : Fw) (w : World) (hf : f.ok) (hl : ¬ f.light) : Calls Tryd.prog 18 #[.agg f.cs] w fun e w' => e = .returned (.bool false) ∧ Below w.heap.size w w' := by
  have hF := Blk.new w 23 f.cs
  have hK := bal (Below.refl w.heap.size w) (Nat.le_refl _) (.cells f.cs 23)
  go_enter Tryd.func18, Tryd.ntmps18
  go_upto_region 1 with fail
  change Code.wp _ _ _ _ (w.alloc (.cells f.cs 23))
  generalize w.alloc (.cells f.cs 23) = w0 at hF hK ⊢
  have hlf := hF.lt
  have h1 := hF.cell 1 (.int .i64 f.la) rfl
  have h2 := hF.cell 2 (.int .i64 f.h) rfl
  have h3 := hF.cell 3 (.int .i64 f.k) rfl
  have h4 := hF.cell 4 (.int .i64 f.a) rfl
  by_cases hmay : f.may
  · go_wp2_with (refine wpList_blk_yes (t := 23) (T := 23) (by rfl) rfl rfl Tryd.underlying23 rfl (by kernel_rfl) hF ?_)
    (with_reducible refine (rmay_yes f w0 hf hmay).mono ?_)
    rintro e w1 ⟨rfl, hb⟩
    have hK1 := bnx hK hb hK.size
    have h1_1 := cell_bel h1 hb hlf
    have h2_1 := cell_bel h2 hb hlf
    have h3_1 := cell_bel h3 hb hlf
    have h4_1 := cell_bel h4 hb hlf
    clear h1 h2 h3 h4 hF hb
    by_cases qa : 6 < f.a
    · exact absurd (.inr (.inl qa)) hl
    · by_cases qh : 6 < f.h
      · exact absurd (.inr (.inr (.inl qh))) hl
      · by_cases q0 : f.a ≤ 3
        · by_cases q1 : f.k ≤ 6
          · by_cases q2 : f.h ≤ 2
            · by_cases q3 : f.la ≤ 3
              · exact absurd (.inr (.inr (.inr ⟨q0, q1, q2, q3⟩))) hl
              · go_wp2_with fail
                go_ret
                exact ⟨by first | rfl | (simp; omega), hK1⟩
            · go_wp2_with fail
              go_ret
              exact ⟨by first | rfl | (simp; omega), hK1⟩
          · go_wp2_with fail
            go_ret
            exact ⟨by first | rfl | (simp; omega), hK1⟩
        · go_wp2_with fail
          go_ret
          exact ⟨by first | rfl | (simp; omega), hK1⟩
  · exact absurd (.inl hmay) hl
end Go.Proofs.YtfaonieaagepjaaDoor

/- Layer 17: what is told, and what it stands for, as rows. Conditions: none. -/
namespace Go.Proofs.YtfaonieaagepjaaDoor
open Go.RowKit
set_option linter.unusedVariables false
set_option linter.unusedSimpArgs false
/-- The number of the secret that the k-th digit tells. -/
def idx (b : List Int) (a k : Nat) : Nat := k * 2 ^ a + (dgN b (k * a) a).toNat
theorem dgN_nat (b : List Int) (s t : Nat) : ((dgN b s t).toNat : Int) = dgN b s t := Int.toNat_of_nonneg (dgN_bd b s t).1
theorem dgN_lt (b : List Int) (s t : Nat) : (dgN b s t).toNat < 2 ^ t := by
  have h := dgN_bd b s t
  omega
theorem idx_lt (b : List Int) (a k : Nat) (ha : a ≤ 14) (hk : k < 40) : idx b a k < 655360 := by
  have h := dgN_lt b (k * a) a
  have h2 : (k + 1) * 2 ^ a ≤ 40 * 16384 := Nat.mul_le_mul (by omega) (Nat.le_trans (Nat.pow_le_pow_right (by decide) ha) (by decide))
  rw [Nat.add_mul, Nat.one_mul] at h2
  unfold idx
  omega
theorem idx_or (b : List Int) (a k : Nat) : k <<< a ||| (dgN b (k * a) a).toNat = idx b a k := by
  unfold idx
  rw [← Nat.shiftLeft_add_eq_or_of_lt (dgN_lt b (k * a) a), Nat.shiftLeft_eq]
def standsS (N : Int) (sd : List Int) (tree q : Int) (told b : List Int) (n a : Nat) : Nat → List Int
  | 0 => []
  | k + 1 => standsS N sd tree q told b n a k ++ climbL N sd tree q (row told ((a + 1) * n) k) n (idx b a k) a
theorem standsS_len {N : Int} {sd : List Int} (h : Szd N sd) (tree q : Int) (told b : List Int) (n a : Nat) : ∀ k, (standsS N sd tree q told b n a k).length = sd.length * k
  | 0 => rfl
  | k + 1 => by rw [standsS, List.length_append, standsS_len h tree q told b n a k, climbL_len h, Nat.mul_succ]
theorem standsS_B (N : Int) (sd : List Int) (tree q : Int) (told b : List Int) (n a : Nat) : ∀ k, Bys (standsS N sd tree q told b n a k)
  | 0 => Bys.nil
  | k + 1 => (standsS_B N sd tree q told b n a k).append (climbL_B _ _ _ _ _ _ _ _)
def standsL (N : Int) (sd : List Int) (tree q : Int) (told b : List Int) (n a k : Nat) : List Int := atL N sd tree q 4 0 0 (standsS N sd tree q told b n a k)
/-- Beside a number: its neighbour under the same sum. -/
def nei (i : Nat) : Nat := if i % 2 = 1 then i - 1 else i + 1
theorem nei_xor (i : Nat) : i ^^^ 1 = nei i := by
  unfold nei
  split
  · rename_i h
    obtain ⟨j, rfl⟩ : ∃ j, i = 2 * j + 1 := ⟨i / 2, by omega⟩
    refine Nat.eq_of_testBit_eq fun k => ?_
    rw [Nat.testBit_xor]
    cases k with
    | zero => simp [Nat.testBit_zero]
    | succ k => simp [Nat.testBit_succ]; congr 1; omega
  · rename_i h
    obtain ⟨j, rfl⟩ : ∃ j, i = 2 * j := ⟨i / 2, by omega⟩
    refine Nat.eq_of_testBit_eq fun k => ?_
    rw [Nat.testBit_xor]
    cases k with
    | zero => simp [Nat.testBit_zero]
    | succ k => simp [Nat.testBit_succ]; congr 1; omega
def pathL (N : Int) (sd sec : List Int) (tree q : Int) (i : Nat) : Nat → List Int
  | 0 => []
  | g + 1 => pathL N sd sec tree q i g ++ sumT N sd sec tree q g ((nei (i / 2 ^ g) : Nat) : Int)
def tellS (N : Int) (sd sec : List Int) (tree q : Int) (b : List Int) (a : Nat) : Nat → List Int
  | 0 => []
  | k + 1 => tellS N sd sec tree q b a k ++ (atL N sd tree q 6 0 (idx b a k) sec ++ pathL N sd sec tree q (idx b a k) a)
theorem pathL_len {N : Int} {sd : List Int} (h : Szd N sd) (sec : List Int) (tree q : Int) (i : Nat) : ∀ g, (pathL N sd sec tree q i g).length = sd.length * g
  | 0 => rfl
  | g + 1 => by rw [pathL, List.length_append, pathL_len h sec tree q i g, sumT_nd h, Nat.mul_succ]
theorem tellS_len {N : Int} {sd : List Int} (h : Szd N sd) (sec : List Int) (tree q : Int) (b : List Int) (a : Nat) : ∀ k, (tellS N sd sec tree q b a k).length = sd.length * ((a + 1) * k)
  | 0 => rfl
  | k + 1 => by
    rw [tellS, List.length_append, List.length_append, tellS_len h sec tree q b a k, pathL_len h, atL_nd h, Nat.mul_succ (a + 1) k, Nat.mul_add, Nat.mul_add, Nat.mul_one]
    omega
end Go.Proofs.YtfaonieaagepjaaDoor
