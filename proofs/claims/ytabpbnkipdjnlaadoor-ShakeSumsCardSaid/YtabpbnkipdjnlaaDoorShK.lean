/- ShakeSums, walked. Conditions: the text reads as bytes; the tables. -/
import Derived.Test.YtabpbnkipdjnlaaDoorShJ
namespace Go.Proofs.YtabpbnkipdjnlaaDoor
open Go.RowKit
set_option linter.unusedVariables false
set_option linter.unusedSimpArgs false

set_option maxRecDepth 100000 in
set_option maxHeartbeats 1000000 in
theorem sums_walk (l : List Int) (A : Option Addr) (c : Nat) (n : Int) (w : World) (hr : Rd w w.heap.size .u8 A l) (hlc : l.length ≤ c) (hc : c ≤ 9223372036854775807) (hA : A = none → c = 0) (hby : Bys l) (ht : KTab w) :
    Calls Tryd.prog 7 #[.slice A l.length c, .int .i64 n] w fun e w' => e = .returned (.bool true) ∧ Below w.heap.size w w' := by
  have hz := World.block_lt_of_cell? w _ (ht.2 0 (by decide))
  have hz0 := World.block_lt_of_cell? w _ (ht.1 0 (by decide))
  have hz2 : 1 < w.heap.size := hz
  have hz3 : 0 < w.heap.size := hz0
  go_enter Tryd.func7, Tryd.ntmps7
  go_wp2_with fail
  (with_reducible refine (awake5_any w ht).mono ?_)
  rintro e w1 ⟨rfl, hb1⟩
  have hr1 := hr.below hb1
  have ht1 := ht.below hb1 hz3 hz2
  have hs1 := hb1.size
  by_cases h3 : 3000 < l.length
  · have h3I : (3000 : Int) < l.length := by omega
    go_wp2_with fail
    go_ret
    exact ⟨rfl, hb1⟩
  · have h3I : ¬ (3000 : Int) < l.length := by omega
    by_cases hn1 : 2000 < n ∧ n ≤ 65536
    · obtain ⟨hn2, hn3⟩ := hn1
      go_wp2_with fail
      go_ret
      exact ⟨rfl, hb1⟩
    · have hmx : (200000000 : Nat) ≤ maxLen := by decide
      have hOe := Own.lit (b := w1.heap.size) (e := 5) (k := .u8) w1 [] (by omega) (Nat.zero_le _)
      have hRe := hr1.alloc hs1 (.cells #[] 5)
      have hll : l.length ≤ 3000 := by omega
      have hcase : (0 ≤ n ∧ n ≤ 2000) ∨ n < 0 ∨ 65536 < n := by omega
      have hKe : Kept w.heap.size (fun _ => False) w (w1.alloc (.cells #[] 5)) := (Kept.of_below (S := fun _ => False) hb1).alloc _ hs1
      clear hn1
      rcases hcase with ⟨h5, h6⟩ | hbad
      · obtain ⟨N, rfl⟩ : ∃ N : Nat, n = N := ⟨n.toNat, by omega⟩
        have hn4 : ¬ (2000 : Int) < (N : Int) := by omega
        go_wp2_with (at_builtin; refine wpList_app rfl _ _ 36 5 .u8 1 rfl Tryd.underlying36 inf_u8 hOe hRe rfl rfl rfl l rfl l.length rfl (by omega) (by omega) (by simp) ?_; intro Aa ca wa hOa hga hfa)
        have hKa := hKe.grew hOe hga (by omega) (by simp; omega)
        have hsa := hKa.size
        have hra := hr.kept hKa (Nat.le_refl _) (fun _ _ h => h)
        have hta := ht.kept hKa hz3 hz2
        clear hOe hRe hKe hga hfa
        (with_reducible refine (sum_n l Aa l.length ca wa.heap.size N wa hOa.rd (Nat.le_refl _) (by omega) hOa.nilcap hta hby (by omega) rfl N rfl).mono ?_)
        rintro e w2 ⟨A2, c2, rfl, hO2, hb2⟩
        have hO2' := hOa.below hb2 (Nat.le_refl _)
        have hr2 := hra.below (hb2.mono hsa)
        have hs2 := hb2.size
        go_wp2_with fail
        (with_reducible refine (refsum_any l A c w.heap.size N w2 hr2 (by omega) (by omega) (by omega) hby).mono ?_)
        rintro e w3 ⟨A3, c3, rfl, hR3, hb3⟩
        have hs3 := hb3.size
        have hO3 := hO2.below hb3 (Nat.le_refl _)
        have hOa3 := hO2'.below hb3 (Nat.le_refl _)
        have hr3 := hr2.below (hb3.mono (by omega))
        go_wp2_with fail
        (with_reducible refine (same_true w3 A2 A3 (seg (newS l) 0 N) N c2 c3 w3.heap.size w3.heap.size hO3.rd hR3 (seg_len _ _ _) (by omega)).mono ?_)
        rintro e w4 ⟨rfl, q, rfl⟩
        go_wp2_with fail
        (with_reducible refine (same_true _ Aa A l l.length ca c w3.heap.size w.heap.size (hOa3.rd.drewN q) (hr3.drewN q) rfl (by omega)).mono ?_)
        rintro e w5 ⟨rfl, q2, rfl⟩
        have hX : Below w.heap.size w (w3.drewN (q + q2)) := (((hKa.trans (S' := fun _ => False) (Kept.of_below hb2) hsa (fun _ _ h => h)).trans (S' := fun _ => False) (Kept.of_below hb3) (by omega) (fun _ _ h => h)).drewN (q + q2)).below
        go_wp2_with fail
        go_ret
        exact ⟨rfl, hX⟩
      · rcases hbad with hbad | hbad
        · have hn4 : ¬ (2000 : Int) < n := by omega
          have hBAD : n < 0 ∨ 65536 < n := .inl hbad
          go_wp2_with (at_builtin; refine wpList_app rfl _ _ 36 5 .u8 1 rfl Tryd.underlying36 inf_u8 hOe hRe rfl rfl rfl l rfl l.length rfl (by omega) (by omega) (by simp) ?_; intro Aa ca wa hOa hga hfa)
          have hKa := hKe.grew hOe hga (by omega) (by simp; omega)
          have hsa := hKa.size
          have hra := hr.kept hKa (Nat.le_refl _) (fun _ _ h => h)
          have hta := ht.kept hKa hz3 hz2
          clear hOe hRe hKe hga hfa
          (with_reducible refine (sum_none l Aa ca wa.heap.size n wa hOa.rd (Nat.le_refl _) (by omega) hOa.nilcap hta hby hBAD).mono ?_)
          rintro e w2 ⟨rfl, hb2⟩
          have hO2' := hOa.below hb2 (Nat.le_refl _)
          have hr2 := hra.below (hb2.mono hsa)
          have hs2 := hb2.size
          go_wp2_with fail
          (with_reducible refine (refsum_none n _ w2 hBAD).mono ?_)
          rintro e w3 ⟨rfl, rfl⟩
          go_wp2_with fail
          (with_reducible refine (same_true w2 none none [] 0 0 0 0 0 Rd.nil Rd.nil rfl (by decide)).mono ?_)
          rintro e w4 ⟨rfl, q, rfl⟩
          go_wp2_with fail
          (with_reducible refine (same_true _ Aa A l l.length ca c w2.heap.size w.heap.size (hO2'.rd.drewN q) (hr2.drewN q) rfl (by omega)).mono ?_)
          rintro e w5 ⟨rfl, q2, rfl⟩
          have hX : Below w.heap.size w (w2.drewN (q + q2)) := ((hKa.trans (S' := fun _ => False) (Kept.of_below hb2) hsa (fun _ _ h => h)).drewN (q + q2)).below
          go_wp2_with fail
          go_ret
          exact ⟨rfl, hX⟩
        · have hn4 : (2000 : Int) < n := by omega
          have hn5 : ¬ n ≤ 65536 := by omega
          have hBAD : n < 0 ∨ 65536 < n := .inr hbad
          go_wp2_with (at_builtin; refine wpList_app rfl _ _ 36 5 .u8 1 rfl Tryd.underlying36 inf_u8 hOe hRe rfl rfl rfl l rfl l.length rfl (by omega) (by omega) (by simp) ?_; intro Aa ca wa hOa hga hfa)
          have hKa := hKe.grew hOe hga (by omega) (by simp; omega)
          have hsa := hKa.size
          have hra := hr.kept hKa (Nat.le_refl _) (fun _ _ h => h)
          have hta := ht.kept hKa hz3 hz2
          clear hOe hRe hKe hga hfa
          (with_reducible refine (sum_none l Aa ca wa.heap.size n wa hOa.rd (Nat.le_refl _) (by omega) hOa.nilcap hta hby hBAD).mono ?_)
          rintro e w2 ⟨rfl, hb2⟩
          have hO2' := hOa.below hb2 (Nat.le_refl _)
          have hr2 := hra.below (hb2.mono hsa)
          have hs2 := hb2.size
          go_wp2_with fail
          (with_reducible refine (refsum_none n _ w2 hBAD).mono ?_)
          rintro e w3 ⟨rfl, rfl⟩
          go_wp2_with fail
          (with_reducible refine (same_true w2 none none [] 0 0 0 0 0 Rd.nil Rd.nil rfl (by decide)).mono ?_)
          rintro e w4 ⟨rfl, q, rfl⟩
          go_wp2_with fail
          (with_reducible refine (same_true _ Aa A l l.length ca c w2.heap.size w.heap.size (hO2'.rd.drewN q) (hr2.drewN q) rfl (by omega)).mono ?_)
          rintro e w5 ⟨rfl, q2, rfl⟩
          have hX : Below w.heap.size w (w2.drewN (q + q2)) := ((hKa.trans (S' := fun _ => False) (Kept.of_below hb2) hsa (fun _ _ h => h)).drewN (q + q2)).below
          go_wp2_with fail
          go_ret
          exact ⟨rfl, hX⟩

end Go.Proofs.YtabpbnkipdjnlaaDoor
