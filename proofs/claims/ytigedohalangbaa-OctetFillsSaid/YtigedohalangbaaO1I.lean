/- OctetFills, walked. Conditions: the byte is one. -/
import Derived.Test.YtigedohalangbaaO1G
namespace Go.Proofs.Ytigedohalangbaa
open Go.RowKit
set_option linter.unusedVariables false
set_option linter.unusedSimpArgs false

set_option maxRecDepth 100000 in
set_option maxHeartbeats 1000000 in
theorem fills_walk (x n : Int) (w : World) (hx : B8 x) (hn : 0 ≤ n ∧ n < 65536) :
    Calls Try.prog 10 #[.int .u8 x, .int .u16 n] w fun e w' => e = .returned (.bool true) ∧ Below w.heap.size w w' := by
  obtain ⟨n, rfl⟩ : ∃ m : Nat, n = m := ⟨n.toNat, by omega⟩
  have hn1 : (n : Int) < 65536 := hn.2
  obtain ⟨k, hk⟩ : ∃ k, n % 2001 = k := ⟨_, rfl⟩
  have hkI : ((n : Int) % 2001) = (k : Int) := by omega
  have hk2 : k ≤ 2000 := by omega
  clear hn hk
  go_enter Try.func10, Try.ntmps10
  go_wp2_with fail
  refine (awake1_any w).mono ?_
  rintro e w1 ⟨rfl, hb1⟩
  have hs1 := hb1.size
  go_wp2_with fail
  have hF := fill_any x k w1 (by omega)
  unfold CatPost at hF
  rw [List.length_replicate] at hF
  refine hF.mono ?_
  rintro e w2 ⟨A2, c2, rfl, hF2, hb2⟩
  have hb02 : Below w.heap.size w w2 := hb1.trans (hb2.mono hs1)
  have hR2 := hF2.rd
  have hcap := hF2.cap
  rw [List.length_replicate] at hcap
  have hs2 := hb02.size
  obtain ⟨Z, hZ⟩ : ∃ Z, List.replicate k x = Z := ⟨_, rfl⟩
  have hZl : Z.length = k := by rw [← hZ, List.length_replicate]
  have hZg : ∀ i, i < k → gt Z i = x := fun i hi => by rw [← hZ]; exact gt_rep _ _ _ hi
  have hZZ : Z ++ Z = List.replicate (2 * k) x := by rw [← hZ, List.replicate_append_replicate, Nat.two_mul]
  rw [hZ] at hR2
  have HZG := Lib.hid hZg
  have HZZ := Lib.hid hZZ
  clear hF hF2 hb2 hb1 hZ hZg hZZ
  go_wp2_with fail
  go_loopg [7] k (fun g s7 wr => wr = w2 ∧ ∃ i : Nat, s7 = .int .i64 i ∧ g = k - i ∧ i ≤ k)
  case atStart => exact ⟨rfl, 0, rfl, rfl, Nat.zero_le _⟩
  case round =>
    obtain ⟨rfl, i, rfl, hg, hi⟩ := hrel
    have HG := Lib.hid hg
    clear hg
    by_cases hlt : i < k
    · have hltI : (i : Int) < (k : Int) := by omega
      obtain ⟨ad, rfl, _, hc⟩ := hR2.at_ (i := i) (by omega)
      rw [HZG.out i hlt] at hc
      go_wp2_with fail
      go_roundg (k - (i + 1))
      case measure => have := HG.out; omega
      case rel => exact ⟨rfl, i + 1, by go_num, rfl, by omega⟩
    · have hltI : ¬ (i : Int) < (k : Int) := by omega
      obtain rfl : i = k := by omega
      have hPL := Parts.lit (w := wr) (T := 22) [.slice A2 i c2, .slice none 0 0, .slice A2 i c2] [Z, [], Z] (Nat.le_refl _) rfl (fun j hj => by
        have : j = 0 ∨ j = 1 ∨ j = 2 := by simp at hj; omega
        rcases this with rfl | rfl | rfl
        · exact ⟨A2, c2, by rw [show gl [Z, [], Z] 0 = Z from rfl, hZl]; rfl, hR2, by rw [show gl [Z, [], Z] 0 = Z from rfl, hZl]; exact hcap⟩
        · exact ⟨none, 0, rfl, Rd.nil, Nat.le_refl _⟩
        · exact ⟨A2, c2, by rw [show gl [Z, [], Z] 2 = Z from rfl, hZl]; rfl, hR2, by rw [show gl [Z, [], Z] 2 = Z from rfl, hZl]; exact hcap⟩)
      have hC := cat_any _ _ 3 _ 3 [Z, [], Z] (Z ++ Z) (by simp) hPL rfl (by simp) (by decide) (by decide) (by rw [List.length_append, hZl]; omega)
      unfold CatPost at hC
      rw [List.length_append, hZl] at hC
      clear hPL
      go_wp2_with fail
      refine hC.mono ?_
      rintro e w3 ⟨A3, c3, rfl, hF3, hb3⟩
      have hb03 : Below w.heap.size w w3 := (hb02.alloc hs2 _).trans (hb3.mono (by simp; omega))
      have hR3 := hF3.rd
      have hs3 := hb03.size
      clear hC hF3 hb3 hb02
      have hF := fill_any x (2 * i) w3 (by omega)
      unfold CatPost at hF
      rw [List.length_replicate, ← HZZ.out] at hF
      have h2k : ((2 * i : Nat) : Int) = 2 * (i : Int) := by push_cast; rfl
      rw [h2k] at hF
      clear h2k
      go_wp2_with fail
      refine hF.mono ?_
      rintro e w4 ⟨A4, c4, rfl, hF4, hb4⟩
      have hb04 : Below w.heap.size w w4 := hb03.trans (hb4.mono hs3)
      have hR4 := hF4.rd
      have hR34 := hR3.below hb4
      have hs4 := hb04.size
      clear hF hF4 hb4 hb03 hR3
      go_wp2_with fail
      refine (rsame_any true w4 A3 A4 (Z ++ Z) (Z ++ Z) (i + i) (2 * i) c3 c4 _ _ hR34 hR4 (by rw [List.length_append, hZl]) (by rw [List.length_append, hZl]; omega) (by omega) (by simp)).mono ?_
      rintro e w5 ⟨rfl, q5, rfl⟩
      have hb05 := below_drN hb04 q5
      generalize w4.drewN q5 = w5 at hb05 ⊢
      have hs5 := hb05.size
      clear hR34 hR4 hb04
      go_wp2_with fail
      refine (cat_any w5 none 0 w5.heap.size 0 [] [] rfl (fun h => absurd h (by simp)) rfl (Nat.le_refl _) (Nat.le_refl _) (by decide) (by decide)).mono ?_
      rintro e w6 ⟨A6, c6, rfl, _, hb6⟩
      have hb06 := hb05.trans (hb6.mono hs5)
      go_wp2_with fail
      go_ret
      exact ⟨rfl, hb06⟩

end Go.Proofs.Ytigedohalangbaa
