/- OctetPairs, walked. Conditions: the texts read as bytes. -/
import Derived.Test.YtigedohalangbaaO1K
import Derived.Test.YtigedohalangbaaLin2
import Derived.IntWalk
namespace Go.Proofs.Ytigedohalangbaa
open Go.RowKit
set_option linter.unusedVariables false
set_option linter.unusedSimpArgs false

/-- What Fill gives: nothing for a count that there isn't. -/
def fillZ (x n : Int) : List Int := if 0 ≤ n ∧ n ≤ 65536 then List.replicate n.toNat x else []
theorem fillZ_len (x n : Int) : (fillZ x n).length ≤ 65536 := by unfold fillZ; split <;> simp <;> omega
theorem fill_all (x n : Int) (w : World) : Calls Try.prog 33 #[.int .u8 x, .int .i64 n] w (SlPost w (fillZ x n)) := by
  unfold fillZ
  by_cases h : 0 ≤ n ∧ n ≤ 65536
  · rw [if_pos h]
    obtain ⟨m, rfl⟩ : ∃ m : Nat, n = m := ⟨n.toNat, by omega⟩
    rw [Int.toNat_natCast]
    refine (fill_any x m w (by omega)).mono ?_
    rintro e w1 ⟨A, c, rfl, hF, hb⟩
    exact ⟨A, c, rfl, hF.rd, hF.cap, hb⟩
  · rw [if_neg h]
    refine (fill_none x n w (by omega)).mono ?_
    rintro e w1 ⟨rfl, rfl⟩
    exact ⟨none, 0, rfl, Rd.nil, Nat.le_refl _, Below.refl _ _⟩
theorem rfill_all (x n : Int) (w : World) : Calls Try.prog 36 #[.int .u8 x, .int .i64 n] w (SlPost w (fillZ x n)) := by
  unfold fillZ
  by_cases h : 0 ≤ n ∧ n ≤ 65536
  · rw [if_pos h]
    obtain ⟨m, rfl⟩ : ∃ m : Nat, n = m := ⟨n.toNat, by omega⟩
    rw [Int.toNat_natCast]
    refine (rfill_any x m w (by omega)).mono ?_
    rintro e w1 ⟨A, c, rfl, hF, hb⟩
    exact ⟨A, c, rfl, hF.rd, hF.cap, hb⟩
  · rw [if_neg h]
    refine (rfill_none x n w (by omega)).mono ?_
    rintro e w1 ⟨rfl, rfl⟩
    exact ⟨none, 0, rfl, Rd.nil, Nat.le_refl _, Below.refl _ _⟩

theorem box_first {w w1 : World} (x n : Int) (T : Nat) (hb : Below (w.alloc (.cells #[.int .u8 x, .int .i64 n] T)).heap.size (w.alloc (.cells #[.int .u8 x, .int .i64 n] T)) w1) :
    w1.cell? ⟨w.heap.size, 0, none⟩ = some (.int .u8 x) ∧ w1.cell? ⟨w.heap.size, 1, none⟩ = some (.int .i64 n) ∧ Below w.heap.size w w1 := by
  refine ⟨?_, ?_, ((Below.refl _ w).alloc (Nat.le_refl _) _).trans (hb.mono (by simp))⟩
  · rw [World.cell?_of_block (hb.block w.heap.size (by simp))]; rw [World.cell?_alloc_new]; rfl
  · rw [World.cell?_of_block (hb.block w.heap.size (by simp))]; rw [World.cell?_alloc_new]; rfl
set_option maxRecDepth 100000 in
set_option maxHeartbeats 4000000 in
theorem pairs_long (l m : List Int) (A B : Option Addr) (c d : Nat) (x n : Int) (w : World) (h : ¬ (l.length ≤ 1000 ∧ m.length ≤ 1000)) :
    Calls Try.prog 11 #[.slice A l.length c, .slice B m.length d, .agg #[.int .u8 x, .int .i64 n]] w fun e w' => e = .returned (.bool true) ∧ Below w.heap.size w w' := by
  by_cases h1 : l.length ≤ 1000
  · have h1I : ¬ (l.length : Int) > 1000 := by omega
    have h2I : (m.length : Int) > 1000 := by omega
    clear h h1
    go_enter Try.func11, Try.ntmps11
    go_wp2_with fail
    refine (awake1_any _).mono ?_
    rintro e w1 ⟨rfl, hb⟩
    obtain ⟨hc0, hc1, hb1⟩ := box_first x n _ hb
    clear hb
    go_wp2_with fail
    go_ret
    exact ⟨rfl, hb1⟩
  · have h1I : (l.length : Int) > 1000 := by omega
    clear h h1
    go_enter Try.func11, Try.ntmps11
    go_wp2_with fail
    refine (awake1_any _).mono ?_
    rintro e w1 ⟨rfl, hb⟩
    obtain ⟨hc0, hc1, hb1⟩ := box_first x n _ hb
    clear hb
    go_wp2_with fail
    go_ret
    exact ⟨rfl, hb1⟩
set_option maxRecDepth 100000 in
set_option maxHeartbeats 4000000 in
theorem pairs_main (l m : List Int) (A B : Option Addr) (c d : Nat) (x n : Int) (w : World) (hA : Rd w w.heap.size .u8 A l) (hB : Rd w w.heap.size .u8 B m) (hlc : l.length ≤ c) (hmd : m.length ≤ d) (hc : c ≤ 9223372036854775807) (hd : d ≤ 9223372036854775807)
    (hnA : A = none → c = 0) (hnB : B = none → d = 0) (hbl : Bys l) (hbm : Bys m) (hl : l.length ≤ 1000) (hm : m.length ≤ 1000) :
    Calls Try.prog 11 #[.slice A l.length c, .slice B m.length d, .agg #[.int .u8 x, .int .i64 n]] w fun e w' => e = .returned (.bool true) ∧ Below w.heap.size w w' := by
  have h1I : ¬ (l.length : Int) > 1000 := by omega
  have h2I : ¬ (m.length : Int) > 1000 := by omega
  obtain ⟨k, hk⟩ : ∃ k, min l.length m.length = k := ⟨_, rfl⟩
  obtain ⟨b0, hb0⟩ : ∃ b, decide (l = m) = b := ⟨_, rfl⟩
  obtain ⟨X, hX⟩ : ∃ X, xorL l m = X := ⟨_, rfl⟩
  have hXl : X.length = k := by rw [← hX, xorL_len, hk]
  have hXB : Bys X := by rw [← hX]; exact xorL_B _ _
  obtain ⟨F, hF⟩ : ∃ F, fillZ x n = F := ⟨_, rfl⟩
  have hFl : F.length ≤ 65536 := by rw [← hF]; exact fillZ_len _ _
  have hfill := fill_all x n
  have hrfill := rfill_all x n
  rw [hF] at hfill hrfill
  have HX := Lib.hid (show xorL l m = X ∧ X.length = k from ⟨hX, hXl⟩)
  have HK := Lib.hid hk
  have HB := Lib.hid hb0
  clear hX hXl hk hb0 hF
  go_enter Try.func11, Try.ntmps11
  go_wp2_with fail
  refine (awake1_any _).mono ?_
  rintro e w1 ⟨rfl, hb⟩
  obtain ⟨hc0, hc1, hb1⟩ := box_first x n _ hb
  clear hb
  have hs1 := hb1.size
  have hA1 := hA.below hb1
  have hB1 := hB.below hb1
  have hxor := xor_any l m A B l.length m.length c d w1 (hA1.more hs1) (hB1.more hs1) rfl rfl hlc hnA (by omega) hbl hbm (by omega)
  unfold XorPost at hxor
  rw [HX.out.1, HX.out.2] at hxor
  go_wp2_with fail
  refine hxor.mono ?_
  rintro e w2 ⟨A2, c2, rfl, hO2, hb2⟩
  have hb02 := hb1.trans (hb2.mono hs1)
  have hA2 := hA1.below (hb2.mono hs1)
  have hB2 := hB1.below (hb2.mono hs1)
  have hR2 := hO2.rd
  have hn2 : A2 = none → c2 = 0 := hO2.nilcap
  have hc2 : k ≤ c2 := by have := hO2.len.2; rw [HX.out.2] at this; exact this
  have hs2 := hb02.size
  have hz2 := Nat.le_refl w2.heap.size
  clear hxor hO2 hb2 hb1 hA1 hB1 hc0 hc1
  go_wp2_with (refine wpList_min_nat (o := ⟨some 33, _, _, _, _, _⟩) rfl _ _ _ rfl l.length m.length k rfl rfl HK.out ?_)
  refine (osame_any b0 w2 A B l m l.length m.length c d _ _ hA2 hB2 rfl rfl hbl hbm HB.out).mono ?_
  rintro e w2' ⟨rfl, rfl⟩
  go_wp2_with fail
  refine (rsame_any b0 w2 A B l m l.length m.length c d _ _ hA2 hB2 rfl rfl (by omega) HB.out).mono ?_
  rintro e w3 ⟨rfl, q3, rfl⟩
  have hb03 := below_drN hb02 q3
  have hA3 := hA2.drewN q3
  have hB3 := hB2.drewN q3
  have hR3 := hR2.drewN q3
  have hs3 : w.heap.size ≤ (w2.drewN q3).heap.size := hs2
  have hz3 : w2.heap.size ≤ (w2.drewN q3).heap.size := hz2
  generalize w2.drewN q3 = w3 at hb03 hA3 hB3 hR3 hs3 hz3 ⊢
  clear hb02 hA2 hB2 hR2 hs2 hz2
  go_wp2_with fail
  refine (osame_any true w3 A A l l l.length l.length c c _ _ hA3 hA3 rfl rfl hbl hbl (by simp)).mono ?_
  rintro e w3' ⟨rfl, rfl⟩
  go_wp2_with fail
  refine (hfill w3).mono ?_
  rintro e w4 ⟨A4, c4, rfl, hR4, hc4, hb4⟩
  have hb04 := hb03.trans (hb4.mono hs3)
  have hA4 := hA3.below (hb4.mono hs3)
  have hB4 := hB3.below (hb4.mono hs3)
  have hR24 := hR3.below (hb4.mono hz3)
  have hs4 := hb04.size
  have hz4 : w2.heap.size ≤ w4.heap.size := by have := hb4.size; omega
  clear hb4 hb03 hA3 hB3 hR3 hs3 hz3 hfill
  go_wp2_with fail
  refine (hrfill w4).mono ?_
  rintro e w5 ⟨A5, c5, rfl, hR5, hc5, hb5⟩
  have hb05 := hb04.trans (hb5.mono hs4)
  have hA5 := hA4.below (hb5.mono hs4)
  have hB5 := hB4.below (hb5.mono hs4)
  have hR25 := hR24.below (hb5.mono hz4)
  have hR45 := hR4.below hb5
  have hs5 := hb05.size
  have hz5 : w2.heap.size ≤ w5.heap.size := by have := hb5.size; omega
  clear hb5 hb04 hA4 hB4 hR4 hR24 hs4 hz4 hrfill
  go_wp2_with fail
  refine (rsame_any true w5 A4 A5 F F F.length F.length c4 c5 _ _ hR45 hR5 rfl rfl (by omega) (by simp)).mono ?_
  rintro e w6 ⟨rfl, q6, rfl⟩
  have hb06 := below_drN hb05 q6
  have hA6 := hA5.drewN q6
  have hB6 := hB5.drewN q6
  have hR6 := hR25.drewN q6
  have hs6 : w.heap.size ≤ (w5.drewN q6).heap.size := hs5
  have hz6 : w2.heap.size ≤ (w5.drewN q6).heap.size := hz5
  generalize w5.drewN q6 = w6 at hb06 hA6 hB6 hR6 hs6 hz6 ⊢
  clear hb05 hA5 hB5 hR25 hs5 hz5 hR45 hR5
  go_wp2_with fail
  go_loopg [11] k (fun g s11 wr => ∃ j : Nat, s11 = .int .i64 j ∧ g = k - j ∧ j ≤ k ∧ ∃ q, wr = w6.drewN q)
  case atStart => exact ⟨0, rfl, rfl, Nat.zero_le _, 0, rfl⟩
  case round =>
    obtain ⟨j, rfl, hg, hj, q, rfl⟩ := hrel
    have HG := Lib.hid hg
    clear hg
    by_cases hlt : j < k
    · have hltI : (j : Int) < (k : Int) := by omega
      have hKo := HK.out
      obtain ⟨aa, rfl, _, hca⟩ := hA6.at_ (i := j) (by omega)
      obtain ⟨ab, rfl, _, hcb⟩ := hB6.at_ (i := j) (by omega)
      obtain ⟨ax, rfl, _, hcx⟩ := hR6.at_ (i := j) (by rw [HX.out.2]; omega)
      have hltA : (j : Int) < (l.length : Int) := by omega
      have hltB : (j : Int) < (m.length : Int) := by omega
      have hx := gt_xorL l m j (by omega)
      rw [HX.out.1] at hx
      rw [hx] at hcx
      obtain ⟨y, hy⟩ : ∃ y, gt l j = y := ⟨_, rfl⟩
      obtain ⟨z, hz⟩ : ∃ z, gt m j = z := ⟨_, rfl⟩
      rw [hy] at hca hcx
      rw [hz] at hcb hcx
      clear hx hy hz hKo
      go_wp2_with fail
      go_quiet (fail)
      go_wp2_with fail
      go_roundg (k - (j + 1))
      case measure => have := HG.out; omega
      case rel => exact ⟨j + 1, by go_num, rfl, by omega, q + nq, rfl⟩
    · have hltI : ¬ (j : Int) < (k : Int) := by omega
      obtain rfl : k = j := by omega
      have hb7 := below_drN hb06 q
      have hA7 := hA6.drewN q
      have hB7 := hB6.drewN q
      have hR7 := hR6.drewN q
      have hs7 : w.heap.size ≤ (w6.drewN q).heap.size := hs6
      have hz7 : w2.heap.size ≤ (w6.drewN q).heap.size := hz6
      generalize w6.drewN q = w7 at hb7 hA7 hB7 hR7 hs7 hz7 ⊢
      clear hb06 hA6 hB6 hR6 hs6 hz6
      have hk1 : k ≤ 1000 := by have := HK.out; omega
      have hA7 := hA7.drew
      have hB7 := hB7.drew
      have hR7 := hR7.drew
      have hb7 : Below w.heap.size w w7.drew := below_drN hb7 1
      have hs7 : w.heap.size ≤ w7.drew.heap.size := hs7
      have hz7 : w2.heap.size ≤ w7.drew.heap.size := hz7
      have hxor2 := xor_any X m A2 B k m.length c2 d w7.drew (hR7.more hz7) (hB7.more hs7) HX.out.2 rfl hc2 hn2 (by omega) hXB hbm (by omega)
      unfold XorPost at hxor2
      obtain ⟨T, hT⟩ : ∃ T, l.take k = T := ⟨_, rfl⟩
      have hTl : T.length = k := by rw [← hT, List.length_take]; have := HK.out; omega
      have hXT : xorL X m = T := by rw [← HX.out.1, xorL_twice l m hbl, HK.out, hT]
      rw [hXT, hTl] at hxor2
      have hAT : Rd w7.drew w.heap.size .u8 A T := by rw [← hT]; exact hA7.take_ k
      have hsl : ∀ wx, (Instr.slice 22 (.slice A l.length c) none (some (.int .i64 (k : Int))) none).run Try.prog wx = .ok (.slice A k c) wx := fun wx => run_slice_0v 22 5 Try.underlying22 (by kernel_rfl) A _ c k (by have := HK.out; omega) .i64 wx
      clear hXT hT
      go_wp2_with fail
      refine Ln.enter 20 rfl (by kernel_rfl) ?_
      refine Ln.val 0 (.slice A2 k c2) rfl (by kernel_rfl) (by kernel_rfl) (by kernel_rfl) (fun _ _ _ h => h) (by kernel_rfl) (fun w => by kernel_rfl) ?_
      refine Ln.val 1 (.slice B m.length d) rfl (by kernel_rfl) (by kernel_rfl) (by kernel_rfl) (fun _ _ _ h => h) (by kernel_rfl) (fun w => by kernel_rfl) ?_
      refine Ln.val 3 (.slice A l.length c) rfl (by kernel_rfl) (by kernel_rfl) (by kernel_rfl) (fun _ _ _ h => h) (by kernel_rfl) (fun w => by kernel_rfl) ?_
      refine Ln.val 4 (.int .i64 k) rfl (by kernel_rfl) (by kernel_rfl) (by kernel_rfl) (fun _ _ _ h => h) (by kernel_rfl) (fun w => by kernel_rfl) ?_
      refine Ln.val 5 (.slice A k c) rfl (by kernel_rfl) (by kernel_rfl) (by kernel_rfl) (fun _ _ _ h => h) (by kernel_rfl) (fun w => exec_slice rfl (by kernel_rfl) (.slice A l.length c) _ none (some (.int .i64 k)) none (by kernel_rfl) (by kernel_rfl) (by kernel_rfl) (by kernel_rfl) (hsl w)) ?_
      refine Ln.call 2 (f := 34) (args := #[.slice A2 k c2, .slice B m.length d]) rfl (by kernel_rfl) (by kernel_rfl) (by kernel_rfl) ((hxor2).mono ?_)
      rintro e w8 ⟨A8, c8, rfl, hO8, hb8⟩
      refine ⟨_, rfl, ?_⟩
      have hb08 := hb7.trans (hb8.mono hs7)
      have hA8 := hA7.below (hb8.mono hs7)
      have hB8 := hB7.below (hb8.mono hs7)
      have hT8 := hAT.below (hb8.mono hs7)
      have hs8 := hb08.size
      refine Ln.call 6 (f := 29) (args := #[.slice A8 k c8, .slice A k c]) rfl (by kernel_rfl) (by kernel_rfl) (by kernel_rfl) ((rsame_any true w8 A8 A T T k k c8 c _ _ hO8.rd hT8 hTl hTl (by omega) (by simp)).mono ?_)
      rintro e u ⟨rfl, q8, rfl⟩
      refine ⟨_, rfl, ?_⟩
      have hbu := below_drN hb08 q8
      have hAu := hA8.drewN q8
      have hBu := hB8.drewN q8
      have hsu : w.heap.size ≤ (w8.drewN q8).heap.size := hs8
      generalize w8.drewN q8 = u at hbu hAu hBu hsu ⊢
      clear hb8 hb08 hA8 hB8 hT8 hs8 hO8 hxor2 hAT hA7 hB7 hR7 hb7 hs7 hz7
      refine Ln.val 7 (.bool true) rfl (by kernel_rfl) (by kernel_rfl) (by kernel_rfl) (fun _ _ _ h => h) (by kernel_rfl) (fun w => by kernel_rfl) ?_
      refine Ln.val 8 (.slice A l.length c) rfl (by kernel_rfl) (by kernel_rfl) (by kernel_rfl) (fun _ _ _ h => h) (by kernel_rfl) (fun w => by kernel_rfl) ?_
      refine Ln.val 9 (.slice B m.length d) rfl (by kernel_rfl) (by kernel_rfl) (by kernel_rfl) (fun _ _ _ h => h) (by kernel_rfl) (fun w => by kernel_rfl) ?_
      refine Ln.val 13 (.slice A l.length c) rfl (by kernel_rfl) (by kernel_rfl) (by kernel_rfl) (fun _ _ _ h => h) (by kernel_rfl) (fun w => by kernel_rfl) ?_
      refine Ln.val 15 (.slice B m.length d) rfl (by kernel_rfl) (by kernel_rfl) (by kernel_rfl) (fun _ _ _ h => h) (by kernel_rfl) (fun w => by kernel_rfl) ?_
      have hmx : (100000 : Nat) ≤ maxLen := by decide
      have hlm2 : (l ++ m).length ≤ 2000 := by rw [List.length_append]; omega
      refine Ln.two 10 12 (by kernel_rfl) (LnOp.made (w' := (u.alloc (.cells #[.slice A l.length c, .slice B m.length d] 22))) 10 (.slice (some ⟨u.heap.size, 0, none⟩) 2 2) rfl (by kernel_rfl) (by kernel_rfl) ?_) (LnOp.made (w' := (u.alloc (.cells #[] 5))) 12 (.slice (some ⟨u.heap.size, 0, none⟩) 0 0) rfl (by kernel_rfl) (by kernel_rfl) ?_)
      · have hP1 := Parts.lit (w := u) (T := 22) [.slice A l.length c, .slice B m.length d] [l, m] (Nat.le_refl _) rfl (fun j hj => by
          have : j = 0 ∨ j = 1 := by simp at hj; omega
          rcases this with rfl | rfl
          · exact ⟨A, c, rfl, hAu.more hsu, hlc⟩
          · exact ⟨B, d, rfl, hBu.more hsu, hmd⟩)
        refine Ln.two 11 12 (by kernel_rfl) (LnOp.call 11 (f := 32) (args := #[.slice (some ⟨u.heap.size, 0, none⟩) 2 2]) rfl (by kernel_rfl) (by kernel_rfl) ((cat_any (u.alloc (.cells #[.slice A l.length c, .slice B m.length d] 22)) (some ⟨u.heap.size, 0, none⟩) 2 (u.heap.size + 1) 2 [l, m] (l ++ m) (by simp) hP1 rfl (by simp) (Nat.le_refl _) (by decide) (by rw [List.length_append]; omega)).mono ?_)) (LnOp.made (w' := ((u.alloc (.cells #[.slice A l.length c, .slice B m.length d] 22)).alloc (.cells #[] 5))) 12 (.slice (some ⟨(u.alloc (.cells #[.slice A l.length c, .slice B m.length d] 22)).heap.size, 0, none⟩) 0 0) rfl (by kernel_rfl) (by kernel_rfl) ?_)
        · rintro e y ⟨A6, c6, rfl, hF6, hb6⟩
          refine ⟨_, rfl, ?_⟩
          have hb0y : Below w.heap.size w y := (hbu.alloc hsu _).trans (hb6.mono (by simp; omega))
          have hsy := hb0y.size
          have hAy := (hAu.alloc hsu (.cells #[.slice A l.length c, .slice B m.length d] 22)).below (hb6.mono (by simp; omega))
          have hBy := (hBu.alloc hsu (.cells #[.slice A l.length c, .slice B m.length d] 22)).below (hb6.mono (by simp; omega))
          refine Ln.made (w' := (y.alloc (.cells #[] 5))) 12 (.slice (some ⟨y.heap.size, 0, none⟩) 0 0) rfl (by kernel_rfl) (by kernel_rfl) (by kernel_rfl) ?_
          have hF3 := hF6.below ((Below.refl _ y).alloc (Nat.le_refl _) (.cells #[] 5)) (Nat.le_refl _)
          have hO3 := (show Own (y.alloc (.cells #[] 5)) w.heap.size 5 .u8 (.slice (some ⟨y.heap.size, 0, none⟩) 0 0) [] from Own.lit (b := w.heap.size) (e := 5) (k := .u8) y [] (hsy) (Nat.zero_le _))
          have hA3 := hAy.alloc hsy (.cells #[] 5)
          have hB3 := hBy.alloc hsy (.cells #[] 5)
          have hb03 := hb0y.alloc hsy (.cells #[] 5)
          have hs3 : w.heap.size ≤ ((y.alloc (.cells #[] 5))).heap.size := by simp; omega
          have hne3 : 0 < (l ++ m).length → ∀ gg, A6 = some ⟨gg, 0, none⟩ → some (y.heap.size) ≠ some gg := by
            intro h0 gg e h
            obtain ⟨g6, e6, _, h5, _⟩ := hF6.at_ h0
            rw [e] at e6
            injection e6 with e6; injection e6 with e6
            injection h with h
            omega
          refine Ln.app (A := A) (n := l.length) (c := c) 14 rfl (by kernel_rfl) (by kernel_rfl) _ _ 22 5 .u8 1 rfl Try.underlying22 inf_u8 hO3 hA3 (by kernel_rfl) (by kernel_rfl) rfl l rfl l.length rfl (by omega) (by omega) hs3 ?_
          intro A9 c9 w9 hO9 hg9 hf9
          have hF9 := hF3.grownBy hg9 hne3
          have hB9 := hB3.kept (hO3.grewK hg9 hs3) (Nat.le_refl _) (fun _ _ h => h)
          have hb09 : Below w.heap.size w w9 := ((Kept.of_below (S := fun _ => False) hb03).trans (hO3.grewK hg9 hs3) (Nat.le_refl _) (fun _ _ h => h)).below
          have hs9 := hb09.size
          have hne9 : 0 < (l ++ m).length → ∀ gg, A6 = some ⟨gg, 0, none⟩ → (Value.slice A9 l.length c9).ownBlock ≠ some gg := by
            intro h0 gg e h
            rcases hf9 with h2 | h2
            · exact hne3 h0 gg e (h2.symm.trans h)
            · have h3 := h2.symm.trans h
              injection h3 with h3
              obtain ⟨g6, e6, _, h5, _⟩ := hF3.at_ h0
              rw [e] at e6
              injection e6 with e6; injection e6 with e6
              omega
          refine Ln.app (A := B) (n := m.length) (c := d) 16 rfl (by kernel_rfl) (by kernel_rfl) _ _ 22 5 .u8 1 rfl Try.underlying22 inf_u8 hO9 hB9 (by kernel_rfl) (by kernel_rfl) rfl (l ++ m) rfl (l ++ m).length rfl (by omega) (by omega) hs9 ?_
          intro Ax cx wx hOx hgx hfx
          have hFx := hF9.grownBy hgx hne9
          have hb0x : Below w.heap.size w wx := ((Kept.of_below (S := fun _ => False) hb09).trans (hO9.grewK hgx hs9) (Nat.le_refl _) (fun _ _ h => h)).below
          refine Ln.call 17 (f := 29) (args := #[.slice A6 (l ++ m).length c6, .slice Ax (l ++ m).length cx]) rfl (by kernel_rfl) (by kernel_rfl) (by kernel_rfl) ((rsame_any true wx A6 Ax (l ++ m) (l ++ m) (l ++ m).length (l ++ m).length c6 cx _ _ hFx.rd hOx.rd rfl rfl (by omega) (by simp)).mono ?_)
          rintro e wy ⟨rfl, qy, rfl⟩
          refine ⟨_, rfl, ?_⟩
          refine Ln.val 18 (.bool true) rfl (by kernel_rfl) (by kernel_rfl) (by kernel_rfl) (fun _ _ _ h => h) (by kernel_rfl) (fun w => by kernel_rfl) ?_
          refine Ln.val 19 (.bool true) rfl (by kernel_rfl) (by kernel_rfl) (by kernel_rfl) (fun _ _ _ h => h) (by kernel_rfl) (fun w => by kernel_rfl) ?_
          refine Ln.done (by kernel_rfl) ?_
          go_wp2_with fail
          go_ret
          exact ⟨by kernel_rfl, below_drN hb0x qy⟩
        · have hP2 := hP1.below ((Below.refl _ (u.alloc (.cells #[.slice A l.length c, .slice B m.length d] 22))).alloc (by simp) (.cells #[] 5))
          have hOe := (show Own ((u.alloc (.cells #[.slice A l.length c, .slice B m.length d] 22)).alloc (.cells #[] 5)) w.heap.size 5 .u8 (.slice (some ⟨(u.alloc (.cells #[.slice A l.length c, .slice B m.length d] 22)).heap.size, 0, none⟩) 0 0) [] from Own.lit (b := w.heap.size) (e := 5) (k := .u8) (u.alloc (.cells #[.slice A l.length c, .slice B m.length d] 22)) [] (by simp; omega) (Nat.zero_le _))
          have hAx := (hAu.alloc hsu (.cells #[.slice A l.length c, .slice B m.length d] 22)).alloc (by simp; omega) (.cells #[] 5)
          have hBx := (hBu.alloc hsu (.cells #[.slice A l.length c, .slice B m.length d] 22)).alloc (by simp; omega) (.cells #[] 5)
          have hbx := (hbu.alloc hsu (.cells #[.slice A l.length c, .slice B m.length d] 22)).alloc (by simp; omega) (.cells #[] 5)
          have hsx := hbx.size
          have hgB : (u.alloc (.cells #[.slice A l.length c, .slice B m.length d] 22)).heap.size < ((u.alloc (.cells #[.slice A l.length c, .slice B m.length d] 22)).alloc (.cells #[] 5)).heap.size ∧ u.heap.size + 1 ≤ ((u.alloc (.cells #[.slice A l.length c, .slice B m.length d] 22)).alloc (.cells #[] 5)).heap.size := by constructor <;> simp <;> omega
          obtain ⟨x2, hx2⟩ : ∃ x2, ((u.alloc (.cells #[.slice A l.length c, .slice B m.length d] 22)).alloc (.cells #[] 5)) = x2 := ⟨_, rfl⟩
          rw [hx2] at hP2 hOe hAx hBx hbx hsx hgB ⊢
          clear hx2
          refine Ln.call 11 (f := 32) (args := #[.slice (some ⟨u.heap.size, 0, none⟩) 2 2]) rfl (by kernel_rfl) (by kernel_rfl) (by kernel_rfl) ((cat_any x2 (some ⟨u.heap.size, 0, none⟩) 2 (u.heap.size + 1) 2 [l, m] (l ++ m) (by simp) hP2 rfl hgB.2 (Nat.le_refl _) (by decide) (by omega)).mono ?_)
          rintro e y ⟨A6, c6, rfl, hF6, hb6⟩
          refine ⟨_, rfl, ?_⟩
          have hF3 := hF6
          have hO3 := hOe.below hb6 (Nat.le_refl _)
          have hA3 := hAx.below (hb6.mono hsx)
          have hB3 := hBx.below (hb6.mono hsx)
          have hb03 := hbx.trans (hb6.mono hsx)
          have hs3 : w.heap.size ≤ (y).heap.size := by have := hb6.size; omega
          have hne3 : 0 < (l ++ m).length → ∀ gg, A6 = some ⟨gg, 0, none⟩ → some ((u.alloc (.cells #[.slice A l.length c, .slice B m.length d] 22)).heap.size) ≠ some gg := by
            intro h0 gg e h
            obtain ⟨g6, e6, h4, _, _⟩ := hF6.at_ h0
            rw [e] at e6
            injection e6 with e6; injection e6 with e6
            injection h with h
            have := hgB.1
            omega
          refine Ln.app (A := A) (n := l.length) (c := c) 14 rfl (by kernel_rfl) (by kernel_rfl) _ _ 22 5 .u8 1 rfl Try.underlying22 inf_u8 hO3 hA3 (by kernel_rfl) (by kernel_rfl) rfl l rfl l.length rfl (by omega) (by omega) hs3 ?_
          intro A9 c9 w9 hO9 hg9 hf9
          have hF9 := hF3.grownBy hg9 hne3
          have hB9 := hB3.kept (hO3.grewK hg9 hs3) (Nat.le_refl _) (fun _ _ h => h)
          have hb09 : Below w.heap.size w w9 := ((Kept.of_below (S := fun _ => False) hb03).trans (hO3.grewK hg9 hs3) (Nat.le_refl _) (fun _ _ h => h)).below
          have hs9 := hb09.size
          have hne9 : 0 < (l ++ m).length → ∀ gg, A6 = some ⟨gg, 0, none⟩ → (Value.slice A9 l.length c9).ownBlock ≠ some gg := by
            intro h0 gg e h
            rcases hf9 with h2 | h2
            · exact hne3 h0 gg e (h2.symm.trans h)
            · have h3 := h2.symm.trans h
              injection h3 with h3
              obtain ⟨g6, e6, _, h5, _⟩ := hF3.at_ h0
              rw [e] at e6
              injection e6 with e6; injection e6 with e6
              omega
          refine Ln.app (A := B) (n := m.length) (c := d) 16 rfl (by kernel_rfl) (by kernel_rfl) _ _ 22 5 .u8 1 rfl Try.underlying22 inf_u8 hO9 hB9 (by kernel_rfl) (by kernel_rfl) rfl (l ++ m) rfl (l ++ m).length rfl (by omega) (by omega) hs9 ?_
          intro Ax cx wx hOx hgx hfx
          have hFx := hF9.grownBy hgx hne9
          have hb0x : Below w.heap.size w wx := ((Kept.of_below (S := fun _ => False) hb09).trans (hO9.grewK hgx hs9) (Nat.le_refl _) (fun _ _ h => h)).below
          refine Ln.call 17 (f := 29) (args := #[.slice A6 (l ++ m).length c6, .slice Ax (l ++ m).length cx]) rfl (by kernel_rfl) (by kernel_rfl) (by kernel_rfl) ((rsame_any true wx A6 Ax (l ++ m) (l ++ m) (l ++ m).length (l ++ m).length c6 cx _ _ hFx.rd hOx.rd rfl rfl (by omega) (by simp)).mono ?_)
          rintro e wy ⟨rfl, qy, rfl⟩
          refine ⟨_, rfl, ?_⟩
          refine Ln.val 18 (.bool true) rfl (by kernel_rfl) (by kernel_rfl) (by kernel_rfl) (fun _ _ _ h => h) (by kernel_rfl) (fun w => by kernel_rfl) ?_
          refine Ln.val 19 (.bool true) rfl (by kernel_rfl) (by kernel_rfl) (by kernel_rfl) (fun _ _ _ h => h) (by kernel_rfl) (fun w => by kernel_rfl) ?_
          refine Ln.done (by kernel_rfl) ?_
          go_wp2_with fail
          go_ret
          exact ⟨by kernel_rfl, below_drN hb0x qy⟩
      · refine Ln.made (w' := ((u.alloc (.cells #[] 5)).alloc (.cells #[.slice A l.length c, .slice B m.length d] 22))) 10 (.slice (some ⟨(u.alloc (.cells #[] 5)).heap.size, 0, none⟩) 2 2) rfl (by kernel_rfl) (by kernel_rfl) (by kernel_rfl) ?_
        have hP2 := Parts.lit (w := (u.alloc (.cells #[] 5))) (T := 22) [.slice A l.length c, .slice B m.length d] [l, m] (Nat.le_refl _) rfl (fun j hj => by
          have : j = 0 ∨ j = 1 := by simp at hj; omega
          rcases this with rfl | rfl
          · exact ⟨A, c, rfl, (hAu.alloc hsu (.cells #[] 5)).more (by simp; omega), hlc⟩
          · exact ⟨B, d, rfl, (hBu.alloc hsu (.cells #[] 5)).more (by simp; omega), hmd⟩)
        have hOe := ((show Own (u.alloc (.cells #[] 5)) w.heap.size 5 .u8 (.slice (some ⟨u.heap.size, 0, none⟩) 0 0) [] from Own.lit (b := w.heap.size) (e := 5) (k := .u8) u [] (hsu) (Nat.zero_le _))).alloc (.cells #[.slice A l.length c, .slice B m.length d] 22)
        have hAx := (hAu.alloc hsu (.cells #[] 5)).alloc (by simp; omega) (.cells #[.slice A l.length c, .slice B m.length d] 22)
        have hBx := (hBu.alloc hsu (.cells #[] 5)).alloc (by simp; omega) (.cells #[.slice A l.length c, .slice B m.length d] 22)
        have hbx := (hbu.alloc hsu (.cells #[] 5)).alloc (by simp; omega) (.cells #[.slice A l.length c, .slice B m.length d] 22)
        have hsx := hbx.size
        have hgB : u.heap.size < ((u.alloc (.cells #[] 5)).alloc (.cells #[.slice A l.length c, .slice B m.length d] 22)).heap.size ∧ (u.alloc (.cells #[] 5)).heap.size + 1 ≤ ((u.alloc (.cells #[] 5)).alloc (.cells #[.slice A l.length c, .slice B m.length d] 22)).heap.size := by constructor <;> simp <;> omega
        obtain ⟨x2, hx2⟩ : ∃ x2, ((u.alloc (.cells #[] 5)).alloc (.cells #[.slice A l.length c, .slice B m.length d] 22)) = x2 := ⟨_, rfl⟩
        rw [hx2] at hP2 hOe hAx hBx hbx hsx hgB ⊢
        clear hx2
        refine Ln.call 11 (f := 32) (args := #[.slice (some ⟨(u.alloc (.cells #[] 5)).heap.size, 0, none⟩) 2 2]) rfl (by kernel_rfl) (by kernel_rfl) (by kernel_rfl) ((cat_any x2 (some ⟨(u.alloc (.cells #[] 5)).heap.size, 0, none⟩) 2 ((u.alloc (.cells #[] 5)).heap.size + 1) 2 [l, m] (l ++ m) (by simp) hP2 rfl hgB.2 (Nat.le_refl _) (by decide) (by omega)).mono ?_)
        rintro e y ⟨A6, c6, rfl, hF6, hb6⟩
        refine ⟨_, rfl, ?_⟩
        have hF3 := hF6
        have hO3 := hOe.below hb6 (Nat.le_refl _)
        have hA3 := hAx.below (hb6.mono hsx)
        have hB3 := hBx.below (hb6.mono hsx)
        have hb03 := hbx.trans (hb6.mono hsx)
        have hs3 : w.heap.size ≤ (y).heap.size := by have := hb6.size; omega
        have hne3 : 0 < (l ++ m).length → ∀ gg, A6 = some ⟨gg, 0, none⟩ → some (u.heap.size) ≠ some gg := by
          intro h0 gg e h
          obtain ⟨g6, e6, h4, _, _⟩ := hF6.at_ h0
          rw [e] at e6
          injection e6 with e6; injection e6 with e6
          injection h with h
          have := hgB.1
          omega
        refine Ln.app (A := A) (n := l.length) (c := c) 14 rfl (by kernel_rfl) (by kernel_rfl) _ _ 22 5 .u8 1 rfl Try.underlying22 inf_u8 hO3 hA3 (by kernel_rfl) (by kernel_rfl) rfl l rfl l.length rfl (by omega) (by omega) hs3 ?_
        intro A9 c9 w9 hO9 hg9 hf9
        have hF9 := hF3.grownBy hg9 hne3
        have hB9 := hB3.kept (hO3.grewK hg9 hs3) (Nat.le_refl _) (fun _ _ h => h)
        have hb09 : Below w.heap.size w w9 := ((Kept.of_below (S := fun _ => False) hb03).trans (hO3.grewK hg9 hs3) (Nat.le_refl _) (fun _ _ h => h)).below
        have hs9 := hb09.size
        have hne9 : 0 < (l ++ m).length → ∀ gg, A6 = some ⟨gg, 0, none⟩ → (Value.slice A9 l.length c9).ownBlock ≠ some gg := by
          intro h0 gg e h
          rcases hf9 with h2 | h2
          · exact hne3 h0 gg e (h2.symm.trans h)
          · have h3 := h2.symm.trans h
            injection h3 with h3
            obtain ⟨g6, e6, _, h5, _⟩ := hF3.at_ h0
            rw [e] at e6
            injection e6 with e6; injection e6 with e6
            omega
        refine Ln.app (A := B) (n := m.length) (c := d) 16 rfl (by kernel_rfl) (by kernel_rfl) _ _ 22 5 .u8 1 rfl Try.underlying22 inf_u8 hO9 hB9 (by kernel_rfl) (by kernel_rfl) rfl (l ++ m) rfl (l ++ m).length rfl (by omega) (by omega) hs9 ?_
        intro Ax cx wx hOx hgx hfx
        have hFx := hF9.grownBy hgx hne9
        have hb0x : Below w.heap.size w wx := ((Kept.of_below (S := fun _ => False) hb09).trans (hO9.grewK hgx hs9) (Nat.le_refl _) (fun _ _ h => h)).below
        refine Ln.call 17 (f := 29) (args := #[.slice A6 (l ++ m).length c6, .slice Ax (l ++ m).length cx]) rfl (by kernel_rfl) (by kernel_rfl) (by kernel_rfl) ((rsame_any true wx A6 Ax (l ++ m) (l ++ m) (l ++ m).length (l ++ m).length c6 cx _ _ hFx.rd hOx.rd rfl rfl (by omega) (by simp)).mono ?_)
        rintro e wy ⟨rfl, qy, rfl⟩
        refine ⟨_, rfl, ?_⟩
        refine Ln.val 18 (.bool true) rfl (by kernel_rfl) (by kernel_rfl) (by kernel_rfl) (fun _ _ _ h => h) (by kernel_rfl) (fun w => by kernel_rfl) ?_
        refine Ln.val 19 (.bool true) rfl (by kernel_rfl) (by kernel_rfl) (by kernel_rfl) (fun _ _ _ h => h) (by kernel_rfl) (fun w => by kernel_rfl) ?_
        refine Ln.done (by kernel_rfl) ?_
        go_wp2_with fail
        go_ret
        exact ⟨by kernel_rfl, below_drN hb0x qy⟩
theorem pairs_walk (l m : List Int) (A B : Option Addr) (c d : Nat) (x n : Int) (w : World) (hA : Rd w w.heap.size .u8 A l) (hB : Rd w w.heap.size .u8 B m) (hlc : l.length ≤ c) (hmd : m.length ≤ d) (hc : c ≤ 9223372036854775807) (hd : d ≤ 9223372036854775807)
    (hnA : A = none → c = 0) (hnB : B = none → d = 0) (hbl : Bys l) (hbm : Bys m) :
    Calls Try.prog 11 #[.slice A l.length c, .slice B m.length d, .agg #[.int .u8 x, .int .i64 n]] w fun e w' => e = .returned (.bool true) ∧ Below w.heap.size w w' := by
  by_cases h : l.length ≤ 1000 ∧ m.length ≤ 1000
  · exact pairs_main l m A B c d x n w hA hB hlc hmd hc hd hnA hnB hbl hbm h.1 h.2
  · exact pairs_long l m A B c d x n w h
end Go.Proofs.Ytigedohalangbaa
