/- OctetOrder, walked. -/
import Derived.Test.YtigedohalangbaaO1L
import Derived.Test.YtigedohalangbaaLine
import Derived.IntWalk
namespace Go.Proofs.Ytigedohalangbaa
open Go.RowKit
set_option linter.unusedVariables false
set_option linter.unusedSimpArgs false

set_option maxRecDepth 100000 in
set_option maxHeartbeats 4000000 in
theorem order_walk (a b n : Int) (w : World) (ha : 0 ≤ a) (ha1 : a < 18446744073709551616) (hb : 0 ≤ b) (hb1 : b < 18446744073709551616) (hn : B8 n) :
    Calls Try.prog 9 #[.int .u64 a, .int .u64 b, .int .u8 n] w fun e w' => e = .returned (.bool true) ∧ Below w.heap.size w w' := by
  obtain ⟨m, rfl⟩ : ∃ m : Nat, n = m := ⟨n.toNat, by have := hn.1; omega⟩
  have hm1 : (m : Int) < 256 := hn.2
  have hm0 : (0 : Int) ≤ (m : Int) := hn.1
  obtain ⟨k, hk⟩ : ∃ k : Nat, 1 + m % 8 = k := ⟨_, rfl⟩
  obtain ⟨r, hr⟩ : ∃ r : Nat, 8 - k = r := ⟨_, rfl⟩
  have hkI : 1 + (m : Int) % 8 = (k : Int) := by omega
  have hk1 : 1 ≤ k ∧ k + r = 8 := by omega
  have hrI : 8 - (k : Int) = (r : Int) := by omega
  have hless := lessF_put a b ha ha1 hb hb1
  have hdrop := putL_drop a k (by omega)
  rw [hr] at hdrop
  have hlX := putL_len a 8
  have hlY := putL_len b 8
  have hX := put_any a 8 8
  have hY := put_any b 8 8
  have hp := put_any a k k
  have hlk := putL_len a k
  have hbX := putL_B a 8
  have hbY := putL_B b 8
  obtain ⟨X, hXe⟩ : ∃ X, putL a 8 = X := ⟨_, rfl⟩
  obtain ⟨Y, hYe⟩ : ∃ Y, putL b 8 = Y := ⟨_, rfl⟩
  obtain ⟨D, hDe⟩ : ∃ D, putL a k = D := ⟨_, rfl⟩
  unfold PutPost at hX hY hp
  rw [hXe] at hless hdrop hlX hX hbX
  rw [hYe] at hless hlY hY hbY
  rw [hDe] at hdrop hp hlk
  have HL := Lib.hid hless
  have HD := Lib.hid hdrop
  have HX := Lib.hid hlX
  have HY := Lib.hid hlY
  have HK := Lib.hid hlk
  have hsl : ∀ A c wx, 8 ≤ c → (Instr.slice 22 (.slice A 8 c) (some (.int .i64 (r : Int))) none none).run Try.prog wx = .ok (.slice (if c = r then A else A.map (·.add r)) (8 - r) (c - r)) wx := fun A c wx hc =>
    run_slice_a 22 5 Try.underlying22 (by kernel_rfl) A 8 c r (by omega) .i64 wx
  clear hless hdrop hlX hlY hlk hXe hYe hDe hk hr
  go_enter Try.func9, Try.ntmps9
  go_wp2_with fail
  refine (awake1_any w).mono ?_
  rintro e w1 ⟨rfl, hb1⟩
  have hs1 := hb1.size
  go_wp2_with fail
  refine (hX w1 rfl (by decide)).mono ?_
  rintro e w2 ⟨A2, c2, rfl, hO2, hb2⟩
  have hb02 := hb1.trans (hb2.mono hs1)
  have hR2 := hO2.rd
  have hc2 := hO2.len.2
  rw [HX.out] at hc2
  have hn2 : A2 = none → c2 = 0 := hO2.nilcap
  have hs2 := hb02.size
  clear hb2 hb1 hO2
  go_wp2_with fail
  refine (hY w2 rfl (by decide)).mono ?_
  rintro e w3 ⟨A3, c3, rfl, hO3, hb3⟩
  have hb03 := hb02.trans (hb3.mono hs2)
  have hR23 := hR2.below hb3
  have hz3 := hb3.size
  have hR3 := hO3.rd
  have hs3 := hb03.size
  clear hb3 hb02 hR2 hO3
  go_wp2_with fail
  go_loopg [10, 11] 8 (fun g s10 s11 wr => ∃ i : Nat, s11 = .int .i64 ((i : Int) - 1) ∧ g = i ∧ i ≤ 8 ∧ s10 = .bool (lessF X Y i (8 - i)) ∧ ∃ q, wr = w3.drewN q)
  case atStart => exact ⟨8, rfl, rfl, Nat.le_refl _, rfl, 0, rfl⟩
  case round =>
    obtain ⟨i, rfl, hg, hi, rfl, q, rfl⟩ := hrel
    have HG := Lib.hid hg
    clear hg
    by_cases hlt : 0 < i
    · obtain ⟨j, rfl⟩ : ∃ j, i = j + 1 := ⟨i - 1, by omega⟩
      have hj : ((j + 1 : Nat) : Int) - 1 = (j : Int) := by omega
      rw [hj]
      have hjI : (j : Int) < 8 := by omega
      obtain ⟨ax, rfl, _, hcx⟩ := hR23.at_ (i := j) (by rw [HX.out]; omega)
      obtain ⟨ay, rfl, _, hcy⟩ := hR3.at_ (i := j) (by rw [HY.out]; omega)
      have hLs : lessF X Y j (8 - j) = if gt X j ≠ gt Y j then decide (gt X j < gt Y j) else lessF X Y (j + 1) (8 - (j + 1)) := by
        rw [show 8 - j = (8 - (j + 1)) + 1 by omega]; rfl
      generalize lessF X Y (j + 1) (8 - (j + 1)) = L at hLs ⊢
      obtain ⟨x, hx⟩ : ∃ x, gt X j = x := ⟨_, rfl⟩
      obtain ⟨y, hy⟩ : ∃ y, gt Y j = y := ⟨_, rfl⟩
      rw [hx] at hLs hcx
      rw [hy] at hLs hcy
      by_cases hne : x = y
      · rw [if_neg (by simp [hne])] at hLs
        have HLs := Lib.hid hLs
        have hneB : (x != y) = false := by simp [hne]
        clear hLs hx hy hj hne
        go_wp2_with fail
        go_quiet (fail)
        go_wp2_with fail
        go_roundg j
        case measure => have := HG.out; omega
        case rel => exact ⟨j, by go_num, rfl, by omega, by rw [HLs.out], _, rfl⟩
      · rw [if_pos (by simpa using hne)] at hLs
        have HLs := Lib.hid hLs
        have hneB : (x != y) = true := by simpa using hne
        clear hLs hx hy hj hne
        go_wp2_with fail
        go_quiet (fail)
        go_wp2_with fail
        go_quiet (fail)
        go_wp2_with fail
        go_roundg j
        case measure => have := HG.out; omega
        case rel => exact ⟨j, by go_num, rfl, by omega, by rw [HLs.out], _, rfl⟩
    · obtain rfl : i = 0 := by omega
      rw [show 8 - 0 = 8 from rfl, HL.out]
      have hi0 : ((0 : Nat) : Int) - 1 = -1 := by decide
      rw [hi0]
      have hb4 := below_drN hb03 q
      have hR24 := hR23.drewN q
      have hR34 := hR3.drewN q
      have hz4 : w2.heap.size ≤ (w3.drewN q).heap.size := hz3
      have hs4 : w.heap.size ≤ (w3.drewN q).heap.size := hs3
      generalize w3.drewN q = wr at hb4 hR24 hR34 hz4 hs4 ⊢
      clear hb03 hR23 hR3 hz3 hs3
      have hA4 := Arr.new wr 3 .i64 [(k : Int), (r : Int)]
      have hcut := cut_any X [k, r] A2 (some ⟨wr.heap.size, 0, none⟩) 8 c2 2 2 wr.heap.size (wr.alloc (.cells #[.int .i64 k, .int .i64 r] 3)) ((hR24.alloc hz4 _).more (by simp; omega)) ((Rd.of_arr hA4 hA4.lt)) HX.out rfl (by simp; omega) hc2 hn2 (by decide) (by decide)
      have hl2 : (cutL X [k, r]).length = 2 := by simp [cutL_len]
      have hfl : (cutL X [k, r]).flatten = X := cutL_flat _ _ (by rw [HX.out]; simp; omega)
      have hslX := fun wx => hsl A2 c2 wx hc2
      obtain ⟨A7, hA7⟩ : ∃ A7, (if c2 = r then A2 else A2.map (·.add r)) = A7 := ⟨_, rfl⟩
      have hk8 : 8 - r = k := by omega
      rw [hA7, hk8] at hslX
      have hR7 : Rd wr w2.heap.size .u8 A7 D := by
        have := hR24.cut r 8 c2 (by rw [HX.out]; omega) (by omega)
        rw [hA7] at this
        rw [← HD.out, show X.drop r = (X.take 8).drop r by rw [List.take_of_length_le (by rw [HX.out]; omega)]]
        exact this
      clear hA7 hk8 hsl hA4
      go_wp2_with fail
      refine hcut.mono ?_
      rintro e w5 ⟨A5, c5, rfl, hP5, hc5, hb5⟩
      rw [hl2] at hc5 ⊢
      have hb05 : Below w.heap.size w w5 := (hb4.alloc hs4 _).trans (hb5.mono (by simp; omega))
      have hR5 := (hR24.alloc hz4 (.cells #[.int .i64 k, .int .i64 r] 3)).below (hb5.mono (by simp; omega))
      have hR75 := (hR7.alloc hz4 (.cells #[.int .i64 k, .int .i64 r] 3)).below (hb5.mono (by simp; omega))
      have hz5 : w2.heap.size ≤ w5.heap.size := by have := hb5.size; simp at this; omega
      have hs5 := hb05.size
      clear hcut hb5 hb4 hR24 hR34 hR7 hz4 hs4
      have hcat : Calls Try.prog 32 #[.slice A5 2 c5] w5.drew (CatPost w5.drew X) := cat_any w5.drew A5 c5 w5.heap.size 2 (cutL X [k, r]) X hfl hP5 hl2 (Nat.le_refl _) hc5 (by decide) (by rw [HX.out]; decide)
      unfold CatPost at hcat
      rw [HX.out] at hcat
      clear hl2 hfl
      have hwr : IntKind.i64.wrap (8 - (k : Int)) = (r : Int) := by rw [IntWalk.i64_in _ (by omega)]; exact hrI
      by_cases hab : a < b
      · rw [decide_eq_true hab]
        have hbt : decide (a < b) = true := decide_eq_true hab
        clear ha ha1 hb hb1 HL HG hbX hbY hX hY hm0 hm1 hn hkI hi0 hab
        go_wp2_with fail
        have hR5 := hR5.drew
        have hR75 := hR75.drew
        have hb05 : Below w.heap.size w w5.drew := below_drN hb05 1
        have hz5 : w2.heap.size ≤ w5.drew.heap.size := hz5
        have hs5 : w.heap.size ≤ w5.drew.heap.size := hs5
        refine Ln.enter 31 rfl (by kernel_rfl) ?_
        change Rd w5.drew _ _ _ _ at hR5
        refine Ln.val 0 (.bool true) rfl (by kernel_rfl) (by kernel_rfl) (by kernel_rfl) (fun _ _ _ h => h) (by kernel_rfl) (fun w => by kernel_rfl) ?_
        refine Ln.val 1 (.int .u64 a) rfl (by kernel_rfl) (by kernel_rfl) (by kernel_rfl) (fun _ _ _ h => h) (by kernel_rfl) (fun w => by kernel_rfl) ?_
        refine Ln.val 2 (.int .u64 b) rfl (by kernel_rfl) (by kernel_rfl) (by kernel_rfl) (fun _ _ _ h => h) (by kernel_rfl) (fun w => by kernel_rfl) ?_
        refine Ln.val 3 (.bool true) rfl (by kernel_rfl) (by kernel_rfl) (by kernel_rfl) (fun _ _ _ h => h) (by kernel_rfl) (fun w => Eq.trans (b := .ok (.value (.bool (decide (a < b)))) w) (by kernel_rfl) (by rw [hbt])) ?_
        refine Ln.val 4 (.bool true) rfl (by kernel_rfl) (by kernel_rfl) (by kernel_rfl) (fun _ _ _ h => h) (by kernel_rfl) (fun w => by kernel_rfl) ?_
        refine Ln.val 5 (.bool true) rfl (by kernel_rfl) (by kernel_rfl) (by kernel_rfl) (fun _ _ _ h => h) (by kernel_rfl) (fun w => by kernel_rfl) ?_
        refine Ln.val 6 (.int .i64 0) rfl (by kernel_rfl) (by kernel_rfl) (by kernel_rfl) (fun _ _ _ h => h) (by kernel_rfl) (fun w => by kernel_rfl) ?_
        refine Ln.val 7 (.bool true) rfl (by kernel_rfl) (by kernel_rfl) (by kernel_rfl) (fun _ _ _ h => h) (by kernel_rfl) (fun w => by kernel_rfl) ?_
        refine Ln.val 8 (.bool true) rfl (by kernel_rfl) (by kernel_rfl) (by kernel_rfl) (fun _ _ _ h => h) (by kernel_rfl) (fun w => by kernel_rfl) ?_
        refine Ln.val 9 (.bool true) rfl (by kernel_rfl) (by kernel_rfl) (by kernel_rfl) (fun _ _ _ h => h) (by kernel_rfl) (fun w => by kernel_rfl) ?_
        refine Ln.val 10 (.slice A5 2 c5) rfl (by kernel_rfl) (by kernel_rfl) (by kernel_rfl) (fun _ _ _ h => h) (by kernel_rfl) (fun w => by kernel_rfl) ?_
        refine Ln.val 11 (.int .i64 2) rfl (by kernel_rfl) (by kernel_rfl) (by kernel_rfl) (fun _ _ _ h => h) (by kernel_rfl) (fun w => by kernel_rfl) ?_
        refine Ln.val 12 (.bool true) rfl (by kernel_rfl) (by kernel_rfl) (by kernel_rfl) (fun _ _ _ h => h) (by kernel_rfl) (fun w => by kernel_rfl) ?_
        refine Ln.val 13 (.bool true) rfl (by kernel_rfl) (by kernel_rfl) (by kernel_rfl) (fun _ _ _ h => h) (by kernel_rfl) (fun w => by kernel_rfl) ?_
        refine Ln.val 14 (.bool true) rfl (by kernel_rfl) (by kernel_rfl) (by kernel_rfl) (fun _ _ _ h => h) (by kernel_rfl) (fun w => by kernel_rfl) ?_
        refine Ln.val 15 (.slice A5 2 c5) rfl (by kernel_rfl) (by kernel_rfl) (by kernel_rfl) (fun _ _ _ h => h) (by kernel_rfl) (fun w => by kernel_rfl) ?_
        refine Ln.val 17 (.slice A2 8 c2) rfl (by kernel_rfl) (by kernel_rfl) (by kernel_rfl) (fun _ _ _ h => h) (by kernel_rfl) (fun w => by kernel_rfl) ?_
        refine Ln.call 16 (f := 32) (args := #[.slice A5 2 c5]) rfl (by kernel_rfl) (by kernel_rfl) (by kernel_rfl) ((hcat).mono ?_)
        rintro e w6 ⟨A6, c6, rfl, hF6, hb6⟩
        refine ⟨_, rfl, ?_⟩
        refine Ln.call 18 (f := 29) (args := #[.slice A6 8 c6, .slice A2 8 c2]) rfl (by kernel_rfl) (by kernel_rfl) (by kernel_rfl) ((rsame_any true w6 A6 A2 X X 8 8 c6 c2 _ _ hF6.rd (hR5.below (hb6.mono hz5)) HX.out HX.out (by decide) (by simp)).mono ?_)
        rintro e w7 ⟨rfl, q7, rfl⟩
        refine ⟨_, rfl, ?_⟩
        refine Ln.val 19 (.bool true) rfl (by kernel_rfl) (by kernel_rfl) (by kernel_rfl) (fun _ _ _ h => h) (by kernel_rfl) (fun w => by kernel_rfl) ?_
        refine Ln.val 20 (.bool true) rfl (by kernel_rfl) (by kernel_rfl) (by kernel_rfl) (fun _ _ _ h => h) (by kernel_rfl) (fun w => by kernel_rfl) ?_
        refine Ln.val 21 (.int .u64 a) rfl (by kernel_rfl) (by kernel_rfl) (by kernel_rfl) (fun _ _ _ h => h) (by kernel_rfl) (fun w => by kernel_rfl) ?_
        refine Ln.val 22 (.int .i64 k) rfl (by kernel_rfl) (by kernel_rfl) (by kernel_rfl) (fun _ _ _ h => h) (by kernel_rfl) (fun w => by kernel_rfl) ?_
        refine Ln.val 24 (.slice A2 8 c2) rfl (by kernel_rfl) (by kernel_rfl) (by kernel_rfl) (fun _ _ _ h => h) (by kernel_rfl) (fun w => by kernel_rfl) ?_
        refine Ln.val 25 (.int .i64 k) rfl (by kernel_rfl) (by kernel_rfl) (by kernel_rfl) (fun _ _ _ h => h) (by kernel_rfl) (fun w => by kernel_rfl) ?_
        refine Ln.val 26 (.int .i64 r) rfl (by kernel_rfl) (by kernel_rfl) (by kernel_rfl) (fun _ _ _ h => h) (by kernel_rfl) (fun w => Eq.trans (b := .ok (.value (.int .i64 (IntKind.i64.wrap (8 - (k : Int))))) w) (by kernel_rfl) (by rw [hwr])) ?_
        refine Ln.val 27 (.slice A7 k (c2 - r)) rfl (by kernel_rfl) (by kernel_rfl) (by kernel_rfl) (fun _ _ _ h => h) (by kernel_rfl) (fun w => exec_slice rfl (by kernel_rfl) (.slice A2 8 c2) _ (some (.int .i64 r)) none none (by kernel_rfl) (by kernel_rfl) (by kernel_rfl) (by kernel_rfl) (hslX w)) ?_
        refine Ln.call 23 (f := 26) (args := #[.int .u64 a, .int .i64 k]) rfl (by kernel_rfl) (by kernel_rfl) (by kernel_rfl) ((hp (w6.drewN q7) (by trivial) (by omega)).mono ?_)
        rintro e w8 ⟨A8, c8, rfl, hO8, hb8⟩
        refine ⟨_, rfl, ?_⟩
        have hb68 := (below_drN hb6 q7).trans (hb8.mono hb6.size)
        refine Ln.call 28 (f := 29) (args := #[.slice A8 k c8, .slice A7 k (c2 - r)]) rfl (by kernel_rfl) (by kernel_rfl) (by kernel_rfl) ((rsame_any true w8 A8 A7 D D k k c8 (c2 - r) _ _ hO8.rd (hR75.below (hb68.mono hz5)) HK.out HK.out (by omega) (by simp)).mono ?_)
        rintro e w9 ⟨rfl, q9, rfl⟩
        refine ⟨_, rfl, ?_⟩
        refine Ln.val 29 (.bool true) rfl (by kernel_rfl) (by kernel_rfl) (by kernel_rfl) (fun _ _ _ h => h) (by kernel_rfl) (fun w => by kernel_rfl) ?_
        refine Ln.val 30 (.bool true) rfl (by kernel_rfl) (by kernel_rfl) (by kernel_rfl) (fun _ _ _ h => h) (by kernel_rfl) (fun w => by kernel_rfl) ?_
        refine Ln.done (by kernel_rfl) ?_
        go_wp2_with fail
        go_ret
        exact ⟨by kernel_rfl, below_drN (hb05.trans (hb68.mono hs5)) q9⟩
      · rw [decide_eq_false hab]
        have hbt : decide (a < b) = false := decide_eq_false hab
        clear ha ha1 hb hb1 HL HG hbX hbY hX hY hm0 hm1 hn hkI hi0 hab
        go_wp2_with fail
        have hR5 := hR5.drew
        have hR75 := hR75.drew
        have hb05 : Below w.heap.size w w5.drew := below_drN hb05 1
        have hz5 : w2.heap.size ≤ w5.drew.heap.size := hz5
        have hs5 : w.heap.size ≤ w5.drew.heap.size := hs5
        refine Ln.enter 31 rfl (by kernel_rfl) ?_
        change Rd w5.drew _ _ _ _ at hR5
        refine Ln.val 0 (.bool false) rfl (by kernel_rfl) (by kernel_rfl) (by kernel_rfl) (fun _ _ _ h => h) (by kernel_rfl) (fun w => by kernel_rfl) ?_
        refine Ln.val 1 (.int .u64 a) rfl (by kernel_rfl) (by kernel_rfl) (by kernel_rfl) (fun _ _ _ h => h) (by kernel_rfl) (fun w => by kernel_rfl) ?_
        refine Ln.val 2 (.int .u64 b) rfl (by kernel_rfl) (by kernel_rfl) (by kernel_rfl) (fun _ _ _ h => h) (by kernel_rfl) (fun w => by kernel_rfl) ?_
        refine Ln.val 3 (.bool false) rfl (by kernel_rfl) (by kernel_rfl) (by kernel_rfl) (fun _ _ _ h => h) (by kernel_rfl) (fun w => Eq.trans (b := .ok (.value (.bool (decide (a < b)))) w) (by kernel_rfl) (by rw [hbt])) ?_
        refine Ln.val 4 (.bool true) rfl (by kernel_rfl) (by kernel_rfl) (by kernel_rfl) (fun _ _ _ h => h) (by kernel_rfl) (fun w => by kernel_rfl) ?_
        refine Ln.val 5 (.bool true) rfl (by kernel_rfl) (by kernel_rfl) (by kernel_rfl) (fun _ _ _ h => h) (by kernel_rfl) (fun w => by kernel_rfl) ?_
        refine Ln.val 6 (.int .i64 0) rfl (by kernel_rfl) (by kernel_rfl) (by kernel_rfl) (fun _ _ _ h => h) (by kernel_rfl) (fun w => by kernel_rfl) ?_
        refine Ln.val 7 (.bool true) rfl (by kernel_rfl) (by kernel_rfl) (by kernel_rfl) (fun _ _ _ h => h) (by kernel_rfl) (fun w => by kernel_rfl) ?_
        refine Ln.val 8 (.bool true) rfl (by kernel_rfl) (by kernel_rfl) (by kernel_rfl) (fun _ _ _ h => h) (by kernel_rfl) (fun w => by kernel_rfl) ?_
        refine Ln.val 9 (.bool true) rfl (by kernel_rfl) (by kernel_rfl) (by kernel_rfl) (fun _ _ _ h => h) (by kernel_rfl) (fun w => by kernel_rfl) ?_
        refine Ln.val 10 (.slice A5 2 c5) rfl (by kernel_rfl) (by kernel_rfl) (by kernel_rfl) (fun _ _ _ h => h) (by kernel_rfl) (fun w => by kernel_rfl) ?_
        refine Ln.val 11 (.int .i64 2) rfl (by kernel_rfl) (by kernel_rfl) (by kernel_rfl) (fun _ _ _ h => h) (by kernel_rfl) (fun w => by kernel_rfl) ?_
        refine Ln.val 12 (.bool true) rfl (by kernel_rfl) (by kernel_rfl) (by kernel_rfl) (fun _ _ _ h => h) (by kernel_rfl) (fun w => by kernel_rfl) ?_
        refine Ln.val 13 (.bool true) rfl (by kernel_rfl) (by kernel_rfl) (by kernel_rfl) (fun _ _ _ h => h) (by kernel_rfl) (fun w => by kernel_rfl) ?_
        refine Ln.val 14 (.bool true) rfl (by kernel_rfl) (by kernel_rfl) (by kernel_rfl) (fun _ _ _ h => h) (by kernel_rfl) (fun w => by kernel_rfl) ?_
        refine Ln.val 15 (.slice A5 2 c5) rfl (by kernel_rfl) (by kernel_rfl) (by kernel_rfl) (fun _ _ _ h => h) (by kernel_rfl) (fun w => by kernel_rfl) ?_
        refine Ln.val 17 (.slice A2 8 c2) rfl (by kernel_rfl) (by kernel_rfl) (by kernel_rfl) (fun _ _ _ h => h) (by kernel_rfl) (fun w => by kernel_rfl) ?_
        refine Ln.call 16 (f := 32) (args := #[.slice A5 2 c5]) rfl (by kernel_rfl) (by kernel_rfl) (by kernel_rfl) ((hcat).mono ?_)
        rintro e w6 ⟨A6, c6, rfl, hF6, hb6⟩
        refine ⟨_, rfl, ?_⟩
        refine Ln.call 18 (f := 29) (args := #[.slice A6 8 c6, .slice A2 8 c2]) rfl (by kernel_rfl) (by kernel_rfl) (by kernel_rfl) ((rsame_any true w6 A6 A2 X X 8 8 c6 c2 _ _ hF6.rd (hR5.below (hb6.mono hz5)) HX.out HX.out (by decide) (by simp)).mono ?_)
        rintro e w7 ⟨rfl, q7, rfl⟩
        refine ⟨_, rfl, ?_⟩
        refine Ln.val 19 (.bool true) rfl (by kernel_rfl) (by kernel_rfl) (by kernel_rfl) (fun _ _ _ h => h) (by kernel_rfl) (fun w => by kernel_rfl) ?_
        refine Ln.val 20 (.bool true) rfl (by kernel_rfl) (by kernel_rfl) (by kernel_rfl) (fun _ _ _ h => h) (by kernel_rfl) (fun w => by kernel_rfl) ?_
        refine Ln.val 21 (.int .u64 a) rfl (by kernel_rfl) (by kernel_rfl) (by kernel_rfl) (fun _ _ _ h => h) (by kernel_rfl) (fun w => by kernel_rfl) ?_
        refine Ln.val 22 (.int .i64 k) rfl (by kernel_rfl) (by kernel_rfl) (by kernel_rfl) (fun _ _ _ h => h) (by kernel_rfl) (fun w => by kernel_rfl) ?_
        refine Ln.val 24 (.slice A2 8 c2) rfl (by kernel_rfl) (by kernel_rfl) (by kernel_rfl) (fun _ _ _ h => h) (by kernel_rfl) (fun w => by kernel_rfl) ?_
        refine Ln.val 25 (.int .i64 k) rfl (by kernel_rfl) (by kernel_rfl) (by kernel_rfl) (fun _ _ _ h => h) (by kernel_rfl) (fun w => by kernel_rfl) ?_
        refine Ln.val 26 (.int .i64 r) rfl (by kernel_rfl) (by kernel_rfl) (by kernel_rfl) (fun _ _ _ h => h) (by kernel_rfl) (fun w => Eq.trans (b := .ok (.value (.int .i64 (IntKind.i64.wrap (8 - (k : Int))))) w) (by kernel_rfl) (by rw [hwr])) ?_
        refine Ln.val 27 (.slice A7 k (c2 - r)) rfl (by kernel_rfl) (by kernel_rfl) (by kernel_rfl) (fun _ _ _ h => h) (by kernel_rfl) (fun w => exec_slice rfl (by kernel_rfl) (.slice A2 8 c2) _ (some (.int .i64 r)) none none (by kernel_rfl) (by kernel_rfl) (by kernel_rfl) (by kernel_rfl) (hslX w)) ?_
        refine Ln.call 23 (f := 26) (args := #[.int .u64 a, .int .i64 k]) rfl (by kernel_rfl) (by kernel_rfl) (by kernel_rfl) ((hp (w6.drewN q7) (by trivial) (by omega)).mono ?_)
        rintro e w8 ⟨A8, c8, rfl, hO8, hb8⟩
        refine ⟨_, rfl, ?_⟩
        have hb68 := (below_drN hb6 q7).trans (hb8.mono hb6.size)
        refine Ln.call 28 (f := 29) (args := #[.slice A8 k c8, .slice A7 k (c2 - r)]) rfl (by kernel_rfl) (by kernel_rfl) (by kernel_rfl) ((rsame_any true w8 A8 A7 D D k k c8 (c2 - r) _ _ hO8.rd (hR75.below (hb68.mono hz5)) HK.out HK.out (by omega) (by simp)).mono ?_)
        rintro e w9 ⟨rfl, q9, rfl⟩
        refine ⟨_, rfl, ?_⟩
        refine Ln.val 29 (.bool true) rfl (by kernel_rfl) (by kernel_rfl) (by kernel_rfl) (fun _ _ _ h => h) (by kernel_rfl) (fun w => by kernel_rfl) ?_
        refine Ln.val 30 (.bool true) rfl (by kernel_rfl) (by kernel_rfl) (by kernel_rfl) (fun _ _ _ h => h) (by kernel_rfl) (fun w => by kernel_rfl) ?_
        refine Ln.done (by kernel_rfl) ?_
        go_wp2_with fail
        go_ret
        exact ⟨by kernel_rfl, below_drN (hb05.trans (hb68.mono hs5)) q9⟩
end Go.Proofs.Ytigedohalangbaa
