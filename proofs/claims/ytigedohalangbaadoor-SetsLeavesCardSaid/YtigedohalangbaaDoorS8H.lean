/- The document's Tree and Leaves. -/
import Derived.Test.YtigedohalangbaaDoorS8G
namespace Go.Proofs.YtigedohalangbaaDoor
open Go.RowKit
set_option linter.unusedVariables false
set_option linter.unusedSimpArgs false

theorem heights_eq : ∀ r, r < 5 → gt heightsL r = 5 * (1 + (r : Int)) := by decide
theorem own_eq : ∀ r, r < 4 → gt ownL r = 1 + (r : Int) := by decide
set_option maxHeartbeats 1000000 in
theorem rtree_any (code : Int) (w : World) (hc : 0 ≤ code ∧ code < 4294967296) :
    Calls Tryd.prog 12 #[.int .u32 code] w (TPost code w) := by
  obtain ⟨hc0, hc1⟩ := hc
  unfold TPost
  obtain ⟨q, hq⟩ : ∃ q, w.heap.size = q := ⟨_, rfl⟩
  obtain ⟨W, hW⟩ : ∃ W, w.alloc (.cells #[.int .u32 0, .int .i64 0, .int .i64 0, .int .i64 0] 26) = W := ⟨_, rfl⟩
  have hO1 : W.heap[q]? = some (.cells #[.int .u32 0, .int .i64 0, .int .i64 0, .int .i64 0] 26) := by rw [← hW, ← hq]; exact heap_alloc_new w _
  have hB1 : Below q w W := by rw [← hW, ← hq]; exact (Below.refl _ w).alloc (Nat.le_refl _) _
  rw [hq]
  have g0 : W.cell? ⟨q, 0, none⟩ = some (.int .u32 0) := by simp [World.cell?, hO1]
  have g1 : W.cell? ⟨q, 1, none⟩ = some (.int .i64 0) := by simp [World.cell?, hO1]
  have g2 : W.cell? ⟨q, 2, none⟩ = some (.int .i64 0) := by simp [World.cell?, hO1]
  have g3 : W.cell? ⟨q, 3, none⟩ = some (.int .i64 0) := by simp [World.cell?, hO1]
  have z : ∀ k, W.frozen? ⟨q, k, none⟩ = false := fun k => by simp [World.frozen?, hO1]
  have z0 := z 0
  have z1 := z 1
  have z2 := z 2
  have z3 := z 3
  clear z
  by_cases hs : tStd code
  · obtain ⟨i, hi⟩ : ∃ i : Nat, code = (i : Int) + 5 := ⟨(code - 5).toNat, by unfold tStd at hs; omega⟩
    have h16 : i < 20 := by unfold tStd at hs; omega
    obtain ⟨j, hj⟩ : ∃ j, i / 5 = j := ⟨_, rfl⟩
    obtain ⟨r, hr⟩ : ∃ r, i % 5 = r := ⟨_, rfl⟩
    obtain ⟨n, hn⟩ : ∃ n, sN j = n := ⟨_, rfl⟩
    obtain ⟨κ, hκ⟩ : ∃ κ, j / 2 = κ := ⟨_, rfl⟩
    have hr5 : r < 5 := by omega
    have e0 : t0 code = code := by unfold t0; rw [if_pos hs]
    have e1 : t1 code = (κ : Int) := by unfold t1; rw [if_pos hs]; rw [show tI code = i by unfold tI; omega, hj, hκ]
    have e2 : t2 code = (n : Int) := by unfold t2; rw [if_pos hs]; rw [show tI code = i by unfold tI; omega, hj, hn]
    have e3 : t3 code = 5 * (1 + (r : Int)) := by unfold t3; rw [if_pos hs]; rw [show tI code = i by unfold tI; omega, hr, heights_eq r hr5]
    have e4 : tE code = 0 := by unfold tE; rw [if_pos hs]
    rw [e0, e1, e2, e3, e4]
    have hS := rsize_any j ((code - 5) / 5) (by omega) (by omega)
    rw [hn, hκ] at hS
    have hm : (code - 5) % 5 = (r : Int) := by omega
    have q1 : 5 ≤ code := by unfold tStd at hs; omega
    have q2 : code ≤ 24 := by unfold tStd at hs; omega
    clear e0 e1 e2 e3 e4 hn hκ hj hr hi hs
    go_enter Tryd.func12, Tryd.ntmps12
    go_wp2_with fail
    refine (hS _).mono ?_
    rintro e w1 ⟨rfl, rfl⟩
    go_wp2_with fail
    have r1 := set4_row hO1 (.int .u32 (code)) (.int .i64 (κ)) (.int .i64 (n)) (.int .i64 (5 * (1 + (r : Int))))
    have hk4 := ((((Kept.refl q (fun g => g = q) W).set q 0 (.int .u32 (code)) (.inr rfl)).set q 1 (.int .i64 (κ)) (.inr rfl)).set q 2 (.int .i64 (n)) (.inr rfl)).set q 3 (.int .i64 (5 * (1 + (r : Int)))) (.inr rfl)
    generalize ((((W.setCell ⟨q, 0, none⟩ (.int .u32 (code))).setCell ⟨q, 1, none⟩ (.int .i64 (κ))).setCell ⟨q, 2, none⟩ (.int .i64 (n))).setCell ⟨q, 3, none⟩ (.int .i64 (5 * (1 + (r : Int))))) = w4 at r1 hk4 ⊢
    have hbel : Below q w w4 := ((Kept.of_below (S := fun _ => False) hB1).trans hk4 (Nat.le_refl _) (fun k hk h => by omega)).below
    have c0 : w4.cell? ⟨q, 0, none⟩ = some (.int .u32 (code)) := by simp [World.cell?, r1]
    have c1 : w4.cell? ⟨q, 1, none⟩ = some (.int .i64 (κ)) := by simp [World.cell?, r1]
    have c2 : w4.cell? ⟨q, 2, none⟩ = some (.int .i64 (n)) := by simp [World.cell?, r1]
    have c3 : w4.cell? ⟨q, 3, none⟩ = some (.int .i64 (5 * (1 + (r : Int)))) := by simp [World.cell?, r1]
    clear r1 hk4 g0 z0 g1 z1 g2 z2 g3 z3
    refine bodyPost_ret (v := .tuple #[.agg #[.int .u32 (code), .int .i64 (κ), .int .i64 (n), .int .i64 (5 * (1 + (r : Int)))], .int .i64 0]) (by simp [results, Tryd.results12, go_sem, c0, c1, c2, c3]) rfl ⟨rfl, hbel⟩
  · by_cases ho : tOwn code
    · obtain ⟨i, hi⟩ : ∃ i : Nat, code = (i : Int) + 4026531841 := ⟨(code - 4026531841).toNat, by unfold tOwn at ho; omega⟩
      have h16 : i < 16 := by unfold tOwn at ho; omega
      obtain ⟨j, hj⟩ : ∃ j, i / 4 = j := ⟨_, rfl⟩
      obtain ⟨r, hr⟩ : ∃ r, i % 4 = r := ⟨_, rfl⟩
      obtain ⟨n, hn⟩ : ∃ n, sN j = n := ⟨_, rfl⟩
      obtain ⟨κ, hκ⟩ : ∃ κ, j / 2 = κ := ⟨_, rfl⟩
      have hr5 : r < 4 := by omega
      have e0 : t0 code = code := by unfold t0; rw [if_neg hs, if_pos ho]
      have e1 : t1 code = (κ : Int) := by unfold t1; rw [if_neg hs, if_pos ho]; rw [show tJ code = i by unfold tJ; omega, hj, hκ]
      have e2 : t2 code = (n : Int) := by unfold t2; rw [if_neg hs, if_pos ho]; rw [show tJ code = i by unfold tJ; omega, hj, hn]
      have e3 : t3 code = 1 + (r : Int) := by unfold t3; rw [if_neg hs, if_pos ho]; rw [show tJ code = i by unfold tJ; omega, hr, own_eq r hr5]
      have e4 : tE code = 0 := by unfold tE; rw [if_neg hs, if_pos ho]
      rw [e0, e1, e2, e3, e4]
      have hS := rsize_any j ((code - 4026531841) / 4) (by omega) (by omega)
      rw [hn, hκ] at hS
      have hm : (code - 4026531841) % 4 = (r : Int) := by omega
      have q1 : 4026531841 ≤ code := by unfold tOwn at ho; omega
      have q2 : code ≤ 4026531856 := by unfold tOwn at ho; omega
      have q3 : ¬ code ≤ 24 := by omega
      have q4 : 5 ≤ code := by omega
      clear e0 e1 e2 e3 e4 hn hκ hj hr hi ho hs
      go_enter Tryd.func12, Tryd.ntmps12
      go_wp2_with fail
      refine (hS _).mono ?_
      rintro e w1 ⟨rfl, rfl⟩
      go_wp2_with fail
      have r1 := set4_row hO1 (.int .u32 (code)) (.int .i64 (κ)) (.int .i64 (n)) (.int .i64 (1 + (r : Int)))
      have hk4 := ((((Kept.refl q (fun g => g = q) W).set q 0 (.int .u32 (code)) (.inr rfl)).set q 1 (.int .i64 (κ)) (.inr rfl)).set q 2 (.int .i64 (n)) (.inr rfl)).set q 3 (.int .i64 (1 + (r : Int))) (.inr rfl)
      generalize ((((W.setCell ⟨q, 0, none⟩ (.int .u32 (code))).setCell ⟨q, 1, none⟩ (.int .i64 (κ))).setCell ⟨q, 2, none⟩ (.int .i64 (n))).setCell ⟨q, 3, none⟩ (.int .i64 (1 + (r : Int)))) = w4 at r1 hk4 ⊢
      have hbel : Below q w w4 := ((Kept.of_below (S := fun _ => False) hB1).trans hk4 (Nat.le_refl _) (fun k hk h => by omega)).below
      have c0 : w4.cell? ⟨q, 0, none⟩ = some (.int .u32 (code)) := by simp [World.cell?, r1]
      have c1 : w4.cell? ⟨q, 1, none⟩ = some (.int .i64 (κ)) := by simp [World.cell?, r1]
      have c2 : w4.cell? ⟨q, 2, none⟩ = some (.int .i64 (n)) := by simp [World.cell?, r1]
      have c3 : w4.cell? ⟨q, 3, none⟩ = some (.int .i64 (1 + (r : Int))) := by simp [World.cell?, r1]
      clear r1 hk4 g0 z0 g1 z1 g2 z2 g3 z3
      refine bodyPost_ret (v := .tuple #[.agg #[.int .u32 (code), .int .i64 (κ), .int .i64 (n), .int .i64 (1 + (r : Int))], .int .i64 0]) (by simp [results, Tryd.results12, go_sem, c0, c1, c2, c3]) rfl ⟨rfl, hbel⟩
    · have e0 : t0 code = 0 := by unfold t0; rw [if_neg hs, if_neg ho]
      have e1 : t1 code = 0 := by unfold t1; rw [if_neg hs, if_neg ho]
      have e2 : t2 code = 0 := by unfold t2; rw [if_neg hs, if_neg ho]
      have e3 : t3 code = 0 := by unfold t3; rw [if_neg hs, if_neg ho]
      have e4 : tE code = 4 := by unfold tE; rw [if_neg hs, if_neg ho]
      rw [e0, e1, e2, e3, e4]
      clear e0 e1 e2 e3 e4
      have hcase : code < 5 ∨ (24 < code ∧ code < 4026531841) ∨ 4026531856 < code := by unfold tStd at hs; unfold tOwn at ho; omega
      clear hs ho
      rcases hcase with h | ⟨h, h'⟩ | h
      · have p1 : ¬ 5 ≤ code := by omega
        have p2 : ¬ 4026531841 ≤ code := by omega
        go_enter Tryd.func12, Tryd.ntmps12
        go_wp2_with fail
        have r1 := set4_row hO1 (.int .u32 (0)) (.int .i64 (0)) (.int .i64 (0)) (.int .i64 (0))
        have hk4 := ((((Kept.refl q (fun g => g = q) W).set q 0 (.int .u32 (0)) (.inr rfl)).set q 1 (.int .i64 (0)) (.inr rfl)).set q 2 (.int .i64 (0)) (.inr rfl)).set q 3 (.int .i64 (0)) (.inr rfl)
        generalize ((((W.setCell ⟨q, 0, none⟩ (.int .u32 (0))).setCell ⟨q, 1, none⟩ (.int .i64 (0))).setCell ⟨q, 2, none⟩ (.int .i64 (0))).setCell ⟨q, 3, none⟩ (.int .i64 (0))) = w4 at r1 hk4 ⊢
        have hbel : Below q w w4 := ((Kept.of_below (S := fun _ => False) hB1).trans hk4 (Nat.le_refl _) (fun k hk h => by omega)).below
        have c0 : w4.cell? ⟨q, 0, none⟩ = some (.int .u32 (0)) := by simp [World.cell?, r1]
        have c1 : w4.cell? ⟨q, 1, none⟩ = some (.int .i64 (0)) := by simp [World.cell?, r1]
        have c2 : w4.cell? ⟨q, 2, none⟩ = some (.int .i64 (0)) := by simp [World.cell?, r1]
        have c3 : w4.cell? ⟨q, 3, none⟩ = some (.int .i64 (0)) := by simp [World.cell?, r1]
        clear r1 hk4 g0 z0 g1 z1 g2 z2 g3 z3
        refine bodyPost_ret (v := .tuple #[.agg #[.int .u32 (0), .int .i64 (0), .int .i64 (0), .int .i64 (0)], .int .i64 4]) (by simp [results, Tryd.results12, go_sem, c0, c1, c2, c3]) rfl ⟨rfl, hbel⟩
      · have p1 : 5 ≤ code := by omega
        have p2 : ¬ code ≤ 24 := by omega
        have p3 : ¬ 4026531841 ≤ code := by omega
        go_enter Tryd.func12, Tryd.ntmps12
        go_wp2_with fail
        have r1 := set4_row hO1 (.int .u32 (0)) (.int .i64 (0)) (.int .i64 (0)) (.int .i64 (0))
        have hk4 := ((((Kept.refl q (fun g => g = q) W).set q 0 (.int .u32 (0)) (.inr rfl)).set q 1 (.int .i64 (0)) (.inr rfl)).set q 2 (.int .i64 (0)) (.inr rfl)).set q 3 (.int .i64 (0)) (.inr rfl)
        generalize ((((W.setCell ⟨q, 0, none⟩ (.int .u32 (0))).setCell ⟨q, 1, none⟩ (.int .i64 (0))).setCell ⟨q, 2, none⟩ (.int .i64 (0))).setCell ⟨q, 3, none⟩ (.int .i64 (0))) = w4 at r1 hk4 ⊢
        have hbel : Below q w w4 := ((Kept.of_below (S := fun _ => False) hB1).trans hk4 (Nat.le_refl _) (fun k hk h => by omega)).below
        have c0 : w4.cell? ⟨q, 0, none⟩ = some (.int .u32 (0)) := by simp [World.cell?, r1]
        have c1 : w4.cell? ⟨q, 1, none⟩ = some (.int .i64 (0)) := by simp [World.cell?, r1]
        have c2 : w4.cell? ⟨q, 2, none⟩ = some (.int .i64 (0)) := by simp [World.cell?, r1]
        have c3 : w4.cell? ⟨q, 3, none⟩ = some (.int .i64 (0)) := by simp [World.cell?, r1]
        clear r1 hk4 g0 z0 g1 z1 g2 z2 g3 z3
        refine bodyPost_ret (v := .tuple #[.agg #[.int .u32 (0), .int .i64 (0), .int .i64 (0), .int .i64 (0)], .int .i64 4]) (by simp [results, Tryd.results12, go_sem, c0, c1, c2, c3]) rfl ⟨rfl, hbel⟩
      · have p1 : 5 ≤ code := by omega
        have p2 : ¬ code ≤ 24 := by omega
        have p3 : 4026531841 ≤ code := by omega
        have p4 : ¬ code ≤ 4026531856 := by omega
        go_enter Tryd.func12, Tryd.ntmps12
        go_wp2_with fail
        have r1 := set4_row hO1 (.int .u32 (0)) (.int .i64 (0)) (.int .i64 (0)) (.int .i64 (0))
        have hk4 := ((((Kept.refl q (fun g => g = q) W).set q 0 (.int .u32 (0)) (.inr rfl)).set q 1 (.int .i64 (0)) (.inr rfl)).set q 2 (.int .i64 (0)) (.inr rfl)).set q 3 (.int .i64 (0)) (.inr rfl)
        generalize ((((W.setCell ⟨q, 0, none⟩ (.int .u32 (0))).setCell ⟨q, 1, none⟩ (.int .i64 (0))).setCell ⟨q, 2, none⟩ (.int .i64 (0))).setCell ⟨q, 3, none⟩ (.int .i64 (0))) = w4 at r1 hk4 ⊢
        have hbel : Below q w w4 := ((Kept.of_below (S := fun _ => False) hB1).trans hk4 (Nat.le_refl _) (fun k hk h => by omega)).below
        have c0 : w4.cell? ⟨q, 0, none⟩ = some (.int .u32 (0)) := by simp [World.cell?, r1]
        have c1 : w4.cell? ⟨q, 1, none⟩ = some (.int .i64 (0)) := by simp [World.cell?, r1]
        have c2 : w4.cell? ⟨q, 2, none⟩ = some (.int .i64 (0)) := by simp [World.cell?, r1]
        have c3 : w4.cell? ⟨q, 3, none⟩ = some (.int .i64 (0)) := by simp [World.cell?, r1]
        clear r1 hk4 g0 z0 g1 z1 g2 z2 g3 z3
        refine bodyPost_ret (v := .tuple #[.agg #[.int .u32 (0), .int .i64 (0), .int .i64 (0), .int .i64 (0)], .int .i64 4]) (by simp [results, Tryd.results12, go_sem, c0, c1, c2, c3]) rfl ⟨rfl, hbel⟩
theorem rleaves_any (b0 b1 b2 h v : Int) (w : World) (hv : lvN h = v) :
    Calls Tryd.prog 15 #[.agg #[.int .u32 b0, .int .i64 b1, .int .i64 b2, .int .i64 h]] w fun e w' => e = .returned (.int .u64 v) ∧ Below w.heap.size w w' := by
  unfold lvN at hv
  by_cases h1 : h < 1
  · rw [if_neg (by omega)] at hv
    subst hv
    go_enter Tryd.func15, Tryd.ntmps15
    go_wp2_with fail
    go_ret
    exact ⟨rfl, (Below.refl _ w).alloc (Nat.le_refl _) _⟩
  · by_cases h2 : h > 25
    · rw [if_neg (by omega)] at hv
      subst hv
      go_enter Tryd.func15, Tryd.ntmps15
      go_wp2_with fail
      go_ret
      exact ⟨rfl, (Below.refl _ w).alloc (Nat.le_refl _) _⟩
    · rw [if_pos (by omega)] at hv
      obtain ⟨k, rfl⟩ : ∃ k : Nat, h = k := ⟨h.toNat, by omega⟩
      have hk : k < 26 := by omega
      rw [show (k : Int).toNat = k by simp] at hv
      have HV := Lib.hid hv
      obtain ⟨q, hq⟩ : ∃ q, w.heap.size = q := ⟨_, rfl⟩
      obtain ⟨W, hW⟩ : ∃ W, w.alloc (.cells #[.int .u32 b0, .int .i64 b1, .int .i64 b2, .int .i64 (k : Int)] 26) = W := ⟨_, rfl⟩
      have hO1 : W.heap[q]? = some (.cells #[.int .u32 b0, .int .i64 b1, .int .i64 b2, .int .i64 (k : Int)] 26) := by rw [← hW, ← hq]; exact heap_alloc_new w _
      have hB1 : Below q w W := by rw [← hW, ← hq]; exact (Below.refl _ w).alloc (Nat.le_refl _) _
      have hcell : W.cell? ⟨q, 3, none⟩ = some (.int .i64 (k : Int)) := by simp [World.cell?, hO1]
      rw [hq]
      clear hv
      go_enter Tryd.func15, Tryd.ntmps15
      go_wp2_with fail
      go_loopg [3, 4] k (fun g s3 s4 wr => wr = W ∧ ∃ i : Nat, s4 = .int .i64 i ∧ g = k - i ∧ i ≤ k ∧ s3 = .int .u64 (2 ^ i))
      case atStart => exact ⟨rfl, 0, rfl, rfl, Nat.zero_le _, rfl⟩
      case round =>
        obtain ⟨rfl, i, rfl, hg, hi, rfl⟩ := hrel
        have HG := Lib.hid hg
        clear hg
        have hd : ∀ k, k < 26 → (2 : Int) ^ k < 100000000 := by decide
        have hx := hd i (by omega)
        have hx0 : (0 : Int) ≤ 2 ^ i := Int.le_of_lt (Int.pow_pos (by decide))
        obtain ⟨x, hxx⟩ : ∃ x : Int, 2 ^ i = x := ⟨_, rfl⟩
        have hn : (2 : Int) ^ (i + 1) = x * 2 := by rw [Int.pow_succ, hxx]
        rw [hxx] at hx hx0 ⊢
        have HN := Lib.hid hn
        have HX := Lib.hid hxx
        clear hd hn hxx
        by_cases hlt : i < k
        · have hltI : (i : Int) < (k : Int) := by omega
          go_wp2_with fail
          go_roundg (k - (i + 1))
          case measure => have := HG.out; omega
          case rel => exact ⟨rfl, i + 1, by go_num, rfl, by omega, by rw [HN.out]⟩
        · have hltI : ¬ (i : Int) < (k : Int) := by omega
          obtain rfl : i = k := by omega
          obtain rfl : x = v := HX.out.symm.trans HV.out
          go_wp2_with fail
          go_ret
          exact ⟨rfl, hB1⟩
end Go.Proofs.YtigedohalangbaaDoor
