/- Layer 14, the reference: sums with masks, walked. Conditions: small lengths. -/
import Derived.Test.YtfaonieaagepjaaDoorA4G
namespace Go.Proofs.YtfaonieaagepjaaDoor
open Go.RowKit
set_option linter.unusedVariables false
set_option linter.unusedSimpArgs false
theorem rxor32_any (l m : List Int) (A A' : Option Addr) (c c' : Nat) (w : World) (h1 : Rd w w.heap.size .u8 A l) (hn : l.length = 32) (h2 : Rd w w.heap.size .u8 A' m) (hn' : m.length = 32) :
    Calls Tryd.prog 65 #[.slice A 32 c, .slice A' 32 c'] w (OutP w (xorL l m) 32) := by
  have h := rxor_any l m A A' 32 c 32 c' w h1 hn (Nat.le_refl _) h2 hn' (Nat.le_refl _)
  rwa [List.take_of_length_le (by omega), List.take_of_length_le (by omega)] at h
theorem rxor32o_any (l m : List Int) (A A' : Option Addr) (c c' : Nat) (w : World) (h1 : Rd w w.heap.size .u8 A l) (hn : l.length = 32) (h2 : Rd w w.heap.size .u8 A' m) (hn' : m.length = 32) :
    Calls Tryd.prog 65 #[.slice A 32 c, .slice A' 32 c'] w (OutO w (xorL l m) 32) := by
  have h := rxorO_any l m A A' 32 c 32 c' w h1 hn (Nat.le_refl _) h2 hn' (Nat.le_refl _)
  rwa [List.take_of_length_le (by omega), List.take_of_length_le (by omega)] at h
set_option maxRecDepth 100000 in
set_option maxHeartbeats 2000000 in
theorem rf_any (seed : List Int) (d : Ad) (x : List Int) (A : Option Addr) (A' : Option Addr) (n c n' c' : Nat) (w : World) (hd : d.ok) (h1 : Rd w w.heap.size .u8 A seed) (hn : seed.length = n) (hc : n ≤ c) (hb : Bys seed) (h2 : Rd w w.heap.size .u8 A' x) (hn' : x.length = n') (hc' : n' ≤ c') (hb2 : Bys x) (hok : n = 32 ∧ n' = 32) :
    Calls Tryd.prog 38 #[.slice A n c, .agg d.cs, .slice A' n' c'] w (OutP w (fL seed d x) 32) := by
  obtain ⟨rfl, rfl⟩ := hok
  have hX := Blk.new w 46 d.cs
  have hK0 := bal (Below.refl w.heap.size w) (Nat.le_refl _) (.cells d.cs 46)
  have hl0 := hX.lt
  have hmx : (200000000 : Nat) ≤ maxLen := by decide
  go_enter Tryd.func38, Tryd.ntmps38
  go_upto_region 1 with fail
  change Code.wp _ _ _ _ (w.alloc (.cells d.cs 46))
  generalize w.alloc (.cells d.cs 46) = w0 at hX hK0 hl0 ⊢
  go_upto_region 3 with fail
  refine Lx.enter (fun w' => Blk w' w.heap.size 46 d.cs) 12 (by kernel_rfl) (by kernel_rfl) hX.drew ?_
  (refine Lx.val 0 ?_ rfl (by kernel_rfl) (by kernel_rfl) (by kernel_rfl) (fun _ _ _ h => h) (by kernel_rfl) ?_ ?_; rotate_left 1; focus (intro w hw; go_simp; with_reducible rfl)); (try simp (config := {maxSteps := 2000000}) only [Act.put, List.getElem_toArray, List.getElem_cons_succ, List.getElem_cons_zero, List.setIfInBounds_toArray, List.set_cons_zero, List.set_cons_succ])
  refine Lx.val 1 (.agg d.cs) rfl (by kernel_rfl) (by kernel_rfl) (by kernel_rfl) (fun _ _ _ h => h) (by kernel_rfl) (fun w hw => exec_load_row w rfl (by kernel_rfl) Tryd.underlying46 rfl (by kernel_rfl) hw) ?_; (try simp (config := {maxSteps := 2000000}) only [Act.put, List.getElem_toArray, List.getElem_cons_succ, List.getElem_cons_zero, List.setIfInBounds_toArray, List.set_cons_zero, List.set_cons_succ])
  (refine Lx.val 4 ?_ rfl (by kernel_rfl) (by kernel_rfl) (by kernel_rfl) (fun _ _ _ h => h) (by kernel_rfl) ?_ ?_; rotate_left 1; focus (intro w hw; go_simp; with_reducible rfl)); (try simp (config := {maxSteps := 2000000}) only [Act.put, List.getElem_toArray, List.getElem_cons_succ, List.getElem_cons_zero, List.setIfInBounds_toArray, List.set_cons_zero, List.set_cons_succ])
  (refine Lx.val 5 ?_ rfl (by kernel_rfl) (by kernel_rfl) (by kernel_rfl) (fun _ _ _ h => h) (by kernel_rfl) ?_ ?_; rotate_left 1; focus (intro w hw; go_simp; with_reducible rfl)); (try simp (config := {maxSteps := 2000000}) only [Act.put, List.getElem_toArray, List.getElem_cons_succ, List.getElem_cons_zero, List.setIfInBounds_toArray, List.set_cons_zero, List.set_cons_succ])
  refine Lx.val 6 (.agg d.cs) rfl (by kernel_rfl) (by kernel_rfl) (by kernel_rfl) (fun _ _ _ h => h) (by kernel_rfl) (fun w hw => exec_load_row w rfl (by kernel_rfl) Tryd.underlying46 rfl (by kernel_rfl) hw) ?_; (try simp (config := {maxSteps := 2000000}) only [Act.put, List.getElem_toArray, List.getElem_cons_succ, List.getElem_cons_zero, List.setIfInBounds_toArray, List.set_cons_zero, List.set_cons_succ])
  have hK1 := bdw hK0
  have hcx_1 := hX.drew
  have hlx_1 := (show _ < w0.drew.heap.size from hl0)
  generalize w0.drew = v1 at hK1 hcx_1 hlx_1 ⊢
  clear hK0 hX hl0
  refine Lx.call 2 rfl (by kernel_rfl) (by kernel_rfl) (by kernel_rfl) (fun _ => (rbytes_any d 0 v1 hd (W32.small (by decide) (by decide))).mono ?_)
  rintro e v2 ⟨A2, c2, rfl, hF2, hb2⟩
  have hK2 := bnx hK1 hb2 hK1.size
  have hcx_2 := hcx_1.below hb2 hlx_1
  have hlx_2 := Nat.lt_of_lt_of_le hlx_1 hb2.size
  have hcB : 32 ≤ c2 := by have := hF2.cap; rw [adB_len] at this; exact this
  refine ⟨_, rfl, hcx_2, ?_⟩
  (try simp only [Act.put, List.getElem_toArray, List.getElem_cons_succ, List.getElem_cons_zero, List.setIfInBounds_toArray, List.set_cons_zero, List.set_cons_succ])
  have hRB := hF2.rd
  have hBB_2 := Below.refl v2.heap.size v2
  clear hK1 hcx_1 hlx_1 hb2 hF2
  refine Lx.call 3 rfl (by kernel_rfl) (by kernel_rfl) (by kernel_rfl) (fun _ => (rprf_any seed (adB d 0) A A2 32 c 32 c2 v2 (h1.bel hK2) hn hc (by decide) hb (hRB.bel hBB_2) (adB_len _ _) hcB (by decide) (adB_B _ _)).mono ?_)
  rintro e v3 ⟨A3, c3, rfl, hF3, hb3⟩
  have hK3 := bnx hK2 hb3 hK2.size
  have hBB_3 := bnx hBB_2 hb3 hBB_2.size
  have hcx_3 := hcx_2.below hb3 hlx_2
  have hlx_3 := Nat.lt_of_lt_of_le hlx_2 hb3.size
  have hca : 32 ≤ c3 := by have := hF3.cap; rw [prfL_len] at this; exact this
  refine ⟨_, rfl, hcx_3, ?_⟩
  (try simp only [Act.put, List.getElem_toArray, List.getElem_cons_succ, List.getElem_cons_zero, List.setIfInBounds_toArray, List.set_cons_zero, List.set_cons_succ])
  have hRa := hF3.rd
  have hBa_3 := Below.refl v3.heap.size v3
  clear hK2 hBB_2 hcx_2 hlx_2 hb3 hF3
  clear hRB hcB hBB_3
  refine Lx.call 7 rfl (by kernel_rfl) (by kernel_rfl) (by kernel_rfl) (fun _ => (rbytes_any d 1 v3 hd (W32.small (by decide) (by decide))).mono ?_)
  rintro e v4 ⟨A4, c4, rfl, hF4, hb4⟩
  have hK4 := bnx hK3 hb4 hK3.size
  have hBa_4 := bnx hBa_3 hb4 hBa_3.size
  have hcx_4 := hcx_3.below hb4 hlx_3
  have hlx_4 := Nat.lt_of_lt_of_le hlx_3 hb4.size
  have hcB : 32 ≤ c4 := by have := hF4.cap; rw [adB_len] at this; exact this
  refine ⟨_, rfl, hcx_4, ?_⟩
  (try simp only [Act.put, List.getElem_toArray, List.getElem_cons_succ, List.getElem_cons_zero, List.setIfInBounds_toArray, List.set_cons_zero, List.set_cons_succ])
  have hRB := hF4.rd
  have hBB_4 := Below.refl v4.heap.size v4
  clear hK3 hBa_3 hcx_3 hlx_3 hb4 hF4
  refine Lx.call 8 rfl (by kernel_rfl) (by kernel_rfl) (by kernel_rfl) (fun _ => (rprf_any seed (adB d 1) A A4 32 c 32 c4 v4 (h1.bel hK4) hn hc (by decide) hb (hRB.bel hBB_4) (adB_len _ _) hcB (by decide) (adB_B _ _)).mono ?_)
  rintro e v5 ⟨A5, c5, rfl, hF5, hb5⟩
  have hK5 := bnx hK4 hb5 hK4.size
  have hBa_5 := bnx hBa_4 hb5 hBa_4.size
  have hBB_5 := bnx hBB_4 hb5 hBB_4.size
  have hcx_5 := hcx_4.below hb5 hlx_4
  have hlx_5 := Nat.lt_of_lt_of_le hlx_4 hb5.size
  have hcb : 32 ≤ c5 := by have := hF5.cap; rw [prfL_len] at this; exact this
  refine ⟨_, rfl, hcx_5, ?_⟩
  (try simp only [Act.put, List.getElem_toArray, List.getElem_cons_succ, List.getElem_cons_zero, List.setIfInBounds_toArray, List.set_cons_zero, List.set_cons_succ])
  have hRb := hF5.rd
  have hBb_5 := Below.refl v5.heap.size v5
  clear hK4 hBa_4 hBB_4 hcx_4 hlx_4 hb5 hF5
  clear hRB hcB hBB_5
  refine Lx.call 9 rfl (by kernel_rfl) (by kernel_rfl) (by kernel_rfl) (fun _ => (rxor32_any x (prfL seed (adB d 1)) A' A5 c' c5 v5 (h2.bel hK5) hn' (hRb.bel hBb_5) (prfL_len _ _)).mono ?_)
  rintro e v6 ⟨A6, c6, rfl, hF6, hb6⟩
  have hK6 := bnx hK5 hb6 hK5.size
  have hBa_6 := bnx hBa_5 hb6 hBa_5.size
  have hBb_6 := bnx hBb_5 hb6 hBb_5.size
  have hcx_6 := hcx_5.below hb6 hlx_5
  have hlx_6 := Nat.lt_of_lt_of_le hlx_5 hb6.size
  have hcx1 : 32 ≤ c6 := by have := hF6.cap; rw [xorL32_len _ _ hn' (prfL_len _ _)] at this; exact this
  refine ⟨_, rfl, hcx_6, ?_⟩
  (try simp only [Act.put, List.getElem_toArray, List.getElem_cons_succ, List.getElem_cons_zero, List.setIfInBounds_toArray, List.set_cons_zero, List.set_cons_succ])
  have hRx1 := hF6.rd
  have hBx1_6 := Below.refl v6.heap.size v6
  clear hK5 hBa_5 hBb_5 hcx_5 hlx_5 hb6 hF6
  clear hRb hBb_6
  have hKl := hK6.size
  refine Lx.call 10 rfl (by kernel_rfl) (by kernel_rfl) (by kernel_rfl) (fun _ => (rnum_any 0 (prfL seed (adB d 0)) (xorL x (prfL seed (adB d 1))) A3 A6 32 c3 32 c6 v6 (by unfold B8; decide) (hRa.bel hBa_6) (prfL_len _ _) hca (by decide) (prfL_B _ _) (hRx1.bel hBx1_6) (xorL32_len _ _ hn' (prfL_len _ _)) hcx1 (by decide) (xorL_B _ _)).mono ?_)
  rintro e v7 ⟨A7, c7, rfl, hF7, hb7⟩
  have hK7 := bnx hK6 hb7 hK6.size
  have hBa_7 := bnx hBa_6 hb7 hBa_6.size
  have hBx1_7 := bnx hBx1_6 hb7 hBx1_6.size
  have hcx_7 := hcx_6.below hb7 hlx_6
  have hlx_7 := Nat.lt_of_lt_of_le hlx_6 hb7.size
  have hFz := hF7.low (b' := w.heap.size) hKl
  refine ⟨_, rfl, hcx_7, ?_⟩
  (try simp only [Act.put, List.getElem_toArray, List.getElem_cons_succ, List.getElem_cons_zero, List.setIfInBounds_toArray, List.set_cons_zero, List.set_cons_succ])
  clear hK6 hBa_6 hBx1_6 hcx_6 hlx_6 hb7 hF7
  (refine Lx.val 11 ?_ rfl (by kernel_rfl) (by kernel_rfl) (by kernel_rfl) (fun _ _ _ h => h) (by kernel_rfl) ?_ ?_; rotate_left 1; focus (intro w hw; go_simp; with_reducible rfl)); (try simp (config := {maxSteps := 2000000}) only [Act.put, List.getElem_toArray, List.getElem_cons_succ, List.getElem_cons_zero, List.setIfInBounds_toArray, List.set_cons_zero, List.set_cons_succ])
  refine Lx.done (by kernel_rfl) ?_
  intro _
  go_wp2_with fail
  go_ret
  exact ⟨_, _, rfl, hFz, hK7⟩
set_option maxRecDepth 100000 in
set_option maxHeartbeats 2000000 in
theorem rf_no (seed : List Int) (d : Ad) (x : List Int) (A : Option Addr) (A' : Option Addr) (n c n' c' : Nat) (w : World) (hd : d.ok) (h1 : Rd w w.heap.size .u8 A seed) (hn : seed.length = n) (hc : n ≤ c) (hb : Bys seed) (h2 : Rd w w.heap.size .u8 A' x) (hn' : x.length = n') (hc' : n' ≤ c') (hb2 : Bys x) (hok : ¬ (n = 32 ∧ n' = 32)) :
    Calls Tryd.prog 38 #[.slice A n c, .agg d.cs, .slice A' n' c'] w (NilP w) := by
  have hX := Blk.new w 46 d.cs
  have hK0 := bal (Below.refl w.heap.size w) (Nat.le_refl _) (.cells d.cs 46)
  have hl0 := hX.lt
  have hmx : (200000000 : Nat) ≤ maxLen := by decide
  go_enter Tryd.func38, Tryd.ntmps38
  go_upto_region 1 with fail
  change Code.wp _ _ _ _ (w.alloc (.cells d.cs 46))
  generalize w.alloc (.cells d.cs 46) = w0 at hX hK0 hl0 ⊢
  by_cases q0 : n = 32
  · have e0 : ((n : Int) != 32) = false := by simp; omega
    by_cases q1 : n' = 32
    · exact absurd ⟨q0, q1⟩ hok
    · have e1 : ((n' : Int) != 32) = true := by simp; omega
      go_wp2_with fail
      go_ret
      exact ⟨rfl, hK0⟩
  · have e0 : ((n : Int) != 32) = true := by simp; omega
    go_wp2_with fail
    go_ret
    exact ⟨rfl, hK0⟩
set_option maxRecDepth 100000 in
set_option maxHeartbeats 2000000 in
theorem rh_any (seed : List Int) (d : Ad) (x : List Int) (y : List Int) (A : Option Addr) (A' : Option Addr) (Ay : Option Addr) (n c n' c' ny cy : Nat) (w : World) (hd : d.ok) (h1 : Rd w w.heap.size .u8 A seed) (hn : seed.length = n) (hc : n ≤ c) (hb : Bys seed) (h2 : Rd w w.heap.size .u8 A' x) (hn' : x.length = n') (hc' : n' ≤ c') (hb2 : Bys x) (h3 : Rd w w.heap.size .u8 Ay y) (hn2 : y.length = ny) (hc2_ : ny ≤ cy) (hb3 : Bys y) (hok : n = 32 ∧ n' = 32 ∧ ny = 32) :
    Calls Tryd.prog 40 #[.slice A n c, .agg d.cs, .slice A' n' c', .slice Ay ny cy] w (OutP w (hL seed d x y) 32) := by
  obtain ⟨rfl, rfl, rfl⟩ := hok
  have hX := Blk.new w 46 d.cs
  have hK0 := bal (Below.refl w.heap.size w) (Nat.le_refl _) (.cells d.cs 46)
  have hl0 := hX.lt
  have hmx : (200000000 : Nat) ≤ maxLen := by decide
  go_enter Tryd.func40, Tryd.ntmps40
  go_upto_region 1 with fail
  change Code.wp _ _ _ _ (w.alloc (.cells d.cs 46))
  generalize w.alloc (.cells d.cs 46) = w0 at hX hK0 hl0 ⊢
  go_upto_region 3 with fail
  refine Lx.enter (fun w' => Blk w' w.heap.size 46 d.cs) 19 (by kernel_rfl) (by kernel_rfl) hX.drew ?_
  (refine Lx.val 0 ?_ rfl (by kernel_rfl) (by kernel_rfl) (by kernel_rfl) (fun _ _ _ h => h) (by kernel_rfl) ?_ ?_; rotate_left 1; focus (intro w hw; go_simp; with_reducible rfl)); (try simp (config := {maxSteps := 2000000}) only [Act.put, List.getElem_toArray, List.getElem_cons_succ, List.getElem_cons_zero, List.setIfInBounds_toArray, List.set_cons_zero, List.set_cons_succ])
  refine Lx.val 1 (.agg d.cs) rfl (by kernel_rfl) (by kernel_rfl) (by kernel_rfl) (fun _ _ _ h => h) (by kernel_rfl) (fun w hw => exec_load_row w rfl (by kernel_rfl) Tryd.underlying46 rfl (by kernel_rfl) hw) ?_; (try simp (config := {maxSteps := 2000000}) only [Act.put, List.getElem_toArray, List.getElem_cons_succ, List.getElem_cons_zero, List.setIfInBounds_toArray, List.set_cons_zero, List.set_cons_succ])
  (refine Lx.val 4 ?_ rfl (by kernel_rfl) (by kernel_rfl) (by kernel_rfl) (fun _ _ _ h => h) (by kernel_rfl) ?_ ?_; rotate_left 1; focus (intro w hw; go_simp; with_reducible rfl)); (try simp (config := {maxSteps := 2000000}) only [Act.put, List.getElem_toArray, List.getElem_cons_succ, List.getElem_cons_zero, List.setIfInBounds_toArray, List.set_cons_zero, List.set_cons_succ])
  (refine Lx.val 5 ?_ rfl (by kernel_rfl) (by kernel_rfl) (by kernel_rfl) (fun _ _ _ h => h) (by kernel_rfl) ?_ ?_; rotate_left 1; focus (intro w hw; go_simp; with_reducible rfl)); (try simp (config := {maxSteps := 2000000}) only [Act.put, List.getElem_toArray, List.getElem_cons_succ, List.getElem_cons_zero, List.setIfInBounds_toArray, List.set_cons_zero, List.set_cons_succ])
  refine Lx.val 6 (.agg d.cs) rfl (by kernel_rfl) (by kernel_rfl) (by kernel_rfl) (fun _ _ _ h => h) (by kernel_rfl) (fun w hw => exec_load_row w rfl (by kernel_rfl) Tryd.underlying46 rfl (by kernel_rfl) hw) ?_; (try simp (config := {maxSteps := 2000000}) only [Act.put, List.getElem_toArray, List.getElem_cons_succ, List.getElem_cons_zero, List.setIfInBounds_toArray, List.set_cons_zero, List.set_cons_succ])
  (refine Lx.val 10 ?_ rfl (by kernel_rfl) (by kernel_rfl) (by kernel_rfl) (fun _ _ _ h => h) (by kernel_rfl) ?_ ?_; rotate_left 1; focus (intro w hw; go_simp; with_reducible rfl)); (try simp (config := {maxSteps := 2000000}) only [Act.put, List.getElem_toArray, List.getElem_cons_succ, List.getElem_cons_zero, List.setIfInBounds_toArray, List.set_cons_zero, List.set_cons_succ])
  (refine Lx.val 11 ?_ rfl (by kernel_rfl) (by kernel_rfl) (by kernel_rfl) (fun _ _ _ h => h) (by kernel_rfl) ?_ ?_; rotate_left 1; focus (intro w hw; go_simp; with_reducible rfl)); (try simp (config := {maxSteps := 2000000}) only [Act.put, List.getElem_toArray, List.getElem_cons_succ, List.getElem_cons_zero, List.setIfInBounds_toArray, List.set_cons_zero, List.set_cons_succ])
  refine Lx.val 12 (.agg d.cs) rfl (by kernel_rfl) (by kernel_rfl) (by kernel_rfl) (fun _ _ _ h => h) (by kernel_rfl) (fun w hw => exec_load_row w rfl (by kernel_rfl) Tryd.underlying46 rfl (by kernel_rfl) hw) ?_; (try simp (config := {maxSteps := 2000000}) only [Act.put, List.getElem_toArray, List.getElem_cons_succ, List.getElem_cons_zero, List.setIfInBounds_toArray, List.set_cons_zero, List.set_cons_succ])
  have hK1 := bdw hK0
  have hcx_1 := hX.drew
  have hlx_1 := (show _ < w0.drew.heap.size from hl0)
  generalize w0.drew = v1 at hK1 hcx_1 hlx_1 ⊢
  clear hK0 hX hl0
  refine Lx.call 2 rfl (by kernel_rfl) (by kernel_rfl) (by kernel_rfl) (fun _ => (rbytes_any d 0 v1 hd (W32.small (by decide) (by decide))).mono ?_)
  rintro e v2 ⟨A2, c2, rfl, hF2, hb2⟩
  have hK2 := bnx hK1 hb2 hK1.size
  have hcx_2 := hcx_1.below hb2 hlx_1
  have hlx_2 := Nat.lt_of_lt_of_le hlx_1 hb2.size
  have hcB : 32 ≤ c2 := by have := hF2.cap; rw [adB_len] at this; exact this
  refine ⟨_, rfl, hcx_2, ?_⟩
  (try simp only [Act.put, List.getElem_toArray, List.getElem_cons_succ, List.getElem_cons_zero, List.setIfInBounds_toArray, List.set_cons_zero, List.set_cons_succ])
  have hRB := hF2.rd
  have hBB_2 := Below.refl v2.heap.size v2
  clear hK1 hcx_1 hlx_1 hb2 hF2
  refine Lx.call 3 rfl (by kernel_rfl) (by kernel_rfl) (by kernel_rfl) (fun _ => (rprf_any seed (adB d 0) A A2 32 c 32 c2 v2 (h1.bel hK2) hn hc (by decide) hb (hRB.bel hBB_2) (adB_len _ _) hcB (by decide) (adB_B _ _)).mono ?_)
  rintro e v3 ⟨A3, c3, rfl, hF3, hb3⟩
  have hK3 := bnx hK2 hb3 hK2.size
  have hBB_3 := bnx hBB_2 hb3 hBB_2.size
  have hcx_3 := hcx_2.below hb3 hlx_2
  have hlx_3 := Nat.lt_of_lt_of_le hlx_2 hb3.size
  have hca : 32 ≤ c3 := by have := hF3.cap; rw [prfL_len] at this; exact this
  refine ⟨_, rfl, hcx_3, ?_⟩
  (try simp only [Act.put, List.getElem_toArray, List.getElem_cons_succ, List.getElem_cons_zero, List.setIfInBounds_toArray, List.set_cons_zero, List.set_cons_succ])
  have hRa := hF3.rd
  have hBa_3 := Below.refl v3.heap.size v3
  clear hK2 hBB_2 hcx_2 hlx_2 hb3 hF3
  clear hRB hcB hBB_3
  refine Lx.call 7 rfl (by kernel_rfl) (by kernel_rfl) (by kernel_rfl) (fun _ => (rbytes_any d 1 v3 hd (W32.small (by decide) (by decide))).mono ?_)
  rintro e v4 ⟨A4, c4, rfl, hF4, hb4⟩
  have hK4 := bnx hK3 hb4 hK3.size
  have hBa_4 := bnx hBa_3 hb4 hBa_3.size
  have hcx_4 := hcx_3.below hb4 hlx_3
  have hlx_4 := Nat.lt_of_lt_of_le hlx_3 hb4.size
  have hcB : 32 ≤ c4 := by have := hF4.cap; rw [adB_len] at this; exact this
  refine ⟨_, rfl, hcx_4, ?_⟩
  (try simp only [Act.put, List.getElem_toArray, List.getElem_cons_succ, List.getElem_cons_zero, List.setIfInBounds_toArray, List.set_cons_zero, List.set_cons_succ])
  have hRB := hF4.rd
  have hBB_4 := Below.refl v4.heap.size v4
  clear hK3 hBa_3 hcx_3 hlx_3 hb4 hF4
  refine Lx.call 8 rfl (by kernel_rfl) (by kernel_rfl) (by kernel_rfl) (fun _ => (rprf_any seed (adB d 1) A A4 32 c 32 c4 v4 (h1.bel hK4) hn hc (by decide) hb (hRB.bel hBB_4) (adB_len _ _) hcB (by decide) (adB_B _ _)).mono ?_)
  rintro e v5 ⟨A5, c5, rfl, hF5, hb5⟩
  have hK5 := bnx hK4 hb5 hK4.size
  have hBa_5 := bnx hBa_4 hb5 hBa_4.size
  have hBB_5 := bnx hBB_4 hb5 hBB_4.size
  have hcx_5 := hcx_4.below hb5 hlx_4
  have hlx_5 := Nat.lt_of_lt_of_le hlx_4 hb5.size
  have hcb : 32 ≤ c5 := by have := hF5.cap; rw [prfL_len] at this; exact this
  refine ⟨_, rfl, hcx_5, ?_⟩
  (try simp only [Act.put, List.getElem_toArray, List.getElem_cons_succ, List.getElem_cons_zero, List.setIfInBounds_toArray, List.set_cons_zero, List.set_cons_succ])
  have hRb := hF5.rd
  have hBb_5 := Below.refl v5.heap.size v5
  clear hK4 hBa_4 hBB_4 hcx_4 hlx_4 hb5 hF5
  clear hRB hcB hBB_5
  have hKp := hK5
  have hlp0 := hlx_5
  have hRap := hRa.bel hBa_5
  refine Lx.call 9 rfl (by kernel_rfl) (by kernel_rfl) (by kernel_rfl) (fun _ => (rxor32o_any x (prfL seed (adB d 1)) A' A5 c' c5 v5 (h2.bel hK5) hn' (hRb.bel hBb_5) (prfL_len _ _)).mono ?_)
  rintro e v6 ⟨A6, c6, rfl, hO6, hb6⟩
  have hK6 := bnx hK5 hb6 hK5.size
  have hBa_6 := bnx hBa_5 hb6 hBa_5.size
  have hBb_6 := bnx hBb_5 hb6 hBb_5.size
  have hcx_6 := hcx_5.below hb6 hlx_5
  have hlx_6 := Nat.lt_of_lt_of_le hlx_5 hb6.size
  have hO0 := hO6
  have hbp6 : Below v5.heap.size v5 v6 := hb6
  have hle : v5.heap.size ≤ v6.heap.size := hb6.size
  refine ⟨_, rfl, hcx_6, ?_⟩
  (try simp only [Act.put, List.getElem_toArray, List.getElem_cons_succ, List.getElem_cons_zero, List.setIfInBounds_toArray, List.set_cons_zero, List.set_cons_succ])
  clear hK5 hBa_5 hBb_5 hcx_5 hlx_5 hb6
  clear hRb hBb_6
  refine Lx.call 13 rfl (by kernel_rfl) (by kernel_rfl) (by kernel_rfl) (fun _ => (rbytes_any d 2 v6 hd (W32.small (by decide) (by decide))).mono ?_)
  rintro e v7 ⟨A7, c7, rfl, hF7, hb7⟩
  have hK7 := bnx hK6 hb7 hK6.size
  have hBa_7 := bnx hBa_6 hb7 hBa_6.size
  have hcx_7 := hcx_6.below hb7 hlx_6
  have hlx_7 := Nat.lt_of_lt_of_le hlx_6 hb7.size
  have hcB : 32 ≤ c7 := by have := hF7.cap; rw [adB_len] at this; exact this
  have hO7 := hO6.below hb7 (Nat.le_refl _)
  have hbp7 : Below v5.heap.size v5 v7 := bnx hbp6 hb7 hbp6.size
  have hle7 : v5.heap.size ≤ v7.heap.size := Nat.le_trans hle hb7.size
  refine ⟨_, rfl, hcx_7, ?_⟩
  (try simp only [Act.put, List.getElem_toArray, List.getElem_cons_succ, List.getElem_cons_zero, List.setIfInBounds_toArray, List.set_cons_zero, List.set_cons_succ])
  have hRB := hF7.rd
  have hBB_7 := Below.refl v7.heap.size v7
  clear hK6 hBa_6 hcx_6 hlx_6 hb7 hF7
  refine Lx.call 14 rfl (by kernel_rfl) (by kernel_rfl) (by kernel_rfl) (fun _ => (rprf_any seed (adB d 2) A A7 32 c 32 c7 v7 (h1.bel hK7) hn hc (by decide) hb (hRB.bel hBB_7) (adB_len _ _) hcB (by decide) (adB_B _ _)).mono ?_)
  rintro e v8 ⟨A8, c8, rfl, hF8, hb8⟩
  have hK8 := bnx hK7 hb8 hK7.size
  have hBa_8 := bnx hBa_7 hb8 hBa_7.size
  have hBB_8 := bnx hBB_7 hb8 hBB_7.size
  have hcx_8 := hcx_7.below hb8 hlx_7
  have hlx_8 := Nat.lt_of_lt_of_le hlx_7 hb8.size
  have hO8 := hO7.below hb8 (Nat.le_refl _)
  have hbp8 : Below v5.heap.size v5 v8 := bnx hbp7 hb8 hbp7.size
  have hle8 : v5.heap.size ≤ v8.heap.size := Nat.le_trans hle7 hb8.size
  refine ⟨_, rfl, hcx_8, ?_⟩
  (try simp only [Act.put, List.getElem_toArray, List.getElem_cons_succ, List.getElem_cons_zero, List.setIfInBounds_toArray, List.set_cons_zero, List.set_cons_succ])
  have hRb2 := hF8.rd
  have hBb2_8 := Below.refl v8.heap.size v8
  clear hK7 hBa_7 hBB_7 hcx_7 hlx_7 hb8 hF8
  refine Lx.call 15 rfl (by kernel_rfl) (by kernel_rfl) (by kernel_rfl) (fun _ => (rxor32_any y (prfL seed (adB d 2)) Ay A8 cy c8 v8 (h3.bel hK8) hn2 (hRb2.bel hBb2_8) (prfL_len _ _)).mono ?_)
  rintro e v9 ⟨A9, c9, rfl, hF9, hb9⟩
  have hK9 := bnx hK8 hb9 hK8.size
  have hBa_9 := bnx hBa_8 hb9 hBa_8.size
  have hBB_9 := bnx hBB_8 hb9 hBB_8.size
  have hBb2_9 := bnx hBb2_8 hb9 hBb2_8.size
  have hcx_9 := hcx_8.below hb9 hlx_8
  have hlx_9 := Nat.lt_of_lt_of_le hlx_8 hb9.size
  have hO9 := hO8.below hb9 (Nat.le_refl _)
  have hbp9 : Below v5.heap.size v5 v9 := bnx hbp8 hb9 hbp8.size
  have hle9 : v5.heap.size ≤ v9.heap.size := Nat.le_trans hle8 hb9.size
  refine ⟨_, rfl, hcx_9, ?_⟩
  (try simp only [Act.put, List.getElem_toArray, List.getElem_cons_succ, List.getElem_cons_zero, List.setIfInBounds_toArray, List.set_cons_zero, List.set_cons_succ])
  have hRx2 := hF9.rd
  have hBx2_9 := Below.refl v9.heap.size v9
  clear hK8 hBa_8 hBB_8 hBb2_8 hcx_8 hlx_8 hb9 hF9
  obtain ⟨T, hTT⟩ : ∃ T, xorL x (prfL seed (adB d 1)) ++ xorL y (prfL seed (adB d 2)) = T := ⟨_, rfl⟩
  have hTl : T.length = 64 := by rw [← hTT, List.length_append, xorL32_len _ _ hn' (prfL_len _ _), xorL32_len _ _ hn2 (prfL_len _ _)]
  have hTb : Bys T := by rw [← hTT]; exact (xorL_B _ _).append (xorL_B _ _)
  refine Lx.app (w := v9) (c := c9) 16 rfl (by kernel_rfl) rfl (.tmp 31) (.tmp 37) 24 5 .u8 1 rfl Tryd.underlying24 inf_u8 hO9 (hRx2.bel hBx2_9) (by kernel_rfl) (by kernel_rfl) (xorL32_len _ _ hn2 (prfL_len _ _)) T hTT 64 hTl (by decide) (by decide) hle9 ?_
  intro hSx Ab cb wb hOb hgb hfb
  have hbz : Below v5.heap.size v9 wb := ((Kept.refl v5.heap.size (fun _ => False) v9).grew hO9 hgb (Nat.le_refl _) hle9).below
  have hlp : w.heap.size ≤ v5.heap.size ∧ w.heap.size < v5.heap.size := ⟨hKp.size, hlp0⟩
  have hKb : Below w.heap.size w wb := hK9.trans (hbz.mono hlp.1)
  have hXb : Blk wb w.heap.size 46 d.cs := hcx_9.below hbz hlp.2
  have hRa2 : Rd wb wb.heap.size .u8 A3 (prfL seed (adB d 0)) := ((hRap.below (hbp9)).below hbz).more (by have := hgb.size; have := hle9; omega)
  refine ⟨hXb, ?_⟩
  (try simp only [Act.put, List.getElem_toArray, List.getElem_cons_succ, List.getElem_cons_zero, List.setIfInBounds_toArray, List.set_cons_zero, List.set_cons_succ])
  have hcT : 64 ≤ cb := by have := hOb.len.2; rw [hTl] at this; exact this
  have hRT := hOb.rd
  have hKl := hKb.size
  have hlb : w.heap.size < wb.heap.size := Nat.lt_of_lt_of_le hlp.2 (Nat.le_trans hle9 hgb.size)
  clear hSx hgb hfb hOb hbz
  refine Lx.call 17 rfl (by kernel_rfl) (by kernel_rfl) (by kernel_rfl) (fun _ => (rnum_any 1 (prfL seed (adB d 0)) T A3 Ab 32 c3 64 cb wb (by unfold B8; decide) hRa2 (prfL_len _ _) hca (by decide) (prfL_B _ _) hRT hTl hcT (by decide) hTb).mono ?_)
  rintro e v10 ⟨A10, c10, rfl, hF10, hb10⟩
  have hK10 := bnx hKb hb10 hKb.size
  have hcx_10 := hXb.below hb10 hlb
  have hlx_10 := Nat.lt_of_lt_of_le hlb hb10.size
  rw [← hTT] at hF10
  have hFz := hF10.low (b' := w.heap.size) hKl
  refine ⟨_, rfl, hcx_10, ?_⟩
  (try simp only [Act.put, List.getElem_toArray, List.getElem_cons_succ, List.getElem_cons_zero, List.setIfInBounds_toArray, List.set_cons_zero, List.set_cons_succ])
  clear hKb hXb hlb hb10 hF10
  (refine Lx.val 18 ?_ rfl (by kernel_rfl) (by kernel_rfl) (by kernel_rfl) (fun _ _ _ h => h) (by kernel_rfl) ?_ ?_; rotate_left 1; focus (intro w hw; go_simp; with_reducible rfl)); (try simp (config := {maxSteps := 2000000}) only [Act.put, List.getElem_toArray, List.getElem_cons_succ, List.getElem_cons_zero, List.setIfInBounds_toArray, List.set_cons_zero, List.set_cons_succ])
  refine Lx.done (by kernel_rfl) ?_
  intro _
  clear hTT hTl
  go_wp2_with fail
  go_ret
  exact ⟨_, _, rfl, hFz, hK10⟩
set_option maxRecDepth 100000 in
set_option maxHeartbeats 2000000 in
theorem rh_no (seed : List Int) (d : Ad) (x : List Int) (y : List Int) (A : Option Addr) (A' : Option Addr) (Ay : Option Addr) (n c n' c' ny cy : Nat) (w : World) (hd : d.ok) (h1 : Rd w w.heap.size .u8 A seed) (hn : seed.length = n) (hc : n ≤ c) (hb : Bys seed) (h2 : Rd w w.heap.size .u8 A' x) (hn' : x.length = n') (hc' : n' ≤ c') (hb2 : Bys x) (h3 : Rd w w.heap.size .u8 Ay y) (hn2 : y.length = ny) (hc2_ : ny ≤ cy) (hb3 : Bys y) (hok : ¬ (n = 32 ∧ n' = 32 ∧ ny = 32)) :
    Calls Tryd.prog 40 #[.slice A n c, .agg d.cs, .slice A' n' c', .slice Ay ny cy] w (NilP w) := by
  have hX := Blk.new w 46 d.cs
  have hK0 := bal (Below.refl w.heap.size w) (Nat.le_refl _) (.cells d.cs 46)
  have hl0 := hX.lt
  have hmx : (200000000 : Nat) ≤ maxLen := by decide
  go_enter Tryd.func40, Tryd.ntmps40
  go_upto_region 1 with fail
  change Code.wp _ _ _ _ (w.alloc (.cells d.cs 46))
  generalize w.alloc (.cells d.cs 46) = w0 at hX hK0 hl0 ⊢
  by_cases q0 : n = 32
  · have e0 : ((n : Int) != 32) = false := by simp; omega
    by_cases q1 : n' = 32
    · have e1 : ((n' : Int) != 32) = false := by simp; omega
      by_cases q2 : ny = 32
      · exact absurd ⟨q0, q1, q2⟩ hok
      · have e2 : ((ny : Int) != 32) = true := by simp; omega
        go_wp2_with fail
        go_ret
        exact ⟨rfl, hK0⟩
    · have e1 : ((n' : Int) != 32) = true := by simp; omega
      go_wp2_with fail
      go_ret
      exact ⟨rfl, hK0⟩
  · have e0 : ((n : Int) != 32) = true := by simp; omega
    go_wp2_with fail
    go_ret
    exact ⟨rfl, hK0⟩
end Go.Proofs.YtfaonieaagepjaaDoor
