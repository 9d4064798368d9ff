/- Layer 14, the reference: addresses as bytes, walked. Conditions: numbers of their kinds. -/
import Derived.Test.YtfaonieaagepjaaDoorA4B
namespace Go.Proofs.YtfaonieaagepjaaDoor
open Go.RowKit
set_option linter.unusedVariables false
set_option linter.unusedSimpArgs false
theorem rput8 (v : Int) (w : World) (h0 : 0 ≤ v) (h1 : v < 18446744073709551616) : Calls Tryd.prog 60 #[.int .u64 v, .int .i64 8] w (PutPost w v 8) := rput_any v 8 w (by decide) h0 h1
set_option maxRecDepth 100000 in
set_option maxHeartbeats 2000000 in
theorem rbytes_any (d : Ad) (k : Int) (w : World) (hd : d.ok) (hk : W32 k) :
    Calls Tryd.prog 30 #[.agg d.cs, .int .u32 k] w (OutP w (adB d k) 32) := by
  have hX := Blk.new w 46 d.cs
  have hK0 := bal (Below.refl w.heap.size w) (Nat.le_refl _) (.cells d.cs 46)
  have hl0 := hX.lt
  go_enter Tryd.func30, Tryd.ntmps30
  go_upto_region 1 with fail
  change Code.wp _ _ _ _ (w.alloc (.cells d.cs 46))
  obtain ⟨b, hb_⟩ : ∃ b, w.heap.size = b := ⟨_, rfl⟩
  generalize w.alloc (.cells d.cs 46) = w0 at hX hK0 hl0 ⊢
  rw [show Blk w0 w.heap.size 46 d.cs = Blk w0 b 46 d.cs by rw [hb_]] at hX
  rw [show (w.heap.size < w0.heap.size) = (b < w0.heap.size) by rw [hb_]] at hl0
  refine Lx.enter (fun w' => Blk w' b 46 d.cs) 23 (by kernel_rfl) (by kernel_rfl) hX.drew ?_
  (refine Lx.val 0 ?_ rfl (by kernel_rfl) (by kernel_rfl) (by kernel_rfl) (fun _ _ _ h => h) (by kernel_rfl) ?_ ?_; rotate_left 1; focus (intro w hw; go_simp; with_reducible rfl)); (try simp (config := {maxSteps := 2000000}) only [Act.put, List.getElem_toArray, List.getElem_cons_succ, List.getElem_cons_zero, List.setIfInBounds_toArray, List.set_cons_zero, List.set_cons_succ])
  (refine Lx.val 1 ?_ rfl (by kernel_rfl) (by kernel_rfl) (by kernel_rfl) (fun _ _ _ h => h) (by kernel_rfl) ?_ ?_; rotate_left 1; focus (intro w hw; have hcell := hw.cell 0 _ rfl; go_simp; with_reducible rfl)); (try simp (config := {maxSteps := 2000000}) only [Act.put, List.getElem_toArray, List.getElem_cons_succ, List.getElem_cons_zero, List.setIfInBounds_toArray, List.set_cons_zero, List.set_cons_succ])
  (refine Lx.val 3 ?_ rfl (by kernel_rfl) (by kernel_rfl) (by kernel_rfl) (fun _ _ _ h => h) (by kernel_rfl) ?_ ?_; rotate_left 1; focus (intro w hw; go_simp; with_reducible rfl)); (try simp (config := {maxSteps := 2000000}) only [Act.put, List.getElem_toArray, List.getElem_cons_succ, List.getElem_cons_zero, List.setIfInBounds_toArray, List.set_cons_zero, List.set_cons_succ])
  (refine Lx.val 4 ?_ rfl (by kernel_rfl) (by kernel_rfl) (by kernel_rfl) (fun _ _ _ h => h) (by kernel_rfl) ?_ ?_; rotate_left 1; focus (intro w hw; have hcell := hw.cell 1 _ rfl; go_simp; with_reducible rfl)); (try simp (config := {maxSteps := 2000000}) only [Act.put, List.getElem_toArray, List.getElem_cons_succ, List.getElem_cons_zero, List.setIfInBounds_toArray, List.set_cons_zero, List.set_cons_succ])
  (refine Lx.val 6 ?_ rfl (by kernel_rfl) (by kernel_rfl) (by kernel_rfl) (fun _ _ _ h => h) (by kernel_rfl) ?_ ?_; rotate_left 1; focus (intro w hw; go_simp; with_reducible rfl)); (try simp (config := {maxSteps := 2000000}) only [Act.put, List.getElem_toArray, List.getElem_cons_succ, List.getElem_cons_zero, List.setIfInBounds_toArray, List.set_cons_zero, List.set_cons_succ])
  (refine Lx.val 7 ?_ rfl (by kernel_rfl) (by kernel_rfl) (by kernel_rfl) (fun _ _ _ h => h) (by kernel_rfl) ?_ ?_; rotate_left 1; focus (intro w hw; have hcell := hw.cell 2 _ rfl; go_simp; with_reducible rfl)); (try simp (config := {maxSteps := 2000000}) only [Act.put, List.getElem_toArray, List.getElem_cons_succ, List.getElem_cons_zero, List.setIfInBounds_toArray, List.set_cons_zero, List.set_cons_succ])
  (refine Lx.val 9 ?_ rfl (by kernel_rfl) (by kernel_rfl) (by kernel_rfl) (fun _ _ _ h => h) (by kernel_rfl) ?_ ?_; rotate_left 1; focus (intro w hw; go_simp; with_reducible rfl)); (try simp (config := {maxSteps := 2000000}) only [Act.put, List.getElem_toArray, List.getElem_cons_succ, List.getElem_cons_zero, List.setIfInBounds_toArray, List.set_cons_zero, List.set_cons_succ])
  (refine Lx.val 10 ?_ rfl (by kernel_rfl) (by kernel_rfl) (by kernel_rfl) (fun _ _ _ h => h) (by kernel_rfl) ?_ ?_; rotate_left 1; focus (intro w hw; have hcell := hw.cell 3 _ rfl; go_simp; with_reducible rfl)); (try simp (config := {maxSteps := 2000000}) only [Act.put, List.getElem_toArray, List.getElem_cons_succ, List.getElem_cons_zero, List.setIfInBounds_toArray, List.set_cons_zero, List.set_cons_succ])
  (refine Lx.val 12 ?_ rfl (by kernel_rfl) (by kernel_rfl) (by kernel_rfl) (fun _ _ _ h => h) (by kernel_rfl) ?_ ?_; rotate_left 1; focus (intro w hw; go_simp; with_reducible rfl)); (try simp (config := {maxSteps := 2000000}) only [Act.put, List.getElem_toArray, List.getElem_cons_succ, List.getElem_cons_zero, List.setIfInBounds_toArray, List.set_cons_zero, List.set_cons_succ])
  (refine Lx.val 13 ?_ rfl (by kernel_rfl) (by kernel_rfl) (by kernel_rfl) (fun _ _ _ h => h) (by kernel_rfl) ?_ ?_; rotate_left 1; focus (intro w hw; have hcell := hw.cell 4 _ rfl; go_simp; with_reducible rfl)); (try simp (config := {maxSteps := 2000000}) only [Act.put, List.getElem_toArray, List.getElem_cons_succ, List.getElem_cons_zero, List.setIfInBounds_toArray, List.set_cons_zero, List.set_cons_succ])
  (refine Lx.val 15 ?_ rfl (by kernel_rfl) (by kernel_rfl) (by kernel_rfl) (fun _ _ _ h => h) (by kernel_rfl) ?_ ?_; rotate_left 1; focus (intro w hw; go_simp; with_reducible rfl)); (try simp (config := {maxSteps := 2000000}) only [Act.put, List.getElem_toArray, List.getElem_cons_succ, List.getElem_cons_zero, List.setIfInBounds_toArray, List.set_cons_zero, List.set_cons_succ])
  (refine Lx.val 16 ?_ rfl (by kernel_rfl) (by kernel_rfl) (by kernel_rfl) (fun _ _ _ h => h) (by kernel_rfl) ?_ ?_; rotate_left 1; focus (intro w hw; have hcell := hw.cell 5 _ rfl; go_simp; with_reducible rfl)); (try simp (config := {maxSteps := 2000000}) only [Act.put, List.getElem_toArray, List.getElem_cons_succ, List.getElem_cons_zero, List.setIfInBounds_toArray, List.set_cons_zero, List.set_cons_succ])
  (refine Lx.val 18 ?_ rfl (by kernel_rfl) (by kernel_rfl) (by kernel_rfl) (fun _ _ _ h => h) (by kernel_rfl) ?_ ?_; rotate_left 1; focus (intro w hw; go_simp; with_reducible rfl)); (try simp (config := {maxSteps := 2000000}) only [Act.put, List.getElem_toArray, List.getElem_cons_succ, List.getElem_cons_zero, List.setIfInBounds_toArray, List.set_cons_zero, List.set_cons_succ])
  have hK1 := bdw hK0
  have hcx_1 := hX.drew
  have hlx_1 := (show _ < w0.drew.heap.size from hl0)
  generalize w0.drew = v1 at hK1 hcx_1 hlx_1 ⊢
  clear hK0 hX hl0
  refine Lx.call 2 rfl (by kernel_rfl) (by kernel_rfl) (by kernel_rfl) (fun _ => (word_any (d.la) v1 hd.la).mono ?_)
  rintro e v2 ⟨A2, c2, rfl, hF2, hb2⟩
  have hK2 := bnx hK1 hb2 hK1.size
  have hcx_2 := hcx_1.below hb2 hlx_1
  have hlx_2 := Nat.lt_of_lt_of_le hlx_1 hb2.size
  have hcp0 : 4 ≤ c2 := by have := hF2.cap; rw [putL_len] at this; exact this
  refine ⟨_, rfl, hcx_2, ?_⟩
  (try simp only [Act.put, List.getElem_toArray, List.getElem_cons_succ, List.getElem_cons_zero, List.setIfInBounds_toArray, List.set_cons_zero, List.set_cons_succ])
  have hRp0 := hF2.rd
  have hBp0_2 := Below.refl v2.heap.size v2
  clear hK1 hcx_1 hlx_1 hb2 hF2
  refine Lx.call 5 rfl (by kernel_rfl) (by kernel_rfl) (by kernel_rfl) (fun _ => (rput8 d.tr v2 hd.tr.1 hd.tr.2).mono ?_)
  rintro e v3 ⟨A3, c3, rfl, hO3, hb3⟩
  have hK3 := bnx hK2 hb3 hK2.size
  have hBp0_3 := bnx hBp0_2 hb3 hBp0_2.size
  have hcx_3 := hcx_2.below hb3 hlx_2
  have hlx_3 := Nat.lt_of_lt_of_le hlx_2 hb3.size
  have hcp1 : 8 ≤ c3 := by have := hO3.len.2; rw [putL_len] at this; exact this
  refine ⟨_, rfl, hcx_3, ?_⟩
  (try simp only [Act.put, List.getElem_toArray, List.getElem_cons_succ, List.getElem_cons_zero, List.setIfInBounds_toArray, List.set_cons_zero, List.set_cons_succ])
  have hRp1 := hO3.rd
  have hBp1_3 := Below.refl v3.heap.size v3
  clear hK2 hBp0_2 hcx_2 hlx_2 hb3 hO3
  refine Lx.call 8 rfl (by kernel_rfl) (by kernel_rfl) (by kernel_rfl) (fun _ => (word_any (d.kd) v3 hd.kd).mono ?_)
  rintro e v4 ⟨A4, c4, rfl, hF4, hb4⟩
  have hK4 := bnx hK3 hb4 hK3.size
  have hBp0_4 := bnx hBp0_3 hb4 hBp0_3.size
  have hBp1_4 := bnx hBp1_3 hb4 hBp1_3.size
  have hcx_4 := hcx_3.below hb4 hlx_3
  have hlx_4 := Nat.lt_of_lt_of_le hlx_3 hb4.size
  have hcp2 : 4 ≤ c4 := by have := hF4.cap; rw [putL_len] at this; exact this
  refine ⟨_, rfl, hcx_4, ?_⟩
  (try simp only [Act.put, List.getElem_toArray, List.getElem_cons_succ, List.getElem_cons_zero, List.setIfInBounds_toArray, List.set_cons_zero, List.set_cons_succ])
  have hRp2 := hF4.rd
  have hBp2_4 := Below.refl v4.heap.size v4
  clear hK3 hBp0_3 hBp1_3 hcx_3 hlx_3 hb4 hF4
  refine Lx.call 11 rfl (by kernel_rfl) (by kernel_rfl) (by kernel_rfl) (fun _ => (word_any (d.a) v4 hd.a).mono ?_)
  rintro e v5 ⟨A5, c5, rfl, hF5, hb5⟩
  have hK5 := bnx hK4 hb5 hK4.size
  have hBp0_5 := bnx hBp0_4 hb5 hBp0_4.size
  have hBp1_5 := bnx hBp1_4 hb5 hBp1_4.size
  have hBp2_5 := bnx hBp2_4 hb5 hBp2_4.size
  have hcx_5 := hcx_4.below hb5 hlx_4
  have hlx_5 := Nat.lt_of_lt_of_le hlx_4 hb5.size
  have hcp3 : 4 ≤ c5 := by have := hF5.cap; rw [putL_len] at this; exact this
  refine ⟨_, rfl, hcx_5, ?_⟩
  (try simp only [Act.put, List.getElem_toArray, List.getElem_cons_succ, List.getElem_cons_zero, List.setIfInBounds_toArray, List.set_cons_zero, List.set_cons_succ])
  have hRp3 := hF5.rd
  have hBp3_5 := Below.refl v5.heap.size v5
  clear hK4 hBp0_4 hBp1_4 hBp2_4 hcx_4 hlx_4 hb5 hF5
  refine Lx.call 14 rfl (by kernel_rfl) (by kernel_rfl) (by kernel_rfl) (fun _ => (word_any (d.b) v5 hd.b).mono ?_)
  rintro e v6 ⟨A6, c6, rfl, hF6, hb6⟩
  have hK6 := bnx hK5 hb6 hK5.size
  have hBp0_6 := bnx hBp0_5 hb6 hBp0_5.size
  have hBp1_6 := bnx hBp1_5 hb6 hBp1_5.size
  have hBp2_6 := bnx hBp2_5 hb6 hBp2_5.size
  have hBp3_6 := bnx hBp3_5 hb6 hBp3_5.size
  have hcx_6 := hcx_5.below hb6 hlx_5
  have hlx_6 := Nat.lt_of_lt_of_le hlx_5 hb6.size
  have hcp4 : 4 ≤ c6 := by have := hF6.cap; rw [putL_len] at this; exact this
  refine ⟨_, rfl, hcx_6, ?_⟩
  (try simp only [Act.put, List.getElem_toArray, List.getElem_cons_succ, List.getElem_cons_zero, List.setIfInBounds_toArray, List.set_cons_zero, List.set_cons_succ])
  have hRp4 := hF6.rd
  have hBp4_6 := Below.refl v6.heap.size v6
  clear hK5 hBp0_5 hBp1_5 hBp2_5 hBp3_5 hcx_5 hlx_5 hb6 hF6
  refine Lx.call 17 rfl (by kernel_rfl) (by kernel_rfl) (by kernel_rfl) (fun _ => (word_any (d.c) v6 hd.c).mono ?_)
  rintro e v7 ⟨A7, c7, rfl, hF7, hb7⟩
  have hK7 := bnx hK6 hb7 hK6.size
  have hBp0_7 := bnx hBp0_6 hb7 hBp0_6.size
  have hBp1_7 := bnx hBp1_6 hb7 hBp1_6.size
  have hBp2_7 := bnx hBp2_6 hb7 hBp2_6.size
  have hBp3_7 := bnx hBp3_6 hb7 hBp3_6.size
  have hBp4_7 := bnx hBp4_6 hb7 hBp4_6.size
  have hcx_7 := hcx_6.below hb7 hlx_6
  have hlx_7 := Nat.lt_of_lt_of_le hlx_6 hb7.size
  have hcp5 : 4 ≤ c7 := by have := hF7.cap; rw [putL_len] at this; exact this
  refine ⟨_, rfl, hcx_7, ?_⟩
  (try simp only [Act.put, List.getElem_toArray, List.getElem_cons_succ, List.getElem_cons_zero, List.setIfInBounds_toArray, List.set_cons_zero, List.set_cons_succ])
  have hRp5 := hF7.rd
  have hBp5_7 := Below.refl v7.heap.size v7
  clear hK6 hBp0_6 hBp1_6 hBp2_6 hBp3_6 hBp4_6 hcx_6 hlx_6 hb7 hF7
  refine Lx.call 19 rfl (by kernel_rfl) (by kernel_rfl) (by kernel_rfl) (fun _ => (word_any (k) v7 hk).mono ?_)
  rintro e v8 ⟨A8, c8, rfl, hF8, hb8⟩
  have hK8 := bnx hK7 hb8 hK7.size
  have hBp0_8 := bnx hBp0_7 hb8 hBp0_7.size
  have hBp1_8 := bnx hBp1_7 hb8 hBp1_7.size
  have hBp2_8 := bnx hBp2_7 hb8 hBp2_7.size
  have hBp3_8 := bnx hBp3_7 hb8 hBp3_7.size
  have hBp4_8 := bnx hBp4_7 hb8 hBp4_7.size
  have hBp5_8 := bnx hBp5_7 hb8 hBp5_7.size
  have hcx_8 := hcx_7.below hb8 hlx_7
  have hlx_8 := Nat.lt_of_lt_of_le hlx_7 hb8.size
  have hcp6 : 4 ≤ c8 := by have := hF8.cap; rw [putL_len] at this; exact this
  refine ⟨_, rfl, hcx_8, ?_⟩
  (try simp only [Act.put, List.getElem_toArray, List.getElem_cons_succ, List.getElem_cons_zero, List.setIfInBounds_toArray, List.set_cons_zero, List.set_cons_succ])
  have hRp6 := hF8.rd
  have hBp6_8 := Below.refl v8.heap.size v8
  clear hK7 hBp0_7 hBp1_7 hBp2_7 hBp3_7 hBp4_7 hBp5_7 hcx_7 hlx_7 hb8 hF8
  have hP := parts_of (w := v8) (T := 24) [.slice A2 4 c2, .slice A3 8 c3, .slice A4 4 c4, .slice A5 4 c5, .slice A6 4 c6, .slice A7 4 c7, .slice A8 4 c8] [putL d.la 4, putL d.tr 8, putL d.kd 4, putL d.a 4, putL d.b 4, putL d.c 4, putL k 4] rfl (fun i hi => match i, hi with | 0, _ => (hRp0.bel hBp0_8).pt (putL_len _ _) hcp0 | 1, _ => (hRp1.bel hBp1_8).pt (putL_len _ _) hcp1 | 2, _ => (hRp2.bel hBp2_8).pt (putL_len _ _) hcp2 | 3, _ => (hRp3.bel hBp3_8).pt (putL_len _ _) hcp3 | 4, _ => (hRp4.bel hBp4_8).pt (putL_len _ _) hcp4 | 5, _ => (hRp5.bel hBp5_8).pt (putL_len _ _) hcp5 | 6, _ => (hRp6.bel hBp6_8).pt (putL_len _ _) hcp6 | m + 7, h => absurd h (by simp))
  have hz9 : (v8.alloc (.cells #[.slice A2 4 c2, .slice A3 8 c3, .slice A4 4 c4, .slice A5 4 c5, .slice A6 4 c6, .slice A7 4 c7, .slice A8 4 c8] 24)).heap.size = v8.heap.size + 1 := by simp
  have hK9 := bal hK8 hK8.size (.cells #[.slice A2 4 c2, .slice A3 8 c3, .slice A4 4 c4, .slice A5 4 c5, .slice A6 4 c6, .slice A7 4 c7, .slice A8 4 c8] 24)
  have hBp0_9 := bal hBp0_8 hBp0_8.size (.cells #[.slice A2 4 c2, .slice A3 8 c3, .slice A4 4 c4, .slice A5 4 c5, .slice A6 4 c6, .slice A7 4 c7, .slice A8 4 c8] 24)
  have hBp1_9 := bal hBp1_8 hBp1_8.size (.cells #[.slice A2 4 c2, .slice A3 8 c3, .slice A4 4 c4, .slice A5 4 c5, .slice A6 4 c6, .slice A7 4 c7, .slice A8 4 c8] 24)
  have hBp2_9 := bal hBp2_8 hBp2_8.size (.cells #[.slice A2 4 c2, .slice A3 8 c3, .slice A4 4 c4, .slice A5 4 c5, .slice A6 4 c6, .slice A7 4 c7, .slice A8 4 c8] 24)
  have hBp3_9 := bal hBp3_8 hBp3_8.size (.cells #[.slice A2 4 c2, .slice A3 8 c3, .slice A4 4 c4, .slice A5 4 c5, .slice A6 4 c6, .slice A7 4 c7, .slice A8 4 c8] 24)
  have hBp4_9 := bal hBp4_8 hBp4_8.size (.cells #[.slice A2 4 c2, .slice A3 8 c3, .slice A4 4 c4, .slice A5 4 c5, .slice A6 4 c6, .slice A7 4 c7, .slice A8 4 c8] 24)
  have hBp5_9 := bal hBp5_8 hBp5_8.size (.cells #[.slice A2 4 c2, .slice A3 8 c3, .slice A4 4 c4, .slice A5 4 c5, .slice A6 4 c6, .slice A7 4 c7, .slice A8 4 c8] 24)
  have hBp6_9 := bal hBp6_8 hBp6_8.size (.cells #[.slice A2 4 c2, .slice A3 8 c3, .slice A4 4 c4, .slice A5 4 c5, .slice A6 4 c6, .slice A7 4 c7, .slice A8 4 c8] 24)
  have hcx_9 := hcx_8.alloc (.cells #[.slice A2 4 c2, .slice A3 8 c3, .slice A4 4 c4, .slice A5 4 c5, .slice A6 4 c6, .slice A7 4 c7, .slice A8 4 c8] 24)
  have hlx_9 := Nat.lt_of_lt_of_le hlx_8 (al_le v8 (.cells #[.slice A2 4 c2, .slice A3 8 c3, .slice A4 4 c4, .slice A5 4 c5, .slice A6 4 c6, .slice A7 4 c7, .slice A8 4 c8] 24))
  refine Lx.made (w' := v8.alloc (.cells #[.slice A2 4 c2, .slice A3 8 c3, .slice A4 4 c4, .slice A5 4 c5, .slice A6 4 c6, .slice A7 4 c7, .slice A8 4 c8] 24)) 20 (.slice (some ⟨v8.heap.size, 0, none⟩) 7 7) rfl (by kernel_rfl) (by kernel_rfl) (by kernel_rfl) (fun _ => hcx_9) ?_
  (try simp only [Act.put, List.getElem_toArray, List.getElem_cons_succ, List.getElem_cons_zero, List.setIfInBounds_toArray, List.set_cons_zero, List.set_cons_succ])
  generalize v8.alloc (.cells #[.slice A2 4 c2, .slice A3 8 c3, .slice A4 4 c4, .slice A5 4 c5, .slice A6 4 c6, .slice A7 4 c7, .slice A8 4 c8] 24) = v9 at hK9 hBp0_9 hBp1_9 hBp2_9 hBp3_9 hBp4_9 hBp5_9 hBp6_9 hcx_9 hlx_9 hz9 hP ⊢
  clear hK8 hBp0_8 hBp1_8 hBp2_8 hBp3_8 hBp4_8 hBp5_8 hBp6_8 hcx_8 hlx_8
  clear hRp0 hBp0_9
  clear hRp1 hBp1_9
  clear hRp2 hBp2_9
  clear hRp3 hBp3_9
  clear hRp4 hBp4_9
  clear hRp5 hBp5_9
  clear hRp6 hBp6_9
  have hKz := hK9
  refine Lx.call 21 rfl (by kernel_rfl) (by kernel_rfl) (by kernel_rfl) (fun _ => (rcat_any v9 (some ⟨v8.heap.size, 0, none⟩) 7 (v8.heap.size + 1) 7 [putL d.la 4, putL d.tr 8, putL d.kd 4, putL d.a 4, putL d.b 4, putL d.c 4, putL k 4] (adB d k) (adB_put d k) hP rfl (by omega) (by omega) (by rw [adB_len]; omega)).mono ?_)
  rintro e v10 ⟨A10, c10, rfl, hF10, hb10⟩
  have hK10 := bnx hK9 hb10 hK9.size
  have hcx_10 := hcx_9.below hb10 hlx_9
  have hlx_10 := Nat.lt_of_lt_of_le hlx_9 hb10.size
  rw [adB_len]
  have hFz := hF10
  refine ⟨_, rfl, hcx_10, ?_⟩
  (try simp only [Act.put, List.getElem_toArray, List.getElem_cons_succ, List.getElem_cons_zero, List.setIfInBounds_toArray, List.set_cons_zero, List.set_cons_succ])
  clear hK9 hcx_9 hlx_9 hb10 hF10 hP
  (refine Lx.val 22 ?_ rfl (by kernel_rfl) (by kernel_rfl) (by kernel_rfl) (fun _ _ _ h => h) (by kernel_rfl) ?_ ?_; rotate_left 1; focus (intro w hw; go_simp; with_reducible rfl)); (try simp (config := {maxSteps := 2000000}) only [Act.put, List.getElem_toArray, List.getElem_cons_succ, List.getElem_cons_zero, List.setIfInBounds_toArray, List.set_cons_zero, List.set_cons_succ])
  refine Lx.done (by kernel_rfl) ?_
  intro _
  go_wp2_with fail
  go_ret
  exact ⟨_, _, rfl, hFz.low (by have := hKz.size; omega), hK10⟩
set_option maxRecDepth 100000 in
set_option maxHeartbeats 2000000 in
theorem rplain_any (d : Ad) (w : World) (hd : d.ok) :
    Calls Tryd.prog 32 #[.agg d.cs] w (OutP w (adP d) 32) := by
  have hX := Blk.new w 46 d.cs
  have hK0 := bal (Below.refl w.heap.size w) (Nat.le_refl _) (.cells d.cs 46)
  have hl0 := hX.lt
  go_enter Tryd.func32, Tryd.ntmps32
  go_upto_region 1 with fail
  change Code.wp _ _ _ _ (w.alloc (.cells d.cs 46))
  obtain ⟨b, hb_⟩ : ∃ b, w.heap.size = b := ⟨_, rfl⟩
  generalize w.alloc (.cells d.cs 46) = w0 at hX hK0 hl0 ⊢
  rw [show Blk w0 w.heap.size 46 d.cs = Blk w0 b 46 d.cs by rw [hb_]] at hX
  rw [show (w.heap.size < w0.heap.size) = (b < w0.heap.size) by rw [hb_]] at hl0
  refine Lx.enter (fun w' => Blk w' b 46 d.cs) 22 (by kernel_rfl) (by kernel_rfl) hX.drew ?_
  (refine Lx.val 0 ?_ rfl (by kernel_rfl) (by kernel_rfl) (by kernel_rfl) (fun _ _ _ h => h) (by kernel_rfl) ?_ ?_; rotate_left 1; focus (intro w hw; go_simp; with_reducible rfl)); (try simp (config := {maxSteps := 2000000}) only [Act.put, List.getElem_toArray, List.getElem_cons_succ, List.getElem_cons_zero, List.setIfInBounds_toArray, List.set_cons_zero, List.set_cons_succ])
  (refine Lx.val 1 ?_ rfl (by kernel_rfl) (by kernel_rfl) (by kernel_rfl) (fun _ _ _ h => h) (by kernel_rfl) ?_ ?_; rotate_left 1; focus (intro w hw; have hcell := hw.cell 0 _ rfl; go_simp; with_reducible rfl)); (try simp (config := {maxSteps := 2000000}) only [Act.put, List.getElem_toArray, List.getElem_cons_succ, List.getElem_cons_zero, List.setIfInBounds_toArray, List.set_cons_zero, List.set_cons_succ])
  (refine Lx.val 4 ?_ rfl (by kernel_rfl) (by kernel_rfl) (by kernel_rfl) (fun _ _ _ h => h) (by kernel_rfl) ?_ ?_; rotate_left 1; focus (intro w hw; go_simp; with_reducible rfl)); (try simp (config := {maxSteps := 2000000}) only [Act.put, List.getElem_toArray, List.getElem_cons_succ, List.getElem_cons_zero, List.setIfInBounds_toArray, List.set_cons_zero, List.set_cons_succ])
  (refine Lx.val 5 ?_ rfl (by kernel_rfl) (by kernel_rfl) (by kernel_rfl) (fun _ _ _ h => h) (by kernel_rfl) ?_ ?_; rotate_left 1; focus (intro w hw; have hcell := hw.cell 1 _ rfl; go_simp; with_reducible rfl)); (try simp (config := {maxSteps := 2000000}) only [Act.put, List.getElem_toArray, List.getElem_cons_succ, List.getElem_cons_zero, List.setIfInBounds_toArray, List.set_cons_zero, List.set_cons_succ])
  (refine Lx.val 7 ?_ rfl (by kernel_rfl) (by kernel_rfl) (by kernel_rfl) (fun _ _ _ h => h) (by kernel_rfl) ?_ ?_; rotate_left 1; focus (intro w hw; go_simp; with_reducible rfl)); (try simp (config := {maxSteps := 2000000}) only [Act.put, List.getElem_toArray, List.getElem_cons_succ, List.getElem_cons_zero, List.setIfInBounds_toArray, List.set_cons_zero, List.set_cons_succ])
  (refine Lx.val 8 ?_ rfl (by kernel_rfl) (by kernel_rfl) (by kernel_rfl) (fun _ _ _ h => h) (by kernel_rfl) ?_ ?_; rotate_left 1; focus (intro w hw; have hcell := hw.cell 2 _ rfl; go_simp; with_reducible rfl)); (try simp (config := {maxSteps := 2000000}) only [Act.put, List.getElem_toArray, List.getElem_cons_succ, List.getElem_cons_zero, List.setIfInBounds_toArray, List.set_cons_zero, List.set_cons_succ])
  (refine Lx.val 10 ?_ rfl (by kernel_rfl) (by kernel_rfl) (by kernel_rfl) (fun _ _ _ h => h) (by kernel_rfl) ?_ ?_; rotate_left 1; focus (intro w hw; go_simp; with_reducible rfl)); (try simp (config := {maxSteps := 2000000}) only [Act.put, List.getElem_toArray, List.getElem_cons_succ, List.getElem_cons_zero, List.setIfInBounds_toArray, List.set_cons_zero, List.set_cons_succ])
  (refine Lx.val 11 ?_ rfl (by kernel_rfl) (by kernel_rfl) (by kernel_rfl) (fun _ _ _ h => h) (by kernel_rfl) ?_ ?_; rotate_left 1; focus (intro w hw; have hcell := hw.cell 3 _ rfl; go_simp; with_reducible rfl)); (try simp (config := {maxSteps := 2000000}) only [Act.put, List.getElem_toArray, List.getElem_cons_succ, List.getElem_cons_zero, List.setIfInBounds_toArray, List.set_cons_zero, List.set_cons_succ])
  (refine Lx.val 13 ?_ rfl (by kernel_rfl) (by kernel_rfl) (by kernel_rfl) (fun _ _ _ h => h) (by kernel_rfl) ?_ ?_; rotate_left 1; focus (intro w hw; go_simp; with_reducible rfl)); (try simp (config := {maxSteps := 2000000}) only [Act.put, List.getElem_toArray, List.getElem_cons_succ, List.getElem_cons_zero, List.setIfInBounds_toArray, List.set_cons_zero, List.set_cons_succ])
  (refine Lx.val 14 ?_ rfl (by kernel_rfl) (by kernel_rfl) (by kernel_rfl) (fun _ _ _ h => h) (by kernel_rfl) ?_ ?_; rotate_left 1; focus (intro w hw; have hcell := hw.cell 4 _ rfl; go_simp; with_reducible rfl)); (try simp (config := {maxSteps := 2000000}) only [Act.put, List.getElem_toArray, List.getElem_cons_succ, List.getElem_cons_zero, List.setIfInBounds_toArray, List.set_cons_zero, List.set_cons_succ])
  (refine Lx.val 16 ?_ rfl (by kernel_rfl) (by kernel_rfl) (by kernel_rfl) (fun _ _ _ h => h) (by kernel_rfl) ?_ ?_; rotate_left 1; focus (intro w hw; go_simp; with_reducible rfl)); (try simp (config := {maxSteps := 2000000}) only [Act.put, List.getElem_toArray, List.getElem_cons_succ, List.getElem_cons_zero, List.setIfInBounds_toArray, List.set_cons_zero, List.set_cons_succ])
  (refine Lx.val 17 ?_ rfl (by kernel_rfl) (by kernel_rfl) (by kernel_rfl) (fun _ _ _ h => h) (by kernel_rfl) ?_ ?_; rotate_left 1; focus (intro w hw; have hcell := hw.cell 5 _ rfl; go_simp; with_reducible rfl)); (try simp (config := {maxSteps := 2000000}) only [Act.put, List.getElem_toArray, List.getElem_cons_succ, List.getElem_cons_zero, List.setIfInBounds_toArray, List.set_cons_zero, List.set_cons_succ])
  have hK1 := bdw hK0
  have hcx_1 := hX.drew
  have hlx_1 := (show _ < w0.drew.heap.size from hl0)
  generalize w0.drew = v1 at hK1 hcx_1 hlx_1 ⊢
  clear hK0 hX hl0
  refine Lx.call 2 rfl (by kernel_rfl) (by kernel_rfl) (by kernel_rfl) (fun _ => (word_any (d.la) v1 hd.la).mono ?_)
  rintro e v2 ⟨A2, c2, rfl, hF2, hb2⟩
  have hK2 := bnx hK1 hb2 hK1.size
  have hcx_2 := hcx_1.below hb2 hlx_1
  have hlx_2 := Nat.lt_of_lt_of_le hlx_1 hb2.size
  have hcp0 : 4 ≤ c2 := by have := hF2.cap; rw [putL_len] at this; exact this
  refine ⟨_, rfl, hcx_2, ?_⟩
  (try simp only [Act.put, List.getElem_toArray, List.getElem_cons_succ, List.getElem_cons_zero, List.setIfInBounds_toArray, List.set_cons_zero, List.set_cons_succ])
  have hRp0 := hF2.rd
  have hBp0_2 := Below.refl v2.heap.size v2
  clear hK1 hcx_1 hlx_1 hb2 hF2
  refine Lx.call 3 rfl (by kernel_rfl) (by kernel_rfl) (by kernel_rfl) (fun _ => (word_any (0) v2 W32.zero).mono ?_)
  rintro e v3 ⟨A3, c3, rfl, hF3, hb3⟩
  have hK3 := bnx hK2 hb3 hK2.size
  have hBp0_3 := bnx hBp0_2 hb3 hBp0_2.size
  have hcx_3 := hcx_2.below hb3 hlx_2
  have hlx_3 := Nat.lt_of_lt_of_le hlx_2 hb3.size
  have hcp1 : 4 ≤ c3 := by have := hF3.cap; rw [putL_len] at this; exact this
  refine ⟨_, rfl, hcx_3, ?_⟩
  (try simp only [Act.put, List.getElem_toArray, List.getElem_cons_succ, List.getElem_cons_zero, List.setIfInBounds_toArray, List.set_cons_zero, List.set_cons_succ])
  have hRp1 := hF3.rd
  have hBp1_3 := Below.refl v3.heap.size v3
  clear hK2 hBp0_2 hcx_2 hlx_2 hb3 hF3
  refine Lx.call 6 rfl (by kernel_rfl) (by kernel_rfl) (by kernel_rfl) (fun _ => (rput8 d.tr v3 hd.tr.1 hd.tr.2).mono ?_)
  rintro e v4 ⟨A4, c4, rfl, hO4, hb4⟩
  have hK4 := bnx hK3 hb4 hK3.size
  have hBp0_4 := bnx hBp0_3 hb4 hBp0_3.size
  have hBp1_4 := bnx hBp1_3 hb4 hBp1_3.size
  have hcx_4 := hcx_3.below hb4 hlx_3
  have hlx_4 := Nat.lt_of_lt_of_le hlx_3 hb4.size
  have hcp2 : 8 ≤ c4 := by have := hO4.len.2; rw [putL_len] at this; exact this
  refine ⟨_, rfl, hcx_4, ?_⟩
  (try simp only [Act.put, List.getElem_toArray, List.getElem_cons_succ, List.getElem_cons_zero, List.setIfInBounds_toArray, List.set_cons_zero, List.set_cons_succ])
  have hRp2 := hO4.rd
  have hBp2_4 := Below.refl v4.heap.size v4
  clear hK3 hBp0_3 hBp1_3 hcx_3 hlx_3 hb4 hO4
  refine Lx.call 9 rfl (by kernel_rfl) (by kernel_rfl) (by kernel_rfl) (fun _ => (word_any (d.kd) v4 hd.kd).mono ?_)
  rintro e v5 ⟨A5, c5, rfl, hF5, hb5⟩
  have hK5 := bnx hK4 hb5 hK4.size
  have hBp0_5 := bnx hBp0_4 hb5 hBp0_4.size
  have hBp1_5 := bnx hBp1_4 hb5 hBp1_4.size
  have hBp2_5 := bnx hBp2_4 hb5 hBp2_4.size
  have hcx_5 := hcx_4.below hb5 hlx_4
  have hlx_5 := Nat.lt_of_lt_of_le hlx_4 hb5.size
  have hcp3 : 4 ≤ c5 := by have := hF5.cap; rw [putL_len] at this; exact this
  refine ⟨_, rfl, hcx_5, ?_⟩
  (try simp only [Act.put, List.getElem_toArray, List.getElem_cons_succ, List.getElem_cons_zero, List.setIfInBounds_toArray, List.set_cons_zero, List.set_cons_succ])
  have hRp3 := hF5.rd
  have hBp3_5 := Below.refl v5.heap.size v5
  clear hK4 hBp0_4 hBp1_4 hBp2_4 hcx_4 hlx_4 hb5 hF5
  refine Lx.call 12 rfl (by kernel_rfl) (by kernel_rfl) (by kernel_rfl) (fun _ => (word_any (d.a) v5 hd.a).mono ?_)
  rintro e v6 ⟨A6, c6, rfl, hF6, hb6⟩
  have hK6 := bnx hK5 hb6 hK5.size
  have hBp0_6 := bnx hBp0_5 hb6 hBp0_5.size
  have hBp1_6 := bnx hBp1_5 hb6 hBp1_5.size
  have hBp2_6 := bnx hBp2_5 hb6 hBp2_5.size
  have hBp3_6 := bnx hBp3_5 hb6 hBp3_5.size
  have hcx_6 := hcx_5.below hb6 hlx_5
  have hlx_6 := Nat.lt_of_lt_of_le hlx_5 hb6.size
  have hcp4 : 4 ≤ c6 := by have := hF6.cap; rw [putL_len] at this; exact this
  refine ⟨_, rfl, hcx_6, ?_⟩
  (try simp only [Act.put, List.getElem_toArray, List.getElem_cons_succ, List.getElem_cons_zero, List.setIfInBounds_toArray, List.set_cons_zero, List.set_cons_succ])
  have hRp4 := hF6.rd
  have hBp4_6 := Below.refl v6.heap.size v6
  clear hK5 hBp0_5 hBp1_5 hBp2_5 hBp3_5 hcx_5 hlx_5 hb6 hF6
  refine Lx.call 15 rfl (by kernel_rfl) (by kernel_rfl) (by kernel_rfl) (fun _ => (word_any (d.b) v6 hd.b).mono ?_)
  rintro e v7 ⟨A7, c7, rfl, hF7, hb7⟩
  have hK7 := bnx hK6 hb7 hK6.size
  have hBp0_7 := bnx hBp0_6 hb7 hBp0_6.size
  have hBp1_7 := bnx hBp1_6 hb7 hBp1_6.size
  have hBp2_7 := bnx hBp2_6 hb7 hBp2_6.size
  have hBp3_7 := bnx hBp3_6 hb7 hBp3_6.size
  have hBp4_7 := bnx hBp4_6 hb7 hBp4_6.size
  have hcx_7 := hcx_6.below hb7 hlx_6
  have hlx_7 := Nat.lt_of_lt_of_le hlx_6 hb7.size
  have hcp5 : 4 ≤ c7 := by have := hF7.cap; rw [putL_len] at this; exact this
  refine ⟨_, rfl, hcx_7, ?_⟩
  (try simp only [Act.put, List.getElem_toArray, List.getElem_cons_succ, List.getElem_cons_zero, List.setIfInBounds_toArray, List.set_cons_zero, List.set_cons_succ])
  have hRp5 := hF7.rd
  have hBp5_7 := Below.refl v7.heap.size v7
  clear hK6 hBp0_6 hBp1_6 hBp2_6 hBp3_6 hBp4_6 hcx_6 hlx_6 hb7 hF7
  refine Lx.call 18 rfl (by kernel_rfl) (by kernel_rfl) (by kernel_rfl) (fun _ => (word_any (d.c) v7 hd.c).mono ?_)
  rintro e v8 ⟨A8, c8, rfl, hF8, hb8⟩
  have hK8 := bnx hK7 hb8 hK7.size
  have hBp0_8 := bnx hBp0_7 hb8 hBp0_7.size
  have hBp1_8 := bnx hBp1_7 hb8 hBp1_7.size
  have hBp2_8 := bnx hBp2_7 hb8 hBp2_7.size
  have hBp3_8 := bnx hBp3_7 hb8 hBp3_7.size
  have hBp4_8 := bnx hBp4_7 hb8 hBp4_7.size
  have hBp5_8 := bnx hBp5_7 hb8 hBp5_7.size
  have hcx_8 := hcx_7.below hb8 hlx_7
  have hlx_8 := Nat.lt_of_lt_of_le hlx_7 hb8.size
  have hcp6 : 4 ≤ c8 := by have := hF8.cap; rw [putL_len] at this; exact this
  refine ⟨_, rfl, hcx_8, ?_⟩
  (try simp only [Act.put, List.getElem_toArray, List.getElem_cons_succ, List.getElem_cons_zero, List.setIfInBounds_toArray, List.set_cons_zero, List.set_cons_succ])
  have hRp6 := hF8.rd
  have hBp6_8 := Below.refl v8.heap.size v8
  clear hK7 hBp0_7 hBp1_7 hBp2_7 hBp3_7 hBp4_7 hBp5_7 hcx_7 hlx_7 hb8 hF8
  have hP := parts_of (w := v8) (T := 24) [.slice A2 4 c2, .slice A3 4 c3, .slice A4 8 c4, .slice A5 4 c5, .slice A6 4 c6, .slice A7 4 c7, .slice A8 4 c8] [putL d.la 4, putL (0) 4, putL d.tr 8, putL d.kd 4, putL d.a 4, putL d.b 4, putL d.c 4] rfl (fun i hi => match i, hi with | 0, _ => (hRp0.bel hBp0_8).pt (putL_len _ _) hcp0 | 1, _ => (hRp1.bel hBp1_8).pt (putL_len _ _) hcp1 | 2, _ => (hRp2.bel hBp2_8).pt (putL_len _ _) hcp2 | 3, _ => (hRp3.bel hBp3_8).pt (putL_len _ _) hcp3 | 4, _ => (hRp4.bel hBp4_8).pt (putL_len _ _) hcp4 | 5, _ => (hRp5.bel hBp5_8).pt (putL_len _ _) hcp5 | 6, _ => (hRp6.bel hBp6_8).pt (putL_len _ _) hcp6 | m + 7, h => absurd h (by simp))
  have hz9 : (v8.alloc (.cells #[.slice A2 4 c2, .slice A3 4 c3, .slice A4 8 c4, .slice A5 4 c5, .slice A6 4 c6, .slice A7 4 c7, .slice A8 4 c8] 24)).heap.size = v8.heap.size + 1 := by simp
  have hK9 := bal hK8 hK8.size (.cells #[.slice A2 4 c2, .slice A3 4 c3, .slice A4 8 c4, .slice A5 4 c5, .slice A6 4 c6, .slice A7 4 c7, .slice A8 4 c8] 24)
  have hBp0_9 := bal hBp0_8 hBp0_8.size (.cells #[.slice A2 4 c2, .slice A3 4 c3, .slice A4 8 c4, .slice A5 4 c5, .slice A6 4 c6, .slice A7 4 c7, .slice A8 4 c8] 24)
  have hBp1_9 := bal hBp1_8 hBp1_8.size (.cells #[.slice A2 4 c2, .slice A3 4 c3, .slice A4 8 c4, .slice A5 4 c5, .slice A6 4 c6, .slice A7 4 c7, .slice A8 4 c8] 24)
  have hBp2_9 := bal hBp2_8 hBp2_8.size (.cells #[.slice A2 4 c2, .slice A3 4 c3, .slice A4 8 c4, .slice A5 4 c5, .slice A6 4 c6, .slice A7 4 c7, .slice A8 4 c8] 24)
  have hBp3_9 := bal hBp3_8 hBp3_8.size (.cells #[.slice A2 4 c2, .slice A3 4 c3, .slice A4 8 c4, .slice A5 4 c5, .slice A6 4 c6, .slice A7 4 c7, .slice A8 4 c8] 24)
  have hBp4_9 := bal hBp4_8 hBp4_8.size (.cells #[.slice A2 4 c2, .slice A3 4 c3, .slice A4 8 c4, .slice A5 4 c5, .slice A6 4 c6, .slice A7 4 c7, .slice A8 4 c8] 24)
  have hBp5_9 := bal hBp5_8 hBp5_8.size (.cells #[.slice A2 4 c2, .slice A3 4 c3, .slice A4 8 c4, .slice A5 4 c5, .slice A6 4 c6, .slice A7 4 c7, .slice A8 4 c8] 24)
  have hBp6_9 := bal hBp6_8 hBp6_8.size (.cells #[.slice A2 4 c2, .slice A3 4 c3, .slice A4 8 c4, .slice A5 4 c5, .slice A6 4 c6, .slice A7 4 c7, .slice A8 4 c8] 24)
  have hcx_9 := hcx_8.alloc (.cells #[.slice A2 4 c2, .slice A3 4 c3, .slice A4 8 c4, .slice A5 4 c5, .slice A6 4 c6, .slice A7 4 c7, .slice A8 4 c8] 24)
  have hlx_9 := Nat.lt_of_lt_of_le hlx_8 (al_le v8 (.cells #[.slice A2 4 c2, .slice A3 4 c3, .slice A4 8 c4, .slice A5 4 c5, .slice A6 4 c6, .slice A7 4 c7, .slice A8 4 c8] 24))
  refine Lx.made (w' := v8.alloc (.cells #[.slice A2 4 c2, .slice A3 4 c3, .slice A4 8 c4, .slice A5 4 c5, .slice A6 4 c6, .slice A7 4 c7, .slice A8 4 c8] 24)) 19 (.slice (some ⟨v8.heap.size, 0, none⟩) 7 7) rfl (by kernel_rfl) (by kernel_rfl) (by kernel_rfl) (fun _ => hcx_9) ?_
  (try simp only [Act.put, List.getElem_toArray, List.getElem_cons_succ, List.getElem_cons_zero, List.setIfInBounds_toArray, List.set_cons_zero, List.set_cons_succ])
  generalize v8.alloc (.cells #[.slice A2 4 c2, .slice A3 4 c3, .slice A4 8 c4, .slice A5 4 c5, .slice A6 4 c6, .slice A7 4 c7, .slice A8 4 c8] 24) = v9 at hK9 hBp0_9 hBp1_9 hBp2_9 hBp3_9 hBp4_9 hBp5_9 hBp6_9 hcx_9 hlx_9 hz9 hP ⊢
  clear hK8 hBp0_8 hBp1_8 hBp2_8 hBp3_8 hBp4_8 hBp5_8 hBp6_8 hcx_8 hlx_8
  clear hRp0 hBp0_9
  clear hRp1 hBp1_9
  clear hRp2 hBp2_9
  clear hRp3 hBp3_9
  clear hRp4 hBp4_9
  clear hRp5 hBp5_9
  clear hRp6 hBp6_9
  have hKz := hK9
  refine Lx.call 20 rfl (by kernel_rfl) (by kernel_rfl) (by kernel_rfl) (fun _ => (rcat_any v9 (some ⟨v8.heap.size, 0, none⟩) 7 (v8.heap.size + 1) 7 [putL d.la 4, putL (0) 4, putL d.tr 8, putL d.kd 4, putL d.a 4, putL d.b 4, putL d.c 4] (adP d) (adP_put d) hP rfl (by omega) (by omega) (by rw [adP_len]; omega)).mono ?_)
  rintro e v10 ⟨A10, c10, rfl, hF10, hb10⟩
  have hK10 := bnx hK9 hb10 hK9.size
  have hcx_10 := hcx_9.below hb10 hlx_9
  have hlx_10 := Nat.lt_of_lt_of_le hlx_9 hb10.size
  rw [adP_len]
  have hFz := hF10
  refine ⟨_, rfl, hcx_10, ?_⟩
  (try simp only [Act.put, List.getElem_toArray, List.getElem_cons_succ, List.getElem_cons_zero, List.setIfInBounds_toArray, List.set_cons_zero, List.set_cons_succ])
  clear hK9 hcx_9 hlx_9 hb10 hF10 hP
  (refine Lx.val 21 ?_ rfl (by kernel_rfl) (by kernel_rfl) (by kernel_rfl) (fun _ _ _ h => h) (by kernel_rfl) ?_ ?_; rotate_left 1; focus (intro w hw; go_simp; with_reducible rfl)); (try simp (config := {maxSteps := 2000000}) only [Act.put, List.getElem_toArray, List.getElem_cons_succ, List.getElem_cons_zero, List.setIfInBounds_toArray, List.set_cons_zero, List.set_cons_succ])
  refine Lx.done (by kernel_rfl) ?_
  intro _
  go_wp2_with fail
  go_ret
  exact ⟨_, _, rfl, hFz.low (by have := hKz.size; omega), hK10⟩
end Go.Proofs.YtfaonieaagepjaaDoor
