/- Layer 14: addresses as bytes, and the reference's, walked. Conditions: numbers of their kinds. -/
import Derived.Test.YtfaonieaagepjaaDoorA4A
import Derived.Deep.DeepCutAuto
import Derived.Deep.CutBlock
namespace Go.Proofs.YtfaonieaagepjaaDoor
open Go.RowKit
set_option linter.unusedVariables false
set_option linter.unusedSimpArgs false
theorem Ad.ok.w1 {d : Ad} (h : d.ok) : Ww [d.la] := fun x hx => by simp at hx; subst hx; exact h.la
theorem W32.zero : W32 0 := ⟨by decide, by decide⟩
theorem Ad.ok.w2 {d : Ad} (h : d.ok) : Ww [d.la, 0] := fun x hx => by
  simp at hx; rcases hx with rfl | rfl
  · exact h.la
  · exact W32.zero
theorem Ad.ok.w4 {d : Ad} (h : d.ok) : Ww [d.kd, d.a, d.b, d.c] := fun x hx => by
  simp at hx; rcases hx with rfl | rfl | rfl | rfl
  · exact h.kd
  · exact h.a
  · exact h.b
  · exact h.c
theorem Ad.ok.w5 {d : Ad} (h : d.ok) {k : Int} (hk : W32 k) : Ww [d.kd, d.a, d.b, d.c, k] := fun x hx => by
  simp at hx; rcases hx with rfl | rfl | rfl | rfl | rfl
  · exact h.kd
  · exact h.a
  · exact h.b
  · exact h.c
  · exact hk
theorem adB_put (d : Ad) (k : Int) : [putL d.la 4, putL d.tr 8, putL d.kd 4, putL d.a 4, putL d.b 4, putL d.c 4, putL k 4].flatten = adB d k := by simp [adB, wordsL]
theorem adP_put (d : Ad) : [putL d.la 4, putL 0 4, putL d.tr 8, putL d.kd 4, putL d.a 4, putL d.b 4, putL d.c 4].flatten = adP d := by simp [adP, wordsL]
set_option maxRecDepth 100000 in
set_option maxHeartbeats 2000000 in
theorem bytes_any (d : Ad) (k : Int) (w : World) (hd : d.ok) (hk : W32 k) :
    Calls Tryd.prog 29 #[.agg d.cs, .int .u32 k] w (OutP w (adB d k) 32) := by
  have hX := Blk.new w 46 d.cs
  have hK0 := bal (Below.refl w.heap.size w) (Nat.le_refl _) (.cells d.cs 46)
  have hl0 := hX.lt
  go_enter Tryd.func29, Tryd.ntmps29
  go_upto_region 1 with fail
  change Code.wp _ _ _ _ (w.alloc (.cells d.cs 46))
  obtain ⟨b, hb_⟩ : ∃ b, w.heap.size = b := ⟨_, rfl⟩
  generalize w.alloc (.cells d.cs 46) = w0 at hX hK0 hl0 ⊢
  rw [show Blk w0 w.heap.size 46 d.cs = Blk w0 b 46 d.cs by rw [hb_]] at hX
  rw [show (w.heap.size < w0.heap.size) = (b < w0.heap.size) by rw [hb_]] at hl0
  refine Lx.enter (fun w' => Blk w' b 46 d.cs) 21 (by kernel_rfl) (by kernel_rfl) hX.drew ?_
  (refine Lx.val 0 ?_ rfl (by kernel_rfl) (by kernel_rfl) (by kernel_rfl) (fun _ _ _ h => h) (by kernel_rfl) ?_ ?_; rotate_left 1; focus (intro w hw; go_simp; with_reducible rfl)); (try simp (config := {maxSteps := 2000000}) only [Act.put, List.getElem_toArray, List.getElem_cons_succ, List.getElem_cons_zero, List.setIfInBounds_toArray, List.set_cons_zero, List.set_cons_succ])
  (refine Lx.val 1 ?_ rfl (by kernel_rfl) (by kernel_rfl) (by kernel_rfl) (fun _ _ _ h => h) (by kernel_rfl) ?_ ?_; rotate_left 1; focus (intro w hw; have hcell := hw.cell 0 _ rfl; go_simp; with_reducible rfl)); (try simp (config := {maxSteps := 2000000}) only [Act.put, List.getElem_toArray, List.getElem_cons_succ, List.getElem_cons_zero, List.setIfInBounds_toArray, List.set_cons_zero, List.set_cons_succ])
  (refine Lx.val 4 ?_ rfl (by kernel_rfl) (by kernel_rfl) (by kernel_rfl) (fun _ _ _ h => h) (by kernel_rfl) ?_ ?_; rotate_left 1; focus (intro w hw; go_simp; with_reducible rfl)); (try simp (config := {maxSteps := 2000000}) only [Act.put, List.getElem_toArray, List.getElem_cons_succ, List.getElem_cons_zero, List.setIfInBounds_toArray, List.set_cons_zero, List.set_cons_succ])
  (refine Lx.val 5 ?_ rfl (by kernel_rfl) (by kernel_rfl) (by kernel_rfl) (fun _ _ _ h => h) (by kernel_rfl) ?_ ?_; rotate_left 1; focus (intro w hw; have hcell := hw.cell 1 _ rfl; go_simp; with_reducible rfl)); (try simp (config := {maxSteps := 2000000}) only [Act.put, List.getElem_toArray, List.getElem_cons_succ, List.getElem_cons_zero, List.setIfInBounds_toArray, List.set_cons_zero, List.set_cons_succ])
  (refine Lx.val 7 ?_ rfl (by kernel_rfl) (by kernel_rfl) (by kernel_rfl) (fun _ _ _ h => h) (by kernel_rfl) ?_ ?_; rotate_left 1; focus (intro w hw; go_simp; with_reducible rfl)); (try simp (config := {maxSteps := 2000000}) only [Act.put, List.getElem_toArray, List.getElem_cons_succ, List.getElem_cons_zero, List.setIfInBounds_toArray, List.set_cons_zero, List.set_cons_succ])
  (refine Lx.val 8 ?_ rfl (by kernel_rfl) (by kernel_rfl) (by kernel_rfl) (fun _ _ _ h => h) (by kernel_rfl) ?_ ?_; rotate_left 1; focus (intro w hw; have hcell := hw.cell 2 _ rfl; go_simp; with_reducible rfl)); (try simp (config := {maxSteps := 2000000}) only [Act.put, List.getElem_toArray, List.getElem_cons_succ, List.getElem_cons_zero, List.setIfInBounds_toArray, List.set_cons_zero, List.set_cons_succ])
  (refine Lx.val 9 ?_ rfl (by kernel_rfl) (by kernel_rfl) (by kernel_rfl) (fun _ _ _ h => h) (by kernel_rfl) ?_ ?_; rotate_left 1; focus (intro w hw; go_simp; with_reducible rfl)); (try simp (config := {maxSteps := 2000000}) only [Act.put, List.getElem_toArray, List.getElem_cons_succ, List.getElem_cons_zero, List.setIfInBounds_toArray, List.set_cons_zero, List.set_cons_succ])
  (refine Lx.val 10 ?_ rfl (by kernel_rfl) (by kernel_rfl) (by kernel_rfl) (fun _ _ _ h => h) (by kernel_rfl) ?_ ?_; rotate_left 1; focus (intro w hw; have hcell := hw.cell 3 _ rfl; go_simp; with_reducible rfl)); (try simp (config := {maxSteps := 2000000}) only [Act.put, List.getElem_toArray, List.getElem_cons_succ, List.getElem_cons_zero, List.setIfInBounds_toArray, List.set_cons_zero, List.set_cons_succ])
  (refine Lx.val 11 ?_ rfl (by kernel_rfl) (by kernel_rfl) (by kernel_rfl) (fun _ _ _ h => h) (by kernel_rfl) ?_ ?_; rotate_left 1; focus (intro w hw; go_simp; with_reducible rfl)); (try simp (config := {maxSteps := 2000000}) only [Act.put, List.getElem_toArray, List.getElem_cons_succ, List.getElem_cons_zero, List.setIfInBounds_toArray, List.set_cons_zero, List.set_cons_succ])
  (refine Lx.val 12 ?_ rfl (by kernel_rfl) (by kernel_rfl) (by kernel_rfl) (fun _ _ _ h => h) (by kernel_rfl) ?_ ?_; rotate_left 1; focus (intro w hw; have hcell := hw.cell 4 _ rfl; go_simp; with_reducible rfl)); (try simp (config := {maxSteps := 2000000}) only [Act.put, List.getElem_toArray, List.getElem_cons_succ, List.getElem_cons_zero, List.setIfInBounds_toArray, List.set_cons_zero, List.set_cons_succ])
  (refine Lx.val 13 ?_ rfl (by kernel_rfl) (by kernel_rfl) (by kernel_rfl) (fun _ _ _ h => h) (by kernel_rfl) ?_ ?_; rotate_left 1; focus (intro w hw; go_simp; with_reducible rfl)); (try simp (config := {maxSteps := 2000000}) only [Act.put, List.getElem_toArray, List.getElem_cons_succ, List.getElem_cons_zero, List.setIfInBounds_toArray, List.set_cons_zero, List.set_cons_succ])
  (refine Lx.val 14 ?_ rfl (by kernel_rfl) (by kernel_rfl) (by kernel_rfl) (fun _ _ _ h => h) (by kernel_rfl) ?_ ?_; rotate_left 1; focus (intro w hw; have hcell := hw.cell 5 _ rfl; go_simp; with_reducible rfl)); (try simp (config := {maxSteps := 2000000}) only [Act.put, List.getElem_toArray, List.getElem_cons_succ, List.getElem_cons_zero, List.setIfInBounds_toArray, List.set_cons_zero, List.set_cons_succ])
  (refine Lx.val 15 ?_ rfl (by kernel_rfl) (by kernel_rfl) (by kernel_rfl) (fun _ _ _ h => h) (by kernel_rfl) ?_ ?_; rotate_left 1; focus (intro w hw; go_simp; with_reducible rfl)); (try simp (config := {maxSteps := 2000000}) only [Act.put, List.getElem_toArray, List.getElem_cons_succ, List.getElem_cons_zero, List.setIfInBounds_toArray, List.set_cons_zero, List.set_cons_succ])
  have hK1 := bdw hK0
  have hcx_1 := hX.drew
  have hlx_1 := (show _ < w0.drew.heap.size from hl0)
  generalize w0.drew = v1 at hK1 hcx_1 hlx_1 ⊢
  clear hK0 hX hl0
  refine Lx.two 2 16 (by kernel_rfl) ?_ ?_
  · have hRu := (show Rd (v1.alloc (.cells (U .u32 [d.la]) 26)) (v1.alloc (.cells (U .u32 [d.la]) 26)).heap.size .u32 (some ⟨v1.heap.size, 0, none⟩) [d.la] from Rd.of_arr (Arr.new v1 26 .u32 [d.la]) (by simp))
    have hz2 : (v1.alloc (.cells (U .u32 [d.la]) 26)).heap.size = v1.heap.size + 1 := by simp
    have hK2 := bal hK1 hK1.size (.cells (U .u32 [d.la]) 26)
    have hcx_2 := hcx_1.alloc (.cells (U .u32 [d.la]) 26)
    have hlx_2 := Nat.lt_of_lt_of_le hlx_1 (al_le v1 (.cells (U .u32 [d.la]) 26))
    refine LxOp.made (w' := v1.alloc (.cells (U .u32 [d.la]) 26)) 2 (.slice (some ⟨v1.heap.size, 0, none⟩) 1 1) rfl (by kernel_rfl) (by kernel_rfl) (fun _ => hcx_2) ?_
    (try simp only [Act.put, List.getElem_toArray, List.getElem_cons_succ, List.getElem_cons_zero, List.setIfInBounds_toArray, List.set_cons_zero, List.set_cons_succ])
    generalize v1.alloc (.cells (U .u32 [d.la]) 26) = v2 at hK2 hcx_2 hlx_2 hz2 hRu ⊢
    clear hK1 hcx_1 hlx_1
    have hBu_2 := Below.refl v2.heap.size v2
    refine Lx.two 3 16 (by kernel_rfl) ?_ ?_
    · refine LxOp.call 3 rfl (by kernel_rfl) (by kernel_rfl) (fun _ => (words_any [d.la] (some ⟨v1.heap.size, 0, none⟩) 1 1 4 v2.heap.size v2 (hRu.bel hBu_2) (Nat.le_refl _) rfl (by decide) hd.w1.gt rfl).mono ?_)
      rintro e v3 ⟨A3, c3, rfl, hF3, hb3⟩
      have hK3 := bnx hK2 hb3 hK2.size
      have hBu_3 := bnx hBu_2 hb3 hBu_2.size
      have hcx_3 := hcx_2.below hb3 hlx_2
      have hlx_3 := Nat.lt_of_lt_of_le hlx_2 hb3.size
      have hcp : 4 ≤ c3 := by have := hF3.cap; rw [wordsL_len] at this; exact this
      refine ⟨_, rfl, hcx_3, ?_⟩
      (try simp only [Act.put, List.getElem_toArray, List.getElem_cons_succ, List.getElem_cons_zero, List.setIfInBounds_toArray, List.set_cons_zero, List.set_cons_succ])
      have hRp := hF3.rd
      have hBp_3 := Below.refl v3.heap.size v3
      clear hK2 hBu_2 hcx_2 hlx_2 hb3 hF3
      clear hRu hBu_3
      refine Lx.two 6 16 (by kernel_rfl) ?_ ?_
      · refine LxOp.call 6 rfl (by kernel_rfl) (by kernel_rfl) (fun _ => (put_any d.tr 8 8 v3 rfl (by decide)).mono ?_)
        rintro e v4 ⟨A4, c4, rfl, hO4, hb4⟩
        have hK4 := bnx hK3 hb4 hK3.size
        have hBp_4 := bnx hBp_3 hb4 hBp_3.size
        have hcx_4 := hcx_3.below hb4 hlx_3
        have hlx_4 := Nat.lt_of_lt_of_le hlx_3 hb4.size
        have hcq : 8 ≤ c4 := by have := hO4.len.2; rw [putL_len] at this; exact this
        refine ⟨_, rfl, hcx_4, ?_⟩
        (try simp only [Act.put, List.getElem_toArray, List.getElem_cons_succ, List.getElem_cons_zero, List.setIfInBounds_toArray, List.set_cons_zero, List.set_cons_succ])
        have hRq := hO4.rd
        have hBq_4 := Below.refl v4.heap.size v4
        clear hK3 hBp_3 hcx_3 hlx_3 hb4 hO4
        have hRv := (show Rd (v4.alloc (.cells (U .u32 [d.kd, d.a, d.b, d.c, k]) 26)) (v4.alloc (.cells (U .u32 [d.kd, d.a, d.b, d.c, k]) 26)).heap.size .u32 (some ⟨v4.heap.size, 0, none⟩) [d.kd, d.a, d.b, d.c, k] from Rd.of_arr (Arr.new v4 26 .u32 [d.kd, d.a, d.b, d.c, k]) (by simp))
        have hz5 : (v4.alloc (.cells (U .u32 [d.kd, d.a, d.b, d.c, k]) 26)).heap.size = v4.heap.size + 1 := by simp
        have hK5 := bal hK4 hK4.size (.cells (U .u32 [d.kd, d.a, d.b, d.c, k]) 26)
        have hBp_5 := bal hBp_4 hBp_4.size (.cells (U .u32 [d.kd, d.a, d.b, d.c, k]) 26)
        have hBq_5 := bal hBq_4 hBq_4.size (.cells (U .u32 [d.kd, d.a, d.b, d.c, k]) 26)
        have hcx_5 := hcx_4.alloc (.cells (U .u32 [d.kd, d.a, d.b, d.c, k]) 26)
        have hlx_5 := Nat.lt_of_lt_of_le hlx_4 (al_le v4 (.cells (U .u32 [d.kd, d.a, d.b, d.c, k]) 26))
        refine Lx.made (w' := v4.alloc (.cells (U .u32 [d.kd, d.a, d.b, d.c, k]) 26)) 16 (.slice (some ⟨v4.heap.size, 0, none⟩) 5 5) rfl (by kernel_rfl) (by kernel_rfl) (by kernel_rfl) (fun _ => hcx_5) ?_
        (try simp only [Act.put, List.getElem_toArray, List.getElem_cons_succ, List.getElem_cons_zero, List.setIfInBounds_toArray, List.set_cons_zero, List.set_cons_succ])
        generalize v4.alloc (.cells (U .u32 [d.kd, d.a, d.b, d.c, k]) 26) = v5 at hK5 hBp_5 hBq_5 hcx_5 hlx_5 hz5 hRv ⊢
        clear hK4 hBp_4 hBq_4 hcx_4 hlx_4
        have hBv_5 := Below.refl v5.heap.size v5
        refine Lx.call 17 rfl (by kernel_rfl) (by kernel_rfl) (by kernel_rfl) (fun _ => (words_any [d.kd, d.a, d.b, d.c, k] (some ⟨v4.heap.size, 0, none⟩) 5 5 20 v5.heap.size v5 (hRv.bel hBv_5) (Nat.le_refl _) rfl (by decide) (hd.w5 hk).gt rfl).mono ?_)
        rintro e v6 ⟨A6, c6, rfl, hF6, hb6⟩
        have hK6 := bnx hK5 hb6 hK5.size
        have hBp_6 := bnx hBp_5 hb6 hBp_5.size
        have hBq_6 := bnx hBq_5 hb6 hBq_5.size
        have hBv_6 := bnx hBv_5 hb6 hBv_5.size
        have hcx_6 := hcx_5.below hb6 hlx_5
        have hlx_6 := Nat.lt_of_lt_of_le hlx_5 hb6.size
        have hcr : 20 ≤ c6 := by have := hF6.cap; rw [wordsL_len] at this; exact this
        refine ⟨_, rfl, hcx_6, ?_⟩
        (try simp only [Act.put, List.getElem_toArray, List.getElem_cons_succ, List.getElem_cons_zero, List.setIfInBounds_toArray, List.set_cons_zero, List.set_cons_succ])
        have hRr := hF6.rd
        have hBr_6 := Below.refl v6.heap.size v6
        clear hK5 hBp_5 hBq_5 hBv_5 hcx_5 hlx_5 hb6 hF6
        clear hRv hBv_6
        have hP := parts_of (w := v6) (T := 24) [.slice A3 4 c3, .slice A4 8 c4, .slice A6 20 c6] [wordsL [d.la], putL d.tr 8, wordsL [d.kd, d.a, d.b, d.c, k]] rfl (fun i hi => match i, hi with | 0, _ => (hRp.bel hBp_6).pt (wordsL_len _) hcp | 1, _ => (hRq.bel hBq_6).pt (putL_len _ _) hcq | 2, _ => (hRr.bel hBr_6).pt (wordsL_len _) hcr | m + 3, h => absurd h (by simp))
        have hz7 : (v6.alloc (.cells #[.slice A3 4 c3, .slice A4 8 c4, .slice A6 20 c6] 24)).heap.size = v6.heap.size + 1 := by simp
        have hK7 := bal hK6 hK6.size (.cells #[.slice A3 4 c3, .slice A4 8 c4, .slice A6 20 c6] 24)
        have hBp_7 := bal hBp_6 hBp_6.size (.cells #[.slice A3 4 c3, .slice A4 8 c4, .slice A6 20 c6] 24)
        have hBq_7 := bal hBq_6 hBq_6.size (.cells #[.slice A3 4 c3, .slice A4 8 c4, .slice A6 20 c6] 24)
        have hBr_7 := bal hBr_6 hBr_6.size (.cells #[.slice A3 4 c3, .slice A4 8 c4, .slice A6 20 c6] 24)
        have hcx_7 := hcx_6.alloc (.cells #[.slice A3 4 c3, .slice A4 8 c4, .slice A6 20 c6] 24)
        have hlx_7 := Nat.lt_of_lt_of_le hlx_6 (al_le v6 (.cells #[.slice A3 4 c3, .slice A4 8 c4, .slice A6 20 c6] 24))
        refine Lx.made (w' := v6.alloc (.cells #[.slice A3 4 c3, .slice A4 8 c4, .slice A6 20 c6] 24)) 18 (.slice (some ⟨v6.heap.size, 0, none⟩) 3 3) rfl (by kernel_rfl) (by kernel_rfl) (by kernel_rfl) (fun _ => hcx_7) ?_
        (try simp only [Act.put, List.getElem_toArray, List.getElem_cons_succ, List.getElem_cons_zero, List.setIfInBounds_toArray, List.set_cons_zero, List.set_cons_succ])
        generalize v6.alloc (.cells #[.slice A3 4 c3, .slice A4 8 c4, .slice A6 20 c6] 24) = v7 at hK7 hBp_7 hBq_7 hBr_7 hcx_7 hlx_7 hz7 hP ⊢
        clear hK6 hBp_6 hBq_6 hBr_6 hcx_6 hlx_6
        clear hRp hBp_7
        clear hRq hBq_7
        clear hRr hBr_7
        have hKz := hK7
        refine Lx.call 19 rfl (by kernel_rfl) (by kernel_rfl) (by kernel_rfl) (fun _ => (cat_any v7 _ 3 (v6.heap.size + 1) 3 [wordsL [d.la], putL d.tr 8, wordsL [d.kd, d.a, d.b, d.c, k]] (adB d k) (by simp [adB]) hP rfl (by omega) (by omega) (by omega) (by rw [adB_len]; omega)).mono ?_)
        rintro e v8 ⟨A8, c8, rfl, hF8, hb8⟩
        have hK8 := bnx hK7 hb8 hK7.size
        have hcx_8 := hcx_7.below hb8 hlx_7
        have hlx_8 := Nat.lt_of_lt_of_le hlx_7 hb8.size
        rw [adB_len]
        have hFz := hF8
        refine ⟨_, rfl, hcx_8, ?_⟩
        (try simp only [Act.put, List.getElem_toArray, List.getElem_cons_succ, List.getElem_cons_zero, List.setIfInBounds_toArray, List.set_cons_zero, List.set_cons_succ])
        clear hK7 hcx_7 hlx_7 hb8 hF8 hP
        (refine Lx.val 20 ?_ rfl (by kernel_rfl) (by kernel_rfl) (by kernel_rfl) (fun _ _ _ h => h) (by kernel_rfl) ?_ ?_; rotate_left 1; focus (intro w hw; go_simp; with_reducible rfl)); (try simp (config := {maxSteps := 2000000}) only [Act.put, List.getElem_toArray, List.getElem_cons_succ, List.getElem_cons_zero, List.setIfInBounds_toArray, List.set_cons_zero, List.set_cons_succ])
        refine Lx.done (by kernel_rfl) ?_
        intro _
        go_wp2_with fail
        go_ret
        exact ⟨_, _, rfl, hFz.low (by have := hKz.size; omega), hK8⟩
      · have hRv := (show Rd (v3.alloc (.cells (U .u32 [d.kd, d.a, d.b, d.c, k]) 26)) (v3.alloc (.cells (U .u32 [d.kd, d.a, d.b, d.c, k]) 26)).heap.size .u32 (some ⟨v3.heap.size, 0, none⟩) [d.kd, d.a, d.b, d.c, k] from Rd.of_arr (Arr.new v3 26 .u32 [d.kd, d.a, d.b, d.c, k]) (by simp))
        have hz4 : (v3.alloc (.cells (U .u32 [d.kd, d.a, d.b, d.c, k]) 26)).heap.size = v3.heap.size + 1 := by simp
        have hK4 := bal hK3 hK3.size (.cells (U .u32 [d.kd, d.a, d.b, d.c, k]) 26)
        have hBp_4 := bal hBp_3 hBp_3.size (.cells (U .u32 [d.kd, d.a, d.b, d.c, k]) 26)
        have hcx_4 := hcx_3.alloc (.cells (U .u32 [d.kd, d.a, d.b, d.c, k]) 26)
        have hlx_4 := Nat.lt_of_lt_of_le hlx_3 (al_le v3 (.cells (U .u32 [d.kd, d.a, d.b, d.c, k]) 26))
        refine LxOp.made (w' := v3.alloc (.cells (U .u32 [d.kd, d.a, d.b, d.c, k]) 26)) 16 (.slice (some ⟨v3.heap.size, 0, none⟩) 5 5) rfl (by kernel_rfl) (by kernel_rfl) (fun _ => hcx_4) ?_
        (try simp only [Act.put, List.getElem_toArray, List.getElem_cons_succ, List.getElem_cons_zero, List.setIfInBounds_toArray, List.set_cons_zero, List.set_cons_succ])
        generalize v3.alloc (.cells (U .u32 [d.kd, d.a, d.b, d.c, k]) 26) = v4 at hK4 hBp_4 hcx_4 hlx_4 hz4 hRv ⊢
        clear hK3 hBp_3 hcx_3 hlx_3
        have hBv_4 := Below.refl v4.heap.size v4
        refine Lx.call 6 rfl (by kernel_rfl) (by kernel_rfl) (by kernel_rfl) (fun _ => (put_any d.tr 8 8 v4 rfl (by decide)).mono ?_)
        rintro e v5 ⟨A5, c5, rfl, hO5, hb5⟩
        have hK5 := bnx hK4 hb5 hK4.size
        have hBp_5 := bnx hBp_4 hb5 hBp_4.size
        have hBv_5 := bnx hBv_4 hb5 hBv_4.size
        have hcx_5 := hcx_4.below hb5 hlx_4
        have hlx_5 := Nat.lt_of_lt_of_le hlx_4 hb5.size
        have hcq : 8 ≤ c5 := by have := hO5.len.2; rw [putL_len] at this; exact this
        refine ⟨_, rfl, hcx_5, ?_⟩
        (try simp only [Act.put, List.getElem_toArray, List.getElem_cons_succ, List.getElem_cons_zero, List.setIfInBounds_toArray, List.set_cons_zero, List.set_cons_succ])
        have hRq := hO5.rd
        have hBq_5 := Below.refl v5.heap.size v5
        clear hK4 hBp_4 hBv_4 hcx_4 hlx_4 hb5 hO5
        refine Lx.call 17 rfl (by kernel_rfl) (by kernel_rfl) (by kernel_rfl) (fun _ => (words_any [d.kd, d.a, d.b, d.c, k] (some ⟨v3.heap.size, 0, none⟩) 5 5 20 v5.heap.size v5 (hRv.bel hBv_5) (Nat.le_refl _) rfl (by decide) (hd.w5 hk).gt rfl).mono ?_)
        rintro e v6 ⟨A6, c6, rfl, hF6, hb6⟩
        have hK6 := bnx hK5 hb6 hK5.size
        have hBp_6 := bnx hBp_5 hb6 hBp_5.size
        have hBv_6 := bnx hBv_5 hb6 hBv_5.size
        have hBq_6 := bnx hBq_5 hb6 hBq_5.size
        have hcx_6 := hcx_5.below hb6 hlx_5
        have hlx_6 := Nat.lt_of_lt_of_le hlx_5 hb6.size
        have hcr : 20 ≤ c6 := by have := hF6.cap; rw [wordsL_len] at this; exact this
        refine ⟨_, rfl, hcx_6, ?_⟩
        (try simp only [Act.put, List.getElem_toArray, List.getElem_cons_succ, List.getElem_cons_zero, List.setIfInBounds_toArray, List.set_cons_zero, List.set_cons_succ])
        have hRr := hF6.rd
        have hBr_6 := Below.refl v6.heap.size v6
        clear hK5 hBp_5 hBv_5 hBq_5 hcx_5 hlx_5 hb6 hF6
        clear hRv hBv_6
        have hP := parts_of (w := v6) (T := 24) [.slice A3 4 c3, .slice A5 8 c5, .slice A6 20 c6] [wordsL [d.la], putL d.tr 8, wordsL [d.kd, d.a, d.b, d.c, k]] rfl (fun i hi => match i, hi with | 0, _ => (hRp.bel hBp_6).pt (wordsL_len _) hcp | 1, _ => (hRq.bel hBq_6).pt (putL_len _ _) hcq | 2, _ => (hRr.bel hBr_6).pt (wordsL_len _) hcr | m + 3, h => absurd h (by simp))
        have hz7 : (v6.alloc (.cells #[.slice A3 4 c3, .slice A5 8 c5, .slice A6 20 c6] 24)).heap.size = v6.heap.size + 1 := by simp
        have hK7 := bal hK6 hK6.size (.cells #[.slice A3 4 c3, .slice A5 8 c5, .slice A6 20 c6] 24)
        have hBp_7 := bal hBp_6 hBp_6.size (.cells #[.slice A3 4 c3, .slice A5 8 c5, .slice A6 20 c6] 24)
        have hBq_7 := bal hBq_6 hBq_6.size (.cells #[.slice A3 4 c3, .slice A5 8 c5, .slice A6 20 c6] 24)
        have hBr_7 := bal hBr_6 hBr_6.size (.cells #[.slice A3 4 c3, .slice A5 8 c5, .slice A6 20 c6] 24)
        have hcx_7 := hcx_6.alloc (.cells #[.slice A3 4 c3, .slice A5 8 c5, .slice A6 20 c6] 24)
        have hlx_7 := Nat.lt_of_lt_of_le hlx_6 (al_le v6 (.cells #[.slice A3 4 c3, .slice A5 8 c5, .slice A6 20 c6] 24))
        refine Lx.made (w' := v6.alloc (.cells #[.slice A3 4 c3, .slice A5 8 c5, .slice A6 20 c6] 24)) 18 (.slice (some ⟨v6.heap.size, 0, none⟩) 3 3) rfl (by kernel_rfl) (by kernel_rfl) (by kernel_rfl) (fun _ => hcx_7) ?_
        (try simp only [Act.put, List.getElem_toArray, List.getElem_cons_succ, List.getElem_cons_zero, List.setIfInBounds_toArray, List.set_cons_zero, List.set_cons_succ])
        generalize v6.alloc (.cells #[.slice A3 4 c3, .slice A5 8 c5, .slice A6 20 c6] 24) = v7 at hK7 hBp_7 hBq_7 hBr_7 hcx_7 hlx_7 hz7 hP ⊢
        clear hK6 hBp_6 hBq_6 hBr_6 hcx_6 hlx_6
        clear hRp hBp_7
        clear hRq hBq_7
        clear hRr hBr_7
        have hKz := hK7
        refine Lx.call 19 rfl (by kernel_rfl) (by kernel_rfl) (by kernel_rfl) (fun _ => (cat_any v7 _ 3 (v6.heap.size + 1) 3 [wordsL [d.la], putL d.tr 8, wordsL [d.kd, d.a, d.b, d.c, k]] (adB d k) (by simp [adB]) hP rfl (by omega) (by omega) (by omega) (by rw [adB_len]; omega)).mono ?_)
        rintro e v8 ⟨A8, c8, rfl, hF8, hb8⟩
        have hK8 := bnx hK7 hb8 hK7.size
        have hcx_8 := hcx_7.below hb8 hlx_7
        have hlx_8 := Nat.lt_of_lt_of_le hlx_7 hb8.size
        rw [adB_len]
        have hFz := hF8
        refine ⟨_, rfl, hcx_8, ?_⟩
        (try simp only [Act.put, List.getElem_toArray, List.getElem_cons_succ, List.getElem_cons_zero, List.setIfInBounds_toArray, List.set_cons_zero, List.set_cons_succ])
        clear hK7 hcx_7 hlx_7 hb8 hF8 hP
        (refine Lx.val 20 ?_ rfl (by kernel_rfl) (by kernel_rfl) (by kernel_rfl) (fun _ _ _ h => h) (by kernel_rfl) ?_ ?_; rotate_left 1; focus (intro w hw; go_simp; with_reducible rfl)); (try simp (config := {maxSteps := 2000000}) only [Act.put, List.getElem_toArray, List.getElem_cons_succ, List.getElem_cons_zero, List.setIfInBounds_toArray, List.set_cons_zero, List.set_cons_succ])
        refine Lx.done (by kernel_rfl) ?_
        intro _
        go_wp2_with fail
        go_ret
        exact ⟨_, _, rfl, hFz.low (by have := hKz.size; omega), hK8⟩
    · have hRv := (show Rd (v2.alloc (.cells (U .u32 [d.kd, d.a, d.b, d.c, k]) 26)) (v2.alloc (.cells (U .u32 [d.kd, d.a, d.b, d.c, k]) 26)).heap.size .u32 (some ⟨v2.heap.size, 0, none⟩) [d.kd, d.a, d.b, d.c, k] from Rd.of_arr (Arr.new v2 26 .u32 [d.kd, d.a, d.b, d.c, k]) (by simp))
      have hz3 : (v2.alloc (.cells (U .u32 [d.kd, d.a, d.b, d.c, k]) 26)).heap.size = v2.heap.size + 1 := by simp
      have hK3 := bal hK2 hK2.size (.cells (U .u32 [d.kd, d.a, d.b, d.c, k]) 26)
      have hBu_3 := bal hBu_2 hBu_2.size (.cells (U .u32 [d.kd, d.a, d.b, d.c, k]) 26)
      have hcx_3 := hcx_2.alloc (.cells (U .u32 [d.kd, d.a, d.b, d.c, k]) 26)
      have hlx_3 := Nat.lt_of_lt_of_le hlx_2 (al_le v2 (.cells (U .u32 [d.kd, d.a, d.b, d.c, k]) 26))
      refine LxOp.made (w' := v2.alloc (.cells (U .u32 [d.kd, d.a, d.b, d.c, k]) 26)) 16 (.slice (some ⟨v2.heap.size, 0, none⟩) 5 5) rfl (by kernel_rfl) (by kernel_rfl) (fun _ => hcx_3) ?_
      (try simp only [Act.put, List.getElem_toArray, List.getElem_cons_succ, List.getElem_cons_zero, List.setIfInBounds_toArray, List.set_cons_zero, List.set_cons_succ])
      generalize v2.alloc (.cells (U .u32 [d.kd, d.a, d.b, d.c, k]) 26) = v3 at hK3 hBu_3 hcx_3 hlx_3 hz3 hRv ⊢
      clear hK2 hBu_2 hcx_2 hlx_2
      have hBv_3 := Below.refl v3.heap.size v3
      refine Lx.call 3 rfl (by kernel_rfl) (by kernel_rfl) (by kernel_rfl) (fun _ => (words_any [d.la] (some ⟨v1.heap.size, 0, none⟩) 1 1 4 v3.heap.size v3 (hRu.bel hBu_3) (Nat.le_refl _) rfl (by decide) hd.w1.gt rfl).mono ?_)
      rintro e v4 ⟨A4, c4, rfl, hF4, hb4⟩
      have hK4 := bnx hK3 hb4 hK3.size
      have hBu_4 := bnx hBu_3 hb4 hBu_3.size
      have hBv_4 := bnx hBv_3 hb4 hBv_3.size
      have hcx_4 := hcx_3.below hb4 hlx_3
      have hlx_4 := Nat.lt_of_lt_of_le hlx_3 hb4.size
      have hcp : 4 ≤ c4 := by have := hF4.cap; rw [wordsL_len] at this; exact this
      refine ⟨_, rfl, hcx_4, ?_⟩
      (try simp only [Act.put, List.getElem_toArray, List.getElem_cons_succ, List.getElem_cons_zero, List.setIfInBounds_toArray, List.set_cons_zero, List.set_cons_succ])
      have hRp := hF4.rd
      have hBp_4 := Below.refl v4.heap.size v4
      clear hK3 hBu_3 hBv_3 hcx_3 hlx_3 hb4 hF4
      clear hRu hBu_4
      refine Lx.call 6 rfl (by kernel_rfl) (by kernel_rfl) (by kernel_rfl) (fun _ => (put_any d.tr 8 8 v4 rfl (by decide)).mono ?_)
      rintro e v5 ⟨A5, c5, rfl, hO5, hb5⟩
      have hK5 := bnx hK4 hb5 hK4.size
      have hBv_5 := bnx hBv_4 hb5 hBv_4.size
      have hBp_5 := bnx hBp_4 hb5 hBp_4.size
      have hcx_5 := hcx_4.below hb5 hlx_4
      have hlx_5 := Nat.lt_of_lt_of_le hlx_4 hb5.size
      have hcq : 8 ≤ c5 := by have := hO5.len.2; rw [putL_len] at this; exact this
      refine ⟨_, rfl, hcx_5, ?_⟩
      (try simp only [Act.put, List.getElem_toArray, List.getElem_cons_succ, List.getElem_cons_zero, List.setIfInBounds_toArray, List.set_cons_zero, List.set_cons_succ])
      have hRq := hO5.rd
      have hBq_5 := Below.refl v5.heap.size v5
      clear hK4 hBv_4 hBp_4 hcx_4 hlx_4 hb5 hO5
      refine Lx.call 17 rfl (by kernel_rfl) (by kernel_rfl) (by kernel_rfl) (fun _ => (words_any [d.kd, d.a, d.b, d.c, k] (some ⟨v2.heap.size, 0, none⟩) 5 5 20 v5.heap.size v5 (hRv.bel hBv_5) (Nat.le_refl _) rfl (by decide) (hd.w5 hk).gt rfl).mono ?_)
      rintro e v6 ⟨A6, c6, rfl, hF6, hb6⟩
      have hK6 := bnx hK5 hb6 hK5.size
      have hBv_6 := bnx hBv_5 hb6 hBv_5.size
      have hBp_6 := bnx hBp_5 hb6 hBp_5.size
      have hBq_6 := bnx hBq_5 hb6 hBq_5.size
      have hcx_6 := hcx_5.below hb6 hlx_5
      have hlx_6 := Nat.lt_of_lt_of_le hlx_5 hb6.size
      have hcr : 20 ≤ c6 := by have := hF6.cap; rw [wordsL_len] at this; exact this
      refine ⟨_, rfl, hcx_6, ?_⟩
      (try simp only [Act.put, List.getElem_toArray, List.getElem_cons_succ, List.getElem_cons_zero, List.setIfInBounds_toArray, List.set_cons_zero, List.set_cons_succ])
      have hRr := hF6.rd
      have hBr_6 := Below.refl v6.heap.size v6
      clear hK5 hBv_5 hBp_5 hBq_5 hcx_5 hlx_5 hb6 hF6
      clear hRv hBv_6
      have hP := parts_of (w := v6) (T := 24) [.slice A4 4 c4, .slice A5 8 c5, .slice A6 20 c6] [wordsL [d.la], putL d.tr 8, wordsL [d.kd, d.a, d.b, d.c, k]] rfl (fun i hi => match i, hi with | 0, _ => (hRp.bel hBp_6).pt (wordsL_len _) hcp | 1, _ => (hRq.bel hBq_6).pt (putL_len _ _) hcq | 2, _ => (hRr.bel hBr_6).pt (wordsL_len _) hcr | m + 3, h => absurd h (by simp))
      have hz7 : (v6.alloc (.cells #[.slice A4 4 c4, .slice A5 8 c5, .slice A6 20 c6] 24)).heap.size = v6.heap.size + 1 := by simp
      have hK7 := bal hK6 hK6.size (.cells #[.slice A4 4 c4, .slice A5 8 c5, .slice A6 20 c6] 24)
      have hBp_7 := bal hBp_6 hBp_6.size (.cells #[.slice A4 4 c4, .slice A5 8 c5, .slice A6 20 c6] 24)
      have hBq_7 := bal hBq_6 hBq_6.size (.cells #[.slice A4 4 c4, .slice A5 8 c5, .slice A6 20 c6] 24)
      have hBr_7 := bal hBr_6 hBr_6.size (.cells #[.slice A4 4 c4, .slice A5 8 c5, .slice A6 20 c6] 24)
      have hcx_7 := hcx_6.alloc (.cells #[.slice A4 4 c4, .slice A5 8 c5, .slice A6 20 c6] 24)
      have hlx_7 := Nat.lt_of_lt_of_le hlx_6 (al_le v6 (.cells #[.slice A4 4 c4, .slice A5 8 c5, .slice A6 20 c6] 24))
      refine Lx.made (w' := v6.alloc (.cells #[.slice A4 4 c4, .slice A5 8 c5, .slice A6 20 c6] 24)) 18 (.slice (some ⟨v6.heap.size, 0, none⟩) 3 3) rfl (by kernel_rfl) (by kernel_rfl) (by kernel_rfl) (fun _ => hcx_7) ?_
      (try simp only [Act.put, List.getElem_toArray, List.getElem_cons_succ, List.getElem_cons_zero, List.setIfInBounds_toArray, List.set_cons_zero, List.set_cons_succ])
      generalize v6.alloc (.cells #[.slice A4 4 c4, .slice A5 8 c5, .slice A6 20 c6] 24) = v7 at hK7 hBp_7 hBq_7 hBr_7 hcx_7 hlx_7 hz7 hP ⊢
      clear hK6 hBp_6 hBq_6 hBr_6 hcx_6 hlx_6
      clear hRp hBp_7
      clear hRq hBq_7
      clear hRr hBr_7
      have hKz := hK7
      refine Lx.call 19 rfl (by kernel_rfl) (by kernel_rfl) (by kernel_rfl) (fun _ => (cat_any v7 _ 3 (v6.heap.size + 1) 3 [wordsL [d.la], putL d.tr 8, wordsL [d.kd, d.a, d.b, d.c, k]] (adB d k) (by simp [adB]) hP rfl (by omega) (by omega) (by omega) (by rw [adB_len]; omega)).mono ?_)
      rintro e v8 ⟨A8, c8, rfl, hF8, hb8⟩
      have hK8 := bnx hK7 hb8 hK7.size
      have hcx_8 := hcx_7.below hb8 hlx_7
      have hlx_8 := Nat.lt_of_lt_of_le hlx_7 hb8.size
      rw [adB_len]
      have hFz := hF8
      refine ⟨_, rfl, hcx_8, ?_⟩
      (try simp only [Act.put, List.getElem_toArray, List.getElem_cons_succ, List.getElem_cons_zero, List.setIfInBounds_toArray, List.set_cons_zero, List.set_cons_succ])
      clear hK7 hcx_7 hlx_7 hb8 hF8 hP
      (refine Lx.val 20 ?_ rfl (by kernel_rfl) (by kernel_rfl) (by kernel_rfl) (fun _ _ _ h => h) (by kernel_rfl) ?_ ?_; rotate_left 1; focus (intro w hw; go_simp; with_reducible rfl)); (try simp (config := {maxSteps := 2000000}) only [Act.put, List.getElem_toArray, List.getElem_cons_succ, List.getElem_cons_zero, List.setIfInBounds_toArray, List.set_cons_zero, List.set_cons_succ])
      refine Lx.done (by kernel_rfl) ?_
      intro _
      go_wp2_with fail
      go_ret
      exact ⟨_, _, rfl, hFz.low (by have := hKz.size; omega), hK8⟩
  · have hRv := (show Rd (v1.alloc (.cells (U .u32 [d.kd, d.a, d.b, d.c, k]) 26)) (v1.alloc (.cells (U .u32 [d.kd, d.a, d.b, d.c, k]) 26)).heap.size .u32 (some ⟨v1.heap.size, 0, none⟩) [d.kd, d.a, d.b, d.c, k] from Rd.of_arr (Arr.new v1 26 .u32 [d.kd, d.a, d.b, d.c, k]) (by simp))
    have hz2 : (v1.alloc (.cells (U .u32 [d.kd, d.a, d.b, d.c, k]) 26)).heap.size = v1.heap.size + 1 := by simp
    have hK2 := bal hK1 hK1.size (.cells (U .u32 [d.kd, d.a, d.b, d.c, k]) 26)
    have hcx_2 := hcx_1.alloc (.cells (U .u32 [d.kd, d.a, d.b, d.c, k]) 26)
    have hlx_2 := Nat.lt_of_lt_of_le hlx_1 (al_le v1 (.cells (U .u32 [d.kd, d.a, d.b, d.c, k]) 26))
    refine LxOp.made (w' := v1.alloc (.cells (U .u32 [d.kd, d.a, d.b, d.c, k]) 26)) 16 (.slice (some ⟨v1.heap.size, 0, none⟩) 5 5) rfl (by kernel_rfl) (by kernel_rfl) (fun _ => hcx_2) ?_
    (try simp only [Act.put, List.getElem_toArray, List.getElem_cons_succ, List.getElem_cons_zero, List.setIfInBounds_toArray, List.set_cons_zero, List.set_cons_succ])
    generalize v1.alloc (.cells (U .u32 [d.kd, d.a, d.b, d.c, k]) 26) = v2 at hK2 hcx_2 hlx_2 hz2 hRv ⊢
    clear hK1 hcx_1 hlx_1
    have hBv_2 := Below.refl v2.heap.size v2
    have hRu := (show Rd (v2.alloc (.cells (U .u32 [d.la]) 26)) (v2.alloc (.cells (U .u32 [d.la]) 26)).heap.size .u32 (some ⟨v2.heap.size, 0, none⟩) [d.la] from Rd.of_arr (Arr.new v2 26 .u32 [d.la]) (by simp))
    have hz3 : (v2.alloc (.cells (U .u32 [d.la]) 26)).heap.size = v2.heap.size + 1 := by simp
    have hK3 := bal hK2 hK2.size (.cells (U .u32 [d.la]) 26)
    have hBv_3 := bal hBv_2 hBv_2.size (.cells (U .u32 [d.la]) 26)
    have hcx_3 := hcx_2.alloc (.cells (U .u32 [d.la]) 26)
    have hlx_3 := Nat.lt_of_lt_of_le hlx_2 (al_le v2 (.cells (U .u32 [d.la]) 26))
    refine Lx.made (w' := v2.alloc (.cells (U .u32 [d.la]) 26)) 2 (.slice (some ⟨v2.heap.size, 0, none⟩) 1 1) rfl (by kernel_rfl) (by kernel_rfl) (by kernel_rfl) (fun _ => hcx_3) ?_
    (try simp only [Act.put, List.getElem_toArray, List.getElem_cons_succ, List.getElem_cons_zero, List.setIfInBounds_toArray, List.set_cons_zero, List.set_cons_succ])
    generalize v2.alloc (.cells (U .u32 [d.la]) 26) = v3 at hK3 hBv_3 hcx_3 hlx_3 hz3 hRu ⊢
    clear hK2 hBv_2 hcx_2 hlx_2
    have hBu_3 := Below.refl v3.heap.size v3
    refine Lx.call 3 rfl (by kernel_rfl) (by kernel_rfl) (by kernel_rfl) (fun _ => (words_any [d.la] (some ⟨v2.heap.size, 0, none⟩) 1 1 4 v3.heap.size v3 (hRu.bel hBu_3) (Nat.le_refl _) rfl (by decide) hd.w1.gt rfl).mono ?_)
    rintro e v4 ⟨A4, c4, rfl, hF4, hb4⟩
    have hK4 := bnx hK3 hb4 hK3.size
    have hBv_4 := bnx hBv_3 hb4 hBv_3.size
    have hBu_4 := bnx hBu_3 hb4 hBu_3.size
    have hcx_4 := hcx_3.below hb4 hlx_3
    have hlx_4 := Nat.lt_of_lt_of_le hlx_3 hb4.size
    have hcp : 4 ≤ c4 := by have := hF4.cap; rw [wordsL_len] at this; exact this
    refine ⟨_, rfl, hcx_4, ?_⟩
    (try simp only [Act.put, List.getElem_toArray, List.getElem_cons_succ, List.getElem_cons_zero, List.setIfInBounds_toArray, List.set_cons_zero, List.set_cons_succ])
    have hRp := hF4.rd
    have hBp_4 := Below.refl v4.heap.size v4
    clear hK3 hBv_3 hBu_3 hcx_3 hlx_3 hb4 hF4
    clear hRu hBu_4
    refine Lx.call 6 rfl (by kernel_rfl) (by kernel_rfl) (by kernel_rfl) (fun _ => (put_any d.tr 8 8 v4 rfl (by decide)).mono ?_)
    rintro e v5 ⟨A5, c5, rfl, hO5, hb5⟩
    have hK5 := bnx hK4 hb5 hK4.size
    have hBv_5 := bnx hBv_4 hb5 hBv_4.size
    have hBp_5 := bnx hBp_4 hb5 hBp_4.size
    have hcx_5 := hcx_4.below hb5 hlx_4
    have hlx_5 := Nat.lt_of_lt_of_le hlx_4 hb5.size
    have hcq : 8 ≤ c5 := by have := hO5.len.2; rw [putL_len] at this; exact this
    refine ⟨_, rfl, hcx_5, ?_⟩
    (try simp only [Act.put, List.getElem_toArray, List.getElem_cons_succ, List.getElem_cons_zero, List.setIfInBounds_toArray, List.set_cons_zero, List.set_cons_succ])
    have hRq := hO5.rd
    have hBq_5 := Below.refl v5.heap.size v5
    clear hK4 hBv_4 hBp_4 hcx_4 hlx_4 hb5 hO5
    refine Lx.call 17 rfl (by kernel_rfl) (by kernel_rfl) (by kernel_rfl) (fun _ => (words_any [d.kd, d.a, d.b, d.c, k] (some ⟨v1.heap.size, 0, none⟩) 5 5 20 v5.heap.size v5 (hRv.bel hBv_5) (Nat.le_refl _) rfl (by decide) (hd.w5 hk).gt rfl).mono ?_)
    rintro e v6 ⟨A6, c6, rfl, hF6, hb6⟩
    have hK6 := bnx hK5 hb6 hK5.size
    have hBv_6 := bnx hBv_5 hb6 hBv_5.size
    have hBp_6 := bnx hBp_5 hb6 hBp_5.size
    have hBq_6 := bnx hBq_5 hb6 hBq_5.size
    have hcx_6 := hcx_5.below hb6 hlx_5
    have hlx_6 := Nat.lt_of_lt_of_le hlx_5 hb6.size
    have hcr : 20 ≤ c6 := by have := hF6.cap; rw [wordsL_len] at this; exact this
    refine ⟨_, rfl, hcx_6, ?_⟩
    (try simp only [Act.put, List.getElem_toArray, List.getElem_cons_succ, List.getElem_cons_zero, List.setIfInBounds_toArray, List.set_cons_zero, List.set_cons_succ])
    have hRr := hF6.rd
    have hBr_6 := Below.refl v6.heap.size v6
    clear hK5 hBv_5 hBp_5 hBq_5 hcx_5 hlx_5 hb6 hF6
    clear hRv hBv_6
    have hP := parts_of (w := v6) (T := 24) [.slice A4 4 c4, .slice A5 8 c5, .slice A6 20 c6] [wordsL [d.la], putL d.tr 8, wordsL [d.kd, d.a, d.b, d.c, k]] rfl (fun i hi => match i, hi with | 0, _ => (hRp.bel hBp_6).pt (wordsL_len _) hcp | 1, _ => (hRq.bel hBq_6).pt (putL_len _ _) hcq | 2, _ => (hRr.bel hBr_6).pt (wordsL_len _) hcr | m + 3, h => absurd h (by simp))
    have hz7 : (v6.alloc (.cells #[.slice A4 4 c4, .slice A5 8 c5, .slice A6 20 c6] 24)).heap.size = v6.heap.size + 1 := by simp
    have hK7 := bal hK6 hK6.size (.cells #[.slice A4 4 c4, .slice A5 8 c5, .slice A6 20 c6] 24)
    have hBp_7 := bal hBp_6 hBp_6.size (.cells #[.slice A4 4 c4, .slice A5 8 c5, .slice A6 20 c6] 24)
    have hBq_7 := bal hBq_6 hBq_6.size (.cells #[.slice A4 4 c4, .slice A5 8 c5, .slice A6 20 c6] 24)
    have hBr_7 := bal hBr_6 hBr_6.size (.cells #[.slice A4 4 c4, .slice A5 8 c5, .slice A6 20 c6] 24)
    have hcx_7 := hcx_6.alloc (.cells #[.slice A4 4 c4, .slice A5 8 c5, .slice A6 20 c6] 24)
    have hlx_7 := Nat.lt_of_lt_of_le hlx_6 (al_le v6 (.cells #[.slice A4 4 c4, .slice A5 8 c5, .slice A6 20 c6] 24))
    refine Lx.made (w' := v6.alloc (.cells #[.slice A4 4 c4, .slice A5 8 c5, .slice A6 20 c6] 24)) 18 (.slice (some ⟨v6.heap.size, 0, none⟩) 3 3) rfl (by kernel_rfl) (by kernel_rfl) (by kernel_rfl) (fun _ => hcx_7) ?_
    (try simp only [Act.put, List.getElem_toArray, List.getElem_cons_succ, List.getElem_cons_zero, List.setIfInBounds_toArray, List.set_cons_zero, List.set_cons_succ])
    generalize v6.alloc (.cells #[.slice A4 4 c4, .slice A5 8 c5, .slice A6 20 c6] 24) = v7 at hK7 hBp_7 hBq_7 hBr_7 hcx_7 hlx_7 hz7 hP ⊢
    clear hK6 hBp_6 hBq_6 hBr_6 hcx_6 hlx_6
    clear hRp hBp_7
    clear hRq hBq_7
    clear hRr hBr_7
    have hKz := hK7
    refine Lx.call 19 rfl (by kernel_rfl) (by kernel_rfl) (by kernel_rfl) (fun _ => (cat_any v7 _ 3 (v6.heap.size + 1) 3 [wordsL [d.la], putL d.tr 8, wordsL [d.kd, d.a, d.b, d.c, k]] (adB d k) (by simp [adB]) hP rfl (by omega) (by omega) (by omega) (by rw [adB_len]; omega)).mono ?_)
    rintro e v8 ⟨A8, c8, rfl, hF8, hb8⟩
    have hK8 := bnx hK7 hb8 hK7.size
    have hcx_8 := hcx_7.below hb8 hlx_7
    have hlx_8 := Nat.lt_of_lt_of_le hlx_7 hb8.size
    rw [adB_len]
    have hFz := hF8
    refine ⟨_, rfl, hcx_8, ?_⟩
    (try simp only [Act.put, List.getElem_toArray, List.getElem_cons_succ, List.getElem_cons_zero, List.setIfInBounds_toArray, List.set_cons_zero, List.set_cons_succ])
    clear hK7 hcx_7 hlx_7 hb8 hF8 hP
    (refine Lx.val 20 ?_ rfl (by kernel_rfl) (by kernel_rfl) (by kernel_rfl) (fun _ _ _ h => h) (by kernel_rfl) ?_ ?_; rotate_left 1; focus (intro w hw; go_simp; with_reducible rfl)); (try simp (config := {maxSteps := 2000000}) only [Act.put, List.getElem_toArray, List.getElem_cons_succ, List.getElem_cons_zero, List.setIfInBounds_toArray, List.set_cons_zero, List.set_cons_succ])
    refine Lx.done (by kernel_rfl) ?_
    intro _
    go_wp2_with fail
    go_ret
    exact ⟨_, _, rfl, hFz.low (by have := hKz.size; omega), hK8⟩
set_option maxRecDepth 100000 in
set_option maxHeartbeats 2000000 in
theorem plain_any (d : Ad) (w : World) (hd : d.ok) :
    Calls Tryd.prog 31 #[.agg d.cs] w (OutP w (adP d) 32) := by
  have hX := Blk.new w 46 d.cs
  have hK0 := bal (Below.refl w.heap.size w) (Nat.le_refl _) (.cells d.cs 46)
  have hl0 := hX.lt
  go_enter Tryd.func31, Tryd.ntmps31
  go_upto_region 1 with fail
  change Code.wp _ _ _ _ (w.alloc (.cells d.cs 46))
  obtain ⟨b, hb_⟩ : ∃ b, w.heap.size = b := ⟨_, rfl⟩
  generalize w.alloc (.cells d.cs 46) = w0 at hX hK0 hl0 ⊢
  rw [show Blk w0 w.heap.size 46 d.cs = Blk w0 b 46 d.cs by rw [hb_]] at hX
  rw [show (w.heap.size < w0.heap.size) = (b < w0.heap.size) by rw [hb_]] at hl0
  refine Lx.enter (fun w' => Blk w' b 46 d.cs) 20 (by kernel_rfl) (by kernel_rfl) hX.drew ?_
  (refine Lx.val 0 ?_ rfl (by kernel_rfl) (by kernel_rfl) (by kernel_rfl) (fun _ _ _ h => h) (by kernel_rfl) ?_ ?_; rotate_left 1; focus (intro w hw; go_simp; with_reducible rfl)); (try simp (config := {maxSteps := 2000000}) only [Act.put, List.getElem_toArray, List.getElem_cons_succ, List.getElem_cons_zero, List.setIfInBounds_toArray, List.set_cons_zero, List.set_cons_succ])
  (refine Lx.val 1 ?_ rfl (by kernel_rfl) (by kernel_rfl) (by kernel_rfl) (fun _ _ _ h => h) (by kernel_rfl) ?_ ?_; rotate_left 1; focus (intro w hw; have hcell := hw.cell 0 _ rfl; go_simp; with_reducible rfl)); (try simp (config := {maxSteps := 2000000}) only [Act.put, List.getElem_toArray, List.getElem_cons_succ, List.getElem_cons_zero, List.setIfInBounds_toArray, List.set_cons_zero, List.set_cons_succ])
  (refine Lx.val 4 ?_ rfl (by kernel_rfl) (by kernel_rfl) (by kernel_rfl) (fun _ _ _ h => h) (by kernel_rfl) ?_ ?_; rotate_left 1; focus (intro w hw; go_simp; with_reducible rfl)); (try simp (config := {maxSteps := 2000000}) only [Act.put, List.getElem_toArray, List.getElem_cons_succ, List.getElem_cons_zero, List.setIfInBounds_toArray, List.set_cons_zero, List.set_cons_succ])
  (refine Lx.val 5 ?_ rfl (by kernel_rfl) (by kernel_rfl) (by kernel_rfl) (fun _ _ _ h => h) (by kernel_rfl) ?_ ?_; rotate_left 1; focus (intro w hw; have hcell := hw.cell 1 _ rfl; go_simp; with_reducible rfl)); (try simp (config := {maxSteps := 2000000}) only [Act.put, List.getElem_toArray, List.getElem_cons_succ, List.getElem_cons_zero, List.setIfInBounds_toArray, List.set_cons_zero, List.set_cons_succ])
  (refine Lx.val 7 ?_ rfl (by kernel_rfl) (by kernel_rfl) (by kernel_rfl) (fun _ _ _ h => h) (by kernel_rfl) ?_ ?_; rotate_left 1; focus (intro w hw; go_simp; with_reducible rfl)); (try simp (config := {maxSteps := 2000000}) only [Act.put, List.getElem_toArray, List.getElem_cons_succ, List.getElem_cons_zero, List.setIfInBounds_toArray, List.set_cons_zero, List.set_cons_succ])
  (refine Lx.val 8 ?_ rfl (by kernel_rfl) (by kernel_rfl) (by kernel_rfl) (fun _ _ _ h => h) (by kernel_rfl) ?_ ?_; rotate_left 1; focus (intro w hw; have hcell := hw.cell 2 _ rfl; go_simp; with_reducible rfl)); (try simp (config := {maxSteps := 2000000}) only [Act.put, List.getElem_toArray, List.getElem_cons_succ, List.getElem_cons_zero, List.setIfInBounds_toArray, List.set_cons_zero, List.set_cons_succ])
  (refine Lx.val 9 ?_ rfl (by kernel_rfl) (by kernel_rfl) (by kernel_rfl) (fun _ _ _ h => h) (by kernel_rfl) ?_ ?_; rotate_left 1; focus (intro w hw; go_simp; with_reducible rfl)); (try simp (config := {maxSteps := 2000000}) only [Act.put, List.getElem_toArray, List.getElem_cons_succ, List.getElem_cons_zero, List.setIfInBounds_toArray, List.set_cons_zero, List.set_cons_succ])
  (refine Lx.val 10 ?_ rfl (by kernel_rfl) (by kernel_rfl) (by kernel_rfl) (fun _ _ _ h => h) (by kernel_rfl) ?_ ?_; rotate_left 1; focus (intro w hw; have hcell := hw.cell 3 _ rfl; go_simp; with_reducible rfl)); (try simp (config := {maxSteps := 2000000}) only [Act.put, List.getElem_toArray, List.getElem_cons_succ, List.getElem_cons_zero, List.setIfInBounds_toArray, List.set_cons_zero, List.set_cons_succ])
  (refine Lx.val 11 ?_ rfl (by kernel_rfl) (by kernel_rfl) (by kernel_rfl) (fun _ _ _ h => h) (by kernel_rfl) ?_ ?_; rotate_left 1; focus (intro w hw; go_simp; with_reducible rfl)); (try simp (config := {maxSteps := 2000000}) only [Act.put, List.getElem_toArray, List.getElem_cons_succ, List.getElem_cons_zero, List.setIfInBounds_toArray, List.set_cons_zero, List.set_cons_succ])
  (refine Lx.val 12 ?_ rfl (by kernel_rfl) (by kernel_rfl) (by kernel_rfl) (fun _ _ _ h => h) (by kernel_rfl) ?_ ?_; rotate_left 1; focus (intro w hw; have hcell := hw.cell 4 _ rfl; go_simp; with_reducible rfl)); (try simp (config := {maxSteps := 2000000}) only [Act.put, List.getElem_toArray, List.getElem_cons_succ, List.getElem_cons_zero, List.setIfInBounds_toArray, List.set_cons_zero, List.set_cons_succ])
  (refine Lx.val 13 ?_ rfl (by kernel_rfl) (by kernel_rfl) (by kernel_rfl) (fun _ _ _ h => h) (by kernel_rfl) ?_ ?_; rotate_left 1; focus (intro w hw; go_simp; with_reducible rfl)); (try simp (config := {maxSteps := 2000000}) only [Act.put, List.getElem_toArray, List.getElem_cons_succ, List.getElem_cons_zero, List.setIfInBounds_toArray, List.set_cons_zero, List.set_cons_succ])
  (refine Lx.val 14 ?_ rfl (by kernel_rfl) (by kernel_rfl) (by kernel_rfl) (fun _ _ _ h => h) (by kernel_rfl) ?_ ?_; rotate_left 1; focus (intro w hw; have hcell := hw.cell 5 _ rfl; go_simp; with_reducible rfl)); (try simp (config := {maxSteps := 2000000}) only [Act.put, List.getElem_toArray, List.getElem_cons_succ, List.getElem_cons_zero, List.setIfInBounds_toArray, List.set_cons_zero, List.set_cons_succ])
  have hK1 := bdw hK0
  have hcx_1 := hX.drew
  have hlx_1 := (show _ < w0.drew.heap.size from hl0)
  generalize w0.drew = v1 at hK1 hcx_1 hlx_1 ⊢
  clear hK0 hX hl0
  refine Lx.two 2 15 (by kernel_rfl) ?_ ?_
  · have hRu := (show Rd (v1.alloc (.cells (U .u32 [d.la, 0]) 26)) (v1.alloc (.cells (U .u32 [d.la, 0]) 26)).heap.size .u32 (some ⟨v1.heap.size, 0, none⟩) [d.la, 0] from Rd.of_arr (Arr.new v1 26 .u32 [d.la, 0]) (by simp))
    have hz2 : (v1.alloc (.cells (U .u32 [d.la, 0]) 26)).heap.size = v1.heap.size + 1 := by simp
    have hK2 := bal hK1 hK1.size (.cells (U .u32 [d.la, 0]) 26)
    have hcx_2 := hcx_1.alloc (.cells (U .u32 [d.la, 0]) 26)
    have hlx_2 := Nat.lt_of_lt_of_le hlx_1 (al_le v1 (.cells (U .u32 [d.la, 0]) 26))
    refine LxOp.made (w' := v1.alloc (.cells (U .u32 [d.la, 0]) 26)) 2 (.slice (some ⟨v1.heap.size, 0, none⟩) 2 2) rfl (by kernel_rfl) (by kernel_rfl) (fun _ => hcx_2) ?_
    (try simp only [Act.put, List.getElem_toArray, List.getElem_cons_succ, List.getElem_cons_zero, List.setIfInBounds_toArray, List.set_cons_zero, List.set_cons_succ])
    generalize v1.alloc (.cells (U .u32 [d.la, 0]) 26) = v2 at hK2 hcx_2 hlx_2 hz2 hRu ⊢
    clear hK1 hcx_1 hlx_1
    have hBu_2 := Below.refl v2.heap.size v2
    refine Lx.two 3 15 (by kernel_rfl) ?_ ?_
    · refine LxOp.call 3 rfl (by kernel_rfl) (by kernel_rfl) (fun _ => (words_any [d.la, 0] (some ⟨v1.heap.size, 0, none⟩) 2 2 8 v2.heap.size v2 (hRu.bel hBu_2) (Nat.le_refl _) rfl (by decide) hd.w2.gt rfl).mono ?_)
      rintro e v3 ⟨A3, c3, rfl, hF3, hb3⟩
      have hK3 := bnx hK2 hb3 hK2.size
      have hBu_3 := bnx hBu_2 hb3 hBu_2.size
      have hcx_3 := hcx_2.below hb3 hlx_2
      have hlx_3 := Nat.lt_of_lt_of_le hlx_2 hb3.size
      have hcp : 8 ≤ c3 := by have := hF3.cap; rw [wordsL_len] at this; exact this
      refine ⟨_, rfl, hcx_3, ?_⟩
      (try simp only [Act.put, List.getElem_toArray, List.getElem_cons_succ, List.getElem_cons_zero, List.setIfInBounds_toArray, List.set_cons_zero, List.set_cons_succ])
      have hRp := hF3.rd
      have hBp_3 := Below.refl v3.heap.size v3
      clear hK2 hBu_2 hcx_2 hlx_2 hb3 hF3
      clear hRu hBu_3
      refine Lx.two 6 15 (by kernel_rfl) ?_ ?_
      · refine LxOp.call 6 rfl (by kernel_rfl) (by kernel_rfl) (fun _ => (put_any d.tr 8 8 v3 rfl (by decide)).mono ?_)
        rintro e v4 ⟨A4, c4, rfl, hO4, hb4⟩
        have hK4 := bnx hK3 hb4 hK3.size
        have hBp_4 := bnx hBp_3 hb4 hBp_3.size
        have hcx_4 := hcx_3.below hb4 hlx_3
        have hlx_4 := Nat.lt_of_lt_of_le hlx_3 hb4.size
        have hcq : 8 ≤ c4 := by have := hO4.len.2; rw [putL_len] at this; exact this
        refine ⟨_, rfl, hcx_4, ?_⟩
        (try simp only [Act.put, List.getElem_toArray, List.getElem_cons_succ, List.getElem_cons_zero, List.setIfInBounds_toArray, List.set_cons_zero, List.set_cons_succ])
        have hRq := hO4.rd
        have hBq_4 := Below.refl v4.heap.size v4
        clear hK3 hBp_3 hcx_3 hlx_3 hb4 hO4
        have hRv := (show Rd (v4.alloc (.cells (U .u32 [d.kd, d.a, d.b, d.c]) 26)) (v4.alloc (.cells (U .u32 [d.kd, d.a, d.b, d.c]) 26)).heap.size .u32 (some ⟨v4.heap.size, 0, none⟩) [d.kd, d.a, d.b, d.c] from Rd.of_arr (Arr.new v4 26 .u32 [d.kd, d.a, d.b, d.c]) (by simp))
        have hz5 : (v4.alloc (.cells (U .u32 [d.kd, d.a, d.b, d.c]) 26)).heap.size = v4.heap.size + 1 := by simp
        have hK5 := bal hK4 hK4.size (.cells (U .u32 [d.kd, d.a, d.b, d.c]) 26)
        have hBp_5 := bal hBp_4 hBp_4.size (.cells (U .u32 [d.kd, d.a, d.b, d.c]) 26)
        have hBq_5 := bal hBq_4 hBq_4.size (.cells (U .u32 [d.kd, d.a, d.b, d.c]) 26)
        have hcx_5 := hcx_4.alloc (.cells (U .u32 [d.kd, d.a, d.b, d.c]) 26)
        have hlx_5 := Nat.lt_of_lt_of_le hlx_4 (al_le v4 (.cells (U .u32 [d.kd, d.a, d.b, d.c]) 26))
        refine Lx.made (w' := v4.alloc (.cells (U .u32 [d.kd, d.a, d.b, d.c]) 26)) 15 (.slice (some ⟨v4.heap.size, 0, none⟩) 4 4) rfl (by kernel_rfl) (by kernel_rfl) (by kernel_rfl) (fun _ => hcx_5) ?_
        (try simp only [Act.put, List.getElem_toArray, List.getElem_cons_succ, List.getElem_cons_zero, List.setIfInBounds_toArray, List.set_cons_zero, List.set_cons_succ])
        generalize v4.alloc (.cells (U .u32 [d.kd, d.a, d.b, d.c]) 26) = v5 at hK5 hBp_5 hBq_5 hcx_5 hlx_5 hz5 hRv ⊢
        clear hK4 hBp_4 hBq_4 hcx_4 hlx_4
        have hBv_5 := Below.refl v5.heap.size v5
        refine Lx.call 16 rfl (by kernel_rfl) (by kernel_rfl) (by kernel_rfl) (fun _ => (words_any [d.kd, d.a, d.b, d.c] (some ⟨v4.heap.size, 0, none⟩) 4 4 16 v5.heap.size v5 (hRv.bel hBv_5) (Nat.le_refl _) rfl (by decide) hd.w4.gt rfl).mono ?_)
        rintro e v6 ⟨A6, c6, rfl, hF6, hb6⟩
        have hK6 := bnx hK5 hb6 hK5.size
        have hBp_6 := bnx hBp_5 hb6 hBp_5.size
        have hBq_6 := bnx hBq_5 hb6 hBq_5.size
        have hBv_6 := bnx hBv_5 hb6 hBv_5.size
        have hcx_6 := hcx_5.below hb6 hlx_5
        have hlx_6 := Nat.lt_of_lt_of_le hlx_5 hb6.size
        have hcr : 16 ≤ c6 := by have := hF6.cap; rw [wordsL_len] at this; exact this
        refine ⟨_, rfl, hcx_6, ?_⟩
        (try simp only [Act.put, List.getElem_toArray, List.getElem_cons_succ, List.getElem_cons_zero, List.setIfInBounds_toArray, List.set_cons_zero, List.set_cons_succ])
        have hRr := hF6.rd
        have hBr_6 := Below.refl v6.heap.size v6
        clear hK5 hBp_5 hBq_5 hBv_5 hcx_5 hlx_5 hb6 hF6
        clear hRv hBv_6
        have hP := parts_of (w := v6) (T := 24) [.slice A3 8 c3, .slice A4 8 c4, .slice A6 16 c6] [wordsL [d.la, 0], putL d.tr 8, wordsL [d.kd, d.a, d.b, d.c]] rfl (fun i hi => match i, hi with | 0, _ => (hRp.bel hBp_6).pt (wordsL_len _) hcp | 1, _ => (hRq.bel hBq_6).pt (putL_len _ _) hcq | 2, _ => (hRr.bel hBr_6).pt (wordsL_len _) hcr | m + 3, h => absurd h (by simp))
        have hz7 : (v6.alloc (.cells #[.slice A3 8 c3, .slice A4 8 c4, .slice A6 16 c6] 24)).heap.size = v6.heap.size + 1 := by simp
        have hK7 := bal hK6 hK6.size (.cells #[.slice A3 8 c3, .slice A4 8 c4, .slice A6 16 c6] 24)
        have hBp_7 := bal hBp_6 hBp_6.size (.cells #[.slice A3 8 c3, .slice A4 8 c4, .slice A6 16 c6] 24)
        have hBq_7 := bal hBq_6 hBq_6.size (.cells #[.slice A3 8 c3, .slice A4 8 c4, .slice A6 16 c6] 24)
        have hBr_7 := bal hBr_6 hBr_6.size (.cells #[.slice A3 8 c3, .slice A4 8 c4, .slice A6 16 c6] 24)
        have hcx_7 := hcx_6.alloc (.cells #[.slice A3 8 c3, .slice A4 8 c4, .slice A6 16 c6] 24)
        have hlx_7 := Nat.lt_of_lt_of_le hlx_6 (al_le v6 (.cells #[.slice A3 8 c3, .slice A4 8 c4, .slice A6 16 c6] 24))
        refine Lx.made (w' := v6.alloc (.cells #[.slice A3 8 c3, .slice A4 8 c4, .slice A6 16 c6] 24)) 17 (.slice (some ⟨v6.heap.size, 0, none⟩) 3 3) rfl (by kernel_rfl) (by kernel_rfl) (by kernel_rfl) (fun _ => hcx_7) ?_
        (try simp only [Act.put, List.getElem_toArray, List.getElem_cons_succ, List.getElem_cons_zero, List.setIfInBounds_toArray, List.set_cons_zero, List.set_cons_succ])
        generalize v6.alloc (.cells #[.slice A3 8 c3, .slice A4 8 c4, .slice A6 16 c6] 24) = v7 at hK7 hBp_7 hBq_7 hBr_7 hcx_7 hlx_7 hz7 hP ⊢
        clear hK6 hBp_6 hBq_6 hBr_6 hcx_6 hlx_6
        clear hRp hBp_7
        clear hRq hBq_7
        clear hRr hBr_7
        have hKz := hK7
        refine Lx.call 18 rfl (by kernel_rfl) (by kernel_rfl) (by kernel_rfl) (fun _ => (cat_any v7 _ 3 (v6.heap.size + 1) 3 [wordsL [d.la, 0], putL d.tr 8, wordsL [d.kd, d.a, d.b, d.c]] (adP d) (by simp [adP]) hP rfl (by omega) (by omega) (by omega) (by rw [adP_len]; omega)).mono ?_)
        rintro e v8 ⟨A8, c8, rfl, hF8, hb8⟩
        have hK8 := bnx hK7 hb8 hK7.size
        have hcx_8 := hcx_7.below hb8 hlx_7
        have hlx_8 := Nat.lt_of_lt_of_le hlx_7 hb8.size
        rw [adP_len]
        have hFz := hF8
        refine ⟨_, rfl, hcx_8, ?_⟩
        (try simp only [Act.put, List.getElem_toArray, List.getElem_cons_succ, List.getElem_cons_zero, List.setIfInBounds_toArray, List.set_cons_zero, List.set_cons_succ])
        clear hK7 hcx_7 hlx_7 hb8 hF8 hP
        (refine Lx.val 19 ?_ rfl (by kernel_rfl) (by kernel_rfl) (by kernel_rfl) (fun _ _ _ h => h) (by kernel_rfl) ?_ ?_; rotate_left 1; focus (intro w hw; go_simp; with_reducible rfl)); (try simp (config := {maxSteps := 2000000}) only [Act.put, List.getElem_toArray, List.getElem_cons_succ, List.getElem_cons_zero, List.setIfInBounds_toArray, List.set_cons_zero, List.set_cons_succ])
        refine Lx.done (by kernel_rfl) ?_
        intro _
        go_wp2_with fail
        go_ret
        exact ⟨_, _, rfl, hFz.low (by have := hKz.size; omega), hK8⟩
      · have hRv := (show Rd (v3.alloc (.cells (U .u32 [d.kd, d.a, d.b, d.c]) 26)) (v3.alloc (.cells (U .u32 [d.kd, d.a, d.b, d.c]) 26)).heap.size .u32 (some ⟨v3.heap.size, 0, none⟩) [d.kd, d.a, d.b, d.c] from Rd.of_arr (Arr.new v3 26 .u32 [d.kd, d.a, d.b, d.c]) (by simp))
        have hz4 : (v3.alloc (.cells (U .u32 [d.kd, d.a, d.b, d.c]) 26)).heap.size = v3.heap.size + 1 := by simp
        have hK4 := bal hK3 hK3.size (.cells (U .u32 [d.kd, d.a, d.b, d.c]) 26)
        have hBp_4 := bal hBp_3 hBp_3.size (.cells (U .u32 [d.kd, d.a, d.b, d.c]) 26)
        have hcx_4 := hcx_3.alloc (.cells (U .u32 [d.kd, d.a, d.b, d.c]) 26)
        have hlx_4 := Nat.lt_of_lt_of_le hlx_3 (al_le v3 (.cells (U .u32 [d.kd, d.a, d.b, d.c]) 26))
        refine LxOp.made (w' := v3.alloc (.cells (U .u32 [d.kd, d.a, d.b, d.c]) 26)) 15 (.slice (some ⟨v3.heap.size, 0, none⟩) 4 4) rfl (by kernel_rfl) (by kernel_rfl) (fun _ => hcx_4) ?_
        (try simp only [Act.put, List.getElem_toArray, List.getElem_cons_succ, List.getElem_cons_zero, List.setIfInBounds_toArray, List.set_cons_zero, List.set_cons_succ])
        generalize v3.alloc (.cells (U .u32 [d.kd, d.a, d.b, d.c]) 26) = v4 at hK4 hBp_4 hcx_4 hlx_4 hz4 hRv ⊢
        clear hK3 hBp_3 hcx_3 hlx_3
        have hBv_4 := Below.refl v4.heap.size v4
        refine Lx.call 6 rfl (by kernel_rfl) (by kernel_rfl) (by kernel_rfl) (fun _ => (put_any d.tr 8 8 v4 rfl (by decide)).mono ?_)
        rintro e v5 ⟨A5, c5, rfl, hO5, hb5⟩
        have hK5 := bnx hK4 hb5 hK4.size
        have hBp_5 := bnx hBp_4 hb5 hBp_4.size
        have hBv_5 := bnx hBv_4 hb5 hBv_4.size
        have hcx_5 := hcx_4.below hb5 hlx_4
        have hlx_5 := Nat.lt_of_lt_of_le hlx_4 hb5.size
        have hcq : 8 ≤ c5 := by have := hO5.len.2; rw [putL_len] at this; exact this
        refine ⟨_, rfl, hcx_5, ?_⟩
        (try simp only [Act.put, List.getElem_toArray, List.getElem_cons_succ, List.getElem_cons_zero, List.setIfInBounds_toArray, List.set_cons_zero, List.set_cons_succ])
        have hRq := hO5.rd
        have hBq_5 := Below.refl v5.heap.size v5
        clear hK4 hBp_4 hBv_4 hcx_4 hlx_4 hb5 hO5
        refine Lx.call 16 rfl (by kernel_rfl) (by kernel_rfl) (by kernel_rfl) (fun _ => (words_any [d.kd, d.a, d.b, d.c] (some ⟨v3.heap.size, 0, none⟩) 4 4 16 v5.heap.size v5 (hRv.bel hBv_5) (Nat.le_refl _) rfl (by decide) hd.w4.gt rfl).mono ?_)
        rintro e v6 ⟨A6, c6, rfl, hF6, hb6⟩
        have hK6 := bnx hK5 hb6 hK5.size
        have hBp_6 := bnx hBp_5 hb6 hBp_5.size
        have hBv_6 := bnx hBv_5 hb6 hBv_5.size
        have hBq_6 := bnx hBq_5 hb6 hBq_5.size
        have hcx_6 := hcx_5.below hb6 hlx_5
        have hlx_6 := Nat.lt_of_lt_of_le hlx_5 hb6.size
        have hcr : 16 ≤ c6 := by have := hF6.cap; rw [wordsL_len] at this; exact this
        refine ⟨_, rfl, hcx_6, ?_⟩
        (try simp only [Act.put, List.getElem_toArray, List.getElem_cons_succ, List.getElem_cons_zero, List.setIfInBounds_toArray, List.set_cons_zero, List.set_cons_succ])
        have hRr := hF6.rd
        have hBr_6 := Below.refl v6.heap.size v6
        clear hK5 hBp_5 hBv_5 hBq_5 hcx_5 hlx_5 hb6 hF6
        clear hRv hBv_6
        have hP := parts_of (w := v6) (T := 24) [.slice A3 8 c3, .slice A5 8 c5, .slice A6 16 c6] [wordsL [d.la, 0], putL d.tr 8, wordsL [d.kd, d.a, d.b, d.c]] rfl (fun i hi => match i, hi with | 0, _ => (hRp.bel hBp_6).pt (wordsL_len _) hcp | 1, _ => (hRq.bel hBq_6).pt (putL_len _ _) hcq | 2, _ => (hRr.bel hBr_6).pt (wordsL_len _) hcr | m + 3, h => absurd h (by simp))
        have hz7 : (v6.alloc (.cells #[.slice A3 8 c3, .slice A5 8 c5, .slice A6 16 c6] 24)).heap.size = v6.heap.size + 1 := by simp
        have hK7 := bal hK6 hK6.size (.cells #[.slice A3 8 c3, .slice A5 8 c5, .slice A6 16 c6] 24)
        have hBp_7 := bal hBp_6 hBp_6.size (.cells #[.slice A3 8 c3, .slice A5 8 c5, .slice A6 16 c6] 24)
        have hBq_7 := bal hBq_6 hBq_6.size (.cells #[.slice A3 8 c3, .slice A5 8 c5, .slice A6 16 c6] 24)
        have hBr_7 := bal hBr_6 hBr_6.size (.cells #[.slice A3 8 c3, .slice A5 8 c5, .slice A6 16 c6] 24)
        have hcx_7 := hcx_6.alloc (.cells #[.slice A3 8 c3, .slice A5 8 c5, .slice A6 16 c6] 24)
        have hlx_7 := Nat.lt_of_lt_of_le hlx_6 (al_le v6 (.cells #[.slice A3 8 c3, .slice A5 8 c5, .slice A6 16 c6] 24))
        refine Lx.made (w' := v6.alloc (.cells #[.slice A3 8 c3, .slice A5 8 c5, .slice A6 16 c6] 24)) 17 (.slice (some ⟨v6.heap.size, 0, none⟩) 3 3) rfl (by kernel_rfl) (by kernel_rfl) (by kernel_rfl) (fun _ => hcx_7) ?_
        (try simp only [Act.put, List.getElem_toArray, List.getElem_cons_succ, List.getElem_cons_zero, List.setIfInBounds_toArray, List.set_cons_zero, List.set_cons_succ])
        generalize v6.alloc (.cells #[.slice A3 8 c3, .slice A5 8 c5, .slice A6 16 c6] 24) = v7 at hK7 hBp_7 hBq_7 hBr_7 hcx_7 hlx_7 hz7 hP ⊢
        clear hK6 hBp_6 hBq_6 hBr_6 hcx_6 hlx_6
        clear hRp hBp_7
        clear hRq hBq_7
        clear hRr hBr_7
        have hKz := hK7
        refine Lx.call 18 rfl (by kernel_rfl) (by kernel_rfl) (by kernel_rfl) (fun _ => (cat_any v7 _ 3 (v6.heap.size + 1) 3 [wordsL [d.la, 0], putL d.tr 8, wordsL [d.kd, d.a, d.b, d.c]] (adP d) (by simp [adP]) hP rfl (by omega) (by omega) (by omega) (by rw [adP_len]; omega)).mono ?_)
        rintro e v8 ⟨A8, c8, rfl, hF8, hb8⟩
        have hK8 := bnx hK7 hb8 hK7.size
        have hcx_8 := hcx_7.below hb8 hlx_7
        have hlx_8 := Nat.lt_of_lt_of_le hlx_7 hb8.size
        rw [adP_len]
        have hFz := hF8
        refine ⟨_, rfl, hcx_8, ?_⟩
        (try simp only [Act.put, List.getElem_toArray, List.getElem_cons_succ, List.getElem_cons_zero, List.setIfInBounds_toArray, List.set_cons_zero, List.set_cons_succ])
        clear hK7 hcx_7 hlx_7 hb8 hF8 hP
        (refine Lx.val 19 ?_ rfl (by kernel_rfl) (by kernel_rfl) (by kernel_rfl) (fun _ _ _ h => h) (by kernel_rfl) ?_ ?_; rotate_left 1; focus (intro w hw; go_simp; with_reducible rfl)); (try simp (config := {maxSteps := 2000000}) only [Act.put, List.getElem_toArray, List.getElem_cons_succ, List.getElem_cons_zero, List.setIfInBounds_toArray, List.set_cons_zero, List.set_cons_succ])
        refine Lx.done (by kernel_rfl) ?_
        intro _
        go_wp2_with fail
        go_ret
        exact ⟨_, _, rfl, hFz.low (by have := hKz.size; omega), hK8⟩
    · have hRv := (show Rd (v2.alloc (.cells (U .u32 [d.kd, d.a, d.b, d.c]) 26)) (v2.alloc (.cells (U .u32 [d.kd, d.a, d.b, d.c]) 26)).heap.size .u32 (some ⟨v2.heap.size, 0, none⟩) [d.kd, d.a, d.b, d.c] from Rd.of_arr (Arr.new v2 26 .u32 [d.kd, d.a, d.b, d.c]) (by simp))
      have hz3 : (v2.alloc (.cells (U .u32 [d.kd, d.a, d.b, d.c]) 26)).heap.size = v2.heap.size + 1 := by simp
      have hK3 := bal hK2 hK2.size (.cells (U .u32 [d.kd, d.a, d.b, d.c]) 26)
      have hBu_3 := bal hBu_2 hBu_2.size (.cells (U .u32 [d.kd, d.a, d.b, d.c]) 26)
      have hcx_3 := hcx_2.alloc (.cells (U .u32 [d.kd, d.a, d.b, d.c]) 26)
      have hlx_3 := Nat.lt_of_lt_of_le hlx_2 (al_le v2 (.cells (U .u32 [d.kd, d.a, d.b, d.c]) 26))
      refine LxOp.made (w' := v2.alloc (.cells (U .u32 [d.kd, d.a, d.b, d.c]) 26)) 15 (.slice (some ⟨v2.heap.size, 0, none⟩) 4 4) rfl (by kernel_rfl) (by kernel_rfl) (fun _ => hcx_3) ?_
      (try simp only [Act.put, List.getElem_toArray, List.getElem_cons_succ, List.getElem_cons_zero, List.setIfInBounds_toArray, List.set_cons_zero, List.set_cons_succ])
      generalize v2.alloc (.cells (U .u32 [d.kd, d.a, d.b, d.c]) 26) = v3 at hK3 hBu_3 hcx_3 hlx_3 hz3 hRv ⊢
      clear hK2 hBu_2 hcx_2 hlx_2
      have hBv_3 := Below.refl v3.heap.size v3
      refine Lx.call 3 rfl (by kernel_rfl) (by kernel_rfl) (by kernel_rfl) (fun _ => (words_any [d.la, 0] (some ⟨v1.heap.size, 0, none⟩) 2 2 8 v3.heap.size v3 (hRu.bel hBu_3) (Nat.le_refl _) rfl (by decide) hd.w2.gt rfl).mono ?_)
      rintro e v4 ⟨A4, c4, rfl, hF4, hb4⟩
      have hK4 := bnx hK3 hb4 hK3.size
      have hBu_4 := bnx hBu_3 hb4 hBu_3.size
      have hBv_4 := bnx hBv_3 hb4 hBv_3.size
      have hcx_4 := hcx_3.below hb4 hlx_3
      have hlx_4 := Nat.lt_of_lt_of_le hlx_3 hb4.size
      have hcp : 8 ≤ c4 := by have := hF4.cap; rw [wordsL_len] at this; exact this
      refine ⟨_, rfl, hcx_4, ?_⟩
      (try simp only [Act.put, List.getElem_toArray, List.getElem_cons_succ, List.getElem_cons_zero, List.setIfInBounds_toArray, List.set_cons_zero, List.set_cons_succ])
      have hRp := hF4.rd
      have hBp_4 := Below.refl v4.heap.size v4
      clear hK3 hBu_3 hBv_3 hcx_3 hlx_3 hb4 hF4
      clear hRu hBu_4
      refine Lx.call 6 rfl (by kernel_rfl) (by kernel_rfl) (by kernel_rfl) (fun _ => (put_any d.tr 8 8 v4 rfl (by decide)).mono ?_)
      rintro e v5 ⟨A5, c5, rfl, hO5, hb5⟩
      have hK5 := bnx hK4 hb5 hK4.size
      have hBv_5 := bnx hBv_4 hb5 hBv_4.size
      have hBp_5 := bnx hBp_4 hb5 hBp_4.size
      have hcx_5 := hcx_4.below hb5 hlx_4
      have hlx_5 := Nat.lt_of_lt_of_le hlx_4 hb5.size
      have hcq : 8 ≤ c5 := by have := hO5.len.2; rw [putL_len] at this; exact this
      refine ⟨_, rfl, hcx_5, ?_⟩
      (try simp only [Act.put, List.getElem_toArray, List.getElem_cons_succ, List.getElem_cons_zero, List.setIfInBounds_toArray, List.set_cons_zero, List.set_cons_succ])
      have hRq := hO5.rd
      have hBq_5 := Below.refl v5.heap.size v5
      clear hK4 hBv_4 hBp_4 hcx_4 hlx_4 hb5 hO5
      refine Lx.call 16 rfl (by kernel_rfl) (by kernel_rfl) (by kernel_rfl) (fun _ => (words_any [d.kd, d.a, d.b, d.c] (some ⟨v2.heap.size, 0, none⟩) 4 4 16 v5.heap.size v5 (hRv.bel hBv_5) (Nat.le_refl _) rfl (by decide) hd.w4.gt rfl).mono ?_)
      rintro e v6 ⟨A6, c6, rfl, hF6, hb6⟩
      have hK6 := bnx hK5 hb6 hK5.size
      have hBv_6 := bnx hBv_5 hb6 hBv_5.size
      have hBp_6 := bnx hBp_5 hb6 hBp_5.size
      have hBq_6 := bnx hBq_5 hb6 hBq_5.size
      have hcx_6 := hcx_5.below hb6 hlx_5
      have hlx_6 := Nat.lt_of_lt_of_le hlx_5 hb6.size
      have hcr : 16 ≤ c6 := by have := hF6.cap; rw [wordsL_len] at this; exact this
      refine ⟨_, rfl, hcx_6, ?_⟩
      (try simp only [Act.put, List.getElem_toArray, List.getElem_cons_succ, List.getElem_cons_zero, List.setIfInBounds_toArray, List.set_cons_zero, List.set_cons_succ])
      have hRr := hF6.rd
      have hBr_6 := Below.refl v6.heap.size v6
      clear hK5 hBv_5 hBp_5 hBq_5 hcx_5 hlx_5 hb6 hF6
      clear hRv hBv_6
      have hP := parts_of (w := v6) (T := 24) [.slice A4 8 c4, .slice A5 8 c5, .slice A6 16 c6] [wordsL [d.la, 0], putL d.tr 8, wordsL [d.kd, d.a, d.b, d.c]] rfl (fun i hi => match i, hi with | 0, _ => (hRp.bel hBp_6).pt (wordsL_len _) hcp | 1, _ => (hRq.bel hBq_6).pt (putL_len _ _) hcq | 2, _ => (hRr.bel hBr_6).pt (wordsL_len _) hcr | m + 3, h => absurd h (by simp))
      have hz7 : (v6.alloc (.cells #[.slice A4 8 c4, .slice A5 8 c5, .slice A6 16 c6] 24)).heap.size = v6.heap.size + 1 := by simp
      have hK7 := bal hK6 hK6.size (.cells #[.slice A4 8 c4, .slice A5 8 c5, .slice A6 16 c6] 24)
      have hBp_7 := bal hBp_6 hBp_6.size (.cells #[.slice A4 8 c4, .slice A5 8 c5, .slice A6 16 c6] 24)
      have hBq_7 := bal hBq_6 hBq_6.size (.cells #[.slice A4 8 c4, .slice A5 8 c5, .slice A6 16 c6] 24)
      have hBr_7 := bal hBr_6 hBr_6.size (.cells #[.slice A4 8 c4, .slice A5 8 c5, .slice A6 16 c6] 24)
      have hcx_7 := hcx_6.alloc (.cells #[.slice A4 8 c4, .slice A5 8 c5, .slice A6 16 c6] 24)
      have hlx_7 := Nat.lt_of_lt_of_le hlx_6 (al_le v6 (.cells #[.slice A4 8 c4, .slice A5 8 c5, .slice A6 16 c6] 24))
      refine Lx.made (w' := v6.alloc (.cells #[.slice A4 8 c4, .slice A5 8 c5, .slice A6 16 c6] 24)) 17 (.slice (some ⟨v6.heap.size, 0, none⟩) 3 3) rfl (by kernel_rfl) (by kernel_rfl) (by kernel_rfl) (fun _ => hcx_7) ?_
      (try simp only [Act.put, List.getElem_toArray, List.getElem_cons_succ, List.getElem_cons_zero, List.setIfInBounds_toArray, List.set_cons_zero, List.set_cons_succ])
      generalize v6.alloc (.cells #[.slice A4 8 c4, .slice A5 8 c5, .slice A6 16 c6] 24) = v7 at hK7 hBp_7 hBq_7 hBr_7 hcx_7 hlx_7 hz7 hP ⊢
      clear hK6 hBp_6 hBq_6 hBr_6 hcx_6 hlx_6
      clear hRp hBp_7
      clear hRq hBq_7
      clear hRr hBr_7
      have hKz := hK7
      refine Lx.call 18 rfl (by kernel_rfl) (by kernel_rfl) (by kernel_rfl) (fun _ => (cat_any v7 _ 3 (v6.heap.size + 1) 3 [wordsL [d.la, 0], putL d.tr 8, wordsL [d.kd, d.a, d.b, d.c]] (adP d) (by simp [adP]) hP rfl (by omega) (by omega) (by omega) (by rw [adP_len]; omega)).mono ?_)
      rintro e v8 ⟨A8, c8, rfl, hF8, hb8⟩
      have hK8 := bnx hK7 hb8 hK7.size
      have hcx_8 := hcx_7.below hb8 hlx_7
      have hlx_8 := Nat.lt_of_lt_of_le hlx_7 hb8.size
      rw [adP_len]
      have hFz := hF8
      refine ⟨_, rfl, hcx_8, ?_⟩
      (try simp only [Act.put, List.getElem_toArray, List.getElem_cons_succ, List.getElem_cons_zero, List.setIfInBounds_toArray, List.set_cons_zero, List.set_cons_succ])
      clear hK7 hcx_7 hlx_7 hb8 hF8 hP
      (refine Lx.val 19 ?_ rfl (by kernel_rfl) (by kernel_rfl) (by kernel_rfl) (fun _ _ _ h => h) (by kernel_rfl) ?_ ?_; rotate_left 1; focus (intro w hw; go_simp; with_reducible rfl)); (try simp (config := {maxSteps := 2000000}) only [Act.put, List.getElem_toArray, List.getElem_cons_succ, List.getElem_cons_zero, List.setIfInBounds_toArray, List.set_cons_zero, List.set_cons_succ])
      refine Lx.done (by kernel_rfl) ?_
      intro _
      go_wp2_with fail
      go_ret
      exact ⟨_, _, rfl, hFz.low (by have := hKz.size; omega), hK8⟩
  · have hRv := (show Rd (v1.alloc (.cells (U .u32 [d.kd, d.a, d.b, d.c]) 26)) (v1.alloc (.cells (U .u32 [d.kd, d.a, d.b, d.c]) 26)).heap.size .u32 (some ⟨v1.heap.size, 0, none⟩) [d.kd, d.a, d.b, d.c] from Rd.of_arr (Arr.new v1 26 .u32 [d.kd, d.a, d.b, d.c]) (by simp))
    have hz2 : (v1.alloc (.cells (U .u32 [d.kd, d.a, d.b, d.c]) 26)).heap.size = v1.heap.size + 1 := by simp
    have hK2 := bal hK1 hK1.size (.cells (U .u32 [d.kd, d.a, d.b, d.c]) 26)
    have hcx_2 := hcx_1.alloc (.cells (U .u32 [d.kd, d.a, d.b, d.c]) 26)
    have hlx_2 := Nat.lt_of_lt_of_le hlx_1 (al_le v1 (.cells (U .u32 [d.kd, d.a, d.b, d.c]) 26))
    refine LxOp.made (w' := v1.alloc (.cells (U .u32 [d.kd, d.a, d.b, d.c]) 26)) 15 (.slice (some ⟨v1.heap.size, 0, none⟩) 4 4) rfl (by kernel_rfl) (by kernel_rfl) (fun _ => hcx_2) ?_
    (try simp only [Act.put, List.getElem_toArray, List.getElem_cons_succ, List.getElem_cons_zero, List.setIfInBounds_toArray, List.set_cons_zero, List.set_cons_succ])
    generalize v1.alloc (.cells (U .u32 [d.kd, d.a, d.b, d.c]) 26) = v2 at hK2 hcx_2 hlx_2 hz2 hRv ⊢
    clear hK1 hcx_1 hlx_1
    have hBv_2 := Below.refl v2.heap.size v2
    have hRu := (show Rd (v2.alloc (.cells (U .u32 [d.la, 0]) 26)) (v2.alloc (.cells (U .u32 [d.la, 0]) 26)).heap.size .u32 (some ⟨v2.heap.size, 0, none⟩) [d.la, 0] from Rd.of_arr (Arr.new v2 26 .u32 [d.la, 0]) (by simp))
    have hz3 : (v2.alloc (.cells (U .u32 [d.la, 0]) 26)).heap.size = v2.heap.size + 1 := by simp
    have hK3 := bal hK2 hK2.size (.cells (U .u32 [d.la, 0]) 26)
    have hBv_3 := bal hBv_2 hBv_2.size (.cells (U .u32 [d.la, 0]) 26)
    have hcx_3 := hcx_2.alloc (.cells (U .u32 [d.la, 0]) 26)
    have hlx_3 := Nat.lt_of_lt_of_le hlx_2 (al_le v2 (.cells (U .u32 [d.la, 0]) 26))
    refine Lx.made (w' := v2.alloc (.cells (U .u32 [d.la, 0]) 26)) 2 (.slice (some ⟨v2.heap.size, 0, none⟩) 2 2) rfl (by kernel_rfl) (by kernel_rfl) (by kernel_rfl) (fun _ => hcx_3) ?_
    (try simp only [Act.put, List.getElem_toArray, List.getElem_cons_succ, List.getElem_cons_zero, List.setIfInBounds_toArray, List.set_cons_zero, List.set_cons_succ])
    generalize v2.alloc (.cells (U .u32 [d.la, 0]) 26) = v3 at hK3 hBv_3 hcx_3 hlx_3 hz3 hRu ⊢
    clear hK2 hBv_2 hcx_2 hlx_2
    have hBu_3 := Below.refl v3.heap.size v3
    refine Lx.call 3 rfl (by kernel_rfl) (by kernel_rfl) (by kernel_rfl) (fun _ => (words_any [d.la, 0] (some ⟨v2.heap.size, 0, none⟩) 2 2 8 v3.heap.size v3 (hRu.bel hBu_3) (Nat.le_refl _) rfl (by decide) hd.w2.gt rfl).mono ?_)
    rintro e v4 ⟨A4, c4, rfl, hF4, hb4⟩
    have hK4 := bnx hK3 hb4 hK3.size
    have hBv_4 := bnx hBv_3 hb4 hBv_3.size
    have hBu_4 := bnx hBu_3 hb4 hBu_3.size
    have hcx_4 := hcx_3.below hb4 hlx_3
    have hlx_4 := Nat.lt_of_lt_of_le hlx_3 hb4.size
    have hcp : 8 ≤ c4 := by have := hF4.cap; rw [wordsL_len] at this; exact this
    refine ⟨_, rfl, hcx_4, ?_⟩
    (try simp only [Act.put, List.getElem_toArray, List.getElem_cons_succ, List.getElem_cons_zero, List.setIfInBounds_toArray, List.set_cons_zero, List.set_cons_succ])
    have hRp := hF4.rd
    have hBp_4 := Below.refl v4.heap.size v4
    clear hK3 hBv_3 hBu_3 hcx_3 hlx_3 hb4 hF4
    clear hRu hBu_4
    refine Lx.call 6 rfl (by kernel_rfl) (by kernel_rfl) (by kernel_rfl) (fun _ => (put_any d.tr 8 8 v4 rfl (by decide)).mono ?_)
    rintro e v5 ⟨A5, c5, rfl, hO5, hb5⟩
    have hK5 := bnx hK4 hb5 hK4.size
    have hBv_5 := bnx hBv_4 hb5 hBv_4.size
    have hBp_5 := bnx hBp_4 hb5 hBp_4.size
    have hcx_5 := hcx_4.below hb5 hlx_4
    have hlx_5 := Nat.lt_of_lt_of_le hlx_4 hb5.size
    have hcq : 8 ≤ c5 := by have := hO5.len.2; rw [putL_len] at this; exact this
    refine ⟨_, rfl, hcx_5, ?_⟩
    (try simp only [Act.put, List.getElem_toArray, List.getElem_cons_succ, List.getElem_cons_zero, List.setIfInBounds_toArray, List.set_cons_zero, List.set_cons_succ])
    have hRq := hO5.rd
    have hBq_5 := Below.refl v5.heap.size v5
    clear hK4 hBv_4 hBp_4 hcx_4 hlx_4 hb5 hO5
    refine Lx.call 16 rfl (by kernel_rfl) (by kernel_rfl) (by kernel_rfl) (fun _ => (words_any [d.kd, d.a, d.b, d.c] (some ⟨v1.heap.size, 0, none⟩) 4 4 16 v5.heap.size v5 (hRv.bel hBv_5) (Nat.le_refl _) rfl (by decide) hd.w4.gt rfl).mono ?_)
    rintro e v6 ⟨A6, c6, rfl, hF6, hb6⟩
    have hK6 := bnx hK5 hb6 hK5.size
    have hBv_6 := bnx hBv_5 hb6 hBv_5.size
    have hBp_6 := bnx hBp_5 hb6 hBp_5.size
    have hBq_6 := bnx hBq_5 hb6 hBq_5.size
    have hcx_6 := hcx_5.below hb6 hlx_5
    have hlx_6 := Nat.lt_of_lt_of_le hlx_5 hb6.size
    have hcr : 16 ≤ c6 := by have := hF6.cap; rw [wordsL_len] at this; exact this
    refine ⟨_, rfl, hcx_6, ?_⟩
    (try simp only [Act.put, List.getElem_toArray, List.getElem_cons_succ, List.getElem_cons_zero, List.setIfInBounds_toArray, List.set_cons_zero, List.set_cons_succ])
    have hRr := hF6.rd
    have hBr_6 := Below.refl v6.heap.size v6
    clear hK5 hBv_5 hBp_5 hBq_5 hcx_5 hlx_5 hb6 hF6
    clear hRv hBv_6
    have hP := parts_of (w := v6) (T := 24) [.slice A4 8 c4, .slice A5 8 c5, .slice A6 16 c6] [wordsL [d.la, 0], putL d.tr 8, wordsL [d.kd, d.a, d.b, d.c]] rfl (fun i hi => match i, hi with | 0, _ => (hRp.bel hBp_6).pt (wordsL_len _) hcp | 1, _ => (hRq.bel hBq_6).pt (putL_len _ _) hcq | 2, _ => (hRr.bel hBr_6).pt (wordsL_len _) hcr | m + 3, h => absurd h (by simp))
    have hz7 : (v6.alloc (.cells #[.slice A4 8 c4, .slice A5 8 c5, .slice A6 16 c6] 24)).heap.size = v6.heap.size + 1 := by simp
    have hK7 := bal hK6 hK6.size (.cells #[.slice A4 8 c4, .slice A5 8 c5, .slice A6 16 c6] 24)
    have hBp_7 := bal hBp_6 hBp_6.size (.cells #[.slice A4 8 c4, .slice A5 8 c5, .slice A6 16 c6] 24)
    have hBq_7 := bal hBq_6 hBq_6.size (.cells #[.slice A4 8 c4, .slice A5 8 c5, .slice A6 16 c6] 24)
    have hBr_7 := bal hBr_6 hBr_6.size (.cells #[.slice A4 8 c4, .slice A5 8 c5, .slice A6 16 c6] 24)
    have hcx_7 := hcx_6.alloc (.cells #[.slice A4 8 c4, .slice A5 8 c5, .slice A6 16 c6] 24)
    have hlx_7 := Nat.lt_of_lt_of_le hlx_6 (al_le v6 (.cells #[.slice A4 8 c4, .slice A5 8 c5, .slice A6 16 c6] 24))
    refine Lx.made (w' := v6.alloc (.cells #[.slice A4 8 c4, .slice A5 8 c5, .slice A6 16 c6] 24)) 17 (.slice (some ⟨v6.heap.size, 0, none⟩) 3 3) rfl (by kernel_rfl) (by kernel_rfl) (by kernel_rfl) (fun _ => hcx_7) ?_
    (try simp only [Act.put, List.getElem_toArray, List.getElem_cons_succ, List.getElem_cons_zero, List.setIfInBounds_toArray, List.set_cons_zero, List.set_cons_succ])
    generalize v6.alloc (.cells #[.slice A4 8 c4, .slice A5 8 c5, .slice A6 16 c6] 24) = v7 at hK7 hBp_7 hBq_7 hBr_7 hcx_7 hlx_7 hz7 hP ⊢
    clear hK6 hBp_6 hBq_6 hBr_6 hcx_6 hlx_6
    clear hRp hBp_7
    clear hRq hBq_7
    clear hRr hBr_7
    have hKz := hK7
    refine Lx.call 18 rfl (by kernel_rfl) (by kernel_rfl) (by kernel_rfl) (fun _ => (cat_any v7 _ 3 (v6.heap.size + 1) 3 [wordsL [d.la, 0], putL d.tr 8, wordsL [d.kd, d.a, d.b, d.c]] (adP d) (by simp [adP]) hP rfl (by omega) (by omega) (by omega) (by rw [adP_len]; omega)).mono ?_)
    rintro e v8 ⟨A8, c8, rfl, hF8, hb8⟩
    have hK8 := bnx hK7 hb8 hK7.size
    have hcx_8 := hcx_7.below hb8 hlx_7
    have hlx_8 := Nat.lt_of_lt_of_le hlx_7 hb8.size
    rw [adP_len]
    have hFz := hF8
    refine ⟨_, rfl, hcx_8, ?_⟩
    (try simp only [Act.put, List.getElem_toArray, List.getElem_cons_succ, List.getElem_cons_zero, List.setIfInBounds_toArray, List.set_cons_zero, List.set_cons_succ])
    clear hK7 hcx_7 hlx_7 hb8 hF8 hP
    (refine Lx.val 19 ?_ rfl (by kernel_rfl) (by kernel_rfl) (by kernel_rfl) (fun _ _ _ h => h) (by kernel_rfl) ?_ ?_; rotate_left 1; focus (intro w hw; go_simp; with_reducible rfl)); (try simp (config := {maxSteps := 2000000}) only [Act.put, List.getElem_toArray, List.getElem_cons_succ, List.getElem_cons_zero, List.setIfInBounds_toArray, List.set_cons_zero, List.set_cons_succ])
    refine Lx.done (by kernel_rfl) ?_
    intro _
    go_wp2_with fail
    go_ret
    exact ⟨_, _, rfl, hFz.low (by have := hKz.size; omega), hK8⟩
end Go.Proofs.YtfaonieaagepjaaDoor
